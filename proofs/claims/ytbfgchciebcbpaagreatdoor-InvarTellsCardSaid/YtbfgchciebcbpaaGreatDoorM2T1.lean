/- What functions of the program do, as functions over plain data, and the walks that show it: printed by a program. -/
import Derived.Test.YtbfgchciebcbpaaGreatDoorM2V3
import Derived.Test.YtbfgchciebcbpaaGreatDoorProg
set_option linter.unusedVariables false
set_option linter.unusedSimpArgs false
set_option linter.unusedSectionVars false
set_option linter.deprecated false
set_option maxRecDepth 100000
set_option maxHeartbeats 4000000
noncomputable section
namespace Go.Proofs
open Go Go.RowKit Go.Vm Go.Proofs.Tryz
structure QM where
 Name:ByteArray
 Kind:Int
 Lo:Int
 Hi:Int
 Names:(List ByteArray)
 First:Int
 Then:Int
structure QG where
 Name:ByteArray
 Colour:Int
 First:(List (Int×Int))
structure Qae where
 Name:ByteArray
 Colour:Int
structure Qk where
 Kind:Int
 Num:Int
 Kids:(List Qk)
structure QT where
 Place:Int
 Expr:Qk
structure Qv where
 Name:ByteArray
 Vars:(List Qae)
 Guard:Qk
 Join:Int
 Split:Int
 Ins:(List QT)
 Outs:(List QT)
 Cancel:(List Int)
 After:Int
 Many:(Int×Int×Int)
structure Qm where
 Colours:(List QM)
 Places:(List QG)
 Tasks:(List Qv)
 From:Int
 To:Int
structure Qfk where
 a:Int
 b:Int
structure QeD where
 Kind:Int
 At:Int
structure Qdl where
 all:(List QM)
 sizes:(List Int)
 k:Int
def QcY (x:ByteArray):List V:=[.s x]
def Qb (x:Int):List V:=[.i .i64 x]
theorem Qwv (l:List Int):∀r∈l.map Qb,∀v∈r,v.sca=true:=QxI (fun _=>rfl) l
def Qya (x:(List ByteArray)):List V:=[.sl 1 (x.map QcY)]
def Qy (x:QM):List V:=[.s x.Name,.i .i64 x.Kind,.i .i64 x.Lo,.i .i64 x.Hi,.sl 1 (x.Names.map QcY),.i .i64 x.First,.i .i64 x.Then]
def QuW (x:(List QM)):List V:=[.sl 7 (x.map Qy)]
def QL (x:(Int×Int)):List V:=[.i .i64 x.1,.i .i64 x.2]
def QbE (x:(List (Int×Int))):List V:=[.sl 2 (x.map QL)]
def Qu (x:QG):List V:=[.s x.Name,.i .i64 x.Colour,.sl 2 (x.First.map QL)]
def Qvi (x:(List QG)):List V:=[.sl 3 (x.map Qu)]
def QB (x:Qae):List V:=[.s x.Name,.i .i64 x.Colour]
def Qbv (x:(List Qae)):List V:=[.sl 2 (x.map QB)]
mutual
def Qpe : Qk→List V
 | ⟨x0,x1,x2⟩=>[.i .i64 x0,.i .i64 x1,.sl 3 (QaW x2)]
def QaW : List Qk→List (List V)
 | []=>[]
 | e::es=>Qpe e::QaW es
end
def Qr (x:Qk):List V:=[.i .i64 x.Kind,.i .i64 x.Num,.sl 3 (QaW x.Kids)]
theorem Qt7 : ∀x:Qk,Qpe x=Qr x
 | ⟨x0,x1,x2⟩=>by rw [Qpe];rfl
theorem Qik : ∀l:List Qk,QaW l=l.map Qr
 | []=>by rw [QaW];rfl
 | e::es=>by rw [QaW,Qik es,Qt7];rfl
theorem Qil (l:List Qk):(QaW l).length=l.length:=by rw [Qik,Qka]
theorem Qmn {l:List Qk}{j:Int}{x:Qk}(h:idx l j=some x):0≤j∧(QaW l)[j.toNat]? = some (Qr x):=by rw [Qik];exact QA h
def QU (x:QT):List V:=[.i .i64 x.Place,.i .i64 x.Expr.Kind,.i .i64 x.Expr.Num,.sl 3 (QaW x.Expr.Kids)]
def Qww (x:(List QT)):List V:=[.sl 4 (x.map QU)]
def Qf (x:(List Int)):List V:=[.sl 1 (x.map Qb)]
def Qtr (x:(Int×Int×Int)):List V:=[.i .i64 x.1,.i .i64 x.2.1,.i .i64 x.2.2]
def Qh (x:Qv):List V:=[.s x.Name,.sl 2 (x.Vars.map QB),.i .i64 x.Guard.Kind,.i .i64 x.Guard.Num,.sl 3 (QaW x.Guard.Kids),.i .i64 x.Join,.i .i64 x.Split,.sl 4 (x.Ins.map QU),.sl 4 (x.Outs.map QU),.sl 1 (x.Cancel.map Qb),.i .i64 x.After,.i .i64 x.Many.1,.i .i64 x.Many.2.1,.i .i64 x.Many.2.2]
def QvX (x:(List Qv)):List V:=[.sl 14 (x.map Qh)]
def Qe (x:Qm):List V:=[.sl 7 (x.Colours.map Qy),.sl 3 (x.Places.map Qu),.sl 14 (x.Tasks.map Qh),.i .i64 x.From,.i .i64 x.To]
def Qhb (x:Qfk):List V:=[.i .i64 x.a,.i .i64 x.b]
def Qce (x:QeD):List V:=[.i .i64 x.Kind,.i .i64 x.At]
def QcB (x:Qdl):List V:=[.sl 7 (x.all.map Qy),.sl 1 (x.sizes.map Qb),.i .i64 x.k]
def Qbu (fn:Nat):Qig:=Qzc Tryz.f34 0 fn
def Qxh : Go.Shelf.Ren:=⟨fun | 20=>44 | n=>n,fun | 0=>0 | 3=>3 | 4=>4 | 22=>27 | n=>n,fun n=>n⟩
theorem Qwx : Lays2.n20 Tryz.prog Qxh where
 mixed:=by kernel_rfl
 f20:=Tryz.func44.trans (congrArg some (by kernel_rfl))
 t0:=Tryz.underlying0
 a0:=Tryz.isAgg0
 z0:=Tryz.sizeOf0
 v0:=Tryz.zeroValue0
 t3:=Tryz.underlying3
 a3:=Tryz.isAgg3
 z3:=Tryz.sizeOf3
 v3:=Tryz.zeroValue3
 t4:=Tryz.underlying4
 a4:=Tryz.isAgg4
 z4:=Tryz.sizeOf4
 v4:=Tryz.zeroValue4
 t22:=Tryz.underlying27
 a22:=Tryz.isAgg27
 z22:=Tryz.sizeOf27
 v22:=Tryz.zeroValue27
 i3:=by kernel_rfl
theorem QyH (a0 a1 a2 b0 b1 b2:Int):EqT Tryz.prog 73 [.int .i64 a0,.int .i64 a1,.int .i64 a2] [.int .i64 b0,.int .i64 b1,.int .i64 b2] ((a0==b0)&&((a1==b1)&&(a2==b2))):=by
 refine⟨by kernel_rfl,fun w=>?_⟩
 have u3:=Tryz.underlying3
 have g3:=Tryz.isAgg3
 have z3:=Tryz.sizeOf3
 show(Op.equalIn (9999+1) 73 (.agg #[.int .i64 a0,.int .i64 a1,.int .i64 a2]) (.agg #[.int .i64 b0,.int .i64 b1,.int .i64 b2])).run Tryz.prog w=_
 rw [Op.equalIn]
 simp only [Sem.run_bind,run_underlying Tryz.underlying73,Result.andThen_ok]
 simp only [Std.Legacy.Range.forIn_eq_forIn_range',Std.Legacy.Range.size,Nat.sub_zero,Nat.add_sub_cancel,Nat.div_one,List.range'_succ,List.range'_zero,List.forIn_cons,List.forIn_nil]
 go_simp
 by_cases h0:a0=b0<;>by_cases h1:a1=b1<;>by_cases h2:a2=b2<;>simp [h0,h1,h2]
def Qxi : Go.Shelf.Ren:=⟨fun | 157=>242 | 199=>249 | 229=>248 | 261=>255 | 311=>257 | 312=>258 | n=>n,fun | 0=>0 | 3=>3 | 4=>4 | 5=>5 | 9=>9 | 21=>21 | 31=>100 | 40=>263 | 46=>128 | 49=>274 | 51=>176 | 119=>261 | 141=>268 | 152=>264 | 154=>266 | 193=>270 | 194=>271 | 196=>273 | 198=>276 | 201=>279 | 226=>281 | 227=>282 | n=>n,fun | 0=>0 | 6=>1 | n=>n⟩
theorem Qwy : Lays.n157 Tryz.prog Qxi where
 mixed:=by kernel_rfl
 f157:=Tryz.func242.trans (congrArg some (by kernel_rfl))
 f199:=Tryz.func249.trans (congrArg some (by kernel_rfl))
 f229:=Tryz.func248.trans (congrArg some (by kernel_rfl))
 f261:=Tryz.func255.trans (congrArg some (by kernel_rfl))
 f311:=Tryz.func257.trans (congrArg some (by kernel_rfl))
 f312:=Tryz.func258.trans (congrArg some (by kernel_rfl))
 t0:=Tryz.underlying0
 a0:=Tryz.isAgg0
 z0:=Tryz.sizeOf0
 v0:=Tryz.zeroValue0
 t3:=Tryz.underlying3
 a3:=Tryz.isAgg3
 z3:=Tryz.sizeOf3
 v3:=Tryz.zeroValue3
 t4:=Tryz.underlying4
 a4:=Tryz.isAgg4
 z4:=Tryz.sizeOf4
 v4:=Tryz.zeroValue4
 t5:=Tryz.underlying5
 a5:=Tryz.isAgg5
 z5:=Tryz.sizeOf5
 v5:=Tryz.zeroValue5
 t9:=Tryz.underlying9
 a9:=Tryz.isAgg9
 z9:=Tryz.sizeOf9
 v9:=Tryz.zeroValue9
 t21:=Tryz.underlying21
 a21:=Tryz.isAgg21
 z21:=Tryz.sizeOf21
 v21:=Tryz.zeroValue21
 t31:=Tryz.underlying100
 a31:=Tryz.isAgg100
 z31:=Tryz.sizeOf100
 v31:=Tryz.zeroValue100
 t40:=Tryz.underlying263
 a40:=Tryz.isAgg263
 z40:=Tryz.sizeOf263
 v40:=Tryz.zeroValue263
 t46:=Tryz.underlying128
 a46:=Tryz.isAgg128
 z46:=Tryz.sizeOf128
 v46:=Tryz.zeroValue128
 t49:=Tryz.underlying274
 a49:=Tryz.isAgg274
 z49:=Tryz.sizeOf274
 v49:=Tryz.zeroValue274
 t51:=Tryz.underlying176
 a51:=Tryz.isAgg176
 z51:=Tryz.sizeOf176
 v51:=Tryz.zeroValue176
 t119:=Tryz.underlying261
 a119:=Tryz.isAgg261
 z119:=Tryz.sizeOf261
 t141:=Tryz.underlying268
 a141:=Tryz.isAgg268
 z141:=Tryz.sizeOf268
 v141:=Tryz.zeroValue268
 t152:=Tryz.underlying264
 a152:=Tryz.isAgg264
 z152:=Tryz.sizeOf264
 v152:=Tryz.zeroValue264
 t154:=Tryz.underlying266
 a154:=Tryz.isAgg266
 z154:=Tryz.sizeOf266
 v154:=Tryz.zeroValue266
 t193:=Tryz.underlying270
 a193:=Tryz.isAgg270
 z193:=Tryz.sizeOf270
 v193:=Tryz.zeroValue270
 t194:=Tryz.underlying271
 a194:=Tryz.isAgg271
 z194:=Tryz.sizeOf271
 v194:=Tryz.zeroValue271
 t196:=Tryz.underlying273
 a196:=Tryz.isAgg273
 z196:=Tryz.sizeOf273
 v196:=Tryz.zeroValue273
 t198:=Tryz.underlying276
 a198:=Tryz.isAgg276
 z198:=Tryz.sizeOf276
 v198:=Tryz.zeroValue276
 t201:=Tryz.underlying279
 a201:=Tryz.isAgg279
 z201:=Tryz.sizeOf279
 v201:=Tryz.zeroValue279
 t226:=Tryz.underlying281
 a226:=Tryz.isAgg281
 z226:=Tryz.sizeOf281
 v226:=Tryz.zeroValue281
 t227:=Tryz.underlying282
 a227:=Tryz.isAgg282
 z227:=Tryz.sizeOf282
 v227:=Tryz.zeroValue282
 g0:=by kernel_rfl
 g6:=by kernel_rfl
theorem Qqd : Qtp Tryz.prog 178 .u64=true:=by kernel_rfl
theorem QuX : Qtp Tryz.prog 3 .i64=true:=by kernel_rfl
theorem Qkj : Qd3 Tryz.prog 3 (V.i .i64) (Value.int .i64):=Qd3.int (by kernel_rfl)
theorem QvY : Qd3 Tryz.prog 9 V.s Value.string:=Qd3.str (by kernel_rfl)
theorem mixed : Tryz.prog.follows .mixedOrders=true:=by kernel_rfl
theorem QsM : QkG Tryz.prog 241=some (9,4):=by kernel_rfl
theorem Qjr : QkG Tryz.prog 88=some (3,27):=by kernel_rfl
theorem QvZ : QkG Tryz.prog 97=some (3,3):=by kernel_rfl
def Qxj : Go.Shelf.Ren:=⟨fun | 125=>82 | 128=>158 | 129=>159 | 189=>43 | 215=>212 | 216=>155 | 257=>81 | 294=>149 | 295=>150 | 296=>151 | 297=>152 | 298=>153 | 299=>154 | 300=>156 | 301=>157 | 328=>207 | 329=>208 | 330=>209 | 331=>210 | 332=>211 | 343=>233 | n=>n,fun | 0=>0 | 3=>3 | 4=>4 | 5=>5 | 9=>9 | 28=>27 | 46=>128 | 51=>176 | 53=>178 | 131=>165 | 182=>168 | 183=>169 | 218=>224 | 222=>228 | 228=>246 | 229=>247 | n=>n,fun n=>n⟩
theorem Qwz : Lays.n189 Tryz.prog Qxj where
 mixed:=by kernel_rfl
 f125:=Tryz.func82.trans (congrArg some (by kernel_rfl))
 f128:=Tryz.func158.trans (congrArg some (by kernel_rfl))
 f129:=Tryz.func159.trans (congrArg some (by kernel_rfl))
 f189:=Tryz.func43.trans (congrArg some (by kernel_rfl))
 f215:=Tryz.func212.trans (congrArg some (by kernel_rfl))
 f216:=Tryz.func155.trans (congrArg some (by kernel_rfl))
 f257:=Tryz.func81.trans (congrArg some (by kernel_rfl))
 f294:=Tryz.func149.trans (congrArg some (by kernel_rfl))
 f295:=Tryz.func150.trans (congrArg some (by kernel_rfl))
 f296:=Tryz.func151.trans (congrArg some (by kernel_rfl))
 f297:=Tryz.func152.trans (congrArg some (by kernel_rfl))
 f298:=Tryz.func153.trans (congrArg some (by kernel_rfl))
 f299:=Tryz.func154.trans (congrArg some (by kernel_rfl))
 f300:=Tryz.func156.trans (congrArg some (by kernel_rfl))
 f301:=Tryz.func157.trans (congrArg some (by kernel_rfl))
 f328:=Tryz.func207.trans (congrArg some (by kernel_rfl))
 f329:=Tryz.func208.trans (congrArg some (by kernel_rfl))
 f330:=Tryz.func209.trans (congrArg some (by kernel_rfl))
 f331:=Tryz.func210.trans (congrArg some (by kernel_rfl))
 f332:=Tryz.func211.trans (congrArg some (by kernel_rfl))
 f343:=Tryz.func233.trans (congrArg some (by kernel_rfl))
 t0:=Tryz.underlying0
 a0:=Tryz.isAgg0
 z0:=Tryz.sizeOf0
 v0:=Tryz.zeroValue0
 t3:=Tryz.underlying3
 a3:=Tryz.isAgg3
 z3:=Tryz.sizeOf3
 v3:=Tryz.zeroValue3
 t4:=Tryz.underlying4
 a4:=Tryz.isAgg4
 z4:=Tryz.sizeOf4
 v4:=Tryz.zeroValue4
 t5:=Tryz.underlying5
 a5:=Tryz.isAgg5
 z5:=Tryz.sizeOf5
 v5:=Tryz.zeroValue5
 t9:=Tryz.underlying9
 a9:=Tryz.isAgg9
 z9:=Tryz.sizeOf9
 v9:=Tryz.zeroValue9
 t28:=Tryz.underlying27
 a28:=Tryz.isAgg27
 z28:=Tryz.sizeOf27
 v28:=Tryz.zeroValue27
 t46:=Tryz.underlying128
 a46:=Tryz.isAgg128
 z46:=Tryz.sizeOf128
 v46:=Tryz.zeroValue128
 t51:=Tryz.underlying176
 a51:=Tryz.isAgg176
 z51:=Tryz.sizeOf176
 v51:=Tryz.zeroValue176
 t53:=Tryz.underlying178
 a53:=Tryz.isAgg178
 z53:=Tryz.sizeOf178
 v53:=Tryz.zeroValue178
 t131:=Tryz.underlying165
 a131:=Tryz.isAgg165
 z131:=Tryz.sizeOf165
 v131:=Tryz.zeroValue165
 t182:=Tryz.underlying168
 a182:=Tryz.isAgg168
 z182:=Tryz.sizeOf168
 v182:=Tryz.zeroValue168
 t183:=Tryz.underlying169
 a183:=Tryz.isAgg169
 z183:=Tryz.sizeOf169
 v183:=Tryz.zeroValue169
 t218:=Tryz.underlying224
 a218:=Tryz.isAgg224
 z218:=Tryz.sizeOf224
 v218:=Tryz.zeroValue224
 t222:=Tryz.underlying228
 a222:=Tryz.isAgg228
 z222:=Tryz.sizeOf228
 v222:=Tryz.zeroValue228
 t228:=Tryz.underlying246
 a228:=Tryz.isAgg246
 z228:=Tryz.sizeOf246
 v228:=Tryz.zeroValue246
 t229:=Tryz.underlying247
 a229:=Tryz.isAgg247
 z229:=Tryz.sizeOf247
 v229:=Tryz.zeroValue247
theorem Qv0 : Tryz.prog.underlying 27=some (.slice 3):=by kernel_rfl
theorem QyI : Qkg Tryz.prog 27 ((fun x=>V.sl 1 (x.map Qb)) ([]:(List Int))):=Qkg.sl (by kernel_rfl)
theorem Qyb : Qkg Tryz.prog 4 (V.b false):=Qkg.one (v:=.bool false) (by kernel_rfl)
theorem Qyc : Qai Tryz.prog 3=some [.i .i64 0]:=by kernel_rfl
theorem Qzd : Qai Tryz.prog 9=some [.s (⟨#[]⟩:ByteArray)]:=by kernel_rfl
theorem QyJ : Qai Tryz.prog 26=some [.lit (.slice none 0 0),.lit (.slice none 0 0),.lit (.slice none 0 0),.i .i64 0,.i .i64 0]:=by kernel_rfl
theorem QyK : Qai Tryz.prog 27=some [.lit (.slice none 0 0)]:=by kernel_rfl
theorem QyL : Qai Tryz.prog 33=some [.i .i64 0]:=by kernel_rfl
theorem QyM : Qai Tryz.prog 59=some [.lit (.slice none 0 0)]:=by kernel_rfl
theorem QyN : Qai Tryz.prog 61=some [.i .i64 0,.i .i64 0]:=by kernel_rfl
theorem QyO : Qai Tryz.prog 63=some [.i .i64 0,.i .i64 0]:=by kernel_rfl
theorem QyP : Qai Tryz.prog 71=some [.i .i64 0,.i .i64 0,.lit (.slice none 0 0)]:=by kernel_rfl
theorem QyQ : Qai Tryz.prog 73=some [.i .i64 0,.i .i64 0,.i .i64 0]:=by kernel_rfl
theorem QyR : Qai Tryz.prog 75=some [.s (⟨#[]⟩:ByteArray),.lit (.slice none 0 0),.i .i64 0,.i .i64 0,.lit (.slice none 0 0),.i .i64 0,.i .i64 0,.lit (.slice none 0 0),.lit (.slice none 0 0),.lit (.slice none 0 0),.i .i64 0,.i .i64 0,.i .i64 0,.i .i64 0]:=by kernel_rfl
theorem QyS : Qai Tryz.prog 79=some [.i .i64 0,.i .i64 0,.i .i64 0,.lit (.slice none 0 0)]:=by kernel_rfl
theorem QyT : Qai Tryz.prog 90=some [.i .i64 0,.lit (.map none)]:=by kernel_rfl
theorem Qyd : Qai Tryz.prog 102=some [.s (⟨#[]⟩:ByteArray),.i .i64 0,.i .i64 0,.i .i64 0,.lit (.slice none 0 0),.i .i64 0,.i .i64 0]:=by kernel_rfl
theorem Qye : Qai Tryz.prog 104=some [.s (⟨#[]⟩:ByteArray),.i .i64 0,.lit (.slice none 0 0)]:=by kernel_rfl
theorem Qyf : Qai Tryz.prog 106=some [.s (⟨#[]⟩:ByteArray),.i .i64 0]:=by kernel_rfl
theorem Qlh : Qai Tryz.prog 110=some [.lit (.nilFunc),.i .i64 0]:=by kernel_rfl
theorem Qyg : Qai Tryz.prog 122=some [.i .i64 0,.i .i64 0]:=by kernel_rfl
theorem Qyh : Qai Tryz.prog 146=some [.lit (.nilFunc)]:=by kernel_rfl
theorem Qyi : Qai Tryz.prog 151=some [.lit (.nilFunc)]:=by kernel_rfl
theorem Qyj : Qai Tryz.prog 182=some [.lit (.slice none 0 0),.lit (.slice none 0 0),.i .i64 0]:=by kernel_rfl
theorem Qyk : Qai Tryz.prog 211=some [.lit (.nilFunc)]:=by kernel_rfl
def tab : Tab:={ ag:=[(3,false),(9,false),(22,false),(23,false),(24,false),(26,true),(27,false),(30,false),(33,false),(59,false),(61,true),(63,true),(68,false),(69,false),(71,true),(72,false),(73,true),(75,true),(79,true),(88,false),(90,true),(100,false),(102,true),(104,true),(106,true),(110,true),(146,false),(151,false),(154,false),(156,false),(182,true),(211,false)],sz:=[(3,1),(26,5),(33,1),(61,2),(63,2),(71,3),(73,3),(75,14),(79,4),(90,2),(102,7),(104,3),(106,2),(110,2),(122,2),(146,1),(151,1),(182,3),(211,1)],fo:=[(26,[0,1,2,3,4]),(71,[0,1,2]),(75,[0,1,2,5,6,7,8,9,10,11]),(79,[0,1]),(90,[0,1]),(102,[0,1,2,3,4,5,6]),(104,[0,1,2]),(106,[0,1]),(110,[0,1]),(122,[0,1]),(182,[0,1,2])],sp:=[(26,[(0,1),(1,1),(2,1),(3,1),(4,1)]),(63,[(0,1),(1,1)]),(71,[(0,1),(1,1),(2,1)]),(75,[(0,1),(1,1),(2,3),(5,1),(6,1),(7,1),(8,1),(9,1),(10,1),(11,3)]),(79,[(0,1),(1,3)]),(90,[(0,1),(1,1)]),(102,[(0,1),(1,1),(2,1),(3,1),(4,1),(5,1),(6,1)]),(104,[(0,1),(1,1),(2,1)]),(110,[(0,1),(1,1)]),(122,[(0,1),(1,1)]),(182,[(0,1),(1,1),(2,1)])],es:=[(22,(102,7,80)),(23,(104,3,48)),(24,(75,14,200)),(27,(3,1,8)),(28,(59,1,24)),(29,(59,1,24)),(36,(27,1,24)),(59,(61,2,16)),(68,(106,2,24)),(69,(71,3,40)),(72,(79,4,48)),(100,(9,1,16)),(140,(110,2,16))],ar:=[(61,(2,1)),(73,(3,1))],zv:=[(3,[.i .i64 0]),(9,[.s (⟨#[]⟩:ByteArray)]),(26,[.lit (.slice none 0 0),.lit (.slice none 0 0),.lit (.slice none 0 0),.i .i64 0,.i .i64 0]),(27,[.lit (.slice none 0 0)]),(33,[.i .i64 0]),(59,[.lit (.slice none 0 0)]),(61,[.i .i64 0,.i .i64 0]),(63,[.i .i64 0,.i .i64 0]),(71,[.i .i64 0,.i .i64 0,.lit (.slice none 0 0)]),(73,[.i .i64 0,.i .i64 0,.i .i64 0]),(75,[.s (⟨#[]⟩:ByteArray),.lit (.slice none 0 0),.i .i64 0,.i .i64 0,.lit (.slice none 0 0),.i .i64 0,.i .i64 0,.lit (.slice none 0 0),.lit (.slice none 0 0),.lit (.slice none 0 0),.i .i64 0,.i .i64 0,.i .i64 0,.i .i64 0]),(79,[.i .i64 0,.i .i64 0,.i .i64 0,.lit (.slice none 0 0)]),(90,[.i .i64 0,.lit (.map none)]),(102,[.s (⟨#[]⟩:ByteArray),.i .i64 0,.i .i64 0,.i .i64 0,.lit (.slice none 0 0),.i .i64 0,.i .i64 0]),(104,[.s (⟨#[]⟩:ByteArray),.i .i64 0,.lit (.slice none 0 0)]),(106,[.s (⟨#[]⟩:ByteArray),.i .i64 0]),(110,[.lit (.nilFunc),.i .i64 0]),(122,[.i .i64 0,.i .i64 0]),(146,[.lit (.nilFunc)]),(151,[.lit (.nilFunc)]),(182,[.lit (.slice none 0 0),.lit (.slice none 0 0),.i .i64 0]),(211,[.lit (.nilFunc)])],sb:=[9],bo:=[4],cc:=[9],en:=[9,10,11,12,13,14,15,16,17,18,19,20,21,22,23,24,30,31,32,33,34,35,36,37,38,39,40,41,42,43,44,45,46,47,48,49,50,51,52,53,57,62,63,64,65,66,67,68,69,70,71,72,73,74,75,76,77,78,79,80,83,84,85,86,87,88,89,90,91,92,102,103,104,105,106,107,108,109,110,111,112,113,114,115,116,117,118,119,120,121,122,123,124,125,126,127,128,129,130,131,132,133,134,135,136,137,138,139,140,141,142,143,144,145,146,147,148,160,161,162,177,178,179,180,181,182,183,184,185,186,187,188,189,190,191,192,193,194,195,196,197,198,199,200,201,202,203,204,205,206,223,224,225,226,227,228,229,230,231,232,241,242,243,244,245] }
theorem Qp : Qco Tryz.prog tab:=Tab.ok (by kernel_rfl) (QcW.2 ⟨Qyc,QcW.2 ⟨Qzd,QcW.2 ⟨QyJ,QcW.2 ⟨QyK,QcW.2 ⟨QyL,QcW.2 ⟨QyM,QcW.2 ⟨QyN,QcW.2 ⟨QyO,QcW.2 ⟨QyP,QcW.2 ⟨QyQ,QcW.2 ⟨QyR,QcW.2 ⟨QyS,QcW.2 ⟨QyT,QcW.2 ⟨Qyd,QcW.2 ⟨Qye,QcW.2 ⟨Qyf,QcW.2 ⟨Qlh,QcW.2 ⟨Qyg,QcW.2 ⟨Qyh,QcW.2 ⟨Qyi,QcW.2 ⟨Qyj,QcW.2 ⟨Qyk,fun _ h=>(by cases h)⟩⟩⟩⟩⟩⟩⟩⟩⟩⟩⟩⟩⟩⟩⟩⟩⟩⟩⟩⟩⟩⟩)
theorem Qa {C:Ctx}{Q:Exit→St→Prop}{n:Nat}{pt pt1:Pt}{ks ks1:List Fr}{σ σ1:St}{φ:Prop}(hC:Qd2 Tryz.prog C n)(ds:List Dir)(e:Vm.go Tryz.prog C tab n ds pt ks σ True=some ⟨pt1,ks1,σ1,φ⟩)(hφ:φ)(h:AK Tryz.prog C Q pt1 ks1 σ1):AK Tryz.prog C Q pt ks σ:=AK.go Qp hC ds e hφ h
abbrev QBg := List (Int×Int)
abbrev QMk := List QBg
abbrev QLL := List (List Int)
abbrev QSB := List (ByteArray×Bool)
theorem tt_ : True:=trivial
theorem an_ {a b:Prop}(x:a)(y:b):a∧b:=⟨x,y⟩
theorem ex_ {α:Sort _}{p:α→Prop}(w:α)(h:p w):∃x,p x:=⟨w,h⟩
end Go.Proofs
namespace Go.Vm
open Go Go.RowKit
noncomputable abbrev Dir.K (a b:List Nat):Dir:=.keep a b
noncomputable abbrev Dir.S (a:Nat)(b:V):Dir:=.say a b
noncomputable abbrev Dir.O (a:Nat)(b:Ob):Dir:=.sayO a b
noncomputable abbrev Dir.T:Dir:=.br true
noncomputable abbrev Dir.F:Dir:=.br false
noncomputable abbrev Dw.N:Dw:=.a .no none false
noncomputable abbrev V.I (n:Int):V:=.i .i64 n
end Go.Vm
namespace Go.Proofs
open Go Go.RowKit Go.Vm Go.Proofs.Tryz
theorem bg_ {α:Type}{c:Bool}{x y:Option α}{r:α}{G:Prop}(h:(bif c then x else y)=some r)(f:c=true→x=some r→G)(g:c=false→y=some r→G):G:=by
 cases c
 ·exact g rfl h
 exact f rfl h
theorem cb_ {a b:Bool}(h:a=b):V.b a=V.b b:=congrArg V.b h
theorem tc_ {a b:Bool}(h:a=b):True∧V.b a=V.b b:=⟨trivial,congrArg V.b h⟩
def Qyl : Exit→Bool
 | .normal=>true
 | .ret=>true
 | _=>false
theorem d1_ {C:Ctx}{t:Nat}{r:V}{outs:List (Nat×Ob)}{σ:St}{e:Exit}(he:Qyl e=true)(h:Go.Vm.look σ.fr t=some r)(hs:QfA σ.hp outs):AK Tryz.prog C (Quv Tryz.prog [.tmp t] (Qj r outs)) (.x e) [] σ:=by
 cases e<;>first | exact AK.done ⟨[r],⟨h,trivial⟩,QbL hs⟩|cases he
theorem d2_ {C:Ctx}{t u:Nat}{r s:V}{outs:List (Nat×Ob)}{σ:St}{e:Exit}(he:Qyl e=true)(h:Go.Vm.look σ.fr t=some r)(k:Go.Vm.look σ.fr u=some s)(hs:QfA σ.hp outs):AK Tryz.prog C (Quv Tryz.prog [.tmp t,.tmp u] (Qj (.tup [r,s]) outs)) (.x e) [] σ:=by
 cases e<;>first | exact AK.done ⟨[r,s],⟨h,k,trivial⟩,QbL hs⟩|cases he
theorem tg_ {C:Ctx}{Q:Exit→St→Prop}{n:Nat}{pt pt1:Pt}{ks ks1:List Fr}{σ σ1:St}(hC:Qd2 Tryz.prog C n)(ds:List Dir)(e:Vm.go Tryz.prog C tab n ds pt ks σ True=some ⟨pt1,ks1,σ1,True⟩)(h:AK Tryz.prog C Q pt1 ks1 σ1):AK Tryz.prog C Q pt ks σ:=AK.go Qp hC ds e trivial h
theorem Qas {c:Bool}{β:Type}{f:Unit→Option β}{r:β}(h:(chk c).bind f=some r):c=true∧f ()=some r:=by
 obtain⟨_,k,h⟩:=Qc h
 exact⟨Qvz k,h⟩
abbrev Qze (a0 a1 a2 a3:V):List V:=[.J,.J,.J,.J,a0,a1,a2,.J,.J,.J,.J,.J,.J,a3,.J,.J,.J,.J,.J,.J,.J,.J,.J,.J,.J,.J,.J,.J,.J,.J,.J,.J,.J,.J,.J]
abbrev QfQ (a0 a1 a2:V):List V:=[.J,.J,.J,.J,a0,a1,a2,.J,.J,.J,.J,.J,.J,.J,.J,.J,.J,.J,.J,.J,.J,.J,.J,.J,.J,.J,.J,.J,.J,.J,.J,.J,.J,.J,.J]
def Qk7  : Option Qm:=
 some (Qm.mk ([(QM.mk (⟨#[110]⟩:ByteArray) 2 0 0 ([(⟨#[107]⟩:ByteArray)]:List ByteArray) 0 0)]:List QM) ([(QG.mk (⟨#[97]⟩:ByteArray) 0 ([]:QBg)),(QG.mk (⟨#[98]⟩:ByteArray) 0 ([]:QBg)),(QG.mk (⟨#[99]⟩:ByteArray) 0 ([]:QBg))]:List QG) ([(Qv.mk (⟨#[116]⟩:ByteArray) ([]:(List Qae)) (Qk.mk 1 1 ([]:(List Qk))) 1 1 ([(QT.mk 0 (Qk.mk 1 0 ([]:(List Qk))))]:List QT) ([(QT.mk 1 (Qk.mk 1 0 ([]:(List Qk))))]:List QT) ([]:(List Int)) 0 (0,0,0)),(Qv.mk (⟨#[117]⟩:ByteArray) ([]:(List Qae)) (Qk.mk 1 1 ([]:(List Qk))) 1 1 ([(QT.mk 1 (Qk.mk 1 0 ([]:(List Qk))))]:List QT) ([(QT.mk 0 (Qk.mk 1 0 ([]:(List Qk))))]:List QT) ([2]:List Int) 0 (0,0,0))]:List Qv) 0 1)
theorem Qts  {r:Qm}(h:Qk7  = some r):Qd prog 31 [] [] (Qj (.agg (Qe r)) []):=by
 refine Qd.walk 31 func31 rfl rfl rfl fun C hC=>?_
 refine Qa hC [.n 7,.v .no [none,none,some 3] (.agg (Qr (Qk.mk 1 0 ([]:(List Qk))))),.n 2,.O 1 (.var (Qr (Qk.mk 1 0 ([]:(List Qk))))),.n 4,.v .no [none,none,some 3] (.agg (Qr (Qk.mk 1 1 ([]:(List Qk))))),.n 2,.O 2 (.var (Qr (Qk.mk 1 1 ([]:(List Qk))))),.n 4,.v (.bd []) [] (.sl 1 (([(⟨#[107]⟩:ByteArray)]:List ByteArray).map QcY)),.v .no [] (.agg (Qy (QM.mk (⟨#[110]⟩:ByteArray) 2 0 0 ([(⟨#[107]⟩:ByteArray)]:List ByteArray) 0 0))),.v (.bd []) [] (.sl 7 (([(QM.mk (⟨#[110]⟩:ByteArray) 2 0 0 ([(⟨#[107]⟩:ByteArray)]:List ByteArray) 0 0)]:List QM).map Qy)),.v .no [none,none,some 2] (.agg (Qu (QG.mk (⟨#[97]⟩:ByteArray) 0 ([]:QBg)))),.v .no [none,none,some 2] (.agg (Qu (QG.mk (⟨#[98]⟩:ByteArray) 0 ([]:QBg)))),.v .no [none,none,some 2] (.agg (Qu (QG.mk (⟨#[99]⟩:ByteArray) 0 ([]:QBg)))),.v (.bd []) [] (.sl 3 (([(QG.mk (⟨#[97]⟩:ByteArray) 0 ([]:QBg)),(QG.mk (⟨#[98]⟩:ByteArray) 0 ([]:QBg)),(QG.mk (⟨#[99]⟩:ByteArray) 0 ([]:QBg))]:List QG).map Qu)),.v .no [] (.agg (Qr (Qk.mk 1 1 ([]:(List Qk))))),.v .no [] (.agg (Qr (Qk.mk 1 0 ([]:(List Qk))))),.v .no [] (.agg (QU (QT.mk 0 (Qk.mk 1 0 ([]:(List Qk)))))),.v (.bd []) [] (.sl 4 (([(QT.mk 0 (Qk.mk 1 0 ([]:(List Qk))))]:List QT).map QU)),.v .no [] (.agg (Qr (Qk.mk 1 0 ([]:(List Qk))))),.v .no [] (.agg (QU (QT.mk 1 (Qk.mk 1 0 ([]:(List Qk)))))),.v (.bd []) [] (.sl 4 (([(QT.mk 1 (Qk.mk 1 0 ([]:(List Qk))))]:List QT).map QU)),.v .no [none,some 2,none,none,none,none,none,none,none,some 1,none,none,none,none] (.agg (Qh (Qv.mk (⟨#[116]⟩:ByteArray) ([]:(List Qae)) (Qk.mk 1 1 ([]:(List Qk))) 1 1 ([(QT.mk 0 (Qk.mk 1 0 ([]:(List Qk))))]:List QT) ([(QT.mk 1 (Qk.mk 1 0 ([]:(List Qk))))]:List QT) ([]:(List Int)) 0 (0,0,0)))),.v .no [] (.agg (Qr (Qk.mk 1 1 ([]:(List Qk))))),.v .no [] (.agg (Qr (Qk.mk 1 0 ([]:(List Qk))))),.v .no [] (.agg (QU (QT.mk 1 (Qk.mk 1 0 ([]:(List Qk)))))),.v (.bd []) [] (.sl 4 (([(QT.mk 1 (Qk.mk 1 0 ([]:(List Qk))))]:List QT).map QU)),.v .no [] (.agg (Qr (Qk.mk 1 0 ([]:(List Qk))))),.v .no [] (.agg (QU (QT.mk 0 (Qk.mk 1 0 ([]:(List Qk)))))),.v (.bd []) [] (.sl 4 (([(QT.mk 0 (Qk.mk 1 0 ([]:(List Qk))))]:List QT).map QU)),.v (.bd []) [] (.sl 1 (([2]:List Int).map Qb)),.v .no [none,some 2,none,none,none,none,none,none,none,none,none,none,none,none] (.agg (Qh (Qv.mk (⟨#[117]⟩:ByteArray) ([]:(List Qae)) (Qk.mk 1 1 ([]:(List Qk))) 1 1 ([(QT.mk 1 (Qk.mk 1 0 ([]:(List Qk))))]:List QT) ([(QT.mk 0 (Qk.mk 1 0 ([]:(List Qk))))]:List QT) ([2]:List Int) 0 (0,0,0)))),.v (.bd []) [] (.sl 14 (([(Qv.mk (⟨#[116]⟩:ByteArray) ([]:(List Qae)) (Qk.mk 1 1 ([]:(List Qk))) 1 1 ([(QT.mk 0 (Qk.mk 1 0 ([]:(List Qk))))]:List QT) ([(QT.mk 1 (Qk.mk 1 0 ([]:(List Qk))))]:List QT) ([]:(List Int)) 0 (0,0,0)),(Qv.mk (⟨#[117]⟩:ByteArray) ([]:(List Qae)) (Qk.mk 1 1 ([]:(List Qk))) 1 1 ([(QT.mk 1 (Qk.mk 1 0 ([]:(List Qk))))]:List QT) ([(QT.mk 0 (Qk.mk 1 0 ([]:(List Qk))))]:List QT) ([2]:List Int) 0 (0,0,0))]:List Qv).map Qh)),.v .no [] (.agg (Qe (Qm.mk ([(QM.mk (⟨#[110]⟩:ByteArray) 2 0 0 ([(⟨#[107]⟩:ByteArray)]:List ByteArray) 0 0)]:List QM) ([(QG.mk (⟨#[97]⟩:ByteArray) 0 ([]:QBg)),(QG.mk (⟨#[98]⟩:ByteArray) 0 ([]:QBg)),(QG.mk (⟨#[99]⟩:ByteArray) 0 ([]:QBg))]:List QG) ([(Qv.mk (⟨#[116]⟩:ByteArray) ([]:(List Qae)) (Qk.mk 1 1 ([]:(List Qk))) 1 1 ([(QT.mk 0 (Qk.mk 1 0 ([]:(List Qk))))]:List QT) ([(QT.mk 1 (Qk.mk 1 0 ([]:(List Qk))))]:List QT) ([]:(List Int)) 0 (0,0,0)),(Qv.mk (⟨#[117]⟩:ByteArray) ([]:(List Qae)) (Qk.mk 1 1 ([]:(List Qk))) 1 1 ([(QT.mk 1 (Qk.mk 1 0 ([]:(List Qk))))]:List QT) ([(QT.mk 0 (Qk.mk 1 0 ([]:(List Qk))))]:List QT) ([2]:List Int) 0 (0,0,0))]:List Qv) 0 1))),.n 1,.O 0 (.var (Qe (Qm.mk ([(QM.mk (⟨#[110]⟩:ByteArray) 2 0 0 ([(⟨#[107]⟩:ByteArray)]:List ByteArray) 0 0)]:List QM) ([(QG.mk (⟨#[97]⟩:ByteArray) 0 ([]:QBg)),(QG.mk (⟨#[98]⟩:ByteArray) 0 ([]:QBg)),(QG.mk (⟨#[99]⟩:ByteArray) 0 ([]:QBg))]:List QG) ([(Qv.mk (⟨#[116]⟩:ByteArray) ([]:(List Qae)) (Qk.mk 1 1 ([]:(List Qk))) 1 1 ([(QT.mk 0 (Qk.mk 1 0 ([]:(List Qk))))]:List QT) ([(QT.mk 1 (Qk.mk 1 0 ([]:(List Qk))))]:List QT) ([]:(List Int)) 0 (0,0,0)),(Qv.mk (⟨#[117]⟩:ByteArray) ([]:(List Qae)) (Qk.mk 1 1 ([]:(List Qk))) 1 1 ([(QT.mk 1 (Qk.mk 1 0 ([]:(List Qk))))]:List QT) ([(QT.mk 0 (Qk.mk 1 0 ([]:(List Qk))))]:List QT) ([2]:List Int) 0 (0,0,0))]:List Qv) 0 1))),.n 3,.K [0] [0]] rfl ⟨⟨⟨⟨⟨⟨⟨⟨⟨⟨⟨⟨⟨⟨⟨⟨⟨⟨⟨⟨⟨⟨⟨⟨⟨⟨⟨⟨⟨⟨⟨tt_,rfl⟩,rfl⟩,rfl⟩,rfl⟩,rfl⟩,rfl⟩,rfl⟩,rfl⟩,rfl⟩,rfl⟩,rfl⟩,rfl⟩,rfl⟩,rfl⟩,rfl⟩,rfl⟩,rfl⟩,rfl⟩,rfl⟩,rfl⟩,rfl⟩,rfl⟩,rfl⟩,rfl⟩,rfl⟩,rfl⟩,rfl⟩,rfl⟩,rfl⟩,rfl⟩,rfl⟩ ?_
 cases h
 exact AK.done (ex_ [_] (an_ (an_ (ex_ _ (ex_ _ (an_ rfl (an_ rfl (Or.inl (an_ (Qp.ag rfl) (an_ (Qp.sz rfl) rfl))))))) tt_) (QbL tt_)))
def QdY (a:QLL):Option QLL:=
 some a
def QlP (b:Int)(a:Int)(c:(List Int)):Option ((Int×(List Int))⊕(List Int)):=
 bif (decide (a<b))then
 (chk (decide (c.length+([a]:List Int).length≤4294967296))).bind fun _=>
 some (.inl ((w64 (a+1)),(c++([a]:List Int))))
 else
 some (.inr c)
def QlQ (a:(List Int)):Option QLL:=
 some ([a]:List (List Int))
def QlR (b:Int)(a:Int)(c:QLL):Option ((Int×QLL)⊕QLL):=
 bif (decide (a<b))then
 (chk (decide (c.length+([([a]:List Int)]:List (List Int)).length≤4294967296))).bind fun _=>
 some (.inl ((w64 (a+1)),(c++([([a]:List Int)]:List (List Int)))))
 else
 some (.inr c)
def Qi0 (a:QLL):Option QLL:=
 QdY a
def Qi1 (a:Int)(b:(List Int)):Option ((Int×(List Int))⊕(List Int)):=
 some (.inl ((w64 (a+1)),b))
def QlS (c:Int)(set_33:Int)(a:Int)(b:(List Int)):Option ((Int×(List Int))⊕(List Int)):=
 bif (decide (a<c))then
 (chk (decide (0≤a))).bind fun _=>
 bif ((Qcy .i64 (QcR .i64 set_33 a) 1)==1)then
 (chk (decide (b.length+([a]:List Int).length≤4294967296))).bind fun _=>
 Qi1 a (b++([a]:List Int))
 else
 Qi1 a b
 else
 some (.inr b)
def QlT (a:QLL)(set_33:Int)(b:(List Int)):Option ((Int×QLL)⊕QLL):=
 (chk (decide (a.length+([b]:List (List Int)).length≤4294967296))).bind fun _=>
 some (.inl ((w64 (set_33+1)),(a++([b]:List (List Int)))))
def QlU (a:Int)(set_33:Int)(b:QLL):Option ((Int×QLL)⊕QLL):=
 (chk (decide (0≤a))).bind fun _=>
 bif (decide (set_33<(QvV .i64 1 a)))then
 (Qt (fun st=>QlS a set_33 st.1 st.2) (0,([]:List Int))).bind (fun q=>QlT b set_33 q)
 else
 some (.inr b)
def QhR (a:QLL):Option QLL:=
 QdY a
def QaY (b:Int)(a:Int):Option QLL:=
 bif ((decide (a<0))||((decide (16<a))||((b==3)&&(decide (4<a)))))then
 some ([]:List (List Int))
 else
 bif (b==1)then
 (Qt (fun st=>QlP a st.1 st.2) (0,([]:List Int))).bind (fun q=>QlQ q)
 else
 bif (b==2)then
 (Qt (fun st=>QlR a st.1 st.2) (0,([]:List (List Int)))).bind (fun q=>Qi0 q)
 else
 bif (b==3)then
 (Qt (fun st=>QlU a st.1 st.2) (1,([]:List (List Int)))).bind (fun q=>QhR q)
 else
 QdY ([]:List (List Int))
theorem QlV (c a){r}(h:QaY c a=some r):Qd prog 38 [.I c,.I a] [] (Qj (.own 600 r.length) [(600,.arr 1 (r.map Qf))]):=by
 refine Qd.walk 79 func38 rfl rfl rfl fun C hC=>?_
 unfold QaY at h
 refine tg_ hC [.n 7] rfl ?_
 refine AK.meetX (fun σ=>σ=⟨[(0,.I c),(1,.I a),(25,.b ((decide (a<0))||((decide (16<a))||((c==3)&&(decide (4<a))))))],[]⟩) ?_ ?_
 ·refine tg_ hC [.n 4] rfl ?_
  rcases Qz (decide (a<0))with f | f
  ·refine Qa hC [.S 14 (.b true),.n 12,.S 25 (.b ((decide (a<0))||((decide (16<a))||((c==3)&&(decide (4<a)))))),.K [0,1,25] []] rfl ⟨(tc_ f),(congrArg V.b (orT f rfl))⟩ ?_
   exact AK.met rfl
  refine Qa hC [.S 14 (.b false),.n 4] rfl (tc_ f) ?_
  rcases Qz (decide (16<a))with i | i
  ·refine Qa hC [.S 18 (.b true),.n 8,.S 25 (.b ((decide (a<0))||((decide (16<a))||((c==3)&&(decide (4<a)))))),.K [0,1,25] []] rfl ⟨(tc_ i),(congrArg V.b (orF f (orT i rfl)))⟩ ?_
   exact AK.met rfl
  refine Qa hC [.S 18 (.b false),.n 3] rfl (tc_ i) ?_
  rcases Qz (c==3)with j | j
  ·refine Qa hC [.S 21 (.b true),.n 5,.S 25 (.b ((decide (a<0))||((decide (16<a))||((c==3)&&(decide (4<a)))))),.K [0,1,25] []] rfl ⟨(tc_ j),(congrArg V.b (orF f (orF i (Qat j rfl))))⟩ ?_
   exact AK.met rfl
  refine Qa hC [.S 21 (.b false),.n 5,.S 25 (.b ((decide (a<0))||((decide (16<a))||((c==3)&&(decide (4<a)))))),.K [0,1,25] []] rfl ⟨(tc_ j),(congrArg V.b (orF f (orF i (Qbm j rfl))))⟩ ?_
  exact AK.met rfl
 rintro σ rfl
 refine tg_ hC [.n 1] rfl ?_
 refine bg_ h (fun E h=>Qa hC [.T,.n 7,.adopt 4 600 1,.O 600 (.arr 1 (([]:List (List Int)).map Qf)),.S 4 (.own 600 ([]:List (List Int)).length),.K [4] [600]] rfl ⟨⟨⟨tt_,E⟩,rfl⟩,rfl⟩ ?_) fun E h=>Qa hC [.F,.n 7] rfl ⟨tt_,E⟩ ?_
 ·cases h
  exact d1_ rfl rfl ⟨rfl,tt_⟩
 refine AK.meet (fun σ=>∃y:QLL,σ=⟨[(5,.own 602 y.length)],[(602,.arr 1 (y.map Qf))]⟩∧QdY y=some r) ?_ ?_
 ·refine tg_ hC [.n 12] rfl ?_
  refine bg_ h (fun k h=>Qa hC [.T,.n 13,.adopt 6 33 1,.O 33 (.arr 1 (([]:List Int).map Qb)),.S 6 (.own 33 ([]:List Int).length),.K [6,29,30] [33]] rfl ⟨⟨⟨tt_,k⟩,rfl⟩,(congrArg (fun n=>V.own 33 n) (by simp))⟩ ?_) fun k h=>Qa hC [.F,.n 6] rfl ⟨tt_,k⟩ ?_
  ·obtain⟨z,H,h⟩:=Qc h
   refine AK.loop (body:=(fun st=>QlP a st.1 st.2)) (fun st σ=>σ=⟨[(6,.own 33 st.2.length),(29,.I a),(30,.I st.1)],[(33,.arr 1 (st.2.map Qb))]⟩) (fun q e σ=>e=.exit 1∧σ=⟨[(6,.own 33 q.length)],[(33,.arr 1 (q.map Qb))]⟩) H rfl ?_ ?_
   ·rintro ⟨G,J⟩ o σ rfl h
    refine tg_ hC [.n 6] rfl ?_
    rcases Qq h with⟨l,h⟩|⟨l,h⟩
    ·obtain⟨L,h⟩:=Qas h
     refine Qa hC [.T,.n 13,.v (.bd []) [] (.sl 1 (([G]:List Int).map Qb)),.app ((J++([G]:List Int)).map Qb) (J++([G]:List Int)).length,.n 8,.K [6,29,30] [33]] rfl ⟨⟨⟨tt_,l⟩,rfl⟩,⟨Qg,Qc9 L Qg,QbS,QeC Qg⟩⟩ ?_
     cases h
     exact QJ rfl rfl
    refine Qa hC [.F,.n 2,.K [6] [33]] rfl ⟨tt_,l⟩ ?_
    cases h
    exact QK rfl (an_ rfl rfl)
   replace h:QlQ z=some r:=h
   rintro e σ ⟨rfl,rfl⟩
   refine Qa hC [.n 5,.frz 33 (z.map Qb) [6,38] [],.n 1,.O 39 (.arr 1 (([z]:List (List Int)).map Qf)),.S 39 (.own 39 ([z]:List (List Int)).length),.n 6,.K [4] [39],.ren 39 600] rfl ⟨⟨⟨tt_,⟨⟨tt_,(QcQ Qg)⟩,(QcQ Qg)⟩⟩,rfl⟩,rfl⟩ ?_
   cases h
   exact d1_ rfl rfl ⟨rfl,tt_⟩
  refine bg_ h (fun m h=>Qa hC [.T,.n 7,.adopt 5 46 1,.O 46 (.arr 1 (([]:List (List Int)).map Qf)),.S 5 (.own 46 ([]:List (List Int)).length),.K [5,42,43] [46]] rfl ⟨⟨⟨tt_,m⟩,rfl⟩,(congrArg (fun n=>V.own 46 n) (by simp))⟩ ?_) fun m h=>Qa hC [.F,.n 6] rfl ⟨tt_,m⟩ ?_
  ·obtain⟨a2,M,h⟩:=Qc h
   refine AK.loop (body:=(fun st=>QlR a st.1 st.2)) (fun st σ=>σ=⟨[(5,.own 46 st.2.length),(42,.I a),(43,.I st.1)],[(46,.arr 1 (st.2.map Qf))]⟩) (fun q e σ=>e=.exit 3∧σ=⟨[(5,.own 46 q.length)],[(46,.arr 1 (q.map Qf))]⟩) M rfl ?_ ?_
   ·rintro ⟨A,N⟩ o σ rfl h
    refine tg_ hC [.n 6] rfl ?_
    rcases Qq h with⟨p,h⟩|⟨p,h⟩
    ·obtain⟨P,h⟩:=Qas h
     refine Qa hC [.T,.n 13,.v (.bd []) [] (.sl 1 (([A]:List Int).map Qb)),.v (.bd []) [] (.sl 1 (([([A]:List Int)]:List (List Int)).map Qf)),.app ((N++([([A]:List Int)]:List (List Int))).map Qf) (N++([([A]:List Int)]:List (List Int))).length,.n 8,.K [5,42,43] [46]] rfl ⟨⟨⟨⟨tt_,p⟩,rfl⟩,rfl⟩,⟨Qg,Qc9 P Qg,QbS,QeC Qg⟩⟩ ?_
     cases h
     exact QJ rfl rfl
    refine Qa hC [.F,.n 2,.K [5] [46]] rfl ⟨tt_,p⟩ ?_
    cases h
    exact QK rfl (an_ rfl rfl)
   replace h:Qi0 a2=some r:=h
   unfold Qi0 at h
   rintro e σ ⟨rfl,rfl⟩
   refine tg_ hC [.n 2,.ren 46 602,.K [5] [602]] rfl ?_
   exact AK.met (ex_ _ (an_ rfl h))
  refine bg_ h (fun s h=>Qa hC [.T,.n 6,.adopt 5 74 1,.O 74 (.arr 1 (([]:List (List Int)).map Qf)),.S 5 (.own 74 ([]:List (List Int)).length),.K [1,5,9] [74]] rfl ⟨⟨⟨tt_,s⟩,rfl⟩,(congrArg (fun n=>V.own 74 n) (by simp))⟩ ?_) fun s h=>Qa hC [.F,.n 2,.adopt 5 602 1,.O 602 (.arr 1 (([]:List (List Int)).map Qf)),.S 5 (.own 602 ([]:List (List Int)).length),.K [5] [602]] rfl ⟨⟨⟨tt_,s⟩,rfl⟩,(congrArg (fun n=>V.own 602 n) (by simp))⟩ ?_
  ·obtain⟨a3,U,h⟩:=Qc h
   refine AK.loop (body:=(fun st=>QlU a st.1 st.2)) (fun st σ=>σ=⟨[(1,.I a),(5,.own 74 st.2.length),(9,.I st.1)],[(74,.arr 1 (st.2.map Qf))]⟩) (fun q e σ=>e=.exit 5∧σ=⟨[(5,.own 74 q.length)],[(74,.arr 1 (q.map Qf))]⟩) U rfl ?_ ?_
   ·rintro ⟨set_33,d⟩ o σ rfl h
    obtain⟨W,h⟩:=Qas h
    refine Qa hC [.n 5,.o (.any (.I (QvV .i64 1 a)) none),.n 3] rfl ⟨tt_,(fun σ D h2 _=>Stp.shl rfl rfl (QD hC.n rfl) (D _ _ rfl) (D _ _ rfl) (Qag W))⟩ ?_
    refine bg_ h (fun t h=>Qa hC [.T,.n 17,.adopt 10 69 1,.O 69 (.arr 1 (([]:List Int).map Qb)),.S 10 (.own 69 ([]:List Int).length),.K [1,5,9,10,60,61] [69,74]] rfl ⟨⟨⟨tt_,t⟩,rfl⟩,(congrArg (fun n=>V.own 69 n) (by simp))⟩ ?_) fun t h=>Qa hC [.F,.n 2,.K [5] [74]] rfl ⟨tt_,t⟩ ?_
    ·obtain⟨u,X,h⟩:=Qc h
     refine AK.loop (body:=(fun st=>QlS a set_33 st.1 st.2)) (fun st σ=>σ=⟨[(1,.I a),(5,.own 74 d.length),(9,.I set_33),(10,.own 69 st.2.length),(60,.I a),(61,.I st.1)],[(69,.arr 1 (st.2.map Qb)),(74,.arr 1 (d.map Qf))]⟩) (fun q e σ=>e=.exit 7∧σ=⟨[(1,.I a),(5,.own 74 d.length),(9,.I set_33),(10,.own 69 q.length)],[(69,.arr 1 (q.map Qb)),(74,.arr 1 (d.map Qf))]⟩) X rfl ?_ ?_
     ·rintro ⟨g,Y⟩ o σ rfl h
      refine tg_ hC [.n 6] rfl ?_
      refine bg_ h (fun w h=>Qa hC [.T,.n 2] rfl ⟨tt_,w⟩ ?_) fun w h=>Qa hC [.F,.n 2,.K [1,5,9,10] [69,74]] rfl ⟨tt_,w⟩ ?_
      ·refine AK.meet (fun σ=>∃B:(List Int),σ=⟨[(1,.I a),(5,.own 74 d.length),(9,.I set_33),(10,.own 69 B.length),(60,.I a),(61,.I g)],[(69,.arr 1 (B.map Qb)),(74,.arr 1 (d.map Qf))]⟩∧Qi1 g B=some o) ?_ ?_
       ·obtain⟨Z,h⟩:=Qas h
        refine Qa hC [.n 11,.o (.any (.I (QcR .i64 set_33 g)) none),.o (.any (.I (Qcy .i64 (QcR .i64 set_33 g) 1)) none),.n 3] rfl ⟨⟨tt_,(fun σ D h2 _=>Stp.shr rfl rfl (QD hC.n rfl) (D _ _ rfl) (D _ _ rfl) (Qag Z))⟩,(fun σ D h2 _=>Stp.andB rfl rfl (QD hC.n rfl) (D _ _ rfl) (D _ _ rfl))⟩ ?_
        rcases Qq h with⟨x,h⟩|⟨x,h⟩
        ·obtain⟨a0,h⟩:=Qas h
         refine Qa hC [.T,.n 3,.v (.bd []) [] (.sl 1 (([g]:List Int).map Qb)),.app ((Y++([g]:List Int)).map Qb) (Y++([g]:List Int)).length,.n 3,.K [1,5,9,10,60,61] [69,74]] rfl ⟨⟨⟨tt_,x⟩,rfl⟩,⟨Qg,Qc9 a0 Qg,QbS,QeC Qg⟩⟩ ?_
         exact AK.met (ex_ _ (an_ rfl h))
        refine Qa hC [.F,.n 2,.K [1,5,9,10,60,61] [69,74]] rfl ⟨tt_,x⟩ ?_
        exact AK.met (ex_ _ (an_ rfl h))
       rintro σ ⟨B,rfl,h⟩
       refine tg_ hC [.n 4,.K [1,5,9,10,60,61] [69,74]] rfl ?_
       cases h
       exact QJ rfl rfl
      cases h
      exact QK rfl (an_ rfl rfl)
     replace h:QlT d set_33 u=some o:=h
     rintro e σ ⟨rfl,rfl⟩
     obtain⟨a1,h⟩:=Qas h
     refine Qa hC [.n 5,.frz 69 (u.map Qb) [10,75] [],.v (.bd []) [] (.sl 1 (([u]:List (List Int)).map Qf)),.app ((d++([u]:List (List Int))).map Qf) (d++([u]:List (List Int))).length,.n 9,.K [1,5,9] [74]] rfl ⟨⟨⟨tt_,⟨⟨tt_,(QcQ Qg)⟩,(QcQ Qg)⟩⟩,rfl⟩,⟨Qg,Qc9 a1 Qg,QbS,QeC Qg⟩⟩ ?_
     cases h
     exact QJ rfl rfl
    cases h
    exact QK rfl (an_ rfl rfl)
   replace h:QhR a3=some r:=h
   unfold QhR at h
   rintro e σ ⟨rfl,rfl⟩
   refine tg_ hC [.n 2,.ren 74 602,.K [5] [602]] rfl ?_
   exact AK.met (ex_ _ (an_ rfl h))
  exact AK.met (ex_ _ (an_ rfl h))
 rintro σ ⟨y,rfl,h⟩
 refine tg_ hC [.n 7,.K [4] [602],.ren 602 600] rfl ?_
 cases h
 exact d1_ rfl rfl ⟨rfl,tt_⟩
def Qde (b:(List Int))(a:Int)(c:Int):Option (List Int):=
 bif ((decide (0≤a))&&(decide (a<(b.length:Int))))then
 (idx b a).bind fun d=>
 (idx b a).bind fun e=>
 some (b.set a.toNat (w64 (d+c)))
 else
 some b
theorem QlW (d a i){r}(h:Qde d a i=some r):Qd prog 39 [.own 609 d.length,.I a,.I i] [(609,.arr 1 (d.map Qb))] (Qj (.tup []) [(609,.arr 1 (r.map Qb))]):=by
 refine Qd.walk 21 func39 rfl rfl rfl fun C hC=>?_
 refine tg_ hC [.n 1] rfl ?_
 refine AK.meetX (fun σ=>σ=⟨[(0,.own 609 d.length),(1,.I a),(2,.I i),(13,.b ((decide (0≤a))&&(decide (a<(d.length:Int)))))],[(609,.arr 1 (d.map Qb))]⟩) ?_ ?_
 ·refine tg_ hC [.n 4] rfl ?_
  rcases Qz (decide (0≤a))with c | c
  ·refine Qa hC [.S 8 (.b true),.n 6,.S 13 (.b ((decide (0≤a))&&(decide (a<(d.length:Int))))),.K [0,1,2,13] [609]] rfl ⟨(tc_ c),(congrArg V.b (Qat c rfl))⟩ ?_
   exact AK.met rfl
  refine Qa hC [.S 8 (.b false),.n 6,.S 13 (.b ((decide (0≤a))&&(decide (a<(d.length:Int))))),.K [0,1,2,13] [609]] rfl ⟨(tc_ c),(congrArg V.b (Qbm c rfl))⟩ ?_
  exact AK.met rfl
 rintro σ rfl
 refine tg_ hC [.n 1] rfl ?_
 rcases Qq h with⟨f,h⟩|⟨f,h⟩
 ·obtain⟨k,g,h⟩:=Qc h
  obtain⟨j,e,h⟩:=Qc h
  refine Qa hC [.T,.n 4,.o (.row (Qb k)),.n 3,.st (Qb j) ((d.set a.toNat (w64 (k+i))).map Qb),.n 1,.K [] [609]] rfl ⟨⟨⟨⟨⟨tt_,f⟩,(Qcp g rfl)⟩,(Qbl (QcP g).2)⟩,(Qcp e rfl)⟩,⟨(Qbl (QcP e).2),Qi6 rfl⟩⟩ ?_
  cases h
  refine AK.done ?_
  exact ex_ [] (an_ tt_ (QbL ⟨rfl,tt_⟩))
 refine Qa hC [.F,.n 1,.K [] [609]] rfl ⟨tt_,f⟩ ?_
 cases h
 refine AK.done ?_
 exact ex_ [] (an_ tt_ (QbL ⟨rfl,tt_⟩))
def Qa4 (c:(List Int))(e:Qv)(a:Int)(b:(List Int)):Option ((Int×(List Int))⊕(List Int)):=
 bif (decide (a<(c.length:Int)))then
 (idx c a).bind fun f=>
 (idx e.Ins f).bind fun g=>
 (Qde b g.Place (-1)).bind fun d=>
 (chk (decide (d.length=b.length))).bind fun _=>
 some (.inl ((w64 (a+1)),d))
 else
 some (.inr b)
def Qa5 (c:(List Int))(e:Qv)(a:Int)(b:(List Int)):Option ((Int×(List Int))⊕(List Int)):=
 bif (decide (a<(c.length:Int)))then
 (idx c a).bind fun f=>
 (idx e.Outs f).bind fun g=>
 (Qde b g.Place 1).bind fun d=>
 (chk (decide (d.length=b.length))).bind fun _=>
 some (.inl ((w64 (a+1)),d))
 else
 some (.inr b)
def Qdw (a:QLL)(c:Int)(b:(List Int)):Option ((Int×QLL)⊕QLL):=
 (chk (decide (a.length+([b]:List (List Int)).length≤4294967296))).bind fun _=>
 some (.inl ((w64 (c+1)),(a++([b]:List (List Int)))))
def Qcf (a:(List Int))(b:Qv)(c:QLL)(d:Int)(e:(List Int)):Option ((Int×QLL)⊕QLL):=
 (Qt (fun st=>Qa5 a b st.1 st.2) (0,e)).bind (fun q=>Qdw c d q)
def QaI (b:QLL)(c:Qm)(f:(List Int))(d:Qv)(a:Int)(e:QLL):Option ((Int×QLL)⊕QLL):=
 bif (decide (a<(b.length:Int)))then
 (idx b a).bind fun g=>
 (chk (decide (0≤(c.Places.length:Int))&&decide ((c.Places.length:Int)≤(c.Places.length:Int))&&decide ((c.Places.length:Int)≤4294967296))).bind fun _=>
 (Qt (fun st=>Qa4 f d st.1 st.2) (0,(List.replicate (c.Places.length:Int).toNat (0:Int)))).bind (fun q=>Qcf g d e a q)
 else
 some (.inr e)
def Qdx (a:Int)(b:QLL):Option ((Int×QLL)⊕QLL):=
 some (.inl ((w64 (a+1)),b))
def QaJ (c:QLL)(a:Qv)(g:Qm)(b:Int)(d:QLL):Option ((Int×QLL)⊕QLL):=
 bif (decide (b<(c.length:Int)))then
 (idx c b).bind fun e=>
 (QaY a.Split (a.Outs.length:Int)).bind fun f=>
 (Qt (fun st=>QaI f g e a st.1 st.2) (0,d)).bind (fun q=>Qdx b q)
 else
 some (.inr d)
def Qe0 (b:Int)(a:QLL):Option ((Int×QLL)⊕QLL):=
 some (.inl ((w64 (b+1)),a))
def Qcg (b:Qm)(c:Int)(e:QLL):Option ((Int×QLL)⊕QLL):=
 bif (decide (c<(b.Tasks.length:Int)))then
 (idx b.Tasks c).bind fun a=>
 (QaY a.Join (a.Ins.length:Int)).bind fun d=>
 (Qt (fun st=>QaJ d a b st.1 st.2) (0,e)).bind (fun q=>Qe0 c q)
 else
 some (.inr e)
def QkA (a:QLL):Option QLL:=
 some a
def Qbw (a:Qm):Option QLL:=
 (Qt (fun st=>Qcg a st.1 st.2) (0,([]:List (List Int)))).bind (fun q=>QkA q)
theorem QaK (c){r}(h:Qbw c=some r):Qd prog 15 [.agg (Qe c)] [] (Qj (.own 600 r.length) [(600,.arr 1 (r.map Qf))]):=by
 refine Qd.walk 86 func15 rfl rfl rfl fun C hC=>?_
 refine Qa hC [.n 16,.o (.ln c.Tasks.length),.n 4,.adopt 3 78 1,.O 78 (.arr 1 (([]:List (List Int)).map Qf)),.S 3 (.own 78 ([]:List (List Int)).length),.K [1,3,16,17,18] [1,78]] rfl ⟨⟨⟨tt_,Qg⟩,rfl⟩,(congrArg (fun n=>V.own 78 n) (by simp))⟩ ?_
 obtain⟨l8,G,h⟩:=Qc h
 refine AK.loop (body:=(fun st=>Qcg c st.1 st.2)) (fun st σ=>σ=⟨[(1,.loc 1 0 0),(3,.own 78 st.2.length),(16,.sl 14 (c.Tasks.map Qh)),(17,.I (c.Tasks.length:Int)),(18,.I st.1)],[(1,.var (Qe c)),(78,.arr 1 (st.2.map Qf))]⟩) (fun q e σ=>e=.exit 0∧σ=⟨[(3,.own 78 q.length)],[(78,.arr 1 (q.map Qf))]⟩) G rfl ?_ ?_
 ·rintro ⟨w,l5⟩ o σ rfl h
  refine tg_ hC [.n 6] rfl ?_
  rcases Qq h with⟨B,h⟩|⟨B,h⟩
  ·obtain⟨f,H,h⟩:=Qc h
   obtain⟨a,J,h⟩:=Qc h
   refine Qa hC [.T,.n 6,.o (.row (Qh f)),.v .no [] (.agg (Qh f)),.n 2,.O 5 (.var (Qh f)),.n 8,.o (.ln f.Ins.length),.o (.co false [.d,.d] 1 (a.map Qf) a.length),.n 5,.K [1,3,5,16,17,18,27,28,29] [1,5,27,78]] rfl ⟨⟨⟨⟨⟨⟨tt_,B⟩,(QA H)⟩,rfl⟩,rfl⟩,Qg⟩,⟨(QlV _ _ J),Qg,.inl rfl⟩⟩ ?_
   obtain⟨a4,L,h⟩:=Qc h
   refine AK.loop (body:=(fun st=>QaJ a f c st.1 st.2)) (fun st σ=>σ=⟨[(1,.loc 1 0 0),(3,.own 78 st.2.length),(5,.loc 5 0 0),(16,.sl 14 (c.Tasks.map Qh)),(17,.I (c.Tasks.length:Int)),(18,.I w),(27,.own 27 a.length),(28,.I (a.length:Int)),(29,.I st.1)],[(1,.var (Qe c)),(5,.var (Qh f)),(27,.arr 1 (a.map Qf)),(78,.arr 1 (st.2.map Qf))]⟩) (fun q e σ=>e=.exit 2∧σ=⟨[(1,.loc 1 0 0),(3,.own 78 q.length),(16,.sl 14 (c.Tasks.map Qh)),(17,.I (c.Tasks.length:Int)),(18,.I w)],[(1,.var (Qe c)),(78,.arr 1 (q.map Qf))]⟩) L rfl ?_ ?_
   ·rintro ⟨k,b1⟩ o σ rfl h
    refine tg_ hC [.n 6] rfl ?_
    rcases Qq h with⟨m,h⟩|⟨m,h⟩
    ·obtain⟨i,x,h⟩:=Qc h
     obtain⟨b,M,h⟩:=Qc h
     refine Qa hC [.T,.n 7,.o (.row (Qf i)),.n 9,.o (.ln f.Outs.length),.o (.co false [.d,.d] 1 (b.map Qf) b.length),.n 5,.K [1,3,5,7,16,17,18,27,28,29,38,39,40] [1,5,27,38,78]] rfl ⟨⟨⟨⟨⟨tt_,m⟩,(Qcp x rfl)⟩,(Qbl (QcP x).2)⟩,Qg⟩,⟨(QlV _ _ M),Qg,.inl rfl⟩⟩ ?_
     obtain⟨a5,N,h⟩:=Qc h
     refine AK.loop (body:=(fun st=>QaI b c i f st.1 st.2)) (fun st σ=>σ=⟨[(1,.loc 1 0 0),(3,.own 78 st.2.length),(5,.loc 5 0 0),(7,.sl 1 (i.map Qb)),(16,.sl 14 (c.Tasks.map Qh)),(17,.I (c.Tasks.length:Int)),(18,.I w),(27,.own 27 a.length),(28,.I (a.length:Int)),(29,.I k),(38,.own 38 b.length),(39,.I (b.length:Int)),(40,.I st.1)],[(1,.var (Qe c)),(5,.var (Qh f)),(27,.arr 1 (a.map Qf)),(38,.arr 1 (b.map Qf)),(78,.arr 1 (st.2.map Qf))]⟩) (fun q e σ=>e=.exit 4∧σ=⟨[(1,.loc 1 0 0),(3,.own 78 q.length),(5,.loc 5 0 0),(16,.sl 14 (c.Tasks.map Qh)),(17,.I (c.Tasks.length:Int)),(18,.I w),(27,.own 27 a.length),(28,.I (a.length:Int)),(29,.I k)],[(1,.var (Qe c)),(5,.var (Qh f)),(27,.arr 1 (a.map Qf)),(78,.arr 1 (q.map Qf))]⟩) N rfl ?_ ?_
     ·rintro ⟨l,g⟩ o σ rfl h
      refine tg_ hC [.n 6] rfl ?_
      rcases Qq h with⟨p,h⟩|⟨p,h⟩
      ·obtain⟨j,y,h⟩:=Qc h
       obtain⟨P,h⟩:=Qas h
       refine Qa hC [.T,.n 7,.o (.row (Qf j)),.n 7,.o (.ln c.Places.length),.o (.rows ((List.replicate (c.Places.length:Int).toNat (0:Int)).map Qb)),.S 47 (.own 47 (List.replicate (c.Places.length:Int).toNat (0:Int)).length),.n 7,.o (.ln i.length),.n 4,.K [1,3,5,7,9,10,16,17,18,27,28,29,38,39,40,48,49,50] [1,5,27,38,47,78]] rfl ⟨⟨⟨⟨⟨⟨⟨tt_,p⟩,(Qcp y rfl)⟩,(Qbl (QcP y).2)⟩,Qg⟩,⟨P,QmD rfl⟩⟩,(by simp)⟩,Qg⟩ ?_
       obtain⟨a6,U,h⟩:=Qc h
       refine AK.loop (body:=(fun st=>Qa4 i f st.1 st.2)) (fun st σ=>σ=⟨[(1,.loc 1 0 0),(3,.own 78 g.length),(5,.loc 5 0 0),(7,.sl 1 (i.map Qb)),(9,.sl 1 (j.map Qb)),(10,.own 47 st.2.length),(16,.sl 14 (c.Tasks.map Qh)),(17,.I (c.Tasks.length:Int)),(18,.I w),(27,.own 27 a.length),(28,.I (a.length:Int)),(29,.I k),(38,.own 38 b.length),(39,.I (b.length:Int)),(40,.I l),(48,.sl 1 (i.map Qb)),(49,.I (i.length:Int)),(50,.I st.1)],[(1,.var (Qe c)),(5,.var (Qh f)),(27,.arr 1 (a.map Qf)),(38,.arr 1 (b.map Qf)),(47,.arr 1 (st.2.map Qb)),(78,.arr 1 (g.map Qf))]⟩) (fun q e σ=>e=.exit 6∧σ=⟨[(1,.loc 1 0 0),(3,.own 78 g.length),(5,.loc 5 0 0),(7,.sl 1 (i.map Qb)),(9,.sl 1 (j.map Qb)),(10,.own 47 q.length),(16,.sl 14 (c.Tasks.map Qh)),(17,.I (c.Tasks.length:Int)),(18,.I w),(27,.own 27 a.length),(28,.I (a.length:Int)),(29,.I k),(38,.own 38 b.length),(39,.I (b.length:Int)),(40,.I l)],[(1,.var (Qe c)),(5,.var (Qh f)),(27,.arr 1 (a.map Qf)),(38,.arr 1 (b.map Qf)),(47,.arr 1 (q.map Qb)),(78,.arr 1 (g.map Qf))]⟩) U rfl ?_ ?_
       ·rintro ⟨b2,b3⟩ o σ rfl h
        refine tg_ hC [.n 6] rfl ?_
        rcases Qq h with⟨s,h⟩|⟨s,h⟩
        ·obtain⟨a7,W,h⟩:=Qc h
         obtain⟨a8,X,h⟩:=Qc h
         obtain⟨D,Y,h⟩:=Qc h
         obtain⟨z,h⟩:=Qas h
         refine Qa hC [.T,.n 6,.o (.row (Qb a7)),.n 9,.o (.row (QU a8)),.n 2,.cm (.fn) [(609,47)] [(47,609)] [] [.d,.d,.d] [(609,.arr 1 (D.map Qb))] (.tup []),.S 10 (.own 47 D.length),.S 54 (.own 47 D.length),.n 7,.K [1,3,5,7,9,10,16,17,18,27,28,29,38,39,40,48,49,50] [1,5,27,38,47,78]] rfl ⟨⟨⟨⟨⟨⟨tt_,s⟩,(QA W)⟩,(QA X)⟩,(QlW _ _ _ Y)⟩,(by simp [Qag z])⟩,(by simp [Qag z])⟩ ?_
         cases h
         exact QJ rfl rfl
        refine Qa hC [.F,.n 2,.K [1,3,5,7,9,10,16,17,18,27,28,29,38,39,40] [1,5,27,38,47,78]] rfl ⟨tt_,s⟩ ?_
        cases h
        exact QK rfl (an_ rfl rfl)
       replace h:Qcf j f g l a6=some o:=h
       rintro e σ ⟨rfl,rfl⟩
       refine Qa hC [.n 6,.o (.ln j.length),.n 4,.K [1,3,5,7,10,16,17,18,27,28,29,38,39,40,63,64,65] [1,5,27,38,47,78]] rfl ⟨tt_,Qg⟩ ?_
       obtain⟨t,Z,h⟩:=Qc h
       refine AK.loop (body:=(fun st=>Qa5 j f st.1 st.2)) (fun st σ=>σ=⟨[(1,.loc 1 0 0),(3,.own 78 g.length),(5,.loc 5 0 0),(7,.sl 1 (i.map Qb)),(10,.own 47 st.2.length),(16,.sl 14 (c.Tasks.map Qh)),(17,.I (c.Tasks.length:Int)),(18,.I w),(27,.own 27 a.length),(28,.I (a.length:Int)),(29,.I k),(38,.own 38 b.length),(39,.I (b.length:Int)),(40,.I l),(63,.sl 1 (j.map Qb)),(64,.I (j.length:Int)),(65,.I st.1)],[(1,.var (Qe c)),(5,.var (Qh f)),(27,.arr 1 (a.map Qf)),(38,.arr 1 (b.map Qf)),(47,.arr 1 (st.2.map Qb)),(78,.arr 1 (g.map Qf))]⟩) (fun q e σ=>e=.exit 8∧σ=⟨[(1,.loc 1 0 0),(3,.own 78 g.length),(5,.loc 5 0 0),(7,.sl 1 (i.map Qb)),(10,.own 47 q.length),(16,.sl 14 (c.Tasks.map Qh)),(17,.I (c.Tasks.length:Int)),(18,.I w),(27,.own 27 a.length),(28,.I (a.length:Int)),(29,.I k),(38,.own 38 b.length),(39,.I (b.length:Int)),(40,.I l)],[(1,.var (Qe c)),(5,.var (Qh f)),(27,.arr 1 (a.map Qf)),(38,.arr 1 (b.map Qf)),(47,.arr 1 (q.map Qb)),(78,.arr 1 (g.map Qf))]⟩) Z rfl ?_ ?_
       ·rintro ⟨b4,b5⟩ o σ rfl h
        refine tg_ hC [.n 6] rfl ?_
        rcases Qq h with⟨u,h⟩|⟨u,h⟩
        ·obtain⟨a9,a0,h⟩:=Qc h
         obtain⟨b0,a1,h⟩:=Qc h
         obtain⟨E,a2,h⟩:=Qc h
         obtain⟨A,h⟩:=Qas h
         refine Qa hC [.T,.n 6,.o (.row (Qb a9)),.n 9,.o (.row (QU b0)),.n 2,.cm (.fn) [(609,47)] [(47,609)] [] [.d,.d,.d] [(609,.arr 1 (E.map Qb))] (.tup []),.S 10 (.own 47 E.length),.S 69 (.own 47 E.length),.n 7,.K [1,3,5,7,10,16,17,18,27,28,29,38,39,40,63,64,65] [1,5,27,38,47,78]] rfl ⟨⟨⟨⟨⟨⟨tt_,u⟩,(QA a0)⟩,(QA a1)⟩,(QlW _ _ _ a2)⟩,(by simp [Qag A])⟩,(by simp [Qag A])⟩ ?_
         cases h
         exact QJ rfl rfl
        refine Qa hC [.F,.n 2,.K [1,3,5,7,10,16,17,18,27,28,29,38,39,40] [1,5,27,38,47,78]] rfl ⟨tt_,u⟩ ?_
        cases h
        exact QK rfl (an_ rfl rfl)
       replace h:Qdw g l t=some o:=h
       rintro e σ ⟨rfl,rfl⟩
       obtain⟨a3,h⟩:=Qas h
       refine Qa hC [.n 5,.frz 47 (t.map Qb) [10,79] [],.v (.bd []) [] (.sl 1 (([t]:List (List Int)).map Qf)),.app ((g++([t]:List (List Int))).map Qf) (g++([t]:List (List Int))).length,.n 8,.K [1,3,5,7,16,17,18,27,28,29,38,39,40] [1,5,27,38,78]] rfl ⟨⟨⟨tt_,⟨⟨tt_,(QcQ Qg)⟩,(QcQ Qg)⟩⟩,rfl⟩,⟨Qg,Qc9 a3 Qg,QbS,QeC Qg⟩⟩ ?_
       cases h
       exact QJ rfl rfl
      refine Qa hC [.F,.n 2,.K [1,3,5,16,17,18,27,28,29] [1,5,27,78]] rfl ⟨tt_,p⟩ ?_
      cases h
      exact QK rfl (an_ rfl rfl)
     replace h:Qdx k a5=some o:=h
     rintro e σ ⟨rfl,rfl⟩
     refine tg_ hC [.n 7,.K [1,3,5,16,17,18,27,28,29] [1,5,27,78]] rfl ?_
     cases h
     exact QJ rfl rfl
    refine Qa hC [.F,.n 2,.K [1,3,16,17,18] [1,78]] rfl ⟨tt_,m⟩ ?_
    cases h
    exact QK rfl (an_ rfl rfl)
   replace h:Qe0 w a4=some o:=h
   rintro e σ ⟨rfl,rfl⟩
   refine tg_ hC [.n 7,.K [1,3,16,17,18] [1,78]] rfl ?_
   cases h
   exact QJ rfl rfl
  refine Qa hC [.F,.n 2,.K [3] [78]] rfl ⟨tt_,B⟩ ?_
  cases h
  exact QK rfl (an_ rfl rfl)
 replace h:QkA l8=some r:=h
 rintro e σ ⟨rfl,rfl⟩
 refine tg_ hC [.n 9,.K [2] [78],.ren 78 600] rfl ?_
 cases h
 exact d1_ rfl rfl ⟨rfl,tt_⟩
def Qli (a:Int):Option Bool:=
 some (decide (4<(max2 a (w64 (0-a)))))
theorem Qon (a){r}(h:Qli a=some r):Qd prog 84 [.I a] [] (Qj (.b r) []):=by
 refine Qd.walk 8 func84 rfl rfl rfl fun C hC=>?_
 refine tg_ hC [.n 16] rfl ?_
 cases h
 exact d1_ rfl rfl tt_
def Qeh (b:(List Int))(a:Int):Option (Int⊕(Int⊕Unit)):=
 bif (decide (a<(b.length:Int)))then
 (idx b a).bind fun c=>
 (Qli c).bind fun d=>
 bif d then
 some (.inr (.inl a))
 else
 some (.inl (w64 (a+1)))
 else
 some (.inr (.inr ()))
def Qei (a:Int):Option Int:=
 some a
def Qej : Option Int:=
 some (-1)
def Qfr (a:(List Int)):Option Int:=
 (Qt (fun st=>Qeh a st) 0).bind (Sum.elim (fun q=>Qei q) (fun q=>Qej))
theorem QjL (g){r}(h:Qfr g=some r):Qd prog 80 [.sl 1 (g.map Qb),.clo (.func 84) [] []] [] (Qj (.I r) []):=by
 refine Qd.walk 19 func80 rfl rfl rfl fun C hC=>?_
 refine Qa hC [.n 9,.o (.ln g.length),.n 4,.K [0,1,7,8] []] rfl ⟨tt_,Qg⟩ ?_
 obtain⟨j,i,h⟩:=Qc h
 refine AK.loop (body:=(fun st=>Qeh g st)) (fun st σ=>σ=⟨[(0,.sl 1 (g.map Qb)),(1,.clo (.func 84) [] []),(7,.I (g.length:Int)),(8,.I st)],[]⟩) (Sum.elim (fun q e σ=>e=.ret∧σ=⟨[(4,.I q)],[]⟩) (fun q e σ=>e=.exit 0∧σ=⟨[],[]⟩)) i rfl ?_ ?_
 ·rintro t o σ rfl h
  refine tg_ hC [.n 6] rfl ?_
  rcases Qq h with⟨f,h⟩|⟨f,h⟩
  ·obtain⟨m,k,h⟩:=Qc h
   obtain⟨p,l,h⟩:=Qc h
   refine Qa hC [.T,.n 15,.o (.row (Qb m)),.n 1,.o (.c false [.d] (.b p)),.n 2] rfl ⟨⟨⟨tt_,f⟩,(QA k)⟩,(Qon _ l)⟩ ?_
   refine bg_ h (fun a h=>Qa hC [.T,.n 9,.K [4] []] rfl ⟨tt_,a⟩ ?_) fun a h=>Qa hC [.F,.n 7,.K [0,1,7,8] []] rfl ⟨tt_,a⟩ ?_
   ·cases h
    exact QaH rfl (an_ rfl rfl)
   cases h
   exact QJ rfl rfl
  refine Qa hC [.F,.n 2,.K [] []] rfl ⟨tt_,f⟩ ?_
  cases h
  exact QK rfl (an_ rfl rfl)
 rcases j with(s | _)
 ·replace h:Qei s=some r:=h
  rintro e σ ⟨rfl,rfl⟩
  refine tg_ hC [.n 2] rfl ?_
  cases h
  exact d1_ rfl rfl tt_
 replace h:Qej=some r:=h
 rintro e σ ⟨rfl,rfl⟩
 refine tg_ hC [.n 8] rfl ?_
 cases h
 exact d1_ rfl rfl tt_
def Qek (a:(List Int)):Option Bool:=
 (Qfr a).bind fun b=>
 some (decide (0≤b))
theorem Qim (c){r}(h:Qek c=some r):Qd prog 47 [.sl 1 (c.map Qb),.clo (.func 84) [] []] [] (Qj (.b r) []):=by
 refine Qd.walk 9 func47 rfl rfl rfl fun C hC=>?_
 obtain⟨e,a,h⟩:=Qc h
 refine Qa hC [.n 9,.cm (.fn) [] [] [] [.d,.d] [] (.I e),.n 5] rfl ⟨tt_,(QjL _ a)⟩ ?_
 cases h
 exact d1_ rfl rfl tt_
def QmJ (a:(List Int)):Option Bool:=
 (Qek a).bind fun b=>
 some b
theorem QpB (c){r}(h:QmJ c=some r):Qd prog 51 [.sl 1 (c.map Qb)] [] (Qj (.b r) []):=by
 refine Qd.walk 5 func51 rfl rfl rfl fun C hC=>?_
 obtain⟨e,a,h⟩:=Qc h
 refine Qa hC [.n 8,.cm (.fn) [] [] [] [.d,.d] [] (.b e),.n 4] rfl ⟨tt_,(Qim _ a)⟩ ?_
 cases h
 exact d1_ rfl rfl tt_
def Qfs (b:QLL)(a:Int):Option (Int⊕(Int⊕Unit)):=
 bif (decide (a<(b.length:Int)))then
 (idx b a).bind fun c=>
 (QmJ c).bind fun d=>
 bif d then
 some (.inr (.inl a))
 else
 some (.inl (w64 (a+1)))
 else
 some (.inr (.inr ()))
def Qft (a:Int):Option Int:=
 some a
def Qfu : Option Int:=
 some (-1)
def QgK (a:QLL):Option Int:=
 (Qt (fun st=>Qfs a st) 0).bind (Sum.elim (fun q=>Qft q) (fun q=>Qfu))
theorem Qky (g){r}(h:QgK g=some r):Qd prog 83 [.sl 1 (g.map Qf),.clo (.func 51) [] []] [] (Qj (.I r) []):=by
 refine Qd.walk 19 func83 rfl rfl rfl fun C hC=>?_
 refine Qa hC [.n 9,.o (.ln g.length),.n 4,.K [0,1,7,8] []] rfl ⟨tt_,Qg⟩ ?_
 obtain⟨j,i,h⟩:=Qc h
 refine AK.loop (body:=(fun st=>Qfs g st)) (fun st σ=>σ=⟨[(0,.sl 1 (g.map Qf)),(1,.clo (.func 51) [] []),(7,.I (g.length:Int)),(8,.I st)],[]⟩) (Sum.elim (fun q e σ=>e=.ret∧σ=⟨[(4,.I q)],[]⟩) (fun q e σ=>e=.exit 0∧σ=⟨[],[]⟩)) i rfl ?_ ?_
 ·rintro t o σ rfl h
  refine tg_ hC [.n 6] rfl ?_
  rcases Qq h with⟨f,h⟩|⟨f,h⟩
  ·obtain⟨m,k,h⟩:=Qc h
   obtain⟨p,l,h⟩:=Qc h
   refine Qa hC [.T,.n 15,.o (.row (Qf m)),.n 1,.o (.c false [.d] (.b p)),.n 2] rfl ⟨⟨⟨tt_,f⟩,(QA k)⟩,(QpB _ l)⟩ ?_
   refine bg_ h (fun a h=>Qa hC [.T,.n 9,.K [4] []] rfl ⟨tt_,a⟩ ?_) fun a h=>Qa hC [.F,.n 7,.K [0,1,7,8] []] rfl ⟨tt_,a⟩ ?_
   ·cases h
    exact QaH rfl (an_ rfl rfl)
   cases h
   exact QJ rfl rfl
  refine Qa hC [.F,.n 2,.K [] []] rfl ⟨tt_,f⟩ ?_
  cases h
  exact QK rfl (an_ rfl rfl)
 rcases j with(s | _)
 ·replace h:Qft s=some r:=h
  rintro e σ ⟨rfl,rfl⟩
  refine tg_ hC [.n 2] rfl ?_
  cases h
  exact d1_ rfl rfl tt_
 replace h:Qfu=some r:=h
 rintro e σ ⟨rfl,rfl⟩
 refine tg_ hC [.n 8] rfl ?_
 cases h
 exact d1_ rfl rfl tt_
def Qfv (a:QLL):Option Bool:=
 (QgK a).bind fun b=>
 some (decide (0≤b))
theorem QjM (c){r}(h:Qfv c=some r):Qd prog 48 [.sl 1 (c.map Qf),.clo (.func 51) [] []] [] (Qj (.b r) []):=by
 refine Qd.walk 9 func48 rfl rfl rfl fun C hC=>?_
 obtain⟨e,a,h⟩:=Qc h
 refine Qa hC [.n 9,.cm (.fn) [] [] [] [.d,.d] [] (.I e),.n 5] rfl ⟨tt_,(Qky _ a)⟩ ?_
 cases h
 exact d1_ rfl rfl tt_
def Qdm (a:(List Int)):Option (List Int):=
 (chk (decide (([]:List Int).length+a.length≤4294967296))).bind fun _=>
 some (([]:List Int)++a)
theorem Qhc (a){r}(h:Qdm a=some r):Qd prog 86 [.sl 1 (a.map Qb)] [] (Qj (.own 600 r.length) [(600,.arr 1 (r.map Qb))]):=by
 refine Qd.walk 8 func86 rfl rfl rfl fun C hC=>?_
 unfold Qdm at h
 refine tg_ hC [.n 9] rfl ?_
 refine AK.eqNil rfl rfl rfl (QD hC.n rfl) rfl rfl Qv0 ?_ ?_
 ·intro b
  replace h:some ([]:List Int)=some r:=by simpa [chk,List.map_eq_nil_iff.1 b] using h
  refine Qa hC [.n 10,.adopt 2 600 1,.O 600 (.arr 1 (([]:List Int).map Qb)),.S 2 (.own 600 ([]:List Int).length)] rfl ⟨⟨tt_,rfl⟩,rfl⟩ ?_
  cases h
  exact d1_ rfl rfl ⟨rfl,tt_⟩
 obtain⟨c,h⟩:=Qas h
 refine Qa hC [.n 8,.O 5 (.arr 1 (([]:List Int).map Qb)),.S 5 (.own 5 ([]:List Int).length),.n 1,.app ((([]:List Int)++a).map Qb) (([]:List Int)++a).length,.n 4,.K [2] [5],.ren 5 600] rfl ⟨⟨⟨tt_,rfl⟩,rfl⟩,⟨Qg,Qc9 c Qg,QbS,QeC Qg⟩⟩ ?_
 cases h
 exact d1_ rfl rfl ⟨rfl,tt_⟩
def Qoo (b:Int)(a:Int):Option ((Int×Int)⊕Int):=
 bif (a != 0)then
 (chk (a != 0)).bind fun _=>
 some (.inl (a,(Int.tmod b a)))
 else
 some (.inr b)
def Qop (a:Int):Option Int:=
 some (max2 a (w64 (0-a)))
def Qk8 (a:Int)(b:Int):Option Int:=
 (Qt (fun st=>Qoo st.1 st.2) (a,b)).bind (fun q=>Qop q)
theorem QkJ (f g){r}(h:Qk8 f g=some r):Qd prog 89 [.I f,.I g] [] (Qj (.I r) []):=by
 refine Qd.walk 15 func89 rfl rfl rfl fun C hC=>?_
 refine tg_ hC [.n 7,.K [0,1] []] rfl ?_
 obtain⟨i,c,h⟩:=Qc h
 refine AK.loop (body:=(fun st=>Qoo st.1 st.2)) (fun st σ=>σ=⟨[(0,.I st.1),(1,.I st.2)],[]⟩) (fun q e σ=>e=.exit 0∧σ=⟨[(0,.I q)],[]⟩) c rfl ?_ ?_
 ·rintro ⟨j,k⟩ o σ rfl h
  refine tg_ hC [.n 7] rfl ?_
  rcases Qq h with⟨b,h⟩|⟨b,h⟩
  ·obtain⟨d,h⟩:=Qas h
   refine Qa hC [.T,.n 3,.K [0,1] []] rfl ⟨tt_,b⟩ ?_
   refine AK.draw2 Qp hC mixed [.N,.a .no none true true,.a .no none true,.a .no none true,.m .s,.m .s] [1] [] [0,1] [] rfl rfl rfl ⟨tt_,(neZ d)⟩ rfl (by kernel_rfl) rfl rfl rfl ?_
   refine tg_ hC [.n 1,.K [0,1] []] rfl ?_
   cases h
   exact QJ rfl rfl
  refine Qa hC [.F,.n 2,.K [0] []] rfl ⟨tt_,b⟩ ?_
  cases h
  exact QK rfl (an_ rfl rfl)
 replace h:Qop i=some r:=h
 rintro e σ ⟨rfl,rfl⟩
 refine tg_ hC [.n 12] rfl ?_
 cases h
 exact d1_ rfl rfl tt_
def QlX (b:Int)(a:Int):Option Int:=
 (chk (a != 0)).bind fun _=>
 some (w64 (Int.tdiv b a))
theorem Qpf (c a){r}(h:QlX c a=some r):Qd prog 161 [.I c,.loc 609 0 0] [(609,.var (Qb a))] (Qj (.I r) [(609,.var (Qb a))]):=by
 refine Qd.walk 7 func161 rfl rfl rfl fun C hC=>?_
 obtain⟨b,h⟩:=Qas h
 refine Qa hC [.n 14] rfl ⟨tt_,(neZ b)⟩ ?_
 cases h
 exact d1_ rfl rfl ⟨rfl,tt_⟩
def Qhd (e:(List Int))(f:Int)(a:Int)(b:(List Int)):Option ((Int×(List Int))⊕(List Int)):=
 bif (decide (a<(e.length:Int)))then
 (idx e a).bind fun c=>
 (QlX c f).bind fun d=>
 (idx b a).bind fun g=>
 some (.inl ((w64 (a+1)),(b.set a.toNat d)))
 else
 some (.inr b)
def Qhe (a:(List Int)):Option (List Int):=
 some a
def Qja (a:(List Int))(b:Int):Option (List Int):=
 (chk (decide (0≤(a.length:Int))&&decide ((a.length:Int)≤(a.length:Int))&&decide ((a.length:Int)≤4294967296))).bind fun _=>
 (Qt (fun st=>Qhd a b st.1 st.2) (0,(List.replicate (a.length:Int).toNat (0:Int)))).bind (fun q=>Qhe q)
theorem Qmo (b f){r}(h:Qja b f=some r):Qd prog 160 [.sl 1 (b.map Qb),.clo (.func 161) [] [.loc 609 0 0]] [(609,.var (Qb f))] (Qj (.own 600 r.length) [(600,.arr 1 (r.map Qb)),(609,.var (Qb f))]):=by
 refine Qd.walk 26 func160 rfl rfl rfl fun C hC=>?_
 obtain⟨l,h⟩:=Qas h
 refine Qa hC [.n 8,.o (.ln b.length),.o (.rows ((List.replicate (b.length:Int).toNat (0:Int)).map Qb)),.S 10 (.own 10 (List.replicate (b.length:Int).toNat (0:Int)).length),.n 7,.o (.ln b.length),.n 4,.K [1,5,11,12,13] [10,609]] rfl ⟨⟨⟨⟨tt_,Qg⟩,⟨l,QmD rfl⟩⟩,(by simp)⟩,Qg⟩ ?_
 obtain⟨m,i,h⟩:=Qc h
 refine AK.loop (body:=(fun st=>Qhd b f st.1 st.2)) (fun st σ=>σ=⟨[(1,.clo (.func 161) [] [.loc 609 0 0]),(5,.own 10 st.2.length),(11,.sl 1 (b.map Qb)),(12,.I (b.length:Int)),(13,.I st.1)],[(10,.arr 1 (st.2.map Qb)),(609,.var (Qb f))]⟩) (fun q e σ=>e=.exit 0∧σ=⟨[(5,.own 10 q.length)],[(10,.arr 1 (q.map Qb)),(609,.var (Qb f))]⟩) i rfl ?_ ?_
 ·rintro ⟨t,u⟩ o σ rfl h
  refine tg_ hC [.n 6] rfl ?_
  rcases Qq h with⟨a,h⟩|⟨a,h⟩
  ·obtain⟨p,j,h⟩:=Qc h
   obtain⟨g,k,h⟩:=Qc h
   obtain⟨s,c,h⟩:=Qc h
   refine Qa hC [.T,.n 7,.o (.row (Qb p)),.n 10,.cm (.clo) [(609,609)] [(609,609)] [] [.d,.d] [(609,.var (Qb f))] (.I g),.n 1,.st (Qb s) ((u.set t.toNat g).map Qb),.n 7,.S 5 (.own 10 (u.set t.toNat g).length),.K [1,5,11,12,13] [10,609]] rfl ⟨⟨⟨⟨⟨⟨tt_,a⟩,(QA j)⟩,(Qpf _ _ k)⟩,(Qcp c rfl)⟩,⟨(Qbl (QcP c).2),Qi6 rfl⟩⟩,(congrArg (fun n=>V.own 10 n) (by simp))⟩ ?_
   cases h
   exact QJ rfl rfl
  refine Qa hC [.F,.n 2,.K [5] [10,609]] rfl ⟨tt_,a⟩ ?_
  cases h
  exact QK rfl (an_ rfl rfl)
 replace h:Qhe m=some r:=h
 rintro e σ ⟨rfl,rfl⟩
 refine tg_ hC [.n 9,.K [4] [10,609],.ren 10 600] rfl ?_
 cases h
 exact d1_ rfl rfl ⟨rfl,rfl,tt_⟩
def Qlj (a:(List Int))(b:Int)(e:Int):Option ((Int×Int)⊕Int):=
 bif (decide (b<(a.length:Int)))then
 (idx a b).bind fun c=>
 (Qk8 e c).bind fun d=>
 some (.inl ((w64 (b+1)),d))
 else
 some (.inr e)
def Qlk (a:(List Int))(c:Int):Option (List Int):=
 bif (c==0)then
 some a
 else
 (Qja a c).bind fun b=>
 some b
def Qhf (a:(List Int)):Option (List Int):=
 (Qt (fun st=>Qlj a st.1 st.2) (0,0)).bind (fun q=>Qlk a q)
theorem QhS (a){r}(h:Qhf a=some r):Qd prog 85 [.sl 1 (a.map Qb)] [] (Qj (.sl 1 (r.map Qb)) []):=by
 refine Qd.walk 22 func85 rfl rfl rfl fun C hC=>?_
 refine Qa hC [.n 9,.O 3 (.var (Qb 0)),.n 6,.o (.ln a.length),.n 4,.K [0,3,6,7,8] [3]] rfl ⟨⟨tt_,rfl⟩,Qg⟩ ?_
 obtain⟨s,i,h⟩:=Qc h
 refine AK.loop (body:=(fun st=>Qlj a st.1 st.2)) (fun st σ=>σ=⟨[(0,.sl 1 (a.map Qb)),(3,.loc 3 0 0),(6,.sl 1 (a.map Qb)),(7,.I (a.length:Int)),(8,.I st.1)],[(3,.var (Qb st.2))]⟩) (fun q e σ=>e=.exit 0∧σ=⟨[(0,.sl 1 (a.map Qb)),(3,.loc 3 0 0)],[(3,.var (Qb q))]⟩) i rfl ?_ ?_
 ·rintro ⟨t,u⟩ o σ rfl h
  refine tg_ hC [.n 6] rfl ?_
  rcases Qq h with⟨b,h⟩|⟨b,h⟩
  ·obtain⟨p,j,h⟩:=Qc h
   obtain⟨k,l,h⟩:=Qc h
   refine Qa hC [.T,.n 6,.o (.row (Qb p)),.n 7,.o (.c false [.d,.d] (.I k)),.n 1,.O 3 (.var (Qb k)),.n 7,.K [0,3,6,7,8] [3]] rfl ⟨⟨⟨⟨tt_,b⟩,(QA j)⟩,(QkJ _ _ l)⟩,rfl⟩ ?_
   cases h
   exact QJ rfl rfl
  refine Qa hC [.F,.n 2,.K [0,3] [3]] rfl ⟨tt_,b⟩ ?_
  cases h
  exact QK rfl (an_ rfl rfl)
 replace h:Qlk a s=some r:=h
 rintro e σ ⟨rfl,rfl⟩
 refine tg_ hC [.n 9] rfl ?_
 rcases Qq h with⟨f,h⟩|⟨f,h⟩
 ·refine Qa hC [.T,.n 8] rfl ⟨tt_,f⟩ ?_
  cases h
  exact d1_ rfl rfl tt_
 obtain⟨g,m,h⟩:=Qc h
 refine Qa hC [.F,.n 6,.cm (.fn) [(609,3)] [(21,600),(3,609)] [] [.d,.d] [(600,.arr 1 (g.map Qb)),(609,.var (Qb s))] (.own 600 g.length),.n 4,.frz 21 (g.map Qb) [2] []] rfl ⟨⟨⟨tt_,f⟩,(Qmo _ _ m)⟩,⟨tt_,(QcQ Qg)⟩⟩ ?_
 cases h
 exact d1_ rfl rfl tt_
def QiT (i:Int)(c:(List Int))(by_3:(List Int))(a:Int)(b:Int)(d:(List Int)):Option ((Int×(List Int))⊕(List Int)):=
 bif (decide (b<((List.replicate i.toNat (0:Int)).length:Int)))then
 (idx c b).bind fun e=>
 (idx by_3 a).bind fun f=>
 (idx by_3 b).bind fun g=>
 (idx c a).bind fun h=>
 (idx d b).bind fun j=>
 some (.inl ((w64 (b+1)),(d.set b.toNat (w64 ((w64 (e*f))-(w64 (g*h)))))))
 else
 some (.inr d)
def QiU (a:(List Int)):Option (List Int):=
 (Qhf a).bind fun b=>
 some b
def QcC (c:Int)(b:(List Int))(by_3:(List Int))(a:Int):Option (List Int):=
 (idx b a).bind fun d=>
 bif (d==0)then
 some b
 else
 (chk (decide (0≤c)&&decide (c≤c)&&decide (c≤4294967296))).bind fun _=>
 (Qt (fun st=>QiT c b by_3 a st.1 st.2) (0,(List.replicate c.toNat (0:Int)))).bind (fun q=>QiU q)
theorem QcZ (t f by_3 b){r}(h:QcC t f by_3 b=some r):Qd prog 87 [.agg [.I t,.J],.sl 1 (f.map Qb),.sl 1 (by_3.map Qb),.I b] [] (Qj (.sl 1 (r.map Qb)) []):=by
 refine Qd.walk 50 func87 rfl rfl rfl fun C hC=>?_
 obtain⟨L,E,h⟩:=Qc h
 refine Qa hC [.n 11,.o (.row (Qb L)),.n 4] rfl ⟨tt_,(QA E)⟩ ?_
 rcases Qq h with⟨j,h⟩|⟨j,h⟩
 ·refine Qa hC [.T,.n 8] rfl ⟨tt_,j⟩ ?_
  cases h
  exact d1_ rfl rfl tt_
 obtain⟨G,h⟩:=Qas h
 refine Qa hC [.F,.n 6,.o (.rows ((List.replicate t.toNat (0:Int)).map Qb)),.S 19 (.own 19 (List.replicate t.toNat (0:Int)).length),.n 12,.K [1,2,3,9,21,22] [19]] rfl ⟨⟨⟨tt_,j⟩,⟨G,QmD rfl⟩⟩,(by simp)⟩ ?_
 obtain⟨u,v,h⟩:=Qc h
 refine AK.loop (body:=(fun st=>QiT t f by_3 b st.1 st.2)) (fun st σ=>σ=⟨[(1,.sl 1 (f.map Qb)),(2,.sl 1 (by_3.map Qb)),(3,.I b),(9,.own 19 st.2.length),(21,.I ((List.replicate t.toNat (0:Int)).length:Int)),(22,.I st.1)],[(19,.arr 1 (st.2.map Qb))]⟩) (fun q e σ=>e=.exit 0∧σ=⟨[(9,.own 19 q.length)],[(19,.arr 1 (q.map Qb))]⟩) v rfl ?_ ?_
 ·rintro ⟨w,x⟩ o σ rfl h
  refine tg_ hC [.n 6] rfl ?_
  rcases Qq h with⟨g,h⟩|⟨g,h⟩
  ·obtain⟨k,y,h⟩:=Qc h
   obtain⟨l,z,h⟩:=Qc h
   obtain⟨p,A,h⟩:=Qc h
   obtain⟨s,B,h⟩:=Qc h
   obtain⟨H,i,h⟩:=Qc h
   refine Qa hC [.T,.n 10,.K [1,2,3,9,10,21,22] [19]] rfl ⟨tt_,g⟩ ?_
   refine AK.draw2 Qp hC mixed [.N,.N,.N,.N,.a (.row (Qb k)) none false,.N,.N,.N,.a (.row (Qb l)) none false,.N,.N,.N,.N,.a (.row (Qb p)) none false,.N,.N,.N,.a (.row (Qb s)) none false,.N,.N,.N,.N,.m (.st (Qb H) ((x.set w.toNat (w64 ((w64 (k*l))-(w64 (p*s))))).map Qb))] [] [] [1,2,3,9,21,22] [19] rfl rfl rfl ⟨⟨⟨⟨⟨⟨tt_,(QA y)⟩,(QA z)⟩,(QA A)⟩,(QA B)⟩,(Qcp i rfl)⟩,⟨(Qbl (QcP i).2),Qi6 rfl⟩⟩ rfl (by kernel_rfl) rfl rfl rfl ?_
   refine Qa hC [.n 6,.S 9 (.own 19 (x.set w.toNat (w64 ((w64 (k*l))-(w64 (p*s))))).length),.K [1,2,3,9,21,22] [19]] rfl ⟨tt_,(congrArg (fun n=>V.own 19 n) (by simp))⟩ ?_
   cases h
   exact QJ rfl rfl
  refine Qa hC [.F,.n 2,.K [9] [19]] rfl ⟨tt_,g⟩ ?_
  cases h
  exact QK rfl (an_ rfl rfl)
 replace h:QiU u=some r:=h
 rintro e σ ⟨rfl,rfl⟩
 obtain⟨J,D,h⟩:=Qc h
 refine Qa hC [.n 5,.frz 19 (u.map Qb) [9,48] [],.o (.c false [.d] (.sl 1 (J.map Qb))),.n 4] rfl ⟨⟨tt_,⟨⟨tt_,(QcQ Qg)⟩,(QcQ Qg)⟩⟩,(QhS _ D)⟩ ?_
 cases h
 exact d1_ rfl rfl tt_
def Qkk (a:Int):Option Bool:=
 some (a != 0)
theorem Qnr (a){r}(h:Qkk a=some r):Qd prog 88 [.I a] [] (Qj (.b r) []):=by
 refine Qd.walk 5 func88 rfl rfl rfl fun C hC=>?_
 refine tg_ hC [.n 13] rfl ?_
 cases h
 exact d1_ rfl rfl tt_
def Qel (b:(List Int))(a:Int):Option (Int⊕(Int⊕Unit)):=
 bif (decide (a<(b.length:Int)))then
 (idx b a).bind fun c=>
 (Qkk c).bind fun d=>
 bif d then
 some (.inr (.inl a))
 else
 some (.inl (w64 (a+1)))
 else
 some (.inr (.inr ()))
def Qem (a:Int):Option Int:=
 some a
def Qen : Option Int:=
 some (-1)
def QcS (a:(List Int)):Option Int:=
 (Qt (fun st=>Qel a st) 0).bind (Sum.elim (fun q=>Qem q) (fun q=>Qen))
theorem Qeo (g){r}(h:QcS g=some r):Qd prog 80 [.sl 1 (g.map Qb),.clo (.func 88) [] []] [] (Qj (.I r) []):=by
 refine Qd.walk 19 func80 rfl rfl rfl fun C hC=>?_
 refine Qa hC [.n 9,.o (.ln g.length),.n 4,.K [0,1,7,8] []] rfl ⟨tt_,Qg⟩ ?_
 obtain⟨j,i,h⟩:=Qc h
 refine AK.loop (body:=(fun st=>Qel g st)) (fun st σ=>σ=⟨[(0,.sl 1 (g.map Qb)),(1,.clo (.func 88) [] []),(7,.I (g.length:Int)),(8,.I st)],[]⟩) (Sum.elim (fun q e σ=>e=.ret∧σ=⟨[(4,.I q)],[]⟩) (fun q e σ=>e=.exit 0∧σ=⟨[],[]⟩)) i rfl ?_ ?_
 ·rintro t o σ rfl h
  refine tg_ hC [.n 6] rfl ?_
  rcases Qq h with⟨f,h⟩|⟨f,h⟩
  ·obtain⟨m,k,h⟩:=Qc h
   obtain⟨p,l,h⟩:=Qc h
   refine Qa hC [.T,.n 15,.o (.row (Qb m)),.n 1,.o (.c false [.d] (.b p)),.n 2] rfl ⟨⟨⟨tt_,f⟩,(QA k)⟩,(Qnr _ l)⟩ ?_
   refine bg_ h (fun a h=>Qa hC [.T,.n 9,.K [4] []] rfl ⟨tt_,a⟩ ?_) fun a h=>Qa hC [.F,.n 7,.K [0,1,7,8] []] rfl ⟨tt_,a⟩ ?_
   ·cases h
    exact QaH rfl (an_ rfl rfl)
   cases h
   exact QJ rfl rfl
  refine Qa hC [.F,.n 2,.K [] []] rfl ⟨tt_,f⟩ ?_
  cases h
  exact QK rfl (an_ rfl rfl)
 rcases j with(s | _)
 ·replace h:Qem s=some r:=h
  rintro e σ ⟨rfl,rfl⟩
  refine tg_ hC [.n 2] rfl ?_
  cases h
  exact d1_ rfl rfl tt_
 replace h:Qen=some r:=h
 rintro e σ ⟨rfl,rfl⟩
 refine tg_ hC [.n 8] rfl ?_
 cases h
 exact d1_ rfl rfl tt_
noncomputable def QfR (s1:Int)(row10:(List Int))(k12:Int)(v13:(List Int)):Option ((List Int)⊕Empty):=
 (QcC s1 row10 v13 k12).bind fun x14=>
 some (.inl x14)
noncomputable def QfS (s1:Int)(row10:(List Int))(x16:Int)(m20:(List (Int×(List Int))))(k22:Int)(v23:(List Int)):Option ((List (Int×(List Int)))⊕Empty):=
 (QcC s1 v23 row10 x16).bind fun x24=>
 some (.inl (Qb4 ltI m20 k22 x24))
def Qj4 (b:Int)(a:(List Int))(c:(List (Int×(List Int)))):Option (List (Int×(List Int))):=
 some (Qb4 ltI c b a)
noncomputable def Qj5 (m2:(List (Int×(List Int))))(s1:Int)(row10:(List Int)):Option (List (Int×(List Int))):=
 (QcS row10).bind fun x16=>
 bif (decide (x16<0))then
 some m2
 else
 (QhM (fun st p=>QfS s1 row10 x16 st p.1 p.2) m2 m2).bind (Sum.elim (fun q=>Qj4 x16 row10 q) (fun q=>Empty.elim q))
noncomputable def Qll (s1:Int)(m2:(List (Int×(List Int))))(row3:(List Int)):Option (List (Int×(List Int))):=
 (Qdm row3).bind fun x6=>
 (Qhf x6).bind fun x7=>
 (QhM (fun st p=>QfR s1 st p.1 p.2) x7 m2).bind (Sum.elim (fun q=>Qj5 m2 s1 q) (fun q=>Empty.elim q))
theorem Qoq (u P E){r}(h:Qll u P E=some r):Qd prog 52 [.agg [.I u,.map 609],.sl 1 (E.map Qb)] [(609,.map (QN V.I (fun x=>V.sl 1 (x.map Qb)) P))] (Qj (.tup []) [(609,.map (QN V.I (fun x=>V.sl 1 (x.map Qb)) r))]):=by
 refine Qd.walk 49 func52 rfl rfl rfl fun C hC=>?_
 obtain⟨x6,a3,h⟩:=Qc h
 obtain⟨x7,a4,h⟩:=Qc h
 refine Qa hC [.n 8,.o (.co false [.d] 1 (x6.map Qb) x6.length),.frz 10 (x6.map Qb) [10] [],.o (.c false [.d] (.sl 1 (x7.map Qb))),.n 8] rfl ⟨⟨⟨tt_,⟨(Qhc _ a3),Qg,.inl rfl⟩⟩,⟨tt_,(QcQ Qg)⟩⟩,(QhS _ a4)⟩ ?_
 refine AK.openMapK (b:=609) Qkj rfl fun B D L8 S a8 U=>?_
 refine Qa hC [.x (fun σ=>(σ.set 14 (.itr B D #[] none)).put 14 (.loc 14 0 0)),.n 3,.K [1,2,14] [2,14,609]] rfl ⟨tt_,(Stp.range (b:=609) rfl rfl (QD hC.n rfl) rfl rfl Qjr rfl)⟩ ?_
 obtain⟨a5,W,h⟩:=Qc h
 refine AK.range (body:=(fun st p=>QfR u st p.1 p.2)) (fun st seen σ=>∃cur:Option Nat,σ=⟨[(1,.sl 1 (st.map Qb)),(2,.loc 2 0 0),(14,.loc 14 0 0)],[(2,.var [.I u,.map 609]),(14,.itr B D seen cur),(609,.mapX B D (Qbn V.I (fun x=>V.sl 1 (x.map Qb)) L8) (QN V.I (fun x=>V.sl 1 (x.map Qb)) P))]⟩) (fun (q:Empty) _ _=>False) (fun st e σ=>e=.exit 0∧σ=⟨[(1,.sl 1 (st.map Qb)),(2,.loc 2 0 0)],[(2,.var [.I u,.map 609]),(609,.mapX B D (Qbn V.I (fun x=>V.sl 1 (x.map Qb)) L8) (QN V.I (fun x=>V.sl 1 (x.map Qb)) P))]⟩) S U W (ex_ _ rfl) ?_ ?_
 ·rintro g seen σ ⟨cur,rfl⟩ hex
  refine tg_ hC [.n 2] rfl ?_
  refine AK.nextT (b:=14) (m:=609) rfl rfl rfl (QD hC.n rfl) rfl rfl rfl rfl ?_ ?_
  ·intro hleft
   refine tg_ hC [.n 7,.K [1,2] [2,609]] rfl ?_
   exact AK.done (Or.inl (an_ hleft (an_ (fun h=>(by cases h)) (an_ rfl rfl))))
  intro a9 X Y G
  obtain⟨o,h⟩:=hex _ G
  have ho:=h
  replace h:QfR u g X Y=some o:=h
  obtain⟨a6,Z,h⟩:=Qc h
  refine Qa hC [.n 10,.x (fun σ=>σ.put 17 (.tup [.I X,.sl 1 (Y.map Qb)])),.n 11,.cm (.fn) [] [] [] [.f 1,.d,.d,.d] [] (.sl 1 (a6.map Qb)),.n 3,.K [1,2,14] [2,14,609]] rfl ⟨⟨tt_,(Stp.entryT (b:=14) (m:=609) (e:=V.I) (f:=(fun x=>V.sl 1 (x.map Qb))) rfl rfl (QD hC.n rfl) rfl G rfl rfl)⟩,(QcZ _ _ _ _ Z)⟩ ?_
  cases h
  exact AK.done (Or.inr (ex_ _ (an_ G (Or.inl (ex_ _ (an_ ho (an_ rfl (ex_ _ rfl))))))))
 rcases a5 with(g | q)
 ·replace h:Qj5 P u g=some r:=h
  rintro e σ ⟨rfl,rfl⟩
  obtain⟨i,a0,h⟩:=Qc h
  refine Qa hC [.n 5,.cm (.fn) [] [] [] [.d,.d] [] (.I i),.n 10] rfl ⟨tt_,(Qeo _ a0)⟩ ?_
  refine bg_ h (fun w h=>Qa hC [.T,.n 2] rfl ⟨tt_,w⟩ ?_) fun w h=>Qa hC [.F,.n 7] rfl ⟨tt_,w⟩ ?_
  ·refine AK.closeMap (b:=609) rfl ?_
   refine tg_ hC [.K [] [609]] rfl ?_
   cases h
   refine AK.done ?_
   exact ex_ [] (an_ tt_ (QbL ⟨rfl,tt_⟩))
  refine AK.closeMap (b:=609) rfl ?_
  refine AK.openMapK (b:=609) Qkj rfl fun s t L18 H J M=>?_
  refine Qa hC [.x (fun σ=>(σ.set 31 (.itr s t #[] none)).put 31 (.loc 31 0 0)),.n 3,.K [1,2,6,31] [2,31,609]] rfl ⟨tt_,(Stp.range (b:=609) rfl rfl (QD hC.n rfl) rfl rfl Qjr rfl)⟩ ?_
  obtain⟨a7,a1,h⟩:=Qc h
  refine AK.range (body:=(fun st p=>QfS u g i st p.1 p.2)) (fun st seen σ=>∃(cur:Option Nat) (LU19:List (Nat×(Int×(List Int)))),QdH L18 LU19 seen∧σ=⟨[(1,.sl 1 (g.map Qb)),(2,.loc 2 0 0),(6,.I i),(31,.loc 31 0 0)],[(2,.var [.I u,.map 609]),(31,.itr s t seen cur),(609,.mapX s t (Qbn V.I (fun x=>V.sl 1 (x.map Qb)) LU19) (QN V.I (fun x=>V.sl 1 (x.map Qb)) st))]⟩) (fun (q:Empty) _ _=>False) (fun st e σ=>e=.exit 2∧σ=⟨[(1,.sl 1 (g.map Qb)),(2,.loc 2 0 0),(6,.I i)],[(2,.var [.I u,.map 609]),(609,.map (QN V.I (fun x=>V.sl 1 (x.map Qb)) st))]⟩) H M a1 (ex_ _ (ex_ _ (an_ QdH.refl rfl))) ?_ ?_
  ·rintro j seen σ ⟨cur,LU19,hU19,rfl⟩ hex
   refine tg_ hC [.n 2] rfl ?_
   refine AK.nextT (b:=31) (m:=609) rfl rfl rfl (QD hC.n rfl) rfl rfl rfl rfl ?_ ?_
   ·intro hleft
    replace hleft:=hU19.nil hleft
    refine AK.closeMap (b:=609) rfl ?_
    refine tg_ hC [.n 7,.K [1,2,6] [2,609]] rfl ?_
    exact AK.done (Or.inl (an_ hleft (an_ (fun h=>(by cases h)) (an_ rfl rfl))))
   intro b0 y O hq19z
   have z:=hU19.mem2 hq19z
   obtain⟨o,h⟩:=hex _ z
   have ho:=h
   replace h:QfS u g i j y O=some o:=h
   obtain⟨A,a2,h⟩:=Qc h
   refine Qa hC [.n 10,.x (fun σ=>σ.put 34 (.tup [.I y,.sl 1 (O.map Qb)])),.n 6,.K [1,2,6,7,8,31] [2,31,609]] rfl ⟨tt_,(Stp.entryT (b:=31) (m:=609) (e:=V.I) (f:=(fun x=>V.sl 1 (x.map Qb))) rfl rfl (QD hC.n rfl) rfl hq19z rfl rfl)⟩ ?_
   refine AK.draw2 Qp hC mixed [.N,.N,.N,.N,.N,.N,.N,.a (.any (.sl 1 (A.map Qb)) none) none false,.m (.any ⟨[],[(609,.mapX s t (Qbn V.I (fun x=>V.sl 1 (x.map Qb)) (QkI LU19 y A)) (QN V.I (fun x=>V.sl 1 (x.map Qb)) (Qb4 ltI j y A)))],none⟩)] [] [] [1,2,6,31] [2,31,609] rfl rfl rfl ⟨⟨tt_,(fun σ h1 h2 _=>Stp.callSame (md:=.cm (.fn) [] [] [] [.f 1,.d,.d,.d] [] (.sl 1 (A.map Qb)) []) Qp hC h1 h2 rfl ⟨tt_,(QcZ _ _ _ _ a2)⟩)⟩,(fun σ h1 h2=>Stp.mapUpdateX (e:=V.I) (f:=(fun x=>V.sl 1 (x.map Qb))) (L:=LU19) (l:=j) (k:=y) (v:=A) (v0:=O) ltI rfl rfl (h1 _ _ rfl) (h2 _ _ rfl) (h1 _ _ rfl) (h1 _ _ rfl) Qjr Qkj rfl (Qga.1 hq19z).1)⟩ rfl (by kernel_rfl) rfl rfl rfl ?_
   refine tg_ hC [.n 1,.K [1,2,6,31] [2,31,609]] rfl ?_
   cases h
   exact AK.done (Or.inr (ex_ _ (an_ z (Or.inl (ex_ _ (an_ ho (an_ rfl (ex_ _ (ex_ _ (an_ (QdH.upd J hU19 z) rfl))))))))))
  rcases a7 with(j | q)
  ·replace h:Qj4 i g j=some r:=h
   rintro e σ ⟨rfl,rfl⟩
   refine Qa hC [.n 7,.x (fun σ=>σ.set 609 (.map (QN V.I (fun x=>V.sl 1 (x.map Qb)) (Qb4 ltI j i g)))),.n 1,.K [] [609]] rfl ⟨tt_,(Stp.mapUpdate (e:=V.I) (f:=(fun x=>V.sl 1 (x.map Qb))) (l:=j) (k:=i) (v:=g) ltI rfl rfl rfl rfl rfl rfl Qjr Qkj rfl)⟩ ?_
   cases h
   refine AK.done ?_
   exact ex_ [] (an_ tt_ (QbL ⟨rfl,tt_⟩))
  exact q.elim
 exact q.elim
def QcJ (a:Int)(b:Qm):Option Bool:=
 some ((decide (a<0))||(decide ((b.Places.length:Int)≤a)))
theorem Qkl (c d){r}(h:QcJ c d=some r):Qd prog 42 [.I c,.loc 609 0 0] [(609,.var (Qe d))] (Qj (.b r) [(609,.var (Qe d))]):=by
 refine Qd.walk 13 func42 rfl rfl rfl fun C hC=>?_
 refine tg_ hC [.n 6] rfl ?_
 refine AK.meetX (fun σ=>σ=⟨[(3,.b ((decide (c<0))||(decide ((d.Places.length:Int)≤c))))],[(609,.var (Qe d))]⟩) ?_ ?_
 ·refine tg_ hC [.n 4] rfl ?_
  rcases Qz (decide (c<0))with a | a
  ·refine Qa hC [.S 6 (.b true),.n 8,.S 3 (.b ((decide (c<0))||(decide ((d.Places.length:Int)≤c)))),.K [3] [609]] rfl ⟨(tc_ a),(congrArg V.b (orT a rfl))⟩ ?_
   exact AK.met rfl
  refine Qa hC [.S 6 (.b false),.n 3,.o (.ln d.Places.length),.n 4,.S 3 (.b ((decide (c<0))||(decide ((d.Places.length:Int)≤c)))),.K [3] [609]] rfl ⟨⟨(tc_ a),Qg⟩,(congrArg V.b (orF a rfl))⟩ ?_
  exact AK.met rfl
 rintro σ rfl
 refine tg_ hC [.n 2] rfl ?_
 cases h
 exact d1_ rfl rfl ⟨rfl,tt_⟩
def Q5 (c:(List Int))(d:Qm)(a:Int):Option (Int⊕(Int⊕Unit)):=
 bif (decide (a<(c.length:Int)))then
 (idx c a).bind fun e=>
 (QcJ e d).bind fun b=>
 bif b then
 some (.inr (.inl a))
 else
 some (.inl (w64 (a+1)))
 else
 some (.inr (.inr ()))
def Qep (a:Int):Option Int:=
 some a
def Qeq : Option Int:=
 some (-1)
def QbB (a:(List Int))(b:Qm):Option Int:=
 (Qt (fun st=>Q5 a b st) 0).bind (Sum.elim (fun q=>Qep q) (fun q=>Qeq))
theorem QjN (c f){r}(h:QbB c f=some r):Qd prog 80 [.own 609 c.length,.clo (.func 42) [] [.loc 610 0 0]] [(609,.arr 1 (c.map Qb)),(610,.var (Qe f))] (Qj (.I r) [(609,.arr 1 (c.map Qb)),(610,.var (Qe f))]):=by
 refine Qd.walk 19 func80 rfl rfl rfl fun C hC=>?_
 refine tg_ hC [.n 14,.K [0,1,7,8] [609,610]] rfl ?_
 obtain⟨l,i,h⟩:=Qc h
 refine AK.loop (body:=(fun st=>Q5 c f st)) (fun st σ=>σ=⟨[(0,.own 609 c.length),(1,.clo (.func 42) [] [.loc 610 0 0]),(7,.I (c.length:Int)),(8,.I st)],[(609,.arr 1 (c.map Qb)),(610,.var (Qe f))]⟩) (Sum.elim (fun q e σ=>e=.ret∧σ=⟨[(4,.I q)],[(609,.arr 1 (c.map Qb)),(610,.var (Qe f))]⟩) (fun q e σ=>e=.exit 0∧σ=⟨[],[(609,.arr 1 (c.map Qb)),(610,.var (Qe f))]⟩)) i rfl ?_ ?_
 ·rintro t o σ rfl h
  refine tg_ hC [.n 6] rfl ?_
  rcases Qq h with⟨g,h⟩|⟨g,h⟩
  ·obtain⟨p,j,h⟩:=Qc h
   obtain⟨m,k,h⟩:=Qc h
   refine Qa hC [.T,.n 16,.o (.row (Qb p)),.cm (.clo) [(609,610)] [(610,609)] [] [.d,.d] [(609,.var (Qe f))] (.b m),.n 2] rfl ⟨⟨⟨⟨tt_,g⟩,(Qcp j rfl)⟩,(Qbl (QcP j).2)⟩,(Qkl _ _ k)⟩ ?_
   refine bg_ h (fun a h=>Qa hC [.T,.n 9,.K [4] [609,610]] rfl ⟨tt_,a⟩ ?_) fun a h=>Qa hC [.F,.n 7,.K [0,1,7,8] [609,610]] rfl ⟨tt_,a⟩ ?_
   ·cases h
    exact QaH rfl (an_ rfl rfl)
   cases h
   exact QJ rfl rfl
  refine Qa hC [.F,.n 2,.K [] [609,610]] rfl ⟨tt_,g⟩ ?_
  cases h
  exact QK rfl (an_ rfl rfl)
 rcases l with(s | _)
 ·replace h:Qep s=some r:=h
  rintro e σ ⟨rfl,rfl⟩
  refine tg_ hC [.n 2] rfl ?_
  cases h
  exact d1_ rfl rfl ⟨rfl,rfl,tt_⟩
 replace h:Qeq=some r:=h
 rintro e σ ⟨rfl,rfl⟩
 refine tg_ hC [.n 8] rfl ?_
 cases h
 exact d1_ rfl rfl ⟨rfl,rfl,tt_⟩
def QbW (a:Int)(b:Int)(c:(List Int)):Option ((Int×Int×(List Int))⊕(Int×(List Int))):=
 some (.inl (b,(w64 (a+1)),c))
def Q1 (f:Qm)(c:Int)(b:Int)(a:(List Int)):Option ((Int×Int×(List Int))⊕(Int×(List Int))):=
 bif (decide (b<(a.length:Int)))then
 (idx a b).bind fun d=>
 (QcJ d f).bind fun e=>
 bif (!e)then
 (idx a c).bind fun g=>
 QbW b (w64 (c+1)) (a.set c.toNat d)
 else
 QbW b c a
 else
 some (.inr (c,a))
def Q2 (a:Int)(b:(List Int)):Option (List Int):=
 (chk (decide (0≤a)&&decide (a.toNat≤b.length))).bind fun _=>
 (chk (decide (0≤a)&&decide (a.toNat≤(b.take a.toNat++List.replicate (b.length-a.toNat) (0:Int)).length))).bind fun _=>
 some ((b.take a.toNat++List.replicate (b.length-a.toNat) (0:Int)).take a.toNat)
def Qaj (a:(List Int))(c:Qm):Option (List Int):=
 (QbB a c).bind fun b=>
 bif (b==(-1))then
 some a
 else
 (Qt (fun st=>Q1 c st.1 st.2.1 st.2.2) (b,(w64 (b+1)),a)).bind (fun q=>Q2 q.1 q.2)
theorem Qjb (D m){r}(h:Qaj D m=some r):Qd prog 41 [.own 609 D.length,.clo (.func 42) [] [.loc 610 0 0]] [(609,.arr 1 (D.map Qb)),(610,.var (Qe m))] (Qj (.own 609 r.length) [(609,.arr 1 (r.map Qb)),(610,.var (Qe m))]):=by
 refine Qd.walk 42 func41 rfl rfl rfl fun C hC=>?_
 obtain⟨N,E,h⟩:=Qc h
 refine Qa hC [.n 9,.cm (.fn) [(609,609),(610,610)] [(609,609),(610,610)] [] [.d,.d] [(609,.arr 1 (D.map Qb)),(610,.var (Qe m))] (.I N),.n 10] rfl ⟨tt_,(QjN _ _ E)⟩ ?_
 refine bg_ h (fun u h=>Qa hC [.T,.n 8,.K [4] [609,610]] rfl ⟨tt_,u⟩ ?_) fun u h=>Qa hC [.F,.n 11,.K [0,1,5,6] [609,610]] rfl ⟨tt_,u⟩ ?_
 ·cases h
  exact d1_ rfl rfl ⟨rfl,rfl,tt_⟩
 obtain⟨G,y,h⟩:=Qc h
 refine AK.loop (body:=(fun st=>Q1 m st.1 st.2.1 st.2.2)) (fun st σ=>σ=⟨[(0,.own 609 st.2.2.length),(1,.clo (.func 42) [] [.loc 610 0 0]),(5,.I st.1),(6,.I st.2.1)],[(609,.arr 1 (st.2.2.map Qb)),(610,.var (Qe m))]⟩) (fun q e σ=>e=.exit 0∧σ=⟨[(0,.own 609 q.2.length),(5,.I q.1)],[(609,.arr 1 (q.2.map Qb)),(610,.var (Qe m))]⟩) y rfl ?_ ?_
 ·rintro ⟨L,z,A⟩ o σ rfl h
  refine tg_ hC [.n 9] rfl ?_
  refine bg_ h (fun j h=>Qa hC [.T,.n 2] rfl ⟨tt_,j⟩ ?_) fun j h=>Qa hC [.F,.n 2,.K [0,5] [609,610]] rfl ⟨tt_,j⟩ ?_
  ·refine AK.meet (fun σ=>∃v:Int,∃p:(List Int),σ=⟨[(0,.own 609 p.length),(1,.clo (.func 42) [] [.loc 610 0 0]),(5,.I v),(6,.I z)],[(609,.arr 1 (p.map Qb)),(610,.var (Qe m))]⟩∧QbW z v p=some o) ?_ ?_
   ·obtain⟨w,s,h⟩:=Qc h
    obtain⟨H,B,h⟩:=Qc h
    refine Qa hC [.n 6,.o (.row (Qb w)),.n 7,.cm (.clo) [(609,610)] [(610,609)] [] [.d,.d] [(609,.var (Qe m))] (.b H),.n 3] rfl ⟨⟨⟨tt_,(Qcp s rfl)⟩,(Qbl (QcP s).2)⟩,(Qkl _ _ B)⟩ ?_
    rcases Qq h with⟨k,h⟩|⟨k,h⟩
    ·obtain⟨J,t,h⟩:=Qc h
     refine Qa hC [.T,.n 6,.st (Qb J) ((A.set L.toNat w).map Qb),.n 8,.S 0 (.own 609 (A.set L.toNat w).length),.K [0,1,5,6] [609,610]] rfl ⟨⟨⟨⟨tt_,k⟩,(Qcp t rfl)⟩,⟨(Qbl (QcP t).2),Qi6 rfl⟩⟩,(congrArg (fun n=>V.own 609 n) (by simp))⟩ ?_
     exact AK.met (ex_ _ (ex_ _ (an_ rfl h)))
    refine Qa hC [.F,.n 2,.K [0,1,5,6] [609,610]] rfl ⟨tt_,k⟩ ?_
    exact AK.met (ex_ _ (ex_ _ (an_ rfl h)))
   rintro σ ⟨v,p,rfl,h⟩
   refine tg_ hC [.n 5,.K [0,1,5,6] [609,610]] rfl ?_
   cases h
   exact QJ rfl rfl
  cases h
  exact QK rfl (an_ rfl rfl)
 obtain⟨a,c⟩:=G
 replace h:Q2 a c=some r:=h
 rintro e σ ⟨rfl,rfl⟩
 refine tg_ hC [.n 6] rfl ?_
 obtain⟨g,h⟩:=Qas h
 refine AK.clearTail (b:=609) (l:=a.toNat) (n:=c.length) rfl rfl rfl rfl rfl rfl (QD hC.n rfl) rfl rfl Qg (Qp.es rfl) Qyc rfl rfl rfl (Bnd.val rfl (Qag (Qp7 g)) rfl) (Qag (Qlf g)) rfl ?_
 refine AK.denilA (b:=609) [none] rfl (Qx7 (f:=Qb) (x:=(0:Int)) (fun _=>rfl) rfl) ?_
 obtain⟨i,h⟩:=Qas h
 refine Qa hC [.S 0 (.own 609 (c.take a.toNat++List.replicate (c.length-a.toNat) (0:Int)).length),.S 36 (.own 609 (c.take a.toNat++List.replicate (c.length-a.toNat) (0:Int)).length),.n 6] rfl ⟨⟨tt_,(Qwr (Qag (Qlf g)))⟩,(Qwr (Qag (Qlf g)))⟩ ?_
 have M:a.toNat=((c.take a.toNat++List.replicate (c.length-a.toNat) (0:Int)).take a.toNat).length:=by rw [Qf9,Nat.min_eq_left (Qag (Qlf i))]
 refine Qa hC [.x (fun σ=>(σ.set 609 (.arr 1 (((c.take a.toNat++List.replicate (c.length-a.toNat) (0:Int)).take a.toNat).map Qb))).put 41 (.own 609 a.toNat)),.S 41 (.own 609 ((c.take a.toNat++List.replicate (c.length-a.toNat) (0:Int)).take a.toNat).length),.n 4] rfl ⟨⟨tt_,(Stp.sliceO rfl rfl (QD hC.n rfl) rfl rfl (Qp.es rfl) Bnd.no (Bnd.val rfl (Qag (Qp7 i)) rfl) (Qag (Qlf i)) (by simp))⟩,(Qx2 (Qag (Qlf i)))⟩ ?_
 cases h
 exact d1_ rfl rfl ⟨rfl,rfl,tt_⟩
def QdI (l:List Int):Option (List Int):=(chk (decide (l.length<4611686018427387904))).bind fun _=>some (Qk6 l)
theorem QmK (l){r}(h:QdI l=some r):Qd prog 43 [.own 609 l.length] [(609,.arr 1 (l.map Qb))] (Qj (.tup []) [(609,.arr 1 (r.map Qb))]):=by
 obtain⟨_,a,h⟩:=Qc h
 cases h
 exact Qvf Qwz l (Qag (Qvz a))
def QcD (l:List Int):Option (List Int):=(chk (decide (l.length<4611686018427387904))).bind fun _=>some (Qcq l)
theorem Qlm (l){r}(h:QcD l=some r):Qd prog 44 [.own 609 l.length] [(609,.arr 1 (l.map Qb))] (Qj (.own 609 r.length) [(609,.arr 1 (r.map Qb))]):=by
 obtain⟨_,a,h⟩:=Qc h
 cases h
 exact Qvg Qwx l (Qag (Qvz a))
def Qch (d:Qm)(b:Int)(c:(List Int)):Option ((Int×(List Int))⊕(List Int)):=
 bif (decide (b<(d.Tasks.length:Int)))then
 (idx d.Tasks b).bind fun a=>
 (chk (decide (c.length+a.Cancel.length≤4294967296))).bind fun _=>
 some (.inl ((w64 (b+1)),(c++a.Cancel)))
 else
 some (.inr c)
def Qci (d:Qm)(e:(List Int)):Option (List Int):=
 (Qaj e d).bind fun a=>
 (QdI a).bind fun b=>
 (chk (decide (b.length=a.length))).bind fun _=>
 (QcD b).bind fun c=>
 some c
def QaL (a:Qm):Option (List Int):=
 (Qt (fun st=>Qch a st.1 st.2) (0,([]:List Int))).bind (fun q=>Qci a q)
theorem Qa6 (c){r}(h:QaL c=some r):Qd prog 18 [.agg (Qe c)] [] (Qj (.own 600 r.length) [(600,.arr 1 (r.map Qb))]):=by
 refine Qd.walk 25 func18 rfl rfl rfl fun C hC=>?_
 refine Qa hC [.n 16,.o (.ln c.Tasks.length),.n 4,.adopt 3 13 1,.O 13 (.arr 1 (([]:List Int).map Qb)),.S 3 (.own 13 ([]:List Int).length),.K [1,3,7,8,9] [1,13]] rfl ⟨⟨⟨tt_,Qg⟩,rfl⟩,(congrArg (fun n=>V.own 13 n) (by simp))⟩ ?_
 obtain⟨w,i,h⟩:=Qc h
 refine AK.loop (body:=(fun st=>Qch c st.1 st.2)) (fun st σ=>σ=⟨[(1,.loc 1 0 0),(3,.own 13 st.2.length),(7,.sl 14 (c.Tasks.map Qh)),(8,.I (c.Tasks.length:Int)),(9,.I st.1)],[(1,.var (Qe c)),(13,.arr 1 (st.2.map Qb))]⟩) (fun q e σ=>e=.exit 0∧σ=⟨[(1,.loc 1 0 0),(3,.own 13 q.length)],[(1,.var (Qe c)),(13,.arr 1 (q.map Qb))]⟩) i rfl ?_ ?_
 ·rintro ⟨x,u⟩ o σ rfl h
  refine tg_ hC [.n 6] rfl ?_
  rcases Qq h with⟨g,h⟩|⟨g,h⟩
  ·obtain⟨a,j,h⟩:=Qc h
   obtain⟨k,h⟩:=Qas h
   refine Qa hC [.T,.n 6,.o (.row (Qh a)),.v .no [] (.agg (Qh a)),.n 2,.O 5 (.var (Qh a)),.n 6,.app ((u++a.Cancel).map Qb) (u++a.Cancel).length,.n 8,.K [1,3,7,8,9] [1,13]] rfl ⟨⟨⟨⟨⟨tt_,g⟩,(QA j)⟩,rfl⟩,rfl⟩,⟨Qg,Qc9 k Qg,QbS,QeC Qg⟩⟩ ?_
   cases h
   exact QJ rfl rfl
  refine Qa hC [.F,.n 2,.K [1,3] [1,13]] rfl ⟨tt_,g⟩ ?_
  cases h
  exact QK rfl (an_ rfl rfl)
 replace h:Qci c w=some r:=h
 rintro e σ ⟨rfl,rfl⟩
 obtain⟨l,m,h⟩:=Qc h
 obtain⟨f,p,h⟩:=Qc h
 obtain⟨b,h⟩:=Qas h
 obtain⟨s,t,h⟩:=Qc h
 refine Qa hC [.n 6,.cm (.fn) [(609,13),(610,1)] [(13,609),(1,610)] [] [.d,.d] [(609,.arr 1 (l.map Qb)),(610,.var (Qe c))] (.own 609 l.length),.n 6,.cm (.fn) [(609,13)] [(13,609)] [] [.d] [(609,.arr 1 (f.map Qb))] (.tup []),.S 3 (.own 13 f.length),.S 20 (.own 13 f.length),.S 21 (.own 13 f.length),.n 5,.cm (.fn) [(609,13)] [(13,609)] [] [.d] [(609,.arr 1 (s.map Qb))] (.own 609 s.length),.n 4,.K [2] [13],.ren 13 600] rfl ⟨⟨⟨⟨⟨⟨tt_,(Qjb _ _ m)⟩,(QmK _ p)⟩,(by simp [Qag b])⟩,(by simp [Qag b])⟩,(by simp [Qag b])⟩,(Qlm _ t)⟩ ?_
 cases h
 exact d1_ rfl rfl ⟨rfl,tt_⟩
noncomputable def Qer (s1:Int)(row10:(List Int))(k12:Int)(v13:(List Int)):Option ((List Int)⊕Empty):=
 (QcC s1 row10 v13 k12).bind fun x14=>
 some (.inl x14)
noncomputable def Qes (s1:Int)(row10:(List Int))(x16:Int)(m20:(List (Int×(List Int))))(k22:Int)(v23:(List Int)):Option ((List (Int×(List Int)))⊕Empty):=
 (QcC s1 v23 row10 x16).bind fun x24=>
 some (.inl (Qb4 ltI m20 k22 x24))
def QhT (b:Int)(a:(List Int))(c:(List (Int×(List Int)))):Option (List (Int×(List Int))):=
 some (Qb4 ltI c b a)
noncomputable def QhU (m2:(List (Int×(List Int))))(s1:Int)(row10:(List Int)):Option (List (Int×(List Int))):=
 (QcS row10).bind fun x16=>
 bif (decide (x16<0))then
 some m2
 else
 (QhM (fun st p=>Qes s1 row10 x16 st p.1 p.2) m2 m2).bind (Sum.elim (fun q=>QhT x16 row10 q) (fun q=>Empty.elim q))
noncomputable def Qj6 (s1:Int)(m2:(List (Int×(List Int))))(l3:(List Int)):Option (List (Int×(List Int))):=
 (Qdm l3).bind fun x6=>
 (Qhf x6).bind fun x7=>
 (QhM (fun st p=>Qer s1 st p.1 p.2) x7 m2).bind (Sum.elim (fun q=>QhU m2 s1 q) (fun q=>Empty.elim q))
theorem QmL (u P B){r}(h:Qj6 u P B=some r):Qd prog 52 [.agg [.I u,.map 609],.own 610 B.length] [(609,.map (QN V.I (fun x=>V.sl 1 (x.map Qb)) P)),(610,.arr 1 (B.map Qb))] (Qj (.tup []) [(609,.map (QN V.I (fun x=>V.sl 1 (x.map Qb)) r)),(610,.arr 1 (B.map Qb))]):=by
 refine Qd.walk 49 func52 rfl rfl rfl fun C hC=>?_
 obtain⟨x6,a3,h⟩:=Qc h
 obtain⟨x7,a4,h⟩:=Qc h
 refine Qa hC [.n 8,.o (.co true [.o (B.map Qb)] 1 (x6.map Qb) x6.length),.frz 10 (x6.map Qb) [10] [],.o (.c false [.d] (.sl 1 (x7.map Qb))),.n 8] rfl ⟨⟨⟨tt_,⟨(Qj3 rfl),⟨(Qhc _ a3),Qg,.inr (Qwv _)⟩⟩⟩,⟨tt_,(QcQ Qg)⟩⟩,(QhS _ a4)⟩ ?_
 refine AK.openMapK (b:=609) Qkj rfl fun D E L8 S a8 U=>?_
 refine Qa hC [.x (fun σ=>(σ.set 14 (.itr D E #[] none)).put 14 (.loc 14 0 0)),.n 3,.K [1,2,14] [2,14,609,610]] rfl ⟨tt_,(Stp.range (b:=609) rfl rfl (QD hC.n rfl) rfl rfl Qjr rfl)⟩ ?_
 obtain⟨a5,W,h⟩:=Qc h
 refine AK.range (body:=(fun st p=>Qer u st p.1 p.2)) (fun st seen σ=>∃cur:Option Nat,σ=⟨[(1,.sl 1 (st.map Qb)),(2,.loc 2 0 0),(14,.loc 14 0 0)],[(2,.var [.I u,.map 609]),(14,.itr D E seen cur),(609,.mapX D E (Qbn V.I (fun x=>V.sl 1 (x.map Qb)) L8) (QN V.I (fun x=>V.sl 1 (x.map Qb)) P)),(610,.arr 1 (B.map Qb))]⟩) (fun (q:Empty) _ _=>False) (fun st e σ=>e=.exit 0∧σ=⟨[(1,.sl 1 (st.map Qb)),(2,.loc 2 0 0)],[(2,.var [.I u,.map 609]),(609,.mapX D E (Qbn V.I (fun x=>V.sl 1 (x.map Qb)) L8) (QN V.I (fun x=>V.sl 1 (x.map Qb)) P)),(610,.arr 1 (B.map Qb))]⟩) S U W (ex_ _ rfl) ?_ ?_
 ·rintro g seen σ ⟨cur,rfl⟩ hex
  refine tg_ hC [.n 2] rfl ?_
  refine AK.nextT (b:=14) (m:=609) rfl rfl rfl (QD hC.n rfl) rfl rfl rfl rfl ?_ ?_
  ·intro hleft
   refine tg_ hC [.n 7,.K [1,2] [2,609,610]] rfl ?_
   exact AK.done (Or.inl (an_ hleft (an_ (fun h=>(by cases h)) (an_ rfl rfl))))
  intro a9 X Y G
  obtain⟨o,h⟩:=hex _ G
  have ho:=h
  replace h:Qer u g X Y=some o:=h
  obtain⟨a6,Z,h⟩:=Qc h
  refine Qa hC [.n 10,.x (fun σ=>σ.put 17 (.tup [.I X,.sl 1 (Y.map Qb)])),.n 11,.cm (.fn) [] [] [] [.f 1,.d,.d,.d] [] (.sl 1 (a6.map Qb)),.n 3,.K [1,2,14] [2,14,609,610]] rfl ⟨⟨tt_,(Stp.entryT (b:=14) (m:=609) (e:=V.I) (f:=(fun x=>V.sl 1 (x.map Qb))) rfl rfl (QD hC.n rfl) rfl G rfl rfl)⟩,(QcZ _ _ _ _ Z)⟩ ?_
  cases h
  exact AK.done (Or.inr (ex_ _ (an_ G (Or.inl (ex_ _ (an_ ho (an_ rfl (ex_ _ rfl))))))))
 rcases a5 with(g | q)
 ·replace h:QhU P u g=some r:=h
  rintro e σ ⟨rfl,rfl⟩
  obtain⟨i,a0,h⟩:=Qc h
  refine Qa hC [.n 5,.cm (.fn) [] [] [] [.d,.d] [] (.I i),.n 10] rfl ⟨tt_,(Qeo _ a0)⟩ ?_
  refine bg_ h (fun w h=>Qa hC [.T,.n 2] rfl ⟨tt_,w⟩ ?_) fun w h=>Qa hC [.F,.n 7] rfl ⟨tt_,w⟩ ?_
  ·refine AK.closeMap (b:=609) rfl ?_
   refine tg_ hC [.K [] [609,610]] rfl ?_
   cases h
   refine AK.done ?_
   exact ex_ [] (an_ tt_ (QbL ⟨rfl,rfl,tt_⟩))
  refine AK.closeMap (b:=609) rfl ?_
  refine AK.openMapK (b:=609) Qkj rfl fun s t L18 H J M=>?_
  refine Qa hC [.x (fun σ=>(σ.set 31 (.itr s t #[] none)).put 31 (.loc 31 0 0)),.n 3,.K [1,2,6,31] [2,31,609,610]] rfl ⟨tt_,(Stp.range (b:=609) rfl rfl (QD hC.n rfl) rfl rfl Qjr rfl)⟩ ?_
  obtain⟨a7,a1,h⟩:=Qc h
  refine AK.range (body:=(fun st p=>Qes u g i st p.1 p.2)) (fun st seen σ=>∃(cur:Option Nat) (LU19:List (Nat×(Int×(List Int)))),QdH L18 LU19 seen∧σ=⟨[(1,.sl 1 (g.map Qb)),(2,.loc 2 0 0),(6,.I i),(31,.loc 31 0 0)],[(2,.var [.I u,.map 609]),(31,.itr s t seen cur),(609,.mapX s t (Qbn V.I (fun x=>V.sl 1 (x.map Qb)) LU19) (QN V.I (fun x=>V.sl 1 (x.map Qb)) st)),(610,.arr 1 (B.map Qb))]⟩) (fun (q:Empty) _ _=>False) (fun st e σ=>e=.exit 2∧σ=⟨[(1,.sl 1 (g.map Qb)),(2,.loc 2 0 0),(6,.I i)],[(2,.var [.I u,.map 609]),(609,.map (QN V.I (fun x=>V.sl 1 (x.map Qb)) st)),(610,.arr 1 (B.map Qb))]⟩) H M a1 (ex_ _ (ex_ _ (an_ QdH.refl rfl))) ?_ ?_
  ·rintro j seen σ ⟨cur,LU19,hU19,rfl⟩ hex
   refine tg_ hC [.n 2] rfl ?_
   refine AK.nextT (b:=31) (m:=609) rfl rfl rfl (QD hC.n rfl) rfl rfl rfl rfl ?_ ?_
   ·intro hleft
    replace hleft:=hU19.nil hleft
    refine AK.closeMap (b:=609) rfl ?_
    refine tg_ hC [.n 7,.K [1,2,6] [2,609,610]] rfl ?_
    exact AK.done (Or.inl (an_ hleft (an_ (fun h=>(by cases h)) (an_ rfl rfl))))
   intro b0 y O hq19z
   have z:=hU19.mem2 hq19z
   obtain⟨o,h⟩:=hex _ z
   have ho:=h
   replace h:Qes u g i j y O=some o:=h
   obtain⟨A,a2,h⟩:=Qc h
   refine Qa hC [.n 10,.x (fun σ=>σ.put 34 (.tup [.I y,.sl 1 (O.map Qb)])),.n 6,.K [1,2,6,7,8,31] [2,31,609,610]] rfl ⟨tt_,(Stp.entryT (b:=31) (m:=609) (e:=V.I) (f:=(fun x=>V.sl 1 (x.map Qb))) rfl rfl (QD hC.n rfl) rfl hq19z rfl rfl)⟩ ?_
   refine AK.draw2 Qp hC mixed [.N,.N,.N,.N,.N,.N,.N,.a (.any (.sl 1 (A.map Qb)) none) none false,.m (.any ⟨[],[(609,.mapX s t (Qbn V.I (fun x=>V.sl 1 (x.map Qb)) (QkI LU19 y A)) (QN V.I (fun x=>V.sl 1 (x.map Qb)) (Qb4 ltI j y A)))],none⟩)] [] [] [1,2,6,31] [2,31,609,610] rfl rfl rfl ⟨⟨tt_,(fun σ h1 h2 _=>Stp.callSame (md:=.cm (.fn) [] [] [] [.f 1,.d,.d,.d] [] (.sl 1 (A.map Qb)) []) Qp hC h1 h2 rfl ⟨tt_,(QcZ _ _ _ _ a2)⟩)⟩,(fun σ h1 h2=>Stp.mapUpdateX (e:=V.I) (f:=(fun x=>V.sl 1 (x.map Qb))) (L:=LU19) (l:=j) (k:=y) (v:=A) (v0:=O) ltI rfl rfl (h1 _ _ rfl) (h2 _ _ rfl) (h1 _ _ rfl) (h1 _ _ rfl) Qjr Qkj rfl (Qga.1 hq19z).1)⟩ rfl (by kernel_rfl) rfl rfl rfl ?_
   refine tg_ hC [.n 1,.K [1,2,6,31] [2,31,609,610]] rfl ?_
   cases h
   exact AK.done (Or.inr (ex_ _ (an_ z (Or.inl (ex_ _ (an_ ho (an_ rfl (ex_ _ (ex_ _ (an_ (QdH.upd J hU19 z) rfl))))))))))
  rcases a7 with(j | q)
  ·replace h:QhT i g j=some r:=h
   rintro e σ ⟨rfl,rfl⟩
   refine Qa hC [.n 7,.x (fun σ=>σ.set 609 (.map (QN V.I (fun x=>V.sl 1 (x.map Qb)) (Qb4 ltI j i g)))),.n 1,.K [] [609,610]] rfl ⟨tt_,(Stp.mapUpdate (e:=V.I) (f:=(fun x=>V.sl 1 (x.map Qb))) (l:=j) (k:=i) (v:=g) ltI rfl rfl rfl rfl rfl rfl Qjr Qkj rfl)⟩ ?_
   cases h
   refine AK.done ?_
   exact ex_ [] (an_ tt_ (QbL ⟨rfl,rfl,tt_⟩))
  exact q.elim
 exact q.elim
noncomputable def Qfl (place3:Int)(all7:Int)(k9:Int)(v10:(List Int)):Option (Int⊕Empty):=
 (idx v10 k9).bind fun e11=>
 (idx v10 k9).bind fun e12=>
 (idx v10 place3).bind fun e13=>
 (Qk8 e12 e13).bind fun x14=>
 (chk (x14 != 0)).bind fun _=>
 (Qk8 all7 (w64 (Int.tdiv e11 x14))).bind fun x16=>
 (chk (x16 != 0)).bind fun _=>
 some (.inl (w64 ((w64 (Int.tdiv all7 x16))*(max2 (w64 (Int.tdiv e11 x14)) (w64 (0-(w64 (Int.tdiv e11 x14))))))))
noncomputable def Qfm (place3:Int)(all7:Int)(l23:(List Int))(k25:Int)(v26:(List Int)):Option ((List Int)⊕Empty):=
 (idx v26 place3).bind fun e27=>
 (idx v26 k25).bind fun e28=>
 (chk (e28 != 0)).bind fun _=>
 (idx l23 k25).bind fun e30=>
 some (.inl (l23.set k25.toNat (w64 (Int.tdiv (w64 ((w64 (0-e27))*all7)) e28))))
def Qjc (a:(List Int)):Option (List Int):=
 some a
noncomputable def Qdn (s1:Int)(place3:Int)(m2:(List (Int×(List Int))))(all7:Int):Option (List Int):=
 (chk (decide (0≤s1)&&decide (s1≤s1)&&decide (s1≤4294967296))).bind fun _=>
 (idx (List.replicate s1.toNat (0:Int)) place3).bind fun e20=>
 (QhM (fun st p=>Qfm place3 all7 st p.1 p.2) ((List.replicate s1.toNat (0:Int)).set place3.toNat all7) m2).bind (Sum.elim (fun q=>Qjc q) (fun q=>Empty.elim q))
noncomputable def QeE (s1:Int)(m2:(List (Int×(List Int))))(place3:Int):Option (List Int):=
 (QhM (fun st p=>Qfl place3 st p.1 p.2) 1 m2).bind (Sum.elim (fun q=>Qdn s1 place3 m2 q) (fun q=>Empty.elim q))
theorem Qn7 (t y g){r}(h:QeE t y g=some r):Qd prog 53 [.agg [.I t,.map 609],.I g] [(609,.map (QN V.I (fun x=>V.sl 1 (x.map Qb)) y))] (Qj (.own 600 r.length) [(600,.arr 1 (r.map Qb)),(609,.map (QN V.I (fun x=>V.sl 1 (x.map Qb)) y))]):=by
 refine Qd.walk 75 func53 rfl rfl rfl fun C hC=>?_
 refine tg_ hC [.n 16] rfl ?_
 refine AK.openMap (b:=609) Qkj rfl fun u v L5 H J=>?_
 refine Qa hC [.x (fun σ=>(σ.set 14 (.itr u v #[] none)).put 14 (.loc 14 0 0)),.n 3,.K [1,2,5,14] [2,14,609]] rfl ⟨tt_,(Stp.range (b:=609) rfl rfl (QD hC.n rfl) rfl rfl Qjr rfl)⟩ ?_
 obtain⟨a5,L,h⟩:=Qc h
 refine AK.range (body:=(fun st p=>Qfl g st p.1 p.2)) (fun st seen σ=>∃cur:Option Nat,σ=⟨[(1,.I g),(2,.loc 2 0 0),(5,.I st),(14,.loc 14 0 0)],[(2,.var [.I t,.map 609]),(14,.itr u v seen cur),(609,.mapX u v (Qbn V.I (fun x=>V.sl 1 (x.map Qb)) L5) (QN V.I (fun x=>V.sl 1 (x.map Qb)) y))]⟩) (fun (q:Empty) _ _=>False) (fun st e σ=>e=.exit 0∧σ=⟨[(1,.I g),(2,.loc 2 0 0),(5,.I st)],[(2,.var [.I t,.map 609]),(609,.mapX u v (Qbn V.I (fun x=>V.sl 1 (x.map Qb)) L5) (QN V.I (fun x=>V.sl 1 (x.map Qb)) y))]⟩) H J L (ex_ _ rfl) ?_ ?_
 ·rintro i seen σ ⟨cur,rfl⟩ hex
  refine tg_ hC [.n 2] rfl ?_
  refine AK.nextT (b:=14) (m:=609) rfl rfl rfl (QD hC.n rfl) rfl rfl rfl rfl ?_ ?_
  ·intro hleft
   refine tg_ hC [.n 7,.K [1,2,5] [2,609]] rfl ?_
   exact AK.done (Or.inl (an_ hleft (an_ (fun h=>(by cases h)) (an_ rfl rfl))))
  intro b5 k9 M B
  obtain⟨o,h⟩:=hex _ B
  have ho:=h
  replace h:Qfl g i k9 M=some o:=h
  obtain⟨a6,O,h⟩:=Qc h
  obtain⟨a7,P,h⟩:=Qc h
  obtain⟨a8,T,h⟩:=Qc h
  obtain⟨a9,U,h⟩:=Qc h
  obtain⟨W,h⟩:=Qas h
  refine Qa hC [.n 10,.x (fun σ=>σ.put 17 (.tup [.I k9,.sl 1 (M.map Qb)])),.n 7,.K [1,2,5,6,7,14] [2,14,609]] rfl ⟨tt_,(Stp.entryT (b:=14) (m:=609) (e:=V.I) (f:=(fun x=>V.sl 1 (x.map Qb))) rfl rfl (QD hC.n rfl) rfl B rfl rfl)⟩ ?_
  refine AK.draw2 Qp hC mixed [.N,.N,.a (.row (Qb a6)) none false,.N,.N,.N,.a (.row (Qb a7)) none false,.N,.N,.N,.a (.row (Qb a8)) none false,.N,.a (.c false [.d,.d] (.I a9)) none false,.N,.N] [] [] [1,2,5,8,14] [2,14,609] rfl rfl rfl ⟨⟨⟨⟨⟨tt_,(QA O)⟩,(QA P)⟩,(QA T)⟩,(QkJ _ _ U)⟩,(neZ W)⟩ rfl (by kernel_rfl) rfl rfl rfl ?_
  obtain⟨b0,X,h⟩:=Qc h
  obtain⟨Y,h⟩:=Qas h
  refine Qa hC [.n 5,.o (.c false [.d,.d] (.I b0)),.n 9,.K [1,2,5,14] [2,14,609]] rfl ⟨⟨tt_,(QkJ _ _ X)⟩,(neZ Y)⟩ ?_
  cases h
  exact AK.done (Or.inr (ex_ _ (an_ B (Or.inl (ex_ _ (an_ ho (an_ rfl (ex_ _ rfl))))))))
 rcases a5 with(i | q)
 ·replace h:Qdn t g y i=some r:=h
  rintro e σ ⟨rfl,rfl⟩
  obtain⟨Z,h⟩:=Qas h
  obtain⟨b1,z,h⟩:=Qc h
  refine Qa hC [.n 6,.o (.rows ((List.replicate t.toNat (0:Int)).map Qb)),.S 46 (.own 46 (List.replicate t.toNat (0:Int)).length),.n 9,.st (Qb b1) (((List.replicate t.toNat (0:Int)).set g.toNat i).map Qb),.n 7] rfl ⟨⟨⟨⟨tt_,⟨Z,QmD rfl⟩⟩,(by simp)⟩,(Qcp z rfl)⟩,⟨(Qbl (QcP z).2),Qi6 rfl⟩⟩ ?_
  refine AK.closeMap (b:=609) rfl ?_
  refine AK.openMap (b:=609) Qkj rfl fun j k L21 D E=>?_
  refine Qa hC [.x (fun σ=>(σ.set 53 (.itr j k #[] none)).put 53 (.loc 53 0 0)),.n 3,.S 9 (.own 46 ((List.replicate t.toNat (0:Int)).set g.toNat i).length),.K [1,5,9,53] [46,53,609]] rfl ⟨⟨tt_,(Stp.range (b:=609) rfl rfl (QD hC.n rfl) rfl rfl Qjr rfl)⟩,(congrArg (fun n=>V.own 46 n) (by simp))⟩ ?_
  obtain⟨b2,a0,h⟩:=Qc h
  refine AK.range (body:=(fun st p=>Qfm g i st p.1 p.2)) (fun st seen σ=>∃cur:Option Nat,σ=⟨[(1,.I g),(5,.I i),(9,.own 46 st.length),(53,.loc 53 0 0)],[(46,.arr 1 (st.map Qb)),(53,.itr j k seen cur),(609,.mapX j k (Qbn V.I (fun x=>V.sl 1 (x.map Qb)) L21) (QN V.I (fun x=>V.sl 1 (x.map Qb)) y))]⟩) (fun (q:Empty) _ _=>False) (fun st e σ=>e=.exit 2∧σ=⟨[(9,.own 46 st.length)],[(46,.arr 1 (st.map Qb)),(609,.mapX j k (Qbn V.I (fun x=>V.sl 1 (x.map Qb)) L21) (QN V.I (fun x=>V.sl 1 (x.map Qb)) y))]⟩) D E a0 (ex_ _ rfl) ?_ ?_
  ·rintro l seen σ ⟨cur,rfl⟩ hex
   refine tg_ hC [.n 2] rfl ?_
   refine AK.nextT (b:=53) (m:=609) rfl rfl rfl (QD hC.n rfl) rfl rfl rfl rfl ?_ ?_
   ·intro hleft
    refine tg_ hC [.n 7,.K [9] [46,609]] rfl ?_
    exact AK.done (Or.inl (an_ hleft (an_ (fun h=>(by cases h)) (an_ rfl rfl))))
   intro b4 w a1 s
   obtain⟨o,h⟩:=hex _ s
   have ho:=h
   replace h:Qfm g i l w a1=some o:=h
   obtain⟨F,a2,h⟩:=Qc h
   obtain⟨G,a3,h⟩:=Qc h
   obtain⟨a4,h⟩:=Qas h
   obtain⟨b3,A,h⟩:=Qc h
   refine Qa hC [.n 10,.x (fun σ=>σ.put 56 (.tup [.I w,.sl 1 (a1.map Qb)])),.n 6,.K [1,5,9,10,11,53] [46,53,609]] rfl ⟨tt_,(Stp.entryT (b:=53) (m:=609) (e:=V.I) (f:=(fun x=>V.sl 1 (x.map Qb))) rfl rfl (QD hC.n rfl) rfl s rfl rfl)⟩ ?_
   refine AK.draw2 Qp hC mixed [.N,.N,.N,.N,.a (.row (Qb F)) none false,.N,.N,.N,.N,.N,.N,.a (.row (Qb G)) none false,.N,.N,.N,.m (.st (Qb b3) ((l.set w.toNat (w64 (Int.tdiv (w64 ((w64 (0-F))*i)) G))).map Qb))] [] [] [1,5,9,53] [46,53,609] rfl rfl rfl ⟨⟨⟨⟨⟨tt_,(QA a2)⟩,(QA a3)⟩,(neZ a4)⟩,(Qcp A rfl)⟩,⟨(Qbl (QcP A).2),Qi6 rfl⟩⟩ rfl (by kernel_rfl) rfl rfl rfl ?_
   refine Qa hC [.n 1,.S 9 (.own 46 (l.set w.toNat (w64 (Int.tdiv (w64 ((w64 (0-F))*i)) G))).length),.K [1,5,9,53] [46,53,609]] rfl ⟨tt_,(congrArg (fun n=>V.own 46 n) (by simp))⟩ ?_
   cases h
   exact AK.done (Or.inr (ex_ _ (an_ s (Or.inl (ex_ _ (an_ ho (an_ rfl (ex_ _ rfl))))))))
  rcases b2 with(l | q)
  ·replace h:Qjc l=some r:=h
   rintro e σ ⟨rfl,rfl⟩
   refine tg_ hC [.n 9] rfl ?_
   refine AK.closeMap (b:=609) rfl ?_
   refine tg_ hC [.K [4] [46,609],.ren 46 600] rfl ?_
   cases h
   exact d1_ rfl rfl ⟨rfl,rfl,tt_⟩
  exact q.elim
 exact q.elim
def QrM (c:Qm)(a:QLL):Option (QLL×Bool):=
 bif (decide (8<(c.Places.length:Int)))then
 some (a,true)
 else
 (Qfv a).bind fun b=>
 some (a,b)
def QmM (a:QLL)(f:Qm)(b:Int)(c:(List (Int×(List Int)))):Option ((Int×(List (Int×(List Int))))⊕(List (Int×(List Int)))):=
 bif (decide (b<(a.length:Int)))then
 (idx a b).bind fun d=>
 (Qll (f.Places.length:Int) c d).bind fun e=>
 some (.inl ((w64 (b+1)),e))
 else
 some (.inr c)
def QmN (c:(List Int))(a:Qm)(b:Int)(d:(List (Int×(List Int)))):Option ((Int×(List (Int×(List Int))))⊕(List (Int×(List Int)))):=
 bif (decide (b<(c.length:Int)))then
 (idx c b).bind fun e=>
 (chk (decide (0≤(a.Places.length:Int))&&decide ((a.Places.length:Int)≤(a.Places.length:Int))&&decide ((a.Places.length:Int)≤4294967296))).bind fun _=>
 (idx (List.replicate (a.Places.length:Int).toNat (0:Int)) e).bind fun g=>
 (Qj6 (a.Places.length:Int) d ((List.replicate (a.Places.length:Int).toNat (0:Int)).set e.toNat 1)).bind fun f=>
 some (.inl ((w64 (b+1)),f))
 else
 some (.inr d)
def QjO (a:Int)(b:QLL):Option ((Int×QLL)⊕QLL):=
 some (.inl ((w64 (a+1)),b))
def Qb5 (e:Qm)(c:(List (Int×(List Int))))(a:Int)(b:QLL):Option ((Int×QLL)⊕QLL):=
 bif (decide (a<(e.Places.length:Int)))then
 bif (Qa3 c a).isSome then
 (chk (!(((Qa3 c a).getD ([]:(List Int)))).isEmpty)).bind fun _=>
 QjO a b
 else
 (QeE (e.Places.length:Int) c a).bind fun d=>
 (chk (decide (b.length+([d]:List (List Int)).length≤4294967296))).bind fun _=>
 QjO a (b++([d]:List (List Int)))
 else
 some (.inr b)
def QmO (a:QLL):Option (QLL×Int):=
 some (a,0)
def Qgf (b:Qm)(a:(List (Int×(List Int)))):Option (QLL×Int):=
 (Qt (fun st=>Qb5 b a st.1 st.2) (0,([]:List (List Int)))).bind (fun q=>QmO q)
def QmP (a:Qm)(b:(List (Int×(List Int)))):Option (QLL×Int):=
 (QaL a).bind fun c=>
 (Qt (fun st=>QmN c a st.1 st.2) (0,b)).bind (fun q=>Qgf a q)
def QjP (b:Qm)(a:QLL)(c:Bool):Option (QLL×Int):=
 bif c then
 some (([]:List (List Int)),2)
 else
 (Qt (fun st=>QmM a b st.1 st.2) (0,([]:(List (Int×(List Int)))))).bind (fun q=>QmP b q)
def Qjs (a:Qm):Option (QLL×Int):=
 (Qbw a).bind fun b=>
 (QrM a b).bind (fun v=>QjP a v.1 v.2)
theorem QrN (c){r}(h:Qjs c=some r):Qd prog 24 [.agg (Qe c)] [] (Qj (.tup [.sl 1 (r.1.map Qf),.I r.2]) []):=by
 refine Qd.walk 73 func24 rfl rfl rfl fun C hC=>?_
 obtain⟨x6,a2,h⟩:=Qc h
 refine Qa hC [.n 9,.v .no [] (.agg (Qe c)),.o (.co false [.d] 1 (x6.map Qf) x6.length),.n 5] rfl ⟨⟨tt_,rfl⟩,⟨(QaK _ a2),Qg,.inl rfl⟩⟩ ?_
 obtain⟨v,a3,h⟩:=Qc h
 replace h:QjP c v.1 v.2=some r:=h
 refine AK.meetX (fun σ=>σ=⟨[(1,.loc 1 0 0),(4,.sl 1 (v.1.map Qf)),(22,.b v.2)],[(1,.var (Qe c))]⟩) ?_ ?_
 ·replace h:=a3
  refine Qa hC [.n 3,.o (.ln c.Places.length),.n 2] rfl ⟨tt_,Qg⟩ ?_
  rcases Qq h with⟨p,h⟩|⟨p,h⟩
  ·refine Qa hC [.S 19 (.b true),.n 4,.frz 14 (x6.map Qf) [4] [],.K [1,4,22] [1]] rfl ⟨(tc_ p),⟨tt_,(QcQ Qg)⟩⟩ ?_
   cases h
   exact AK.met rfl
  obtain⟨a4,G,h⟩:=Qc h
  refine Qa hC [.S 19 (.b false),.n 1,.frz 14 (x6.map Qf) [4,14,20] [],.cm (.fn) [] [] [] [.d,.d] [] (.b a4),.n 2,.K [1,4,22] [1]] rfl ⟨⟨(tc_ p),⟨⟨⟨tt_,(QcQ Qg)⟩,(QcQ Qg)⟩,(QcQ Qg)⟩⟩,(QjM _ G)⟩ ?_
  cases h
  exact AK.met rfl
 rintro σ rfl
 obtain⟨a,x8⟩:=v
 replace h:QjP c a x8=some r:=h
 refine tg_ hC [.n 1] rfl ?_
 refine bg_ h (fun s h=>Qa hC [.T,.n 8,.denil 2 [some 1],.K [2,3] []] rfl ⟨tt_,s⟩ ?_) fun s h=>Qa hC [.F,.n 6,.o (.ln c.Places.length),.n 1,.O 26 (.map (QN V.I (fun x=>V.sl 1 (x.map Qb)) ([]:(List (Int×(List Int)))))),.v .no [] (.agg [.I (c.Places.length:Int),.map 26]),.n 2,.O 5 (.var [.I (c.Places.length:Int),.map 26]),.n 6,.o (.ln a.length),.n 4,.K [1,5,28,29,30] [1,5,26]] rfl ⟨⟨⟨⟨⟨⟨tt_,s⟩,Qg⟩,rfl⟩,rfl⟩,rfl⟩,Qg⟩ ?_
 ·cases h
  exact d2_ rfl rfl rfl tt_
 obtain⟨a5,H,h⟩:=Qc h
 refine AK.loop (body:=(fun st=>QmM a c st.1 st.2)) (fun st σ=>σ=⟨[(1,.loc 1 0 0),(5,.loc 5 0 0),(28,.sl 1 (a.map Qf)),(29,.I (a.length:Int)),(30,.I st.1)],[(1,.var (Qe c)),(5,.var [.I (c.Places.length:Int),.map 26]),(26,.map (QN V.I (fun x=>V.sl 1 (x.map Qb)) st.2))]⟩) (fun q e σ=>e=.exit 0∧σ=⟨[(1,.loc 1 0 0),(5,.loc 5 0 0)],[(1,.var (Qe c)),(5,.var [.I (c.Places.length:Int),.map 26]),(26,.map (QN V.I (fun x=>V.sl 1 (x.map Qb)) q))]⟩) H rfl ?_ ?_
 ·rintro ⟨b0,b1⟩ o σ rfl h
  refine tg_ hC [.n 6] rfl ?_
  rcases Qq h with⟨t,h⟩|⟨t,h⟩
  ·obtain⟨a6,J,h⟩:=Qc h
   obtain⟨a7,L,h⟩:=Qc h
   refine Qa hC [.T,.n 6,.o (.row (Qf a6)),.n 7,.cm (.fn) [(609,26)] [(26,609)] [] [.d,.d] [(609,.map (QN V.I (fun x=>V.sl 1 (x.map Qb)) a7))] (.tup []),.n 7,.K [1,5,28,29,30] [1,5,26]] rfl ⟨⟨⟨tt_,t⟩,(QA J)⟩,(Qoq _ _ _ L)⟩ ?_
   cases h
   exact QJ rfl rfl
  refine Qa hC [.F,.n 2,.K [1,5] [1,5,26]] rfl ⟨tt_,t⟩ ?_
  cases h
  exact QK rfl (an_ rfl rfl)
 replace h:QmP c a5=some r:=h
 rintro e σ ⟨rfl,rfl⟩
 obtain⟨j,M,h⟩:=Qc h
 refine Qa hC [.n 5,.v .no [] (.agg (Qe c)),.o (.co false [.d] 1 (j.map Qb) j.length),.n 5,.K [5,39,40,41] [5,26,39]] rfl ⟨⟨tt_,rfl⟩,⟨(Qa6 _ M),Qg,.inl rfl⟩⟩ ?_
 obtain⟨g,N,h⟩:=Qc h
 refine AK.loop (body:=(fun st=>QmN j c st.1 st.2)) (fun st σ=>σ=⟨[(5,.loc 5 0 0),(39,.own 39 j.length),(40,.I (j.length:Int)),(41,.I st.1)],[(5,.var [.I (c.Places.length:Int),.map 26]),(26,.map (QN V.I (fun x=>V.sl 1 (x.map Qb)) st.2)),(39,.arr 1 (j.map Qb))]⟩) (fun q e σ=>e=.exit 2∧σ=⟨[(5,.loc 5 0 0)],[(5,.var [.I (c.Places.length:Int),.map 26]),(26,.map (QN V.I (fun x=>V.sl 1 (x.map Qb)) q))]⟩) N rfl ?_ ?_
 ·rintro ⟨b2,b3⟩ o σ rfl h
  refine tg_ hC [.n 6] rfl ?_
  rcases Qq h with⟨u,h⟩|⟨u,h⟩
  ·obtain⟨i,B,h⟩:=Qc h
   obtain⟨P,h⟩:=Qas h
   obtain⟨a8,D,h⟩:=Qc h
   obtain⟨a9,U,h⟩:=Qc h
   refine Qa hC [.T,.n 7,.o (.row (Qb i)),.n 7,.o (.rows ((List.replicate (c.Places.length:Int).toNat (0:Int)).map Qb)),.S 47 (.own 47 (List.replicate (c.Places.length:Int).toNat (0:Int)).length),.n 8,.st (Qb a8) (((List.replicate (c.Places.length:Int).toNat (0:Int)).set i.toNat 1).map Qb),.n 5,.S 10 (.own 47 ((List.replicate (c.Places.length:Int).toNat (0:Int)).set i.toNat 1).length),.S 47 (.own 47 ((List.replicate (c.Places.length:Int).toNat (0:Int)).set i.toNat 1).length),.S 48 (.own 47 ((List.replicate (c.Places.length:Int).toNat (0:Int)).set i.toNat 1).length),.S 52 (.own 47 ((List.replicate (c.Places.length:Int).toNat (0:Int)).set i.toNat 1).length),.cm (.fn) [(609,26),(610,47)] [(26,609),(47,610)] [] [.d,.d] [(609,.map (QN V.I (fun x=>V.sl 1 (x.map Qb)) a9)),(610,.arr 1 (((List.replicate (c.Places.length:Int).toNat (0:Int)).set i.toNat 1).map Qb))] (.tup []),.n 7,.K [5,39,40,41] [5,26,39]] rfl ⟨⟨⟨⟨⟨⟨⟨⟨⟨⟨⟨⟨tt_,u⟩,(Qcp B rfl)⟩,(Qbl (QcP B).2)⟩,⟨P,QmD rfl⟩⟩,(by simp)⟩,(Qcp D rfl)⟩,⟨(Qbl (QcP D).2),Qi6 rfl⟩⟩,(congrArg (fun n=>V.own 47 n) (by simp))⟩,(congrArg (fun n=>V.own 47 n) (by simp))⟩,(congrArg (fun n=>V.own 47 n) (by simp))⟩,(congrArg (fun n=>V.own 47 n) (by simp))⟩,(QmL _ _ _ U)⟩ ?_
   cases h
   exact QJ rfl rfl
  refine Qa hC [.F,.n 2,.K [5] [5,26]] rfl ⟨tt_,u⟩ ?_
  cases h
  exact QK rfl (an_ rfl rfl)
 replace h:Qgf c g=some r:=h
 rintro e σ ⟨rfl,rfl⟩
 refine Qa hC [.n 16,.adopt 11 65 1,.O 65 (.arr 1 (([]:List (List Int)).map Qf)),.S 11 (.own 65 ([]:List (List Int)).length),.K [5,11,56,57] [5,26,65]] rfl ⟨⟨tt_,rfl⟩,(congrArg (fun n=>V.own 65 n) (by simp))⟩ ?_
 obtain⟨W,X,h⟩:=Qc h
 refine AK.loop (body:=(fun st=>Qb5 c g st.1 st.2)) (fun st σ=>σ=⟨[(5,.loc 5 0 0),(11,.own 65 st.2.length),(56,.I (c.Places.length:Int)),(57,.I st.1)],[(5,.var [.I (c.Places.length:Int),.map 26]),(26,.map (QN V.I (fun x=>V.sl 1 (x.map Qb)) g)),(65,.arr 1 (st.2.map Qf))]⟩) (fun q e σ=>e=.exit 4∧σ=⟨[(11,.own 65 q.length)],[(65,.arr 1 (q.map Qf))]⟩) X rfl ?_ ?_
 ·rintro ⟨w,Y⟩ o σ rfl h
  refine tg_ hC [.n 6] rfl ?_
  refine bg_ h (fun y h=>Qa hC [.T,.n 2] rfl ⟨tt_,y⟩ ?_) fun y h=>Qa hC [.F,.n 2,.K [11] [65]] rfl ⟨tt_,y⟩ ?_
  ·refine AK.meet (fun σ=>∃A:QLL,σ=⟨[(5,.loc 5 0 0),(11,.own 65 A.length),(56,.I (c.Places.length:Int)),(57,.I w)],[(5,.var [.I (c.Places.length:Int),.map 26]),(26,.map (QN V.I (fun x=>V.sl 1 (x.map Qb)) g)),(65,.arr 1 (A.map Qf))]⟩∧QjO w A=some o) ?_ ?_
   ·refine tg_ hC [.n 12] rfl ?_
    rcases Qq h with⟨E,h⟩|⟨E,h⟩
    ·obtain⟨Z,h⟩:=Qas h
     refine Qa hC [.o (.any (.sl 1 (((Qa3 g w).getD ([]:(List Int))).map Qb)) none)] rfl ⟨tt_,(fun σ h1 h2 _=>Stp.lookup (e:=V.I) (f:=(fun x=>V.sl 1 (x.map Qb))) (l:=g) (k:=w) (z:=([]:(List Int))) rfl rfl (QD hC.n rfl) (h1 _ _ rfl) (h2 _ _ rfl) (h1 _ _ rfl) Qjr Qkj QyI rfl)⟩ ?_
     refine AK.eqNil rfl rfl rfl (QD hC.n rfl) rfl rfl Qv0 ?_ ?_
     ·intro hz
      simp [List.map_eq_nil_iff.1 hz]at Z
     refine tg_ hC [.n 5,.K [5,11,56,57] [5,26,65]] rfl ?_
     exact AK.met (ex_ _ (an_ rfl h))
    obtain⟨m,a0,h⟩:=Qc h
    obtain⟨a1,h⟩:=Qas h
    refine Qa hC [.x (fun σ=>σ.put 63 (.lit (.slice none 0 0))),.x (fun σ=>σ.put 64 (.b true)),.n 7,.cm (.fn) [(609,26)] [(68,600),(26,609)] [] [.d,.d] [(600,.arr 1 (m.map Qb)),(609,.map (QN V.I (fun x=>V.sl 1 (x.map Qb)) g))] (.own 600 m.length),.frz 68 (m.map Qb) [68] [],.v (.bd []) [] (.sl 1 (([m]:List (List Int)).map Qf)),.app ((Y++([m]:List (List Int))).map Qf) (Y++([m]:List (List Int))).length,.n 3,.K [5,11,56,57] [5,26,65]] rfl ⟨⟨⟨⟨⟨⟨tt_,(Stp.lookupN (e:=V.I) (f:=(fun x=>V.sl 1 (x.map Qb))) (l:=g) (k:=w) rfl rfl (QD hC.n rfl) rfl rfl rfl Qjr Qkj (by kernel_rfl) E)⟩,(Stp.eqNN rfl rfl (QD hC.n rfl) rfl rfl Qv0)⟩,(Qn7 _ _ _ a0)⟩,⟨tt_,(QcQ Qg)⟩⟩,rfl⟩,⟨Qg,Qc9 a1 Qg,QbS,QeC Qg⟩⟩ ?_
    exact AK.met (ex_ _ (an_ rfl h))
   rintro σ ⟨A,rfl,h⟩
   refine tg_ hC [.n 4,.K [5,11,56,57] [5,26,65]] rfl ?_
   cases h
   exact QJ rfl rfl
  cases h
  exact QK rfl (an_ rfl rfl)
 replace h:QmO W=some r:=h
 rintro e σ ⟨rfl,rfl⟩
 refine Qa hC [.n 10,.frz 65 (W.map Qf) [2] []] rfl ⟨tt_,⟨tt_,(QcQ Qg)⟩⟩ ?_
 cases h
 exact d2_ rfl rfl rfl tt_
def QbM (d:QBg)(a:Int)(c:Int):Option ((Int×Int)⊕(Unit⊕Unit)):=
 bif (decide (c<(d.length:Int)))then
 (idx d c).bind fun b=>
 bif ((decide (b.1≤a))||((decide (b.2<1))||(decide (1048576<b.2))))then
 some (.inr (.inl ()))
 else
 some (.inl (b.1,(w64 (c+1))))
 else
 some (.inr (.inr ()))
def Qin : Option Bool:=
 some false
def Qio : Option Bool:=
 some true
def Qfn (a:QBg):Option Bool:=
 (Qt (fun st=>QbM a st.1 st.2) ((-1),0)).bind (Sum.elim (fun q=>Qin) (fun q=>Qio))
theorem Qor (i){r}(h:Qfn i=some r):Qd prog 91 [.sl 2 (i.map QL)] [] (Qj (.b r) []):=by
 refine Qd.walk 29 func91 rfl rfl rfl fun C hC=>?_
 refine Qa hC [.n 14,.o (.ln i.length),.n 4,.K [3,6,7,8] []] rfl ⟨tt_,Qg⟩ ?_
 obtain⟨l,k,h⟩:=Qc h
 refine AK.loop (body:=(fun st=>QbM i st.1 st.2)) (fun st σ=>σ=⟨[(3,.I st.1),(6,.sl 2 (i.map QL)),(7,.I (i.length:Int)),(8,.I st.2)],[]⟩) (Sum.elim (fun q e σ=>e=.ret∧σ=⟨[(2,.b false)],[]⟩) (fun q e σ=>e=.exit 0∧σ=⟨[],[]⟩)) k rfl ?_ ?_
 ·rintro ⟨a,p⟩ o σ rfl h
  refine tg_ hC [.n 6] rfl ?_
  rcases Qq h with⟨j,h⟩|⟨j,h⟩
  ·obtain⟨d,m,h⟩:=Qc h
   refine Qa hC [.T,.n 6,.o (.row (QL d)),.v .no [] (.agg (QL d)),.n 2,.O 5 (.var (QL d)),.n 4] rfl ⟨⟨⟨⟨tt_,j⟩,(QA m)⟩,rfl⟩,rfl⟩ ?_
   refine AK.meetX (fun σ=>σ=⟨[(5,.loc 5 0 0),(6,.sl 2 (i.map QL)),(7,.I (i.length:Int)),(8,.I p),(25,.b ((decide (d.1≤a))||((decide (d.2<1))||(decide (1048576<d.2)))))],[(5,.var (QL d))]⟩) ?_ ?_
   ·refine tg_ hC [.n 6] rfl ?_
    rcases Qz (decide (d.1≤a))with c | c
    ·refine Qa hC [.S 16 (.b true),.n 10,.S 25 (.b ((decide (d.1≤a))||((decide (d.2<1))||(decide (1048576<d.2))))),.K [5,6,7,8,25] [5]] rfl ⟨(tc_ c),(congrArg V.b (orT c rfl))⟩ ?_
     exact AK.met rfl
    refine Qa hC [.S 16 (.b false),.n 5] rfl (tc_ c) ?_
    rcases Qz (decide (d.2<1))with f | f
    ·refine Qa hC [.S 21 (.b true),.n 5,.S 25 (.b ((decide (d.1≤a))||((decide (d.2<1))||(decide (1048576<d.2))))),.K [5,6,7,8,25] [5]] rfl ⟨(tc_ f),(congrArg V.b (orF c (orT f rfl)))⟩ ?_
     exact AK.met rfl
    refine Qa hC [.S 21 (.b false),.n 5,.S 25 (.b ((decide (d.1≤a))||((decide (d.2<1))||(decide (1048576<d.2))))),.K [5,6,7,8,25] [5]] rfl ⟨(tc_ f),(congrArg V.b (orF c (orF f rfl)))⟩ ?_
    exact AK.met rfl
   rintro σ rfl
   refine tg_ hC [.n 1] rfl ?_
   refine bg_ h (fun g h=>Qa hC [.T,.n 9,.K [2] []] rfl ⟨tt_,g⟩ ?_) fun g h=>Qa hC [.F,.n 13,.K [3,6,7,8] []] rfl ⟨tt_,g⟩ ?_
   ·cases h
    exact QaH rfl (an_ rfl rfl)
   cases h
   exact QJ rfl rfl
  refine Qa hC [.F,.n 2,.K [] []] rfl ⟨tt_,j⟩ ?_
  cases h
  exact QK rfl (an_ rfl rfl)
 rcases l with(_ | _)
 ·replace h:Qin=some r:=h
  rintro e σ ⟨rfl,rfl⟩
  refine tg_ hC [.n 2] rfl ?_
  cases h
  exact d1_ rfl rfl tt_
 replace h:Qio=some r:=h
 rintro e σ ⟨rfl,rfl⟩
 refine tg_ hC [.n 8] rfl ?_
 cases h
 exact d1_ rfl rfl tt_
def Qfo (c:QBg)(b:Int)(d:QBg):Option ((Int×QBg)⊕QBg):=
 bif (decide (b<(c.length:Int)))then
 (idx c b).bind fun a=>
 some (.inl ((w64 (b+1)),(Qb4 ltI d a.1 a.2)))
 else
 some (.inr d)
def QrD (a:QBg):Option (Unit⊕QBg):=
 some (.inr a)
def Qpg (a:QBg):Option (Unit⊕QBg):=
 (Qfn a).bind fun b=>
 bif (!b)then
 some (.inl ())
 else
 (Qt (fun st=>Qfo a st.1 st.2) (0,([]:QBg))).bind (fun q=>QrD q)
theorem QrE (j){r}(h:Qpg j=some r):Qd prog 62 [.sl 2 (j.map QL)] [] ((Sum.elim (fun q=>(Qj (.tup [.lit (.map none),.b false]) [])) (fun q=>(Qj (.tup [.map 601,.b true]) [(601,.map (QN V.I V.I q))]))) r):=by
 refine Qd.walk 24 func62 rfl rfl rfl fun C hC=>?_
 obtain⟨w,s,h⟩:=Qc h
 refine Qa hC [.n 10,.o (.c false [.d] (.b w)),.n 3] rfl ⟨tt_,(Qor _ s)⟩ ?_
 refine bg_ h (fun i h=>Qa hC [.T,.n 8,.K [2,3] []] rfl ⟨tt_,i⟩ ?_) fun i h=>Qa hC [.F,.n 5,.O 10 (.map (QN V.I V.I ([]:QBg))),.n 7,.o (.ln j.length),.n 4,.K [4,11,12,13] [10]] rfl ⟨⟨⟨tt_,i⟩,rfl⟩,Qg⟩ ?_
 ·cases h
  exact AK.done (ex_ [_,_] (an_ (an_ rfl (an_ rfl tt_)) (QbL tt_)))
 obtain⟨t,m,h⟩:=Qc h
 refine AK.loop (body:=(fun st=>Qfo j st.1 st.2)) (fun st σ=>σ=⟨[(4,.map 10),(11,.sl 2 (j.map QL)),(12,.I (j.length:Int)),(13,.I st.1)],[(10,.map (QN V.I V.I st.2))]⟩) (fun q e σ=>e=.exit 0∧σ=⟨[(4,.map 10)],[(10,.map (QN V.I V.I q))]⟩) m rfl ?_ ?_
 ·rintro ⟨y,u⟩ o σ rfl h
  refine tg_ hC [.n 6] rfl ?_
  rcases Qq h with⟨g,h⟩|⟨g,h⟩
  ·obtain⟨a,p,h⟩:=Qc h
   refine Qa hC [.T,.n 6,.o (.row (QL a)),.v .no [] (.agg (QL a)),.n 2,.O 6 (.var (QL a)),.n 8,.x (fun σ=>σ.set 10 (.map (QN V.I V.I (Qb4 ltI u a.1 a.2)))),.n 7,.K [4,11,12,13] [10]] rfl ⟨⟨⟨⟨⟨tt_,g⟩,(QA p)⟩,rfl⟩,rfl⟩,(Stp.mapUpdate (e:=V.I) (f:=V.I) (l:=u) (k:=a.1) (v:=a.2) ltI rfl rfl rfl rfl rfl rfl QvZ Qkj rfl)⟩ ?_
   cases h
   exact QJ rfl rfl
  refine Qa hC [.F,.n 2,.K [4] [10]] rfl ⟨tt_,g⟩ ?_
  cases h
  exact QK rfl (an_ rfl rfl)
 replace h:QrD t=some r:=h
 rintro e σ ⟨rfl,rfl⟩
 refine tg_ hC [.n 10,.K [2,3] [10],.ren 10 601,.K [2,3] [601]] rfl ?_
 cases h
 exact AK.done (ex_ [_,_] (an_ (an_ rfl (an_ rfl tt_)) (QbL ⟨rfl,tt_⟩)))
def Qos (a:Unit):Option Int:=
 some 0
noncomputable def Qip (n9:Int)(k11:Int)(v12:Int):Option (Int⊕Empty):=
 some (.inl (w64 (n9+v12)))
def Qot (a:Int):Option Int:=
 some a
noncomputable def Qiq (a6:QBg):Option Int:=
 (QhM (fun st p=>Qip st p.1 p.2) 0 a6).bind (Sum.elim (fun q=>Qot q) (fun q=>Empty.elim q))
def Qjd (a:QBg):Option Int:=
 (Qpg a).bind (Sum.elim (fun q=>Qos q) (fun q=>Qiq q))
theorem Qtt (y){r}(h:Qjd y=some r):Qd prog 30 [.sl 2 (y.map QL)] [] (Qj (.I r) []):=by
 refine Qd.walk 23 func30 rfl rfl rfl fun C hC=>?_
 obtain⟨A,i,h⟩:=Qc h
 refine tg_ hC [.n 8] rfl ?_
 rcases A with(B | u)
 ·replace h:Qos B=some r:=h
  refine Qa hC [.cm (.fn) [] [] [] [.d] [] (.tup [.lit (.map none),.b false]),.n 16,.x (fun σ=>(σ.set 14 .itr0).put 14 (.loc 14 0 0)),.n 3] rfl ⟨⟨tt_,(QrE _ i)⟩,(Stp.range0 rfl rfl (QD hC.n rfl) rfl QvZ rfl)⟩ ?_
  refine AK.loopOnce ?_
  refine Qa hC [.n 2,.x (fun σ=>σ.put 15 (.tup [.b false])),.n 17] rfl ⟨tt_,(Stp.next0 rfl rfl (QD hC.n rfl) rfl rfl)⟩ ?_
  cases h
  exact d1_ rfl rfl tt_
 replace h:Qiq u=some r:=h
 refine Qa hC [.cm (.fn) [] [(10,601)] [] [.d] [(601,.map (QN V.I V.I u))] (.tup [.map 601,.b true]),.n 16] rfl ⟨tt_,(QrE _ i)⟩ ?_
 refine AK.openMap (b:=10) Qkj rfl fun a c L7 j k=>?_
 refine Qa hC [.x (fun σ=>(σ.set 14 (.itr a c #[] none)).put 14 (.loc 14 0 0)),.n 3,.K [5,14] [10,14]] rfl ⟨tt_,(Stp.range (b:=10) rfl rfl (QD hC.n rfl) rfl rfl QvZ rfl)⟩ ?_
 obtain⟨v,l,h⟩:=Qc h
 refine AK.range (body:=(fun st p=>Qip st p.1 p.2)) (fun st seen σ=>∃cur:Option Nat,σ=⟨[(5,.I st),(14,.loc 14 0 0)],[(10,.mapX a c (Qbn V.I V.I L7) (QN V.I V.I u)),(14,.itr a c seen cur)]⟩) (fun (q:Empty) _ _=>False) (fun st e σ=>e=.exit 0∧σ=⟨[(5,.I st)],[]⟩) j k l (ex_ _ rfl) ?_ ?_
 ·rintro w seen σ ⟨cur,rfl⟩ hex
  refine tg_ hC [.n 2] rfl ?_
  refine AK.nextT (b:=14) (m:=10) rfl rfl rfl (QD hC.n rfl) rfl rfl rfl rfl ?_ ?_
  ·intro hleft
   refine tg_ hC [.n 7,.K [5] []] rfl ?_
   exact AK.done (Or.inl (an_ hleft (an_ (fun h=>(by cases h)) (an_ rfl rfl))))
  intro z s t g
  obtain⟨o,h⟩:=hex _ g
  have ho:=h
  replace h:Qip w s t=some o:=h
  refine Qa hC [.n 10,.x (fun σ=>σ.put 17 (.tup [.I s,.I t])),.n 11,.K [5,14] [10,14]] rfl ⟨tt_,(Stp.entryT (b:=14) (m:=10) (e:=V.I) (f:=V.I) rfl rfl (QD hC.n rfl) rfl g rfl rfl)⟩ ?_
  cases h
  exact AK.done (Or.inr (ex_ _ (an_ g (Or.inl (ex_ _ (an_ ho (an_ rfl (ex_ _ rfl))))))))
 rcases v with(w | q)
 ·replace h:Qot w=some r:=h
  rintro e σ ⟨rfl,rfl⟩
  refine tg_ hC [.n 9] rfl ?_
  cases h
  exact d1_ rfl rfl tt_
 exact q.elim
def QbC (e:QMk)(a:Int)(b:(List Int)):Option ((Int×(List Int))⊕(List Int)):=
 bif (decide (a<(e.length:Int)))then
 (idx e a).bind fun c=>
 (Qjd c).bind fun d=>
 (idx b a).bind fun f=>
 some (.inl ((w64 (a+1)),(b.set a.toNat d)))
 else
 some (.inr b)
def Qfw (a:(List Int)):Option (List Int):=
 some a
def Qbo (a:QMk):Option (List Int):=
 (chk (decide (0≤(a.length:Int))&&decide ((a.length:Int)≤(a.length:Int))&&decide ((a.length:Int)≤4294967296))).bind fun _=>
 (Qt (fun st=>QbC a st.1 st.2) (0,(List.replicate (a.length:Int).toNat (0:Int)))).bind (fun q=>Qfw q)
theorem Qkz (b){r}(h:Qbo b=some r):Qd prog 35 [.sl 1 (b.map QbE),.clo (.func 30) [] []] [] (Qj (.own 600 r.length) [(600,.arr 1 (r.map Qb))]):=by
 refine Qd.walk 26 func35 rfl rfl rfl fun C hC=>?_
 obtain⟨l,h⟩:=Qas h
 refine Qa hC [.n 8,.o (.ln b.length),.o (.rows ((List.replicate (b.length:Int).toNat (0:Int)).map Qb)),.S 10 (.own 10 (List.replicate (b.length:Int).toNat (0:Int)).length),.n 7,.o (.ln b.length),.n 4,.K [1,5,11,12,13] [10]] rfl ⟨⟨⟨⟨tt_,Qg⟩,⟨l,QmD rfl⟩⟩,(by simp)⟩,Qg⟩ ?_
 obtain⟨u,i,h⟩:=Qc h
 refine AK.loop (body:=(fun st=>QbC b st.1 st.2)) (fun st σ=>σ=⟨[(1,.clo (.func 30) [] []),(5,.own 10 st.2.length),(11,.sl 1 (b.map QbE)),(12,.I (b.length:Int)),(13,.I st.1)],[(10,.arr 1 (st.2.map Qb))]⟩) (fun q e σ=>e=.exit 0∧σ=⟨[(5,.own 10 q.length)],[(10,.arr 1 (q.map Qb))]⟩) i rfl ?_ ?_
 ·rintro ⟨s,t⟩ o σ rfl h
  refine tg_ hC [.n 6] rfl ?_
  rcases Qq h with⟨a,h⟩|⟨a,h⟩
  ·obtain⟨m,j,h⟩:=Qc h
   obtain⟨g,k,h⟩:=Qc h
   obtain⟨p,f,h⟩:=Qc h
   refine Qa hC [.T,.n 7,.o (.row (QbE m)),.n 10,.o (.c false [.d] (.I g)),.n 1,.st (Qb p) ((t.set s.toNat g).map Qb),.n 7,.S 5 (.own 10 (t.set s.toNat g).length),.K [1,5,11,12,13] [10]] rfl ⟨⟨⟨⟨⟨⟨tt_,a⟩,(QA j)⟩,(Qtt _ k)⟩,(Qcp f rfl)⟩,⟨(Qbl (QcP f).2),Qi6 rfl⟩⟩,(congrArg (fun n=>V.own 10 n) (by simp))⟩ ?_
   cases h
   exact QJ rfl rfl
  refine Qa hC [.F,.n 2,.K [5] [10]] rfl ⟨tt_,a⟩ ?_
  cases h
  exact QK rfl (an_ rfl rfl)
 replace h:Qfw u=some r:=h
 rintro e σ ⟨rfl,rfl⟩
 refine tg_ hC [.n 9,.K [4] [10],.ren 10 600] rfl ?_
 cases h
 exact d1_ rfl rfl ⟨rfl,tt_⟩
def QrF (a:(List Int))(b:(List Int)):Option ((List Int)×(List Int)):=
 some (a,b)
theorem Qtu (a b){r}(h:QrF a b=some r):Qd prog 76 [.sl 1 (a.map Qb),.sl 1 (b.map Qb)] [] (Qj (.clo (.func 139) [] [.loc 2 0 0,.loc 3 0 0]) [(2,.var (Qf r.1)),(3,.var (Qf r.2))]):=by
 refine Qd.walk 6 func76 rfl rfl rfl fun C hC=>?_
 refine tg_ hC [.n 14] rfl ?_
 cases h
 exact d1_ rfl rfl ⟨rfl,rfl,tt_⟩
def Qmp (a:Int)(b:Int):Option (Int×Int):=
 bif (((decide (a<0))==(decide (b<0)))&&((decide ((w64 (a+b))<0)) != (decide (a<0))))then
 some (0,6)
 else
 some ((w64 (a+b)),0)
theorem Qt8 (a d){r}(h:Qmp a d=some r):Qd prog 140 [.I a,.I d] [] (Qj (.tup [.I r.1,.I r.2]) []):=by
 refine Qd.walk 23 func140 rfl rfl rfl fun C hC=>?_
 refine tg_ hC [.n 16] rfl ?_
 refine AK.meetX (fun σ=>σ=⟨[(6,.I (w64 (a+d))),(21,.b (((decide (a<0))==(decide (d<0)))&&((decide ((w64 (a+d))<0)) != (decide (a<0)))))],[]⟩) ?_ ?_
 ·refine tg_ hC [.n 7] rfl ?_
  rcases Qz ((decide (a<0))==(decide (d<0)))with c | c
  ·refine Qa hC [.S 15 (.b true),.n 7,.S 21 (.b (((decide (a<0))==(decide (d<0)))&&((decide ((w64 (a+d))<0)) != (decide (a<0))))),.K [6,21] []] rfl ⟨(tc_ c),(congrArg V.b (Qat c rfl))⟩ ?_
   exact AK.met rfl
  refine Qa hC [.S 15 (.b false),.n 7,.S 21 (.b (((decide (a<0))==(decide (d<0)))&&((decide ((w64 (a+d))<0)) != (decide (a<0))))),.K [6,21] []] rfl ⟨(tc_ c),(congrArg V.b (Qbm c rfl))⟩ ?_
  exact AK.met rfl
 rintro σ rfl
 refine tg_ hC [.n 1] rfl ?_
 refine bg_ h (fun e h=>Qa hC [.T,.n 8,.K [4,5] []] rfl ⟨tt_,e⟩ ?_) fun e h=>Qa hC [.F,.n 10,.K [4,5] []] rfl ⟨tt_,e⟩ ?_
 ·cases h
  exact d2_ rfl rfl rfl tt_
 cases h
 exact d2_ rfl rfl rfl tt_
def QlY (a:Int)(b:Int):Option (Int×Int):=
 bif (((decide (a<0)) != (decide (b<0)))&&((decide ((w64 (a-b))<0)) != (decide (a<0))))then
 some (0,6)
 else
 some ((w64 (a-b)),0)
theorem Qph (a d){r}(h:QlY a d=some r):Qd prog 141 [.I a,.I d] [] (Qj (.tup [.I r.1,.I r.2]) []):=by
 refine Qd.walk 23 func141 rfl rfl rfl fun C hC=>?_
 refine tg_ hC [.n 16] rfl ?_
 refine AK.meetX (fun σ=>σ=⟨[(6,.I (w64 (a-d))),(21,.b (((decide (a<0)) != (decide (d<0)))&&((decide ((w64 (a-d))<0)) != (decide (a<0)))))],[]⟩) ?_ ?_
 ·refine tg_ hC [.n 7] rfl ?_
  rcases Qz ((decide (a<0)) != (decide (d<0)))with c | c
  ·refine Qa hC [.S 15 (.b true),.n 7,.S 21 (.b (((decide (a<0)) != (decide (d<0)))&&((decide ((w64 (a-d))<0)) != (decide (a<0))))),.K [6,21] []] rfl ⟨(tc_ c),(congrArg V.b (Qat c rfl))⟩ ?_
   exact AK.met rfl
  refine Qa hC [.S 15 (.b false),.n 7,.S 21 (.b (((decide (a<0)) != (decide (d<0)))&&((decide ((w64 (a-d))<0)) != (decide (a<0))))),.K [6,21] []] rfl ⟨(tc_ c),(congrArg V.b (Qbm c rfl))⟩ ?_
  exact AK.met rfl
 rintro σ rfl
 refine tg_ hC [.n 1] rfl ?_
 refine bg_ h (fun e h=>Qa hC [.T,.n 8,.K [4,5] []] rfl ⟨tt_,e⟩ ?_) fun e h=>Qa hC [.F,.n 10,.K [4,5] []] rfl ⟨tt_,e⟩ ?_
 ·cases h
  exact d2_ rfl rfl rfl tt_
 cases h
 exact d2_ rfl rfl rfl tt_
def Qje (a:Int):Option Int:=
 bif (decide (a<0))then
 some (IntKind.u64.wrap (0-(IntKind.u64.wrap a)))
 else
 some (IntKind.u64.wrap a)
theorem Qou (b){r}(h:Qje b=some r):Qd prog 206 [.I b] [] (Qj (.i .u64 r) []):=by
 refine Qd.walk 10 func206 rfl rfl rfl fun C hC=>?_
 refine tg_ hC [.n 12] rfl ?_
 refine bg_ h (fun a h=>Qa hC [.T,.n 3,.o (.any (.i .u64 (IntKind.u64.wrap b)) none),.n 6,.K [2] []] rfl ⟨⟨tt_,a⟩,(fun σ c d _=>Stp.convI rfl rfl (QD hC.n rfl) (c _ _ rfl) QuX Qqd)⟩ ?_) fun a h=>Qa hC [.F,.n 5,.o (.any (.i .u64 (IntKind.u64.wrap b)) none),.n 4,.K [2] []] rfl ⟨⟨tt_,a⟩,(fun σ c d _=>Stp.convI rfl rfl (QD hC.n rfl) (c _ _ rfl) QuX Qqd)⟩ ?_
 ·cases h
  exact d1_ rfl rfl tt_
 cases h
 exact d1_ rfl rfl tt_
def QfB (a:Int)(b:Int):Option (Int×Int):=
 some ((IntKind.u64.wrap ((IntKind.u64.wrap ((IntKind.u64.wrap ((QcR .u64 a 32)*(QcR .u64 b 32)))+(QcR .u64 (IntKind.u64.wrap ((IntKind.u64.wrap ((QcR .u64 a 32)*(Qcy .u64 b 4294967295)))+(QcR .u64 (IntKind.u64.wrap ((Qcy .u64 a 4294967295)*(Qcy .u64 b 4294967295))) 32))) 32)))+(QcR .u64 (IntKind.u64.wrap ((Qcy .u64 (IntKind.u64.wrap ((IntKind.u64.wrap ((QcR .u64 a 32)*(Qcy .u64 b 4294967295)))+(QcR .u64 (IntKind.u64.wrap ((Qcy .u64 a 4294967295)*(Qcy .u64 b 4294967295))) 32))) 4294967295)+(IntKind.u64.wrap ((Qcy .u64 a 4294967295)*(QcR .u64 b 32))))) 32))),(IntKind.u64.wrap (a*b)))
theorem Qpi (b c){r}(h:QfB b c=some r):Qd prog 205 [.i .u64 b,.i .u64 c] [] (Qj (.tup [.i .u64 r.1,.i .u64 r.2]) []):=by
 refine Qd.walk 51 func205 rfl rfl rfl fun C hC=>?_
 refine Qa hC [.n 9,.o (.any (.i .u64 (Qcy .u64 b 4294967295)) none),.n 6,.o (.any (.i .u64 (QcR .u64 b 32)) none),.n 6,.o (.any (.i .u64 (Qcy .u64 c 4294967295)) none),.n 6,.o (.any (.i .u64 (QcR .u64 c 32)) none),.n 17,.o (.any (.i .u64 (QcR .u64 (IntKind.u64.wrap ((Qcy .u64 b 4294967295)*(Qcy .u64 c 4294967295))) 32)) none),.n 7,.o (.any (.i .u64 (Qcy .u64 (IntKind.u64.wrap ((IntKind.u64.wrap ((QcR .u64 b 32)*(Qcy .u64 c 4294967295)))+(QcR .u64 (IntKind.u64.wrap ((Qcy .u64 b 4294967295)*(Qcy .u64 c 4294967295))) 32))) 4294967295)) none),.n 6,.o (.any (.i .u64 (QcR .u64 (IntKind.u64.wrap ((IntKind.u64.wrap ((QcR .u64 b 32)*(Qcy .u64 c 4294967295)))+(QcR .u64 (IntKind.u64.wrap ((Qcy .u64 b 4294967295)*(Qcy .u64 c 4294967295))) 32))) 32)) none),.n 21,.o (.any (.i .u64 (QcR .u64 (IntKind.u64.wrap ((Qcy .u64 (IntKind.u64.wrap ((IntKind.u64.wrap ((QcR .u64 b 32)*(Qcy .u64 c 4294967295)))+(QcR .u64 (IntKind.u64.wrap ((Qcy .u64 b 4294967295)*(Qcy .u64 c 4294967295))) 32))) 4294967295)+(IntKind.u64.wrap ((Qcy .u64 b 4294967295)*(QcR .u64 c 32))))) 32)) none),.n 13] rfl ⟨⟨⟨⟨⟨⟨⟨⟨tt_,(fun σ a d _=>Stp.andB rfl rfl (QD hC.n rfl) (a _ _ rfl) (a _ _ rfl))⟩,(fun σ a d _=>Stp.shr rfl rfl (QD hC.n rfl) (a _ _ rfl) (a _ _ rfl) (by decide))⟩,(fun σ a d _=>Stp.andB rfl rfl (QD hC.n rfl) (a _ _ rfl) (a _ _ rfl))⟩,(fun σ a d _=>Stp.shr rfl rfl (QD hC.n rfl) (a _ _ rfl) (a _ _ rfl) (by decide))⟩,(fun σ a d _=>Stp.shr rfl rfl (QD hC.n rfl) (a _ _ rfl) (a _ _ rfl) (by decide))⟩,(fun σ a d _=>Stp.andB rfl rfl (QD hC.n rfl) (a _ _ rfl) (a _ _ rfl))⟩,(fun σ a d _=>Stp.shr rfl rfl (QD hC.n rfl) (a _ _ rfl) (a _ _ rfl) (by decide))⟩,(fun σ a d _=>Stp.shr rfl rfl (QD hC.n rfl) (a _ _ rfl) (a _ _ rfl) (by decide))⟩ ?_
 cases h
 exact d2_ rfl rfl rfl tt_
def QdZ (b:(Int×Int))(c:Int)(d:Int)(a:Int):Option (Int×Int):=
 bif ((decide (0<b.1))||(decide (a<b.2)))then
 some (0,6)
 else
 some ((w64 (c*d)),0)
def Qir (a:Int)(b:Int):Option (Int×Int):=
 (Qje a).bind fun d=>
 (Qje b).bind fun e=>
 (QfB d e).bind fun c=>
 bif ((decide (a<0)) != (decide (b<0)))then
 QdZ c a b (IntKind.u64.wrap (9223372036854775807+1))
 else
 QdZ c a b 9223372036854775807
theorem Qq4 (k l){r}(h:Qir k l=some r):Qd prog 142 [.I k,.I l] [] (Qj (.tup [.I r.1,.I r.2]) []):=by
 refine Qd.walk 34 func142 rfl rfl rfl fun C hC=>?_
 obtain⟨s,m,h⟩:=Qc h
 obtain⟨t,p,h⟩:=Qc h
 obtain⟨f,q,h⟩:=Qc h
 refine Qa hC [.n 9,.o (.c false [.d] (.i .u64 s)),.n 1,.o (.c false [.d] (.i .u64 t)),.o (.c false [.d,.d] (.tup [.i .u64 f.1,.i .u64 f.2])),.n 12] rfl ⟨⟨⟨tt_,(Qou _ m)⟩,(Qou _ p)⟩,(Qpi _ _ q)⟩ ?_
 refine AK.meet (fun σ=>∃a:Int,σ=⟨[(0,.I k),(1,.I l),(6,.i .u64 f.1),(7,.i .u64 f.2),(8,.i .u64 a)],[]⟩∧QdZ f k l a=some r) ?_ ?_
 ·refine tg_ hC [.n 9] rfl ?_
  refine bg_ h (fun g h=>Qa hC [.T,.n 5,.K [0,1,6,7,8] []] rfl ⟨tt_,g⟩ ?_) fun g h=>Qa hC [.F,.n 1,.K [0,1,6,7,8] []] rfl ⟨tt_,g⟩ ?_
  ·exact AK.met (ex_ _ (an_ rfl h))
  exact AK.met (ex_ _ (an_ rfl h))
 rintro σ ⟨a,rfl,h⟩
 refine tg_ hC [.n 2] rfl ?_
 refine AK.meetX (fun σ=>σ=⟨[(0,.I k),(1,.I l),(30,.b ((decide (0<f.1))||(decide (a<f.2))))],[]⟩) ?_ ?_
 ·refine tg_ hC [.n 4] rfl ?_
  rcases Qz (decide (0<f.1))with e | e
  ·refine Qa hC [.S 26 (.b true),.n 5,.S 30 (.b ((decide (0<f.1))||(decide (a<f.2)))),.K [0,1,30] []] rfl ⟨(tc_ e),(congrArg V.b (orT e rfl))⟩ ?_
   exact AK.met rfl
  refine Qa hC [.S 26 (.b false),.n 5,.S 30 (.b ((decide (0<f.1))||(decide (a<f.2)))),.K [0,1,30] []] rfl ⟨(tc_ e),(congrArg V.b (orF e rfl))⟩ ?_
  exact AK.met rfl
 rintro σ rfl
 refine tg_ hC [.n 1] rfl ?_
 refine bg_ h (fun j h=>Qa hC [.T,.n 8,.K [4,5] []] rfl ⟨tt_,j⟩ ?_) fun j h=>Qa hC [.F,.n 12,.K [4,5] []] rfl ⟨tt_,j⟩ ?_
 ·cases h
  exact d2_ rfl rfl rfl tt_
 cases h
 exact d2_ rfl rfl rfl tt_
def Qkm (b:Int)(a:Int):Option (Int×Int×Int):=
 bif (a==0)then
 some (0,0,7)
 else
 bif ((b==(-9223372036854775808))&&(a==(-1)))then
 some (0,0,6)
 else
 (chk (a != 0)).bind fun _=>
 (chk (a != 0)).bind fun _=>
 some ((w64 (Int.tdiv b a)),(Int.tmod b a),0)
theorem Qln (d f){r}(h:Qkm d f=some r):Qd prog 143 [.I d,.I f] [] (Qj (.tup [.I r.1,.I r.2.1,.I r.2.2]) []):=by
 refine Qd.walk 23 func143 rfl rfl rfl fun C hC=>?_
 refine tg_ hC [.n 16] rfl ?_
 refine bg_ h (fun e h=>Qa hC [.T,.n 10,.K [4,5,6] []] rfl ⟨tt_,e⟩ ?_) fun e h=>Qa hC [.F,.n 1] rfl ⟨tt_,e⟩ ?_
 ·cases h
  exact AK.done (ex_ [_,_,_] (an_ (an_ rfl (an_ rfl (an_ rfl tt_))) (QbL tt_)))
 refine AK.meetX (fun σ=>σ=⟨[(0,.I d),(1,.I f),(10,.b ((d==(-9223372036854775808))&&(f==(-1))))],[]⟩) ?_ ?_
 ·refine tg_ hC [.n 4] rfl ?_
  rcases Qz (d==(-9223372036854775808))with a | a
  ·refine Qa hC [.S 13 (.b true),.n 5,.S 10 (.b ((d==(-9223372036854775808))&&(f==(-1)))),.K [0,1,10] []] rfl ⟨(tc_ a),(congrArg V.b (Qat a rfl))⟩ ?_
   exact AK.met rfl
  refine Qa hC [.S 13 (.b false),.n 5,.S 10 (.b ((d==(-9223372036854775808))&&(f==(-1)))),.K [0,1,10] []] rfl ⟨(tc_ a),(congrArg V.b (Qbm a rfl))⟩ ?_
  exact AK.met rfl
 rintro σ rfl
 refine tg_ hC [.n 1] rfl ?_
 rcases Qq h with⟨c,h⟩|⟨c,h⟩
 ·refine Qa hC [.T,.n 10,.K [4,5,6] []] rfl ⟨tt_,c⟩ ?_
  cases h
  exact AK.done (ex_ [_,_,_] (an_ (an_ rfl (an_ rfl (an_ rfl tt_))) (QbL tt_)))
 obtain⟨g,h⟩:=Qas h
 obtain⟨i,h⟩:=Qas h
 refine Qa hC [.F,.n 4,.K [0,1] []] rfl ⟨tt_,c⟩ ?_
 refine AK.draw2 Qp hC mixed [.N,.N,.N,.N,.N,.N,.N,.N,.N] [] [] [4,5,6] [] rfl rfl rfl ⟨⟨tt_,(neZ g)⟩,(neZ i)⟩ rfl (by kernel_rfl) rfl rfl rfl ?_
 refine tg_ hC [.n 2,.K [4,5,6] []] rfl ?_
 cases h
 exact AK.done (ex_ [_,_,_] (an_ (an_ rfl (an_ rfl (an_ rfl tt_))) (QbL tt_)))
def Qd5 (a:Bool):Option (Int×Int):=
 bif a then
 some (1,0)
 else
 some (0,0)
theorem QcL (c){r}(h:Qd5 c=some r):Qd prog 144 [.b c] [] (Qj (.tup [.I r.1,.I r.2]) []):=by
 refine Qd.walk 5 func144 rfl rfl rfl fun C hC=>?_
 refine tg_ hC [.n 12] rfl ?_
 refine bg_ h (fun a h=>Qa hC [.T,.n 8,.K [2,3] []] rfl ⟨tt_,a⟩ ?_) fun a h=>Qa hC [.F,.n 9,.K [2,3] []] rfl ⟨tt_,a⟩ ?_
 ·cases h
  exact d2_ rfl rfl rfl tt_
 cases h
 exact d2_ rfl rfl rfl tt_
def QuY (c:Int)(d:Int):Option (Int×Int):=
 bif (c != 0)then
 (Qd5 (d != 0)).bind fun a=>
 some (a.1,a.2)
 else
 (Qd5 false).bind fun b=>
 some (b.1,b.2)
def QmQ (a:Int)(b:Int):Option (Int×Int):=
 some (a,b)
def QuZ (c:Int)(d:Int):Option (Int×Int):=
 bif (c != 0)then
 (Qd5 true).bind fun a=>
 some (a.1,a.2)
 else
 (Qd5 (d != 0)).bind fun b=>
 some (b.1,b.2)
def QmR (a:Int)(b:Int):Option (Int×Int):=
 some (a,b)
def Qe1 (op1:Int)(a:Int)(b:Int):Option (Int×Int):=
 bif (op1==1)then
 (Qmp a b).bind fun k=>
 some (k.1,k.2)
 else
 bif (op1==2)then
 (QlY a b).bind fun c=>
 some (c.1,c.2)
 else
 bif (op1==3)then
 (Qir a b).bind fun d=>
 some (d.1,d.2)
 else
 bif (op1==4)then
 (Qkm a b).bind fun e=>
 some (e.1,e.2.2)
 else
 bif (op1==5)then
 (Qkm a b).bind fun f=>
 some (f.2.1,f.2.2)
 else
 bif (op1==6)then
 (Qd5 (a==b)).bind fun g=>
 some (g.1,g.2)
 else
 bif (op1==7)then
 (Qd5 (a != b)).bind fun h=>
 some (h.1,h.2)
 else
 bif (op1==8)then
 (Qd5 (decide (a<b))).bind fun i=>
 some (i.1,i.2)
 else
 bif (op1==9)then
 (Qd5 (decide (a≤b))).bind fun j=>
 some (j.1,j.2)
 else
 bif (op1==10)then
 (QuY a b).bind (fun v=>QmQ v.1 v.2)
 else
 bif (op1==11)then
 (QuZ a b).bind (fun v=>QmR v.1 v.2)
 else
 some (0,1)
theorem Qqe (op1 a2 b3){r}(h:Qe1 op1 a2 b3=some r):Qd prog 77 [.I op1,.I a2,.I b3] [] (Qj (.tup [.I r.1,.I r.2]) []):=by
 refine Qd.walk 112 func77 rfl rfl rfl fun C hC=>?_
 refine tg_ hC [.n 19] rfl ?_
 rcases Qq h with⟨t,h⟩|⟨t,h⟩
 ·obtain⟨x9,a5,h⟩:=Qc h
  refine Qa hC [.T,.n 4,.o (.c false [.d,.d] (.tup [.I x9.1,.I x9.2])),.n 9] rfl ⟨⟨tt_,t⟩,(Qt8 _ _ a5)⟩ ?_
  cases h
  exact d2_ rfl rfl rfl tt_
 refine Qa hC [.F,.n 6] rfl ⟨tt_,t⟩ ?_
 rcases Qq h with⟨a,h⟩|⟨a,h⟩
 ·obtain⟨x,y,h⟩:=Qc h
  refine Qa hC [.T,.n 4,.o (.c false [.d,.d] (.tup [.I x.1,.I x.2])),.n 9] rfl ⟨⟨tt_,a⟩,(Qph _ _ y)⟩ ?_
  cases h
  exact d2_ rfl rfl rfl tt_
 refine Qa hC [.F,.n 6] rfl ⟨tt_,a⟩ ?_
 rcases Qq h with⟨e,h⟩|⟨e,h⟩
 ·obtain⟨z,A,h⟩:=Qc h
  refine Qa hC [.T,.n 4,.o (.c false [.d,.d] (.tup [.I z.1,.I z.2])),.n 9] rfl ⟨⟨tt_,e⟩,(Qq4 _ _ A)⟩ ?_
  cases h
  exact d2_ rfl rfl rfl tt_
 refine Qa hC [.F,.n 6] rfl ⟨tt_,e⟩ ?_
 rcases Qq h with⟨f,h⟩|⟨f,h⟩
 ·obtain⟨u,B,h⟩:=Qc h
  refine Qa hC [.T,.n 4,.o (.c false [.d,.d] (.tup [.I u.1,.I u.2.1,.I u.2.2])),.n 20] rfl ⟨⟨tt_,f⟩,(Qln _ _ B)⟩ ?_
  cases h
  exact d2_ rfl rfl rfl tt_
 refine Qa hC [.F,.n 6] rfl ⟨tt_,f⟩ ?_
 rcases Qq h with⟨g,h⟩|⟨g,h⟩
 ·obtain⟨w,D,h⟩:=Qc h
  refine Qa hC [.T,.n 4,.o (.c false [.d,.d] (.tup [.I w.1,.I w.2.1,.I w.2.2])),.n 20] rfl ⟨⟨tt_,g⟩,(Qln _ _ D)⟩ ?_
  cases h
  exact d2_ rfl rfl rfl tt_
 refine Qa hC [.F,.n 6] rfl ⟨tt_,g⟩ ?_
 rcases Qq h with⟨i,h⟩|⟨i,h⟩
 ·obtain⟨E,G,h⟩:=Qc h
  refine Qa hC [.T,.n 5,.o (.c false [.d] (.tup [.I E.1,.I E.2])),.n 9] rfl ⟨⟨tt_,i⟩,(QcL _ G)⟩ ?_
  cases h
  exact d2_ rfl rfl rfl tt_
 refine Qa hC [.F,.n 6] rfl ⟨tt_,i⟩ ?_
 rcases Qq h with⟨j,h⟩|⟨j,h⟩
 ·obtain⟨H,J,h⟩:=Qc h
  refine Qa hC [.T,.n 5,.o (.c false [.d] (.tup [.I H.1,.I H.2])),.n 9] rfl ⟨⟨tt_,j⟩,(QcL _ J)⟩ ?_
  cases h
  exact d2_ rfl rfl rfl tt_
 refine Qa hC [.F,.n 6] rfl ⟨tt_,j⟩ ?_
 rcases Qq h with⟨k,h⟩|⟨k,h⟩
 ·obtain⟨L,M,h⟩:=Qc h
  refine Qa hC [.T,.n 5,.o (.c false [.d] (.tup [.I L.1,.I L.2])),.n 9] rfl ⟨⟨tt_,k⟩,(QcL _ M)⟩ ?_
  cases h
  exact d2_ rfl rfl rfl tt_
 refine Qa hC [.F,.n 6] rfl ⟨tt_,k⟩ ?_
 rcases Qq h with⟨l,h⟩|⟨l,h⟩
 ·obtain⟨N,O,h⟩:=Qc h
  refine Qa hC [.T,.n 5,.o (.c false [.d] (.tup [.I N.1,.I N.2])),.n 9] rfl ⟨⟨tt_,l⟩,(QcL _ O)⟩ ?_
  cases h
  exact d2_ rfl rfl rfl tt_
 refine Qa hC [.F,.n 6] rfl ⟨tt_,l⟩ ?_
 refine bg_ h (fun m h=>Qa hC [.T,.n 1] rfl ⟨tt_,m⟩ ?_) fun m h=>Qa hC [.F,.n 6] rfl ⟨tt_,m⟩ ?_
 ·obtain⟨v,P,h⟩:=Qc h
  replace h:QmQ v.1 v.2=some r:=h
  refine AK.meetX (fun σ=>σ=⟨[(6,.I v.1),(7,.I v.2)],[]⟩) ?_ ?_
  ·replace h:=P
   refine tg_ hC [.n 4] rfl ?_
   rcases Qq h with⟨p,h⟩|⟨p,h⟩
   ·obtain⟨U,W,h⟩:=Qc h
    refine Qa hC [.S 94 (.b true),.n 3,.o (.c false [.d] (.tup [.I U.1,.I U.2])),.n 5,.K [6,7] []] rfl ⟨(tc_ p),(QcL _ W)⟩ ?_
    cases h
    exact AK.met rfl
   obtain⟨X,Y,h⟩:=Qc h
   refine Qa hC [.S 94 (.b false),.n 3,.o (.c false [.d] (.tup [.I X.1,.I X.2])),.n 5,.K [6,7] []] rfl ⟨(tc_ p),(QcL _ Y)⟩ ?_
   cases h
   exact AK.met rfl
  rintro σ rfl
  obtain⟨a6,a7⟩:=v
  replace h:QmQ a6 a7=some r:=h
  refine tg_ hC [.n 4] rfl ?_
  cases h
  exact d2_ rfl rfl rfl tt_
 refine bg_ h (fun q h=>Qa hC [.T,.n 1] rfl ⟨tt_,q⟩ ?_) fun q h=>Qa hC [.F,.n 10,.K [6,7] []] rfl ⟨tt_,q⟩ ?_
 ·obtain⟨v,Z,h⟩:=Qc h
  replace h:QmR v.1 v.2=some r:=h
  refine AK.meetX (fun σ=>σ=⟨[(6,.I v.1),(7,.I v.2)],[]⟩) ?_ ?_
  ·replace h:=Z
   refine tg_ hC [.n 4] rfl ?_
   rcases Qq h with⟨s,h⟩|⟨s,h⟩
   ·obtain⟨a0,a1,h⟩:=Qc h
    refine Qa hC [.S 105 (.b true),.n 3,.o (.c false [.d] (.tup [.I a0.1,.I a0.2])),.n 5,.K [6,7] []] rfl ⟨(tc_ s),(QcL _ a1)⟩ ?_
    cases h
    exact AK.met rfl
   obtain⟨a3,a4,h⟩:=Qc h
   refine Qa hC [.S 105 (.b false),.n 3,.o (.c false [.d] (.tup [.I a3.1,.I a3.2])),.n 5,.K [6,7] []] rfl ⟨(tc_ s),(QcL _ a4)⟩ ?_
   cases h
   exact AK.met rfl
  rintro σ rfl
  obtain⟨a8,a9⟩:=v
  replace h:QmR a8 a9=some r:=h
  refine tg_ hC [.n 4] rfl ?_
  cases h
  exact d2_ rfl rfl rfl tt_
 cases h
 exact d2_ rfl rfl rfl tt_
def QeP (b:Int)(a:Int):Option ((Int×Int)⊕Int):=
 bif (a != 0)then
 some (.inl (0,a))
 else
 some (.inr b)
def Qd6 (g:Int)(h:Int)(f:Int)(e:Qfk):Option ((Int×Int)⊕Int):=
 (Qe1 3 e.a e.b).bind fun d=>
 bif (d.2==0)then
 (Qe1 1 f d.1).bind fun c=>
 QeP c.1 c.2
 else
 QeP d.1 d.2
theorem QiV (lpl lpf:Nat)(j:Int)(k:Int)(l:Int)(p:Qfk){r:((Int×Int)⊕Int)}(h:Qd6 j k l p=some r):Qom prog lpl (Qbu lpf) (Qze (.loc 610 0 0) (.loc 611 0 0) (.loc 612 0 0) (.agg (Qhb p))) [(609,.lp lpl (Qbu lpf) (QfQ (.loc 610 0 0) (.loc 611 0 0) (.loc 612 0 0)) 0),(610,.var (Qb j)),(611,.var (Qb k)),(612,.var (Qb l))] ((Sum.elim (fun q=>(Qj (.b false) [(609,.lp lpl (Qbu lpf) (QfQ (.loc 610 0 0) (.loc 611 0 0) (.loc 612 0 0)) 2),(610,.var (Qb q.1)),(611,.var (Qb q.2)),(612,.var (Qb l))])) (fun q=>(Qj (.b true) [(609,.lp lpl (Qbu lpf) (QfQ (.loc 610 0 0) (.loc 611 0 0) (.loc 612 0 0)) 0),(610,.var (Qb j)),(611,.var (Qb k)),(612,.var (Qb q))]))) r):=by
 refine Qom.walk (b:=609) 35 rfl rfl fun C hC=>?_
 refine Qa hC [.n 3,.O 7 (.var (Qhb p)),.n 1] rfl ⟨tt_,rfl⟩ ?_
 refine AK.done (an_ rfl (ex_ _ (an_ rfl ?_)))
 obtain⟨t,s,h⟩:=Qc h
 refine Qa hC [.n 7,.o (.c false [.d,.d,.d] (.tup [.I t.1,.I t.2])),.n 7] rfl ⟨tt_,(Qqe _ _ _ s)⟩ ?_
 refine AK.meet (fun σ=>∃m:Int,∃a:Int,σ=⟨[(4,.loc 610 0 0),(5,.loc 611 0 0),(6,.loc 612 0 0),(8,.I m),(9,.I a)],[(609,.lp lpl (Qbu lpf) (QfQ (.loc 610 0 0) (.loc 611 0 0) (.loc 612 0 0)) 1),(610,.var (Qb j)),(611,.var (Qb k)),(612,.var (Qb l))]⟩∧QeP m a=some r) ?_ ?_
 ·refine tg_ hC [.n 6] rfl ?_
  rcases Qq h with⟨e,h⟩|⟨e,h⟩
  ·obtain⟨g,i,h⟩:=Qc h
   refine Qa hC [.T,.n 3,.o (.c false [.d,.d,.d] (.tup [.I g.1,.I g.2])),.n 6,.K [4,5,6,8,9] [609,610,611,612]] rfl ⟨⟨tt_,e⟩,(Qqe _ _ _ i)⟩ ?_
   exact AK.met (ex_ _ (ex_ _ (an_ rfl h)))
  refine Qa hC [.F,.n 1,.K [4,5,6,8,9] [609,610,611,612]] rfl ⟨tt_,e⟩ ?_
  exact AK.met (ex_ _ (ex_ _ (an_ rfl h)))
 rintro σ ⟨m,a,rfl,h⟩
 refine tg_ hC [.n 7] rfl ?_
 refine bg_ h (fun f h=>Qa hC [.T,.n 4,.O 610 (.var (Qb 0)),.n 1,.O 611 (.var (Qb a)),.n 5,.K [] [609,610,611,612]] rfl ⟨⟨⟨tt_,f⟩,rfl⟩,rfl⟩ ?_) fun f h=>Qa hC [.F,.n 5,.O 612 (.var (Qb m)),.n 2,.K [] [609,610,611,612]] rfl ⟨⟨tt_,f⟩,rfl⟩ ?_
 ·cases h
  refine AK.done ?_
  exact ex_ _ (an_ rfl (QbL ⟨rfl,rfl,rfl,rfl,tt_⟩))
 cases h
 refine AK.done ?_
 exact ex_ _ (an_ rfl (QbL ⟨rfl,rfl,rfl,rfl,tt_⟩))
def QmS (b:Int)(a:(Int×Int)):Option ((Int×Int)⊕((Int×Int×Int)⊕Int)):=
 some (.inr (.inl (a.1,a.2,b)))
def Qgg (a:Int)(b:Int):Option ((Int×Int)⊕((Int×Int×Int)⊕Int)):=
 some (.inl ((w64 (a+1)),b))
def Qb6 (f:(List Int))(g:(List Int))(h:Int)(i:Int)(a:Int)(b:Int):Option ((Int×Int)⊕((Int×Int×Int)⊕Int)):=
 bif (decide (a<(min2 (f.length:Int) (g.length:Int))))then
 (idx f a).bind fun c=>
 (idx g a).bind fun d=>
 (Qd6 h i b (Qfk.mk c d)).bind fun e=>
 (Sum.elim (fun q=>QmS b q) (fun q=>Qgg a q)) e
 else
 some (.inr (.inr b))
def QjQ (a:Int)(b:Int)(c:Int):Option ((Int×Int×Int)⊕Int):=
 some (.inl (a,b,c))
def QjR (a:Int):Option ((Int×Int×Int)⊕Int):=
 some (.inr a)
def QgL (a:Int)(b:Int)(c:Int)(d:(List Int))(e:(List Int)):Option ((Int×Int×Int)⊕Int):=
 (Qt (fun st=>Qb6 d e a b st.1 st.2) (0,c)).bind (Sum.elim (fun q=>QjQ q.1 q.2.1 q.2.2) (fun q=>QjR q))
theorem QmT (lpl lpf:Nat)(k:Int)(l:Int)(P:Int)(i:(List Int))(j:(List Int)){r:((Int×Int×Int)⊕Int)}(h:QgL k l P i j=some r):Qd prog 139 [.clo (.yield lpl) [] [],.loc 613 0 0,.loc 614 0 0] [(609,.lp lpl (Qbu lpf) (QfQ (.loc 610 0 0) (.loc 611 0 0) (.loc 612 0 0)) 0),(610,.var (Qb k)),(611,.var (Qb l)),(612,.var (Qb P)),(613,.var (Qf i)),(614,.var (Qf j))] ((Sum.elim (fun q=>(Qj (.tup []) [(609,.lp lpl (Qbu lpf) (QfQ (.loc 610 0 0) (.loc 611 0 0) (.loc 612 0 0)) 2),(610,.var (Qb q.1)),(611,.var (Qb q.2.1)),(612,.var (Qb q.2.2)),(613,.var (Qf i)),(614,.var (Qf j))])) (fun q=>(Qj (.tup []) [(609,.lp lpl (Qbu lpf) (QfQ (.loc 610 0 0) (.loc 611 0 0) (.loc 612 0 0)) 0),(610,.var (Qb k)),(611,.var (Qb l)),(612,.var (Qb q)),(613,.var (Qf i)),(614,.var (Qf j))]))) r):=by
 refine Qd.walk 26 func139 rfl rfl rfl fun C hC=>?_
 refine Qa hC [.n 3,.o (.ln i.length),.n 1,.o (.ln j.length),.n 5,.K [0,1,2,9,10] [609,610,611,612,613,614]] rfl ⟨⟨tt_,Qg⟩,Qg⟩ ?_
 obtain⟨B,y,h⟩:=Qc h
 refine AK.loop (body:=(fun st=>Qb6 i j k l st.1 st.2)) (fun st σ=>σ=⟨[(0,.clo (.yield lpl) [] []),(1,.loc 613 0 0),(2,.loc 614 0 0),(9,.I (min2 (i.length:Int) (j.length:Int))),(10,.I st.1)],[(609,.lp lpl (Qbu lpf) (QfQ (.loc 610 0 0) (.loc 611 0 0) (.loc 612 0 0)) 0),(610,.var (Qb k)),(611,.var (Qb l)),(612,.var (Qb st.2)),(613,.var (Qf i)),(614,.var (Qf j))]⟩) (Sum.elim (fun q e σ=>e=.ret∧σ=⟨[],[(609,.lp lpl (Qbu lpf) (QfQ (.loc 610 0 0) (.loc 611 0 0) (.loc 612 0 0)) 2),(610,.var (Qb q.1)),(611,.var (Qb q.2.1)),(612,.var (Qb q.2.2)),(613,.var (Qf i)),(614,.var (Qf j))]⟩) (fun q e σ=>e=.exit 0∧σ=⟨[],[(609,.lp lpl (Qbu lpf) (QfQ (.loc 610 0 0) (.loc 611 0 0) (.loc 612 0 0)) 0),(610,.var (Qb k)),(611,.var (Qb l)),(612,.var (Qb q)),(613,.var (Qf i)),(614,.var (Qf j))]⟩)) y rfl ?_ ?_
 ·rintro ⟨D,p⟩ o σ rfl h
  refine tg_ hC [.n 6] rfl ?_
  refine bg_ h (fun f h=>Qa hC [.T,.n 11] rfl ⟨tt_,f⟩ ?_) fun f h=>Qa hC [.F,.n 2,.K [] [609,610,611,612,613,614]] rfl ⟨tt_,f⟩ ?_
  ·obtain⟨s,v,h⟩:=Qc h
   obtain⟨t,w,h⟩:=Qc h
   obtain⟨E,x,h⟩:=Qc h
   rcases E with(c | u)
   ·replace h:QmS p c=some o:=h
    refine tg_ hC [.K [0,1,2,4,9,10] [609,610,611,612,613,614]] rfl ?_
    refine AK.draw2 Qp hC mixed [.N,.N,.N,.a (.row (Qb s)) none false,.N,.N,.N,.a (.row (Qb t)) none false,.N,.a .no (some ([],.agg (Qhb (Qfk.mk s t)))) false,.m (.any ⟨[],[(609,.lp lpl (Qbu lpf) (QfQ (.loc 610 0 0) (.loc 611 0 0) (.loc 612 0 0)) 2),(610,.var (Qb c.1)),(611,.var (Qb c.2)),(612,.var (Qb p))],some (23,.b false)⟩),.N] [] [] [0,1,2,9,10,24] [609,610,611,612,613,614] rfl rfl rfl ⟨⟨⟨⟨tt_,(QA v)⟩,(QA w)⟩,rfl⟩,(fun σ z A=>Stp.yieldH (b:=609) (M:=[(609,609),(610,610),(611,611),(612,612)]) (N:=[(609,609),(610,610),(611,611),(612,612)]) (dead:=[]) (ms:=[.d,.d,.d,.d,.d,.d,.d,.d,.d,.d,.d,.d,.d,.d,.d,.d,.d,.d,.d,.d,.d,.d,.d,.d,.d,.d,.d,.d,.d,.d,.d,.d,.d,.d,.d]) (outs:=[(609,.lp lpl (Qbu lpf) (QfQ (.loc 610 0 0) (.loc 611 0 0) (.loc 612 0 0)) 2),(610,.var (Qb c.1)),(611,.var (Qb c.2)),(612,.var (Qb p))]) (r:=.b false) A rfl (z _ _ rfl) (A _ _ rfl) rfl (Qdd z rfl) rfl rfl (QD hC.n rfl) hC.g rfl rfl rfl rfl rfl rfl rfl rfl (QiV _ _ _ _ _ _ x))⟩ rfl (by kernel_rfl) rfl rfl rfl ?_
    refine Qa hC [.O 609 (.lp lpl (Qbu lpf) (QfQ (.loc 610 0 0) (.loc 611 0 0) (.loc 612 0 0)) 2),.O 610 (.var (Qb c.1)),.O 611 (.var (Qb c.2)),.O 612 (.var (Qb p)),.n 5,.K [] [609,610,611,612,613,614]] rfl ⟨⟨⟨⟨tt_,rfl⟩,rfl⟩,rfl⟩,rfl⟩ ?_
    cases h
    exact QaH rfl (an_ rfl rfl)
   replace h:Qgg D u=some o:=h
   refine tg_ hC [.K [0,1,2,4,9,10] [609,610,611,612,613,614]] rfl ?_
   refine AK.draw2 Qp hC mixed [.N,.N,.N,.a (.row (Qb s)) none false,.N,.N,.N,.a (.row (Qb t)) none false,.N,.a .no (some ([],.agg (Qhb (Qfk.mk s t)))) false,.m (.any ⟨[],[(609,.lp lpl (Qbu lpf) (QfQ (.loc 610 0 0) (.loc 611 0 0) (.loc 612 0 0)) 0),(610,.var (Qb k)),(611,.var (Qb l)),(612,.var (Qb u))],some (23,.b true)⟩),.N] [] [] [0,1,2,9,10,24] [609,610,611,612,613,614] rfl rfl rfl ⟨⟨⟨⟨tt_,(QA v)⟩,(QA w)⟩,rfl⟩,(fun σ z A=>Stp.yieldH (b:=609) (M:=[(609,609),(610,610),(611,611),(612,612)]) (N:=[(609,609),(610,610),(611,611),(612,612)]) (dead:=[]) (ms:=[.d,.d,.d,.d,.d,.d,.d,.d,.d,.d,.d,.d,.d,.d,.d,.d,.d,.d,.d,.d,.d,.d,.d,.d,.d,.d,.d,.d,.d,.d,.d,.d,.d,.d,.d]) (outs:=[(609,.lp lpl (Qbu lpf) (QfQ (.loc 610 0 0) (.loc 611 0 0) (.loc 612 0 0)) 0),(610,.var (Qb k)),(611,.var (Qb l)),(612,.var (Qb u))]) (r:=.b true) A rfl (z _ _ rfl) (A _ _ rfl) rfl (Qdd z rfl) rfl rfl (QD hC.n rfl) hC.g rfl rfl rfl rfl rfl rfl rfl rfl (QiV _ _ _ _ _ _ x))⟩ rfl (by kernel_rfl) rfl rfl rfl ?_
   refine Qa hC [.O 609 (.lp lpl (Qbu lpf) (QfQ (.loc 610 0 0) (.loc 611 0 0) (.loc 612 0 0)) 0),.O 610 (.var (Qb k)),.O 611 (.var (Qb l)),.O 612 (.var (Qb u)),.n 9,.K [0,1,2,9,10] [609,610,611,612,613,614]] rfl ⟨⟨⟨⟨tt_,rfl⟩,rfl⟩,rfl⟩,rfl⟩ ?_
   cases h
   exact QJ rfl rfl
  cases h
  exact QK rfl (an_ rfl rfl)
 rcases B with(⟨G,H,J⟩|L)
 ·replace h:QjQ G H J=some r:=h
  rintro e σ ⟨rfl,rfl⟩
  refine tg_ hC [.n 1,.K [] [609,610,611,612,613,614]] rfl ?_
  cases h
  refine AK.done ?_
  exact ex_ [] (an_ tt_ (QbL ⟨rfl,rfl,rfl,rfl,rfl,rfl,tt_⟩))
 replace h:QjR L=some r:=h
 rintro e σ ⟨rfl,rfl⟩
 refine tg_ hC [.n 1,.K [] [609,610,611,612,613,614]] rfl ?_
 cases h
 refine AK.done ?_
 exact ex_ [] (an_ tt_ (QbL ⟨rfl,rfl,rfl,rfl,rfl,rfl,tt_⟩))
def Qis (a:(Int×Int×Int)):Option (Int×Int):=
 some (a.1,a.2.1)
def Qit (a:Int):Option (Int×Int):=
 some (a,0)
def Qjf (b:(List Int))(c:(List Int)):Option (Int×Int):=
 (QrF b c).bind fun a=>
 (QgL 0 0 0 a.1 a.2).bind (Sum.elim (fun q=>Qis q) (fun q=>Qit q))
theorem Qov (g i){r}(h:Qjf g i=some r):Qd prog 34 [.sl 1 (g.map Qb),.sl 1 (i.map Qb)] [] (Qj (.tup [.I r.1,.I r.2]) []):=by
 refine Qd.walkR 35 func34 rfl ntmps34 rfl fun C hC hR=>?_
 obtain⟨b,f,h⟩:=Qc h
 refine Qa hC [.n 10,.O 6 (.var (Qb 0)),.n 7,.cm (.fn) [] [(12,2),(603,3)] [] [.d,.d] [(2,.var (Qf b.1)),(3,.var (Qf b.2))] (.clo (.func 139) [] [.loc 2 0 0,.loc 3 0 0]),.n 3,.K [4,5,6,12] [4,5,6,12,603]] rfl ⟨⟨tt_,rfl⟩,(Qtu _ _ f)⟩ ?_
 obtain⟨j,c,h⟩:=Qc h
 rcases j with(e | a)
 ·replace h:Qis e=some r:=h
  refine AK.rangeF 607 [4,5,6] [(609,607),(610,4),(611,5),(612,6),(613,12),(614,603)] [(607,609),(4,610),(5,611),(6,612),(12,613),(603,614)] [] [.d,.d,.d] Qbu hC hR (fun _=>rfl) rfl rfl rfl rfl fun lpl lpf=>?_
  refine ex_ [(609,.lp lpl (Qbu lpf) (QfQ (.loc 610 0 0) (.loc 611 0 0) (.loc 612 0 0)) 2),(610,.var (Qb e.1)),(611,.var (Qb e.2.1)),(612,.var (Qb e.2.2)),(613,.var (Qf b.1)),(614,.var (Qf b.2))] (ex_ (.tup []) (ex_ _ (ex_ _ (ex_ (QfQ (.loc 4 0 0) (.loc 5 0 0) (.loc 6 0 0)) (ex_ 2 (an_ rfl ?_))))))
  refine an_ (QmT _ _ _ _ _ _ _ c) (an_ rfl (an_ (bne_iff_ne.1 (show(2 != 1)=true from rfl)) ?_))
  refine Qzb rfl ?_
  refine tg_ hC [.n 3,.K [4,5] [4,5]] rfl ?_
  cases h
  exact AK.done (ex_ [_,_] (an_ (an_ (ex_ _ (ex_ _ (an_ rfl (an_ rfl (Or.inr (an_ (Qp.ag rfl) rfl)))))) (an_ (ex_ _ (ex_ _ (an_ rfl (an_ rfl (Or.inr (an_ (Qp.ag rfl) rfl)))))) tt_)) (QbL tt_)))
 replace h:Qit a=some r:=h
 refine AK.rangeF 607 [4,5,6] [(609,607),(610,4),(611,5),(612,6),(613,12),(614,603)] [(607,609),(4,610),(5,611),(6,612),(12,613),(603,614)] [] [.d,.d,.d] Qbu hC hR (fun _=>rfl) rfl rfl rfl rfl fun lpl lpf=>?_
 refine ex_ [(609,.lp lpl (Qbu lpf) (QfQ (.loc 610 0 0) (.loc 611 0 0) (.loc 612 0 0)) 0),(610,.var (Qb 0)),(611,.var (Qb 0)),(612,.var (Qb a)),(613,.var (Qf b.1)),(614,.var (Qf b.2))] (ex_ (.tup []) (ex_ _ (ex_ _ (ex_ (QfQ (.loc 4 0 0) (.loc 5 0 0) (.loc 6 0 0)) (ex_ 0 (an_ rfl ?_))))))
 refine an_ (QmT _ _ _ _ _ _ _ c) (an_ rfl (an_ (bne_iff_ne.1 (show(0 != 1)=true from rfl)) ?_))
 refine Qza rfl ?_
 refine Qa hC [.n 6,.O 4 (.var (Qb a)),.n 1,.O 5 (.var (Qb 0)),.n 3,.K [4,5] [4,5]] rfl ⟨⟨tt_,rfl⟩,rfl⟩ ?_
 cases h
 exact AK.done (ex_ [_,_] (an_ (an_ (ex_ _ (ex_ _ (an_ rfl (an_ rfl (Or.inr (an_ (Qp.ag rfl) rfl)))))) (an_ (ex_ _ (ex_ _ (an_ rfl (an_ rfl (Or.inr (an_ (Qp.ag rfl) rfl)))))) tt_)) (QbL tt_)))
def QgM (a:(List Int))(b:QMk):Option (Int×Int):=
 bif ((a.length:Int) != (b.length:Int))then
 some (0,1)
 else
 (Qbo b).bind fun d=>
 (Qjf a d).bind fun c=>
 some (c.1,c.2)
theorem QmU (b e){r}(h:QgM b e=some r):Qd prog 12 [.sl 1 (b.map Qb),.sl 1 (e.map QbE)] [] (Qj (.tup [.I r.1,.I r.2]) []):=by
 refine Qd.walk 17 func12 rfl rfl rfl fun C hC=>?_
 refine Qa hC [.n 10,.o (.ln b.length),.n 1,.o (.ln e.length),.n 3] rfl ⟨⟨tt_,Qg⟩,Qg⟩ ?_
 rcases Qq h with⟨a,h⟩|⟨a,h⟩
 ·refine Qa hC [.T,.n 8] rfl ⟨tt_,a⟩ ?_
  cases h
  exact d2_ rfl rfl rfl tt_
 obtain⟨f,g,h⟩:=Qc h
 obtain⟨j,i,h⟩:=Qc h
 refine Qa hC [.F,.n 6,.cm (.fn) [] [(13,600)] [] [.d,.d] [(600,.arr 1 (f.map Qb))] (.own 600 f.length),.o (.c true [.d,.o (f.map Qb)] (.tup [.I j.1,.I j.2])),.n 7] rfl ⟨⟨⟨tt_,a⟩,(Qkz _ g)⟩,⟨(Qj3 rfl),(Qov _ _ i)⟩⟩ ?_
 cases h
 exact d2_ rfl rfl rfl tt_
def QcE (c:(List Int))(d:(List Int))(a:Int):Option (Int⊕(Unit⊕Unit)):=
 bif (decide (a<(c.length:Int)))then
 (idx c a).bind fun e=>
 (idx d a).bind fun b=>
 bif (e != b)then
 some (.inr (.inl ()))
 else
 some (.inl (w64 (a+1)))
 else
 some (.inr (.inr ()))
def QnK : Option Bool:=
 some false
def QnL : Option Bool:=
 some true
def Qdy (a:(List Int))(b:(List Int)):Option Bool:=
 bif ((a.length:Int) != (b.length:Int))then
 some false
 else
 (Qt (fun st=>QcE a b st) 0).bind (Sum.elim (fun q=>QnK) (fun q=>QnL))
theorem Qbx (g i){r}(h:Qdy g i=some r):Qd prog 17 [.sl 1 (g.map Qb),.sl 1 (i.map Qb)] [] (Qj (.b r) []):=by
 refine Qd.walk 26 func17 rfl rfl rfl fun C hC=>?_
 refine Qa hC [.n 9,.o (.ln g.length),.n 1,.o (.ln i.length),.n 3] rfl ⟨⟨tt_,Qg⟩,Qg⟩ ?_
 refine bg_ h (fun d h=>Qa hC [.T,.n 7,.K [4] []] rfl ⟨tt_,d⟩ ?_) fun d h=>Qa hC [.F,.n 9,.K [0,1,5] []] rfl ⟨tt_,d⟩ ?_
 ·cases h
  exact d1_ rfl rfl tt_
 obtain⟨l,j,h⟩:=Qc h
 refine AK.loop (body:=(fun st=>QcE g i st)) (fun st σ=>σ=⟨[(0,.sl 1 (g.map Qb)),(1,.sl 1 (i.map Qb)),(5,.I st)],[]⟩) (Sum.elim (fun q e σ=>e=.ret∧σ=⟨[(4,.b false)],[]⟩) (fun q e σ=>e=.exit 0∧σ=⟨[],[]⟩)) j rfl ?_ ?_
 ·rintro t o σ rfl h
  refine Qa hC [.n 5,.o (.ln g.length),.n 3] rfl ⟨tt_,Qg⟩ ?_
  rcases Qq h with⟨f,h⟩|⟨f,h⟩
  ·obtain⟨s,m,h⟩:=Qc h
   obtain⟨p,k,h⟩:=Qc h
   refine Qa hC [.T,.n 5,.K [0,1,5] []] rfl ⟨tt_,f⟩ ?_
   refine AK.draw2 Qp hC mixed [.N,.N,.a (.row (Qb s)) none false,.N,.N,.N,.a (.row (Qb p)) none false,.N,.N] [] [] [0,1,5,25] [] rfl rfl rfl ⟨⟨tt_,(QA m)⟩,(QA k)⟩ rfl (by kernel_rfl) rfl rfl rfl ?_
   refine tg_ hC [.n 1] rfl ?_
   refine bg_ h (fun c h=>Qa hC [.T,.n 8,.K [4] []] rfl ⟨tt_,c⟩ ?_) fun c h=>Qa hC [.F,.n 8,.K [0,1,5] []] rfl ⟨tt_,c⟩ ?_
   ·cases h
    exact QaH rfl (an_ rfl rfl)
   cases h
   exact QJ rfl rfl
  refine Qa hC [.F,.n 2,.K [] []] rfl ⟨tt_,f⟩ ?_
  cases h
  exact QK rfl (an_ rfl rfl)
 rcases l with(_ | _)
 ·replace h:QnK=some r:=h
  rintro e σ ⟨rfl,rfl⟩
  refine tg_ hC [.n 2] rfl ?_
  cases h
  exact d1_ rfl rfl tt_
 replace h:QnL=some r:=h
 rintro e σ ⟨rfl,rfl⟩
 refine tg_ hC [.n 8] rfl ?_
 cases h
 exact d1_ rfl rfl tt_
def QcF (d:QLL)(e:QLL)(a:Int):Option (Int⊕(Unit⊕Unit)):=
 bif (decide (a<(d.length:Int)))then
 (idx d a).bind fun f=>
 (idx e a).bind fun b=>
 (Qdy f b).bind fun c=>
 bif (!c)then
 some (.inr (.inl ()))
 else
 some (.inl (w64 (a+1)))
 else
 some (.inr (.inr ()))
def QnM : Option Bool:=
 some false
def QnN : Option Bool:=
 some true
def QfT (a:QLL)(b:QLL):Option Bool:=
 bif ((a.length:Int) != (b.length:Int))then
 some false
 else
 (Qt (fun st=>QcF a b st) 0).bind (Sum.elim (fun q=>QnM) (fun q=>QnN))
theorem QbR (j k){r}(h:QfT j k=some r):Qd prog 14 [.sl 1 (j.map Qf),.sl 1 (k.map Qf)] [] (Qj (.b r) []):=by
 refine Qd.walk 27 func14 rfl rfl rfl fun C hC=>?_
 refine Qa hC [.n 9,.o (.ln j.length),.n 1,.o (.ln k.length),.n 3] rfl ⟨⟨tt_,Qg⟩,Qg⟩ ?_
 refine bg_ h (fun g h=>Qa hC [.T,.n 7,.K [4] []] rfl ⟨tt_,g⟩ ?_) fun g h=>Qa hC [.F,.n 9,.K [0,1,5] []] rfl ⟨tt_,g⟩ ?_
 ·cases h
  exact d1_ rfl rfl tt_
 obtain⟨s,l,h⟩:=Qc h
 refine AK.loop (body:=(fun st=>QcF j k st)) (fun st σ=>σ=⟨[(0,.sl 1 (j.map Qf)),(1,.sl 1 (k.map Qf)),(5,.I st)],[]⟩) (Sum.elim (fun q e σ=>e=.ret∧σ=⟨[(4,.b false)],[]⟩) (fun q e σ=>e=.exit 0∧σ=⟨[],[]⟩)) l rfl ?_ ?_
 ·rintro x o σ rfl h
  refine Qa hC [.n 5,.o (.ln j.length),.n 3] rfl ⟨tt_,Qg⟩ ?_
  rcases Qq h with⟨i,h⟩|⟨i,h⟩
  ·obtain⟨w,t,h⟩:=Qc h
   obtain⟨u,m,h⟩:=Qc h
   obtain⟨v,p,h⟩:=Qc h
   refine Qa hC [.T,.n 5,.K [0,1,5] []] rfl ⟨tt_,i⟩ ?_
   refine AK.draw2 Qp hC mixed [.N,.N,.a (.row (Qf w)) none false,.N,.N,.N,.a (.row (Qf u)) none false,.N,.a (.c false [.d,.d] (.b v)) none false,.N] [] [] [0,1,5,26] [] rfl rfl rfl ⟨⟨⟨tt_,(QA t)⟩,(QA m)⟩,(Qbx _ _ p)⟩ rfl (by kernel_rfl) rfl rfl rfl ?_
   refine tg_ hC [.n 1] rfl ?_
   refine bg_ h (fun f h=>Qa hC [.T,.n 8,.K [4] []] rfl ⟨tt_,f⟩ ?_) fun f h=>Qa hC [.F,.n 8,.K [0,1,5] []] rfl ⟨tt_,f⟩ ?_
   ·cases h
    exact QaH rfl (an_ rfl rfl)
   cases h
   exact QJ rfl rfl
  refine Qa hC [.F,.n 2,.K [] []] rfl ⟨tt_,i⟩ ?_
  cases h
  exact QK rfl (an_ rfl rfl)
 rcases s with(_ | _)
 ·replace h:QnM=some r:=h
  rintro e σ ⟨rfl,rfl⟩
  refine tg_ hC [.n 2] rfl ?_
  cases h
  exact d1_ rfl rfl tt_
 replace h:QnN=some r:=h
 rintro e σ ⟨rfl,rfl⟩
 refine tg_ hC [.n 8] rfl ?_
 cases h
 exact d1_ rfl rfl tt_
def Qkn (a:Int)(b:(List Int)):Option Bool:=
 (idx b a).bind fun c=>
 some (c != 0)
theorem Qqf (a c){r}(h:Qkn a c=some r):Qd prog 46 [.I a,.loc 609 0 0] [(609,.var (Qf c))] (Qj (.b r) [(609,.var (Qf c))]):=by
 refine Qd.walk 9 func46 rfl rfl rfl fun C hC=>?_
 obtain⟨e,d,h⟩:=Qc h
 refine Qa hC [.n 9,.o (.row (Qb e)),.n 6] rfl ⟨tt_,(QA d)⟩ ?_
 cases h
 exact d1_ rfl rfl ⟨rfl,tt_⟩
def Q6 (c:(List Int))(d:(List Int))(a:Int):Option (Int⊕(Int⊕Unit)):=
 bif (decide (a<(c.length:Int)))then
 (idx c a).bind fun e=>
 (Qkn e d).bind fun b=>
 bif b then
 some (.inr (.inl a))
 else
 some (.inl (w64 (a+1)))
 else
 some (.inr (.inr ()))
def Qet (a:Int):Option Int:=
 some a
def Qeu : Option Int:=
 some (-1)
def QcT (a:(List Int))(b:(List Int)):Option Int:=
 (Qt (fun st=>Q6 a b st) 0).bind (Sum.elim (fun q=>Qet q) (fun q=>Qeu))
theorem QjS (g c){r}(h:QcT g c=some r):Qd prog 80 [.sl 1 (g.map Qb),.clo (.func 46) [] [.loc 609 0 0]] [(609,.var (Qf c))] (Qj (.I r) [(609,.var (Qf c))]):=by
 refine Qd.walk 19 func80 rfl rfl rfl fun C hC=>?_
 refine Qa hC [.n 9,.o (.ln g.length),.n 4,.K [0,1,7,8] [609]] rfl ⟨tt_,Qg⟩ ?_
 obtain⟨k,i,h⟩:=Qc h
 refine AK.loop (body:=(fun st=>Q6 g c st)) (fun st σ=>σ=⟨[(0,.sl 1 (g.map Qb)),(1,.clo (.func 46) [] [.loc 609 0 0]),(7,.I (g.length:Int)),(8,.I st)],[(609,.var (Qf c))]⟩) (Sum.elim (fun q e σ=>e=.ret∧σ=⟨[(4,.I q)],[(609,.var (Qf c))]⟩) (fun q e σ=>e=.exit 0∧σ=⟨[],[(609,.var (Qf c))]⟩)) i rfl ?_ ?_
 ·rintro t o σ rfl h
  refine tg_ hC [.n 6] rfl ?_
  rcases Qq h with⟨f,h⟩|⟨f,h⟩
  ·obtain⟨p,l,h⟩:=Qc h
   obtain⟨m,j,h⟩:=Qc h
   refine Qa hC [.T,.n 15,.o (.row (Qb p)),.n 1,.cm (.clo) [(609,609)] [(609,609)] [] [.d,.d] [(609,.var (Qf c))] (.b m),.n 2] rfl ⟨⟨⟨tt_,f⟩,(QA l)⟩,(Qqf _ _ j)⟩ ?_
   refine bg_ h (fun a h=>Qa hC [.T,.n 9,.K [4] [609]] rfl ⟨tt_,a⟩ ?_) fun a h=>Qa hC [.F,.n 7,.K [0,1,7,8] [609]] rfl ⟨tt_,a⟩ ?_
   ·cases h
    exact QaH rfl (an_ rfl rfl)
   cases h
   exact QJ rfl rfl
  refine Qa hC [.F,.n 2,.K [] [609]] rfl ⟨tt_,f⟩ ?_
  cases h
  exact QK rfl (an_ rfl rfl)
 rcases k with(s | _)
 ·replace h:Qet s=some r:=h
  rintro e σ ⟨rfl,rfl⟩
  refine tg_ hC [.n 2] rfl ?_
  cases h
  exact d1_ rfl rfl ⟨rfl,tt_⟩
 replace h:Qeu=some r:=h
 rintro e σ ⟨rfl,rfl⟩
 refine tg_ hC [.n 8] rfl ?_
 cases h
 exact d1_ rfl rfl ⟨rfl,tt_⟩
def Qbe (a:(List Int))(b:(List Int)):Option Bool:=
 (QcT a b).bind fun c=>
 some (decide (0≤c))
theorem Qiu (e a){r}(h:Qbe e a=some r):Qd prog 47 [.sl 1 (e.map Qb),.clo (.func 46) [] [.loc 609 0 0]] [(609,.var (Qf a))] (Qj (.b r) [(609,.var (Qf a))]):=by
 refine Qd.walk 9 func47 rfl rfl rfl fun C hC=>?_
 obtain⟨f,c,h⟩:=Qc h
 refine Qa hC [.n 9,.cm (.fn) [(609,609)] [(609,609)] [] [.d,.d] [(609,.var (Qf a))] (.I f),.n 5] rfl ⟨tt_,(QjS _ _ c)⟩ ?_
 cases h
 exact d1_ rfl rfl ⟨rfl,tt_⟩
def Qko (b:(List Int))(c:(List Int)):Option Bool:=
 (Qjf c b).bind fun a=>
 some ((a.1 != 0)||(a.2 != 0))
theorem Qqg (i f){r}(h:Qko i f=some r):Qd prog 45 [.sl 1 (i.map Qb),.loc 609 0 0] [(609,.var (Qf f))] (Qj (.b r) [(609,.var (Qf f))]):=by
 refine Qd.walk 18 func45 rfl rfl rfl fun C hC=>?_
 obtain⟨e,g,h⟩:=Qc h
 refine Qa hC [.n 9,.o (.c false [.d,.d] (.tup [.I e.1,.I e.2])),.n 8] rfl ⟨tt_,(Qov _ _ g)⟩ ?_
 refine AK.meetX (fun σ=>σ=⟨[(3,.b ((e.1 != 0)||(e.2 != 0)))],[(609,.var (Qf f))]⟩) ?_ ?_
 ·refine tg_ hC [.n 4] rfl ?_
  rcases Qz (e.1 != 0)with a | a
  ·refine Qa hC [.S 14 (.b true),.n 5,.S 3 (.b ((e.1 != 0)||(e.2 != 0))),.K [3] [609]] rfl ⟨(tc_ a),(congrArg V.b (orT a rfl))⟩ ?_
   exact AK.met rfl
  refine Qa hC [.S 14 (.b false),.n 5,.S 3 (.b ((e.1 != 0)||(e.2 != 0))),.K [3] [609]] rfl ⟨(tc_ a),(congrArg V.b (orF a rfl))⟩ ?_
  exact AK.met rfl
 rintro σ rfl
 refine tg_ hC [.n 2] rfl ?_
 cases h
 exact d1_ rfl rfl ⟨rfl,tt_⟩
def Q7 (c:QLL)(d:(List Int))(a:Int):Option (Int⊕(Int⊕Unit)):=
 bif (decide (a<(c.length:Int)))then
 (idx c a).bind fun e=>
 (Qko e d).bind fun b=>
 bif b then
 some (.inr (.inl a))
 else
 some (.inl (w64 (a+1)))
 else
 some (.inr (.inr ()))
def Qev (a:Int):Option Int:=
 some a
def Qew : Option Int:=
 some (-1)
def QcU (a:QLL)(b:(List Int)):Option Int:=
 (Qt (fun st=>Q7 a b st) 0).bind (Sum.elim (fun q=>Qev q) (fun q=>Qew))
theorem QjT (g c){r}(h:QcU g c=some r):Qd prog 83 [.sl 1 (g.map Qf),.clo (.func 45) [] [.loc 609 0 0]] [(609,.var (Qf c))] (Qj (.I r) [(609,.var (Qf c))]):=by
 refine Qd.walk 19 func83 rfl rfl rfl fun C hC=>?_
 refine Qa hC [.n 9,.o (.ln g.length),.n 4,.K [0,1,7,8] [609]] rfl ⟨tt_,Qg⟩ ?_
 obtain⟨k,i,h⟩:=Qc h
 refine AK.loop (body:=(fun st=>Q7 g c st)) (fun st σ=>σ=⟨[(0,.sl 1 (g.map Qf)),(1,.clo (.func 45) [] [.loc 609 0 0]),(7,.I (g.length:Int)),(8,.I st)],[(609,.var (Qf c))]⟩) (Sum.elim (fun q e σ=>e=.ret∧σ=⟨[(4,.I q)],[(609,.var (Qf c))]⟩) (fun q e σ=>e=.exit 0∧σ=⟨[],[(609,.var (Qf c))]⟩)) i rfl ?_ ?_
 ·rintro t o σ rfl h
  refine tg_ hC [.n 6] rfl ?_
  rcases Qq h with⟨f,h⟩|⟨f,h⟩
  ·obtain⟨p,l,h⟩:=Qc h
   obtain⟨m,j,h⟩:=Qc h
   refine Qa hC [.T,.n 15,.o (.row (Qf p)),.n 1,.cm (.clo) [(609,609)] [(609,609)] [] [.d,.d] [(609,.var (Qf c))] (.b m),.n 2] rfl ⟨⟨⟨tt_,f⟩,(QA l)⟩,(Qqg _ _ j)⟩ ?_
   refine bg_ h (fun a h=>Qa hC [.T,.n 9,.K [4] [609]] rfl ⟨tt_,a⟩ ?_) fun a h=>Qa hC [.F,.n 7,.K [0,1,7,8] [609]] rfl ⟨tt_,a⟩ ?_
   ·cases h
    exact QaH rfl (an_ rfl rfl)
   cases h
   exact QJ rfl rfl
  refine Qa hC [.F,.n 2,.K [] [609]] rfl ⟨tt_,f⟩ ?_
  cases h
  exact QK rfl (an_ rfl rfl)
 rcases k with(s | _)
 ·replace h:Qev s=some r:=h
  rintro e σ ⟨rfl,rfl⟩
  refine tg_ hC [.n 2] rfl ?_
  cases h
  exact d1_ rfl rfl ⟨rfl,tt_⟩
 replace h:Qew=some r:=h
 rintro e σ ⟨rfl,rfl⟩
 refine tg_ hC [.n 8] rfl ?_
 cases h
 exact d1_ rfl rfl ⟨rfl,tt_⟩
def Qbf (a:QLL)(b:(List Int)):Option Bool:=
 (QcU a b).bind fun c=>
 some (decide (0≤c))
theorem Qiv (e a){r}(h:Qbf e a=some r):Qd prog 48 [.sl 1 (e.map Qf),.clo (.func 45) [] [.loc 609 0 0]] [(609,.var (Qf a))] (Qj (.b r) [(609,.var (Qf a))]):=by
 refine Qd.walk 9 func48 rfl rfl rfl fun C hC=>?_
 obtain⟨f,c,h⟩:=Qc h
 refine Qa hC [.n 9,.cm (.fn) [(609,609)] [(609,609)] [] [.d,.d] [(609,.var (Qf a))] (.I f),.n 5] rfl ⟨tt_,(QjT _ _ c)⟩ ?_
 cases h
 exact d1_ rfl rfl ⟨rfl,tt_⟩
def QmV (c:Qm)(d:(List Int)):Option Bool:=
 (QaL c).bind fun e=>
 (Qbe e d).bind fun f=>
 bif (!f)then
 (Qbw c).bind fun a=>
 (Qbf a d).bind fun b=>
 some (!b)
 else
 some false
def Qgh (a:Bool):Option Bool:=
 some a
def QdU (a:Qm)(b:(List Int)):Option Bool:=
 bif ((b.length:Int) != (a.Places.length:Int))then
 some false
 else
 (QmV a b).bind (fun c=>Qgh c)
theorem Qb7 (f g){r}(h:QdU f g=some r):Qd prog 20 [.agg (Qe f),.sl 1 (g.map Qb)] [] (Qj (.b r) []):=by
 refine Qd.walk 27 func20 rfl rfl rfl fun C hC=>?_
 refine Qa hC [.n 11,.o (.ln g.length),.n 2,.o (.ln f.Places.length),.n 3] rfl ⟨⟨tt_,Qg⟩,Qg⟩ ?_
 refine bg_ h (fun c h=>Qa hC [.T,.n 7,.K [4] []] rfl ⟨tt_,c⟩ ?_) fun c h=>Qa hC [.F,.n 15] rfl ⟨tt_,c⟩ ?_
 ·cases h
  exact d1_ rfl rfl tt_
 obtain⟨k,l,h⟩:=Qc h
 replace h:Qgh k=some r:=h
 refine AK.meetX (fun σ=>σ=⟨[(4,.b k)],[]⟩) ?_ ?_
 ·replace h:=l
  obtain⟨m,p,h⟩:=Qc h
  obtain⟨t,q,h⟩:=Qc h
  refine Qa hC [.n 1,.v .no [] (.agg (Qe f)),.o (.co false [.d] 1 (m.map Qb) m.length),.n 1,.frz 16 (m.map Qb) [16] [],.cm (.fn) [(609,3)] [(3,609)] [] [.d,.d] [(609,.var (Qf g))] (.b t),.n 2] rfl ⟨⟨⟨⟨tt_,rfl⟩,⟨(Qa6 _ p),Qg,.inl rfl⟩⟩,⟨tt_,(QcQ Qg)⟩⟩,(Qiu _ _ q)⟩ ?_
  rcases Qq h with⟨a,h⟩|⟨a,h⟩
  ·obtain⟨e,i,h⟩:=Qc h
   obtain⟨s,j,h⟩:=Qc h
   refine Qa hC [.S 20 (.b true),.v .no [] (.agg (Qe f)),.o (.co false [.d] 1 (e.map Qf) e.length),.n 1,.frz 22 (e.map Qf) [22] [],.cm (.fn) [(609,3)] [(3,609)] [] [.d,.d] [(609,.var (Qf g))] (.b s),.n 4,.K [4] []] rfl ⟨⟨⟨⟨(tc_ a),rfl⟩,⟨(QaK _ i),Qg,.inl rfl⟩⟩,⟨tt_,(QcQ Qg)⟩⟩,(Qiv _ _ j)⟩ ?_
   cases h
   exact AK.met rfl
  refine Qa hC [.S 20 (.b false),.n 8,.K [4] []] rfl (tc_ a) ?_
  cases h
  exact AK.met rfl
 rintro σ rfl
 replace h:Qgh k=some r:=h
 refine tg_ hC [.n 2] rfl ?_
 cases h
 exact d1_ rfl rfl tt_
def Qc0 (c:(List Int))(d:Int)(a:Int):Option ((Int×Int)⊕Int):=
 bif (decide (a<(c.length:Int)))then
 (idx c a).bind fun b=>
 some (.inl ((min2 d b),(w64 (a+1))))
 else
 some (.inr d)
def QiW (a:Int):Option Int:=
 some a
def Qd7 (a:(List Int)):Option Int:=
 bif (decide ((a.length:Int)<1))then
 none
 else
 (idx a 0).bind fun b=>
 (Qt (fun st=>Qc0 a st.1 st.2) (b,1)).bind (fun q=>QiW q)
theorem Qns (c){r}(h:Qd7 c=some r):Qd prog 50 [.sl 1 (c.map Qb)] [] (Qj (.I r) []):=by
 refine Qd.walk 25 func50 rfl rfl rfl fun C hC=>?_
 refine Qa hC [.n 9,.o (.ln c.length),.n 3] rfl ⟨tt_,Qg⟩ ?_
 rcases Qq h with⟨b,h⟩|⟨b,h⟩
 ·refine Qa hC [.T,.n 2] rfl ⟨tt_,b⟩ ?_
  cases h
 obtain⟨j,g,h⟩:=Qc h
 refine Qa hC [.F,.n 5,.o (.row (Qb j)),.n 11,.K [0,3,4] []] rfl ⟨⟨tt_,b⟩,(QA g)⟩ ?_
 obtain⟨k,d,h⟩:=Qc h
 refine AK.loop (body:=(fun st=>Qc0 c st.1 st.2)) (fun st σ=>σ=⟨[(0,.sl 1 (c.map Qb)),(3,.I st.1),(4,.I st.2)],[]⟩) (fun q e σ=>e=.exit 0∧σ=⟨[(3,.I q)],[]⟩) d rfl ?_ ?_
 ·rintro ⟨l,m⟩ o σ rfl h
  refine Qa hC [.n 5,.o (.ln c.length),.n 3] rfl ⟨tt_,Qg⟩ ?_
  rcases Qq h with⟨a,h⟩|⟨a,h⟩
  ·obtain⟨i,f,h⟩:=Qc h
   refine Qa hC [.T,.n 8,.o (.row (Qb i)),.n 11,.K [0,3,4] []] rfl ⟨⟨tt_,a⟩,(QA f)⟩ ?_
   cases h
   exact QJ rfl rfl
  refine Qa hC [.F,.n 2,.K [3] []] rfl ⟨tt_,a⟩ ?_
  cases h
  exact QK rfl (an_ rfl rfl)
 replace h:QiW k=some r:=h
 rintro e σ ⟨rfl,rfl⟩
 refine tg_ hC [.n 9] rfl ?_
 cases h
 exact d1_ rfl rfl tt_
def Qkp (b:Int)(a:(List Int)):Option Bool:=
 bif (decide (b<(a.length:Int)))then
 (idx a b).bind fun c=>
 bif (decide (0<c))then
 (Qd7 a).bind fun d=>
 some (decide (0≤d))
 else
 some false
 else
 some false
def Qd8 (a:Bool):Option Bool:=
 some a
def QfC (a:(List Int))(b:Int):Option Bool:=
 (Qkp b a).bind (fun c=>Qd8 c)
theorem Qpj (g f){r}(h:QfC g f=some r):Qd prog 49 [.sl 1 (g.map Qb),.loc 609 0 0] [(609,.var (Qb f))] (Qj (.b r) [(609,.var (Qb f))]):=by
 refine Qd.walk 20 func49 rfl rfl rfl fun C hC=>?_
 refine tg_ hC [.n 6] rfl ?_
 obtain⟨i,j,h⟩:=Qc h
 replace h:Qd8 i=some r:=h
 refine AK.meetX (fun σ=>σ=⟨[(3,.b i)],[(609,.var (Qb f))]⟩) ?_ ?_
 ·replace h:=j
  refine Qa hC [.n 3,.o (.ln g.length),.n 2] rfl ⟨tt_,Qg⟩ ?_
  rcases Qq h with⟨a,h⟩|⟨a,h⟩
  ·obtain⟨m,k,h⟩:=Qc h
   refine Qa hC [.S 8 (.b true),.n 2,.o (.row (Qb m)),.n 4] rfl ⟨(tc_ a),(QA k)⟩ ?_
   rcases Qq h with⟨e,h⟩|⟨e,h⟩
   ·obtain⟨p,l,h⟩:=Qc h
    refine Qa hC [.S 15 (.b true),.n 1,.o (.c false [.d] (.I p)),.n 4,.K [3] [609]] rfl ⟨(tc_ e),(Qns _ l)⟩ ?_
    cases h
    exact AK.met rfl
   refine Qa hC [.S 15 (.b false),.n 6,.K [3] [609]] rfl (tc_ e) ?_
   cases h
   exact AK.met rfl
  refine Qa hC [.S 8 (.b false),.n 13,.K [3] [609]] rfl (tc_ a) ?_
  cases h
  exact AK.met rfl
 rintro σ rfl
 replace h:Qd8 i=some r:=h
 refine tg_ hC [.n 2] rfl ?_
 cases h
 exact d1_ rfl rfl ⟨rfl,tt_⟩
def Q8 (c:QLL)(d:Int)(a:Int):Option (Int⊕(Int⊕Unit)):=
 bif (decide (a<(c.length:Int)))then
 (idx c a).bind fun e=>
 (QfC e d).bind fun b=>
 bif b then
 some (.inr (.inl a))
 else
 some (.inl (w64 (a+1)))
 else
 some (.inr (.inr ()))
def Qex (a:Int):Option Int:=
 some a
def Qey : Option Int:=
 some (-1)
def QcV (a:QLL)(b:Int):Option Int:=
 (Qt (fun st=>Q8 a b st) 0).bind (Sum.elim (fun q=>Qex q) (fun q=>Qey))
theorem QjU (g c){r}(h:QcV g c=some r):Qd prog 83 [.sl 1 (g.map Qf),.clo (.func 49) [] [.loc 609 0 0]] [(609,.var (Qb c))] (Qj (.I r) [(609,.var (Qb c))]):=by
 refine Qd.walk 19 func83 rfl rfl rfl fun C hC=>?_
 refine Qa hC [.n 9,.o (.ln g.length),.n 4,.K [0,1,7,8] [609]] rfl ⟨tt_,Qg⟩ ?_
 obtain⟨k,i,h⟩:=Qc h
 refine AK.loop (body:=(fun st=>Q8 g c st)) (fun st σ=>σ=⟨[(0,.sl 1 (g.map Qf)),(1,.clo (.func 49) [] [.loc 609 0 0]),(7,.I (g.length:Int)),(8,.I st)],[(609,.var (Qb c))]⟩) (Sum.elim (fun q e σ=>e=.ret∧σ=⟨[(4,.I q)],[(609,.var (Qb c))]⟩) (fun q e σ=>e=.exit 0∧σ=⟨[],[(609,.var (Qb c))]⟩)) i rfl ?_ ?_
 ·rintro t o σ rfl h
  refine tg_ hC [.n 6] rfl ?_
  rcases Qq h with⟨f,h⟩|⟨f,h⟩
  ·obtain⟨p,l,h⟩:=Qc h
   obtain⟨m,j,h⟩:=Qc h
   refine Qa hC [.T,.n 15,.o (.row (Qf p)),.n 1,.cm (.clo) [(609,609)] [(609,609)] [] [.d,.d] [(609,.var (Qb c))] (.b m),.n 2] rfl ⟨⟨⟨tt_,f⟩,(QA l)⟩,(Qpj _ _ j)⟩ ?_
   refine bg_ h (fun a h=>Qa hC [.T,.n 9,.K [4] [609]] rfl ⟨tt_,a⟩ ?_) fun a h=>Qa hC [.F,.n 7,.K [0,1,7,8] [609]] rfl ⟨tt_,a⟩ ?_
   ·cases h
    exact QaH rfl (an_ rfl rfl)
   cases h
   exact QJ rfl rfl
  refine Qa hC [.F,.n 2,.K [] [609]] rfl ⟨tt_,f⟩ ?_
  cases h
  exact QK rfl (an_ rfl rfl)
 rcases k with(s | _)
 ·replace h:Qex s=some r:=h
  rintro e σ ⟨rfl,rfl⟩
  refine tg_ hC [.n 2] rfl ?_
  cases h
  exact d1_ rfl rfl ⟨rfl,tt_⟩
 replace h:Qey=some r:=h
 rintro e σ ⟨rfl,rfl⟩
 refine tg_ hC [.n 8] rfl ?_
 cases h
 exact d1_ rfl rfl ⟨rfl,tt_⟩
def Qbg (a:QLL)(b:Int):Option Bool:=
 (QcV a b).bind fun c=>
 some (decide (0≤c))
theorem Qiw (e a){r}(h:Qbg e a=some r):Qd prog 48 [.sl 1 (e.map Qf),.clo (.func 49) [] [.loc 609 0 0]] [(609,.var (Qb a))] (Qj (.b r) [(609,.var (Qb a))]):=by
 refine Qd.walk 9 func48 rfl rfl rfl fun C hC=>?_
 obtain⟨f,c,h⟩:=Qc h
 refine Qa hC [.n 9,.cm (.fn) [(609,609)] [(609,609)] [] [.d,.d] [(609,.var (Qb a))] (.I f),.n 5] rfl ⟨tt_,(QjU _ _ c)⟩ ?_
 cases h
 exact d1_ rfl rfl ⟨rfl,tt_⟩
def Qe2 (b:Int)(a:(List Int)):Option ((Int×(List Int))⊕(List Int)):=
 some (.inl ((w64 (b+1)),a))
def Qcj (a:Int)(e:QLL)(b:Int)(c:(List Int)):Option ((Int×(List Int))⊕(List Int)):=
 bif (decide (b<(max2 0 (min2 a 1000))))then
 (Qbg e b).bind fun d=>
 bif d then
 (chk (decide (c.length+([b]:List Int).length≤4294967296))).bind fun _=>
 Qe2 b (c++([b]:List Int))
 else
 Qe2 b c
 else
 some (.inr c)
def Qlo (a:(List Int)):Option (List Int):=
 some a
def QdJ (b:QLL)(a:Int):Option (List Int):=
 (Qt (fun st=>Qcj a b st.1 st.2) (0,([]:List Int))).bind (fun q=>Qlo q)
theorem Qlp (j a){r}(h:QdJ j a=some r):Qd prog 22 [.sl 1 (j.map Qf),.I a] [] (Qj (.own 600 r.length) [(600,.arr 1 (r.map Qb))]):=by
 refine Qd.walk 24 func22 rfl rfl rfl fun C hC=>?_
 refine Qa hC [.n 20,.adopt 5 18 1,.O 18 (.arr 1 (([]:List Int).map Qb)),.S 5 (.own 18 ([]:List Int).length),.K [0,5,10,11] [18]] rfl ⟨⟨tt_,rfl⟩,(congrArg (fun n=>V.own 18 n) (by simp))⟩ ?_
 obtain⟨t,k,h⟩:=Qc h
 refine AK.loop (body:=(fun st=>Qcj a j st.1 st.2)) (fun st σ=>σ=⟨[(0,.sl 1 (j.map Qf)),(5,.own 18 st.2.length),(10,.I (max2 0 (min2 a 1000))),(11,.I st.1)],[(18,.arr 1 (st.2.map Qb))]⟩) (fun q e σ=>e=.exit 0∧σ=⟨[(5,.own 18 q.length)],[(18,.arr 1 (q.map Qb))]⟩) k rfl ?_ ?_
 ·rintro ⟨i,s⟩ o σ rfl h
  refine tg_ hC [.n 6] rfl ?_
  refine bg_ h (fun c h=>Qa hC [.T,.n 2] rfl ⟨tt_,c⟩ ?_) fun c h=>Qa hC [.F,.n 2,.K [5] [18]] rfl ⟨tt_,c⟩ ?_
  ·refine AK.meet (fun σ=>∃g:(List Int),σ=⟨[(0,.sl 1 (j.map Qf)),(5,.own 18 g.length),(10,.I (max2 0 (min2 a 1000))),(11,.I i)],[(18,.arr 1 (g.map Qb))]⟩∧Qe2 i g=some o) ?_ ?_
   ·obtain⟨p,l,h⟩:=Qc h
    refine Qa hC [.n 6,.O 6 (.var (Qb i)),.n 12,.cm (.fn) [(609,6)] [(6,609)] [] [.d,.d] [(609,.var (Qb i))] (.b p),.n 2] rfl ⟨⟨tt_,rfl⟩,(Qiw _ _ l)⟩ ?_
    rcases Qq h with⟨f,h⟩|⟨f,h⟩
    ·obtain⟨m,h⟩:=Qas h
     refine Qa hC [.T,.n 3,.v (.bd []) [] (.sl 1 (([i]:List Int).map Qb)),.app ((s++([i]:List Int)).map Qb) (s++([i]:List Int)).length,.n 3,.K [0,5,10,11] [18]] rfl ⟨⟨⟨tt_,f⟩,rfl⟩,⟨Qg,Qc9 m Qg,QbS,QeC Qg⟩⟩ ?_
     exact AK.met (ex_ _ (an_ rfl h))
    refine Qa hC [.F,.n 2,.K [0,5,10,11] [18]] rfl ⟨tt_,f⟩ ?_
    exact AK.met (ex_ _ (an_ rfl h))
   rintro σ ⟨g,rfl,h⟩
   refine tg_ hC [.n 4,.K [0,5,10,11] [18]] rfl ?_
   cases h
   exact QJ rfl rfl
  cases h
  exact QK rfl (an_ rfl rfl)
 replace h:Qlo t=some r:=h
 rintro e σ ⟨rfl,rfl⟩
 refine tg_ hC [.n 9,.K [4] [18],.ren 18 600] rfl ?_
 cases h
 exact d1_ rfl rfl ⟨rfl,tt_⟩
def QrO (b:(QLL×Int))(a:Qm)(l:(Int×Int)):Option Bool:=
 bif (b.2==0)then
 (QfT b.1 ([([1,1,0]:List Int)]:List (List Int))).bind fun m=>
 bif m then
 (QdU a ([2,2,0]:List Int)).bind fun c=>
 bif c then
 (QdU a ([1,1,1]:List Int)).bind fun d=>
 bif (!d)then
 (QdU a ([1,2,0]:List Int)).bind fun e=>
 bif (!e)then
 bif (l.1==13)then
 bif (l.2==0)then
 (Qbw a).bind fun f=>
 (QfT f ([([(-1),1,0]:List Int),([1,(-1),0]:List Int)]:List (List Int))).bind fun g=>
 bif g then
 (QaL a).bind fun h=>
 (Qdy h ([2]:List Int)).bind fun i=>
 bif i then
 (QdJ b.1 3).bind fun j=>
 (Qdy j ([0,1]:List Int)).bind fun k=>
 some k
 else
 some false
 else
 some false
 else
 some false
 else
 some false
 else
 some false
 else
 some false
 else
 some false
 else
 some false
 else
 some false
def QjV (a:Bool):Option Bool:=
 some a
def Qjt  : Option Bool:=
 (Qk7).bind fun a=>
 (Qjs a).bind fun b=>
 (QgM ([2,3,9]:List Int) ([([(0,5)]:List (Int×Int)),([(0,1)]:List (Int×Int)),([]:QBg)]:List QBg)).bind fun c=>
 (QrO b a c).bind (fun d=>QjV d)
theorem QrP  {r:Bool}(h:Qjt  = some r):Qd prog 9 [] [] (Qj (.b r) []):=by
 refine Qd.walk 75 func9 rfl rfl rfl fun C hC=>?_
 obtain⟨l,F,h⟩:=Qc h
 obtain⟨Y,G,h⟩:=Qc h
 obtain⟨Z,H,h⟩:=Qc h
 refine Qa hC [.n 7,.o (.c false [] (.agg (Qe l))),.n 2,.O 1 (.var (Qe l)),.n 4,.v .no [] (.agg (Qe l)),.o (.c false [.d] (.tup [.sl 1 (Y.1.map Qf),.I Y.2])),.n 9,.v (.bd []) [] (.sl 1 (([2,3,9]:List Int).map Qb)),.v .no [] (.agg (QL (0,5))),.v (.bd []) [] (.sl 2 (([(0,5)]:List (Int×Int)).map QL)),.v .no [] (.agg (QL (0,1))),.v (.bd []) [] (.sl 2 (([(0,1)]:List (Int×Int)).map QL)),.v (.bd [none,none,some 2]) [] (.sl 1 (([([(0,5)]:List (Int×Int)),([(0,1)]:List (Int×Int)),([]:QBg)]:List QBg).map QbE)),.o (.c false [.d,.d] (.tup [.I Z.1,.I Z.2])),.n 8] rfl ⟨⟨⟨⟨⟨⟨⟨⟨⟨⟨⟨tt_,(Qts  F)⟩,rfl⟩,rfl⟩,(QrN _ G)⟩,rfl⟩,rfl⟩,rfl⟩,rfl⟩,rfl⟩,rfl⟩,(QmU _ _ H)⟩ ?_
 obtain⟨J,L,h⟩:=Qc h
 replace h:QjV J=some r:=h
 refine AK.meetX (fun σ=>σ=⟨[(0,.b J)],[]⟩) ?_ ?_
 ·replace h:=L
  refine tg_ hC [.n 4] rfl ?_
  rcases Qq h with⟨m,h⟩|⟨m,h⟩
  ·obtain⟨x8,M,h⟩:=Qc h
   refine Qa hC [.S 24 (.b true),.n 1,.v (.bd []) [] (.sl 1 (([1,1,0]:List Int).map Qb)),.v (.bd []) [] (.sl 1 (([([1,1,0]:List Int)]:List (List Int)).map Qf)),.o (.c false [.d,.d] (.b x8)),.n 2] rfl ⟨⟨⟨(tc_ m),rfl⟩,rfl⟩,(QbR _ _ M)⟩ ?_
   rcases Qq h with⟨p,h⟩|⟨p,h⟩
   ·obtain⟨N,u,h⟩:=Qc h
    refine Qa hC [.S 30 (.b true),.v .no [] (.agg (Qe l)),.v (.bd []) [] (.sl 1 (([2,2,0]:List Int).map Qb)),.o (.c false [.d,.d] (.b N)),.n 2] rfl ⟨⟨⟨(tc_ p),rfl⟩,rfl⟩,(Qb7 _ _ u)⟩ ?_
    rcases Qq h with⟨a,h⟩|⟨a,h⟩
    ·obtain⟨P,w,h⟩:=Qc h
     refine Qa hC [.S 35 (.b true),.v .no [] (.agg (Qe l)),.v (.bd []) [] (.sl 1 (([1,1,1]:List Int).map Qb)),.o (.c false [.d,.d] (.b P)),.n 3] rfl ⟨⟨⟨(tc_ a),rfl⟩,rfl⟩,(Qb7 _ _ w)⟩ ?_
     rcases Qq h with⟨e,h⟩|⟨e,h⟩
     ·obtain⟨T,x,h⟩:=Qc h
      refine Qa hC [.S 41 (.b true),.v .no [] (.agg (Qe l)),.v (.bd []) [] (.sl 1 (([1,2,0]:List Int).map Qb)),.o (.c false [.d,.d] (.b T)),.n 3] rfl ⟨⟨⟨(tc_ e),rfl⟩,rfl⟩,(Qb7 _ _ x)⟩ ?_
      refine bg_ h (fun f h=>Qa hC [.S 47 (.b true),.n 4] rfl (tc_ f) ?_) fun f h=>Qa hC [.S 47 (.b false),.n 29,.K [0] []] rfl (tc_ f) ?_
      ·refine bg_ h (fun g h=>Qa hC [.S 51 (.b true),.n 4] rfl (tc_ g) ?_) fun g h=>Qa hC [.S 51 (.b false),.n 25,.K [0] []] rfl (tc_ g) ?_
       ·rcases Qq h with⟨i,h⟩|⟨i,h⟩
        ·obtain⟨q,y,h⟩:=Qc h
         obtain⟨U,z,h⟩:=Qc h
         refine Qa hC [.S 55 (.b true),.v .no [] (.agg (Qe l)),.o (.co false [.d] 1 (q.map Qf) q.length),.v (.bd []) [] (.sl 1 (([(-1),1,0]:List Int).map Qb)),.v (.bd []) [] (.sl 1 (([1,(-1),0]:List Int).map Qb)),.v (.bd []) [] (.sl 1 (([([(-1),1,0]:List Int),([1,(-1),0]:List Int)]:List (List Int)).map Qf)),.o (.c true [.o (q.map Qf),.d] (.b U)),.n 2] rfl ⟨⟨⟨⟨⟨⟨(tc_ i),rfl⟩,⟨(QaK _ y),Qg,.inl rfl⟩⟩,rfl⟩,rfl⟩,rfl⟩,⟨(Qj3 rfl),(QbR _ _ z)⟩⟩ ?_
         rcases Qq h with⟨j,h⟩|⟨j,h⟩
         ·obtain⟨s,A,h⟩:=Qc h
          obtain⟨W,B,h⟩:=Qc h
          refine Qa hC [.S 63 (.b true),.v .no [] (.agg (Qe l)),.o (.co false [.d] 1 (s.map Qb) s.length),.v (.bd []) [] (.sl 1 (([2]:List Int).map Qb)),.o (.c true [.o (s.map Qb),.d] (.b W)),.n 2] rfl ⟨⟨⟨⟨(tc_ j),rfl⟩,⟨(Qa6 _ A),Qg,.inl rfl⟩⟩,rfl⟩,⟨(Qj3 rfl),(Qbx _ _ B)⟩⟩ ?_
          rcases Qq h with⟨k,h⟩|⟨k,h⟩
          ·obtain⟨t,D,h⟩:=Qc h
           obtain⟨X,E,h⟩:=Qc h
           refine Qa hC [.S 69 (.b true),.n 1,.o (.co false [.d,.d] 1 (t.map Qb) t.length),.v (.bd []) [] (.sl 1 (([0,1]:List Int).map Qb)),.o (.c true [.o (t.map Qb),.d] (.b X)),.n 3,.K [0] []] rfl ⟨⟨⟨(tc_ k),⟨(Qlp _ _ D),Qg,.inl rfl⟩⟩,rfl⟩,⟨(Qj3 rfl),(Qbx _ _ E)⟩⟩ ?_
           cases h
           exact AK.met rfl
          refine Qa hC [.S 69 (.b false),.n 7,.K [0] []] rfl (tc_ k) ?_
          cases h
          exact AK.met rfl
         refine Qa hC [.S 63 (.b false),.n 13,.K [0] []] rfl (tc_ j) ?_
         cases h
         exact AK.met rfl
        refine Qa hC [.S 55 (.b false),.n 21,.K [0] []] rfl (tc_ i) ?_
        cases h
        exact AK.met rfl
       cases h
       exact AK.met rfl
      cases h
      exact AK.met rfl
     refine Qa hC [.S 41 (.b false),.n 35,.K [0] []] rfl (tc_ e) ?_
     cases h
     exact AK.met rfl
    refine Qa hC [.S 35 (.b false),.n 41,.K [0] []] rfl (tc_ a) ?_
    cases h
    exact AK.met rfl
   refine Qa hC [.S 30 (.b false),.n 46,.K [0] []] rfl (tc_ p) ?_
   cases h
   exact AK.met rfl
  refine Qa hC [.S 24 (.b false),.n 52,.K [0] []] rfl (tc_ m) ?_
  cases h
  exact AK.met rfl
 rintro σ rfl
 replace h:QjV J=some r:=h
 refine tg_ hC [.n 2] rfl ?_
 cases h
 exact d1_ rfl rfl tt_
def Qix (f:Qk)(rec_law04_few:Qk→Int→Option Int)(a:Int)(c:Int)(d:Int):Option ((Int×Int)⊕(Unit⊕Int)):=
 bif (decide (d<(f.Kids.length:Int)))then
 (idx f.Kids d).bind fun e=>
 (rec_law04_few e (w64 (a-1))).bind fun b=>
 bif (b==0)then
 some (.inr (.inl ()))
 else
 bif (decide ((w64 ((w64 (c-500))+b))≤1))then
 some (.inr (.inl ()))
 else
 some (.inl ((w64 ((w64 (c-500))+b)),(w64 (d+1))))
 else
 some (.inr (.inr c))
def Qow : Option Int:=
 some 0
def Qox (a:Int):Option Int:=
 some (w64 (a-1))
def QlI (rec_law04_few:Qk→Int→Option Int)(b:Qk)(a:Int):Option Int:=
 bif ((decide (a≤0))||(decide (9<(b.Kids.length:Int))))then
 some 0
 else
 (Qt (fun st=>Qix b rec_law04_few a st.1 st.2) (500,0)).bind (Sum.elim (fun q=>Qow) (fun q=>Qox q))
def QdV : Nat→Qk→Int→Option Int
 | 0,_,_=>none
 | n+1,b,a=>QlI (QdV n) b a
def Qn8 (b:Qk)(a:Int):Option Int:=QdV (SizeOf.sizeOf b) b a
theorem QrQ (rec_law04_few:Qk→Int→Option Int)(hrec_law04_few:∀(f:Qk) (a:Int) {r:Int},rec_law04_few f a=some r→Qd prog 102 [.agg (Qr f),.I a] [] (Qj (.I r) []))(f:Qk)(a:Int){r:Int}(h:QlI rec_law04_few f a=some r):Qd prog 102 [.agg (Qr f),.I a] [] (Qj (.I r) []):=by
 refine Qd.walk 41 func102 rfl rfl rfl fun C hC=>?_
 refine tg_ hC [.n 8] rfl ?_
 refine AK.meetX (fun σ=>σ=⟨[(1,.I a),(2,.loc 2 0 0),(15,.b ((decide (a≤0))||(decide (9<(f.Kids.length:Int)))))],[(2,.var (Qr f))]⟩) ?_ ?_
 ·refine tg_ hC [.n 4] rfl ?_
  rcases Qz (decide (a≤0))with g | g
  ·refine Qa hC [.S 10 (.b true),.n 6,.S 15 (.b ((decide (a≤0))||(decide (9<(f.Kids.length:Int))))),.K [1,2,15] [2]] rfl ⟨(tc_ g),(congrArg V.b (orT g rfl))⟩ ?_
   exact AK.met rfl
  refine Qa hC [.S 10 (.b false),.n 2,.o (.ln f.Kids.length),.n 3,.S 15 (.b ((decide (a≤0))||(decide (9<(f.Kids.length:Int))))),.K [1,2,15] [2]] rfl ⟨⟨(tc_ g),Qil _⟩,(congrArg V.b (orF g rfl))⟩ ?_
  exact AK.met rfl
 rintro σ rfl
 refine tg_ hC [.n 1] rfl ?_
 refine bg_ h (fun l h=>Qa hC [.T,.n 7,.K [4] []] rfl ⟨tt_,l⟩ ?_) fun l h=>Qa hC [.F,.n 14,.K [1,2,5,6] [2]] rfl ⟨tt_,l⟩ ?_
 ·cases h
  exact d1_ rfl rfl tt_
 obtain⟨u,m,h⟩:=Qc h
 refine AK.loop (body:=(fun st=>Qix f rec_law04_few a st.1 st.2)) (fun st σ=>σ=⟨[(1,.I a),(2,.loc 2 0 0),(5,.I st.1),(6,.I st.2)],[(2,.var (Qr f))]⟩) (Sum.elim (fun q e σ=>e=.ret∧σ=⟨[(4,.I 0)],[]⟩) (fun q e σ=>e=.exit 0∧σ=⟨[(5,.I q)],[]⟩)) m rfl ?_ ?_
 ·rintro ⟨y,z⟩ o σ rfl h
  refine Qa hC [.n 6,.o (.ln f.Kids.length),.n 3] rfl ⟨tt_,Qil _⟩ ?_
  rcases Qq h with⟨i,h⟩|⟨i,h⟩
  ·obtain⟨p,s,h⟩:=Qc h
   obtain⟨w,t,h⟩:=Qc h
   refine Qa hC [.T,.n 9,.o (.row (Qr p)),.v .no [] (.agg (Qr p)),.n 2,.o (.c false [.d,.d] (.I w)),.n 10] rfl ⟨⟨⟨⟨tt_,i⟩,(Qmn s)⟩,rfl⟩,(hrec_law04_few _ _ t)⟩ ?_
   refine bg_ h (fun j h=>Qa hC [.T,.n 9,.K [4] []] rfl ⟨tt_,j⟩ ?_) fun j h=>Qa hC [.F,.n 17] rfl ⟨tt_,j⟩ ?_
   ·cases h
    exact QaH rfl (an_ rfl rfl)
   refine bg_ h (fun k h=>Qa hC [.T,.n 8,.K [4] []] rfl ⟨tt_,k⟩ ?_) fun k h=>Qa hC [.F,.n 8,.K [1,2,5,6] [2]] rfl ⟨tt_,k⟩ ?_
   ·cases h
    exact QaH rfl (an_ rfl rfl)
   cases h
   exact QJ rfl rfl
  refine Qa hC [.F,.n 2,.K [5] []] rfl ⟨tt_,i⟩ ?_
  cases h
  exact QK rfl (an_ rfl rfl)
 rcases u with(_ | x)
 ·replace h:Qow=some r:=h
  rintro e σ ⟨rfl,rfl⟩
  refine tg_ hC [.n 2] rfl ?_
  cases h
  exact d1_ rfl rfl tt_
 replace h:Qox x=some r:=h
 rintro e σ ⟨rfl,rfl⟩
 refine tg_ hC [.n 10] rfl ?_
 cases h
 exact d1_ rfl rfl tt_
theorem QmW : ∀(fuel:Nat) (b:Qk) (a:Int) {r:Int},QdV fuel b a=some r→Qd prog 102 [.agg (Qr b),.I a] [] (Qj (.I r) [])
 | 0,_,_,_,h=>by cases h
 | n+1,b,a,_,h=>QrQ (QdV n) (fun _ _ _ h=>QmW n _ _ h) b a h
theorem Qtv (b a){r}(h:Qn8 b a=some r):Qd prog 102 [.agg (Qr b),.I a] [] (Qj (.I r) []):=QmW _ b a h
def QgW (a:Qk):Option Bool:=
 (Qn8 a 60).bind fun b=>
 some (decide (0<b))
theorem QkK (a){r}(h:QgW a=some r):Qd prog 63 [.agg (Qr a)] [] (Qj (.b r) []):=by
 refine Qd.walk 6 func63 rfl rfl rfl fun C hC=>?_
 obtain⟨f,e,h⟩:=Qc h
 refine Qa hC [.n 8,.v .no [] (.agg (Qr a)),.o (.c false [.d,.d] (.I f)),.n 5] rfl ⟨⟨tt_,rfl⟩,(Qtv _ _ e)⟩ ?_
 cases h
 exact d1_ rfl rfl tt_
def Qoy (d:Qm)(e:Int)(a:Int)(b:QM):Option Bool:=
 (idx d.Colours e).bind fun c=>
 bif (decide (100<(c.Name.size:Int)))then
 some true
 else
 some (decide (400<(w64 (a+(b.Names.length:Int)))))
def Qiy (e:Qm)(f:Int)(a:Int):Option (Int⊕(Unit⊕Unit)):=
 (idx e.Colours f).bind fun b=>
 bif (decide (a<(b.Names.length:Int)))then
 (idx e.Colours f).bind fun c=>
 (idx c.Names a).bind fun d=>
 bif (decide (100<(d.size:Int)))then
 some (.inr (.inl ()))
 else
 some (.inl (w64 (a+1)))
 else
 some (.inr (.inr ()))
def Qoz : Option ((Int×Int)⊕(Unit⊕Int)):=
 some (.inr (.inl ()))
def QoA (a:Int)(b:QM)(c:Int):Option ((Int×Int)⊕(Unit⊕Int)):=
 some (.inl ((w64 (a+(b.Names.length:Int))),(w64 (c+1))))
def Qiz (e:Qm)(d:Int)(a:Int)(b:QM)(c:Bool):Option ((Int×Int)⊕(Unit⊕Int)):=
 bif c then
 some (.inr (.inl ()))
 else
 (Qt (fun st=>Qiy e d st) 0).bind (Sum.elim (fun q=>Qoz) (fun q=>QoA a b d))
def QiA (c:Qm)(a:Int)(d:Int):Option ((Int×Int)⊕(Unit⊕Int)):=
 bif (decide (d<(c.Colours.length:Int)))then
 (idx c.Colours d).bind fun b=>
 (Qoy c d a b).bind (fun e=>Qiz c d a b e)
 else
 some (.inr (.inr a))
def QoB : Option Bool:=
 some false
def QiB (c:Qm)(a:Int)(b:Int):Option ((Int×Int)⊕(Unit⊕Int)):=
 bif (decide (b<(c.Places.length:Int)))then
 (idx c.Places b).bind fun d=>
 (idx c.Places b).bind fun e=>
 bif (decide (100<(e.Name.size:Int)))then
 some (.inr (.inl ()))
 else
 some (.inl ((w64 (a+(d.First.length:Int))),(w64 (b+1))))
 else
 some (.inr (.inr a))
def QoC : Option Bool:=
 some false
def Qhg (b:Qv)(a:Int):Option (Int⊕(Unit⊕Unit)):=
 bif (decide (a<(b.Vars.length:Int)))then
 (idx b.Vars a).bind fun c=>
 bif (decide (100<(c.Name.size:Int)))then
 some (.inr (.inl ()))
 else
 some (.inl (w64 (a+1)))
 else
 some (.inr (.inr ()))
def QnO : Option ((Int×Int)⊕(Unit⊕Unit)):=
 some (.inr (.inl ()))
def Qhh (c:Qv)(a:Bool)(b:Int):Option ((Bool×Int)⊕Bool):=
 bif (decide (b<(c.Ins.length:Int)))then
 (idx c.Ins b).bind fun d=>
 (QgW d.Expr).bind fun e=>
 some (.inl ((a&&e),(w64 (b+1))))
 else
 some (.inr a)
def Qhi (c:Qv)(a:Bool)(b:Int):Option ((Bool×Int)⊕Bool):=
 bif (decide (b<(c.Outs.length:Int)))then
 (idx c.Outs b).bind fun d=>
 (QgW d.Expr).bind fun e=>
 some (.inl ((a&&e),(w64 (b+1))))
 else
 some (.inr a)
def Qhj (a:Int)(b:Qv)(d:Int)(c:Bool):Option ((Int×Int)⊕(Unit⊕Unit)):=
 bif (!c)then
 some (.inr (.inl ()))
 else
 some (.inl ((w64 ((w64 ((w64 ((w64 (a+(b.Vars.length:Int)))+(b.Ins.length:Int)))+(b.Outs.length:Int)))+(b.Cancel.length:Int))),(w64 (d+1))))
def Qhk (b:Qv)(a:Int)(d:Int)(c:Bool):Option ((Int×Int)⊕(Unit⊕Unit)):=
 (Qt (fun st=>Qhi b st.1 st.2) (c,0)).bind (fun q=>Qhj a b d q)
def Qhl (b:Qv)(a:Int)(c:Int):Option ((Int×Int)⊕(Unit⊕Unit)):=
 (QgW b.Guard).bind fun d=>
 (Qt (fun st=>Qhh b st.1 st.2) (d,0)).bind (fun q=>Qhk b a c q)
def Qhm (d:Qm)(b:Int)(c:Int):Option ((Int×Int)⊕(Unit⊕Unit)):=
 bif (decide (c<(d.Tasks.length:Int)))then
 (idx d.Tasks c).bind fun a=>
 bif ((decide (200<(w64 ((w64 ((w64 ((w64 (b+(a.Vars.length:Int)))+(a.Ins.length:Int)))+(a.Outs.length:Int)))+(a.Cancel.length:Int)))))||(decide (100<(a.Name.size:Int))))then
 some (.inr (.inl ()))
 else
 (Qt (fun st=>Qhg a st) 0).bind (Sum.elim (fun q=>QnO) (fun q=>Qhl a b c))
 else
 some (.inr (.inr ()))
def QnP : Option Bool:=
 some false
def QnQ (a:Int):Option Bool:=
 some (decide (a≤400))
def Qhn (b:Qm)(a:Int):Option Bool:=
 (Qt (fun st=>Qhm b st.1 st.2) (0,0)).bind (Sum.elim (fun q=>QnP) (fun q=>QnQ a))
def Qho (b:Qm)(a:Int):Option Bool:=
 (Qt (fun st=>QiB b st.1 st.2) (a,0)).bind (Sum.elim (fun q=>QoC) (fun q=>Qhn b q))
def Qjg (a:Qm):Option Bool:=
 bif ((decide (40<(a.Colours.length:Int)))||((decide (70<(a.Places.length:Int)))||(decide (70<(a.Tasks.length:Int)))))then
 some false
 else
 (Qt (fun st=>QiA a st.1 st.2) (0,0)).bind (Sum.elim (fun q=>QoB) (fun q=>Qho a q))
theorem Qtw (i){r}(h:Qjg i=some r):Qd prog 32 [.agg (Qe i)] [] (Qj (.b r) []):=by
 refine Qd.walk 201 func32 rfl rfl rfl fun C hC=>?_
 unfold Qjg at h
 refine tg_ hC [.n 8] rfl ?_
 refine AK.meetX (fun σ=>σ=⟨[(1,.loc 1 0 0),(31,.b ((decide (40<(i.Colours.length:Int)))||((decide (70<(i.Places.length:Int)))||(decide (70<(i.Tasks.length:Int))))))],[(1,.var (Qe i))]⟩) ?_ ?_
 ·refine Qa hC [.n 3,.o (.ln i.Colours.length),.n 2] rfl ⟨tt_,Qg⟩ ?_
  rcases Qz (decide (40<(i.Colours.length:Int)))with w | w
  ·refine Qa hC [.S 20 (.b true),.n 12,.S 31 (.b ((decide (40<(i.Colours.length:Int)))||((decide (70<(i.Places.length:Int)))||(decide (70<(i.Tasks.length:Int)))))),.K [1,31] [1]] rfl ⟨(tc_ w),(congrArg V.b (orT w rfl))⟩ ?_
   exact AK.met rfl
  refine Qa hC [.S 20 (.b false),.n 2,.o (.ln i.Places.length),.n 3] rfl ⟨(tc_ w),Qg⟩ ?_
  rcases Qz (decide (70<(i.Places.length:Int)))with x | x
  ·refine Qa hC [.S 26 (.b true),.n 6,.S 31 (.b ((decide (40<(i.Colours.length:Int)))||((decide (70<(i.Places.length:Int)))||(decide (70<(i.Tasks.length:Int)))))),.K [1,31] [1]] rfl ⟨(tc_ x),(congrArg V.b (orF w (orT x rfl)))⟩ ?_
   exact AK.met rfl
  refine Qa hC [.S 26 (.b false),.n 2,.o (.ln i.Tasks.length),.n 3,.S 31 (.b ((decide (40<(i.Colours.length:Int)))||((decide (70<(i.Places.length:Int)))||(decide (70<(i.Tasks.length:Int)))))),.K [1,31] [1]] rfl ⟨⟨(tc_ x),Qg⟩,(congrArg V.b (orF w (orF x rfl)))⟩ ?_
  exact AK.met rfl
 rintro σ rfl
 refine tg_ hC [.n 1] rfl ?_
 refine bg_ h (fun Z h=>Qa hC [.T,.n 7,.K [2] []] rfl ⟨tt_,Z⟩ ?_) fun Z h=>Qa hC [.F,.n 14,.K [1,3,4] [1]] rfl ⟨tt_,Z⟩ ?_
 ·cases h
  exact d1_ rfl rfl tt_
 obtain⟨d0,a1,h⟩:=Qc h
 refine AK.loop (body:=(fun st=>QiA i st.1 st.2)) (fun st σ=>σ=⟨[(1,.loc 1 0 0),(3,.I st.1),(4,.I st.2)],[(1,.var (Qe i))]⟩) (Sum.elim (fun q e σ=>e=.ret∧σ=⟨[(2,.b false)],[]⟩) (fun q e σ=>e=.exit 0∧σ=⟨[(1,.loc 1 0 0),(3,.I q)],[(1,.var (Qe i))]⟩)) a1 rfl ?_ ?_
 ·rintro ⟨j,i9⟩ o σ rfl h
  refine Qa hC [.n 6,.o (.ln i.Colours.length),.n 3] rfl ⟨tt_,Qg⟩ ?_
  rcases Qq h with⟨y,h⟩|⟨y,h⟩
  ·obtain⟨l,a2,h⟩:=Qc h
   refine Qa hC [.T,.n 10,.o (.row (Qy l)),.n 2,.o (.ln l.Names.length),.n 6] rfl ⟨⟨⟨tt_,y⟩,(QA a2)⟩,Qg⟩ ?_
   obtain⟨a0,a3,h⟩:=Qc h
   replace h:Qiz i i9 j l a0=some o:=h
   refine AK.meetX (fun σ=>σ=⟨[(1,.loc 1 0 0),(3,.I (w64 (j+(l.Names.length:Int)))),(4,.I i9),(59,.b a0)],[(1,.var (Qe i))]⟩) ?_ ?_
   ·replace h:=a3
    obtain⟨d1,a4,h⟩:=Qc h
    refine Qa hC [.n 4,.o (.row (Qy d1)),.n 5] rfl ⟨tt_,(QA a4)⟩ ?_
    refine bg_ h (fun z h=>Qa hC [.S 56 (.b true),.n 4,.K [1,3,4,59] [1]] rfl (tc_ z) ?_) fun z h=>Qa hC [.S 56 (.b false),.n 4,.K [1,3,4,59] [1]] rfl (tc_ z) ?_
    ·cases h
     exact AK.met rfl
    cases h
    exact AK.met rfl
   rintro σ rfl
   replace h:Qiz i i9 j l a0=some o:=h
   refine tg_ hC [.n 1] rfl ?_
   refine bg_ h (fun A h=>Qa hC [.T,.n 9,.K [2] []] rfl ⟨tt_,A⟩ ?_) fun A h=>Qa hC [.F,.n 8,.K [1,3,4,5] [1]] rfl ⟨tt_,A⟩ ?_
   ·cases h
    exact QaH rfl (an_ rfl rfl)
   obtain⟨d2,a5,h⟩:=Qc h
   refine AK.loop (body:=(fun st=>Qiy i i9 st)) (fun st σ=>σ=⟨[(1,.loc 1 0 0),(3,.I (w64 (j+(l.Names.length:Int)))),(4,.I i9),(5,.I st)],[(1,.var (Qe i))]⟩) (Sum.elim (fun q e σ=>e=.ret∧σ=⟨[(2,.b false)],[]⟩) (fun q e σ=>e=.exit 2∧σ=⟨[(1,.loc 1 0 0),(3,.I (w64 (j+(l.Names.length:Int)))),(4,.I i9)],[(1,.var (Qe i))]⟩)) a5 rfl ?_ ?_
   ·rintro e3 o σ rfl h
    obtain⟨a6,a7,h⟩:=Qc h
    refine Qa hC [.n 7,.o (.row (Qy a6)),.n 2,.o (.ln a6.Names.length),.n 3] rfl ⟨⟨tt_,(QA a7)⟩,Qg⟩ ?_
    rcases Qq h with⟨B,h⟩|⟨B,h⟩
    ·obtain⟨d3,a8,h⟩:=Qc h
     obtain⟨d4,a9,h⟩:=Qc h
     refine Qa hC [.T,.n 9,.o (.row (Qy d3)),.n 3,.o (.row (QcY d4)),.n 5] rfl ⟨⟨⟨tt_,B⟩,(QA a8)⟩,(QA a9)⟩ ?_
     refine bg_ h (fun D h=>Qa hC [.T,.n 8,.K [2] []] rfl ⟨tt_,D⟩ ?_) fun D h=>Qa hC [.F,.n 8,.K [1,3,4,5] [1]] rfl ⟨tt_,D⟩ ?_
     ·cases h
      exact QaH rfl (an_ rfl rfl)
     cases h
     exact QJ rfl rfl
    refine Qa hC [.F,.n 2,.K [1,3,4] [1]] rfl ⟨tt_,B⟩ ?_
    cases h
    exact QK rfl (an_ rfl rfl)
   rcases d2 with(_ | _)
   ·replace h:Qoz=some o:=h
    rintro e σ ⟨rfl,rfl⟩
    refine tg_ hC [.n 3,.K [2] []] rfl ?_
    cases h
    exact QaH rfl (an_ rfl rfl)
   replace h:QoA j l i9=some o:=h
   rintro e σ ⟨rfl,rfl⟩
   refine tg_ hC [.n 8,.K [1,3,4] [1]] rfl ?_
   cases h
   exact QJ rfl rfl
  refine Qa hC [.F,.n 2,.K [1,3] [1]] rfl ⟨tt_,y⟩ ?_
  cases h
  exact QK rfl (an_ rfl rfl)
 rcases d0 with(_ | E)
 ·replace h:QoB=some r:=h
  rintro e σ ⟨rfl,rfl⟩
  refine tg_ hC [.n 2] rfl ?_
  cases h
  exact d1_ rfl rfl tt_
 replace h:Qho i E=some r:=h
 rintro e σ ⟨rfl,rfl⟩
 refine tg_ hC [.n 9,.K [1,3,6] [1]] rfl ?_
 obtain⟨d5,b0,h⟩:=Qc h
 refine AK.loop (body:=(fun st=>QiB i st.1 st.2)) (fun st σ=>σ=⟨[(1,.loc 1 0 0),(3,.I st.1),(6,.I st.2)],[(1,.var (Qe i))]⟩) (Sum.elim (fun q e σ=>e=.ret∧σ=⟨[(2,.b false)],[]⟩) (fun q e σ=>e=.exit 4∧σ=⟨[(1,.loc 1 0 0),(3,.I q)],[(1,.var (Qe i))]⟩)) b0 rfl ?_ ?_
 ·rintro ⟨b1,e4⟩ o σ rfl h
  refine Qa hC [.n 6,.o (.ln i.Places.length),.n 3] rfl ⟨tt_,Qg⟩ ?_
  rcases Qq h with⟨G,h⟩|⟨G,h⟩
  ·obtain⟨b2,b3,h⟩:=Qc h
   obtain⟨d6,b4,h⟩:=Qc h
   refine Qa hC [.T,.n 10,.o (.row (Qu b2)),.n 2,.o (.ln b2.First.length),.n 9,.o (.row (Qu d6)),.n 6] rfl ⟨⟨⟨⟨tt_,G⟩,(QA b3)⟩,Qg⟩,(QA b4)⟩ ?_
   refine bg_ h (fun H h=>Qa hC [.T,.n 8,.K [2] []] rfl ⟨tt_,H⟩ ?_) fun H h=>Qa hC [.F,.n 8,.K [1,3,6] [1]] rfl ⟨tt_,H⟩ ?_
   ·cases h
    exact QaH rfl (an_ rfl rfl)
   cases h
   exact QJ rfl rfl
  refine Qa hC [.F,.n 2,.K [1,3] [1]] rfl ⟨tt_,G⟩ ?_
  cases h
  exact QK rfl (an_ rfl rfl)
 rcases d5 with(_ | g)
 ·replace h:QoC=some r:=h
  rintro e σ ⟨rfl,rfl⟩
  refine tg_ hC [.n 2] rfl ?_
  cases h
  exact d1_ rfl rfl tt_
 replace h:Qhn i g=some r:=h
 rintro e σ ⟨rfl,rfl⟩
 refine tg_ hC [.n 14,.K [1,3,7,8] [1]] rfl ?_
 obtain⟨d7,b5,h⟩:=Qc h
 refine AK.loop (body:=(fun st=>Qhm i st.1 st.2)) (fun st σ=>σ=⟨[(1,.loc 1 0 0),(3,.I g),(7,.I st.1),(8,.I st.2)],[(1,.var (Qe i))]⟩) (Sum.elim (fun q e σ=>e=.ret∧σ=⟨[(2,.b false)],[]⟩) (fun q e σ=>e=.exit 6∧σ=⟨[(3,.I g)],[]⟩)) b5 rfl ?_ ?_
 ·rintro ⟨f,k⟩ o σ rfl h
  refine Qa hC [.n 6,.o (.ln i.Tasks.length),.n 3] rfl ⟨tt_,Qg⟩ ?_
  rcases Qq h with⟨J,h⟩|⟨J,h⟩
  ·obtain⟨a,b6,h⟩:=Qc h
   refine Qa hC [.T,.n 9,.o (.row (Qh a)),.v .no [] (.agg (Qh a)),.n 2,.O 9 (.var (Qh a)),.n 7,.o (.ln a.Vars.length),.n 3,.o (.ln a.Ins.length),.n 3,.o (.ln a.Outs.length),.n 3,.o (.ln a.Cancel.length),.n 6] rfl ⟨⟨⟨⟨⟨⟨⟨⟨tt_,J⟩,(QA b6)⟩,rfl⟩,rfl⟩,Qg⟩,Qg⟩,Qg⟩,Qg⟩ ?_
   refine AK.meetX (fun σ=>σ=⟨[(1,.loc 1 0 0),(3,.I g),(7,.I (w64 ((w64 ((w64 ((w64 (f+(a.Vars.length:Int)))+(a.Ins.length:Int)))+(a.Outs.length:Int)))+(a.Cancel.length:Int)))),(8,.I k),(9,.loc 9 0 0),(142,.b ((decide (200<(w64 ((w64 ((w64 ((w64 (f+(a.Vars.length:Int)))+(a.Ins.length:Int)))+(a.Outs.length:Int)))+(a.Cancel.length:Int)))))||(decide (100<(a.Name.size:Int)))))],[(1,.var (Qe i)),(9,.var (Qh a))]⟩) ?_ ?_
   ·refine tg_ hC [.n 4] rfl ?_
    rcases Qz (decide (200<(w64 ((w64 ((w64 ((w64 (f+(a.Vars.length:Int)))+(a.Ins.length:Int)))+(a.Outs.length:Int)))+(a.Cancel.length:Int)))))with m | m
    ·refine Qa hC [.S 137 (.b true),.n 6,.S 142 (.b ((decide (200<(w64 ((w64 ((w64 ((w64 (f+(a.Vars.length:Int)))+(a.Ins.length:Int)))+(a.Outs.length:Int)))+(a.Cancel.length:Int)))))||(decide (100<(a.Name.size:Int))))),.K [1,3,7,8,9,142] [1,9]] rfl ⟨(tc_ m),(congrArg V.b (orT m rfl))⟩ ?_
     exact AK.met rfl
    refine Qa hC [.S 137 (.b false),.n 6,.S 142 (.b ((decide (200<(w64 ((w64 ((w64 ((w64 (f+(a.Vars.length:Int)))+(a.Ins.length:Int)))+(a.Outs.length:Int)))+(a.Cancel.length:Int)))))||(decide (100<(a.Name.size:Int))))),.K [1,3,7,8,9,142] [1,9]] rfl ⟨(tc_ m),(congrArg V.b (orF m rfl))⟩ ?_
    exact AK.met rfl
   rintro σ rfl
   refine tg_ hC [.n 1] rfl ?_
   refine bg_ h (fun L h=>Qa hC [.T,.n 9,.K [2] []] rfl ⟨tt_,L⟩ ?_) fun L h=>Qa hC [.F,.n 9,.K [1,3,7,8,9,10] [1,9]] rfl ⟨tt_,L⟩ ?_
   ·cases h
    exact QaH rfl (an_ rfl rfl)
   obtain⟨d8,b7,h⟩:=Qc h
   refine AK.loop (body:=(fun st=>Qhg a st)) (fun st σ=>σ=⟨[(1,.loc 1 0 0),(3,.I g),(7,.I (w64 ((w64 ((w64 ((w64 (f+(a.Vars.length:Int)))+(a.Ins.length:Int)))+(a.Outs.length:Int)))+(a.Cancel.length:Int)))),(8,.I k),(9,.loc 9 0 0),(10,.I st)],[(1,.var (Qe i)),(9,.var (Qh a))]⟩) (Sum.elim (fun q e σ=>e=.ret∧σ=⟨[(2,.b false)],[]⟩) (fun q e σ=>e=.exit 8∧σ=⟨[(1,.loc 1 0 0),(3,.I g),(7,.I (w64 ((w64 ((w64 ((w64 (f+(a.Vars.length:Int)))+(a.Ins.length:Int)))+(a.Outs.length:Int)))+(a.Cancel.length:Int)))),(8,.I k),(9,.loc 9 0 0)],[(1,.var (Qe i)),(9,.var (Qh a))]⟩)) b7 rfl ?_ ?_
   ·rintro e5 o σ rfl h
    refine Qa hC [.n 6,.o (.ln a.Vars.length),.n 3] rfl ⟨tt_,Qg⟩ ?_
    rcases Qq h with⟨M,h⟩|⟨M,h⟩
    ·obtain⟨d9,b8,h⟩:=Qc h
     refine Qa hC [.T,.n 9,.o (.row (QB d9)),.n 6] rfl ⟨⟨tt_,M⟩,(QA b8)⟩ ?_
     refine bg_ h (fun N h=>Qa hC [.T,.n 8,.K [2] []] rfl ⟨tt_,N⟩ ?_) fun N h=>Qa hC [.F,.n 8,.K [1,3,7,8,9,10] [1,9]] rfl ⟨tt_,N⟩ ?_
     ·cases h
      exact QaH rfl (an_ rfl rfl)
     cases h
     exact QJ rfl rfl
    refine Qa hC [.F,.n 2,.K [1,3,7,8,9] [1,9]] rfl ⟨tt_,M⟩ ?_
    cases h
    exact QK rfl (an_ rfl rfl)
   rcases d8 with(_ | _)
   ·replace h:QnO=some o:=h
    rintro e σ ⟨rfl,rfl⟩
    refine tg_ hC [.n 4,.K [2] []] rfl ?_
    cases h
    exact QaH rfl (an_ rfl rfl)
   replace h:Qhl a f k=some o:=h
   rintro e σ ⟨rfl,rfl⟩
   obtain⟨e0,b9,h⟩:=Qc h
   refine Qa hC [.n 5,.v .no [] (.agg (Qr a.Guard)),.o (.c false [.d] (.b e0)),.n 10,.K [1,3,7,8,9,11,12] [1,9]] rfl ⟨⟨tt_,rfl⟩,(QkK _ b9)⟩ ?_
   obtain⟨c0,c1,h⟩:=Qc h
   refine AK.loop (body:=(fun st=>Qhh a st.1 st.2)) (fun st σ=>σ=⟨[(1,.loc 1 0 0),(3,.I g),(7,.I (w64 ((w64 ((w64 ((w64 (f+(a.Vars.length:Int)))+(a.Ins.length:Int)))+(a.Outs.length:Int)))+(a.Cancel.length:Int)))),(8,.I k),(9,.loc 9 0 0),(11,.b st.1),(12,.I st.2)],[(1,.var (Qe i)),(9,.var (Qh a))]⟩) (fun q e σ=>e=.exit 10∧σ=⟨[(1,.loc 1 0 0),(3,.I g),(7,.I (w64 ((w64 ((w64 ((w64 (f+(a.Vars.length:Int)))+(a.Ins.length:Int)))+(a.Outs.length:Int)))+(a.Cancel.length:Int)))),(8,.I k),(9,.loc 9 0 0),(11,.b q)],[(1,.var (Qe i)),(9,.var (Qh a))]⟩) c1 rfl ?_ ?_
   ·rintro ⟨t,e1⟩ o σ rfl h
    refine Qa hC [.n 6,.o (.ln a.Ins.length),.n 3] rfl ⟨tt_,Qg⟩ ?_
    rcases Qq h with⟨P,h⟩|⟨P,h⟩
    ·obtain⟨c2,c3,h⟩:=Qc h
     obtain⟨X,c4,h⟩:=Qc h
     refine Qa hC [.T,.n 9,.o (.row (QU c2)),.n 1,.v .no [] (.agg (Qr c2.Expr)),.o (.c false [.d] (.b X)),.n 3] rfl ⟨⟨⟨⟨tt_,P⟩,(QA c3)⟩,rfl⟩,(QkK _ c4)⟩ ?_
     refine AK.meetX (fun σ=>σ=⟨[(1,.loc 1 0 0),(3,.I g),(7,.I (w64 ((w64 ((w64 ((w64 (f+(a.Vars.length:Int)))+(a.Ins.length:Int)))+(a.Outs.length:Int)))+(a.Cancel.length:Int)))),(8,.I k),(9,.loc 9 0 0),(11,.b (t&&X)),(12,.I e1)],[(1,.var (Qe i)),(9,.var (Qh a))]⟩) ?_ ?_
     ·refine tg_ hC [.n 3] rfl ?_
      rcases Qz t with p | p
      ·refine Qa hC [.S 176 (.b true),.n 4,.S 11 (.b (t&&X)),.K [1,3,7,8,9,11,12] [1,9]] rfl ⟨(tc_ p),(congrArg V.b (Qat p rfl))⟩ ?_
       exact AK.met rfl
      refine Qa hC [.S 176 (.b false),.n 4,.S 11 (.b (t&&X)),.K [1,3,7,8,9,11,12] [1,9]] rfl ⟨(tc_ p),(congrArg V.b (Qbm p rfl))⟩ ?_
      exact AK.met rfl
     rintro σ rfl
     refine tg_ hC [.n 7,.K [1,3,7,8,9,11,12] [1,9]] rfl ?_
     cases h
     exact QJ rfl rfl
    refine Qa hC [.F,.n 2,.K [1,3,7,8,9,11] [1,9]] rfl ⟨tt_,P⟩ ?_
    cases h
    exact QK rfl (an_ rfl rfl)
   replace h:Qhk a f k c0=some o:=h
   rintro e σ ⟨rfl,rfl⟩
   refine tg_ hC [.n 9,.K [1,3,7,8,9,11,14] [1,9]] rfl ?_
   obtain⟨c5,c6,h⟩:=Qc h
   refine AK.loop (body:=(fun st=>Qhi a st.1 st.2)) (fun st σ=>σ=⟨[(1,.loc 1 0 0),(3,.I g),(7,.I (w64 ((w64 ((w64 ((w64 (f+(a.Vars.length:Int)))+(a.Ins.length:Int)))+(a.Outs.length:Int)))+(a.Cancel.length:Int)))),(8,.I k),(9,.loc 9 0 0),(11,.b st.1),(14,.I st.2)],[(1,.var (Qe i)),(9,.var (Qh a))]⟩) (fun q e σ=>e=.exit 12∧σ=⟨[(1,.loc 1 0 0),(3,.I g),(7,.I (w64 ((w64 ((w64 ((w64 (f+(a.Vars.length:Int)))+(a.Ins.length:Int)))+(a.Outs.length:Int)))+(a.Cancel.length:Int)))),(8,.I k),(11,.b q)],[(1,.var (Qe i))]⟩) c6 rfl ?_ ?_
   ·rintro ⟨u,e2⟩ o σ rfl h
    refine Qa hC [.n 6,.o (.ln a.Outs.length),.n 3] rfl ⟨tt_,Qg⟩ ?_
    rcases Qq h with⟨U,h⟩|⟨U,h⟩
    ·obtain⟨c7,c8,h⟩:=Qc h
     obtain⟨Y,c9,h⟩:=Qc h
     refine Qa hC [.T,.n 9,.o (.row (QU c7)),.n 1,.v .no [] (.agg (Qr c7.Expr)),.o (.c false [.d] (.b Y)),.n 3] rfl ⟨⟨⟨⟨tt_,U⟩,(QA c8)⟩,rfl⟩,(QkK _ c9)⟩ ?_
     refine AK.meetX (fun σ=>σ=⟨[(1,.loc 1 0 0),(3,.I g),(7,.I (w64 ((w64 ((w64 ((w64 (f+(a.Vars.length:Int)))+(a.Ins.length:Int)))+(a.Outs.length:Int)))+(a.Cancel.length:Int)))),(8,.I k),(9,.loc 9 0 0),(11,.b (u&&Y)),(14,.I e2)],[(1,.var (Qe i)),(9,.var (Qh a))]⟩) ?_ ?_
     ·refine tg_ hC [.n 3] rfl ?_
      rcases Qz u with s | s
      ·refine Qa hC [.S 194 (.b true),.n 4,.S 11 (.b (u&&Y)),.K [1,3,7,8,9,11,14] [1,9]] rfl ⟨(tc_ s),(congrArg V.b (Qat s rfl))⟩ ?_
       exact AK.met rfl
      refine Qa hC [.S 194 (.b false),.n 4,.S 11 (.b (u&&Y)),.K [1,3,7,8,9,11,14] [1,9]] rfl ⟨(tc_ s),(congrArg V.b (Qbm s rfl))⟩ ?_
      exact AK.met rfl
     rintro σ rfl
     refine tg_ hC [.n 7,.K [1,3,7,8,9,11,14] [1,9]] rfl ?_
     cases h
     exact QJ rfl rfl
    refine Qa hC [.F,.n 2,.K [1,3,7,8,11] [1]] rfl ⟨tt_,U⟩ ?_
    cases h
    exact QK rfl (an_ rfl rfl)
   replace h:Qhj f a k c5=some o:=h
   rintro e σ ⟨rfl,rfl⟩
   refine tg_ hC [.n 8] rfl ?_
   refine bg_ h (fun W h=>Qa hC [.T,.n 8,.K [2] []] rfl ⟨tt_,W⟩ ?_) fun W h=>Qa hC [.F,.n 8,.K [1,3,7,8] [1]] rfl ⟨tt_,W⟩ ?_
   ·cases h
    exact QaH rfl (an_ rfl rfl)
   cases h
   exact QJ rfl rfl
  refine Qa hC [.F,.n 2,.K [3] []] rfl ⟨tt_,J⟩ ?_
  cases h
  exact QK rfl (an_ rfl rfl)
 rcases d7 with(_ | _)
 ·replace h:QnP=some r:=h
  rintro e σ ⟨rfl,rfl⟩
  refine tg_ hC [.n 2] rfl ?_
  cases h
  exact d1_ rfl rfl tt_
 replace h:QnQ g=some r:=h
 rintro e σ ⟨rfl,rfl⟩
 refine tg_ hC [.n 10] rfl ?_
 cases h
 exact d1_ rfl rfl tt_
def Qju (a:Qm):Option Bool:=
 some ((decide ((a.Places.length:Int)≤64))&&(decide ((a.Tasks.length:Int)≤64)))
theorem QrR (a){r}(h:Qju a=some r):Qd prog 65 [.loc 609 0 0] [(609,.var (Qe a))] (Qj (.b r) [(609,.var (Qe a))]):=by
 refine Qd.walk 12 func65 rfl rfl rfl fun C hC=>?_
 refine tg_ hC [.n 6] rfl ?_
 refine AK.meetX (fun σ=>σ=⟨[(1,.b ((decide ((a.Places.length:Int)≤64))&&(decide ((a.Tasks.length:Int)≤64))))],[(609,.var (Qe a))]⟩) ?_ ?_
 ·refine Qa hC [.n 3,.o (.ln a.Places.length),.n 2] rfl ⟨tt_,Qg⟩ ?_
  rcases Qz (decide ((a.Places.length:Int)≤64))with c | c
  ·refine Qa hC [.S 6 (.b true),.n 2,.o (.ln a.Tasks.length),.n 4,.S 1 (.b ((decide ((a.Places.length:Int)≤64))&&(decide ((a.Tasks.length:Int)≤64)))),.K [1] [609]] rfl ⟨⟨(tc_ c),Qg⟩,(congrArg V.b (Qat c rfl))⟩ ?_
   exact AK.met rfl
  refine Qa hC [.S 6 (.b false),.n 7,.S 1 (.b ((decide ((a.Places.length:Int)≤64))&&(decide ((a.Tasks.length:Int)≤64)))),.K [1] [609]] rfl ⟨(tc_ c),(congrArg V.b (Qbm c rfl))⟩ ?_
  exact AK.met rfl
 rintro σ rfl
 refine tg_ hC [.n 2] rfl ?_
 cases h
 exact d1_ rfl rfl ⟨rfl,tt_⟩
def Qak (b:(List QG))(a:Int):Option Bool:=
 some ((decide (0≤a))&&(decide (a<(b.length:Int))))
theorem Qbp (d c){r}(h:Qak d c=some r):Qd prog 67 [.sl 3 (d.map Qu),.I c] [] (Qj (.b r) []):=by
 refine Qd.walk 13 func67 rfl rfl rfl fun C hC=>?_
 refine tg_ hC [.n 6] rfl ?_
 refine AK.meetX (fun σ=>σ=⟨[(4,.b ((decide (0≤c))&&(decide (c<(d.length:Int)))))],[]⟩) ?_ ?_
 ·refine tg_ hC [.n 4] rfl ?_
  rcases Qz (decide (0≤c))with a | a
  ·refine Qa hC [.S 7 (.b true),.n 2,.o (.ln d.length),.n 4,.S 4 (.b ((decide (0≤c))&&(decide (c<(d.length:Int))))),.K [4] []] rfl ⟨⟨(tc_ a),Qg⟩,(congrArg V.b (Qat a rfl))⟩ ?_
   exact AK.met rfl
  refine Qa hC [.S 7 (.b false),.n 7,.S 4 (.b ((decide (0≤c))&&(decide (c<(d.length:Int))))),.K [4] []] rfl ⟨(tc_ a),(congrArg V.b (Qbm a rfl))⟩ ?_
  exact AK.met rfl
 rintro σ rfl
 refine tg_ hC [.n 2] rfl ?_
 cases h
 exact d1_ rfl rfl tt_
def QmX (a:Qm):Option Bool:=
 (Qak a.Places a.From).bind fun b=>
 bif b then
 (Qak a.Places a.To).bind fun c=>
 some c
 else
 some false
def Qgi (a:Bool):Option Bool:=
 some a
def Qjv (a:Qm):Option Bool:=
 (QmX a).bind (fun b=>Qgi b)
theorem QrS (e){r}(h:Qjv e=some r):Qd prog 66 [.loc 609 0 0] [(609,.var (Qe e))] (Qj (.b r) [(609,.var (Qe e))]):=by
 refine Qd.walk 14 func66 rfl rfl rfl fun C hC=>?_
 refine tg_ hC [.n 6] rfl ?_
 obtain⟨f,g,h⟩:=Qc h
 replace h:Qgi f=some r:=h
 refine AK.meetX (fun σ=>σ=⟨[(1,.b f)],[(609,.var (Qe e))]⟩) ?_ ?_
 ·replace h:=g
  obtain⟨k,i,h⟩:=Qc h
  refine Qa hC [.n 5,.o (.c false [.d,.d] (.b k)),.n 1] rfl ⟨tt_,(Qbp _ _ i)⟩ ?_
  rcases Qq h with⟨a,h⟩|⟨a,h⟩
  ·obtain⟨l,j,h⟩:=Qc h
   refine Qa hC [.S 7 (.b true),.n 4,.o (.c false [.d,.d] (.b l)),.n 3,.K [1] [609]] rfl ⟨(tc_ a),(Qbp _ _ j)⟩ ?_
   cases h
   exact AK.met rfl
  refine Qa hC [.S 7 (.b false),.n 8,.K [1] [609]] rfl (tc_ a) ?_
  cases h
  exact AK.met rfl
 rintro σ rfl
 replace h:Qgi f=some r:=h
 refine tg_ hC [.n 2] rfl ?_
 cases h
 exact d1_ rfl rfl ⟨rfl,tt_⟩
def Qjw (a:Qm):Option Bool:=
 some (a.From != a.To)
theorem QrT (a){r}(h:Qjw a=some r):Qd prog 68 [.loc 609 0 0] [(609,.var (Qe a))] (Qj (.b r) [(609,.var (Qe a))]):=by
 refine Qd.walk 7 func68 rfl rfl rfl fun C hC=>?_
 refine tg_ hC [.n 16] rfl ?_
 cases h
 exact d1_ rfl rfl ⟨rfl,tt_⟩
def Qjx (a:Qm)(c:Int)(d:Int)(e:Int):Option Int:=
 (Qju a).bind fun f=>
 bif (!f)then
 some c
 else
 (Qjv a).bind fun g=>
 bif (!g)then
 some d
 else
 (Qjw a).bind fun b=>
 bif (!b)then
 some e
 else
 some 0
theorem QrU (g k l m){r}(h:Qjx g k l m=some r):Qd prog 64 [.own 609 3] [(609,.var [.clo (.func 65) [] [.loc 610 0 0],.I k,.clo (.func 66) [] [.loc 610 0 0],.I l,.clo (.func 68) [] [.loc 610 0 0],.I m]),(610,.var (Qe g))] (Qj (.I r) [(609,.var [.clo (.func 65) [] [.loc 610 0 0],.I k,.clo (.func 66) [] [.loc 610 0 0],.I l,.clo (.func 68) [] [.loc 610 0 0],.I m]),(610,.var (Qe g))]):=by
 refine Qd.walk 18 func64 rfl rfl rfl fun C hC=>?_
 refine tg_ hC [.n 14] rfl ?_
 refine AK.loopN 4 (AK.rnd ?_)
 obtain⟨t,p,h⟩:=Qc h
 refine Qa hC [.n 2,.v .no [] (.b true),.n 10,.o (.any (.loc 609 0 0) none),.n 3,.O 4 (.var [.clo (.func 65) [] [.loc 610 0 0],.I k]),.n 6,.cm (.clo) [(609,610)] [(610,609)] [] [.d] [(609,.var (Qe g))] (.b t),.n 3] rfl ⟨⟨⟨⟨tt_,rfl⟩,(fun σ e i _=>Stp.idxV rfl rfl (QD hC.n rfl) (e _ _ rfl) (e _ _ rfl) (Qp.es rfl) (i _ _ rfl) (by decide))⟩,rfl⟩,(QrR _ p)⟩ ?_
 refine bg_ h (fun f h=>Qa hC [.T,.n 13,.K [2] [609,610]] rfl ⟨tt_,f⟩ ?_) fun f h=>Qa hC [.F,.n 4,.v .no [] (.I 1),.n 2] rfl ⟨⟨tt_,f⟩,rfl⟩ ?_
 ·cases h
  exact d1_ rfl rfl ⟨rfl,rfl,tt_⟩
 refine AK.met (AK.rnd ?_)
 obtain⟨u,q,h⟩:=Qc h
 refine Qa hC [.n 2,.v .no [] (.b true),.n 10,.o (.any (.loc 609 0 2) none),.n 1,.kill 4,.n 2,.O 4 (.var [.clo (.func 66) [] [.loc 610 0 0],.I l]),.n 6,.cm (.clo) [(609,610)] [(610,609)] [] [.d] [(609,.var (Qe g))] (.b u),.n 3] rfl ⟨⟨⟨⟨tt_,rfl⟩,(fun σ e i _=>Stp.idxV rfl rfl (QD hC.n rfl) (e _ _ rfl) (e _ _ rfl) (Qp.es rfl) (i _ _ rfl) (by decide))⟩,rfl⟩,(QrS _ q)⟩ ?_
 refine bg_ h (fun a h=>Qa hC [.T,.n 13,.K [2] [609,610]] rfl ⟨tt_,a⟩ ?_) fun a h=>Qa hC [.F,.n 4,.v .no [] (.I 2),.n 2] rfl ⟨⟨tt_,a⟩,rfl⟩ ?_
 ·cases h
  exact d1_ rfl rfl ⟨rfl,rfl,tt_⟩
 refine AK.met (AK.rnd ?_)
 obtain⟨s,j,h⟩:=Qc h
 refine Qa hC [.n 2,.v .no [] (.b true),.n 10,.o (.any (.loc 609 0 4) none),.n 1,.kill 4,.n 2,.O 4 (.var [.clo (.func 68) [] [.loc 610 0 0],.I m]),.n 6,.cm (.clo) [(609,610)] [(610,609)] [] [.d] [(609,.var (Qe g))] (.b s),.n 3] rfl ⟨⟨⟨⟨tt_,rfl⟩,(fun σ e i _=>Stp.idxV rfl rfl (QD hC.n rfl) (e _ _ rfl) (e _ _ rfl) (Qp.es rfl) (i _ _ rfl) (by decide))⟩,rfl⟩,(QrT _ j)⟩ ?_
 refine bg_ h (fun c h=>Qa hC [.T,.n 13,.K [2] [609,610]] rfl ⟨tt_,c⟩ ?_) fun c h=>Qa hC [.F,.n 4,.v .no [] (.I 3),.n 2] rfl ⟨⟨tt_,c⟩,rfl⟩ ?_
 ·cases h
  exact d1_ rfl rfl ⟨rfl,rfl,tt_⟩
 refine AK.met (AK.rnd ?_)
 refine Qa hC [.n 2,.v .no [] (.b false),.n 15] rfl ⟨tt_,rfl⟩ ?_
 cases h
 exact d1_ rfl rfl ⟨rfl,rfl,tt_⟩
def Qjy (a:Int)(b:Int):Option Int:=
 bif (decide (b<a))then
 some 0
 else
 some (w64 ((w64 (min2 (IntKind.u64.wrap ((IntKind.u64.wrap b)-(IntKind.u64.wrap a))) 1024))+1))
theorem QrV (a b){r}(h:Qjy a b=some r):Qd prog 243 [.I a,.I b] [] (Qj (.I r) []):=by
 refine Qd.walk 16 func243 rfl rfl rfl fun C hC=>?_
 refine tg_ hC [.n 13] rfl ?_
 refine bg_ h (fun c h=>Qa hC [.T,.n 7,.K [4] []] rfl ⟨tt_,c⟩ ?_) fun c h=>Qa hC [.F,.n 5,.o (.any (.i .u64 (IntKind.u64.wrap b)) none),.n 1,.o (.any (.i .u64 (IntKind.u64.wrap a)) none),.n 2,.o (.any (.I (w64 (min2 (IntKind.u64.wrap ((IntKind.u64.wrap b)-(IntKind.u64.wrap a))) 1024))) none),.n 5,.K [4] []] rfl ⟨⟨⟨⟨tt_,c⟩,(fun σ d e _=>Stp.convI rfl rfl (QD hC.n rfl) (d _ _ rfl) QuX Qqd)⟩,(fun σ d e _=>Stp.convI rfl rfl (QD hC.n rfl) (d _ _ rfl) QuX Qqd)⟩,(fun σ d e _=>Stp.convI rfl rfl (QD hC.n rfl) (d _ _ rfl) Qqd QuX)⟩ ?_
 ·cases h
  exact d1_ rfl rfl tt_
 cases h
 exact d1_ rfl rfl tt_
def QdK (a:Int):Option Bool:=
 some (bif (decide (97≤a))then((decide (a≤122))||((decide (65≤a))&&(decide (a≤90))))else((decide (65≤a))&&(decide (a≤90))))
theorem Qlq (a){r}(h:QdK a=some r):Qd prog 223 [.i .u8 a] [] (Qj (.b r) []):=by
 refine Qd.walk 17 func223 rfl rfl rfl fun C hC=>?_
 unfold QdK at h
 refine tg_ hC [.n 6] rfl ?_
 refine AK.meetX (fun σ=>σ=⟨[(2,.b (bif (decide (97≤a))then((decide (a≤122))||((decide (65≤a))&&(decide (a≤90))))else((decide (65≤a))&&(decide (a≤90)))))],[]⟩) ?_ ?_
 ·refine tg_ hC [.n 4] rfl ?_
  rcases Qz (decide (97≤a))with c | c
  ·refine Qa hC [.S 5 (.b true),.n 4] rfl (tc_ c) ?_
   rcases Qz (decide (a≤122))with d | d
   ·refine Qa hC [.S 9 (.b true),.n 9,.S 2 (.b (bif (decide (97≤a))then((decide (a≤122))||((decide (65≤a))&&(decide (a≤90))))else((decide (65≤a))&&(decide (a≤90))))),.K [2] []] rfl ⟨(tc_ d),(congrArg V.b (QlG c (orT d rfl)))⟩ ?_
    exact AK.met rfl
   refine Qa hC [.S 9 (.b false),.n 3] rfl (tc_ d) ?_
   rcases Qz (decide (65≤a))with e | e
   ·refine Qa hC [.S 12 (.b true),.n 6,.S 2 (.b (bif (decide (97≤a))then((decide (a≤122))||((decide (65≤a))&&(decide (a≤90))))else((decide (65≤a))&&(decide (a≤90))))),.K [2] []] rfl ⟨(tc_ e),(congrArg V.b (QlG c (orF d (Qat e rfl))))⟩ ?_
    exact AK.met rfl
   refine Qa hC [.S 12 (.b false),.n 6,.S 2 (.b (bif (decide (97≤a))then((decide (a≤122))||((decide (65≤a))&&(decide (a≤90))))else((decide (65≤a))&&(decide (a≤90))))),.K [2] []] rfl ⟨(tc_ e),(congrArg V.b (QlG c (orF d (Qbm e rfl))))⟩ ?_
   exact AK.met rfl
  refine Qa hC [.S 5 (.b false),.n 7] rfl (tc_ c) ?_
  rcases Qz (decide (65≤a))with f | f
  ·refine Qa hC [.S 12 (.b true),.n 6,.S 2 (.b (bif (decide (97≤a))then((decide (a≤122))||((decide (65≤a))&&(decide (a≤90))))else((decide (65≤a))&&(decide (a≤90))))),.K [2] []] rfl ⟨(tc_ f),(congrArg V.b (QpX c (Qat f rfl)))⟩ ?_
   exact AK.met rfl
  refine Qa hC [.S 12 (.b false),.n 6,.S 2 (.b (bif (decide (97≤a))then((decide (a≤122))||((decide (65≤a))&&(decide (a≤90))))else((decide (65≤a))&&(decide (a≤90))))),.K [2] []] rfl ⟨(tc_ f),(congrArg V.b (QpX c (Qbm f rfl)))⟩ ?_
  exact AK.met rfl
 rintro σ rfl
 refine tg_ hC [.n 2] rfl ?_
 cases h
 exact d1_ rfl rfl tt_
def QmY (a:ByteArray):Option Bool:=
 bif (Qgc a (⟨#[]⟩:ByteArray))then
 some true
 else
 bif (decide (32<(a.size:Int)))then
 some true
 else
 (sidx a 0).bind fun b=>
 (QdK b).bind fun c=>
 some (!c)
def QmZ (a:Int):Option Bool:=
 (QdK a).bind fun b=>
 bif (!b)then
 bif (decide (a<48))then
 some (a != 95)
 else
 bif (decide (57<a))then
 some (a != 95)
 else
 some false
 else
 some false
def Qgj (a:Int)(b:Bool):Option (Int⊕(Unit⊕Unit)):=
 bif b then
 some (.inr (.inl ()))
 else
 some (.inl (w64 (a+1)))
def Qgk (d:ByteArray)(a:Int):Option (Int⊕(Unit⊕Unit)):=
 bif (decide (a<(d.size:Int)))then
 (sidx d a).bind fun b=>
 (QmZ b).bind (fun c=>Qgj a c)
 else
 some (.inr (.inr ()))
def Qgl : Option Bool:=
 some false
def Qgm : Option Bool:=
 some true
def Qgn (a:ByteArray)(b:Bool):Option Bool:=
 bif b then
 some false
 else
 (Qt (fun st=>Qgk a st) 0).bind (Sum.elim (fun q=>Qgl) (fun q=>Qgm))
def QeW (a:ByteArray):Option Bool:=
 (QmY a).bind (fun b=>Qgn a b)
theorem QjW (l){r}(h:QeW l=some r):Qd prog 177 [.s l] [] (Qj (.b r) []):=by
 refine Qd.walk 42 func177 rfl rfl rfl fun C hC=>?_
 refine tg_ hC [.n 7] rfl ?_
 obtain⟨z,A,h⟩:=Qc h
 replace h:Qgn l z=some r:=h
 refine AK.meetX (fun σ=>σ=⟨[(0,.s l),(17,.b z)],[]⟩) ?_ ?_
 ·replace h:=A
  refine tg_ hC [.n 4] rfl ?_
  refine bg_ h (fun m h=>Qa hC [.S 7 (.b true),.n 11,.K [0,17] []] rfl (tc_ m) ?_) fun m h=>Qa hC [.S 7 (.b false),.n 5] rfl (tc_ m) ?_
  ·cases h
   exact AK.met rfl
  rcases Qq h with⟨p,h⟩|⟨p,h⟩
  ·refine Qa hC [.S 12 (.b true),.n 6,.K [0,17] []] rfl (tc_ p) ?_
   cases h
   exact AK.met rfl
  obtain⟨J,B,h⟩:=Qc h
  obtain⟨L,D,h⟩:=Qc h
  refine Qa hC [.S 12 (.b false),.n 1,.o (.num J),.o (.c false [.d] (.b L)),.n 3,.K [0,17] []] rfl ⟨⟨(tc_ p),B⟩,(Qlq _ D)⟩ ?_
  cases h
  exact AK.met rfl
 rintro σ rfl
 replace h:Qgn l z=some r:=h
 refine tg_ hC [.n 1] rfl ?_
 refine bg_ h (fun a h=>Qa hC [.T,.n 7,.K [2] []] rfl ⟨tt_,a⟩ ?_) fun a h=>Qa hC [.F,.n 11,.K [0,19,20] []] rfl ⟨tt_,a⟩ ?_
 ·cases h
  exact d1_ rfl rfl tt_
 obtain⟨E,v,h⟩:=Qc h
 refine AK.loop (body:=(fun st=>Qgk l st)) (fun st σ=>σ=⟨[(0,.s l),(19,.I (l.size:Int)),(20,.I st)],[]⟩) (Sum.elim (fun q e σ=>e=.ret∧σ=⟨[(2,.b false)],[]⟩) (fun q e σ=>e=.exit 0∧σ=⟨[],[]⟩)) v rfl ?_ ?_
 ·rintro t o σ rfl h
  refine tg_ hC [.n 6] rfl ?_
  rcases Qq h with⟨f,h⟩|⟨f,h⟩
  ·obtain⟨G,w,h⟩:=Qc h
   refine Qa hC [.T,.n 14,.o (.num G),.n 4] rfl ⟨⟨tt_,f⟩,w⟩ ?_
   obtain⟨u,x,h⟩:=Qc h
   replace h:Qgj t u=some o:=h
   refine AK.meetX (fun σ=>σ=⟨[(0,.s l),(19,.I (l.size:Int)),(20,.I t),(40,.b u)],[]⟩) ?_ ?_
   ·replace h:=x
    obtain⟨H,y,h⟩:=Qc h
    refine Qa hC [.n 2,.o (.c false [.d] (.b H)),.n 2] rfl ⟨tt_,(Qlq _ y)⟩ ?_
    refine bg_ h (fun g h=>Qa hC [.S 29 (.b true),.n 3] rfl (tc_ g) ?_) fun g h=>Qa hC [.S 29 (.b false),.n 12,.K [0,19,20,40] []] rfl (tc_ g) ?_
    ·refine bg_ h (fun i h=>Qa hC [.S 32 (.b true),.n 9,.K [0,19,20,40] []] rfl (tc_ i) ?_) fun i h=>Qa hC [.S 32 (.b false),.n 5] rfl (tc_ i) ?_
     ·cases h
      exact AK.met rfl
     refine bg_ h (fun j h=>Qa hC [.S 37 (.b true),.n 4,.K [0,19,20,40] []] rfl (tc_ j) ?_) fun j h=>Qa hC [.S 37 (.b false),.n 4,.K [0,19,20,40] []] rfl (tc_ j) ?_
     ·cases h
      exact AK.met rfl
     cases h
     exact AK.met rfl
    cases h
    exact AK.met rfl
   rintro σ rfl
   replace h:Qgj t u=some o:=h
   refine tg_ hC [.n 1] rfl ?_
   refine bg_ h (fun k h=>Qa hC [.T,.n 8,.K [2] []] rfl ⟨tt_,k⟩ ?_) fun k h=>Qa hC [.F,.n 7,.K [0,19,20] []] rfl ⟨tt_,k⟩ ?_
   ·cases h
    exact QaH rfl (an_ rfl rfl)
   cases h
   exact QJ rfl rfl
  refine Qa hC [.F,.n 2,.K [] []] rfl ⟨tt_,f⟩ ?_
  cases h
  exact QK rfl (an_ rfl rfl)
 rcases E with(_ | _)
 ·replace h:Qgl=some r:=h
  rintro e σ ⟨rfl,rfl⟩
  refine tg_ hC [.n 2] rfl ?_
  cases h
  exact d1_ rfl rfl tt_
 replace h:Qgm=some r:=h
 rintro e σ ⟨rfl,rfl⟩
 refine tg_ hC [.n 8] rfl ?_
 cases h
 exact d1_ rfl rfl tt_
def QlZ (a:ByteArray)(c:QSB):Option Bool:=
 (QeW a).bind fun b=>
 bif (!b)then
 some true
 else
 some ((Qa3 c a).getD false)
def QfD (c:Int)(d:QSB)(a:ByteArray)(b:Bool):Option ((Int×QSB)⊕(Unit⊕Unit)):=
 bif b then
 some (.inr (.inl ()))
 else
 some (.inl ((w64 (c+1)),(Qb4 ltS d a true)))
def QfE (d:(List ByteArray))(b:Int)(e:QSB):Option ((Int×QSB)⊕(Unit⊕Unit)):=
 bif (decide (b<(d.length:Int)))then
 (idx d b).bind fun a=>
 (QlZ a e).bind (fun c=>QfD b e a c)
 else
 some (.inr (.inr ()))
def QfF : Option Bool:=
 some false
def QfG : Option Bool:=
 some true
def QiC (a:(List ByteArray)):Option Bool:=
 (Qt (fun st=>QfE a st.1 st.2) (0,([]:QSB))).bind (Sum.elim (fun q=>QfF) (fun q=>QfG))
theorem Qq5 (j){r}(h:QiC j=some r):Qd prog 244 [.sl 1 (j.map QcY)] [] (Qj (.b r) []):=by
 refine Qd.walk 24 func244 rfl rfl rfl fun C hC=>?_
 refine Qa hC [.n 8,.O 6 (.map (QN V.s V.b ([]:QSB))),.n 7,.o (.ln j.length),.n 4,.K [3,7,8,9] [6]] rfl ⟨⟨tt_,rfl⟩,Qg⟩ ?_
 obtain⟨B,u,h⟩:=Qc h
 refine AK.loop (body:=(fun st=>QfE j st.1 st.2)) (fun st σ=>σ=⟨[(3,.map 6),(7,.sl 1 (j.map QcY)),(8,.I (j.length:Int)),(9,.I st.1)],[(6,.map (QN V.s V.b st.2))]⟩) (Sum.elim (fun q e σ=>e=.ret∧σ=⟨[(2,.b false)],[]⟩) (fun q e σ=>e=.exit 0∧σ=⟨[],[]⟩)) u rfl ?_ ?_
 ·rintro ⟨D,m⟩ o σ rfl h
  refine tg_ hC [.n 6] rfl ?_
  rcases Qq h with⟨p,h⟩|⟨p,h⟩
  ·obtain⟨a,w,h⟩:=Qc h
   refine Qa hC [.T,.n 6,.o (.row (QcY a)),.n 6] rfl ⟨⟨tt_,p⟩,(QA w)⟩ ?_
   obtain⟨t,y,h⟩:=Qc h
   replace h:QfD D m a t=some o:=h
   refine AK.meetX (fun σ=>σ=⟨[(3,.map 6),(5,.s a),(7,.sl 1 (j.map QcY)),(8,.I (j.length:Int)),(9,.I D),(20,.b t)],[(6,.map (QN V.s V.b m))]⟩) ?_ ?_
   ·replace h:=y
    obtain⟨E,A,h⟩:=Qc h
    refine Qa hC [.n 2,.o (.c false [.d] (.b E)),.n 2] rfl ⟨tt_,(QjW _ A)⟩ ?_
    refine bg_ h (fun g h=>Qa hC [.S 16 (.b true),.n 5,.K [3,5,7,8,9,20] [6]] rfl (tc_ g) ?_) fun g h=>Qa hC [.S 16 (.b false),.n 2,.o (.any (.b ((Qa3 m a).getD false)) none),.n 2,.K [3,5,7,8,9,20] [6]] rfl ⟨(tc_ g),(fun σ G H _=>Stp.lookup (e:=V.s) (f:=V.b) (l:=m) (k:=a) (z:=false) rfl rfl (QD hC.n rfl) (G _ _ rfl) (H _ _ rfl) (G _ _ rfl) QsM QvY Qyb rfl)⟩ ?_
    ·cases h
     exact AK.met rfl
    cases h
    exact AK.met rfl
   rintro σ rfl
   replace h:QfD D m a t=some o:=h
   refine tg_ hC [.n 1] rfl ?_
   refine bg_ h (fun i h=>Qa hC [.T,.n 9,.K [2] []] rfl ⟨tt_,i⟩ ?_) fun i h=>Qa hC [.F,.n 5,.x (fun σ=>σ.set 6 (.map (QN V.s V.b (Qb4 ltS m a true)))),.n 7,.K [3,7,8,9] [6]] rfl ⟨⟨tt_,i⟩,(Stp.mapUpdate (e:=V.s) (f:=V.b) (l:=m) (k:=a) (v:=true) ltS rfl rfl rfl rfl rfl rfl QsM QvY rfl)⟩ ?_
   ·cases h
    exact QaH rfl (an_ rfl rfl)
   cases h
   exact QJ rfl rfl
  refine Qa hC [.F,.n 2,.K [] []] rfl ⟨tt_,p⟩ ?_
  cases h
  exact QK rfl (an_ rfl rfl)
 rcases B with(_ | _)
 ·replace h:QfF=some r:=h
  rintro e σ ⟨rfl,rfl⟩
  refine tg_ hC [.n 2] rfl ?_
  cases h
  exact d1_ rfl rfl tt_
 replace h:QfG=some r:=h
 rintro e σ ⟨rfl,rfl⟩
 refine tg_ hC [.n 8] rfl ?_
 cases h
 exact d1_ rfl rfl tt_
def Qb8 : Option Int:=
 some 0
def Qjz (b:QM)(a:(List Int)):Option Int:=
 bif (b.Kind==1)then
 (Qjy b.Lo b.Hi).bind fun e=>
 some e
 else
 bif (b.Kind==2)then
 (QiC b.Names).bind fun f=>
 bif f then
 some (b.Names.length:Int)
 else
 Qb8
 else
 bif (b.Kind==3)then
 bif ((decide (0≤(min2 b.First b.Then)))&&(decide ((max2 b.First b.Then)<(a.length:Int))))then
 (idx a b.First).bind fun c=>
 (idx a b.Then).bind fun d=>
 some (w64 (c*d))
 else
 Qb8
 else
 Qb8
theorem QrW (f e){r}(h:Qjz f e=some r):Qd prog 226 [.agg (Qy f),.sl 1 (e.map Qb)] [] (Qj (.I r) []):=by
 refine Qd.walk 51 func226 rfl rfl rfl fun C hC=>?_
 refine tg_ hC [.n 6] rfl ?_
 refine AK.meet (fun σ=>σ=⟨[],[]⟩∧Qb8=some r) ?_ ?_
 ·refine tg_ hC [.n 13] rfl ?_
  rcases Qq h with⟨k,h⟩|⟨k,h⟩
  ·obtain⟨w,s,h⟩:=Qc h
   refine Qa hC [.T,.n 6,.o (.c false [.d,.d] (.I w)),.n 6] rfl ⟨⟨tt_,k⟩,(QrV _ _ s)⟩ ?_
   cases h
   exact d1_ rfl rfl tt_
  refine Qa hC [.F,.n 6] rfl ⟨tt_,k⟩ ?_
  rcases Qq h with⟨l,h⟩|⟨l,h⟩
  ·obtain⟨x,t,h⟩:=Qc h
   refine Qa hC [.T,.n 4,.o (.c false [.d] (.b x)),.n 2] rfl ⟨⟨tt_,l⟩,(Qq5 _ t)⟩ ?_
   refine bg_ h (fun m h=>Qa hC [.T,.n 4,.o (.ln f.Names.length),.n 6,.K [4] []] rfl ⟨⟨tt_,m⟩,Qg⟩ ?_) fun m h=>Qa hC [.F,.n 2,.K [] []] rfl ⟨tt_,m⟩ ?_
   ·cases h
    exact d1_ rfl rfl tt_
   exact AK.met (an_ rfl h)
  refine Qa hC [.F,.n 6] rfl ⟨tt_,l⟩ ?_
  refine bg_ h (fun i h=>Qa hC [.T,.n 1] rfl ⟨tt_,i⟩ ?_) fun i h=>Qa hC [.F,.n 2,.K [] []] rfl ⟨tt_,i⟩ ?_
  ·refine AK.meetX (fun σ=>σ=⟨[(1,.sl 1 (e.map Qb)),(2,.loc 2 0 0),(39,.b ((decide (0≤(min2 f.First f.Then)))&&(decide ((max2 f.First f.Then)<(e.length:Int)))))],[(2,.var (Qy f))]⟩) ?_ ?_
   ·refine tg_ hC [.n 8] rfl ?_
    rcases Qz (decide (0≤(min2 f.First f.Then)))with g | g
    ·refine Qa hC [.S 30 (.b true),.n 6,.o (.ln e.length),.n 3,.S 39 (.b ((decide (0≤(min2 f.First f.Then)))&&(decide ((max2 f.First f.Then)<(e.length:Int))))),.K [1,2,39] [2]] rfl ⟨⟨(tc_ g),Qg⟩,(congrArg V.b (Qat g rfl))⟩ ?_
     exact AK.met rfl
    refine Qa hC [.S 30 (.b false),.n 10,.S 39 (.b ((decide (0≤(min2 f.First f.Then)))&&(decide ((max2 f.First f.Then)<(e.length:Int))))),.K [1,2,39] [2]] rfl ⟨(tc_ g),(congrArg V.b (Qbm g rfl))⟩ ?_
    exact AK.met rfl
   rintro σ rfl
   refine tg_ hC [.n 1] rfl ?_
   rcases Qq h with⟨j,h⟩|⟨j,h⟩
   ·obtain⟨u,p,h⟩:=Qc h
    obtain⟨v,q,h⟩:=Qc h
    refine Qa hC [.T,.n 1,.K [1,2] [2]] rfl ⟨tt_,j⟩ ?_
    refine AK.draw2 Qp hC mixed [.N,.N,.N,.a (.row (Qb u)) none false,.N,.N,.N,.N,.a (.row (Qb v)) none false,.N,.N,.N] [] [] [4] [] rfl rfl rfl ⟨⟨tt_,(QA p)⟩,(QA q)⟩ rfl (by kernel_rfl) rfl rfl rfl ?_
    refine tg_ hC [.n 4] rfl ?_
    cases h
    exact d1_ rfl rfl tt_
   refine Qa hC [.F,.n 2,.K [] []] rfl ⟨tt_,j⟩ ?_
   exact AK.met (an_ rfl h)
  exact AK.met (an_ rfl h)
 rintro σ ⟨rfl,h⟩
 refine tg_ hC [.n 6] rfl ?_
 cases h
 exact d1_ rfl rfl tt_
def Ql0 (a:QM)(d:QSB)(b:Int):Option Bool:=
 (QeW a.Name).bind fun c=>
 bif (!c)then
 some true
 else
 bif ((Qa3 d a.Name).getD false)then
 some true
 else
 bif (decide (b<1))then
 some true
 else
 some (decide (1024<b))
def QfH (a:(List Int))(b:Int)(e:Int)(f:QSB)(c:QM)(d:Bool):Option ((Int×QSB×(List Int))⊕(Unit⊕(List Int))):=
 bif d then
 some (.inr (.inl ()))
 else
 (chk (decide (a.length+([b]:List Int).length≤4294967296))).bind fun _=>
 some (.inl ((w64 (e+1)),(Qb4 ltS f c.Name true),(a++([b]:List Int))))
def QfI (f:(List QM))(d:Int)(g:QSB)(a:(List Int)):Option ((Int×QSB×(List Int))⊕(Unit⊕(List Int))):=
 bif (decide (d<(f.length:Int)))then
 (idx f d).bind fun b=>
 (Qjz b a).bind fun c=>
 (Ql0 b g c).bind (fun e=>QfH a c d g b e)
 else
 some (.inr (.inr a))
def Ql1 : Option ((List Int)×Bool):=
 some (([]:List Int),false)
def Ql2 (a:(List Int)):Option ((List Int)×Bool):=
 some (a,true)
def QfU (a:(List QM)):Option ((List Int)×Bool):=
 bif (decide (32<(a.length:Int)))then
 some (([]:List Int),false)
 else
 (Qt (fun st=>QfI a st.1 st.2.1 st.2.2) (0,([]:QSB),([]:List Int))).bind (Sum.elim (fun q=>Ql1) (fun q=>Ql2 q))
theorem Ql3 (w){r}(h:QfU w=some r):Qd prog 180 [.sl 7 (w.map Qy)] [] (Qj (.tup [.sl 1 (r.1.map Qb),.b r.2]) []):=by
 refine Qd.walk 49 func180 rfl rfl rfl fun C hC=>?_
 refine Qa hC [.n 10,.o (.ln w.length),.n 3] rfl ⟨tt_,Qg⟩ ?_
 refine bg_ h (fun y h=>Qa hC [.T,.n 8,.denil 2 [some 1],.K [2,3] []] rfl ⟨tt_,y⟩ ?_) fun y h=>Qa hC [.F,.n 5,.O 12 (.map (QN V.s V.b ([]:QSB))),.n 12,.o (.ln w.length),.n 4,.adopt 5 43 1,.O 43 (.arr 1 (([]:List Int).map Qb)),.S 5 (.own 43 ([]:List Int).length),.K [4,5,13,14,15] [12,43]] rfl ⟨⟨⟨⟨⟨tt_,y⟩,rfl⟩,Qg⟩,rfl⟩,(congrArg (fun n=>V.own 43 n) (by simp))⟩ ?_
 ·cases h
  exact d2_ rfl rfl rfl tt_
 obtain⟨N,D,h⟩:=Qc h
 refine AK.loop (body:=(fun st=>QfI w st.1 st.2.1 st.2.2)) (fun st σ=>σ=⟨[(4,.map 12),(5,.own 43 st.2.2.length),(13,.sl 7 (w.map Qy)),(14,.I (w.length:Int)),(15,.I st.1)],[(12,.map (QN V.s V.b st.2.1)),(43,.arr 1 (st.2.2.map Qb))]⟩) (Sum.elim (fun q e σ=>e=.ret∧σ=⟨[(2,.lit (.slice none 0 0)),(3,.b false)],[]⟩) (fun q e σ=>e=.exit 0∧σ=⟨[(5,.own 43 q.length)],[(43,.arr 1 (q.map Qb))]⟩)) D rfl ?_ ?_
 ·rintro ⟨P,A,g⟩ o σ rfl h
  refine tg_ hC [.n 6] rfl ?_
  rcases Qq h with⟨j,h⟩|⟨j,h⟩
  ·obtain⟨a,E,h⟩:=Qc h
   obtain⟨i,G,h⟩:=Qc h
   refine Qa hC [.T,.n 6,.o (.row (Qy a)),.v .no [] (.agg (Qy a)),.n 2,.O 7 (.var (Qy a)),.n 4,.v .no [] (.agg (Qy a)),.n 1,.o (.c true [.d,.o (g.map Qb)] (.I i)),.n 5] rfl ⟨⟨⟨⟨⟨⟨tt_,j⟩,(QA E)⟩,rfl⟩,rfl⟩,rfl⟩,⟨(Qj3 rfl),(QrW _ _ G)⟩⟩ ?_
   obtain⟨B,H,h⟩:=Qc h
   replace h:QfH g i P A a B=some o:=h
   refine AK.meetX (fun σ=>σ=⟨[(4,.map 12),(5,.own 43 g.length),(7,.loc 7 0 0),(8,.I i),(13,.sl 7 (w.map Qy)),(14,.I (w.length:Int)),(15,.I P),(39,.b B)],[(7,.var (Qy a)),(12,.map (QN V.s V.b A)),(43,.arr 1 (g.map Qb))]⟩) ?_ ?_
   ·replace h:=H
    obtain⟨U,J,h⟩:=Qc h
    refine Qa hC [.n 3,.o (.c false [.d] (.b U)),.n 2] rfl ⟨tt_,(QjW _ J)⟩ ?_
    refine bg_ h (fun m h=>Qa hC [.S 26 (.b true),.n 14,.K [4,5,7,8,13,14,15,39] [7,12,43]] rfl (tc_ m) ?_) fun m h=>Qa hC [.S 26 (.b false),.n 3,.o (.any (.b ((Qa3 A a.Name).getD false)) none),.n 2] rfl ⟨(tc_ m),(fun σ W X _=>Stp.lookup (e:=V.s) (f:=V.b) (l:=A) (k:=a.Name) (z:=false) rfl rfl (QD hC.n rfl) (W _ _ rfl) (X _ _ rfl) (W _ _ rfl) QsM QvY Qyb rfl)⟩ ?_
    ·cases h
     exact AK.met rfl
    refine bg_ h (fun p h=>Qa hC [.S 32 (.b true),.n 8,.K [4,5,7,8,13,14,15,39] [7,12,43]] rfl (tc_ p) ?_) fun p h=>Qa hC [.S 32 (.b false),.n 4] rfl (tc_ p) ?_
    ·cases h
     exact AK.met rfl
    refine bg_ h (fun t h=>Qa hC [.S 36 (.b true),.n 4,.K [4,5,7,8,13,14,15,39] [7,12,43]] rfl (tc_ t) ?_) fun t h=>Qa hC [.S 36 (.b false),.n 4,.K [4,5,7,8,13,14,15,39] [7,12,43]] rfl (tc_ t) ?_
    ·cases h
     exact AK.met rfl
    cases h
    exact AK.met rfl
   rintro σ rfl
   replace h:QfH g i P A a B=some o:=h
   refine tg_ hC [.n 1] rfl ?_
   rcases Qq h with⟨u,h⟩|⟨u,h⟩
   ·refine Qa hC [.T,.n 10,.K [2,3] []] rfl ⟨tt_,u⟩ ?_
    cases h
    exact QaH rfl (an_ rfl rfl)
   obtain⟨L,h⟩:=Qas h
   refine Qa hC [.F,.n 7,.x (fun σ=>σ.set 12 (.map (QN V.s V.b (Qb4 ltS A a.Name true)))),.n 5,.v (.bd []) [] (.sl 1 (([i]:List Int).map Qb)),.app ((g++([i]:List Int)).map Qb) (g++([i]:List Int)).length,.n 8,.K [4,5,13,14,15] [12,43]] rfl ⟨⟨⟨⟨tt_,u⟩,(Stp.mapUpdate (e:=V.s) (f:=V.b) (l:=A) (k:=a.Name) (v:=true) ltS rfl rfl rfl rfl rfl rfl QsM QvY rfl)⟩,rfl⟩,⟨Qg,Qc9 L Qg,QbS,QeC Qg⟩⟩ ?_
   cases h
   exact QJ rfl rfl
  refine Qa hC [.F,.n 2,.K [5] [43]] rfl ⟨tt_,j⟩ ?_
  cases h
  exact QK rfl (an_ rfl rfl)
 rcases N with(_ | M)
 ·replace h:Ql1=some r:=h
  rintro e σ ⟨rfl,rfl⟩
  refine tg_ hC [.n 2,.denil 2 [some 1]] rfl ?_
  cases h
  exact d2_ rfl rfl rfl tt_
 replace h:Ql2 M=some r:=h
 rintro e σ ⟨rfl,rfl⟩
 refine Qa hC [.n 10,.frz 43 (M.map Qb) [2] []] rfl ⟨tt_,⟨tt_,(QcQ Qg)⟩⟩ ?_
 cases h
 exact d2_ rfl rfl rfl tt_
def QiD (a:(List QM)):Option Bool:=
 (QfU a).bind fun b=>
 some b.2
theorem Qq6 (e){r}(h:QiD e=some r):Qd prog 110 [.sl 7 (e.map Qy)] [] (Qj (.b r) []):=by
 refine Qd.walk 11 func110 rfl rfl rfl fun C hC=>?_
 obtain⟨f,a,h⟩:=Qc h
 refine Qa hC [.n 8,.o (.c false [.d] (.tup [.sl 1 (f.1.map Qb),.b f.2])),.n 14] rfl ⟨tt_,(Ql3 _ a)⟩ ?_
 cases h
 exact d1_ rfl rfl tt_
def QeF (b:Qm)(a:Int):Option Bool:=
 (chk (decide (0≤(w64 (a+1)))&&decide (0≤(w64 (a+1)).toNat)&&decide ((w64 (a+1)).toNat≤b.Colours.length))).bind fun _=>
 (QiD ((b.Colours.drop 0).take ((w64 (a+1)).toNat-0))).bind fun c=>
 some c
theorem Qn9 (e f){r}(h:QeF e f=some r):Qd prog 109 [.loc 609 0 0,.loc 610 0 0] [(609,.var (Qe e)),(610,.var (Qb f))] (Qj (.b r) [(609,.var (Qe e)),(610,.var (Qb f))]):=by
 refine Qd.walk 9 func109 rfl rfl rfl fun C hC=>?_
 obtain⟨a,h⟩:=Qas h
 obtain⟨j,g,h⟩:=Qc h
 refine Qa hC [.n 11,.o (.any (.sl 7 (((e.Colours.drop 0).take ((w64 (f+1)).toNat-0)).map Qy)) none),.o (.c false [.d] (.b j)),.n 4] rfl ⟨⟨tt_,(fun σ i k _=>Stp.sliceD rfl rfl (QD hC.n rfl) (i _ _ rfl) (Qp.es rfl) Bnd.no (Bnd.val (i _ _ rfl) (Qag (Qp8 a)) rfl) (Qag (Qp9 a)) (QdG (Qag (Qqa a)) (Nat.le_of_eq Qg.symm)) QsJ)⟩,(Qq6 _ g)⟩ ?_
 cases h
 exact d1_ rfl rfl ⟨rfl,rfl,tt_⟩
def Qm0 (x:ByteArray):Option (List ByteArray):=(chk (QuT x)).bind fun _=>some (QeV x)
theorem QpC (x){r}(h:Qm0 x=some r):Qd prog 242 [.s x] [] (Qj (.own 600 r.length) [(600,.arr 1 (r.map QcY))]):=by
 obtain⟨_,a,h⟩:=Qc h
 cases h
 exact Qt6 Qwy (by kernel_rfl) (by kernel_rfl) x (Qvz a)
def QgN  : Option (List ByteArray):=
 (Qm0 (⟨#[99,111,108,111,117,114,32,112,108,97,99,101,32,116,97,115,107,32,118,97,114,32,119,104,101,110,32,106,111,105,110,32,115,112,108,105,116,32,105,110,32,111,117,116,32,99,97,110,99,101,108,32,97,102,116,101,114,32,109,97,110,121,32,102,114,111,109,32,116,111,32,105,110,116,32,101,110,117,109,32,112,97,105,114,32,97,110,100,32,120,111,114,32,111,114,32,105,102]⟩:ByteArray)).bind fun a=>
 some a
theorem QrX  {r:(List ByteArray)}(h:QgN  = some r):Qd prog 225 [] [] (Qj (.own 600 r.length) [(600,.arr 1 (r.map QcY))]):=by
 refine Qd.walk 2 func225 rfl rfl rfl fun C hC=>?_
 obtain⟨b,a,h⟩:=Qc h
 refine Qa hC [.n 7,.o (.co false [.d] 1 (b.map QcY) b.length),.n 4,.K [0] [1],.ren 1 600] rfl ⟨tt_,⟨(QpC _ a),Qg,.inl rfl⟩⟩ ?_
 cases h
 exact d1_ rfl rfl ⟨rfl,tt_⟩
def Qbq (b:(List ByteArray))(c:ByteArray)(a:Int):Option (Int⊕(Int⊕Unit)):=
 bif (decide (a<(b.length:Int)))then
 (idx b a).bind fun d=>
 bif (Qgc c d)then
 some (.inr (.inl a))
 else
 some (.inl (w64 (a+1)))
 else
 some (.inr (.inr ()))
def Qbr (a:Int):Option Int:=
 some a
def Qbs : Option Int:=
 some (-1)
def QbN (a:(List ByteArray))(b:ByteArray):Option Int:=
 (Qt (fun st=>Qbq a b st) 0).bind (Sum.elim (fun q=>Qbr q) (fun q=>Qbs))
theorem Qj9 (c f){r}(h:QbN c f=some r):Qd prog 241 [.sl 1 (c.map QcY),.s f] [] (Qj (.I r) []):=by
 refine Qd.walk 19 func241 rfl rfl rfl fun C hC=>?_
 refine Qa hC [.n 9,.o (.ln c.length),.n 4,.K [0,1,7,8] []] rfl ⟨tt_,Qg⟩ ?_
 obtain⟨g,d,h⟩:=Qc h
 refine AK.loop (body:=(fun st=>Qbq c f st)) (fun st σ=>σ=⟨[(0,.sl 1 (c.map QcY)),(1,.s f),(7,.I (c.length:Int)),(8,.I st)],[]⟩) (Sum.elim (fun q e σ=>e=.ret∧σ=⟨[(4,.I q)],[]⟩) (fun q e σ=>e=.exit 0∧σ=⟨[],[]⟩)) d rfl ?_ ?_
 ·rintro l o σ rfl h
  refine tg_ hC [.n 6] rfl ?_
  rcases Qq h with⟨b,h⟩|⟨b,h⟩
  ·obtain⟨j,i,h⟩:=Qc h
   refine Qa hC [.T,.n 15,.o (.row (QcY j)),.n 4] rfl ⟨⟨tt_,b⟩,(QA i)⟩ ?_
   refine bg_ h (fun a h=>Qa hC [.T,.n 9,.K [4] []] rfl ⟨tt_,a⟩ ?_) fun a h=>Qa hC [.F,.n 7,.K [0,1,7,8] []] rfl ⟨tt_,a⟩ ?_
   ·cases h
    exact QaH rfl (an_ rfl rfl)
   cases h
   exact QJ rfl rfl
  refine Qa hC [.F,.n 2,.K [] []] rfl ⟨tt_,b⟩ ?_
  cases h
  exact QK rfl (an_ rfl rfl)
 rcases g with(k | _)
 ·replace h:Qbr k=some r:=h
  rintro e σ ⟨rfl,rfl⟩
  refine tg_ hC [.n 2] rfl ?_
  cases h
  exact d1_ rfl rfl tt_
 replace h:Qbs=some r:=h
 rintro e σ ⟨rfl,rfl⟩
 refine tg_ hC [.n 8] rfl ?_
 cases h
 exact d1_ rfl rfl tt_
def Qbt (a:(List ByteArray))(b:ByteArray):Option Bool:=
 (QbN a b).bind fun c=>
 some (decide (0≤c))
theorem Qi2 (e f){r}(h:Qbt e f=some r):Qd prog 224 [.sl 1 (e.map QcY),.s f] [] (Qj (.b r) []):=by
 refine Qd.walk 9 func224 rfl rfl rfl fun C hC=>?_
 obtain⟨g,a,h⟩:=Qc h
 refine Qa hC [.n 9,.o (.c false [.d,.d] (.I g)),.n 5] rfl ⟨tt_,(Qj9 _ _ a)⟩ ?_
 cases h
 exact d1_ rfl rfl tt_
def Qkq (a:ByteArray):Option Bool:=
 (QgN).bind fun b=>
 (Qbt b a).bind fun c=>
 some c
theorem QsN (g){r}(h:Qkq g=some r):Qd prog 178 [.s g] [] (Qj (.b r) []):=by
 refine Qd.walk 6 func178 rfl rfl rfl fun C hC=>?_
 obtain⟨a,e,h⟩:=Qc h
 obtain⟨i,f,h⟩:=Qc h
 refine Qa hC [.n 7,.o (.co false [] 1 (a.map QcY) a.length),.n 1,.o (.c true [.o (a.map QcY),.d] (.b i)),.n 4] rfl ⟨⟨tt_,⟨(QrX  e),Qg,.inl rfl⟩⟩,⟨(Qj3 rfl),(Qi2 _ _ f)⟩⟩ ?_
 cases h
 exact d1_ rfl rfl tt_
def QnR (a:ByteArray):Option Bool:=
 (QeW a).bind fun b=>
 bif b then
 (Qkq a).bind fun c=>
 some (!c)
 else
 some false
def Qhp (a:Bool):Option Bool:=
 some a
def Qdz (a:ByteArray):Option Bool:=
 (QnR a).bind (fun b=>Qhp b)
theorem Qe3 (j){r}(h:Qdz j=some r):Qd prog 106 [.s j] [] (Qj (.b r) []):=by
 refine Qd.walk 10 func106 rfl rfl rfl fun C hC=>?_
 refine tg_ hC [.n 6] rfl ?_
 obtain⟨e,f,h⟩:=Qc h
 replace h:Qhp e=some r:=h
 refine AK.meetX (fun σ=>σ=⟨[(2,.b e)],[]⟩) ?_ ?_
 ·replace h:=f
  obtain⟨k,g,h⟩:=Qc h
  refine Qa hC [.n 2,.o (.c false [.d] (.b k)),.n 1] rfl ⟨tt_,(QjW _ g)⟩ ?_
  rcases Qq h with⟨a,h⟩|⟨a,h⟩
  ·obtain⟨l,i,h⟩:=Qc h
   refine Qa hC [.S 5 (.b true),.n 1,.o (.c false [.d] (.b l)),.n 4,.K [2] []] rfl ⟨(tc_ a),(QsN _ i)⟩ ?_
   cases h
   exact AK.met rfl
  refine Qa hC [.S 5 (.b false),.n 6,.K [2] []] rfl (tc_ a) ?_
  cases h
  exact AK.met rfl
 rintro σ rfl
 replace h:Qhp e=some r:=h
 refine tg_ hC [.n 2] rfl ?_
 cases h
 exact d1_ rfl rfl tt_
def QdL (a:ByteArray):Option Bool:=
 (Qdz a).bind fun b=>
 some (!b)
theorem Qm1 (e){r}(h:QdL e=some r):Qd prog 108 [.s e] [] (Qj (.b r) []):=by
 refine Qd.walk 6 func108 rfl rfl rfl fun C hC=>?_
 obtain⟨f,a,h⟩:=Qc h
 refine Qa hC [.n 8,.o (.c false [.d] (.b f)),.n 5] rfl ⟨tt_,(Qe3 _ a)⟩ ?_
 cases h
 exact d1_ rfl rfl tt_
def QaN (b:(List ByteArray))(a:Int):Option (Int⊕(Int⊕Unit)):=
 bif (decide (a<(b.length:Int)))then
 (idx b a).bind fun c=>
 (QdL c).bind fun d=>
 bif d then
 some (.inr (.inl a))
 else
 some (.inl (w64 (a+1)))
 else
 some (.inr (.inr ()))
def QaO (a:Int):Option Int:=
 some a
def QaP : Option Int:=
 some (-1)
def Qbh (a:(List ByteArray)):Option Int:=
 (Qt (fun st=>QaN a st) 0).bind (Sum.elim (fun q=>QaO q) (fun q=>QaP))
theorem QiE (g){r}(h:Qbh g=some r):Qd prog 179 [.sl 1 (g.map QcY),.clo (.func 108) [] []] [] (Qj (.I r) []):=by
 refine Qd.walk 19 func179 rfl rfl rfl fun C hC=>?_
 refine Qa hC [.n 9,.o (.ln g.length),.n 4,.K [0,1,7,8] []] rfl ⟨tt_,Qg⟩ ?_
 obtain⟨j,i,h⟩:=Qc h
 refine AK.loop (body:=(fun st=>QaN g st)) (fun st σ=>σ=⟨[(0,.sl 1 (g.map QcY)),(1,.clo (.func 108) [] []),(7,.I (g.length:Int)),(8,.I st)],[]⟩) (Sum.elim (fun q e σ=>e=.ret∧σ=⟨[(4,.I q)],[]⟩) (fun q e σ=>e=.exit 0∧σ=⟨[],[]⟩)) i rfl ?_ ?_
 ·rintro t o σ rfl h
  refine tg_ hC [.n 6] rfl ?_
  rcases Qq h with⟨f,h⟩|⟨f,h⟩
  ·obtain⟨m,k,h⟩:=Qc h
   obtain⟨p,l,h⟩:=Qc h
   refine Qa hC [.T,.n 15,.o (.row (QcY m)),.n 1,.o (.c false [.d] (.b p)),.n 2] rfl ⟨⟨⟨tt_,f⟩,(QA k)⟩,(Qm1 _ l)⟩ ?_
   refine bg_ h (fun a h=>Qa hC [.T,.n 9,.K [4] []] rfl ⟨tt_,a⟩ ?_) fun a h=>Qa hC [.F,.n 7,.K [0,1,7,8] []] rfl ⟨tt_,a⟩ ?_
   ·cases h
    exact QaH rfl (an_ rfl rfl)
   cases h
   exact QJ rfl rfl
  refine Qa hC [.F,.n 2,.K [] []] rfl ⟨tt_,f⟩ ?_
  cases h
  exact QK rfl (an_ rfl rfl)
 rcases j with(s | _)
 ·replace h:QaO s=some r:=h
  rintro e σ ⟨rfl,rfl⟩
  refine tg_ hC [.n 2] rfl ?_
  cases h
  exact d1_ rfl rfl tt_
 replace h:QaP=some r:=h
 rintro e σ ⟨rfl,rfl⟩
 refine tg_ hC [.n 8] rfl ?_
 cases h
 exact d1_ rfl rfl tt_
def QaQ (a:(List ByteArray)):Option Bool:=
 (Qbh a).bind fun b=>
 some (decide (0≤b))
theorem Qg1 (c){r}(h:QaQ c=some r):Qd prog 107 [.sl 1 (c.map QcY),.clo (.func 108) [] []] [] (Qj (.b r) []):=by
 refine Qd.walk 9 func107 rfl rfl rfl fun C hC=>?_
 obtain⟨e,a,h⟩:=Qc h
 refine Qa hC [.n 9,.cm (.fn) [] [] [] [.d,.d] [] (.I e),.n 5] rfl ⟨tt_,(QiE _ a)⟩ ?_
 cases h
 exact d1_ rfl rfl tt_
def Qjh (a:QM):Option Bool:=
 (Qdz a.Name).bind fun b=>
 bif b then
 bif (a.Kind != 2)then
 some true
 else
 (QaQ a.Names).bind fun c=>
 some (!c)
 else
 some false
def Qdo (a:Bool):Option Bool:=
 some a
def QeG (a:QM):Option Bool:=
 (Qjh a).bind (fun b=>Qdo b)
theorem Qoa (f){r}(h:QeG f=some r):Qd prog 105 [.loc 609 0 0] [(609,.var (Qy f))] (Qj (.b r) [(609,.var (Qy f))]):=by
 refine Qd.walk 16 func105 rfl rfl rfl fun C hC=>?_
 refine tg_ hC [.n 6] rfl ?_
 obtain⟨g,i,h⟩:=Qc h
 replace h:Qdo g=some r:=h
 refine AK.meetX (fun σ=>σ=⟨[(1,.b g)],[(609,.var (Qy f))]⟩) ?_ ?_
 ·replace h:=i
  obtain⟨l,j,h⟩:=Qc h
  refine Qa hC [.n 3,.o (.c false [.d] (.b l)),.n 1] rfl ⟨tt_,(Qe3 _ j)⟩ ?_
  refine bg_ h (fun a h=>Qa hC [.S 5 (.b true),.n 4] rfl (tc_ a) ?_) fun a h=>Qa hC [.S 5 (.b false),.n 12,.K [1] [609]] rfl (tc_ a) ?_
  ·rcases Qq h with⟨e,h⟩|⟨e,h⟩
   ·refine Qa hC [.S 9 (.b true),.n 8,.K [1] [609]] rfl (tc_ e) ?_
    cases h
    exact AK.met rfl
   obtain⟨m,k,h⟩:=Qc h
   refine Qa hC [.S 9 (.b false),.n 2,.cm (.fn) [] [] [] [.d,.d] [] (.b m),.n 5,.K [1] [609]] rfl ⟨(tc_ e),(Qg1 _ k)⟩ ?_
   cases h
   exact AK.met rfl
  cases h
  exact AK.met rfl
 rintro σ rfl
 replace h:Qdo g=some r:=h
 refine tg_ hC [.n 2] rfl ?_
 cases h
 exact d1_ rfl rfl ⟨rfl,tt_⟩
def Qgo (b:Qm)(c:Int)(d:Int)(e:QM)(f:Int):Option Int:=
 (QeF b c).bind fun g=>
 bif (!g)then
 some d
 else
 (QeG e).bind fun a=>
 bif (!a)then
 some f
 else
 some 0
theorem QpD (g i j k l){r}(h:Qgo g i j k l=some r):Qd prog 64 [.own 609 2] [(609,.var [.clo (.func 109) [] [.loc 610 0 0,.loc 611 0 0],.I j,.clo (.func 105) [] [.loc 612 0 0],.I l]),(610,.var (Qe g)),(611,.var (Qb i)),(612,.var (Qy k))] (Qj (.I r) [(609,.var [.clo (.func 109) [] [.loc 610 0 0,.loc 611 0 0],.I j,.clo (.func 105) [] [.loc 612 0 0],.I l]),(610,.var (Qe g)),(611,.var (Qb i)),(612,.var (Qy k))]):=by
 refine Qd.walk 18 func64 rfl rfl rfl fun C hC=>?_
 refine tg_ hC [.n 14] rfl ?_
 refine AK.loopN 3 (AK.rnd ?_)
 obtain⟨s,m,h⟩:=Qc h
 refine Qa hC [.n 2,.v .no [] (.b true),.n 10,.o (.any (.loc 609 0 0) none),.n 3,.O 4 (.var [.clo (.func 109) [] [.loc 610 0 0,.loc 611 0 0],.I j]),.n 6,.cm (.clo) [(609,610),(610,611)] [(610,609),(611,610)] [] [.d,.d] [(609,.var (Qe g)),(610,.var (Qb i))] (.b s),.n 3] rfl ⟨⟨⟨⟨tt_,rfl⟩,(fun σ e p _=>Stp.idxV rfl rfl (QD hC.n rfl) (e _ _ rfl) (e _ _ rfl) (Qp.es rfl) (p _ _ rfl) (by decide))⟩,rfl⟩,(Qn9 _ _ m)⟩ ?_
 refine bg_ h (fun c h=>Qa hC [.T,.n 13,.K [2] [609,610,611,612]] rfl ⟨tt_,c⟩ ?_) fun c h=>Qa hC [.F,.n 4,.v .no [] (.I 1),.n 2] rfl ⟨⟨tt_,c⟩,rfl⟩ ?_
 ·cases h
  exact d1_ rfl rfl ⟨rfl,rfl,rfl,rfl,tt_⟩
 refine AK.met (AK.rnd ?_)
 obtain⟨q,f,h⟩:=Qc h
 refine Qa hC [.n 2,.v .no [] (.b true),.n 10,.o (.any (.loc 609 0 2) none),.n 1,.kill 4,.n 2,.O 4 (.var [.clo (.func 105) [] [.loc 612 0 0],.I l]),.n 6,.cm (.clo) [(609,612)] [(612,609)] [] [.d] [(609,.var (Qy k))] (.b q),.n 3] rfl ⟨⟨⟨⟨tt_,rfl⟩,(fun σ e p _=>Stp.idxV rfl rfl (QD hC.n rfl) (e _ _ rfl) (e _ _ rfl) (Qp.es rfl) (p _ _ rfl) (by decide))⟩,rfl⟩,(Qoa _ f)⟩ ?_
 refine bg_ h (fun a h=>Qa hC [.T,.n 13,.K [2] [609,610,611,612]] rfl ⟨tt_,a⟩ ?_) fun a h=>Qa hC [.F,.n 4,.v .no [] (.I 2),.n 2] rfl ⟨⟨tt_,a⟩,rfl⟩ ?_
 ·cases h
  exact d1_ rfl rfl ⟨rfl,rfl,rfl,rfl,tt_⟩
 refine AK.met (AK.rnd ?_)
 refine Qa hC [.n 2,.v .no [] (.b false),.n 15] rfl ⟨tt_,rfl⟩ ?_
 cases h
 exact d1_ rfl rfl ⟨rfl,rfl,rfl,rfl,tt_⟩
def QfJ (a:Int)(b:QM)(c:Qm):Option Int:=
 (Qgo c a 8 b 8).bind fun d=>
 some d
theorem Qpk (b c a){r}(h:QfJ b c a=some r):Qd prog 104 [.I b,.agg (Qy c),.loc 609 0 0] [(609,.var (Qe a))] (Qj (.I r) [(609,.var (Qe a))]):=by
 refine Qd.walk 16 func104 rfl rfl rfl fun C hC=>?_
 obtain⟨f,e,h⟩:=Qc h
 refine Qa hC [.n 22,.v .no [] (.agg [.clo (.func 109) [] [.loc 609 0 0,.loc 3 0 0],.I 8]),.n 1,.v .no [] (.agg [.clo (.func 105) [] [.loc 4 0 0],.I 8]),.o (.any (.own 14 2) (some (.var [.clo (.func 109) [] [.loc 609 0 0,.loc 3 0 0],.I 8,.clo (.func 105) [] [.loc 4 0 0],.I 8]))),.cm (.fn) [(609,14),(610,609),(611,3),(612,4)] [(14,609),(609,610),(3,611),(4,612)] [] [.d] [(609,.var [.clo (.func 109) [] [.loc 610 0 0,.loc 611 0 0],.I 8,.clo (.func 105) [] [.loc 612 0 0],.I 8]),(610,.var (Qe a)),(611,.var (Qb b)),(612,.var (Qy c))] (.I f),.n 4] rfl ⟨⟨⟨⟨tt_,rfl⟩,rfl⟩,(fun σ g i hf=>Stp.buildAny rfl rfl (QD hC.n rfl) (Qp.es rfl) Qlh rfl (by decide) (by decide) (Qeg g rfl) rfl rfl (hf rfl))⟩,(QpD _ _ _ _ _ e)⟩ ?_
 cases h
 exact d1_ rfl rfl ⟨rfl,tt_⟩
def Qb1 (d:(List QM))(e:Qm)(a:Int):Option (Int⊕((Int×Int)⊕Unit)):=
 bif (decide (a<(d.length:Int)))then
 (idx d a).bind fun c=>
 (QfJ a c e).bind fun b=>
 bif (b != 0)then
 some (.inr (.inl (a,b)))
 else
 some (.inl (w64 (a+1)))
 else
 some (.inr (.inr ()))
def Qb2 (b:Int)(a:Int):Option (Int×Int):=
 some (b,a)
def Qb3 : Option (Int×Int):=
 some (0,0)
def Qc1 (a:(List QM))(b:Qm):Option (Int×Int):=
 (Qt (fun st=>Qb1 a b st) 0).bind (Sum.elim (fun q=>Qb2 q.1 q.2) (fun q=>Qb3))
theorem QlJ (g f){r}(h:Qc1 g f=some r):Qd prog 103 [.sl 7 (g.map Qy),.clo (.func 104) [] [.loc 609 0 0]] [(609,.var (Qe f))] (Qj (.tup [.I r.1,.I r.2]) [(609,.var (Qe f))]):=by
 refine Qd.walk 25 func103 rfl rfl rfl fun C hC=>?_
 refine Qa hC [.n 10,.o (.ln g.length),.n 4,.K [1,9,10,11] [609]] rfl ⟨tt_,Qg⟩ ?_
 obtain⟨l,i,h⟩:=Qc h
 refine AK.loop (body:=(fun st=>Qb1 g f st)) (fun st σ=>σ=⟨[(1,.clo (.func 104) [] [.loc 609 0 0]),(9,.sl 7 (g.map Qy)),(10,.I (g.length:Int)),(11,.I st)],[(609,.var (Qe f))]⟩) (Sum.elim (fun q e σ=>e=.ret∧σ=⟨[(4,.I q.1),(5,.I q.2)],[(609,.var (Qe f))]⟩) (fun q e σ=>e=.exit 0∧σ=⟨[],[(609,.var (Qe f))]⟩)) i rfl ?_ ?_
 ·rintro t o σ rfl h
  refine tg_ hC [.n 6] rfl ?_
  rcases Qq h with⟨a,h⟩|⟨a,h⟩
  ·obtain⟨c,j,h⟩:=Qc h
   obtain⟨m,k,h⟩:=Qc h
   refine Qa hC [.T,.n 7,.o (.row (Qy c)),.v .no [] (.agg (Qy c)),.n 3,.O 7 (.var (Qy c)),.n 6,.v .no [] (.agg (Qy c)),.cm (.clo) [(609,609)] [(609,609)] [] [.d,.d,.d] [(609,.var (Qe f))] (.I m),.n 9] rfl ⟨⟨⟨⟨⟨⟨tt_,a⟩,(QA j)⟩,rfl⟩,rfl⟩,rfl⟩,(Qpk _ _ _ k)⟩ ?_
   refine bg_ h (fun b h=>Qa hC [.T,.n 11,.K [4,5] [609]] rfl ⟨tt_,b⟩ ?_) fun b h=>Qa hC [.F,.n 7,.K [1,9,10,11] [609]] rfl ⟨tt_,b⟩ ?_
   ·cases h
    exact QaH rfl (an_ rfl rfl)
   cases h
   exact QJ rfl rfl
  refine Qa hC [.F,.n 2,.K [] [609]] rfl ⟨tt_,a⟩ ?_
  cases h
  exact QK rfl (an_ rfl rfl)
 rcases l with(⟨s,p⟩|_)
 ·replace h:Qb2 s p=some r:=h
  rintro e σ ⟨rfl,rfl⟩
  refine tg_ hC [.n 2] rfl ?_
  cases h
  exact d2_ rfl rfl rfl ⟨rfl,tt_⟩
 replace h:Qb3=some r:=h
 rintro e σ ⟨rfl,rfl⟩
 refine tg_ hC [.n 9] rfl ?_
 cases h
 exact d2_ rfl rfl rfl ⟨rfl,tt_⟩
def Qe4 (a:Qm):Option (Int×Int):=
 (Qc1 a.Colours a).bind fun b=>
 some (b.1,b.2)
theorem Qlr (a){r}(h:Qe4 a=some r):Qd prog 69 [.agg (Qe a)] [] (Qj (.tup [.I r.1,.I r.2]) []):=by
 refine Qd.walk 10 func69 rfl rfl rfl fun C hC=>?_
 obtain⟨c,b,h⟩:=Qc h
 refine Qa hC [.n 12,.cm (.fn) [(609,1)] [(1,609)] [] [.d,.d] [(609,.var (Qe a))] (.tup [.I c.1,.I c.2]),.n 7] rfl ⟨tt_,(QlJ _ _ b)⟩ ?_
 cases h
 exact d2_ rfl rfl rfl tt_
def Qhq (a:QG):Option Bool:=
 (Qdz a.Name).bind fun b=>
 some b
theorem Qqh (a){r}(h:Qhq a=some r):Qd prog 112 [.loc 609 0 0] [(609,.var (Qu a))] (Qj (.b r) [(609,.var (Qu a))]):=by
 refine Qd.walk 5 func112 rfl rfl rfl fun C hC=>?_
 obtain⟨f,e,h⟩:=Qc h
 refine Qa hC [.n 9,.o (.c false [.d] (.b f)),.n 4] rfl ⟨tt_,(Qe3 _ e)⟩ ?_
 cases h
 exact d1_ rfl rfl ⟨rfl,tt_⟩
def Qhr (a:QG)(b:QG):Option Bool:=
 some (Qgc a.Name b.Name)
theorem Qqi (c a){r}(h:Qhr c a=some r):Qd prog 111 [.agg (Qu c),.loc 609 0 0] [(609,.var (Qu a))] (Qj (.b r) [(609,.var (Qu a))]):=by
 refine Qd.walk 9 func111 rfl rfl rfl fun C hC=>?_
 refine tg_ hC [.n 17] rfl ?_
 cases h
 exact d1_ rfl rfl ⟨rfl,tt_⟩
def Qan (c:(List QG))(d:QG)(a:Int):Option (Int⊕(Int⊕Unit)):=
 bif (decide (a<(c.length:Int)))then
 (idx c a).bind fun e=>
 (Qhr e d).bind fun b=>
 bif b then
 some (.inr (.inl a))
 else
 some (.inl (w64 (a+1)))
 else
 some (.inr (.inr ()))
def Qao (a:Int):Option Int:=
 some a
def Qap : Option Int:=
 some (-1)
def QaB (a:(List QG))(b:QG):Option Int:=
 (Qt (fun st=>Qan a b st) 0).bind (Sum.elim (fun q=>Qao q) (fun q=>Qap))
theorem Qf2 (g c){r}(h:QaB g c=some r):Qd prog 181 [.sl 3 (g.map Qu),.clo (.func 111) [] [.loc 609 0 0]] [(609,.var (Qu c))] (Qj (.I r) [(609,.var (Qu c))]):=by
 refine Qd.walk 19 func181 rfl rfl rfl fun C hC=>?_
 refine Qa hC [.n 9,.o (.ln g.length),.n 4,.K [0,1,7,8] [609]] rfl ⟨tt_,Qg⟩ ?_
 obtain⟨k,i,h⟩:=Qc h
 refine AK.loop (body:=(fun st=>Qan g c st)) (fun st σ=>σ=⟨[(0,.sl 3 (g.map Qu)),(1,.clo (.func 111) [] [.loc 609 0 0]),(7,.I (g.length:Int)),(8,.I st)],[(609,.var (Qu c))]⟩) (Sum.elim (fun q e σ=>e=.ret∧σ=⟨[(4,.I q)],[(609,.var (Qu c))]⟩) (fun q e σ=>e=.exit 0∧σ=⟨[],[(609,.var (Qu c))]⟩)) i rfl ?_ ?_
 ·rintro t o σ rfl h
  refine tg_ hC [.n 6] rfl ?_
  rcases Qq h with⟨f,h⟩|⟨f,h⟩
  ·obtain⟨p,l,h⟩:=Qc h
   obtain⟨m,j,h⟩:=Qc h
   refine Qa hC [.T,.n 15,.o (.row (Qu p)),.v .no [] (.agg (Qu p)),.cm (.clo) [(609,609)] [(609,609)] [] [.d,.d] [(609,.var (Qu c))] (.b m),.n 2] rfl ⟨⟨⟨⟨tt_,f⟩,(QA l)⟩,rfl⟩,(Qqi _ _ j)⟩ ?_
   refine bg_ h (fun a h=>Qa hC [.T,.n 9,.K [4] [609]] rfl ⟨tt_,a⟩ ?_) fun a h=>Qa hC [.F,.n 7,.K [0,1,7,8] [609]] rfl ⟨tt_,a⟩ ?_
   ·cases h
    exact QaH rfl (an_ rfl rfl)
   cases h
   exact QJ rfl rfl
  refine Qa hC [.F,.n 2,.K [] [609]] rfl ⟨tt_,f⟩ ?_
  cases h
  exact QK rfl (an_ rfl rfl)
 rcases k with(s | _)
 ·replace h:Qao s=some r:=h
  rintro e σ ⟨rfl,rfl⟩
  refine tg_ hC [.n 2] rfl ?_
  cases h
  exact d1_ rfl rfl ⟨rfl,tt_⟩
 replace h:Qap=some r:=h
 rintro e σ ⟨rfl,rfl⟩
 refine tg_ hC [.n 8] rfl ?_
 cases h
 exact d1_ rfl rfl ⟨rfl,tt_⟩
def Qaq (a:(List QG))(b:QG):Option Bool:=
 (QaB a b).bind fun c=>
 some (decide (0≤c))
theorem Qfp (e a){r}(h:Qaq e a=some r):Qd prog 114 [.sl 3 (e.map Qu),.clo (.func 111) [] [.loc 609 0 0]] [(609,.var (Qu a))] (Qj (.b r) [(609,.var (Qu a))]):=by
 refine Qd.walk 9 func114 rfl rfl rfl fun C hC=>?_
 obtain⟨f,c,h⟩:=Qc h
 refine Qa hC [.n 9,.cm (.fn) [(609,609)] [(609,609)] [] [.d,.d] [(609,.var (Qu a))] (.I f),.n 5] rfl ⟨tt_,(Qf2 _ _ c)⟩ ?_
 cases h
 exact d1_ rfl rfl ⟨rfl,tt_⟩
def Qhs (b:Qm)(a:Int)(c:QG):Option Bool:=
 (chk (decide (0≤a)&&decide (0≤a.toNat)&&decide (a.toNat≤b.Places.length))).bind fun _=>
 (Qaq ((b.Places.drop 0).take (a.toNat-0)) c).bind fun d=>
 some (!d)
theorem Qqj (e f g){r}(h:Qhs e f g=some r):Qd prog 113 [.loc 609 0 0,.loc 610 0 0,.loc 611 0 0] [(609,.var (Qe e)),(610,.var (Qb f)),(611,.var [.clo (.func 111) [] [.loc 612 0 0]]),(612,.var (Qu g))] (Qj (.b r) [(609,.var (Qe e)),(610,.var (Qb f)),(611,.var [.clo (.func 111) [] [.loc 612 0 0]]),(612,.var (Qu g))]):=by
 refine Qd.walk 11 func113 rfl rfl rfl fun C hC=>?_
 obtain⟨c,h⟩:=Qas h
 obtain⟨k,j,h⟩:=Qc h
 refine tg_ hC [.n 6,.K [0,1,2,3] [609,610,611,612]] rfl ?_
 refine AK.draw2 Qp hC mixed [.N,.N,.N,.a (.any (.sl 3 (((e.Places.drop 0).take (f.toNat-0)).map Qu)) none) none false,.N,.a (.any (.b k) none) none false,.N,.m .s] [] [] [3] [609,610,611,612] rfl rfl rfl ⟨⟨tt_,(fun σ i l _=>Stp.sliceD rfl rfl (QD hC.n rfl) (i _ _ rfl) (Qp.es rfl) Bnd.no (Bnd.val (i _ _ rfl) (Qag (Qp8 c)) rfl) (Qag (Qp9 c)) (QdG (Qag (Qqa c)) (Nat.le_of_eq Qg.symm)) QsJ)⟩,(fun σ i l _=>Stp.callSame (md:=.cm (.fn) [(609,612)] [(612,609)] [] [.d,.d] [(609,.var (Qu g))] (.b k) [612]) Qp hC i l rfl ⟨⟨tt_,(Qfp _ _ j)⟩,⟨rfl,tt_⟩⟩)⟩ rfl (by kernel_rfl) rfl rfl rfl ?_
 refine tg_ hC [.n 2] rfl ?_
 cases h
 exact d1_ rfl rfl ⟨rfl,rfl,rfl,rfl,tt_⟩
def QbF (b:(List QM))(a:Int):Option Bool:=
 some ((decide (0≤a))&&(decide (a<(b.length:Int))))
theorem Qf6 (d c){r}(h:QbF d c=some r):Qd prog 116 [.sl 7 (d.map Qy),.I c] [] (Qj (.b r) []):=by
 refine Qd.walk 13 func116 rfl rfl rfl fun C hC=>?_
 refine tg_ hC [.n 6] rfl ?_
 refine AK.meetX (fun σ=>σ=⟨[(4,.b ((decide (0≤c))&&(decide (c<(d.length:Int)))))],[]⟩) ?_ ?_
 ·refine tg_ hC [.n 4] rfl ?_
  rcases Qz (decide (0≤c))with a | a
  ·refine Qa hC [.S 7 (.b true),.n 2,.o (.ln d.length),.n 4,.S 4 (.b ((decide (0≤c))&&(decide (c<(d.length:Int))))),.K [4] []] rfl ⟨⟨(tc_ a),Qg⟩,(congrArg V.b (Qat a rfl))⟩ ?_
   exact AK.met rfl
  refine Qa hC [.S 7 (.b false),.n 7,.S 4 (.b ((decide (0≤c))&&(decide (c<(d.length:Int))))),.K [4] []] rfl ⟨(tc_ a),(congrArg V.b (Qbm a rfl))⟩ ?_
  exact AK.met rfl
 rintro σ rfl
 refine tg_ hC [.n 2] rfl ?_
 cases h
 exact d1_ rfl rfl tt_
def Qht (a:Qm)(b:QG):Option Bool:=
 (QbF a.Colours b.Colour).bind fun c=>
 some c
theorem Qqk (a e){r}(h:Qht a e=some r):Qd prog 115 [.loc 609 0 0,.loc 610 0 0] [(609,.var (Qe a)),(610,.var (Qu e))] (Qj (.b r) [(609,.var (Qe a)),(610,.var (Qu e))]):=by
 refine Qd.walk 8 func115 rfl rfl rfl fun C hC=>?_
 obtain⟨g,f,h⟩:=Qc h
 refine Qa hC [.n 11,.o (.c false [.d,.d] (.b g)),.n 4] rfl ⟨tt_,(Qf6 _ _ f)⟩ ?_
 cases h
 exact d1_ rfl rfl ⟨rfl,rfl,tt_⟩
def Qhu (a:QG):Option Bool:=
 (Qfn a.First).bind fun b=>
 some b
theorem Qql (a){r}(h:Qhu a=some r):Qd prog 117 [.loc 609 0 0] [(609,.var (Qu a))] (Qj (.b r) [(609,.var (Qu a))]):=by
 refine Qd.walk 5 func117 rfl rfl rfl fun C hC=>?_
 obtain⟨f,e,h⟩:=Qc h
 refine Qa hC [.n 9,.o (.c false [.d] (.b f)),.n 4] rfl ⟨tt_,(Qor _ e)⟩ ?_
 cases h
 exact d1_ rfl rfl ⟨rfl,tt_⟩
def Qk9 (a:(List QM))(b:Int):Option (Bool×Qdl):=
 (QfU a).bind fun c=>
 bif ((!c.2)||((decide (b<0))||(decide ((a.length:Int)≤b))))then
 some (false,(Qdl.mk ([]:(List QM)) ([]:(List Int)) 0))
 else
 some (true,(Qdl.mk a c.1 b))
theorem Qtx (i e){r}(h:Qk9 i e=some r):Qd prog 162 [.sl 7 (i.map Qy),.I e] [] (Qj (.tup [.agg (QcB r.2),.b r.1]) []):=by
 refine Qd.walk 30 func162 rfl rfl rfl fun C hC=>?_
 obtain⟨j,k,h⟩:=Qc h
 refine Qa hC [.n 9,.o (.c false [.d] (.tup [.sl 1 (j.1.map Qb),.b j.2])),.n 9] rfl ⟨tt_,(Ql3 _ k)⟩ ?_
 refine AK.meetX (fun σ=>σ=⟨[(0,.sl 7 (i.map Qy)),(1,.I e),(4,.loc 4 0 0),(6,.sl 1 (j.1.map Qb)),(24,.b ((!j.2)||((decide (e<0))||(decide ((i.length:Int)≤e)))))],[(4,.var [.lit (.slice none 0 0),.lit (.slice none 0 0),.I 0])]⟩) ?_ ?_
 ·refine tg_ hC [.n 4] rfl ?_
  rcases Qz (!j.2)with f | f
  ·refine Qa hC [.S 15 (.b true),.n 10,.S 24 (.b ((!j.2)||((decide (e<0))||(decide ((i.length:Int)≤e))))),.K [0,1,4,6,24] [4]] rfl ⟨(tc_ f),(congrArg V.b (orT f rfl))⟩ ?_
   exact AK.met rfl
  refine Qa hC [.S 15 (.b false),.n 4] rfl (tc_ f) ?_
  rcases Qz (decide (e<0))with a | a
  ·refine Qa hC [.S 19 (.b true),.n 6,.S 24 (.b ((!j.2)||((decide (e<0))||(decide ((i.length:Int)≤e))))),.K [0,1,4,6,24] [4]] rfl ⟨(tc_ a),(congrArg V.b (orF f (orT a rfl)))⟩ ?_
   exact AK.met rfl
  refine Qa hC [.S 19 (.b false),.n 2,.o (.ln i.length),.n 3,.S 24 (.b ((!j.2)||((decide (e<0))||(decide ((i.length:Int)≤e))))),.K [0,1,4,6,24] [4]] rfl ⟨⟨(tc_ a),Qg⟩,(congrArg V.b (orF f (orF a rfl)))⟩ ?_
  exact AK.met rfl
 rintro σ rfl
 refine tg_ hC [.n 1] rfl ?_
 refine bg_ h (fun g h=>Qa hC [.T,.n 2,.v .no [some 7,some 1,none] (.agg (QcB (Qdl.mk ([]:(List QM)) ([]:(List Int)) 0))),.n 1,.O 4 (.var (QcB (Qdl.mk ([]:(List QM)) ([]:(List Int)) 0))),.n 5,.K [4,5] [4]] rfl ⟨⟨⟨tt_,g⟩,rfl⟩,rfl⟩ ?_) fun g h=>Qa hC [.F,.n 7,.v .no [] (.agg (QcB (Qdl.mk i j.1 e))),.n 1,.O 4 (.var (QcB (Qdl.mk i j.1 e))),.n 4,.K [4,5] [4]] rfl ⟨⟨⟨tt_,g⟩,rfl⟩,rfl⟩ ?_
 ·cases h
  exact AK.done (ex_ [_,_] (an_ (an_ (ex_ _ (ex_ _ (an_ rfl (an_ rfl (Or.inl (an_ (Qp.ag rfl) (an_ (Qp.sz rfl) rfl))))))) (an_ rfl tt_)) (QbL tt_)))
 cases h
 exact AK.done (ex_ [_,_] (an_ (an_ (ex_ _ (ex_ _ (an_ rfl (an_ rfl (Or.inl (an_ (Qp.ag rfl) (an_ (Qp.sz rfl) rfl))))))) (an_ rfl tt_)) (QbL tt_)))
def QgO (c:(List QM))(a:Int):Option Int:=
 (Qk9 c a).bind fun b=>
 bif (!b.1)then
 some 0
 else
 (idx b.2.sizes a).bind fun d=>
 some d
theorem Qm2 (i j){r}(h:QgO i j=some r):Qd prog 90 [.sl 7 (i.map Qy),.I j] [] (Qj (.I r) []):=by
 refine Qd.walk 20 func90 rfl rfl rfl fun C hC=>?_
 obtain⟨e,f,h⟩:=Qc h
 refine Qa hC [.n 9,.o (.c false [.d,.d] (.tup [.agg (QcB e.2),.b e.1])),.n 5,.O 5 (.var (QcB e.2)),.n 10] rfl ⟨⟨tt_,(Qtx _ _ f)⟩,rfl⟩ ?_
 rcases Qq h with⟨a,h⟩|⟨a,h⟩
 ·refine Qa hC [.T,.n 7] rfl ⟨tt_,a⟩ ?_
  cases h
  exact d1_ rfl rfl tt_
 obtain⟨k,g,h⟩:=Qc h
 refine Qa hC [.F,.n 7,.o (.row (Qb k)),.n 5] rfl ⟨⟨tt_,a⟩,(QA g)⟩ ?_
 cases h
 exact d1_ rfl rfl tt_
def QfK (a:(Int×Int))(b:Int):Option Bool:=
 some (decide (b≤a.1))
theorem Qpl (a c){r}(h:QfK a c=some r):Qd prog 120 [.agg (QL a),.loc 609 0 0] [(609,.var (Qb c))] (Qj (.b r) [(609,.var (Qb c))]):=by
 refine Qd.walk 8 func120 rfl rfl rfl fun C hC=>?_
 refine tg_ hC [.n 16] rfl ?_
 cases h
 exact d1_ rfl rfl ⟨rfl,tt_⟩
def QaR (c:QBg)(d:Int)(a:Int):Option (Int⊕(Int⊕Unit)):=
 bif (decide (a<(c.length:Int)))then
 (idx c a).bind fun e=>
 (QfK e d).bind fun b=>
 bif b then
 some (.inr (.inl a))
 else
 some (.inl (w64 (a+1)))
 else
 some (.inr (.inr ()))
def QaS (a:Int):Option Int:=
 some a
def QaT : Option Int:=
 some (-1)
def Qbi (a:QBg)(b:Int):Option Int:=
 (Qt (fun st=>QaR a b st) 0).bind (Sum.elim (fun q=>QaS q) (fun q=>QaT))
theorem QiF (g c){r}(h:Qbi g c=some r):Qd prog 182 [.sl 2 (g.map QL),.clo (.func 120) [] [.loc 609 0 0]] [(609,.var (Qb c))] (Qj (.I r) [(609,.var (Qb c))]):=by
 refine Qd.walk 19 func182 rfl rfl rfl fun C hC=>?_
 refine Qa hC [.n 9,.o (.ln g.length),.n 4,.K [0,1,7,8] [609]] rfl ⟨tt_,Qg⟩ ?_
 obtain⟨k,i,h⟩:=Qc h
 refine AK.loop (body:=(fun st=>QaR g c st)) (fun st σ=>σ=⟨[(0,.sl 2 (g.map QL)),(1,.clo (.func 120) [] [.loc 609 0 0]),(7,.I (g.length:Int)),(8,.I st)],[(609,.var (Qb c))]⟩) (Sum.elim (fun q e σ=>e=.ret∧σ=⟨[(4,.I q)],[(609,.var (Qb c))]⟩) (fun q e σ=>e=.exit 0∧σ=⟨[],[(609,.var (Qb c))]⟩)) i rfl ?_ ?_
 ·rintro t o σ rfl h
  refine tg_ hC [.n 6] rfl ?_
  rcases Qq h with⟨f,h⟩|⟨f,h⟩
  ·obtain⟨p,l,h⟩:=Qc h
   obtain⟨m,j,h⟩:=Qc h
   refine Qa hC [.T,.n 15,.o (.row (QL p)),.v .no [] (.agg (QL p)),.cm (.clo) [(609,609)] [(609,609)] [] [.d,.d] [(609,.var (Qb c))] (.b m),.n 2] rfl ⟨⟨⟨⟨tt_,f⟩,(QA l)⟩,rfl⟩,(Qpl _ _ j)⟩ ?_
   refine bg_ h (fun a h=>Qa hC [.T,.n 9,.K [4] [609]] rfl ⟨tt_,a⟩ ?_) fun a h=>Qa hC [.F,.n 7,.K [0,1,7,8] [609]] rfl ⟨tt_,a⟩ ?_
   ·cases h
    exact QaH rfl (an_ rfl rfl)
   cases h
   exact QJ rfl rfl
  refine Qa hC [.F,.n 2,.K [] [609]] rfl ⟨tt_,f⟩ ?_
  cases h
  exact QK rfl (an_ rfl rfl)
 rcases k with(s | _)
 ·replace h:QaS s=some r:=h
  rintro e σ ⟨rfl,rfl⟩
  refine tg_ hC [.n 2] rfl ?_
  cases h
  exact d1_ rfl rfl ⟨rfl,tt_⟩
 replace h:QaT=some r:=h
 rintro e σ ⟨rfl,rfl⟩
 refine tg_ hC [.n 8] rfl ?_
 cases h
 exact d1_ rfl rfl ⟨rfl,tt_⟩
def QaU (a:QBg)(b:Int):Option Bool:=
 (Qbi a b).bind fun c=>
 some (decide (0≤c))
theorem Qg2 (e a){r}(h:QaU e a=some r):Qd prog 119 [.sl 2 (e.map QL),.clo (.func 120) [] [.loc 609 0 0]] [(609,.var (Qb a))] (Qj (.b r) [(609,.var (Qb a))]):=by
 refine Qd.walk 9 func119 rfl rfl rfl fun C hC=>?_
 obtain⟨f,c,h⟩:=Qc h
 refine Qa hC [.n 9,.cm (.fn) [(609,609)] [(609,609)] [] [.d,.d] [(609,.var (Qb a))] (.I f),.n 5] rfl ⟨tt_,(QiF _ _ c)⟩ ?_
 cases h
 exact d1_ rfl rfl ⟨rfl,tt_⟩
def Qhv (b:Qm)(a:QG):Option Bool:=
 (QgO b.Colours a.Colour).bind fun c=>
 (QaU a.First c).bind fun d=>
 some (!d)
theorem Qqm (a e){r}(h:Qhv a e=some r):Qd prog 118 [.loc 609 0 0,.loc 610 0 0] [(609,.var (Qe a)),(610,.var (Qu e))] (Qj (.b r) [(609,.var (Qe a)),(610,.var (Qu e))]):=by
 refine Qd.walk 14 func118 rfl rfl rfl fun C hC=>?_
 obtain⟨f,g,h⟩:=Qc h
 obtain⟨j,i,h⟩:=Qc h
 refine Qa hC [.n 11,.o (.c false [.d,.d] (.I f)),.n 2,.O 3 (.var (Qb f)),.n 7,.cm (.fn) [(609,3)] [(3,609)] [] [.d,.d] [(609,.var (Qb f))] (.b j),.n 5] rfl ⟨⟨⟨tt_,(Qm2 _ _ g)⟩,rfl⟩,(Qg2 _ _ i)⟩ ?_
 cases h
 exact d1_ rfl rfl ⟨rfl,rfl,tt_⟩

end Go.Proofs
