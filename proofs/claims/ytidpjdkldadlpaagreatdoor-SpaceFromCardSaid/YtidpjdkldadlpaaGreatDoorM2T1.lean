/- What functions of the program do, as functions over plain data, and the walks that show it: printed by a program. -/
import Derived.Test.YtidpjdkldadlpaaGreatDoorM2V3
import Derived.Test.YtidpjdkldadlpaaGreatDoorProg
set_option linter.unusedVariables false
set_option linter.unusedSimpArgs false
set_option linter.unusedSectionVars false
set_option linter.deprecated false
set_option maxRecDepth 100000
set_option maxHeartbeats 4000000
noncomputable section
namespace Go.Proofs
open Go Go.RowKit Go.Vm Go.Proofs.Tryz
structure QJ where
 Name:ByteArray
 Kind:Int
 Lo:Int
 Hi:Int
 Names:(List ByteArray)
 First:Int
 Then:Int
structure QN where
 Name:ByteArray
 Colour:Int
 First:(List (Int×Int))
structure QaQ where
 Name:ByteArray
 Colour:Int
structure Qo where
 Kind:Int
 Num:Int
 Kids:(List Qo)
structure Qax where
 Place:Int
 Expr:Qo
structure QD where
 Name:ByteArray
 Vars:(List QaQ)
 Guard:Qo
 Join:Int
 Split:Int
 Ins:(List Qax)
 Outs:(List Qax)
 Cancel:(List Int)
 After:Int
 Many:(Int×Int×Int)
structure Qj where
 Colours:(List QJ)
 Places:(List QN)
 Tasks:(List QD)
 From:Int
 To:Int
structure Ql where
 Task:Int
 Vars:(List Int)
 Ins:(List Int)
 Outs:(List Int)
structure Qad where
 From:Int
 To:Int
 Mode:Ql
structure Q5 where
 States:(List (List (List (Int×Int))))
 Edges:(List Qad)
 Full:Bool
structure QX where
 net:Qj
 m:(List (List (Int×Int)))
 task:QD
 env:(List Int)
structure QaY where
 all:(List QJ)
 sizes:(List Int)
 k:Int
structure Qe0 where
 Kind:Int
 At:Int
def Qd7 (x:ByteArray):List V:=[.s x]
def Qe (x:Int):List V:=[.i .i64 x]
theorem QBp (l:List Int):∀r∈l.map Qe,∀v∈r,v.sca=true:=QDr (fun _=>rfl) l
def QBq (x:(List ByteArray)):List V:=[.sl 1 (x.map Qd7)]
def Qu (x:QJ):List V:=[.s x.Name,.i .i64 x.Kind,.i .i64 x.Lo,.i .i64 x.Hi,.sl 1 (x.Names.map Qd7),.i .i64 x.First,.i .i64 x.Then]
def QtP (x:(List QJ)):List V:=[.sl 7 (x.map Qu)]
def QF (x:(Int×Int)):List V:=[.i .i64 x.1,.i .i64 x.2]
def Qi (x:(List (Int×Int))):List V:=[.sl 2 (x.map QF)]
def Qq (x:QN):List V:=[.s x.Name,.i .i64 x.Colour,.sl 2 (x.First.map QF)]
def Qvq (x:(List QN)):List V:=[.sl 3 (x.map Qq)]
def QU (x:QaQ):List V:=[.s x.Name,.i .i64 x.Colour]
def Qch (x:(List QaQ)):List V:=[.sl 2 (x.map QU)]
mutual
def QsB : Qo→List V
 | ⟨x0,x1,x2⟩=>[.i .i64 x0,.i .i64 x1,.sl 3 (Qbq x2)]
def Qbq : List Qo→List (List V)
 | []=>[]
 | e::es=>QsB e::Qbq es
end
def Qs (x:Qo):List V:=[.i .i64 x.Kind,.i .i64 x.Num,.sl 3 (Qbq x.Kids)]
theorem Qye : ∀x:Qo,QsB x=Qs x
 | ⟨x0,x1,x2⟩=>by rw [QsB];rfl
theorem Qkt : ∀l:List Qo,Qbq l=l.map Qs
 | []=>by rw [Qbq];rfl
 | e::es=>by rw [Qbq,Qkt es,Qye];rfl
theorem Qku (l:List Qo):(Qbq l).length=l.length:=by rw [Qkt,Qid]
theorem QeB {l:List Qo}{j:Int}{x:Qo}(h:idx l j=some x):0≤j∧(Qbq l)[j.toNat]? = some (Qs x):=by rw [Qkt];exact QP h
def Q7 (x:Qax):List V:=[.i .i64 x.Place,.i .i64 x.Expr.Kind,.i .i64 x.Expr.Num,.sl 3 (Qbq x.Expr.Kids)]
def QBr (x:(List Qax)):List V:=[.sl 4 (x.map Q7)]
def QL (x:(List Int)):List V:=[.sl 1 (x.map Qe)]
def Qxm (x:(Int×Int×Int)):List V:=[.i .i64 x.1,.i .i64 x.2.1,.i .i64 x.2.2]
def Qh (x:QD):List V:=[.s x.Name,.sl 2 (x.Vars.map QU),.i .i64 x.Guard.Kind,.i .i64 x.Guard.Num,.sl 3 (Qbq x.Guard.Kids),.i .i64 x.Join,.i .i64 x.Split,.sl 4 (x.Ins.map Q7),.sl 4 (x.Outs.map Q7),.sl 1 (x.Cancel.map Qe),.i .i64 x.After,.i .i64 x.Many.1,.i .i64 x.Many.2.1,.i .i64 x.Many.2.2]
def QAr (x:(List QD)):List V:=[.sl 14 (x.map Qh)]
def Qd (x:Qj):List V:=[.sl 7 (x.Colours.map Qu),.sl 3 (x.Places.map Qq),.sl 14 (x.Tasks.map Qh),.i .i64 x.From,.i .i64 x.To]
def Qt (x:(List (List (Int×Int)))):List V:=[.sl 1 (x.map Qi)]
def Qk (x:Ql):List V:=[.i .i64 x.Task,.sl 1 (x.Vars.map Qe),.sl 1 (x.Ins.map Qe),.sl 1 (x.Outs.map Qe)]
def QS (x:Qad):List V:=[.i .i64 x.From,.i .i64 x.To,.i .i64 x.Mode.Task,.sl 1 (x.Mode.Vars.map Qe),.sl 1 (x.Mode.Ins.map Qe),.sl 1 (x.Mode.Outs.map Qe)]
def QB (x:Q5):List V:=[.sl 1 (x.States.map Qt),.sl 6 (x.Edges.map QS),.b x.Full]
def QaW (x:Int):List V:=[.i .u8 x]
def QZ (x:(List (List Int))):List V:=[.sl 1 (x.map QL)]
def Qz (x:QX):List V:=[.sl 7 (x.net.Colours.map Qu),.sl 3 (x.net.Places.map Qq),.sl 14 (x.net.Tasks.map Qh),.i .i64 x.net.From,.i .i64 x.net.To,.sl 1 (x.m.map Qi),.s x.task.Name,.sl 2 (x.task.Vars.map QU),.i .i64 x.task.Guard.Kind,.i .i64 x.task.Guard.Num,.sl 3 (Qbq x.task.Guard.Kids),.i .i64 x.task.Join,.i .i64 x.task.Split,.sl 4 (x.task.Ins.map Q7),.sl 4 (x.task.Outs.map Q7),.sl 1 (x.task.Cancel.map Qe),.i .i64 x.task.After,.i .i64 x.task.Many.1,.i .i64 x.task.Many.2.1,.i .i64 x.task.Many.2.2,.sl 1 (x.env.map Qe)]
def Q9 (x:QaY):List V:=[.sl 7 (x.all.map Qu),.sl 1 (x.sizes.map Qe),.i .i64 x.k]
def QAs (x:(List Ql)):List V:=[.sl 4 (x.map Qk)]
def Qdm (x:Qe0):List V:=[.i .i64 x.Kind,.i .i64 x.At]
def QfZ (fn:Nat):Qhe:=QD2 Tryz.f218 0 fn
def QaP (fn:Nat):Qhe:=QD2 Tryz.f65 0 fn
def QCz : Go.Shelf.Ren:=⟨fun | 20=>49 | n=>n,fun | 0=>0 | 3=>3 | 4=>4 | 22=>39 | n=>n,fun n=>n⟩
theorem QBs : Lays2.n20 Tryz.prog QCz where
 mixed:=by kernel_rfl
 f20:=Tryz.func49.trans (congrArg some (by kernel_rfl))
 t0:=Tryz.underlying0
 a0:=Tryz.isAgg0
 z0:=Tryz.sizeOf0
 v0:=Tryz.zeroValue0
 t3:=Tryz.underlying3
 a3:=Tryz.isAgg3
 z3:=Tryz.sizeOf3
 v3:=Tryz.zeroValue3
 t4:=Tryz.underlying4
 a4:=Tryz.isAgg4
 z4:=Tryz.sizeOf4
 v4:=Tryz.zeroValue4
 t22:=Tryz.underlying39
 a22:=Tryz.isAgg39
 z22:=Tryz.sizeOf39
 v22:=Tryz.zeroValue39
 i3:=by kernel_rfl
theorem QD7 (a0 a1 a2 b0 b1 b2:Int):EqT Tryz.prog 101 [.int .i64 a0,.int .i64 a1,.int .i64 a2] [.int .i64 b0,.int .i64 b1,.int .i64 b2] ((a0==b0)&&((a1==b1)&&(a2==b2))):=by
 refine⟨by kernel_rfl,fun w=>?_⟩
 have u3:=Tryz.underlying3
 have g3:=Tryz.isAgg3
 have z3:=Tryz.sizeOf3
 show(Op.equalIn (9999+1) 101 (.agg #[.int .i64 a0,.int .i64 a1,.int .i64 a2]) (.agg #[.int .i64 b0,.int .i64 b1,.int .i64 b2])).run Tryz.prog w=_
 rw [Op.equalIn]
 simp only [Sem.run_bind,run_underlying Tryz.underlying101,Result.andThen_ok]
 simp only [Std.Legacy.Range.forIn_eq_forIn_range',Std.Legacy.Range.size,Nat.sub_zero,Nat.add_sub_cancel,Nat.div_one,List.range'_succ,List.range'_zero,List.forIn_cons,List.forIn_nil]
 go_simp
 by_cases h0:a0=b0<;>by_cases h1:a1=b1<;>by_cases h2:a2=b2<;>simp [h0,h1,h2]
theorem QDh (a0 a1 b0 b1:Int):EqT Tryz.prog 59 [.int .i64 a0,.int .i64 a1] [.int .i64 b0,.int .i64 b1] ((a0==b0)&&(a1==b1)):=by
 refine⟨by kernel_rfl,fun w=>?_⟩
 have u3:=Tryz.underlying3
 have g3:=Tryz.isAgg3
 have z3:=Tryz.sizeOf3
 show(Op.equalIn (9999+1) 59 (.agg #[.int .i64 a0,.int .i64 a1]) (.agg #[.int .i64 b0,.int .i64 b1])).run Tryz.prog w=_
 rw [Op.equalIn]
 simp only [Sem.run_bind,run_underlying Tryz.underlying59,Result.andThen_ok]
 simp only [Std.Legacy.Range.forIn_eq_forIn_range',Std.Legacy.Range.size,Nat.sub_zero,Nat.add_sub_cancel,Nat.div_one,List.range'_succ,List.range'_zero,List.forIn_cons,List.forIn_nil]
 go_simp
 by_cases h0:a0=b0<;>by_cases h1:a1=b1<;>simp [h0,h1]
theorem QDu : QtO Tryz.prog 96 1=some (1,false,1):=by kernel_rfl
theorem QDv : QtO Tryz.prog 96 2=some (2,false,1):=by kernel_rfl
def QCA : Go.Shelf.Ren:=⟨fun | 157=>274 | 199=>288 | 229=>287 | 261=>294 | 311=>297 | 312=>298 | n=>n,fun | 0=>0 | 3=>3 | 4=>4 | 5=>5 | 9=>9 | 21=>21 | 31=>94 | 40=>275 | 46=>125 | 49=>292 | 51=>175 | 119=>273 | 141=>284 | 152=>280 | 154=>282 | 193=>288 | 194=>289 | 196=>291 | 198=>294 | 201=>297 | 226=>299 | 227=>300 | n=>n,fun | 0=>0 | 6=>1 | n=>n⟩
theorem QBt : Lays.n157 Tryz.prog QCA where
 mixed:=by kernel_rfl
 f157:=Tryz.func274.trans (congrArg some (by kernel_rfl))
 f199:=Tryz.func288.trans (congrArg some (by kernel_rfl))
 f229:=Tryz.func287.trans (congrArg some (by kernel_rfl))
 f261:=Tryz.func294.trans (congrArg some (by kernel_rfl))
 f311:=Tryz.func297.trans (congrArg some (by kernel_rfl))
 f312:=Tryz.func298.trans (congrArg some (by kernel_rfl))
 t0:=Tryz.underlying0
 a0:=Tryz.isAgg0
 z0:=Tryz.sizeOf0
 v0:=Tryz.zeroValue0
 t3:=Tryz.underlying3
 a3:=Tryz.isAgg3
 z3:=Tryz.sizeOf3
 v3:=Tryz.zeroValue3
 t4:=Tryz.underlying4
 a4:=Tryz.isAgg4
 z4:=Tryz.sizeOf4
 v4:=Tryz.zeroValue4
 t5:=Tryz.underlying5
 a5:=Tryz.isAgg5
 z5:=Tryz.sizeOf5
 v5:=Tryz.zeroValue5
 t9:=Tryz.underlying9
 a9:=Tryz.isAgg9
 z9:=Tryz.sizeOf9
 v9:=Tryz.zeroValue9
 t21:=Tryz.underlying21
 a21:=Tryz.isAgg21
 z21:=Tryz.sizeOf21
 v21:=Tryz.zeroValue21
 t31:=Tryz.underlying94
 a31:=Tryz.isAgg94
 z31:=Tryz.sizeOf94
 v31:=Tryz.zeroValue94
 t40:=Tryz.underlying275
 a40:=Tryz.isAgg275
 z40:=Tryz.sizeOf275
 v40:=Tryz.zeroValue275
 t46:=Tryz.underlying125
 a46:=Tryz.isAgg125
 z46:=Tryz.sizeOf125
 v46:=Tryz.zeroValue125
 t49:=Tryz.underlying292
 a49:=Tryz.isAgg292
 z49:=Tryz.sizeOf292
 v49:=Tryz.zeroValue292
 t51:=Tryz.underlying175
 a51:=Tryz.isAgg175
 z51:=Tryz.sizeOf175
 v51:=Tryz.zeroValue175
 t119:=Tryz.underlying273
 a119:=Tryz.isAgg273
 z119:=Tryz.sizeOf273
 t141:=Tryz.underlying284
 a141:=Tryz.isAgg284
 z141:=Tryz.sizeOf284
 v141:=Tryz.zeroValue284
 t152:=Tryz.underlying280
 a152:=Tryz.isAgg280
 z152:=Tryz.sizeOf280
 v152:=Tryz.zeroValue280
 t154:=Tryz.underlying282
 a154:=Tryz.isAgg282
 z154:=Tryz.sizeOf282
 v154:=Tryz.zeroValue282
 t193:=Tryz.underlying288
 a193:=Tryz.isAgg288
 z193:=Tryz.sizeOf288
 v193:=Tryz.zeroValue288
 t194:=Tryz.underlying289
 a194:=Tryz.isAgg289
 z194:=Tryz.sizeOf289
 v194:=Tryz.zeroValue289
 t196:=Tryz.underlying291
 a196:=Tryz.isAgg291
 z196:=Tryz.sizeOf291
 v196:=Tryz.zeroValue291
 t198:=Tryz.underlying294
 a198:=Tryz.isAgg294
 z198:=Tryz.sizeOf294
 v198:=Tryz.zeroValue294
 t201:=Tryz.underlying297
 a201:=Tryz.isAgg297
 z201:=Tryz.sizeOf297
 v201:=Tryz.zeroValue297
 t226:=Tryz.underlying299
 a226:=Tryz.isAgg299
 z226:=Tryz.sizeOf299
 v226:=Tryz.zeroValue299
 t227:=Tryz.underlying300
 a227:=Tryz.isAgg300
 z227:=Tryz.sizeOf300
 v227:=Tryz.zeroValue300
 g0:=by kernel_rfl
 g6:=by kernel_rfl
theorem QtQ : QtN Tryz.prog 177 .u64=true:=by kernel_rfl
theorem QvB : QtN Tryz.prog 3 .i64=true:=by kernel_rfl
theorem QAt : QtN Tryz.prog 5 .u8=true:=by kernel_rfl
theorem Qdg : Qdr Tryz.prog 3 (V.i .i64) (Value.int .i64):=Qdr.int (by kernel_rfl)
theorem QsC : Qdr Tryz.prog 9 V.s Value.string:=Qdr.str (by kernel_rfl)
theorem mixed : Tryz.prog.follows .mixedOrders=true:=by kernel_rfl
theorem QeN : Qi3 Tryz.prog 118=some (3,3):=by kernel_rfl
theorem Qy7 : Qi3 Tryz.prog 122=some (3,39):=by kernel_rfl
theorem Qpg : Qi3 Tryz.prog 197=some (9,4):=by kernel_rfl
theorem Qml : Qi3 Tryz.prog 71=some (3,3):=by kernel_rfl
theorem QDi : Qi3 Tryz.prog 76=some (9,3):=by kernel_rfl
theorem QEO : Qxg Tryz.prog 39=true:=by kernel_rfl
def QCB : Go.Shelf.Ren:=⟨fun | 125=>74 | 128=>120 | 129=>121 | 189=>48 | 215=>163 | 216=>117 | 257=>73 | 294=>111 | 295=>112 | 296=>113 | 297=>114 | 298=>115 | 299=>116 | 300=>118 | 301=>119 | 328=>158 | 329=>159 | 330=>160 | 331=>161 | 332=>162 | 343=>219 | n=>n,fun | 0=>0 | 3=>3 | 4=>4 | 5=>5 | 9=>9 | 28=>39 | 46=>125 | 51=>175 | 53=>177 | 131=>73 | 182=>167 | 183=>168 | 218=>199 | 222=>203 | 228=>235 | 229=>236 | n=>n,fun n=>n⟩
theorem QBu : Lays.n189 Tryz.prog QCB where
 mixed:=by kernel_rfl
 f125:=Tryz.func74.trans (congrArg some (by kernel_rfl))
 f128:=Tryz.func120.trans (congrArg some (by kernel_rfl))
 f129:=Tryz.func121.trans (congrArg some (by kernel_rfl))
 f189:=Tryz.func48.trans (congrArg some (by kernel_rfl))
 f215:=Tryz.func163.trans (congrArg some (by kernel_rfl))
 f216:=Tryz.func117.trans (congrArg some (by kernel_rfl))
 f257:=Tryz.func73.trans (congrArg some (by kernel_rfl))
 f294:=Tryz.func111.trans (congrArg some (by kernel_rfl))
 f295:=Tryz.func112.trans (congrArg some (by kernel_rfl))
 f296:=Tryz.func113.trans (congrArg some (by kernel_rfl))
 f297:=Tryz.func114.trans (congrArg some (by kernel_rfl))
 f298:=Tryz.func115.trans (congrArg some (by kernel_rfl))
 f299:=Tryz.func116.trans (congrArg some (by kernel_rfl))
 f300:=Tryz.func118.trans (congrArg some (by kernel_rfl))
 f301:=Tryz.func119.trans (congrArg some (by kernel_rfl))
 f328:=Tryz.func158.trans (congrArg some (by kernel_rfl))
 f329:=Tryz.func159.trans (congrArg some (by kernel_rfl))
 f330:=Tryz.func160.trans (congrArg some (by kernel_rfl))
 f331:=Tryz.func161.trans (congrArg some (by kernel_rfl))
 f332:=Tryz.func162.trans (congrArg some (by kernel_rfl))
 f343:=Tryz.func219.trans (congrArg some (by kernel_rfl))
 t0:=Tryz.underlying0
 a0:=Tryz.isAgg0
 z0:=Tryz.sizeOf0
 v0:=Tryz.zeroValue0
 t3:=Tryz.underlying3
 a3:=Tryz.isAgg3
 z3:=Tryz.sizeOf3
 v3:=Tryz.zeroValue3
 t4:=Tryz.underlying4
 a4:=Tryz.isAgg4
 z4:=Tryz.sizeOf4
 v4:=Tryz.zeroValue4
 t5:=Tryz.underlying5
 a5:=Tryz.isAgg5
 z5:=Tryz.sizeOf5
 v5:=Tryz.zeroValue5
 t9:=Tryz.underlying9
 a9:=Tryz.isAgg9
 z9:=Tryz.sizeOf9
 v9:=Tryz.zeroValue9
 t28:=Tryz.underlying39
 a28:=Tryz.isAgg39
 z28:=Tryz.sizeOf39
 v28:=Tryz.zeroValue39
 t46:=Tryz.underlying125
 a46:=Tryz.isAgg125
 z46:=Tryz.sizeOf125
 v46:=Tryz.zeroValue125
 t51:=Tryz.underlying175
 a51:=Tryz.isAgg175
 z51:=Tryz.sizeOf175
 v51:=Tryz.zeroValue175
 t53:=Tryz.underlying177
 a53:=Tryz.isAgg177
 z53:=Tryz.sizeOf177
 v53:=Tryz.zeroValue177
 t131:=Tryz.underlying73
 a131:=Tryz.isAgg73
 z131:=Tryz.sizeOf73
 v131:=Tryz.zeroValue73
 t182:=Tryz.underlying167
 a182:=Tryz.isAgg167
 z182:=Tryz.sizeOf167
 v182:=Tryz.zeroValue167
 t183:=Tryz.underlying168
 a183:=Tryz.isAgg168
 z183:=Tryz.sizeOf168
 v183:=Tryz.zeroValue168
 t218:=Tryz.underlying199
 a218:=Tryz.isAgg199
 z218:=Tryz.sizeOf199
 v218:=Tryz.zeroValue199
 t222:=Tryz.underlying203
 a222:=Tryz.isAgg203
 z222:=Tryz.sizeOf203
 v222:=Tryz.zeroValue203
 t228:=Tryz.underlying235
 a228:=Tryz.isAgg235
 z228:=Tryz.sizeOf235
 v228:=Tryz.zeroValue235
 t229:=Tryz.underlying236
 a229:=Tryz.isAgg236
 z229:=Tryz.sizeOf236
 v229:=Tryz.zeroValue236
theorem QD8 : Tryz.prog.underlying 145=some (.slice 39):=by kernel_rfl
theorem QBv : Tryz.prog.underlying 157=some (.slice 5):=by kernel_rfl
theorem QEP : Tryz.prog.underlying 38=some (.slice 61):=by kernel_rfl
theorem QEQ : Tryz.prog.underlying 39=some (.slice 3):=by kernel_rfl
theorem QER : Tryz.prog.underlying 61=some (.slice 59):=by kernel_rfl
theorem QkZ : QiM Tryz.prog 3 ((V.i .i64) 0):=QiM.one (v:=.int .i64 0) (by kernel_rfl)
theorem QES : QiM Tryz.prog 39 ((fun x=>V.sl 1 (x.map Qe)) ([]:(List Int))):=QiM.sl (by kernel_rfl)
theorem QCC : QiM Tryz.prog 4 (V.b false):=QiM.one (v:=.bool false) (by kernel_rfl)
theorem QFo : Qat Tryz.prog 3=some [.i .i64 0]:=by kernel_rfl
theorem QFp : Qat Tryz.prog 5=some [.i .u8 0]:=by kernel_rfl
theorem QFq : Qat Tryz.prog 9=some [.s (⟨#[]⟩:ByteArray)]:=by kernel_rfl
theorem QET : Qat Tryz.prog 26=some [.lit (.slice none 0 0),.lit (.slice none 0 0),.lit (.slice none 0 0),.i .i64 0,.i .i64 0]:=by kernel_rfl
theorem QEU : Qat Tryz.prog 33=some [.lit (.slice none 0 0),.lit (.slice none 0 0),.b false]:=by kernel_rfl
theorem QEV : Qat Tryz.prog 38=some [.lit (.slice none 0 0)]:=by kernel_rfl
theorem QDj : Qat Tryz.prog 39=some [.lit (.slice none 0 0)]:=by kernel_rfl
theorem QEW : Qat Tryz.prog 41=some [.i .i64 0,.lit (.slice none 0 0),.lit (.slice none 0 0),.lit (.slice none 0 0)]:=by kernel_rfl
theorem QEX : Qat Tryz.prog 43=some [.i .i64 0,.i .i64 0,.i .i64 0,.lit (.slice none 0 0),.lit (.slice none 0 0),.lit (.slice none 0 0)]:=by kernel_rfl
theorem QEY : Qat Tryz.prog 44=some [.i .i64 0]:=by kernel_rfl
theorem QEZ : Qat Tryz.prog 48=some [.lit (.slice none 0 0)]:=by kernel_rfl
theorem QE0 : Qat Tryz.prog 59=some [.i .i64 0,.i .i64 0]:=by kernel_rfl
theorem QE1 : Qat Tryz.prog 61=some [.lit (.slice none 0 0)]:=by kernel_rfl
theorem QE2 : Qat Tryz.prog 71=some [.lit (.map none)]:=by kernel_rfl
theorem QE3 : Qat Tryz.prog 78=some [.lit (.slice none 0 0),.lit (.slice none 0 0),.lit (.slice none 0 0),.i .i64 0,.i .i64 0,.i .i64 0,.lit (.map none),.lit (.slice none 0 0),.lit (.slice none 0 0),.b false]:=by kernel_rfl
theorem QE4 : Qat Tryz.prog 83=some [.s (⟨#[]⟩:ByteArray),.i .i64 0,.lit (.slice none 0 0)]:=by kernel_rfl
theorem QE5 : Qat Tryz.prog 93=some [.i .i64 0,.i .i64 0,.lit (.slice none 0 0)]:=by kernel_rfl
theorem QE6 : Qat Tryz.prog 96=some [.s (⟨#[]⟩:ByteArray),.i .i64 0,.i .i64 0,.i .i64 0,.lit (.slice none 0 0),.i .i64 0,.i .i64 0]:=by kernel_rfl
theorem QE7 : Qat Tryz.prog 98=some [.i .i64 0,.i .i64 0,.i .i64 0,.lit (.slice none 0 0)]:=by kernel_rfl
theorem QD9 : Qat Tryz.prog 101=some [.i .i64 0,.i .i64 0,.i .i64 0]:=by kernel_rfl
theorem QEa : Qat Tryz.prog 103=some [.s (⟨#[]⟩:ByteArray),.lit (.slice none 0 0),.i .i64 0,.i .i64 0,.lit (.slice none 0 0),.i .i64 0,.i .i64 0,.lit (.slice none 0 0),.lit (.slice none 0 0),.lit (.slice none 0 0),.i .i64 0,.i .i64 0,.i .i64 0,.i .i64 0]:=by kernel_rfl
theorem QEb : Qat Tryz.prog 107=some [.s (⟨#[]⟩:ByteArray),.i .i64 0]:=by kernel_rfl
theorem QEc : Qat Tryz.prog 128=some [.i .i64 0,.i .i64 0]:=by kernel_rfl
theorem QEd : Qat Tryz.prog 135=some [.lit (.slice none 0 0),.lit (.slice none 0 0),.lit (.slice none 0 0),.i .i64 0,.i .i64 0,.lit (.slice none 0 0),.s (⟨#[]⟩:ByteArray),.lit (.slice none 0 0),.i .i64 0,.i .i64 0,.lit (.slice none 0 0),.i .i64 0,.i .i64 0,.lit (.slice none 0 0),.lit (.slice none 0 0),.lit (.slice none 0 0),.i .i64 0,.i .i64 0,.i .i64 0,.i .i64 0,.lit (.slice none 0 0)]:=by kernel_rfl
theorem QEe : Qat Tryz.prog 145=some [.lit (.slice none 0 0)]:=by kernel_rfl
theorem QnT : Qat Tryz.prog 180=some [.lit (.nilFunc),.i .i64 0]:=by kernel_rfl
theorem QEf : Qat Tryz.prog 211=some [.lit (.nilFunc)]:=by kernel_rfl
theorem QEg : Qat Tryz.prog 216=some [.lit (.nilFunc)]:=by kernel_rfl
theorem QEh : Qat Tryz.prog 225=some [.lit (.slice none 0 0),.lit (.slice none 0 0),.i .i64 0]:=by kernel_rfl
theorem QEi : Qat Tryz.prog 245=some [.lit (.nilFunc)]:=by kernel_rfl
def tab : Tab:={ ag:=[(3,false),(4,false),(9,false),(22,false),(23,false),(24,false),(26,true),(27,false),(30,false),(31,false),(33,true),(38,false),(39,false),(41,true),(43,true),(44,false),(48,false),(59,true),(61,false),(71,false),(76,false),(83,true),(91,false),(93,true),(94,false),(96,true),(98,true),(99,false),(100,false),(101,true),(103,true),(107,true),(118,false),(128,true),(135,true),(138,false),(145,false),(180,true),(211,false),(216,false),(219,false),(225,true),(245,false)],sz:=[(3,1),(4,1),(26,5),(30,1),(31,1),(33,3),(38,1),(39,1),(41,4),(43,6),(44,1),(48,1),(59,2),(61,1),(71,1),(83,3),(93,3),(96,7),(98,4),(101,3),(103,14),(107,2),(128,2),(135,21),(145,1),(180,2),(211,1),(216,1),(225,3),(245,1)],fo:=[(26,[0,1,2,3,4]),(33,[0,1,2]),(41,[0,1,2,3]),(43,[0,1,2]),(78,[0,5,6,7]),(83,[0,1,2]),(93,[0,1,2]),(96,[0,1,2,3,4,5,6]),(98,[0,1]),(103,[0,1,2,5,6,7,8,9,10,11]),(107,[0,1]),(135,[0,5,6,20]),(180,[0,1]),(225,[0,1,2])],sp:=[(26,[(0,1),(1,1),(2,1),(3,1),(4,1)]),(33,[(0,1),(1,1),(2,1)]),(41,[(0,1),(1,1),(2,1),(3,1)]),(43,[(0,1),(1,1),(2,4)]),(78,[(0,5),(5,1),(6,1),(7,3)]),(83,[(0,1),(1,1),(2,1)]),(93,[(0,1),(1,1),(2,1)]),(96,[(0,1),(1,1),(2,1),(3,1),(4,1),(5,1),(6,1)]),(98,[(0,1),(1,3)]),(103,[(0,1),(1,1),(2,3),(5,1),(6,1),(7,1),(8,1),(9,1),(10,1),(11,3)]),(128,[(0,1),(1,1)]),(135,[(0,5),(5,1),(6,14),(20,1)]),(180,[(0,1),(1,1)]),(225,[(0,1),(1,1),(2,1)])],es:=[(22,(96,7,80)),(23,(83,3,48)),(24,(103,14,200)),(30,(38,1,24)),(31,(43,6,96)),(38,(61,1,24)),(39,(3,1,8)),(48,(41,4,80)),(61,(59,2,16)),(91,(93,3,40)),(94,(9,1,16)),(99,(98,4,48)),(100,(107,2,24)),(145,(39,1,24)),(157,(5,1,1)),(205,(180,2,16)),(230,(3,1,8))],ar:=[(59,(2,1)),(101,(3,1))],zv:=[(3,[.i .i64 0]),(5,[.i .u8 0]),(9,[.s (⟨#[]⟩:ByteArray)]),(26,[.lit (.slice none 0 0),.lit (.slice none 0 0),.lit (.slice none 0 0),.i .i64 0,.i .i64 0]),(33,[.lit (.slice none 0 0),.lit (.slice none 0 0),.b false]),(38,[.lit (.slice none 0 0)]),(39,[.lit (.slice none 0 0)]),(41,[.i .i64 0,.lit (.slice none 0 0),.lit (.slice none 0 0),.lit (.slice none 0 0)]),(43,[.i .i64 0,.i .i64 0,.i .i64 0,.lit (.slice none 0 0),.lit (.slice none 0 0),.lit (.slice none 0 0)]),(44,[.i .i64 0]),(48,[.lit (.slice none 0 0)]),(59,[.i .i64 0,.i .i64 0]),(61,[.lit (.slice none 0 0)]),(71,[.lit (.map none)]),(78,[.lit (.slice none 0 0),.lit (.slice none 0 0),.lit (.slice none 0 0),.i .i64 0,.i .i64 0,.i .i64 0,.lit (.map none),.lit (.slice none 0 0),.lit (.slice none 0 0),.b false]),(83,[.s (⟨#[]⟩:ByteArray),.i .i64 0,.lit (.slice none 0 0)]),(93,[.i .i64 0,.i .i64 0,.lit (.slice none 0 0)]),(96,[.s (⟨#[]⟩:ByteArray),.i .i64 0,.i .i64 0,.i .i64 0,.lit (.slice none 0 0),.i .i64 0,.i .i64 0]),(98,[.i .i64 0,.i .i64 0,.i .i64 0,.lit (.slice none 0 0)]),(101,[.i .i64 0,.i .i64 0,.i .i64 0]),(103,[.s (⟨#[]⟩:ByteArray),.lit (.slice none 0 0),.i .i64 0,.i .i64 0,.lit (.slice none 0 0),.i .i64 0,.i .i64 0,.lit (.slice none 0 0),.lit (.slice none 0 0),.lit (.slice none 0 0),.i .i64 0,.i .i64 0,.i .i64 0,.i .i64 0]),(107,[.s (⟨#[]⟩:ByteArray),.i .i64 0]),(128,[.i .i64 0,.i .i64 0]),(135,[.lit (.slice none 0 0),.lit (.slice none 0 0),.lit (.slice none 0 0),.i .i64 0,.i .i64 0,.lit (.slice none 0 0),.s (⟨#[]⟩:ByteArray),.lit (.slice none 0 0),.i .i64 0,.i .i64 0,.lit (.slice none 0 0),.i .i64 0,.i .i64 0,.lit (.slice none 0 0),.lit (.slice none 0 0),.lit (.slice none 0 0),.i .i64 0,.i .i64 0,.i .i64 0,.i .i64 0,.lit (.slice none 0 0)]),(145,[.lit (.slice none 0 0)]),(180,[.lit (.nilFunc),.i .i64 0]),(211,[.lit (.nilFunc)]),(216,[.lit (.nilFunc)]),(225,[.lit (.slice none 0 0),.lit (.slice none 0 0),.i .i64 0]),(245,[.lit (.nilFunc)])],sb:=[9],bo:=[4],cc:=[],en:=[7,8,9,10,12,13,14,15,16,17,18,19,20,21,22,23,24,25,26,27,30,31,32,33,34,35,36,37,38,39,40,41,42,43,44,45,46,47,48,49,50,51,52,58,59,60,61,62,63,64,65,66,67,68,69,70,71,72,75,76,77,78,79,89,90,91,92,93,94,95,96,97,98,99,100,101,102,103,104,105,106,107,108,109,110,122,123,124,125,126,127,128,129,130,131,132,133,134,135,144,145,146,147,148,149,150,151,152,153,154,155,156,157,164,165,166,167,168,169,170,171,172,173,174,175,176,177,178,179,180,181,182,183,184,185,186,187,188,189,190,191,192,193,194,195,196,197,198,199,200,213,214,215,216,217,218,220,221,222,223,224,225,226,227,228,229,230,231,232,233,234,235,236,237,238,239,240,241,242,243,244,245,246,252,253,254,255,256,257,258,259,260,261,268,269,270,271,272,273,274,275,276,277,285,286,289,290,291,292,293,295,296] }
theorem Qp : Qds Tryz.prog tab:=Tab.ok (by kernel_rfl) (Qca.2 ⟨QFo,Qca.2 ⟨QFp,Qca.2 ⟨QFq,Qca.2 ⟨QET,Qca.2 ⟨QEU,Qca.2 ⟨QEV,Qca.2 ⟨QDj,Qca.2 ⟨QEW,Qca.2 ⟨QEX,Qca.2 ⟨QEY,Qca.2 ⟨QEZ,Qca.2 ⟨QE0,Qca.2 ⟨QE1,Qca.2 ⟨QE2,Qca.2 ⟨QE3,Qca.2 ⟨QE4,Qca.2 ⟨QE5,Qca.2 ⟨QE6,Qca.2 ⟨QE7,Qca.2 ⟨QD9,Qca.2 ⟨QEa,Qca.2 ⟨QEb,Qca.2 ⟨QEc,Qca.2 ⟨QEd,Qca.2 ⟨QEe,Qca.2 ⟨QnT,Qca.2 ⟨QEf,Qca.2 ⟨QEg,Qca.2 ⟨QEh,Qca.2 ⟨QEi,fun _ h=>(by cases h)⟩⟩⟩⟩⟩⟩⟩⟩⟩⟩⟩⟩⟩⟩⟩⟩⟩⟩⟩⟩⟩⟩⟩⟩⟩⟩⟩⟩⟩⟩)
theorem Qa {C:Ctx}{Q:Exit→St→Prop}{n:Nat}{pt pt1:Pt}{ks ks1:List Fr}{σ σ1:St}{φ:Prop}(hC:QeZ Tryz.prog C n)(ds:List Dir)(e:Vm.go Tryz.prog C tab n ds pt ks σ True=some ⟨pt1,ks1,σ1,φ⟩)(hφ:φ)(h:AK Tryz.prog C Q pt1 ks1 σ1):AK Tryz.prog C Q pt ks σ:=AK.go Qp hC ds e hφ h
abbrev QBg := List (Int×Int)
abbrev QMk := List QBg
abbrev QLL := List (List Int)
abbrev QSB := List (ByteArray×Bool)
theorem tt_ : True:=trivial
theorem an_ {a b:Prop}(x:a)(y:b):a∧b:=⟨x,y⟩
theorem ex_ {α:Sort _}{p:α→Prop}(w:α)(h:p w):∃x,p x:=⟨w,h⟩
end Go.Proofs
namespace Go.Vm
open Go Go.RowKit
noncomputable abbrev Dir.K (a b:List Nat):Dir:=.keep a b
noncomputable abbrev Dir.S (a:Nat)(b:V):Dir:=.say a b
noncomputable abbrev Dir.O (a:Nat)(b:Ob):Dir:=.sayO a b
noncomputable abbrev Dir.T:Dir:=.br true
noncomputable abbrev Dir.F:Dir:=.br false
noncomputable abbrev Dw.N:Dw:=.a .no none false
noncomputable abbrev V.I (n:Int):V:=.i .i64 n
end Go.Vm
namespace Go.Proofs
open Go Go.RowKit Go.Vm Go.Proofs.Tryz
theorem bg_ {α:Type}{c:Bool}{x y:Option α}{r:α}{G:Prop}(h:(bif c then x else y)=some r)(f:c=true→x=some r→G)(g:c=false→y=some r→G):G:=by
 cases c
 ·exact g rfl h
 exact f rfl h
theorem cb_ {a b:Bool}(h:a=b):V.b a=V.b b:=congrArg V.b h
theorem tc_ {a b:Bool}(h:a=b):True∧V.b a=V.b b:=⟨trivial,congrArg V.b h⟩
def QEj : Exit→Bool
 | .normal=>true
 | .ret=>true
 | _=>false
theorem d1_ {C:Ctx}{t:Nat}{r:V}{outs:List (Nat×Ob)}{σ:St}{e:Exit}(he:QEj e=true)(h:Go.Vm.look σ.fr t=some r)(hs:Qhf σ.hp outs):AK Tryz.prog C (QyE Tryz.prog [.tmp t] (Gives r outs)) (.x e) [] σ:=by
 cases e<;>first | exact AK.done ⟨[r],⟨h,trivial⟩,gives hs⟩|cases he
theorem d2_ {C:Ctx}{t u:Nat}{r s:V}{outs:List (Nat×Ob)}{σ:St}{e:Exit}(he:QEj e=true)(h:Go.Vm.look σ.fr t=some r)(k:Go.Vm.look σ.fr u=some s)(hs:Qhf σ.hp outs):AK Tryz.prog C (QyE Tryz.prog [.tmp t,.tmp u] (Gives (.tup [r,s]) outs)) (.x e) [] σ:=by
 cases e<;>first | exact AK.done ⟨[r,s],⟨h,k,trivial⟩,gives hs⟩|cases he
theorem tg_ {C:Ctx}{Q:Exit→St→Prop}{n:Nat}{pt pt1:Pt}{ks ks1:List Fr}{σ σ1:St}(hC:QeZ Tryz.prog C n)(ds:List Dir)(e:Vm.go Tryz.prog C tab n ds pt ks σ True=some ⟨pt1,ks1,σ1,True⟩)(h:AK Tryz.prog C Q pt1 ks1 σ1):AK Tryz.prog C Q pt ks σ:=AK.go Qp hC ds e trivial h
theorem QaX {c:Bool}{β:Type}{f:Unit→Option β}{r:β}(h:(chk c).bind f=some r):c=true∧f ()=some r:=by
 obtain⟨_,k,h⟩:=Qb h
 exact⟨QyH k,h⟩
abbrev QFr (a0 a1:V):List V:=[.J,.J,a0,.J,.J,.J,.J,a1,.J,.J,.J,.J,.J]
abbrev Qra (a0:V):List V:=[.J,.J,a0,.J,.J,.J,.J,.J,.J,.J,.J,.J,.J]
abbrev QFs (a0 a1 a2 a3 a4 a5 a6 a7 a8:V):List V:=[.J,.J,.J,.J,a0,a1,a2,a3,a4,.J,a5,a6,a7,.J,.J,.J,.J,.J,.J,.J,.J,.J,.J,.J,.J,.J,.J,.J,.J,.J,.J,.J,.J,.J,.J,.J,.J,.J,.J,.J,.J,.J,.J,.J,.J,.J,.J,.J,.J,.J,.J,.J,.J,.J,a8,.J,.J,.J,.J,.J,.J,.J,.J,.J,.J,.J,.J,.J,.J,.J,.J,.J,.J,.J,.J,.J,.J,.J,.J,.J,.J,.J,.J,.J,.J,.J,.J,.J,.J,.J,.J,.J,.J,.J,.J,.J,.J,.J,.J,.J,.J,.J,.J,.J,.J,.J,.J,.J,.J]
abbrev Qd4 (a0 a1 a2 a3 a4 a5 a6 a7:V):List V:=[.J,.J,.J,.J,a0,a1,a2,a3,a4,.J,a5,a6,a7,.J,.J,.J,.J,.J,.J,.J,.J,.J,.J,.J,.J,.J,.J,.J,.J,.J,.J,.J,.J,.J,.J,.J,.J,.J,.J,.J,.J,.J,.J,.J,.J,.J,.J,.J,.J,.J,.J,.J,.J,.J,.J,.J,.J,.J,.J,.J,.J,.J,.J,.J,.J,.J,.J,.J,.J,.J,.J,.J,.J,.J,.J,.J,.J,.J,.J,.J,.J,.J,.J,.J,.J,.J,.J,.J,.J,.J,.J,.J,.J,.J,.J,.J,.J,.J,.J,.J,.J,.J,.J,.J,.J,.J,.J,.J,.J]
def Qvr  : Option Qj:=
 some (Qj.mk ([(QJ.mk (⟨#[110]⟩:ByteArray) 2 0 0 ([(⟨#[107]⟩:ByteArray)]:List ByteArray) 0 0)]:List QJ) ([(QN.mk (⟨#[97]⟩:ByteArray) 0 ([]:QBg)),(QN.mk (⟨#[98]⟩:ByteArray) 0 ([]:QBg))]:List QN) ([(QD.mk (⟨#[116]⟩:ByteArray) ([]:(List QaQ)) (Qo.mk 1 1 ([]:(List Qo))) 1 1 ([(Qax.mk 0 (Qo.mk 1 0 ([]:(List Qo))))]:List Qax) ([(Qax.mk 1 (Qo.mk 1 0 ([]:(List Qo))))]:List Qax) ([]:(List Int)) 0 (0,0,0))]:List QD) 0 1)
theorem Qxn  {r:Qj}(h:Qvr  = some r):Qc prog 21 [] [] (Gives (.agg (Qd r)) []):=by
 refine Qc.walk 21 func21 rfl rfl rfl fun C hC=>?_
 refine Qa hC [.n 7,.v .no [none,none,some 3] (.agg (Qs (Qo.mk 1 0 ([]:(List Qo))))),.n 2,.O 1 (.var (Qs (Qo.mk 1 0 ([]:(List Qo))))),.n 4,.v .no [none,none,some 3] (.agg (Qs (Qo.mk 1 1 ([]:(List Qo))))),.n 2,.O 2 (.var (Qs (Qo.mk 1 1 ([]:(List Qo))))),.n 4,.v (.bd []) [] (.sl 1 (([(⟨#[107]⟩:ByteArray)]:List ByteArray).map Qd7)),.v .no [] (.agg (Qu (QJ.mk (⟨#[110]⟩:ByteArray) 2 0 0 ([(⟨#[107]⟩:ByteArray)]:List ByteArray) 0 0))),.v (.bd []) [] (.sl 7 (([(QJ.mk (⟨#[110]⟩:ByteArray) 2 0 0 ([(⟨#[107]⟩:ByteArray)]:List ByteArray) 0 0)]:List QJ).map Qu)),.v .no [none,none,some 2] (.agg (Qq (QN.mk (⟨#[97]⟩:ByteArray) 0 ([]:QBg)))),.v .no [none,none,some 2] (.agg (Qq (QN.mk (⟨#[98]⟩:ByteArray) 0 ([]:QBg)))),.v (.bd []) [] (.sl 3 (([(QN.mk (⟨#[97]⟩:ByteArray) 0 ([]:QBg)),(QN.mk (⟨#[98]⟩:ByteArray) 0 ([]:QBg))]:List QN).map Qq)),.v .no [] (.agg (Qs (Qo.mk 1 1 ([]:(List Qo))))),.v .no [] (.agg (Qs (Qo.mk 1 0 ([]:(List Qo))))),.v .no [] (.agg (Q7 (Qax.mk 0 (Qo.mk 1 0 ([]:(List Qo)))))),.v (.bd []) [] (.sl 4 (([(Qax.mk 0 (Qo.mk 1 0 ([]:(List Qo))))]:List Qax).map Q7)),.v .no [] (.agg (Qs (Qo.mk 1 0 ([]:(List Qo))))),.v .no [] (.agg (Q7 (Qax.mk 1 (Qo.mk 1 0 ([]:(List Qo)))))),.v (.bd []) [] (.sl 4 (([(Qax.mk 1 (Qo.mk 1 0 ([]:(List Qo))))]:List Qax).map Q7)),.v .no [none,some 2,none,none,none,none,none,none,none,some 1,none,none,none,none] (.agg (Qh (QD.mk (⟨#[116]⟩:ByteArray) ([]:(List QaQ)) (Qo.mk 1 1 ([]:(List Qo))) 1 1 ([(Qax.mk 0 (Qo.mk 1 0 ([]:(List Qo))))]:List Qax) ([(Qax.mk 1 (Qo.mk 1 0 ([]:(List Qo))))]:List Qax) ([]:(List Int)) 0 (0,0,0)))),.v (.bd []) [] (.sl 14 (([(QD.mk (⟨#[116]⟩:ByteArray) ([]:(List QaQ)) (Qo.mk 1 1 ([]:(List Qo))) 1 1 ([(Qax.mk 0 (Qo.mk 1 0 ([]:(List Qo))))]:List Qax) ([(Qax.mk 1 (Qo.mk 1 0 ([]:(List Qo))))]:List Qax) ([]:(List Int)) 0 (0,0,0))]:List QD).map Qh)),.v .no [] (.agg (Qd (Qj.mk ([(QJ.mk (⟨#[110]⟩:ByteArray) 2 0 0 ([(⟨#[107]⟩:ByteArray)]:List ByteArray) 0 0)]:List QJ) ([(QN.mk (⟨#[97]⟩:ByteArray) 0 ([]:QBg)),(QN.mk (⟨#[98]⟩:ByteArray) 0 ([]:QBg))]:List QN) ([(QD.mk (⟨#[116]⟩:ByteArray) ([]:(List QaQ)) (Qo.mk 1 1 ([]:(List Qo))) 1 1 ([(Qax.mk 0 (Qo.mk 1 0 ([]:(List Qo))))]:List Qax) ([(Qax.mk 1 (Qo.mk 1 0 ([]:(List Qo))))]:List Qax) ([]:(List Int)) 0 (0,0,0))]:List QD) 0 1))),.n 1,.O 0 (.var (Qd (Qj.mk ([(QJ.mk (⟨#[110]⟩:ByteArray) 2 0 0 ([(⟨#[107]⟩:ByteArray)]:List ByteArray) 0 0)]:List QJ) ([(QN.mk (⟨#[97]⟩:ByteArray) 0 ([]:QBg)),(QN.mk (⟨#[98]⟩:ByteArray) 0 ([]:QBg))]:List QN) ([(QD.mk (⟨#[116]⟩:ByteArray) ([]:(List QaQ)) (Qo.mk 1 1 ([]:(List Qo))) 1 1 ([(Qax.mk 0 (Qo.mk 1 0 ([]:(List Qo))))]:List Qax) ([(Qax.mk 1 (Qo.mk 1 0 ([]:(List Qo))))]:List Qax) ([]:(List Int)) 0 (0,0,0))]:List QD) 0 1))),.n 3,.K [0] [0]] rfl ⟨⟨⟨⟨⟨⟨⟨⟨⟨⟨⟨⟨⟨⟨⟨⟨⟨⟨⟨⟨⟨tt_,rfl⟩,rfl⟩,rfl⟩,rfl⟩,rfl⟩,rfl⟩,rfl⟩,rfl⟩,rfl⟩,rfl⟩,rfl⟩,rfl⟩,rfl⟩,rfl⟩,rfl⟩,rfl⟩,rfl⟩,rfl⟩,rfl⟩,rfl⟩,rfl⟩ ?_
 cases h
 exact AK.done (ex_ [_] (an_ (an_ (ex_ _ (ex_ _ (an_ rfl (an_ rfl (Or.inl (an_ (Qp.ag rfl) (an_ (Qp.sz rfl) rfl))))))) tt_) (gives tt_)))
def Qa0 (a:QBg):Option QBg:=
 (chk (decide (([]:List (Int×Int)).length+a.length≤4294967296))).bind fun _=>
 some (([]:List (Int×Int))++a)
theorem Qgt (a){r}(h:Qa0 a=some r):Qc prog 42 [.sl 2 (a.map QF)] [] (Gives (.own 600 r.length) [(600,.arr 2 (r.map QF))]):=by
 refine Qc.walk 8 func42 rfl rfl rfl fun C hC=>?_
 unfold Qa0 at h
 refine tg_ hC [.n 9] rfl ?_
 refine AK.eqNil rfl rfl rfl (QO hC.n rfl) rfl rfl QER ?_ ?_
 ·intro b
  replace h:some ([]:List (Int×Int))=some r:=by simpa [chk,List.map_eq_nil_iff.1 b] using h
  refine Qa hC [.n 10,.adopt 2 600 2,.O 600 (.arr 2 (([]:List (Int×Int)).map QF)),.S 2 (.own 600 ([]:List (Int×Int)).length)] rfl ⟨⟨tt_,rfl⟩,rfl⟩ ?_
  cases h
  exact d1_ rfl rfl ⟨rfl,tt_⟩
 obtain⟨c,h⟩:=QaX h
 refine Qa hC [.n 8,.O 5 (.arr 2 (([]:List (Int×Int)).map QF)),.S 5 (.own 5 ([]:List (Int×Int)).length),.n 1,.app ((([]:List (Int×Int))++a).map QF) (([]:List (Int×Int))++a).length,.n 4,.K [2] [5],.ren 5 600] rfl ⟨⟨⟨tt_,rfl⟩,rfl⟩,⟨Qf,QbP c Qf,QaZ,QcP Qf⟩⟩ ?_
 cases h
 exact d1_ rfl rfl ⟨rfl,tt_⟩
def QdG (a:QBg):Option Unit:=
 some ()
theorem Qle (a){r}(h:QdG a=some r):Qc prog 110 [.map 617] [(617,.map (QA V.I V.I a))] (Gives (.clo (.func 157) [] [.loc 1 0 0]) [(1,.var [.map 617]),(617,.map (QA V.I V.I a))]):=by
 refine Qc.walk 4 func110 rfl rfl rfl fun C hC=>?_
 refine tg_ hC [.n 13] rfl ?_
 cases h
 exact d1_ rfl rfl ⟨rfl,rfl,tt_⟩
def QcQ (a:(List Int))(b:Int):Option (List Int):=
 (chk (decide (a.length+([b]:List Int).length≤4294967296))).bind fun _=>
 some (a++([b]:List Int))
theorem Qi6 (lpl lpf:Nat)(a:(List Int))(c:Int){r:(List Int)}(h:QcQ a c=some r):QnS prog lpl (QfZ lpf) (QFr (.loc 618 0 0) (.I c)) [(617,.lp lpl (QfZ lpf) (Qra (.loc 618 0 0)) 0),(618,.var [.own 615 a.length]),(615,.arr 1 (a.map Qe))] (Gives (.b true) [(615,.arr 1 (r.map Qe)),(617,.lp lpl (QfZ lpf) (Qra (.loc 618 0 0)) 0),(618,.var [.own 615 r.length])]):=by
 refine QnS.walk (b:=617) 13 rfl rfl fun C hC=>?_
 refine tg_ hC [.n 3] rfl ?_
 refine AK.done (an_ rfl (ex_ _ (an_ rfl ?_)))
 obtain⟨d,h⟩:=QaX h
 refine Qa hC [.n 4,.v (.bd []) [] (.sl 1 (([c]:List Int).map Qe)),.app ((a++([c]:List Int)).map Qe) (a++([c]:List Int)).length,.n 1,.O 618 (.var [.own 615 (a++([c]:List Int)).length]),.n 2,.K [] [615,617,618]] rfl ⟨⟨⟨tt_,rfl⟩,⟨Qf,QbP d Qf,QaZ,QcP Qf⟩⟩,rfl⟩ ?_
 cases h
 refine AK.done ?_
 exact ex_ _ (an_ rfl (gives ⟨rfl,rfl,rfl,tt_⟩))
theorem Qkv (lpl lpf:Nat)(a:(List Int))(c:QBg)(hlen:a.length+c.length≤4294967296):Qc prog 157 [.clo (.yield lpl) [] [],.loc 619 0 0] [(617,.lp lpl (QfZ lpf) (Qra (.loc 618 0 0)) 0),(618,.var [.own 615 a.length]),(615,.arr 1 (a.map Qe)),(619,.var [.map 620]),(620,.map (QA V.I V.I c))] (fun v hs=>∃r:List Int,r.Perm (a++c.map Prod.fst)∧Gives (.tup []) [(615,.arr 1 (r.map Qe)),(617,.lp lpl (QfZ lpf) (Qra (.loc 618 0 0)) 0),(618,.var [.own 615 r.length]),(619,.var [.map 620]),(620,.map (QA V.I V.I c))] v hs):=by
 refine Qc.walk 14 func157 rfl rfl rfl fun C hC=>?_
 refine tg_ hC [.n 3] rfl ?_
 refine AK.openMap (b:=620) Qdg rfl fun i j L4 l o=>?_
 refine Qa hC [.x (fun σ=>(σ.set 5 (.itr i j #[] none)).put 5 (.loc 5 0 0)),.n 3,.K [0,5] [5,615,617,618,619,620]] rfl ⟨tt_,(Stp.range (b:=620) rfl rfl (QO hC.n rfl) rfl rfl QeN rfl)⟩ ?_
 have hL0:Qbp L4 #[]=L4:=by simp [Qbp]
 have w:(a++(Qbp L4 #[]).map (fun q=>q.2.1)).Perm (a++c.map Prod.fst):=by
  rw [hL0]
  refine List.Perm.append_left a ?_
  have:=o.map Prod.fst
  rwa [List.map_map]at this
 refine AK.range (body:=QAo) (fun (_:Nat) seen σ=>∃(cur:Option MapEntry) (st:List Int),(st++(Qbp L4 seen).map (fun q=>q.2.1)).Perm (a++c.map Prod.fst)∧σ=⟨[(0,.clo (.yield lpl) [] []),(5,.loc 5 0 0)],[(5,.itr i j seen cur),(615,.arr 1 (st.map Qe)),(617,.lp lpl (QfZ lpf) (Qra (.loc 618 0 0)) 0),(618,.var [.own 615 st.length]),(619,.var [.map 620]),(620,.mapX i j (QhG V.I V.I L4) (QA V.I V.I c))]⟩) (fun (q:Empty) _ _=>False) (fun _ e σ=>∃st:List Int,st.Perm (a++c.map Prod.fst)∧e=.exit 0∧σ=⟨[],[(615,.arr 1 (st.map Qe)),(617,.lp lpl (QfZ lpf) (Qra (.loc 618 0 0)) 0),(618,.var [.own 615 st.length]),(619,.var [.map 620]),(620,.mapX i j (QhG V.I V.I L4) (QA V.I V.I c))]⟩) l o (QBo c 0) (ex_ _ (ex_ a (an_ w rfl))) ?_ ?_
 ·rintro A seen σ ⟨cur,k,hpp,rfl⟩ hex
  refine tg_ hC [.n 2] rfl ?_
  refine AK.nextT (b:=5) (m:=620) rfl rfl rfl (QO hC.n rfl) rfl rfl rfl rfl ?_ ?_
  ·intro hleft
   refine tg_ hC [.n 7,.K [] [615,617,618,619,620]] rfl ?_
   exact AK.done (Or.inl (an_ hleft (an_ (fun h=>(by cases h)) (ex_ k (an_ (by simpa [hleft] using hpp) (an_ rfl rfl))))))
  intro y u B s
  have hpk:=(Qsr l s).map (fun q=>q.2.1)
  have t:((k++[u])++(Qbp L4 (seen.push y.born)).map (fun q=>q.2.1)).Perm (a++c.map Prod.fst):=List.Perm.trans (by simpa using (List.Perm.append_left k hpk).symm) hpp
  have z:k.length+([u]:List Int).length≤4294967296:=by
   have:=t.length_eq
   simp at this ⊢
   omega
  have p:QcQ k u=some (k++[u]):=by
   unfold QcQ
   rw [Qb5 z];rfl
  obtain⟨f,hxe⟩:∃x,x=k++[u]:=⟨_,rfl⟩
  rw [←hxe]at p t
  refine Qa hC [.n 10,.x (fun σ=>σ.put 8 (.tup [.I u,.I B])),.n 8,.x (fun σ=>(σ.after [615] [(615,.arr 1 (f.map Qe)),(617,.lp lpl (QfZ lpf) (Qra (.loc 618 0 0)) 0),(618,.var [.own 615 f.length])]).put 12 (.b true)),.n 6,.K [0,5] [5,615,617,618,619,620]] rfl ⟨⟨tt_,(Stp.entryT (b:=5) (m:=620) rfl rfl (QO hC.n rfl) rfl s rfl rfl)⟩,(Stp.yieldV (b:=617) (M:=[(617,617),(618,618),(615,615)]) (N:=[(615,615),(617,617),(618,618)]) (dead:=[615]) (ms:=[.d,.d,.d,.d,.d,.d,.d,.d,.d,.d,.d,.d,.d]) (outs:=[(615,.arr 1 (f.map Qe)),(617,.lp lpl (QfZ lpf) (Qra (.loc 618 0 0)) 0),(618,.var [.own 615 f.length])]) (r:=.b true) rfl rfl rfl rfl rfl rfl rfl (QO hC.n rfl) hC.g rfl rfl (Qi6 _ _ _ _ p))⟩ ?_
  exact AK.done (Or.inr (ex_ _ (an_ s (Or.inl (ex_ (A+1) (an_ rfl (an_ rfl (ex_ _ (ex_ f (an_ t rfl))))))))))
 rintro e σ ⟨k,hpp,rfl,rfl⟩
 refine tg_ hC [.n 1] rfl ?_
 refine AK.closeMap (b:=620) rfl ?_
 refine tg_ hC [.K [] [615,617,618,619,620]] rfl ?_
 refine AK.done ?_
 exact ex_ [] (an_ tt_ (ex_ k (an_ hpp (gives ⟨rfl,rfl,rfl,rfl,rfl,tt_⟩))))
theorem Qm2 (a:QBg)(hlen:a.length≤4294967296):Qc prog 218 [.lit (.slice none 0 0),.clo (.func 157) [] [.loc 617 0 0]] [(617,.var [.map 618]),(618,.map (QA V.I V.I a))] (fun v hs=>∃r:List Int,r.Perm (a.map Prod.fst)∧Gives (.own 600 r.length) [(600,.arr 1 (r.map Qe)),(617,.var [.map 618]),(618,.map (QA V.I V.I a))] v hs):=by
 refine Qc.walkR 13 func218 rfl ntmps218 rfl fun C hC hR=>?_
 refine tg_ hC [.n 13,.K [2,4,6] [2,617,618]] rfl ?_
 refine Qa hC [.adoptO 2 0 605 1,.O 605 (.arr 1 (([]:List Int).map Qe)),.O 2 (.var [.own 605 ([]:List Int).length])] rfl ⟨⟨tt_,rfl⟩,rfl⟩ ?_
 refine AK.rangeFE (ι:=List Int) (Φ:=fun x=>x.Perm (a.map Prod.fst)) 614 [2] [(617,614),(618,2),(615,605),(619,617),(620,618)] [(605,615),(614,617),(2,618),(617,619),(618,620)] [605] [.d,.d] QfZ hC hR (fun _=>rfl) rfl rfl rfl rfl fun lpl lpf=>?_
 refine ex_ (fun b:List Int=>[(615,.arr 1 (b.map Qe)),(617,.lp lpl (QfZ lpf) (Qra (.loc 618 0 0)) 0),(618,.var [.own 615 b.length]),(619,.var [.map 620]),(620,.map (QA V.I V.I a))]) (ex_ (fun _=>.tup []) (ex_ (fun b=>_) (ex_ _ (ex_ _ (an_ rfl (an_ rfl (an_ (Qkv _ _ ([]:List Int) a (by simpa using hlen)) fun b=>ex_ _ (ex_ (Qra (.loc 2 0 0)) (ex_ 0 (an_ rfl (an_ rfl (an_ (bne_iff_ne.1 (show(0 != 1)=true from rfl)) fun hpp=>?_))))))))))))
 refine QD1 rfl ?_
 refine tg_ hC [.n 9,.K [4] [605,617,618],.ren 605 600,.K [4] [600,617,618]] rfl ?_
 exact AK.done (ex_ [_] (an_ (an_ rfl tt_) (ex_ b (an_ hpp (gives ⟨rfl,rfl,rfl,tt_⟩)))))
theorem Qp2 (a:QBg)(hlen:a.length≤4294967296):Qc prog 156 [.clo (.func 157) [] [.loc 617 0 0]] [(617,.var [.map 618]),(618,.map (QA V.I V.I a))] (fun v hs=>∃r:List Int,r.Perm (a.map Prod.fst)∧Gives (.own 600 r.length) [(600,.arr 1 (r.map Qe)),(617,.var [.map 618]),(618,.map (QA V.I V.I a))] v hs):=by
 refine Qc.walk 5 func156 rfl rfl rfl fun C hC=>?_
 refine tg_ hC [.n 8] rfl ?_
 refine AK.callE (ι:=List Int) (Φ:=fun x=>x.Perm (a.map Prod.fst)) [(617,617),(618,618)] [(4,600),(617,617),(618,618)] [] [.d,.d] (fun b=>[(600,.arr 1 (b.map Qe)),(617,.var [.map 618]),(618,.map (QA V.I V.I a))]) (fun b=>(.own 600 b.length)) (fun b=>_) rfl hC (QbN.fn rfl rfl rfl) rfl (QO hC.n rfl) rfl rfl (Qm2 a hlen) (fun b=>ex_ _ rfl) fun b hpp=>?_
 refine tg_ hC [.n 4,.K [2] [4,617,618],.ren 4 600,.K [2] [600,617,618]] rfl ?_
 exact AK.done (ex_ [_] (an_ (an_ rfl tt_) (ex_ b (an_ hpp (gives ⟨rfl,rfl,rfl,tt_⟩)))))
def Qbg (l:List Int):Option (List Int):=(chk (decide (l.length<4611686018427387904))).bind fun _=>some (QeA l)
theorem QdH (l){r}(h:Qbg l=some r):Qc prog 48 [.own 617 l.length] [(617,.arr 1 (l.map Qe))] (Gives (.tup []) [(617,.arr 1 (r.map Qe))]):=by
 obtain⟨_,a,h⟩:=Qb h
 cases h
 exact Qzz QBu l (Q8 (QyH a))
def Qi7 (a:QBg):Option (List Int):=
 (chk (decide (a.length≤4294967296))).bind fun _=>
 some (QeA (a.map Prod.fst))
theorem Qrb (a){r}(h:Qi7 a=some r):Qc prog 109 [.clo (.func 157) [] [.loc 617 0 0]] [(617,.var [.map 618]),(618,.map (QA V.I V.I a))] (Gives (.own 600 r.length) [(600,.arr 1 (r.map Qe)),(617,.var [.map 618]),(618,.map (QA V.I V.I a))]):=by
 refine Qc.walk 9 func109 rfl rfl rfl fun C hC=>?_
 obtain⟨_,hlen,h⟩:=Qb h
 replace hlen:=Q8 (QyH hlen)
 cases h
 refine tg_ hC [.n 8] rfl ?_
 refine AK.callE (ι:=List Int) (Φ:=fun x=>x.Perm (a.map Prod.fst)) [(617,617),(618,618)] [(5,600),(617,617),(618,618)] [] [.d] (fun b=>[(600,.arr 1 (b.map Qe)),(617,.var [.map 618]),(618,.map (QA V.I V.I a))]) (fun b=>(.own 600 b.length)) (fun b=>_) rfl hC (QbN.fn rfl rfl rfl) rfl (QO hC.n rfl) rfl rfl (Qp2 a hlen) (fun b=>ex_ _ rfl) fun b hpp=>?_
 have e:Qbg b=some (QeA (a.map Prod.fst)):=by
  unfold Qbg
  rw [Qb5 (by have:=hpp.length_eq;simp at this;omega),QAp hpp];rfl
 have c:(QeA (a.map Prod.fst)).length=b.length:=by rw [Ql3,hpp.length_eq]
 refine Qa hC [.n 6,.cm (.fn) [(617,5)] [(5,617)] [] [.d] [(617,.arr 1 (((QeA (a.map Prod.fst))).map Qe))] (.tup []),.S 3 (.own 5 (QeA (a.map Prod.fst)).length),.S 5 (.own 5 (QeA (a.map Prod.fst)).length),.S 6 (.own 5 (QeA (a.map Prod.fst)).length),.n 9,.K [2] [5,617,618],.ren 5 600,.K [2] [600,617,618]] rfl ⟨⟨⟨⟨tt_,(QdH _ e)⟩,(by simp [c])⟩,(by simp [c])⟩,(by simp [c])⟩ ?_
 exact d1_ rfl rfl ⟨rfl,rfl,rfl,tt_⟩
def Qeg (b:Int)(a:QBg):Option ((Int×QBg)⊕QBg):=
 some (.inl ((w64 (b+1)),a))
def Qcj (e:(List Int))(d:QBg)(b:Int)(c:QBg):Option ((Int×QBg)⊕QBg):=
 bif (decide (b<(e.length:Int)))then
 (idx e b).bind fun a=>
 bif (decide (0<((QG d a).getD 0)))then
 (chk (decide (c.length+([(a,((QG d a).getD 0))]:List (Int×Int)).length≤4294967296))).bind fun _=>
 Qeg b (c++([(a,((QG d a).getD 0))]:List (Int×Int)))
 else
 Qeg b c
 else
 some (.inr c)
def Qm3 (a:QBg):Option QBg:=
 some a
def Qem (a:QBg):Option QBg:=
 (QdG a).bind fun c=>
 (Qi7 a).bind fun b=>
 (QK (fun st=>Qcj b a st.1 st.2) (0,([]:List (Int×Int)))).bind (fun q=>Qm3 q)
theorem Qi8 (b){r}(h:Qem b=some r):Qc prog 71 [.map 617] [(617,.map (QA V.I V.I b))] (Gives (.own 600 r.length) [(600,.arr 2 (r.map QF)),(617,.map (QA V.I V.I b))]):=by
 refine Qc.walk 28 func71 rfl rfl rfl fun C hC=>?_
 obtain⟨D,u,h⟩:=Qb h
 obtain⟨i,w,h⟩:=Qb h
 refine Qa hC [.n 14,.cm (.fn) [(617,617)] [(7,1),(617,617)] [] [.d] [(1,.var [.map 617]),(617,.map (QA V.I V.I b))] (.clo (.func 157) [] [.loc 1 0 0]),.cm (.fn) [(617,7),(618,617)] [(8,600),(7,617),(617,618)] [] [.d] [(600,.arr 1 (i.map Qe)),(617,.var [.map 618]),(618,.map (QA V.I V.I b))] (.own 600 i.length),.n 5,.adopt 3 18 2,.O 18 (.arr 2 (([]:List (Int×Int)).map QF)),.S 3 (.own 18 ([]:List (Int×Int)).length),.K [0,3,8,9,10] [8,18,617]] rfl ⟨⟨⟨⟨tt_,(Qle _ u)⟩,(Qrb _ w)⟩,rfl⟩,(congrArg (fun n=>V.own 18 n) (by simp))⟩ ?_
 obtain⟨x,p,h⟩:=Qb h
 refine AK.loop (body:=(fun st=>Qcj i b st.1 st.2)) (fun st σ=>σ=⟨[(0,.map 617),(3,.own 18 st.2.length),(8,.own 8 i.length),(9,.I (i.length:Int)),(10,.I st.1)],[(8,.arr 1 (i.map Qe)),(18,.arr 2 (st.2.map QF)),(617,.map (QA V.I V.I b))]⟩) (fun q e σ=>e=.exit 0∧σ=⟨[(3,.own 18 q.length)],[(18,.arr 2 (q.map QF)),(617,.map (QA V.I V.I b))]⟩) p rfl ?_ ?_
 ·rintro ⟨A,B⟩ o σ rfl h
  refine tg_ hC [.n 6] rfl ?_
  refine bg_ h (fun c h=>Qa hC [.T,.n 2] rfl ⟨tt_,c⟩ ?_) fun c h=>Qa hC [.F,.n 2,.K [3] [18,617]] rfl ⟨tt_,c⟩ ?_
  ·refine AK.meet (fun σ=>∃j:QBg,σ=⟨[(0,.map 617),(3,.own 18 j.length),(8,.own 8 i.length),(9,.I (i.length:Int)),(10,.I A)],[(8,.arr 1 (i.map Qe)),(18,.arr 2 (j.map QF)),(617,.map (QA V.I V.I b))]⟩∧Qeg A j=some o) ?_ ?_
   ·obtain⟨a,m,h⟩:=Qb h
    refine Qa hC [.n 4,.o (.row (Qe a)),.n 7,.o (.any (.I ((QG b a).getD 0)) none),.n 3] rfl ⟨⟨⟨tt_,(Qda m rfl)⟩,(QbV (QdE m).2)⟩,(fun σ s y _=>Stp.lookup (e:=V.I) (f:=V.I) (l:=b) (k:=a) (z:=0) rfl rfl (QO hC.n rfl) (s _ _ rfl) (y _ _ rfl) (s _ _ rfl) QeN Qdg QkZ rfl)⟩ ?_
    rcases Qr h with⟨g,h⟩|⟨g,h⟩
    ·obtain⟨t,h⟩:=QaX h
     refine Qa hC [.T,.n 5,.o (.any (.I ((QG b a).getD 0)) none),.v .no [] (.agg (QF (a,((QG b a).getD 0)))),.v (.bd []) [] (.sl 2 (([(a,((QG b a).getD 0))]:List (Int×Int)).map QF)),.app ((B++([(a,((QG b a).getD 0))]:List (Int×Int))).map QF) (B++([(a,((QG b a).getD 0))]:List (Int×Int))).length,.n 3,.K [0,3,8,9,10] [8,18,617]] rfl ⟨⟨⟨⟨⟨tt_,g⟩,(fun σ s y _=>Stp.lookup (e:=V.I) (f:=V.I) (l:=b) (k:=a) (z:=0) rfl rfl (QO hC.n rfl) (s _ _ rfl) (y _ _ rfl) (s _ _ rfl) QeN Qdg QkZ rfl)⟩,rfl⟩,rfl⟩,⟨Qf,QbP t Qf,QaZ,QcP Qf⟩⟩ ?_
     exact AK.met (ex_ _ (an_ rfl h))
    refine Qa hC [.F,.n 2,.K [0,3,8,9,10] [8,18,617]] rfl ⟨tt_,g⟩ ?_
    exact AK.met (ex_ _ (an_ rfl h))
   rintro σ ⟨j,rfl,h⟩
   refine tg_ hC [.n 4,.K [0,3,8,9,10] [8,18,617]] rfl ?_
   cases h
   exact Q4 rfl rfl
  cases h
  exact Q6 rfl (an_ rfl rfl)
 replace h:Qm3 x=some r:=h
 rintro e σ ⟨rfl,rfl⟩
 refine tg_ hC [.n 9,.K [2] [18,617],.ren 18 600] rfl ?_
 cases h
 exact d1_ rfl rfl ⟨rfl,rfl,tt_⟩
def QnE (b:Int)(a:QBg):Option ((Int×QBg)⊕QBg):=
 some (.inl ((w64 (b+1)),a))
def QfJ (d:(List Int))(b:Int)(c:QBg):Option ((Int×QBg)⊕QBg):=
 bif (decide (b<(d.length:Int)))then
 (idx d b).bind fun a=>
 bif (decide (0≤a))then
 QnE b (Qan ltI c a (min2 (w64 (((QG c a).getD 0)+1)) 1048576))
 else
 QnE b c
 else
 some (.inr c)
def QnF (b:QBg):Option QBg:=
 (Qem b).bind fun a=>
 some a
def Qnc (a:(List Int)):Option QBg:=
 (QK (fun st=>QfJ a st.1 st.2) (0,([]:QBg))).bind (fun q=>QnF q)
theorem Qvs (c){r}(h:Qnc c=some r):Qc prog 44 [.sl 1 (c.map Qe)] [] (Gives (.own 600 r.length) [(600,.arr 2 (r.map QF))]):=by
 refine Qc.walk 25 func44 rfl rfl rfl fun C hC=>?_
 refine Qa hC [.n 8,.O 6 (.map (QA V.I V.I ([]:QBg))),.n 7,.o (.ln c.length),.n 4,.K [3,7,8,9] [6]] rfl ⟨⟨tt_,rfl⟩,Qf⟩ ?_
 obtain⟨u,m,h⟩:=Qb h
 refine AK.loop (body:=(fun st=>QfJ c st.1 st.2)) (fun st σ=>σ=⟨[(3,.map 6),(7,.sl 1 (c.map Qe)),(8,.I (c.length:Int)),(9,.I st.1)],[(6,.map (QA V.I V.I st.2))]⟩) (fun q e σ=>e=.exit 0∧σ=⟨[(3,.map 6)],[(6,.map (QA V.I V.I q))]⟩) m rfl ?_ ?_
 ·rintro ⟨w,j⟩ o σ rfl h
  refine tg_ hC [.n 6] rfl ?_
  refine bg_ h (fun g h=>Qa hC [.T,.n 2] rfl ⟨tt_,g⟩ ?_) fun g h=>Qa hC [.F,.n 2,.K [3] [6]] rfl ⟨tt_,g⟩ ?_
  ·refine AK.meet (fun σ=>∃i:QBg,σ=⟨[(3,.map 6),(7,.sl 1 (c.map Qe)),(8,.I (c.length:Int)),(9,.I w)],[(6,.map (QA V.I V.I i))]⟩∧QnE w i=some o) ?_ ?_
   ·obtain⟨a,p,h⟩:=Qb h
    refine Qa hC [.n 3,.o (.row (Qe a)),.n 10] rfl ⟨tt_,(QP p)⟩ ?_
    refine bg_ h (fun b h=>Qa hC [.T,.n 5,.o (.any (.I ((QG j a).getD 0)) none),.n 2,.x (fun σ=>σ.set 6 (.map (QA V.I V.I (Qan ltI j a (min2 (w64 (((QG j a).getD 0)+1)) 1048576))))),.n 2,.K [3,7,8,9] [6]] rfl ⟨⟨⟨tt_,b⟩,(fun σ y A _=>Stp.lookup (e:=V.I) (f:=V.I) (l:=j) (k:=a) (z:=0) rfl rfl (QO hC.n rfl) (y _ _ rfl) (A _ _ rfl) (y _ _ rfl) QeN Qdg QkZ rfl)⟩,(Stp.mapUpdate (e:=V.I) (f:=V.I) (l:=j) (k:=a) (v:=(min2 (w64 (((QG j a).getD 0)+1)) 1048576)) ltI rfl rfl rfl rfl rfl rfl QeN Qdg rfl)⟩ ?_) fun b h=>Qa hC [.F,.n 2,.K [3,7,8,9] [6]] rfl ⟨tt_,b⟩ ?_
    ·exact AK.met (ex_ _ (an_ rfl h))
    exact AK.met (ex_ _ (an_ rfl h))
   rintro σ ⟨i,rfl,h⟩
   refine tg_ hC [.n 4,.K [3,7,8,9] [6]] rfl ?_
   cases h
   exact Q4 rfl rfl
  cases h
  exact Q6 rfl (an_ rfl rfl)
 replace h:QnF u=some r:=h
 rintro e σ ⟨rfl,rfl⟩
 obtain⟨s,t,h⟩:=Qb h
 refine Qa hC [.n 5,.cm (.fn) [(617,6)] [(24,600),(6,617)] [] [.d] [(600,.arr 2 (s.map QF)),(617,.map (QA V.I V.I u))] (.own 600 s.length),.n 4,.K [2] [24],.ren 24 600] rfl ⟨tt_,(Qi8 _ t)⟩ ?_
 cases h
 exact d1_ rfl rfl ⟨rfl,tt_⟩
def QcR (d:QBg)(a:Int)(c:Int):Option ((Int×Int)⊕(Unit⊕Unit)):=
 bif (decide (c<(d.length:Int)))then
 (idx d c).bind fun b=>
 bif ((decide (b.1≤a))||((decide (b.2<1))||(decide (1048576<b.2))))then
 some (.inr (.inl ()))
 else
 some (.inl (b.1,(w64 (c+1))))
 else
 some (.inr (.inr ()))
def Qkw : Option Bool:=
 some false
def Qkx : Option Bool:=
 some true
def Qc3 (a:QBg):Option Bool:=
 (QK (fun st=>QcR a st.1 st.2) ((-1),0)).bind (Sum.elim (fun q=>Qkw) (fun q=>Qkx))
theorem QfP (i){r}(h:Qc3 i=some r):Qc prog 63 [.sl 2 (i.map QF)] [] (Gives (.b r) []):=by
 refine Qc.walk 29 func63 rfl rfl rfl fun C hC=>?_
 refine Qa hC [.n 14,.o (.ln i.length),.n 4,.K [3,6,7,8] []] rfl ⟨tt_,Qf⟩ ?_
 obtain⟨l,k,h⟩:=Qb h
 refine AK.loop (body:=(fun st=>QcR i st.1 st.2)) (fun st σ=>σ=⟨[(3,.I st.1),(6,.sl 2 (i.map QF)),(7,.I (i.length:Int)),(8,.I st.2)],[]⟩) (Sum.elim (fun q e σ=>e=.ret∧σ=⟨[(2,.b false)],[]⟩) (fun q e σ=>e=.exit 0∧σ=⟨[],[]⟩)) k rfl ?_ ?_
 ·rintro ⟨a,p⟩ o σ rfl h
  refine tg_ hC [.n 6] rfl ?_
  rcases Qr h with⟨j,h⟩|⟨j,h⟩
  ·obtain⟨d,m,h⟩:=Qb h
   refine Qa hC [.T,.n 6,.o (.row (QF d)),.v .no [] (.agg (QF d)),.n 2,.O 5 (.var (QF d)),.n 4] rfl ⟨⟨⟨⟨tt_,j⟩,(QP m)⟩,rfl⟩,rfl⟩ ?_
   refine AK.meetX (fun σ=>σ=⟨[(5,.loc 5 0 0),(6,.sl 2 (i.map QF)),(7,.I (i.length:Int)),(8,.I p),(25,.b ((decide (d.1≤a))||((decide (d.2<1))||(decide (1048576<d.2)))))],[(5,.var (QF d))]⟩) ?_ ?_
   ·refine tg_ hC [.n 6] rfl ?_
    rcases Q3 (decide (d.1≤a))with c | c
    ·refine Qa hC [.S 16 (.b true),.n 10,.S 25 (.b ((decide (d.1≤a))||((decide (d.2<1))||(decide (1048576<d.2))))),.K [5,6,7,8,25] [5]] rfl ⟨(tc_ c),(congrArg V.b (orT c rfl))⟩ ?_
     exact AK.met rfl
    refine Qa hC [.S 16 (.b false),.n 5] rfl (tc_ c) ?_
    rcases Q3 (decide (d.2<1))with f | f
    ·refine Qa hC [.S 21 (.b true),.n 5,.S 25 (.b ((decide (d.1≤a))||((decide (d.2<1))||(decide (1048576<d.2))))),.K [5,6,7,8,25] [5]] rfl ⟨(tc_ f),(congrArg V.b (orF c (orT f rfl)))⟩ ?_
     exact AK.met rfl
    refine Qa hC [.S 21 (.b false),.n 5,.S 25 (.b ((decide (d.1≤a))||((decide (d.2<1))||(decide (1048576<d.2))))),.K [5,6,7,8,25] [5]] rfl ⟨(tc_ f),(congrArg V.b (orF c (orF f rfl)))⟩ ?_
    exact AK.met rfl
   rintro σ rfl
   refine tg_ hC [.n 1] rfl ?_
   refine bg_ h (fun g h=>Qa hC [.T,.n 9,.K [2] []] rfl ⟨tt_,g⟩ ?_) fun g h=>Qa hC [.F,.n 13,.K [3,6,7,8] []] rfl ⟨tt_,g⟩ ?_
   ·cases h
    exact Qar rfl (an_ rfl rfl)
   cases h
   exact Q4 rfl rfl
  refine Qa hC [.F,.n 2,.K [] []] rfl ⟨tt_,j⟩ ?_
  cases h
  exact Q6 rfl (an_ rfl rfl)
 rcases l with(_ | _)
 ·replace h:Qkw=some r:=h
  rintro e σ ⟨rfl,rfl⟩
  refine tg_ hC [.n 2] rfl ?_
  cases h
  exact d1_ rfl rfl tt_
 replace h:Qkx=some r:=h
 rintro e σ ⟨rfl,rfl⟩
 refine tg_ hC [.n 8] rfl ?_
 cases h
 exact d1_ rfl rfl tt_
def Qg7 (c:QBg)(b:Int)(d:QBg):Option ((Int×QBg)⊕QBg):=
 bif (decide (b<(c.length:Int)))then
 (idx c b).bind fun a=>
 some (.inl ((w64 (b+1)),(Qan ltI d a.1 a.2)))
 else
 some (.inr d)
def Qvt (a:QBg):Option (Unit⊕QBg):=
 some (.inr a)
def QlM (a:QBg):Option (Unit⊕QBg):=
 (Qc3 a).bind fun b=>
 bif (!b)then
 some (.inl ())
 else
 (QK (fun st=>Qg7 a st.1 st.2) (0,([]:QBg))).bind (fun q=>Qvt q)
theorem QfK (j){r}(h:QlM j=some r):Qc prog 108 [.sl 2 (j.map QF)] [] ((Sum.elim (fun q=>(Gives (.tup [.lit (.map none),.b false]) [])) (fun q=>(Gives (.tup [.map 601,.b true]) [(601,.map (QA V.I V.I q))]))) r):=by
 refine Qc.walk 24 func108 rfl rfl rfl fun C hC=>?_
 obtain⟨w,s,h⟩:=Qb h
 refine Qa hC [.n 10,.o (.c false [.d] (.b w)),.n 3] rfl ⟨tt_,(QfP _ s)⟩ ?_
 refine bg_ h (fun i h=>Qa hC [.T,.n 8,.K [2,3] []] rfl ⟨tt_,i⟩ ?_) fun i h=>Qa hC [.F,.n 5,.O 10 (.map (QA V.I V.I ([]:QBg))),.n 7,.o (.ln j.length),.n 4,.K [4,11,12,13] [10]] rfl ⟨⟨⟨tt_,i⟩,rfl⟩,Qf⟩ ?_
 ·cases h
  exact AK.done (ex_ [_,_] (an_ (an_ rfl (an_ rfl tt_)) (gives tt_)))
 obtain⟨t,m,h⟩:=Qb h
 refine AK.loop (body:=(fun st=>Qg7 j st.1 st.2)) (fun st σ=>σ=⟨[(4,.map 10),(11,.sl 2 (j.map QF)),(12,.I (j.length:Int)),(13,.I st.1)],[(10,.map (QA V.I V.I st.2))]⟩) (fun q e σ=>e=.exit 0∧σ=⟨[(4,.map 10)],[(10,.map (QA V.I V.I q))]⟩) m rfl ?_ ?_
 ·rintro ⟨y,u⟩ o σ rfl h
  refine tg_ hC [.n 6] rfl ?_
  rcases Qr h with⟨g,h⟩|⟨g,h⟩
  ·obtain⟨a,p,h⟩:=Qb h
   refine Qa hC [.T,.n 6,.o (.row (QF a)),.v .no [] (.agg (QF a)),.n 2,.O 6 (.var (QF a)),.n 8,.x (fun σ=>σ.set 10 (.map (QA V.I V.I (Qan ltI u a.1 a.2)))),.n 7,.K [4,11,12,13] [10]] rfl ⟨⟨⟨⟨⟨tt_,g⟩,(QP p)⟩,rfl⟩,rfl⟩,(Stp.mapUpdate (e:=V.I) (f:=V.I) (l:=u) (k:=a.1) (v:=a.2) ltI rfl rfl rfl rfl rfl rfl QeN Qdg rfl)⟩ ?_
   cases h
   exact Q4 rfl rfl
  refine Qa hC [.F,.n 2,.K [4] [10]] rfl ⟨tt_,g⟩ ?_
  cases h
  exact Q6 rfl (an_ rfl rfl)
 replace h:Qvt t=some r:=h
 rintro e σ ⟨rfl,rfl⟩
 refine tg_ hC [.n 10,.K [2,3] [10],.ren 10 601,.K [2,3] [601]] rfl ?_
 cases h
 exact AK.done (ex_ [_,_] (an_ (an_ rfl (an_ rfl tt_)) (gives ⟨rfl,tt_⟩)))
def QsY (a:Unit):Option (Unit⊕(QBg⊕(QBg⊕(QBg×QBg)))):=
 some (.inl ())
def QsZ (a:QBg):Option (Unit⊕(QBg⊕(QBg⊕(QBg×QBg)))):=
 some (.inr (.inl a))
def Qn3 (a:QBg)(b:Unit):Option (Unit⊕(QBg⊕(QBg⊕(QBg×QBg)))):=
 (QlM a).bind (Sum.elim (fun q=>QsY q) (fun q=>QsZ q))
def Qs0 (a:QBg)(b:Unit):Option (Unit⊕(QBg⊕(QBg⊕(QBg×QBg)))):=
 some (.inr (.inr (.inl a)))
def Qs1 (b:QBg)(a:QBg):Option (Unit⊕(QBg⊕(QBg⊕(QBg×QBg)))):=
 some (.inr (.inr (.inr (b,a))))
def Qn4 (b:QBg)(a:QBg):Option (Unit⊕(QBg⊕(QBg⊕(QBg×QBg)))):=
 (QlM b).bind (Sum.elim (fun q=>Qs0 a q) (fun q=>Qs1 a q))
def Qky (b:QBg)(a:QBg):Option (Unit⊕(QBg⊕(QBg⊕(QBg×QBg)))):=
 (QlM b).bind (Sum.elim (fun q=>Qn3 a q) (fun q=>Qn4 a q))
theorem QbL (p i){r}(h:Qky p i=some r):Qc prog 70 [.sl 2 (p.map QF),.sl 2 (i.map QF)] [] ((Sum.elim (fun q=>(Gives (.tup [.lit (.map none),.lit (.map none),.b false]) [])) (Sum.elim (fun q=>(Gives (.tup [.lit (.map none),.map 603,.b false]) [(603,.map (QA V.I V.I q))])) (Sum.elim (fun q=>(Gives (.tup [.map 602,.lit (.map none),.b false]) [(602,.map (QA V.I V.I q))])) (fun q=>(Gives (.tup [.map 602,.map 603,.b true]) [(602,.map (QA V.I V.I q.1)),(603,.map (QA V.I V.I q.2))]))))) r):=by
 refine Qc.walk 25 func70 rfl rfl rfl fun C hC=>?_
 obtain⟨s,e,h⟩:=Qb h
 refine tg_ hC [.n 10] rfl ?_
 rcases s with(t | j)
 ·replace h:Qn3 i t=some r:=h
  obtain⟨k,a,h⟩:=Qb h
  refine Qa hC [.cm (.fn) [] [] [] [.d] [] (.tup [.lit (.map none),.b false]),.n 10] rfl ⟨tt_,(QfK _ e)⟩ ?_
  rcases k with(l | f)
  ·replace h:QsY l=some r:=h
   refine Qa hC [.cm (.fn) [] [] [] [.d] [] (.tup [.lit (.map none),.b false]),.n 21,.K [4,5,6] []] rfl ⟨tt_,(QfK _ a)⟩ ?_
   cases h
   exact AK.done (ex_ [_,_,_] (an_ (an_ rfl (an_ rfl (an_ rfl tt_))) (gives tt_)))
  replace h:QsZ f=some r:=h
  refine Qa hC [.cm (.fn) [] [(16,601)] [] [.d] [(601,.map (QA V.I V.I f))] (.tup [.map 601,.b true]),.n 21,.K [4,5,6] [16],.ren 16 603,.K [4,5,6] [603]] rfl ⟨tt_,(QfK _ a)⟩ ?_
  cases h
  exact AK.done (ex_ [_,_,_] (an_ (an_ rfl (an_ rfl (an_ rfl tt_))) (gives ⟨rfl,tt_⟩)))
 replace h:Qn4 i j=some r:=h
 obtain⟨m,c,h⟩:=Qb h
 refine Qa hC [.cm (.fn) [] [(11,601)] [] [.d] [(601,.map (QA V.I V.I j))] (.tup [.map 601,.b true]),.n 10] rfl ⟨tt_,(QfK _ e)⟩ ?_
 rcases m with(o | g)
 ·replace h:Qs0 j o=some r:=h
  refine Qa hC [.cm (.fn) [] [] [] [.d] [] (.tup [.lit (.map none),.b false]),.n 21,.K [4,5,6] [11],.ren 11 602,.K [4,5,6] [602]] rfl ⟨tt_,(QfK _ c)⟩ ?_
  cases h
  exact AK.done (ex_ [_,_,_] (an_ (an_ rfl (an_ rfl (an_ rfl tt_))) (gives ⟨rfl,tt_⟩)))
 replace h:Qs1 j g=some r:=h
 refine Qa hC [.cm (.fn) [] [(16,601)] [] [.d] [(601,.map (QA V.I V.I g))] (.tup [.map 601,.b true]),.n 21,.K [4,5,6] [11,16],.ren 11 602,.K [4,5,6] [16,602],.ren 16 603,.K [4,5,6] [602,603]] rfl ⟨tt_,(QfK _ c)⟩ ?_
 cases h
 exact AK.done (ex_ [_,_,_] (an_ (an_ rfl (an_ rfl (an_ rfl tt_))) (gives ⟨rfl,rfl,tt_⟩)))
def QtR (a:Unit):Option (QBg×Int):=
 some (([]:List (Int×Int)),1)
def QtS (a:QBg):Option (QBg×Int):=
 some (([]:List (Int×Int)),1)
def QtT (a:QBg):Option (QBg×Int):=
 some (([]:List (Int×Int)),1)
def QhJ (b:QBg)(a:Int)(c:Int):Option (QBg⊕Unit):=
 bif (decide (1048576<((QG (Qan ltI b a (w64 (((QG b a).getD 0)+c))) a).getD 0)))then
 some (.inr ())
 else
 some (.inl (Qan ltI b a (w64 (((QG b a).getD 0)+c))))
def Qph (a:QBg):Option (QBg×Int):=
 (Qem a).bind fun b=>
 some (b,0)
def QtU : Option (QBg×Int):=
 some (([]:List (Int×Int)),2)
def Qpi (a:(QBg×QBg)):Option (QBg×Int):=
 (QiN (fun st p=>QhJ st p.1 p.2) a.1 a.2).bind (Sum.elim (fun q=>Qph q) (fun q=>QtU))
def QbH (a:QBg)(b:QBg):Option (QBg×Int):=
 (Qky a b).bind (Sum.elim (fun q=>QtR q) (Sum.elim (fun q=>QtS q) (Sum.elim (fun q=>QtT q) (fun q=>Qpi q))))
theorem Qpj (M N){r}(h:QbH M N=some r):Qc prog 43 [.sl 2 (M.map QF),.sl 2 (N.map QF)] [] (Gives (.tup [.sl 2 (r.1.map QF),.I r.2]) []):=by
 refine Qc.walk 38 func43 rfl rfl rfl fun C hC=>?_
 obtain⟨S,u,h⟩:=Qb h
 refine tg_ hC [.n 10] rfl ?_
 rcases S with(U | (O | (D | w)))
 ·replace h:QtR U=some r:=h
  refine Qa hC [.cm (.fn) [] [] [] [.d,.d] [] (.tup [.lit (.map none),.lit (.map none),.b false]),.n 25,.denil 4 [some 2]] rfl ⟨tt_,(QbL _ _ u)⟩ ?_
  cases h
  exact d2_ rfl rfl rfl tt_
 ·replace h:QtS O=some r:=h
  refine Qa hC [.cm (.fn) [] [(14,603)] [] [.d,.d] [(603,.map (QA V.I V.I O))] (.tup [.lit (.map none),.map 603,.b false]),.n 25,.denil 4 [some 2]] rfl ⟨tt_,(QbL _ _ u)⟩ ?_
  cases h
  exact d2_ rfl rfl rfl tt_
 ·replace h:QtT D=some r:=h
  refine Qa hC [.cm (.fn) [] [(14,602)] [] [.d,.d] [(602,.map (QA V.I V.I D))] (.tup [.map 602,.lit (.map none),.b false]),.n 25,.denil 4 [some 2]] rfl ⟨tt_,(QbL _ _ u)⟩ ?_
  cases h
  exact d2_ rfl rfl rfl tt_
 replace h:Qpi w=some r:=h
 refine Qa hC [.cm (.fn) [] [(14,602),(610,603)] [] [.d,.d] [(602,.map (QA V.I V.I w.1)),(603,.map (QA V.I V.I w.2))] (.tup [.map 602,.map 603,.b true]),.n 23] rfl ⟨tt_,(QbL _ _ u)⟩ ?_
 refine AK.openMap (b:=610) Qdg rfl fun j s L12 y A=>?_
 refine Qa hC [.x (fun σ=>(σ.set 21 (.itr j s #[] none)).put 21 (.loc 21 0 0)),.n 3,.K [6,21] [14,21,610]] rfl ⟨tt_,(Stp.range (b:=610) rfl rfl (QO hC.n rfl) rfl rfl QeN rfl)⟩ ?_
 obtain⟨J,E,h⟩:=Qb h
 refine AK.range (body:=(fun st p=>QhJ st p.1 p.2)) (fun st seen σ=>∃cur:Option MapEntry,σ=⟨[(6,.map 14),(21,.loc 21 0 0)],[(14,.map (QA V.I V.I st)),(21,.itr j s seen cur),(610,.mapX j s (QhG V.I V.I L12) (QA V.I V.I w.2))]⟩) (fun q e σ=>e=.ret∧σ=⟨[(4,.lit (.slice none 0 0)),(5,.I 2)],[]⟩) (fun st e σ=>e=.exit 0∧σ=⟨[(6,.map 14)],[(14,.map (QA V.I V.I st))]⟩) y A E (ex_ _ rfl) ?_ ?_
 ·rintro a seen σ ⟨cur,rfl⟩ hex
  refine tg_ hC [.n 2] rfl ?_
  refine AK.nextT (b:=21) (m:=610) rfl rfl rfl (QO hC.n rfl) rfl rfl rfl rfl ?_ ?_
  ·intro hleft
   refine tg_ hC [.n 7,.K [6] [14]] rfl ?_
   exact AK.done (Or.inl (an_ hleft (an_ (fun h=>(by cases h)) (an_ rfl rfl))))
  intro P c i g
  obtain⟨o,h⟩:=hex _ g
  have ho:=h
  replace h:QhJ a c i=some o:=h
  refine Qa hC [.n 10,.x (fun σ=>σ.put 24 (.tup [.I c,.I i])),.n 10,.o (.any (.I ((QG a c).getD 0)) none),.n 2,.x (fun σ=>σ.set 14 (.map (QA V.I V.I (Qan ltI a c (w64 (((QG a c).getD 0)+i)))))),.n 6,.o (.any (.I ((QG (Qan ltI a c (w64 (((QG a c).getD 0)+i))) c).getD 0)) none),.n 3] rfl ⟨⟨⟨⟨tt_,(Stp.entryT (b:=21) (m:=610) rfl rfl (QO hC.n rfl) rfl g rfl rfl)⟩,(fun σ G L _=>Stp.lookup (e:=V.I) (f:=V.I) (l:=a) (k:=c) (z:=0) rfl rfl (QO hC.n rfl) (G _ _ rfl) (L _ _ rfl) (G _ _ rfl) QeN Qdg QkZ rfl)⟩,(Stp.mapUpdate (e:=V.I) (f:=V.I) (l:=a) (k:=c) (v:=(w64 (((QG a c).getD 0)+i))) ltI rfl rfl rfl rfl rfl rfl QeN Qdg rfl)⟩,(fun σ G L _=>Stp.lookup (e:=V.I) (f:=V.I) (l:=(Qan ltI a c (w64 (((QG a c).getD 0)+i)))) (k:=c) (z:=0) rfl rfl (QO hC.n rfl) (G _ _ rfl) (L _ _ rfl) (G _ _ rfl) QeN Qdg QkZ rfl)⟩ ?_
  refine bg_ h (fun t h=>Qa hC [.T,.n 8,.K [4,5] []] rfl ⟨tt_,t⟩ ?_) fun t h=>Qa hC [.F,.n 2,.K [6,21] [14,21,610]] rfl ⟨tt_,t⟩ ?_
  ·cases h
   exact AK.done (Or.inr (ex_ _ (an_ g (Or.inr (ex_ _ (an_ ho (an_ (fun h=>(by cases h)) (an_ rfl rfl))))))))
  cases h
  exact AK.done (Or.inr (ex_ _ (an_ g (Or.inl (ex_ _ (an_ ho (an_ rfl (ex_ _ rfl))))))))
 rcases J with(a | _)
 ·replace h:Qph a=some r:=h
  rintro e σ ⟨rfl,rfl⟩
  obtain⟨B,H,h⟩:=Qb h
  refine Qa hC [.n 5,.cm (.fn) [(617,14)] [(37,600),(14,617)] [] [.d] [(600,.arr 2 (B.map QF)),(617,.map (QA V.I V.I a))] (.own 600 B.length),.n 5,.frz 37 (B.map QF) [4] []] rfl ⟨⟨tt_,(Qi8 _ H)⟩,⟨tt_,(Qb7 Qf)⟩⟩ ?_
  cases h
  exact d2_ rfl rfl rfl tt_
 replace h:QtU=some r:=h
 rintro e σ ⟨rfl,rfl⟩
 refine tg_ hC [.n 2,.denil 4 [some 2]] rfl ?_
 cases h
 exact d2_ rfl rfl rfl tt_
def Qe1 (b:QMk)(c:Int)(a:QBg):Option ((Int×QMk)⊕QMk):=
 (chk (decide (b.length+([a]:List QBg).length≤4294967296))).bind fun _=>
 some (.inl ((w64 (c+1)),(b++([a]:List QBg))))
def Qjk (e:Qj)(b:Int)(d:QMk):Option ((Int×QMk)⊕QMk):=
 bif (decide (b<(e.Places.length:Int)))then
 (idx e.Places b).bind fun f=>
 (Qa0 f.First).bind fun a=>
 bif (b==e.From)then
 (Qnc ([0]:List Int)).bind fun g=>
 (QbH a g).bind fun c=>
 bif (c.2==0)then
 Qe1 d b c.1
 else
 Qe1 d b a
 else
 Qe1 d b a
 else
 some (.inr d)
def Qqr (a:QMk):Option QMk:=
 some a
def QeO (a:Qj):Option QMk:=
 (QK (fun st=>Qjk a st.1 st.2) (0,([]:List QBg))).bind (fun q=>Qqr q)
theorem Qmm (g){r}(h:QeO g=some r):Qc prog 18 [.agg (Qd g)] [] (Gives (.own 600 r.length) [(600,.arr 1 (r.map Qi))]):=by
 refine Qc.walk 40 func18 rfl rfl rfl fun C hC=>?_
 refine Qa hC [.n 16,.o (.ln g.Places.length),.n 4,.adopt 3 34 1,.O 34 (.arr 1 (([]:List QBg).map Qi)),.S 3 (.own 34 ([]:List QBg).length),.K [1,3,10,11,12] [1,34]] rfl ⟨⟨⟨tt_,Qf⟩,rfl⟩,(congrArg (fun n=>V.own 34 n) (by simp))⟩ ?_
 obtain⟨A,m,h⟩:=Qb h
 refine AK.loop (body:=(fun st=>Qjk g st.1 st.2)) (fun st σ=>σ=⟨[(1,.loc 1 0 0),(3,.own 34 st.2.length),(10,.sl 3 (g.Places.map Qq)),(11,.I (g.Places.length:Int)),(12,.I st.1)],[(1,.var (Qd g)),(34,.arr 1 (st.2.map Qi))]⟩) (fun q e σ=>e=.exit 0∧σ=⟨[(3,.own 34 q.length)],[(34,.arr 1 (q.map Qi))]⟩) m rfl ?_ ?_
 ·rintro ⟨z,p⟩ o σ rfl h
  refine tg_ hC [.n 6] rfl ?_
  rcases Qr h with⟨j,h⟩|⟨j,h⟩
  ·obtain⟨k,s,h⟩:=Qb h
   obtain⟨i,t,h⟩:=Qb h
   refine Qa hC [.T,.n 7,.o (.row (Qq k)),.v .no [] (.agg (Qq k)),.n 3,.O 5 (.var (Qq k)),.n 6,.o (.co false [.d] 2 (i.map QF) i.length),.n 3] rfl ⟨⟨⟨⟨⟨tt_,j⟩,(QP s)⟩,rfl⟩,rfl⟩,⟨(Qgt _ t),Qf,.inl rfl⟩⟩ ?_
   refine AK.meet (fun σ=>∃a:QBg,σ=⟨[(1,.loc 1 0 0),(3,.own 34 p.length),(6,.sl 2 (a.map QF)),(10,.sl 3 (g.Places.map Qq)),(11,.I (g.Places.length:Int)),(12,.I z)],[(1,.var (Qd g)),(34,.arr 1 (p.map Qi))]⟩∧Qe1 p z a=some o) ?_ ?_
   ·refine tg_ hC [.n 8] rfl ?_
    rcases Qr h with⟨b,h⟩|⟨b,h⟩
    ·obtain⟨l,u,h⟩:=Qb h
     obtain⟨w,x,h⟩:=Qb h
     refine Qa hC [.T,.n 3,.v (.bd []) [] (.sl 1 (([0]:List Int).map Qe)),.o (.co false [.d] 2 (l.map QF) l.length),.frz 27 (l.map QF) [27] [],.frz 19 (i.map QF) [6,19,25] [],.o (.c false [.d,.d] (.tup [.sl 2 (w.1.map QF),.I w.2])),.n 13] rfl ⟨⟨⟨⟨⟨⟨tt_,b⟩,rfl⟩,⟨(Qvs _ u),Qf,.inl rfl⟩⟩,⟨tt_,(Qb7 Qf)⟩⟩,⟨⟨⟨tt_,(Qb7 Qf)⟩,(Qb7 Qf)⟩,(Qb7 Qf)⟩⟩,(Qpj _ _ x)⟩ ?_
     refine bg_ h (fun f h=>Qa hC [.T,.n 4,.K [1,3,6,10,11,12] [1,34]] rfl ⟨tt_,f⟩ ?_) fun f h=>Qa hC [.F,.n 1,.K [1,3,6,10,11,12] [1,34]] rfl ⟨tt_,f⟩ ?_
     ·exact AK.met (ex_ _ (an_ rfl h))
     exact AK.met (ex_ _ (an_ rfl h))
    refine Qa hC [.F,.n 1,.frz 19 (i.map QF) [6] [],.K [1,3,6,10,11,12] [1,34]] rfl ⟨⟨tt_,b⟩,⟨tt_,(Qb7 Qf)⟩⟩ ?_
    exact AK.met (ex_ _ (an_ rfl h))
   rintro σ ⟨a,rfl,h⟩
   obtain⟨y,h⟩:=QaX h
   refine Qa hC [.n 3,.v (.bd []) [] (.sl 1 (([a]:List QBg).map Qi)),.app ((p++([a]:List QBg)).map Qi) (p++([a]:List QBg)).length,.n 8,.K [1,3,10,11,12] [1,34]] rfl ⟨⟨tt_,rfl⟩,⟨Qf,QbP y Qf,QaZ,QcP Qf⟩⟩ ?_
   cases h
   exact Q4 rfl rfl
  refine Qa hC [.F,.n 2,.K [3] [34]] rfl ⟨tt_,j⟩ ?_
  cases h
  exact Q6 rfl (an_ rfl rfl)
 replace h:Qqr A=some r:=h
 rintro e σ ⟨rfl,rfl⟩
 refine tg_ hC [.n 9,.K [2] [34],.ren 34 600] rfl ?_
 cases h
 exact d1_ rfl rfl ⟨rfl,tt_⟩
def QbJ (a:QMk):Option QMk:=
 (chk (decide (([]:List QBg).length+a.length≤4294967296))).bind fun _=>
 some (([]:List QBg)++a)
theorem QjT (a){r}(h:QbJ a=some r):Qc prog 68 [.sl 1 (a.map Qi)] [] (Gives (.own 600 r.length) [(600,.arr 1 (r.map Qi))]):=by
 refine Qc.walk 8 func68 rfl rfl rfl fun C hC=>?_
 unfold QbJ at h
 refine tg_ hC [.n 9] rfl ?_
 refine AK.eqNil rfl rfl rfl (QO hC.n rfl) rfl rfl QEP ?_ ?_
 ·intro b
  replace h:some ([]:List QBg)=some r:=by simpa [chk,List.map_eq_nil_iff.1 b] using h
  refine Qa hC [.n 10,.adopt 2 600 1,.O 600 (.arr 1 (([]:List QBg).map Qi)),.S 2 (.own 600 ([]:List QBg).length)] rfl ⟨⟨tt_,rfl⟩,rfl⟩ ?_
  cases h
  exact d1_ rfl rfl ⟨rfl,tt_⟩
 obtain⟨c,h⟩:=QaX h
 refine Qa hC [.n 8,.O 5 (.arr 1 (([]:List QBg).map Qi)),.S 5 (.own 5 ([]:List QBg).length),.n 1,.app ((([]:List QBg)++a).map Qi) (([]:List QBg)++a).length,.n 4,.K [2] [5],.ren 5 600] rfl ⟨⟨⟨tt_,rfl⟩,rfl⟩,⟨Qf,QbP c Qf,QaZ,QcP Qf⟩⟩ ?_
 cases h
 exact d1_ rfl rfl ⟨rfl,tt_⟩
def QhK (e:QMk)(a:Int)(b:QMk):Option ((Int×QMk)⊕QMk):=
 bif (decide (a<(e.length:Int)))then
 (idx b a).bind fun c=>
 (Qa0 c).bind fun d=>
 (idx b a).bind fun f=>
 some (.inl ((w64 (a+1)),(b.set a.toNat d)))
 else
 some (.inr b)
def Qrt (a:QMk):Option QMk:=
 some a
def QiZ (b:QMk):Option QMk:=
 (QbJ b).bind fun a=>
 (QK (fun st=>QhK a st.1 st.2) (0,a)).bind (fun q=>Qrt q)
theorem Qnd (t){r}(h:QiZ t=some r):Qc prog 39 [.sl 1 (t.map Qi)] [] (Gives (.own 600 r.length) [(600,.arr 1 (r.map Qi))]):=by
 refine Qc.walk 22 func39 rfl rfl rfl fun C hC=>?_
 obtain⟨j,k,h⟩:=Qb h
 refine Qa hC [.n 8,.o (.co false [.d] 1 (j.map Qi) j.length),.n 12,.K [3,8,9,10] [7]] rfl ⟨tt_,⟨(QjT _ k),Qf,.inl rfl⟩⟩ ?_
 obtain⟨u,g,h⟩:=Qb h
 refine AK.loop (body:=(fun st=>QhK j st.1 st.2)) (fun st σ=>σ=⟨[(3,.own 7 st.2.length),(8,.own 7 st.2.length),(9,.I (j.length:Int)),(10,.I st.1)],[(7,.arr 1 (st.2.map Qi))]⟩) (fun q e σ=>e=.exit 0∧σ=⟨[(3,.own 7 q.length)],[(7,.arr 1 (q.map Qi))]⟩) g rfl ?_ ?_
 ·rintro ⟨l,m⟩ o σ rfl h
  refine tg_ hC [.n 6] rfl ?_
  rcases Qr h with⟨b,h⟩|⟨b,h⟩
  ·obtain⟨p,c,h⟩:=Qb h
   obtain⟨a,i,h⟩:=Qb h
   obtain⟨s,f,h⟩:=Qb h
   refine Qa hC [.T,.n 8,.o (.row (Qi p)),.n 8,.o (.co false [.d] 2 (a.map QF) a.length),.n 1,.frz 18 (a.map QF) [18] [],.st (Qi s) ((m.set l.toNat a).map Qi),.n 7,.S 3 (.own 7 (m.set l.toNat a).length),.S 8 (.own 7 (m.set l.toNat a).length),.K [3,8,9,10] [7]] rfl ⟨⟨⟨⟨⟨⟨⟨⟨⟨tt_,b⟩,(Qda c rfl)⟩,(QbV (QdE c).2)⟩,⟨(Qgt _ i),Qf,.inl rfl⟩⟩,(Qda f rfl)⟩,⟨tt_,(Qb7 Qf)⟩⟩,⟨(QbV (QdE f).2),Qme rfl⟩⟩,(congrArg (fun n=>V.own 7 n) (by simp))⟩,(congrArg (fun n=>V.own 7 n) (by simp))⟩ ?_
   cases h
   exact Q4 rfl rfl
  refine Qa hC [.F,.n 2,.K [3] [7]] rfl ⟨tt_,b⟩ ?_
  cases h
  exact Q6 rfl (an_ rfl rfl)
 replace h:Qrt u=some r:=h
 rintro e σ ⟨rfl,rfl⟩
 refine tg_ hC [.n 9,.K [2] [7],.ren 7 600] rfl ?_
 cases h
 exact d1_ rfl rfl ⟨rfl,tt_⟩
def Qpk (c:Int)(a:Int)(b:(List Int)):Option ((Int×(List Int))⊕(List Int)):=
 bif (decide (0≤a))then
 (chk (decide (0≤(w64 (8*a))))).bind fun _=>
 (chk (decide (b.length+([(IntKind.u8.wrap (Qbt .i64 c (w64 (8*a))))]:List Int).length≤4294967296))).bind fun _=>
 some (.inl ((w64 (a-1)),(b++([(IntKind.u8.wrap (Qbt .i64 c (w64 (8*a))))]:List Int))))
 else
 some (.inr b)
def Qpl (b:Int)(a:(List Int)):Option ((Int×(List Int))⊕(List Int)):=
 some (.inl ((w64 (b+1)),a))
def Qpm (d:(List Int))(a:Int)(b:Int)(e:(List Int)):Option ((Int×(List Int))⊕(List Int)):=
 bif (decide (b<(d.length:Int)))then
 (idx d b).bind fun c=>
 (QK (fun st=>Qpk c st.1 st.2) ((w64 (a-1)),e)).bind (fun q=>Qpl b q)
 else
 some (.inr e)
def Qpn (a:(List Int)):Option (List Int):=
 some a
def Qn5 (a:Int)(b:(List Int)):Option (List Int):=
 (QK (fun st=>Qpm b a st.1 st.2) (0,([]:List Int))).bind (fun q=>Qpn q)
theorem QvC (a g){r}(h:Qn5 a g=some r):Qc prog 155 [.lit (.slice none 0 0),.I a,.sl 1 (g.map Qe)] [] (Gives (.own 600 r.length) [(600,.arr 1 (r.map QaW))]):=by
 refine Qc.walk 32 func155 rfl rfl rfl fun C hC=>?_
 refine Qa hC [.n 9,.o (.ln g.length),.n 4,.adopt 0 22 1,.O 22 (.arr 1 (([]:List Int).map QaW)),.S 0 (.own 22 ([]:List Int).length),.K [0,1,10,11,12] [22]] rfl ⟨⟨⟨tt_,Qf⟩,rfl⟩,(congrArg (fun n=>V.own 22 n) (by simp))⟩ ?_
 obtain⟨x,j,h⟩:=Qb h
 refine AK.loop (body:=(fun st=>Qpm g a st.1 st.2)) (fun st σ=>σ=⟨[(0,.own 22 st.2.length),(1,.I a),(10,.sl 1 (g.map Qe)),(11,.I (g.length:Int)),(12,.I st.1)],[(22,.arr 1 (st.2.map QaW))]⟩) (fun q e σ=>e=.exit 0∧σ=⟨[(0,.own 22 q.length)],[(22,.arr 1 (q.map QaW))]⟩) j rfl ?_ ?_
 ·rintro ⟨u,z⟩ o σ rfl h
  refine tg_ hC [.n 6] rfl ?_
  rcases Qr h with⟨c,h⟩|⟨c,h⟩
  ·obtain⟨b,k,h⟩:=Qb h
   refine Qa hC [.T,.n 6,.o (.row (Qe b)),.n 12,.K [0,1,8,9,10,11,12] [22]] rfl ⟨⟨tt_,c⟩,(QP k)⟩ ?_
   obtain⟨w,l,h⟩:=Qb h
   refine AK.loop (body:=(fun st=>Qpk b st.1 st.2)) (fun st σ=>σ=⟨[(0,.own 22 st.2.length),(1,.I a),(8,.I b),(9,.I st.1),(10,.sl 1 (g.map Qe)),(11,.I (g.length:Int)),(12,.I u)],[(22,.arr 1 (st.2.map QaW))]⟩) (fun q e σ=>e=.exit 2∧σ=⟨[(0,.own 22 q.length),(1,.I a),(10,.sl 1 (g.map Qe)),(11,.I (g.length:Int)),(12,.I u)],[(22,.arr 1 (q.map QaW))]⟩) l rfl ?_ ?_
   ·rintro ⟨d,m⟩ o σ rfl h
    refine tg_ hC [.n 7] rfl ?_
    rcases Qr h with⟨f,h⟩|⟨f,h⟩
    ·obtain⟨p,h⟩:=QaX h
     obtain⟨s,h⟩:=QaX h
     refine Qa hC [.T,.n 9,.o (.any (.I (Qbt .i64 b (w64 (8*d)))) none),.o (.any (.i .u8 (IntKind.u8.wrap (Qbt .i64 b (w64 (8*d))))) none),.v (.bd []) [] (.sl 1 (([(IntKind.u8.wrap (Qbt .i64 b (w64 (8*d))))]:List Int).map QaW)),.app ((m++([(IntKind.u8.wrap (Qbt .i64 b (w64 (8*d))))]:List Int)).map QaW) (m++([(IntKind.u8.wrap (Qbt .i64 b (w64 (8*d))))]:List Int)).length,.n 9,.K [0,1,8,9,10,11,12] [22]] rfl ⟨⟨⟨⟨⟨tt_,f⟩,(fun σ t y _=>Stp.shr rfl rfl (QO hC.n rfl) (t _ _ rfl) (t _ _ rfl) (Q8 p))⟩,(fun σ t y _=>Stp.convI rfl rfl (QO hC.n rfl) (t _ _ rfl) QvB QAt)⟩,rfl⟩,⟨Qf,QbP s Qf,QaZ,QcP Qf⟩⟩ ?_
     cases h
     exact Q4 rfl rfl
    refine Qa hC [.F,.n 2,.K [0,1,10,11,12] [22]] rfl ⟨tt_,f⟩ ?_
    cases h
    exact Q6 rfl (an_ rfl rfl)
   replace h:Qpl u w=some o:=h
   rintro e σ ⟨rfl,rfl⟩
   refine tg_ hC [.n 7,.K [0,1,10,11,12] [22]] rfl ?_
   cases h
   exact Q4 rfl rfl
  refine Qa hC [.F,.n 2,.K [0] [22]] rfl ⟨tt_,c⟩ ?_
  cases h
  exact Q6 rfl (an_ rfl rfl)
 replace h:Qpn x=some r:=h
 rintro e σ ⟨rfl,rfl⟩
 refine tg_ hC [.n 9,.K [6] [22],.ren 22 600] rfl ?_
 cases h
 exact d1_ rfl rfl ⟨rfl,tt_⟩
def Qen (c:Int)(a:Int)(b:(List Int)):Option ((Int×(List Int))⊕(List Int)):=
 bif (decide (0≤a))then
 (chk (decide (0≤(w64 (8*a))))).bind fun _=>
 (chk (decide (b.length+([(IntKind.u8.wrap (Qbt .i64 c (w64 (8*a))))]:List Int).length≤4294967296))).bind fun _=>
 some (.inl ((w64 (a-1)),(b++([(IntKind.u8.wrap (Qbt .i64 c (w64 (8*a))))]:List Int))))
 else
 some (.inr b)
def QlN (b:Int)(a:(List Int)):Option ((Int×(List Int))⊕(List Int)):=
 some (.inl ((w64 (b+1)),a))
def Qf0 (d:(List Int))(a:Int)(b:Int)(e:(List Int)):Option ((Int×(List Int))⊕(List Int)):=
 bif (decide (b<(d.length:Int)))then
 (idx d b).bind fun c=>
 (QK (fun st=>Qen c st.1 st.2) ((w64 (a-1)),e)).bind (fun q=>QlN b q)
 else
 some (.inr e)
def Qpo (a:(List Int)):Option (List Int):=
 some a
def QgB (b:(List Int))(a:Int)(c:(List Int)):Option (List Int):=
 (QK (fun st=>Qf0 c a st.1 st.2) (0,b)).bind (fun q=>Qpo q)
theorem Qpp (u a g){r}(h:QgB u a g=some r):Qc prog 155 [.own 615 u.length,.I a,.sl 1 (g.map Qe)] [(615,.arr 1 (u.map QaW))] (Gives (.own 615 r.length) [(615,.arr 1 (r.map QaW))]):=by
 refine Qc.walk 32 func155 rfl rfl rfl fun C hC=>?_
 refine Qa hC [.n 9,.o (.ln g.length),.n 4,.K [0,1,10,11,12] [615]] rfl ⟨tt_,Qf⟩ ?_
 obtain⟨w,j,h⟩:=Qb h
 refine AK.loop (body:=(fun st=>Qf0 g a st.1 st.2)) (fun st σ=>σ=⟨[(0,.own 615 st.2.length),(1,.I a),(10,.sl 1 (g.map Qe)),(11,.I (g.length:Int)),(12,.I st.1)],[(615,.arr 1 (st.2.map QaW))]⟩) (fun q e σ=>e=.exit 0∧σ=⟨[(0,.own 615 q.length)],[(615,.arr 1 (q.map QaW))]⟩) j rfl ?_ ?_
 ·rintro ⟨x,A⟩ o σ rfl h
  refine tg_ hC [.n 6] rfl ?_
  rcases Qr h with⟨c,h⟩|⟨c,h⟩
  ·obtain⟨b,k,h⟩:=Qb h
   refine Qa hC [.T,.n 6,.o (.row (Qe b)),.n 12,.K [0,1,8,9,10,11,12] [615]] rfl ⟨⟨tt_,c⟩,(QP k)⟩ ?_
   obtain⟨y,l,h⟩:=Qb h
   refine AK.loop (body:=(fun st=>Qen b st.1 st.2)) (fun st σ=>σ=⟨[(0,.own 615 st.2.length),(1,.I a),(8,.I b),(9,.I st.1),(10,.sl 1 (g.map Qe)),(11,.I (g.length:Int)),(12,.I x)],[(615,.arr 1 (st.2.map QaW))]⟩) (fun q e σ=>e=.exit 2∧σ=⟨[(0,.own 615 q.length),(1,.I a),(10,.sl 1 (g.map Qe)),(11,.I (g.length:Int)),(12,.I x)],[(615,.arr 1 (q.map QaW))]⟩) l rfl ?_ ?_
   ·rintro ⟨d,m⟩ o σ rfl h
    refine tg_ hC [.n 7] rfl ?_
    rcases Qr h with⟨f,h⟩|⟨f,h⟩
    ·obtain⟨p,h⟩:=QaX h
     obtain⟨s,h⟩:=QaX h
     refine Qa hC [.T,.n 9,.o (.any (.I (Qbt .i64 b (w64 (8*d)))) none),.o (.any (.i .u8 (IntKind.u8.wrap (Qbt .i64 b (w64 (8*d))))) none),.v (.bd []) [] (.sl 1 (([(IntKind.u8.wrap (Qbt .i64 b (w64 (8*d))))]:List Int).map QaW)),.app ((m++([(IntKind.u8.wrap (Qbt .i64 b (w64 (8*d))))]:List Int)).map QaW) (m++([(IntKind.u8.wrap (Qbt .i64 b (w64 (8*d))))]:List Int)).length,.n 9,.K [0,1,8,9,10,11,12] [615]] rfl ⟨⟨⟨⟨⟨tt_,f⟩,(fun σ t z _=>Stp.shr rfl rfl (QO hC.n rfl) (t _ _ rfl) (t _ _ rfl) (Q8 p))⟩,(fun σ t z _=>Stp.convI rfl rfl (QO hC.n rfl) (t _ _ rfl) QvB QAt)⟩,rfl⟩,⟨Qf,QbP s Qf,QaZ,QcP Qf⟩⟩ ?_
     cases h
     exact Q4 rfl rfl
    refine Qa hC [.F,.n 2,.K [0,1,10,11,12] [615]] rfl ⟨tt_,f⟩ ?_
    cases h
    exact Q6 rfl (an_ rfl rfl)
   replace h:QlN x y=some o:=h
   rintro e σ ⟨rfl,rfl⟩
   refine tg_ hC [.n 7,.K [0,1,10,11,12] [615]] rfl ?_
   cases h
   exact Q4 rfl rfl
  refine Qa hC [.F,.n 2,.K [0] [615]] rfl ⟨tt_,c⟩ ?_
  cases h
  exact Q6 rfl (an_ rfl rfl)
 replace h:Qpo w=some r:=h
 rintro e σ ⟨rfl,rfl⟩
 refine tg_ hC [.n 9] rfl ?_
 cases h
 exact d1_ rfl rfl ⟨rfl,tt_⟩
def QlO (a:QBg):Option Bool:=
 (Qc3 a).bind fun b=>
 bif (!b)then
 some true
 else
 bif (decide (65535<(a.length:Int)))then
 some true
 else
 bif (decide (0<(a.length:Int)))then
 (idx a (w64 ((a.length:Int)-1))).bind fun c=>
 some (decide (4294967295<c.1))
 else
 some false
def Qf1 (b:QBg)(a:Int)(c:(List Int)):Option ((Int×(List Int))⊕(List Int)):=
 bif (decide (a<(b.length:Int)))then
 (idx b a).bind fun d=>
 (QgB c 4 ([d.1,d.2]:List Int)).bind fun e=>
 some (.inl ((w64 (a+1)),e))
 else
 some (.inr c)
def QlP (b:Int)(a:(List Int)):Option ((Int×(List Int))⊕(Unit⊕(List Int))):=
 some (.inl ((w64 (b+1)),a))
def Qii (b:(List Int))(a:QBg)(e:Int)(c:Bool):Option ((Int×(List Int))⊕(Unit⊕(List Int))):=
 bif c then
 some (.inr (.inl ()))
 else
 (QgB b 2 ([(a.length:Int)]:List Int)).bind fun d=>
 (QK (fun st=>Qf1 a st.1 st.2) (0,d)).bind (fun q=>QlP e q)
def Qf2 (e:QMk)(c:Int)(a:(List Int)):Option ((Int×(List Int))⊕(Unit⊕(List Int))):=
 bif (decide (c<(e.length:Int)))then
 (idx e c).bind fun b=>
 (QlO b).bind (fun d=>Qii a b c d)
 else
 some (.inr (.inr a))
def Qpq : Option ((List Int)×Int):=
 some (([]:List Int),1)
def Qpr (a:(List Int)):Option ((List Int)×Int):=
 some (a,0)
def QgC (a:QMk):Option ((List Int)×Int):=
 bif (decide (64<(a.length:Int)))then
 some (([]:List Int),1)
 else
 (Qn5 1 ([(a.length:Int)]:List Int)).bind fun b=>
 (QK (fun st=>Qf2 a st.1 st.2) (0,b)).bind (Sum.elim (fun q=>Qpq) (fun q=>Qpr q))
theorem Qps (f){r}(h:QgC f=some r):Qc prog 107 [.sl 1 (f.map Qi)] [] (Gives (.tup [.sl 1 (r.1.map QaW),.I r.2]) []):=by
 refine Qc.walk 66 func107 rfl rfl rfl fun C hC=>?_
 refine Qa hC [.n 10,.o (.ln f.length),.n 3] rfl ⟨tt_,Qf⟩ ?_
 rcases Qr h with⟨t,h⟩|⟨t,h⟩
 ·refine Qa hC [.T,.n 8,.denil 2 [some 1]] rfl ⟨tt_,t⟩ ?_
  cases h
  exact d2_ rfl rfl rfl tt_
 obtain⟨Y,N,h⟩:=Qb h
 refine Qa hC [.F,.n 5,.o (.ln f.length),.v (.bd []) [] (.sl 1 (([(f.length:Int)]:List Int).map Qe)),.cm (.fn) [] [(15,600)] [] [.d,.d,.d] [(600,.arr 1 (Y.map QaW))] (.own 600 Y.length),.n 7,.o (.ln f.length),.n 4,.K [4,16,17,18] [15]] rfl ⟨⟨⟨⟨⟨tt_,t⟩,Qf⟩,rfl⟩,(QvC _ _ N)⟩,Qf⟩ ?_
 obtain⟨P,x,h⟩:=Qb h
 refine AK.loop (body:=(fun st=>Qf2 f st.1 st.2)) (fun st σ=>σ=⟨[(4,.own 15 st.2.length),(16,.sl 1 (f.map Qi)),(17,.I (f.length:Int)),(18,.I st.1)],[(15,.arr 1 (st.2.map QaW))]⟩) (Sum.elim (fun q e σ=>e=.ret∧σ=⟨[(2,.lit (.slice none 0 0)),(3,.I 1)],[]⟩) (fun q e σ=>e=.exit 0∧σ=⟨[(4,.own 15 q.length)],[(15,.arr 1 (q.map QaW))]⟩)) x rfl ?_ ?_
 ·rintro ⟨w,s⟩ o σ rfl h
  refine tg_ hC [.n 6] rfl ?_
  rcases Qr h with⟨g,h⟩|⟨g,h⟩
  ·obtain⟨a,y,h⟩:=Qb h
   refine Qa hC [.T,.n 6,.o (.row (Qi a)),.n 6] rfl ⟨⟨tt_,g⟩,(QP y)⟩ ?_
   obtain⟨u,z,h⟩:=Qb h
   replace h:Qii s a w u=some o:=h
   refine AK.meetX (fun σ=>σ=⟨[(4,.own 15 s.length),(6,.sl 2 (a.map QF)),(16,.sl 1 (f.map Qi)),(17,.I (f.length:Int)),(18,.I w),(44,.b u)],[(15,.arr 1 (s.map QaW))]⟩) ?_ ?_
   ·replace h:=z
    obtain⟨U,A,h⟩:=Qb h
    refine Qa hC [.n 2,.o (.c false [.d] (.b U)),.n 2] rfl ⟨tt_,(QfP _ A)⟩ ?_
    refine bg_ h (fun i h=>Qa hC [.S 25 (.b true),.n 20,.K [4,6,16,17,18,44] [15]] rfl (tc_ i) ?_) fun i h=>Qa hC [.S 25 (.b false),.n 1,.o (.ln a.length),.n 3] rfl ⟨(tc_ i),Qf⟩ ?_
    ·cases h
     exact AK.met rfl
    refine bg_ h (fun j h=>Qa hC [.S 30 (.b true),.n 15,.K [4,6,16,17,18,44] [15]] rfl (tc_ j) ?_) fun j h=>Qa hC [.S 30 (.b false),.n 1,.o (.ln a.length),.n 2] rfl ⟨(tc_ j),Qf⟩ ?_
    ·cases h
     exact AK.met rfl
    rcases Qr h with⟨k,h⟩|⟨k,h⟩
    ·obtain⟨W,B,h⟩:=Qb h
     refine Qa hC [.S 34 (.b true),.n 2,.o (.ln a.length),.n 1,.o (.row (QF W)),.n 6,.K [4,6,16,17,18,44] [15]] rfl ⟨⟨(tc_ k),Qf⟩,(QP B)⟩ ?_
     cases h
     exact AK.met rfl
    refine Qa hC [.S 34 (.b false),.n 11,.K [4,6,16,17,18,44] [15]] rfl (tc_ k) ?_
    cases h
    exact AK.met rfl
   rintro σ rfl
   replace h:Qii s a w u=some o:=h
   refine tg_ hC [.n 1] rfl ?_
   rcases Qr h with⟨l,h⟩|⟨l,h⟩
   ·refine Qa hC [.T,.n 10,.K [2,3] []] rfl ⟨tt_,l⟩ ?_
    cases h
    exact Qar rfl (an_ rfl rfl)
   obtain⟨D,E,h⟩:=Qb h
   refine Qa hC [.F,.n 6,.o (.ln a.length),.v (.bd []) [] (.sl 1 (([(a.length:Int)]:List Int).map Qe)),.cm (.fn) [(615,15)] [(15,615)] [15] [.d,.d,.d] [(615,.arr 1 (D.map QaW))] (.own 615 D.length),.n 6,.o (.ln a.length),.n 4,.K [4,16,17,18,50,51,52] [15]] rfl ⟨⟨⟨⟨⟨tt_,l⟩,Qf⟩,rfl⟩,(Qpp _ _ _ E)⟩,Qf⟩ ?_
   obtain⟨X,G,h⟩:=Qb h
   refine AK.loop (body:=(fun st=>Qf1 a st.1 st.2)) (fun st σ=>σ=⟨[(4,.own 15 st.2.length),(16,.sl 1 (f.map Qi)),(17,.I (f.length:Int)),(18,.I w),(50,.sl 2 (a.map QF)),(51,.I (a.length:Int)),(52,.I st.1)],[(15,.arr 1 (st.2.map QaW))]⟩) (fun q e σ=>e=.exit 2∧σ=⟨[(4,.own 15 q.length),(16,.sl 1 (f.map Qi)),(17,.I (f.length:Int)),(18,.I w)],[(15,.arr 1 (q.map QaW))]⟩) G rfl ?_ ?_
   ·rintro ⟨Z,a0⟩ o σ rfl h
    refine tg_ hC [.n 6] rfl ?_
    rcases Qr h with⟨m,h⟩|⟨m,h⟩
    ·obtain⟨p,H,h⟩:=Qb h
     obtain⟨J,L,h⟩:=Qb h
     refine Qa hC [.T,.n 6,.o (.row (QF p)),.v .no [] (.agg (QF p)),.n 2,.O 8 (.var (QF p)),.n 8,.v (.bd []) [] (.sl 1 (([p.1,p.2]:List Int).map Qe)),.cm (.fn) [(615,15)] [(15,615)] [15] [.d,.d,.d] [(615,.arr 1 (J.map QaW))] (.own 615 J.length),.n 8,.K [4,16,17,18,50,51,52] [15]] rfl ⟨⟨⟨⟨⟨⟨tt_,m⟩,(QP H)⟩,rfl⟩,rfl⟩,rfl⟩,(Qpp _ _ _ L)⟩ ?_
     cases h
     exact Q4 rfl rfl
    refine Qa hC [.F,.n 2,.K [4,16,17,18] [15]] rfl ⟨tt_,m⟩ ?_
    cases h
    exact Q6 rfl (an_ rfl rfl)
   replace h:QlP w X=some o:=h
   rintro e σ ⟨rfl,rfl⟩
   refine tg_ hC [.n 7,.K [4,16,17,18] [15]] rfl ?_
   cases h
   exact Q4 rfl rfl
  refine Qa hC [.F,.n 2,.K [4] [15]] rfl ⟨tt_,g⟩ ?_
  cases h
  exact Q6 rfl (an_ rfl rfl)
 rcases P with(_ | M)
 ·replace h:Qpq=some r:=h
  rintro e σ ⟨rfl,rfl⟩
  refine tg_ hC [.n 2,.denil 2 [some 1]] rfl ?_
  cases h
  exact d2_ rfl rfl rfl tt_
 replace h:Qpr M=some r:=h
 rintro e σ ⟨rfl,rfl⟩
 refine Qa hC [.n 10,.frz 15 (M.map QaW) [2] []] rfl ⟨tt_,⟨tt_,(Qb7 Qf)⟩⟩ ?_
 cases h
 exact d2_ rfl rfl rfl tt_
def QnG (a:QMk):Option ByteArray:=
 (QgC a).bind fun b=>
 some (Qjj b.1)
theorem Qru (e){r}(h:QnG e=some r):Qc prog 67 [.sl 1 (e.map Qi)] [] (Gives (.s r) []):=by
 refine Qc.walk 12 func67 rfl rfl rfl fun C hC=>?_
 obtain⟨a,b,h⟩:=Qb h
 refine Qa hC [.n 8,.o (.c false [.d] (.tup [.sl 1 (a.1.map QaW),.I a.2])),.n 10,.o (.any (.s (Qjj a.1)) none),.n 4] rfl ⟨⟨tt_,(Qps _ b)⟩,(fun σ f g _=>Stp.b2s rfl rfl (QO hC.n rfl) (f _ _ rfl) rfl QBv QAt (Qp.sb rfl))⟩ ?_
 cases h
 exact d1_ rfl rfl tt_
def Qc4 (g:(List QJ))(h:(List QN))(i:(List QD))(j:Int)(k:Int)(f:Int)(d:(List (ByteArray×Int)))(b:(List QMk))(m:(List Qad))(c:Bool)(a:QMk):Option (Int×(List QMk)×(List QJ)×(List QN)×(List QD)×Int×Int×Int×Bool×(List (ByteArray×Int))):=
 (QnG a).bind fun e=>
 bif (QG d e).isSome then
 some (((QG d e).getD 0),b,g,h,i,j,k,f,c,d)
 else
 bif (decide ((min2 f 4096)≤(b.length:Int)))then
 some ((-1),b,g,h,i,j,k,f,c,d)
 else
 (QnG a).bind fun l=>
 (chk (decide (b.length+([a]:List QMk).length≤4294967296))).bind fun _=>
 some ((b.length:Int),(b++([a]:List QMk)),g,h,i,j,k,f,c,(Qan ltS d l (b.length:Int)))
theorem Qjl (D E G H J L q p w t g){r}(h:Qc4 D E G H J L q p w t g=some r):Qc prog 38 [.loc 617 0 0,.sl 1 (g.map Qi)] [(617,.var [.sl 7 (D.map Qu),.sl 3 (E.map Qq),.sl 14 (G.map Qh),.I H,.I J,.I L,.map 618,.own 615 p.length,.own 616 w.length,.b t]),(618,.map (QA V.s V.I q)),(615,.arr 1 (p.map Qt)),(616,.arr 6 (w.map QS))] (Gives (.I r.1) [(615,.arr 1 (r.2.1.map Qt)),(616,.arr 6 (w.map QS)),(617,.var [.sl 7 (r.2.2.1.map Qu),.sl 3 (r.2.2.2.1.map Qq),.sl 14 (r.2.2.2.2.1.map Qh),.I r.2.2.2.2.2.1,.I r.2.2.2.2.2.2.1,.I r.2.2.2.2.2.2.2.1,.map 618,.own 615 r.2.1.length,.own 616 w.length,.b r.2.2.2.2.2.2.2.2.1]),(618,.map (QA V.s V.I r.2.2.2.2.2.2.2.2.2))]):=by
 refine Qc.walk 59 func38 rfl rfl rfl fun C hC=>?_
 obtain⟨o,y,h⟩:=Qb h
 refine tg_ hC [.n 6,.K [0,1] [615,616,617,618]] rfl ?_
 refine AK.draw2 Qp hC mixed [.N,.N,.N,.N,.N,.a (.c false [.d] (.s o)) none false,.a (.any (.tup [.I ((QG q o).getD 0),.b (QG q o).isSome]) none) none false,.N,.N,.N,.N,.N] [] [] [0,1,5,6] [615,616,617,618] rfl rfl rfl ⟨⟨tt_,(Qru _ y)⟩,(fun σ x M _=>Stp.lookupOk (e:=V.s) (f:=V.I) (l:=q) (k:=o) (z:=0) rfl rfl (QO hC.n rfl) (x _ _ rfl) (M _ _ rfl) (x _ _ rfl) QDi QsC QkZ rfl rfl)⟩ rfl (by kernel_rfl) rfl rfl rfl ?_
 refine tg_ hC [.n 9] rfl ?_
 refine bg_ h (fun i h=>Qa hC [.T,.n 9,.K [4] [615,616,617,618]] rfl ⟨tt_,i⟩ ?_) fun i h=>Qa hC [.F,.n 1,.K [0,1] [615,616,617,618]] rfl ⟨tt_,i⟩ ?_
 ·cases h
  exact d1_ rfl rfl ⟨rfl,rfl,rfl,rfl,tt_⟩
 refine AK.draw2 Qp hC mixed [.N,.N,.N,.N,.N,.N,.N,.N,.N,.N,.N,.N,.N] [] [] [0,1,20] [615,616,617,618] rfl rfl rfl tt_ rfl (by kernel_rfl) rfl rfl rfl ?_
 refine tg_ hC [.n 1] rfl ?_
 rcases Qr h with⟨j,h⟩|⟨j,h⟩
 ·refine Qa hC [.T,.n 8] rfl ⟨tt_,j⟩ ?_
  cases h
  exact d1_ rfl rfl ⟨rfl,rfl,rfl,rfl,tt_⟩
 obtain⟨u,A,h⟩:=Qb h
 refine Qa hC [.F,.n 15,.K [0,1,5] [615,616,617,618]] rfl ⟨tt_,j⟩ ?_
 refine AK.draw2 Qp hC mixed [.N,.N,.N,.N,.N,.a (.c false [.d] (.s u)) none false,.N,.m (.any ⟨[],[(618,.map (QA V.s V.I (Qan ltS q u (p.length:Int))))],none⟩)] [] [] [0,1,5] [615,616,617,618] rfl rfl rfl ⟨⟨tt_,(Qru _ A)⟩,(fun σ x M=>Stp.mapUpdate (e:=V.s) (f:=V.I) (l:=q) (k:=u) (v:=(p.length:Int)) ltS rfl rfl (x _ _ rfl) (M _ _ rfl) (x _ _ rfl) (x _ _ rfl) QDi QsC rfl)⟩ rfl (by kernel_rfl) rfl rfl rfl ?_
 obtain⟨B,h⟩:=QaX h
 refine Qa hC [.n 10,.v (.bd []) [] (.sl 1 (([g]:List QMk).map Qt)),.app ((p++([g]:List QMk)).map Qt) (p++([g]:List QMk)).length,.n 4,.O 617 (.var [.sl 7 (D.map Qu),.sl 3 (E.map Qq),.sl 14 (G.map Qh),.I H,.I J,.I L,.map 618,.own 615 (p++([g]:List QMk)).length,.own 616 w.length,.b t]),.n 9] rfl ⟨⟨⟨tt_,rfl⟩,⟨Qf,QbP B Qf,QaZ,QcP Qf⟩⟩,rfl⟩ ?_
 cases h
 exact d1_ rfl rfl ⟨rfl,rfl,rfl,rfl,tt_⟩
def Qrv (a:Unit):Option Int:=
 some 0
noncomputable def Qeo (n9:Int)(k11:Int)(v12:Int):Option (Int⊕Empty):=
 some (.inl (w64 (n9+v12)))
def Qrw (a:Int):Option Int:=
 some a
noncomputable def Qkz (a6:QBg):Option Int:=
 (QiN (fun st p=>Qeo st p.1 p.2) 0 a6).bind (Sum.elim (fun q=>Qrw q) (fun q=>Empty.elim q))
def QnH (a:QBg):Option Int:=
 (QlM a).bind (Sum.elim (fun q=>Qrv q) (fun q=>Qkz q))
theorem Qxo (w){r}(h:QnH w=some r):Qc prog 69 [.sl 2 (w.map QF)] [] (Gives (.I r) []):=by
 refine Qc.walk 23 func69 rfl rfl rfl fun C hC=>?_
 obtain⟨z,g,h⟩:=Qb h
 refine tg_ hC [.n 8] rfl ?_
 rcases z with(A | t)
 ·replace h:Qrv A=some r:=h
  refine Qa hC [.cm (.fn) [] [] [] [.d] [] (.tup [.lit (.map none),.b false]),.n 16,.x (fun σ=>(σ.set 14 .itr0).put 14 (.loc 14 0 0)),.n 3] rfl ⟨⟨tt_,(QfK _ g)⟩,(Stp.range0 rfl rfl (QO hC.n rfl) rfl QeN rfl)⟩ ?_
  refine AK.loopOnce ?_
  refine Qa hC [.n 2,.x (fun σ=>σ.put 15 (.tup [.b false])),.n 17] rfl ⟨tt_,(Stp.next0 rfl rfl (QO hC.n rfl) rfl rfl)⟩ ?_
  cases h
  exact d1_ rfl rfl tt_
 replace h:Qkz t=some r:=h
 refine Qa hC [.cm (.fn) [] [(10,601)] [] [.d] [(601,.map (QA V.I V.I t))] (.tup [.map 601,.b true]),.n 16] rfl ⟨tt_,(QfK _ g)⟩ ?_
 refine AK.openMap (b:=10) Qdg rfl fun a c L7 i j=>?_
 refine Qa hC [.x (fun σ=>(σ.set 14 (.itr a c #[] none)).put 14 (.loc 14 0 0)),.n 3,.K [5,14] [10,14]] rfl ⟨tt_,(Stp.range (b:=10) rfl rfl (QO hC.n rfl) rfl rfl QeN rfl)⟩ ?_
 obtain⟨u,k,h⟩:=Qb h
 refine AK.range (body:=(fun st p=>Qeo st p.1 p.2)) (fun st seen σ=>∃cur:Option MapEntry,σ=⟨[(5,.I st),(14,.loc 14 0 0)],[(10,.mapX a c (QhG V.I V.I L7) (QA V.I V.I t)),(14,.itr a c seen cur)]⟩) (fun (q:Empty) _ _=>False) (fun st e σ=>e=.exit 0∧σ=⟨[(5,.I st)],[]⟩) i j k (ex_ _ rfl) ?_ ?_
 ·rintro v seen σ ⟨cur,rfl⟩ hex
  refine tg_ hC [.n 2] rfl ?_
  refine AK.nextT (b:=14) (m:=10) rfl rfl rfl (QO hC.n rfl) rfl rfl rfl rfl ?_ ?_
  ·intro hleft
   refine tg_ hC [.n 7,.K [5] []] rfl ?_
   exact AK.done (Or.inl (an_ hleft (an_ (fun h=>(by cases h)) (an_ rfl rfl))))
  intro y l s f
  obtain⟨o,h⟩:=hex _ f
  have ho:=h
  replace h:Qeo v l s=some o:=h
  refine Qa hC [.n 10,.x (fun σ=>σ.put 17 (.tup [.I l,.I s])),.n 11,.K [5,14] [10,14]] rfl ⟨tt_,(Stp.entryT (b:=14) (m:=10) rfl rfl (QO hC.n rfl) rfl f rfl rfl)⟩ ?_
  cases h
  exact AK.done (Or.inr (ex_ _ (an_ f (Or.inl (ex_ _ (an_ ho (an_ rfl (ex_ _ rfl))))))))
 rcases u with(v | q)
 ·replace h:Qrw v=some r:=h
  rintro e σ ⟨rfl,rfl⟩
  refine tg_ hC [.n 9] rfl ?_
  cases h
  exact d1_ rfl rfl tt_
 exact q.elim
def QgJ (c:QMk)(d:Int)(a:Int):Option ((Int×Int)⊕Int):=
 bif (decide (a<(c.length:Int)))then
 (idx c a).bind fun e=>
 (QnH e).bind fun b=>
 some (.inl ((w64 (d+b)),(w64 (a+1))))
 else
 some (.inr d)
def Qqs (a:Int):Option Int:=
 some a
def Qj1 (a:QMk):Option Int:=
 (QK (fun st=>QgJ a st.1 st.2) (0,0)).bind (fun q=>Qqs q)
theorem Qqt (b){r}(h:Qj1 b=some r):Qc prog 40 [.sl 1 (b.map Qi)] [] (Gives (.I r) []):=by
 refine Qc.walk 18 func40 rfl rfl rfl fun C hC=>?_
 refine Qa hC [.n 14,.o (.ln b.length),.n 4,.K [3,6,7,8] []] rfl ⟨tt_,Qf⟩ ?_
 obtain⟨k,f,h⟩:=Qb h
 refine AK.loop (body:=(fun st=>QgJ b st.1 st.2)) (fun st σ=>σ=⟨[(3,.I st.1),(6,.sl 1 (b.map Qi)),(7,.I (b.length:Int)),(8,.I st.2)],[]⟩) (fun q e σ=>e=.exit 0∧σ=⟨[(3,.I q)],[]⟩) f rfl ?_ ?_
 ·rintro ⟨m,p⟩ o σ rfl h
  refine tg_ hC [.n 6] rfl ?_
  rcases Qr h with⟨a,h⟩|⟨a,h⟩
  ·obtain⟨l,i,h⟩:=Qb h
   obtain⟨j,g,h⟩:=Qb h
   refine Qa hC [.T,.n 6,.o (.row (Qi l)),.n 7,.o (.c false [.d] (.I j)),.n 9,.K [3,6,7,8] []] rfl ⟨⟨⟨tt_,a⟩,(QP i)⟩,(Qxo _ g)⟩ ?_
   cases h
   exact Q4 rfl rfl
  refine Qa hC [.F,.n 2,.K [3] []] rfl ⟨tt_,a⟩ ?_
  cases h
  exact Q6 rfl (an_ rfl rfl)
 replace h:Qqs k=some r:=h
 rintro e σ ⟨rfl,rfl⟩
 refine tg_ hC [.n 9] rfl ?_
 cases h
 exact d1_ rfl rfl tt_
def Qfk (a:QLL):Option QLL:=
 some a
def Qoh (b:Int)(a:Int)(c:(List Int)):Option ((Int×(List Int))⊕(List Int)):=
 bif (decide (a<b))then
 (chk (decide (c.length+([a]:List Int).length≤4294967296))).bind fun _=>
 some (.inl ((w64 (a+1)),(c++([a]:List Int))))
 else
 some (.inr c)
def Qoi (a:(List Int)):Option QLL:=
 some ([a]:List (List Int))
def Qoj (b:Int)(a:Int)(c:QLL):Option ((Int×QLL)⊕QLL):=
 bif (decide (a<b))then
 (chk (decide (c.length+([([a]:List Int)]:List (List Int)).length≤4294967296))).bind fun _=>
 some (.inl ((w64 (a+1)),(c++([([a]:List Int)]:List (List Int)))))
 else
 some (.inr c)
def Qk0 (a:QLL):Option QLL:=
 Qfk a
def Qk1 (a:Int)(b:(List Int)):Option ((Int×(List Int))⊕(List Int)):=
 some (.inl ((w64 (a+1)),b))
def Qok (c:Int)(set_33:Int)(a:Int)(b:(List Int)):Option ((Int×(List Int))⊕(List Int)):=
 bif (decide (a<c))then
 (chk (decide (0≤a))).bind fun _=>
 bif ((Qd3 .i64 (Qbt .i64 set_33 a) 1)==1)then
 (chk (decide (b.length+([a]:List Int).length≤4294967296))).bind fun _=>
 Qk1 a (b++([a]:List Int))
 else
 Qk1 a b
 else
 some (.inr b)
def Qol (a:QLL)(set_33:Int)(b:(List Int)):Option ((Int×QLL)⊕QLL):=
 (chk (decide (a.length+([b]:List (List Int)).length≤4294967296))).bind fun _=>
 some (.inl ((w64 (set_33+1)),(a++([b]:List (List Int)))))
def Qom (a:Int)(set_33:Int)(b:QLL):Option ((Int×QLL)⊕QLL):=
 (chk (decide (0≤a))).bind fun _=>
 bif (decide (set_33<(QAm .i64 1 a)))then
 (QK (fun st=>Qok a set_33 st.1 st.2) (0,([]:List Int))).bind (fun q=>Qol b set_33 q)
 else
 some (.inr b)
def Qj2 (a:QLL):Option QLL:=
 Qfk a
def Qcg (b:Int)(a:Int):Option QLL:=
 bif ((decide (a<0))||((decide (16<a))||((b==3)&&(decide (4<a)))))then
 some ([]:List (List Int))
 else
 bif (b==1)then
 (QK (fun st=>Qoh a st.1 st.2) (0,([]:List Int))).bind (fun q=>Qoi q)
 else
 bif (b==2)then
 (QK (fun st=>Qoj a st.1 st.2) (0,([]:List (List Int)))).bind (fun q=>Qk0 q)
 else
 bif (b==3)then
 (QK (fun st=>Qom a st.1 st.2) (1,([]:List (List Int)))).bind (fun q=>Qj2 q)
 else
 Qfk ([]:List (List Int))
theorem Qk2 (c a){r}(h:Qcg c a=some r):Qc prog 97 [.I c,.I a] [] (Gives (.own 600 r.length) [(600,.arr 1 (r.map QL))]):=by
 refine Qc.walk 79 func97 rfl rfl rfl fun C hC=>?_
 unfold Qcg at h
 refine tg_ hC [.n 7] rfl ?_
 refine AK.meetX (fun σ=>σ=⟨[(0,.I c),(1,.I a),(25,.b ((decide (a<0))||((decide (16<a))||((c==3)&&(decide (4<a))))))],[]⟩) ?_ ?_
 ·refine tg_ hC [.n 4] rfl ?_
  rcases Q3 (decide (a<0))with f | f
  ·refine Qa hC [.S 14 (.b true),.n 12,.S 25 (.b ((decide (a<0))||((decide (16<a))||((c==3)&&(decide (4<a)))))),.K [0,1,25] []] rfl ⟨(tc_ f),(congrArg V.b (orT f rfl))⟩ ?_
   exact AK.met rfl
  refine Qa hC [.S 14 (.b false),.n 4] rfl (tc_ f) ?_
  rcases Q3 (decide (16<a))with i | i
  ·refine Qa hC [.S 18 (.b true),.n 8,.S 25 (.b ((decide (a<0))||((decide (16<a))||((c==3)&&(decide (4<a)))))),.K [0,1,25] []] rfl ⟨(tc_ i),(congrArg V.b (orF f (orT i rfl)))⟩ ?_
   exact AK.met rfl
  refine Qa hC [.S 18 (.b false),.n 3] rfl (tc_ i) ?_
  rcases Q3 (c==3)with j | j
  ·refine Qa hC [.S 21 (.b true),.n 5,.S 25 (.b ((decide (a<0))||((decide (16<a))||((c==3)&&(decide (4<a)))))),.K [0,1,25] []] rfl ⟨(tc_ j),(congrArg V.b (orF f (orF i (Qb6 j rfl))))⟩ ?_
   exact AK.met rfl
  refine Qa hC [.S 21 (.b false),.n 5,.S 25 (.b ((decide (a<0))||((decide (16<a))||((c==3)&&(decide (4<a)))))),.K [0,1,25] []] rfl ⟨(tc_ j),(congrArg V.b (orF f (orF i (Qd2 j rfl))))⟩ ?_
  exact AK.met rfl
 rintro σ rfl
 refine tg_ hC [.n 1] rfl ?_
 refine bg_ h (fun E h=>Qa hC [.T,.n 7,.adopt 4 600 1,.O 600 (.arr 1 (([]:List (List Int)).map QL)),.S 4 (.own 600 ([]:List (List Int)).length),.K [4] [600]] rfl ⟨⟨⟨tt_,E⟩,rfl⟩,rfl⟩ ?_) fun E h=>Qa hC [.F,.n 7] rfl ⟨tt_,E⟩ ?_
 ·cases h
  exact d1_ rfl rfl ⟨rfl,tt_⟩
 refine AK.meet (fun σ=>∃y:QLL,σ=⟨[(5,.own 604 y.length)],[(604,.arr 1 (y.map QL))]⟩∧Qfk y=some r) ?_ ?_
 ·refine tg_ hC [.n 12] rfl ?_
  refine bg_ h (fun k h=>Qa hC [.T,.n 13,.adopt 6 33 1,.O 33 (.arr 1 (([]:List Int).map Qe)),.S 6 (.own 33 ([]:List Int).length),.K [6,29,30] [33]] rfl ⟨⟨⟨tt_,k⟩,rfl⟩,(congrArg (fun n=>V.own 33 n) (by simp))⟩ ?_) fun k h=>Qa hC [.F,.n 6] rfl ⟨tt_,k⟩ ?_
  ·obtain⟨z,H,h⟩:=Qb h
   refine AK.loop (body:=(fun st=>Qoh a st.1 st.2)) (fun st σ=>σ=⟨[(6,.own 33 st.2.length),(29,.I a),(30,.I st.1)],[(33,.arr 1 (st.2.map Qe))]⟩) (fun q e σ=>e=.exit 1∧σ=⟨[(6,.own 33 q.length)],[(33,.arr 1 (q.map Qe))]⟩) H rfl ?_ ?_
   ·rintro ⟨G,J⟩ o σ rfl h
    refine tg_ hC [.n 6] rfl ?_
    rcases Qr h with⟨l,h⟩|⟨l,h⟩
    ·obtain⟨L,h⟩:=QaX h
     refine Qa hC [.T,.n 13,.v (.bd []) [] (.sl 1 (([G]:List Int).map Qe)),.app ((J++([G]:List Int)).map Qe) (J++([G]:List Int)).length,.n 8,.K [6,29,30] [33]] rfl ⟨⟨⟨tt_,l⟩,rfl⟩,⟨Qf,QbP L Qf,QaZ,QcP Qf⟩⟩ ?_
     cases h
     exact Q4 rfl rfl
    refine Qa hC [.F,.n 2,.K [6] [33]] rfl ⟨tt_,l⟩ ?_
    cases h
    exact Q6 rfl (an_ rfl rfl)
   replace h:Qoi z=some r:=h
   rintro e σ ⟨rfl,rfl⟩
   refine Qa hC [.n 5,.frz 33 (z.map Qe) [6,38] [],.n 1,.O 39 (.arr 1 (([z]:List (List Int)).map QL)),.S 39 (.own 39 ([z]:List (List Int)).length),.n 6,.K [4] [39],.ren 39 600] rfl ⟨⟨⟨tt_,⟨⟨tt_,(Qb7 Qf)⟩,(Qb7 Qf)⟩⟩,rfl⟩,rfl⟩ ?_
   cases h
   exact d1_ rfl rfl ⟨rfl,tt_⟩
  refine bg_ h (fun m h=>Qa hC [.T,.n 7,.adopt 5 46 1,.O 46 (.arr 1 (([]:List (List Int)).map QL)),.S 5 (.own 46 ([]:List (List Int)).length),.K [5,42,43] [46]] rfl ⟨⟨⟨tt_,m⟩,rfl⟩,(congrArg (fun n=>V.own 46 n) (by simp))⟩ ?_) fun m h=>Qa hC [.F,.n 6] rfl ⟨tt_,m⟩ ?_
  ·obtain⟨a2,M,h⟩:=Qb h
   refine AK.loop (body:=(fun st=>Qoj a st.1 st.2)) (fun st σ=>σ=⟨[(5,.own 46 st.2.length),(42,.I a),(43,.I st.1)],[(46,.arr 1 (st.2.map QL))]⟩) (fun q e σ=>e=.exit 3∧σ=⟨[(5,.own 46 q.length)],[(46,.arr 1 (q.map QL))]⟩) M rfl ?_ ?_
   ·rintro ⟨A,N⟩ o σ rfl h
    refine tg_ hC [.n 6] rfl ?_
    rcases Qr h with⟨p,h⟩|⟨p,h⟩
    ·obtain⟨P,h⟩:=QaX h
     refine Qa hC [.T,.n 13,.v (.bd []) [] (.sl 1 (([A]:List Int).map Qe)),.v (.bd []) [] (.sl 1 (([([A]:List Int)]:List (List Int)).map QL)),.app ((N++([([A]:List Int)]:List (List Int))).map QL) (N++([([A]:List Int)]:List (List Int))).length,.n 8,.K [5,42,43] [46]] rfl ⟨⟨⟨⟨tt_,p⟩,rfl⟩,rfl⟩,⟨Qf,QbP P Qf,QaZ,QcP Qf⟩⟩ ?_
     cases h
     exact Q4 rfl rfl
    refine Qa hC [.F,.n 2,.K [5] [46]] rfl ⟨tt_,p⟩ ?_
    cases h
    exact Q6 rfl (an_ rfl rfl)
   replace h:Qk0 a2=some r:=h
   unfold Qk0 at h
   rintro e σ ⟨rfl,rfl⟩
   refine tg_ hC [.n 2,.ren 46 604,.K [5] [604]] rfl ?_
   exact AK.met (ex_ _ (an_ rfl h))
  refine bg_ h (fun s h=>Qa hC [.T,.n 6,.adopt 5 74 1,.O 74 (.arr 1 (([]:List (List Int)).map QL)),.S 5 (.own 74 ([]:List (List Int)).length),.K [1,5,9] [74]] rfl ⟨⟨⟨tt_,s⟩,rfl⟩,(congrArg (fun n=>V.own 74 n) (by simp))⟩ ?_) fun s h=>Qa hC [.F,.n 2,.adopt 5 604 1,.O 604 (.arr 1 (([]:List (List Int)).map QL)),.S 5 (.own 604 ([]:List (List Int)).length),.K [5] [604]] rfl ⟨⟨⟨tt_,s⟩,rfl⟩,(congrArg (fun n=>V.own 604 n) (by simp))⟩ ?_
  ·obtain⟨a3,U,h⟩:=Qb h
   refine AK.loop (body:=(fun st=>Qom a st.1 st.2)) (fun st σ=>σ=⟨[(1,.I a),(5,.own 74 st.2.length),(9,.I st.1)],[(74,.arr 1 (st.2.map QL))]⟩) (fun q e σ=>e=.exit 5∧σ=⟨[(5,.own 74 q.length)],[(74,.arr 1 (q.map QL))]⟩) U rfl ?_ ?_
   ·rintro ⟨set_33,d⟩ o σ rfl h
    obtain⟨W,h⟩:=QaX h
    refine Qa hC [.n 5,.o (.any (.I (QAm .i64 1 a)) none),.n 3] rfl ⟨tt_,(fun σ D h2 _=>Stp.shl rfl rfl (QO hC.n rfl) (D _ _ rfl) (D _ _ rfl) (Q8 W))⟩ ?_
    refine bg_ h (fun t h=>Qa hC [.T,.n 17,.adopt 10 69 1,.O 69 (.arr 1 (([]:List Int).map Qe)),.S 10 (.own 69 ([]:List Int).length),.K [1,5,9,10,60,61] [69,74]] rfl ⟨⟨⟨tt_,t⟩,rfl⟩,(congrArg (fun n=>V.own 69 n) (by simp))⟩ ?_) fun t h=>Qa hC [.F,.n 2,.K [5] [74]] rfl ⟨tt_,t⟩ ?_
    ·obtain⟨u,X,h⟩:=Qb h
     refine AK.loop (body:=(fun st=>Qok a set_33 st.1 st.2)) (fun st σ=>σ=⟨[(1,.I a),(5,.own 74 d.length),(9,.I set_33),(10,.own 69 st.2.length),(60,.I a),(61,.I st.1)],[(69,.arr 1 (st.2.map Qe)),(74,.arr 1 (d.map QL))]⟩) (fun q e σ=>e=.exit 7∧σ=⟨[(1,.I a),(5,.own 74 d.length),(9,.I set_33),(10,.own 69 q.length)],[(69,.arr 1 (q.map Qe)),(74,.arr 1 (d.map QL))]⟩) X rfl ?_ ?_
     ·rintro ⟨g,Y⟩ o σ rfl h
      refine tg_ hC [.n 6] rfl ?_
      refine bg_ h (fun w h=>Qa hC [.T,.n 2] rfl ⟨tt_,w⟩ ?_) fun w h=>Qa hC [.F,.n 2,.K [1,5,9,10] [69,74]] rfl ⟨tt_,w⟩ ?_
      ·refine AK.meet (fun σ=>∃B:(List Int),σ=⟨[(1,.I a),(5,.own 74 d.length),(9,.I set_33),(10,.own 69 B.length),(60,.I a),(61,.I g)],[(69,.arr 1 (B.map Qe)),(74,.arr 1 (d.map QL))]⟩∧Qk1 g B=some o) ?_ ?_
       ·obtain⟨Z,h⟩:=QaX h
        refine Qa hC [.n 11,.o (.any (.I (Qbt .i64 set_33 g)) none),.o (.any (.I (Qd3 .i64 (Qbt .i64 set_33 g) 1)) none),.n 3] rfl ⟨⟨tt_,(fun σ D h2 _=>Stp.shr rfl rfl (QO hC.n rfl) (D _ _ rfl) (D _ _ rfl) (Q8 Z))⟩,(fun σ D h2 _=>Stp.andB rfl rfl (QO hC.n rfl) (D _ _ rfl) (D _ _ rfl))⟩ ?_
        rcases Qr h with⟨x,h⟩|⟨x,h⟩
        ·obtain⟨a0,h⟩:=QaX h
         refine Qa hC [.T,.n 3,.v (.bd []) [] (.sl 1 (([g]:List Int).map Qe)),.app ((Y++([g]:List Int)).map Qe) (Y++([g]:List Int)).length,.n 3,.K [1,5,9,10,60,61] [69,74]] rfl ⟨⟨⟨tt_,x⟩,rfl⟩,⟨Qf,QbP a0 Qf,QaZ,QcP Qf⟩⟩ ?_
         exact AK.met (ex_ _ (an_ rfl h))
        refine Qa hC [.F,.n 2,.K [1,5,9,10,60,61] [69,74]] rfl ⟨tt_,x⟩ ?_
        exact AK.met (ex_ _ (an_ rfl h))
       rintro σ ⟨B,rfl,h⟩
       refine tg_ hC [.n 4,.K [1,5,9,10,60,61] [69,74]] rfl ?_
       cases h
       exact Q4 rfl rfl
      cases h
      exact Q6 rfl (an_ rfl rfl)
     replace h:Qol d set_33 u=some o:=h
     rintro e σ ⟨rfl,rfl⟩
     obtain⟨a1,h⟩:=QaX h
     refine Qa hC [.n 5,.frz 69 (u.map Qe) [10,75] [],.v (.bd []) [] (.sl 1 (([u]:List (List Int)).map QL)),.app ((d++([u]:List (List Int))).map QL) (d++([u]:List (List Int))).length,.n 9,.K [1,5,9] [74]] rfl ⟨⟨⟨tt_,⟨⟨tt_,(Qb7 Qf)⟩,(Qb7 Qf)⟩⟩,rfl⟩,⟨Qf,QbP a1 Qf,QaZ,QcP Qf⟩⟩ ?_
     cases h
     exact Q4 rfl rfl
    cases h
    exact Q6 rfl (an_ rfl rfl)
   replace h:Qj2 a3=some r:=h
   unfold Qj2 at h
   rintro e σ ⟨rfl,rfl⟩
   refine tg_ hC [.n 2,.ren 74 604,.K [5] [604]] rfl ?_
   exact AK.met (ex_ _ (an_ rfl h))
  exact AK.met (ex_ _ (an_ rfl h))
 rintro σ ⟨y,rfl,h⟩
 refine tg_ hC [.n 7,.K [4] [604],.ren 604 600] rfl ?_
 cases h
 exact d1_ rfl rfl ⟨rfl,tt_⟩
def Qqu (a:Qj)(b:QD):Option (Qj×QD):=
 some (a,b)
theorem QtV (a b){r}(h:Qqu a b=some r):Qc prog 98 [.agg (Qd a),.agg (Qh b)] [] (Gives (.clo (.func 152) [] [.loc 3 0 0,.loc 2 0 0]) [(2,.var (Qd r.1)),(3,.var (Qh r.2))]):=by
 refine Qc.walk 6 func98 rfl rfl rfl fun C hC=>?_
 refine tg_ hC [.n 14] rfl ?_
 cases h
 exact d1_ rfl rfl ⟨rfl,rfl,tt_⟩
def QaM (a:(List Int)):Option (List Int):=
 (chk (decide (([]:List Int).length+a.length≤4294967296))).bind fun _=>
 some (([]:List Int)++a)
theorem Qco (a){r}(h:QaM a=some r):Qc prog 102 [.sl 1 (a.map Qe)] [] (Gives (.own 600 r.length) [(600,.arr 1 (r.map Qe))]):=by
 refine Qc.walk 8 func102 rfl rfl rfl fun C hC=>?_
 unfold QaM at h
 refine tg_ hC [.n 9] rfl ?_
 refine AK.eqNil rfl rfl rfl (QO hC.n rfl) rfl rfl QEQ ?_ ?_
 ·intro b
  replace h:some ([]:List Int)=some r:=by simpa [chk,List.map_eq_nil_iff.1 b] using h
  refine Qa hC [.n 10,.adopt 2 600 1,.O 600 (.arr 1 (([]:List Int).map Qe)),.S 2 (.own 600 ([]:List Int).length)] rfl ⟨⟨tt_,rfl⟩,rfl⟩ ?_
  cases h
  exact d1_ rfl rfl ⟨rfl,tt_⟩
 obtain⟨c,h⟩:=QaX h
 refine Qa hC [.n 8,.O 5 (.arr 1 (([]:List Int).map Qe)),.S 5 (.own 5 ([]:List Int).length),.n 1,.app ((([]:List Int)++a).map Qe) (([]:List Int)++a).length,.n 4,.K [2] [5],.ren 5 600] rfl ⟨⟨⟨tt_,rfl⟩,rfl⟩,⟨Qf,QbP c Qf,QaZ,QcP Qf⟩⟩ ?_
 cases h
 exact d1_ rfl rfl ⟨rfl,tt_⟩
def Qly (a:Int)(b:Int):Option Int:=
 bif (decide (b<a))then
 some 0
 else
 some (w64 ((w64 (min2 (IntKind.u64.wrap ((IntKind.u64.wrap b)-(IntKind.u64.wrap a))) 1024))+1))
theorem QvD (a b){r}(h:Qly a b=some r):Qc prog 275 [.I a,.I b] [] (Gives (.I r) []):=by
 refine Qc.walk 16 func275 rfl rfl rfl fun C hC=>?_
 refine tg_ hC [.n 13] rfl ?_
 refine bg_ h (fun c h=>Qa hC [.T,.n 7,.K [4] []] rfl ⟨tt_,c⟩ ?_) fun c h=>Qa hC [.F,.n 5,.o (.any (.i .u64 (IntKind.u64.wrap b)) none),.n 1,.o (.any (.i .u64 (IntKind.u64.wrap a)) none),.n 2,.o (.any (.I (w64 (min2 (IntKind.u64.wrap ((IntKind.u64.wrap b)-(IntKind.u64.wrap a))) 1024))) none),.n 5,.K [4] []] rfl ⟨⟨⟨⟨tt_,c⟩,(fun σ d e _=>Stp.convI rfl rfl (QO hC.n rfl) (d _ _ rfl) QvB QtQ)⟩,(fun σ d e _=>Stp.convI rfl rfl (QO hC.n rfl) (d _ _ rfl) QvB QtQ)⟩,(fun σ d e _=>Stp.convI rfl rfl (QO hC.n rfl) (d _ _ rfl) QtQ QvB)⟩ ?_
 ·cases h
  exact d1_ rfl rfl tt_
 cases h
 exact d1_ rfl rfl tt_
def Qe2 (a:Int):Option Bool:=
 some (bif (decide (97≤a))then((decide (a≤122))||((decide (65≤a))&&(decide (a≤90))))else((decide (65≤a))&&(decide (a≤90))))
theorem QnU (a){r}(h:Qe2 a=some r):Qc prog 253 [.i .u8 a] [] (Gives (.b r) []):=by
 refine Qc.walk 17 func253 rfl rfl rfl fun C hC=>?_
 unfold Qe2 at h
 refine tg_ hC [.n 6] rfl ?_
 refine AK.meetX (fun σ=>σ=⟨[(2,.b (bif (decide (97≤a))then((decide (a≤122))||((decide (65≤a))&&(decide (a≤90))))else((decide (65≤a))&&(decide (a≤90)))))],[]⟩) ?_ ?_
 ·refine tg_ hC [.n 4] rfl ?_
  rcases Q3 (decide (97≤a))with c | c
  ·refine Qa hC [.S 5 (.b true),.n 4] rfl (tc_ c) ?_
   rcases Q3 (decide (a≤122))with d | d
   ·refine Qa hC [.S 9 (.b true),.n 9,.S 2 (.b (bif (decide (97≤a))then((decide (a≤122))||((decide (65≤a))&&(decide (a≤90))))else((decide (65≤a))&&(decide (a≤90))))),.K [2] []] rfl ⟨(tc_ d),(congrArg V.b (QCf c (orT d rfl)))⟩ ?_
    exact AK.met rfl
   refine Qa hC [.S 9 (.b false),.n 3] rfl (tc_ d) ?_
   rcases Q3 (decide (65≤a))with e | e
   ·refine Qa hC [.S 12 (.b true),.n 6,.S 2 (.b (bif (decide (97≤a))then((decide (a≤122))||((decide (65≤a))&&(decide (a≤90))))else((decide (65≤a))&&(decide (a≤90))))),.K [2] []] rfl ⟨(tc_ e),(congrArg V.b (QCf c (orF d (Qb6 e rfl))))⟩ ?_
    exact AK.met rfl
   refine Qa hC [.S 12 (.b false),.n 6,.S 2 (.b (bif (decide (97≤a))then((decide (a≤122))||((decide (65≤a))&&(decide (a≤90))))else((decide (65≤a))&&(decide (a≤90))))),.K [2] []] rfl ⟨(tc_ e),(congrArg V.b (QCf c (orF d (Qd2 e rfl))))⟩ ?_
   exact AK.met rfl
  refine Qa hC [.S 5 (.b false),.n 7] rfl (tc_ c) ?_
  rcases Q3 (decide (65≤a))with f | f
  ·refine Qa hC [.S 12 (.b true),.n 6,.S 2 (.b (bif (decide (97≤a))then((decide (a≤122))||((decide (65≤a))&&(decide (a≤90))))else((decide (65≤a))&&(decide (a≤90))))),.K [2] []] rfl ⟨(tc_ f),(congrArg V.b (QDT c (Qb6 f rfl)))⟩ ?_
   exact AK.met rfl
  refine Qa hC [.S 12 (.b false),.n 6,.S 2 (.b (bif (decide (97≤a))then((decide (a≤122))||((decide (65≤a))&&(decide (a≤90))))else((decide (65≤a))&&(decide (a≤90))))),.K [2] []] rfl ⟨(tc_ f),(congrArg V.b (QDT c (Qd2 f rfl)))⟩ ?_
  exact AK.met rfl
 rintro σ rfl
 refine tg_ hC [.n 2] rfl ?_
 cases h
 exact d1_ rfl rfl tt_
def Qpt (a:ByteArray):Option Bool:=
 bif (Qif a (⟨#[]⟩:ByteArray))then
 some true
 else
 bif (decide (32<(a.size:Int)))then
 some true
 else
 (sidx a 0).bind fun b=>
 (Qe2 b).bind fun c=>
 some (!c)
def Qpu (a:Int):Option Bool:=
 (Qe2 a).bind fun b=>
 bif (!b)then
 bif (decide (a<48))then
 some (a != 95)
 else
 bif (decide (57<a))then
 some (a != 95)
 else
 some false
 else
 some false
def Qij (a:Int)(b:Bool):Option (Int⊕(Unit⊕Unit)):=
 bif b then
 some (.inr (.inl ()))
 else
 some (.inl (w64 (a+1)))
def Qik (d:ByteArray)(a:Int):Option (Int⊕(Unit⊕Unit)):=
 bif (decide (a<(d.size:Int)))then
 (sidx d a).bind fun b=>
 (Qpu b).bind (fun c=>Qij a c)
 else
 some (.inr (.inr ()))
def Qil : Option Bool:=
 some false
def Qim : Option Bool:=
 some true
def Qin (a:ByteArray)(b:Bool):Option Bool:=
 bif b then
 some false
 else
 (QK (fun st=>Qik a st) 0).bind (Sum.elim (fun q=>Qil) (fun q=>Qim))
def QgD (a:ByteArray):Option Bool:=
 (Qpt a).bind (fun b=>Qin a b)
theorem QlQ (l){r}(h:QgD l=some r):Qc prog 220 [.s l] [] (Gives (.b r) []):=by
 refine Qc.walk 42 func220 rfl rfl rfl fun C hC=>?_
 refine tg_ hC [.n 7] rfl ?_
 obtain⟨z,A,h⟩:=Qb h
 replace h:Qin l z=some r:=h
 refine AK.meetX (fun σ=>σ=⟨[(0,.s l),(17,.b z)],[]⟩) ?_ ?_
 ·replace h:=A
  refine tg_ hC [.n 4] rfl ?_
  refine bg_ h (fun m h=>Qa hC [.S 7 (.b true),.n 11,.K [0,17] []] rfl (tc_ m) ?_) fun m h=>Qa hC [.S 7 (.b false),.n 5] rfl (tc_ m) ?_
  ·cases h
   exact AK.met rfl
  rcases Qr h with⟨p,h⟩|⟨p,h⟩
  ·refine Qa hC [.S 12 (.b true),.n 6,.K [0,17] []] rfl (tc_ p) ?_
   cases h
   exact AK.met rfl
  obtain⟨J,B,h⟩:=Qb h
  obtain⟨L,D,h⟩:=Qb h
  refine Qa hC [.S 12 (.b false),.n 1,.o (.num J),.o (.c false [.d] (.b L)),.n 3,.K [0,17] []] rfl ⟨⟨(tc_ p),B⟩,(QnU _ D)⟩ ?_
  cases h
  exact AK.met rfl
 rintro σ rfl
 replace h:Qin l z=some r:=h
 refine tg_ hC [.n 1] rfl ?_
 refine bg_ h (fun a h=>Qa hC [.T,.n 7,.K [2] []] rfl ⟨tt_,a⟩ ?_) fun a h=>Qa hC [.F,.n 11,.K [0,19,20] []] rfl ⟨tt_,a⟩ ?_
 ·cases h
  exact d1_ rfl rfl tt_
 obtain⟨E,v,h⟩:=Qb h
 refine AK.loop (body:=(fun st=>Qik l st)) (fun st σ=>σ=⟨[(0,.s l),(19,.I (l.size:Int)),(20,.I st)],[]⟩) (Sum.elim (fun q e σ=>e=.ret∧σ=⟨[(2,.b false)],[]⟩) (fun q e σ=>e=.exit 0∧σ=⟨[],[]⟩)) v rfl ?_ ?_
 ·rintro t o σ rfl h
  refine tg_ hC [.n 6] rfl ?_
  rcases Qr h with⟨f,h⟩|⟨f,h⟩
  ·obtain⟨G,w,h⟩:=Qb h
   refine Qa hC [.T,.n 14,.o (.num G),.n 4] rfl ⟨⟨tt_,f⟩,w⟩ ?_
   obtain⟨u,x,h⟩:=Qb h
   replace h:Qij t u=some o:=h
   refine AK.meetX (fun σ=>σ=⟨[(0,.s l),(19,.I (l.size:Int)),(20,.I t),(40,.b u)],[]⟩) ?_ ?_
   ·replace h:=x
    obtain⟨H,y,h⟩:=Qb h
    refine Qa hC [.n 2,.o (.c false [.d] (.b H)),.n 2] rfl ⟨tt_,(QnU _ y)⟩ ?_
    refine bg_ h (fun g h=>Qa hC [.S 29 (.b true),.n 3] rfl (tc_ g) ?_) fun g h=>Qa hC [.S 29 (.b false),.n 12,.K [0,19,20,40] []] rfl (tc_ g) ?_
    ·refine bg_ h (fun i h=>Qa hC [.S 32 (.b true),.n 9,.K [0,19,20,40] []] rfl (tc_ i) ?_) fun i h=>Qa hC [.S 32 (.b false),.n 5] rfl (tc_ i) ?_
     ·cases h
      exact AK.met rfl
     refine bg_ h (fun j h=>Qa hC [.S 37 (.b true),.n 4,.K [0,19,20,40] []] rfl (tc_ j) ?_) fun j h=>Qa hC [.S 37 (.b false),.n 4,.K [0,19,20,40] []] rfl (tc_ j) ?_
     ·cases h
      exact AK.met rfl
     cases h
     exact AK.met rfl
    cases h
    exact AK.met rfl
   rintro σ rfl
   replace h:Qij t u=some o:=h
   refine tg_ hC [.n 1] rfl ?_
   refine bg_ h (fun k h=>Qa hC [.T,.n 8,.K [2] []] rfl ⟨tt_,k⟩ ?_) fun k h=>Qa hC [.F,.n 7,.K [0,19,20] []] rfl ⟨tt_,k⟩ ?_
   ·cases h
    exact Qar rfl (an_ rfl rfl)
   cases h
   exact Q4 rfl rfl
  refine Qa hC [.F,.n 2,.K [] []] rfl ⟨tt_,f⟩ ?_
  cases h
  exact Q6 rfl (an_ rfl rfl)
 rcases E with(_ | _)
 ·replace h:Qil=some r:=h
  rintro e σ ⟨rfl,rfl⟩
  refine tg_ hC [.n 2] rfl ?_
  cases h
  exact d1_ rfl rfl tt_
 replace h:Qim=some r:=h
 rintro e σ ⟨rfl,rfl⟩
 refine tg_ hC [.n 8] rfl ?_
 cases h
 exact d1_ rfl rfl tt_
def Qon (a:ByteArray)(c:QSB):Option Bool:=
 (QgD a).bind fun b=>
 bif (!b)then
 some true
 else
 some ((QG c a).getD false)
def Qhg (c:Int)(d:QSB)(a:ByteArray)(b:Bool):Option ((Int×QSB)⊕(Unit⊕Unit)):=
 bif b then
 some (.inr (.inl ()))
 else
 some (.inl ((w64 (c+1)),(Qan ltS d a true)))
def Qhh (d:(List ByteArray))(b:Int)(e:QSB):Option ((Int×QSB)⊕(Unit⊕Unit)):=
 bif (decide (b<(d.length:Int)))then
 (idx d b).bind fun a=>
 (Qon a e).bind (fun c=>Qhg b e a c)
 else
 some (.inr (.inr ()))
def Qhi : Option Bool:=
 some false
def Qhj : Option Bool:=
 some true
def QkA (a:(List ByteArray)):Option Bool:=
 (QK (fun st=>Qhh a st.1 st.2) (0,([]:QSB))).bind (Sum.elim (fun q=>Qhi) (fun q=>Qhj))
theorem QuM (j){r}(h:QkA j=some r):Qc prog 276 [.sl 1 (j.map Qd7)] [] (Gives (.b r) []):=by
 refine Qc.walk 24 func276 rfl rfl rfl fun C hC=>?_
 refine Qa hC [.n 8,.O 6 (.map (QA V.s V.b ([]:QSB))),.n 7,.o (.ln j.length),.n 4,.K [3,7,8,9] [6]] rfl ⟨⟨tt_,rfl⟩,Qf⟩ ?_
 obtain⟨B,u,h⟩:=Qb h
 refine AK.loop (body:=(fun st=>Qhh j st.1 st.2)) (fun st σ=>σ=⟨[(3,.map 6),(7,.sl 1 (j.map Qd7)),(8,.I (j.length:Int)),(9,.I st.1)],[(6,.map (QA V.s V.b st.2))]⟩) (Sum.elim (fun q e σ=>e=.ret∧σ=⟨[(2,.b false)],[]⟩) (fun q e σ=>e=.exit 0∧σ=⟨[],[]⟩)) u rfl ?_ ?_
 ·rintro ⟨D,m⟩ o σ rfl h
  refine tg_ hC [.n 6] rfl ?_
  rcases Qr h with⟨p,h⟩|⟨p,h⟩
  ·obtain⟨a,w,h⟩:=Qb h
   refine Qa hC [.T,.n 6,.o (.row (Qd7 a)),.n 6] rfl ⟨⟨tt_,p⟩,(QP w)⟩ ?_
   obtain⟨t,y,h⟩:=Qb h
   replace h:Qhg D m a t=some o:=h
   refine AK.meetX (fun σ=>σ=⟨[(3,.map 6),(5,.s a),(7,.sl 1 (j.map Qd7)),(8,.I (j.length:Int)),(9,.I D),(20,.b t)],[(6,.map (QA V.s V.b m))]⟩) ?_ ?_
   ·replace h:=y
    obtain⟨E,A,h⟩:=Qb h
    refine Qa hC [.n 2,.o (.c false [.d] (.b E)),.n 2] rfl ⟨tt_,(QlQ _ A)⟩ ?_
    refine bg_ h (fun g h=>Qa hC [.S 16 (.b true),.n 5,.K [3,5,7,8,9,20] [6]] rfl (tc_ g) ?_) fun g h=>Qa hC [.S 16 (.b false),.n 2,.o (.any (.b ((QG m a).getD false)) none),.n 2,.K [3,5,7,8,9,20] [6]] rfl ⟨(tc_ g),(fun σ G H _=>Stp.lookup (e:=V.s) (f:=V.b) (l:=m) (k:=a) (z:=false) rfl rfl (QO hC.n rfl) (G _ _ rfl) (H _ _ rfl) (G _ _ rfl) Qpg QsC QCC rfl)⟩ ?_
    ·cases h
     exact AK.met rfl
    cases h
    exact AK.met rfl
   rintro σ rfl
   replace h:Qhg D m a t=some o:=h
   refine tg_ hC [.n 1] rfl ?_
   refine bg_ h (fun i h=>Qa hC [.T,.n 9,.K [2] []] rfl ⟨tt_,i⟩ ?_) fun i h=>Qa hC [.F,.n 5,.x (fun σ=>σ.set 6 (.map (QA V.s V.b (Qan ltS m a true)))),.n 7,.K [3,7,8,9] [6]] rfl ⟨⟨tt_,i⟩,(Stp.mapUpdate (e:=V.s) (f:=V.b) (l:=m) (k:=a) (v:=true) ltS rfl rfl rfl rfl rfl rfl Qpg QsC rfl)⟩ ?_
   ·cases h
    exact Qar rfl (an_ rfl rfl)
   cases h
   exact Q4 rfl rfl
  refine Qa hC [.F,.n 2,.K [] []] rfl ⟨tt_,p⟩ ?_
  cases h
  exact Q6 rfl (an_ rfl rfl)
 rcases B with(_ | _)
 ·replace h:Qhi=some r:=h
  rintro e σ ⟨rfl,rfl⟩
  refine tg_ hC [.n 2] rfl ?_
  cases h
  exact d1_ rfl rfl tt_
 replace h:Qhj=some r:=h
 rintro e σ ⟨rfl,rfl⟩
 refine tg_ hC [.n 8] rfl ?_
 cases h
 exact d1_ rfl rfl tt_
def Qdh : Option Int:=
 some 0
def Qlz (b:QJ)(a:(List Int)):Option Int:=
 bif (b.Kind==1)then
 (Qly b.Lo b.Hi).bind fun e=>
 some e
 else
 bif (b.Kind==2)then
 (QkA b.Names).bind fun f=>
 bif f then
 some (b.Names.length:Int)
 else
 Qdh
 else
 bif (b.Kind==3)then
 bif ((decide (0≤(min2 b.First b.Then)))&&(decide ((max2 b.First b.Then)<(a.length:Int))))then
 (idx a b.First).bind fun c=>
 (idx a b.Then).bind fun d=>
 some (w64 (c*d))
 else
 Qdh
 else
 Qdh
theorem QvE (f e){r}(h:Qlz f e=some r):Qc prog 256 [.agg (Qu f),.sl 1 (e.map Qe)] [] (Gives (.I r) []):=by
 refine Qc.walk 51 func256 rfl rfl rfl fun C hC=>?_
 refine tg_ hC [.n 6] rfl ?_
 refine AK.meet (fun σ=>σ=⟨[],[]⟩∧Qdh=some r) ?_ ?_
 ·refine tg_ hC [.n 13] rfl ?_
  rcases Qr h with⟨k,h⟩|⟨k,h⟩
  ·obtain⟨w,s,h⟩:=Qb h
   refine Qa hC [.T,.n 6,.o (.c false [.d,.d] (.I w)),.n 6] rfl ⟨⟨tt_,k⟩,(QvD _ _ s)⟩ ?_
   cases h
   exact d1_ rfl rfl tt_
  refine Qa hC [.F,.n 6] rfl ⟨tt_,k⟩ ?_
  rcases Qr h with⟨l,h⟩|⟨l,h⟩
  ·obtain⟨x,t,h⟩:=Qb h
   refine Qa hC [.T,.n 4,.o (.c false [.d] (.b x)),.n 2] rfl ⟨⟨tt_,l⟩,(QuM _ t)⟩ ?_
   refine bg_ h (fun m h=>Qa hC [.T,.n 4,.o (.ln f.Names.length),.n 6,.K [4] []] rfl ⟨⟨tt_,m⟩,Qf⟩ ?_) fun m h=>Qa hC [.F,.n 2,.K [] []] rfl ⟨tt_,m⟩ ?_
   ·cases h
    exact d1_ rfl rfl tt_
   exact AK.met (an_ rfl h)
  refine Qa hC [.F,.n 6] rfl ⟨tt_,l⟩ ?_
  refine bg_ h (fun i h=>Qa hC [.T,.n 1] rfl ⟨tt_,i⟩ ?_) fun i h=>Qa hC [.F,.n 2,.K [] []] rfl ⟨tt_,i⟩ ?_
  ·refine AK.meetX (fun σ=>σ=⟨[(1,.sl 1 (e.map Qe)),(2,.loc 2 0 0),(39,.b ((decide (0≤(min2 f.First f.Then)))&&(decide ((max2 f.First f.Then)<(e.length:Int)))))],[(2,.var (Qu f))]⟩) ?_ ?_
   ·refine tg_ hC [.n 8] rfl ?_
    rcases Q3 (decide (0≤(min2 f.First f.Then)))with g | g
    ·refine Qa hC [.S 30 (.b true),.n 6,.o (.ln e.length),.n 3,.S 39 (.b ((decide (0≤(min2 f.First f.Then)))&&(decide ((max2 f.First f.Then)<(e.length:Int))))),.K [1,2,39] [2]] rfl ⟨⟨(tc_ g),Qf⟩,(congrArg V.b (Qb6 g rfl))⟩ ?_
     exact AK.met rfl
    refine Qa hC [.S 30 (.b false),.n 10,.S 39 (.b ((decide (0≤(min2 f.First f.Then)))&&(decide ((max2 f.First f.Then)<(e.length:Int))))),.K [1,2,39] [2]] rfl ⟨(tc_ g),(congrArg V.b (Qd2 g rfl))⟩ ?_
    exact AK.met rfl
   rintro σ rfl
   refine tg_ hC [.n 1] rfl ?_
   rcases Qr h with⟨j,h⟩|⟨j,h⟩
   ·obtain⟨u,p,h⟩:=Qb h
    obtain⟨v,q,h⟩:=Qb h
    refine Qa hC [.T,.n 1,.K [1,2] [2]] rfl ⟨tt_,j⟩ ?_
    refine AK.draw2 Qp hC mixed [.N,.N,.N,.a (.row (Qe u)) none false,.N,.N,.N,.N,.a (.row (Qe v)) none false,.N,.N,.N] [] [] [4] [] rfl rfl rfl ⟨⟨tt_,(QP p)⟩,(QP q)⟩ rfl (by kernel_rfl) rfl rfl rfl ?_
    refine tg_ hC [.n 4] rfl ?_
    cases h
    exact d1_ rfl rfl tt_
   refine Qa hC [.F,.n 2,.K [] []] rfl ⟨tt_,j⟩ ?_
   exact AK.met (an_ rfl h)
  exact AK.met (an_ rfl h)
 rintro σ ⟨rfl,h⟩
 refine tg_ hC [.n 6] rfl ?_
 cases h
 exact d1_ rfl rfl tt_
def Qoo (a:QJ)(d:QSB)(b:Int):Option Bool:=
 (QgD a.Name).bind fun c=>
 bif (!c)then
 some true
 else
 bif ((QG d a.Name).getD false)then
 some true
 else
 bif (decide (b<1))then
 some true
 else
 some (decide (1024<b))
def Qhk (a:(List Int))(b:Int)(e:Int)(f:QSB)(c:QJ)(d:Bool):Option ((Int×QSB×(List Int))⊕(Unit⊕(List Int))):=
 bif d then
 some (.inr (.inl ()))
 else
 (chk (decide (a.length+([b]:List Int).length≤4294967296))).bind fun _=>
 some (.inl ((w64 (e+1)),(Qan ltS f c.Name true),(a++([b]:List Int))))
def Qhl (f:(List QJ))(d:Int)(g:QSB)(a:(List Int)):Option ((Int×QSB×(List Int))⊕(Unit⊕(List Int))):=
 bif (decide (d<(f.length:Int)))then
 (idx f d).bind fun b=>
 (Qlz b a).bind fun c=>
 (Qoo b g c).bind (fun e=>Qhk a c d g b e)
 else
 some (.inr (.inr a))
def Qop : Option ((List Int)×Bool):=
 some (([]:List Int),false)
def Qoq (a:(List Int)):Option ((List Int)×Bool):=
 some (a,true)
def QhL (a:(List QJ)):Option ((List Int)×Bool):=
 bif (decide (32<(a.length:Int)))then
 some (([]:List Int),false)
 else
 (QK (fun st=>Qhl a st.1 st.2.1 st.2.2) (0,([]:QSB),([]:List Int))).bind (Sum.elim (fun q=>Qop) (fun q=>Qoq q))
theorem Qor (w){r}(h:QhL w=some r):Qc prog 223 [.sl 7 (w.map Qu)] [] (Gives (.tup [.sl 1 (r.1.map Qe),.b r.2]) []):=by
 refine Qc.walk 49 func223 rfl rfl rfl fun C hC=>?_
 refine Qa hC [.n 10,.o (.ln w.length),.n 3] rfl ⟨tt_,Qf⟩ ?_
 refine bg_ h (fun y h=>Qa hC [.T,.n 8,.denil 2 [some 1],.K [2,3] []] rfl ⟨tt_,y⟩ ?_) fun y h=>Qa hC [.F,.n 5,.O 12 (.map (QA V.s V.b ([]:QSB))),.n 12,.o (.ln w.length),.n 4,.adopt 5 43 1,.O 43 (.arr 1 (([]:List Int).map Qe)),.S 5 (.own 43 ([]:List Int).length),.K [4,5,13,14,15] [12,43]] rfl ⟨⟨⟨⟨⟨tt_,y⟩,rfl⟩,Qf⟩,rfl⟩,(congrArg (fun n=>V.own 43 n) (by simp))⟩ ?_
 ·cases h
  exact d2_ rfl rfl rfl tt_
 obtain⟨N,D,h⟩:=Qb h
 refine AK.loop (body:=(fun st=>Qhl w st.1 st.2.1 st.2.2)) (fun st σ=>σ=⟨[(4,.map 12),(5,.own 43 st.2.2.length),(13,.sl 7 (w.map Qu)),(14,.I (w.length:Int)),(15,.I st.1)],[(12,.map (QA V.s V.b st.2.1)),(43,.arr 1 (st.2.2.map Qe))]⟩) (Sum.elim (fun q e σ=>e=.ret∧σ=⟨[(2,.lit (.slice none 0 0)),(3,.b false)],[]⟩) (fun q e σ=>e=.exit 0∧σ=⟨[(5,.own 43 q.length)],[(43,.arr 1 (q.map Qe))]⟩)) D rfl ?_ ?_
 ·rintro ⟨P,A,g⟩ o σ rfl h
  refine tg_ hC [.n 6] rfl ?_
  rcases Qr h with⟨j,h⟩|⟨j,h⟩
  ·obtain⟨a,E,h⟩:=Qb h
   obtain⟨i,G,h⟩:=Qb h
   refine Qa hC [.T,.n 6,.o (.row (Qu a)),.v .no [] (.agg (Qu a)),.n 2,.O 7 (.var (Qu a)),.n 4,.v .no [] (.agg (Qu a)),.n 1,.o (.c true [.d,.o (g.map Qe)] (.I i)),.n 5] rfl ⟨⟨⟨⟨⟨⟨tt_,j⟩,(QP E)⟩,rfl⟩,rfl⟩,rfl⟩,⟨(Qrq rfl),(QvE _ _ G)⟩⟩ ?_
   obtain⟨B,H,h⟩:=Qb h
   replace h:Qhk g i P A a B=some o:=h
   refine AK.meetX (fun σ=>σ=⟨[(4,.map 12),(5,.own 43 g.length),(7,.loc 7 0 0),(8,.I i),(13,.sl 7 (w.map Qu)),(14,.I (w.length:Int)),(15,.I P),(39,.b B)],[(7,.var (Qu a)),(12,.map (QA V.s V.b A)),(43,.arr 1 (g.map Qe))]⟩) ?_ ?_
   ·replace h:=H
    obtain⟨U,J,h⟩:=Qb h
    refine Qa hC [.n 3,.o (.c false [.d] (.b U)),.n 2] rfl ⟨tt_,(QlQ _ J)⟩ ?_
    refine bg_ h (fun m h=>Qa hC [.S 26 (.b true),.n 14,.K [4,5,7,8,13,14,15,39] [7,12,43]] rfl (tc_ m) ?_) fun m h=>Qa hC [.S 26 (.b false),.n 3,.o (.any (.b ((QG A a.Name).getD false)) none),.n 2] rfl ⟨(tc_ m),(fun σ W X _=>Stp.lookup (e:=V.s) (f:=V.b) (l:=A) (k:=a.Name) (z:=false) rfl rfl (QO hC.n rfl) (W _ _ rfl) (X _ _ rfl) (W _ _ rfl) Qpg QsC QCC rfl)⟩ ?_
    ·cases h
     exact AK.met rfl
    refine bg_ h (fun p h=>Qa hC [.S 32 (.b true),.n 8,.K [4,5,7,8,13,14,15,39] [7,12,43]] rfl (tc_ p) ?_) fun p h=>Qa hC [.S 32 (.b false),.n 4] rfl (tc_ p) ?_
    ·cases h
     exact AK.met rfl
    refine bg_ h (fun t h=>Qa hC [.S 36 (.b true),.n 4,.K [4,5,7,8,13,14,15,39] [7,12,43]] rfl (tc_ t) ?_) fun t h=>Qa hC [.S 36 (.b false),.n 4,.K [4,5,7,8,13,14,15,39] [7,12,43]] rfl (tc_ t) ?_
    ·cases h
     exact AK.met rfl
    cases h
    exact AK.met rfl
   rintro σ rfl
   replace h:Qhk g i P A a B=some o:=h
   refine tg_ hC [.n 1] rfl ?_
   rcases Qr h with⟨u,h⟩|⟨u,h⟩
   ·refine Qa hC [.T,.n 10,.K [2,3] []] rfl ⟨tt_,u⟩ ?_
    cases h
    exact Qar rfl (an_ rfl rfl)
   obtain⟨L,h⟩:=QaX h
   refine Qa hC [.F,.n 7,.x (fun σ=>σ.set 12 (.map (QA V.s V.b (Qan ltS A a.Name true)))),.n 5,.v (.bd []) [] (.sl 1 (([i]:List Int).map Qe)),.app ((g++([i]:List Int)).map Qe) (g++([i]:List Int)).length,.n 8,.K [4,5,13,14,15] [12,43]] rfl ⟨⟨⟨⟨tt_,u⟩,(Stp.mapUpdate (e:=V.s) (f:=V.b) (l:=A) (k:=a.Name) (v:=true) ltS rfl rfl rfl rfl rfl rfl Qpg QsC rfl)⟩,rfl⟩,⟨Qf,QbP L Qf,QaZ,QcP Qf⟩⟩ ?_
   cases h
   exact Q4 rfl rfl
  refine Qa hC [.F,.n 2,.K [5] [43]] rfl ⟨tt_,j⟩ ?_
  cases h
  exact Q6 rfl (an_ rfl rfl)
 rcases N with(_ | M)
 ·replace h:Qop=some r:=h
  rintro e σ ⟨rfl,rfl⟩
  refine tg_ hC [.n 2,.denil 2 [some 1]] rfl ?_
  cases h
  exact d2_ rfl rfl rfl tt_
 replace h:Qoq M=some r:=h
 rintro e σ ⟨rfl,rfl⟩
 refine Qa hC [.n 10,.frz 43 (M.map Qe) [2] []] rfl ⟨tt_,⟨tt_,(Qb7 Qf)⟩⟩ ?_
 cases h
 exact d2_ rfl rfl rfl tt_
def QfL (a:(List QJ))(b:Int):Option (Bool×QaY):=
 (QhL a).bind fun c=>
 bif ((!c.2)||((decide (b<0))||(decide ((a.length:Int)≤b))))then
 some (false,(QaY.mk ([]:(List QJ)) ([]:(List Int)) 0))
 else
 some (true,(QaY.mk a c.1 b))
theorem Qne (i e){r}(h:QfL i e=some r):Qc prog 200 [.sl 7 (i.map Qu),.I e] [] (Gives (.tup [.agg (Q9 r.2),.b r.1]) []):=by
 refine Qc.walk 30 func200 rfl rfl rfl fun C hC=>?_
 obtain⟨j,k,h⟩:=Qb h
 refine Qa hC [.n 9,.o (.c false [.d] (.tup [.sl 1 (j.1.map Qe),.b j.2])),.n 9] rfl ⟨tt_,(Qor _ k)⟩ ?_
 refine AK.meetX (fun σ=>σ=⟨[(0,.sl 7 (i.map Qu)),(1,.I e),(4,.loc 4 0 0),(6,.sl 1 (j.1.map Qe)),(24,.b ((!j.2)||((decide (e<0))||(decide ((i.length:Int)≤e)))))],[(4,.var [.lit (.slice none 0 0),.lit (.slice none 0 0),.I 0])]⟩) ?_ ?_
 ·refine tg_ hC [.n 4] rfl ?_
  rcases Q3 (!j.2)with f | f
  ·refine Qa hC [.S 15 (.b true),.n 10,.S 24 (.b ((!j.2)||((decide (e<0))||(decide ((i.length:Int)≤e))))),.K [0,1,4,6,24] [4]] rfl ⟨(tc_ f),(congrArg V.b (orT f rfl))⟩ ?_
   exact AK.met rfl
  refine Qa hC [.S 15 (.b false),.n 4] rfl (tc_ f) ?_
  rcases Q3 (decide (e<0))with a | a
  ·refine Qa hC [.S 19 (.b true),.n 6,.S 24 (.b ((!j.2)||((decide (e<0))||(decide ((i.length:Int)≤e))))),.K [0,1,4,6,24] [4]] rfl ⟨(tc_ a),(congrArg V.b (orF f (orT a rfl)))⟩ ?_
   exact AK.met rfl
  refine Qa hC [.S 19 (.b false),.n 2,.o (.ln i.length),.n 3,.S 24 (.b ((!j.2)||((decide (e<0))||(decide ((i.length:Int)≤e))))),.K [0,1,4,6,24] [4]] rfl ⟨⟨(tc_ a),Qf⟩,(congrArg V.b (orF f (orF a rfl)))⟩ ?_
  exact AK.met rfl
 rintro σ rfl
 refine tg_ hC [.n 1] rfl ?_
 refine bg_ h (fun g h=>Qa hC [.T,.n 2,.v .no [some 7,some 1,none] (.agg (Q9 (QaY.mk ([]:(List QJ)) ([]:(List Int)) 0))),.n 1,.O 4 (.var (Q9 (QaY.mk ([]:(List QJ)) ([]:(List Int)) 0))),.n 5,.K [4,5] [4]] rfl ⟨⟨⟨tt_,g⟩,rfl⟩,rfl⟩ ?_) fun g h=>Qa hC [.F,.n 7,.v .no [] (.agg (Q9 (QaY.mk i j.1 e))),.n 1,.O 4 (.var (Q9 (QaY.mk i j.1 e))),.n 4,.K [4,5] [4]] rfl ⟨⟨⟨tt_,g⟩,rfl⟩,rfl⟩ ?_
 ·cases h
  exact AK.done (ex_ [_,_] (an_ (an_ (ex_ _ (ex_ _ (an_ rfl (an_ rfl (Or.inl (an_ (Qp.ag rfl) (an_ (Qp.sz rfl) rfl))))))) (an_ rfl tt_)) (gives tt_)))
 cases h
 exact AK.done (ex_ [_,_] (an_ (an_ (ex_ _ (ex_ _ (an_ rfl (an_ rfl (Or.inl (an_ (Qp.ag rfl) (an_ (Qp.sz rfl) rfl))))))) (an_ rfl tt_)) (gives tt_)))
def Qgh (a:Int)(b:QaY):Option Bool:=
 bif (decide (0≤a))then
 (idx b.sizes b.k).bind fun c=>
 some (decide (a<c))
 else
 some false
def Qi9 (a:Bool):Option Bool:=
 some a
def Qdi (a:QaY)(b:Int):Option Bool:=
 (Qgh b a).bind (fun c=>Qi9 c)
theorem Qm4 (f g){r}(h:Qdi f g=some r):Qc prog 216 [.agg (Q9 f),.I g] [] (Gives (.b r) []):=by
 refine Qc.walk 17 func216 rfl rfl rfl fun C hC=>?_
 refine tg_ hC [.n 7] rfl ?_
 obtain⟨c,d,h⟩:=Qb h
 replace h:Qi9 c=some r:=h
 refine AK.meetX (fun σ=>σ=⟨[(4,.b c)],[]⟩) ?_ ?_
 ·replace h:=d
  refine tg_ hC [.n 4] rfl ?_
  rcases Qr h with⟨a,h⟩|⟨a,h⟩
  ·obtain⟨i,e,h⟩:=Qb h
   refine Qa hC [.S 7 (.b true),.n 5,.o (.row (Qe i)),.n 5,.K [4] []] rfl ⟨(tc_ a),(QP e)⟩ ?_
   cases h
   exact AK.met rfl
  refine Qa hC [.S 7 (.b false),.n 11,.K [4] []] rfl (tc_ a) ?_
  cases h
  exact AK.met rfl
 rintro σ rfl
 replace h:Qi9 c=some r:=h
 refine tg_ hC [.n 2] rfl ?_
 cases h
 exact d1_ rfl rfl tt_
def Qc1 (a:QaY):Option QJ:=
 (idx a.all a.k).bind fun b=>
 some b
theorem Qg8 (c){r}(h:Qc1 c=some r):Qc prog 217 [.agg (Q9 c)] [] (Gives (.agg (Qu r)) []):=by
 refine Qc.walk 9 func217 rfl rfl rfl fun C hC=>?_
 obtain⟨a,b,h⟩:=Qb h
 refine Qa hC [.n 12,.o (.row (Qu a)),.v .no [] (.agg (Qu a)),.n 1,.O 2 (.var (Qu a)),.n 3,.K [2] [2]] rfl ⟨⟨⟨tt_,(QP b)⟩,rfl⟩,rfl⟩ ?_
 cases h
 exact AK.done (ex_ [_] (an_ (an_ (ex_ _ (ex_ _ (an_ rfl (an_ rfl (Or.inl (an_ (Qp.ag rfl) (an_ (Qp.sz rfl) rfl))))))) tt_) (gives tt_)))
def Qj3 (b:(Bool×QaY))(c:Int):Option Bool:=
 bif (!b.1)then
 some true
 else
 (Qdi b.2 c).bind fun a=>
 some (!a)
def QeP (c:(Bool×QaY))(d:Int)(e:Bool):Option (Int×Bool):=
 bif e then
 some (0,false)
 else
 (Qc1 c.2).bind fun a=>
 bif (a.Kind==1)then
 (Qc1 c.2).bind fun b=>
 some ((w64 (b.Lo+d)),true)
 else
 some (d,true)
def Qe3 (c:(List QJ))(d:Int)(a:Int):Option (Int×Bool):=
 (QfL c d).bind fun b=>
 (Qj3 b a).bind (fun e=>QeP b a e)
theorem QtW (x y i){r}(h:Qe3 x y i=some r):Qc prog 150 [.sl 7 (x.map Qu),.I y,.I i] [] (Gives (.tup [.I r.1,.b r.2]) []):=by
 refine Qc.walk 36 func150 rfl rfl rfl fun C hC=>?_
 obtain⟨g,s,h⟩:=Qb h
 refine Qa hC [.n 10,.o (.c false [.d,.d] (.tup [.agg (Q9 g.2),.b g.1])),.n 5,.O 8 (.var (Q9 g.2)),.n 6] rfl ⟨⟨tt_,(Qne _ _ s)⟩,rfl⟩ ?_
 obtain⟨t,j,h⟩:=Qb h
 replace h:QeP g i t=some r:=h
 refine AK.meetX (fun σ=>σ=⟨[(2,.I i),(8,.loc 8 0 0),(16,.b t)],[(8,.var (Q9 g.2))]⟩) ?_ ?_
 ·replace h:=j
  refine tg_ hC [.n 4] rfl ?_
  rcases Qr h with⟨a,h⟩|⟨a,h⟩
  ·refine Qa hC [.S 19 (.b true),.n 7,.K [2,8,16] [8]] rfl (tc_ a) ?_
   cases h
   exact AK.met rfl
  obtain⟨u,k,h⟩:=Qb h
  refine Qa hC [.S 19 (.b false),.v .no [] (.agg (Q9 g.2)),.n 1,.o (.c false [.d,.d] (.b u)),.n 4,.K [2,8,16] [8]] rfl ⟨⟨(tc_ a),rfl⟩,(Qm4 _ _ k)⟩ ?_
  cases h
  exact AK.met rfl
 rintro σ rfl
 replace h:QeP g i t=some r:=h
 refine tg_ hC [.n 1] rfl ?_
 rcases Qr h with⟨e,h⟩|⟨e,h⟩
 ·refine Qa hC [.T,.n 9] rfl ⟨tt_,e⟩ ?_
  cases h
  exact d2_ rfl rfl rfl tt_
 obtain⟨l,m,h⟩:=Qb h
 refine Qa hC [.F,.n 2,.v .no [] (.agg (Q9 g.2)),.o (.c false [.d] (.agg (Qu l))),.o (.any (.I l.Kind) none),.n 4] rfl ⟨⟨⟨⟨tt_,e⟩,rfl⟩,(Qg8 _ m)⟩,(fun σ w z _=>Stp.field rfl rfl (QO hC.n rfl) (w _ _ rfl) QDu rfl)⟩ ?_
 rcases Qr h with⟨f,h⟩|⟨f,h⟩
 ·obtain⟨p,q,h⟩:=Qb h
  refine Qa hC [.T,.n 2,.v .no [] (.agg (Q9 g.2)),.o (.c false [.d] (.agg (Qu p))),.o (.any (.I p.Lo) none),.n 9] rfl ⟨⟨⟨⟨tt_,f⟩,rfl⟩,(Qg8 _ q)⟩,(fun σ w z _=>Stp.field rfl rfl (QO hC.n rfl) (w _ _ rfl) QDv rfl)⟩ ?_
  cases h
  exact d2_ rfl rfl rfl tt_
 refine Qa hC [.F,.n 11] rfl ⟨tt_,f⟩ ?_
 cases h
 exact d2_ rfl rfl rfl tt_
def QgE (d:QD)(b:(List Int))(h:Qj)(a:Int)(c:(List Int)):Option ((Int×(List Int))⊕(Unit⊕(List Int))):=
 bif (decide (a<(d.Vars.length:Int)))then
 (idx d.Vars a).bind fun f=>
 (idx b a).bind fun g=>
 (Qe3 h.Colours f.Colour g).bind fun e=>
 bif (!e.2)then
 some (.inr (.inl ()))
 else
 (idx c a).bind fun i=>
 some (.inl ((w64 (a+1)),(c.set a.toNat e.1)))
 else
 some (.inr (.inr c))
def Qs2 : Option ((List Int)×Int):=
 some (([]:List Int),1)
def Qs3 (a:(List Int)):Option ((List Int)×Int):=
 some (a,0)
def Qfx (d:Qj)(a:Int)(c:(List Int)):Option ((List Int)×Int):=
 bif ((decide (a<0))||(decide ((d.Tasks.length:Int)≤a)))then
 some (([]:List Int),3)
 else
 (idx d.Tasks a).bind fun b=>
 bif ((c.length:Int) != (b.Vars.length:Int))then
 some (([]:List Int),1)
 else
 (chk (decide (0≤(b.Vars.length:Int))&&decide ((b.Vars.length:Int)≤(b.Vars.length:Int))&&decide ((b.Vars.length:Int)≤4294967296))).bind fun _=>
 (QK (fun st=>QgE b c d st.1 st.2) (0,(List.replicate (b.Vars.length:Int).toNat (0:Int)))).bind (Sum.elim (fun q=>Qs2) (fun q=>Qs3 q))
theorem Qn6 (s f g){r}(h:Qfx s f g=some r):Qc prog 94 [.agg (Qd s),.I f,.sl 1 (g.map Qe)] [] (Gives (.tup [.sl 1 (r.1.map Qe),.I r.2]) []):=by
 refine Qc.walk 64 func94 rfl rfl rfl fun C hC=>?_
 refine tg_ hC [.n 9] rfl ?_
 refine AK.meetX (fun σ=>σ=⟨[(1,.I f),(2,.sl 1 (g.map Qe)),(3,.loc 3 0 0),(22,.b ((decide (f<0))||(decide ((s.Tasks.length:Int)≤f))))],[(3,.var (Qd s))]⟩) ?_ ?_
 ·refine tg_ hC [.n 4] rfl ?_
  rcases Q3 (decide (f<0))with j | j
  ·refine Qa hC [.S 16 (.b true),.n 7,.S 22 (.b ((decide (f<0))||(decide ((s.Tasks.length:Int)≤f)))),.K [1,2,3,22] [3]] rfl ⟨(tc_ j),(congrArg V.b (orT j rfl))⟩ ?_
   exact AK.met rfl
  refine Qa hC [.S 16 (.b false),.n 3,.o (.ln s.Tasks.length),.n 3,.S 22 (.b ((decide (f<0))||(decide ((s.Tasks.length:Int)≤f)))),.K [1,2,3,22] [3]] rfl ⟨⟨(tc_ j),Qf⟩,(congrArg V.b (orF j rfl))⟩ ?_
  exact AK.met rfl
 rintro σ rfl
 refine tg_ hC [.n 1] rfl ?_
 rcases Qr h with⟨k,h⟩|⟨k,h⟩
 ·refine Qa hC [.T,.n 8,.denil 6 [some 1]] rfl ⟨tt_,k⟩ ?_
  cases h
  exact d2_ rfl rfl rfl tt_
 obtain⟨i,x,h⟩:=Qb h
 refine Qa hC [.F,.n 7,.o (.row (Qh i)),.n 9,.o (.ln g.length),.n 1,.o (.ln i.Vars.length),.n 3] rfl ⟨⟨⟨⟨tt_,k⟩,(QP x)⟩,Qf⟩,Qf⟩ ?_
 rcases Qr h with⟨l,h⟩|⟨l,h⟩
 ·refine Qa hC [.T,.n 8,.denil 6 [some 1]] rfl ⟨tt_,l⟩ ?_
  cases h
  exact d2_ rfl rfl rfl tt_
 obtain⟨y,h⟩:=QaX h
 refine Qa hC [.F,.n 5,.o (.ln i.Vars.length),.o (.rows ((List.replicate (i.Vars.length:Int).toNat (0:Int)).map Qe)),.S 36 (.own 36 (List.replicate (i.Vars.length:Int).toNat (0:Int)).length),.n 7,.o (.ln i.Vars.length),.n 4,.K [2,3,9,37,38,39] [3,36]] rfl ⟨⟨⟨⟨⟨tt_,l⟩,Qf⟩,⟨y,QA1 rfl⟩⟩,(by simp)⟩,Qf⟩ ?_
 obtain⟨J,z,h⟩:=Qb h
 refine AK.loop (body:=(fun st=>QgE i g s st.1 st.2)) (fun st σ=>σ=⟨[(2,.sl 1 (g.map Qe)),(3,.loc 3 0 0),(9,.own 36 st.2.length),(37,.sl 2 (i.Vars.map QU)),(38,.I (i.Vars.length:Int)),(39,.I st.1)],[(3,.var (Qd s)),(36,.arr 1 (st.2.map Qe))]⟩) (Sum.elim (fun q e σ=>e=.ret∧σ=⟨[(6,.lit (.slice none 0 0)),(7,.I 1)],[]⟩) (fun q e σ=>e=.exit 0∧σ=⟨[(9,.own 36 q.length)],[(36,.arr 1 (q.map Qe))]⟩)) z rfl ?_ ?_
 ·rintro ⟨A,B⟩ o σ rfl h
  refine tg_ hC [.n 6] rfl ?_
  rcases Qr h with⟨m,h⟩|⟨m,h⟩
  ·obtain⟨w,D,h⟩:=Qb h
   obtain⟨L,E,h⟩:=Qb h
   obtain⟨t,G,h⟩:=Qb h
   refine Qa hC [.T,.n 7,.o (.row (QU w)),.v .no [] (.agg (QU w)),.n 3,.O 11 (.var (QU w)),.n 3,.K [2,3,9,10,11,37,38,39] [3,11,36]] rfl ⟨⟨⟨⟨tt_,m⟩,(QP D)⟩,rfl⟩,rfl⟩ ?_
   refine AK.draw2 Qp hC mixed [.N,.N,.N,.N,.N,.N,.a (.row (Qe L)) none false,.N,.a (.c false [.d,.d,.d] (.tup [.I t.1,.b t.2])) none false,.N,.N,.N,.N,.N] [] [] [2,3,9,10,12,13,37,38,39] [3,36] rfl rfl rfl ⟨⟨tt_,(QP E)⟩,(QtW _ _ _ G)⟩ rfl (by kernel_rfl) rfl rfl rfl ?_
   refine tg_ hC [.n 8] rfl ?_
   rcases Qr h with⟨p,h⟩|⟨p,h⟩
   ·refine Qa hC [.T,.n 10,.K [6,7] []] rfl ⟨tt_,p⟩ ?_
    cases h
    exact Qar rfl (an_ rfl rfl)
   obtain⟨M,u,h⟩:=Qb h
   refine Qa hC [.F,.n 7,.st (Qe M) ((B.set A.toNat t.1).map Qe),.n 7,.S 9 (.own 36 (B.set A.toNat t.1).length),.K [2,3,9,37,38,39] [3,36]] rfl ⟨⟨⟨⟨tt_,p⟩,(Qda u rfl)⟩,⟨(QbV (QdE u).2),Qme rfl⟩⟩,(congrArg (fun n=>V.own 36 n) (by simp))⟩ ?_
   cases h
   exact Q4 rfl rfl
  refine Qa hC [.F,.n 2,.K [9] [36]] rfl ⟨tt_,m⟩ ?_
  cases h
  exact Q6 rfl (an_ rfl rfl)
 rcases J with(_ | H)
 ·replace h:Qs2=some r:=h
  rintro e σ ⟨rfl,rfl⟩
  refine tg_ hC [.n 2,.denil 6 [some 1]] rfl ?_
  cases h
  exact d2_ rfl rfl rfl tt_
 replace h:Qs3 H=some r:=h
 rintro e σ ⟨rfl,rfl⟩
 refine Qa hC [.n 10,.frz 36 (H.map Qe) [6] []] rfl ⟨tt_,⟨tt_,(Qb7 Qf)⟩⟩ ?_
 cases h
 exact d2_ rfl rfl rfl tt_
def QbQ (c:Qj)(f:QMk)(a:Int)(b:(List Int)):Option (Int×QX):=
 (Qfx c a b).bind fun d=>
 bif (d.2 != 0)then
 some (d.2,(QX.mk (Qj.mk ([]:(List QJ)) ([]:(List QN)) ([]:(List QD)) 0 0) ([]:QMk) (QD.mk (⟨#[]⟩:ByteArray) ([]:(List QaQ)) (Qo.mk 0 0 ([]:(List Qo))) 0 0 ([]:(List Qax)) ([]:(List Qax)) ([]:(List Int)) 0 (0,0,0)) ([]:(List Int))))
 else
 (idx c.Tasks a).bind fun e=>
 some (0,(QX.mk c f e d.1))
theorem Qqv (i k b e){r}(h:QbQ i k b e=some r):Qc prog 89 [.agg (Qd i),.sl 1 (k.map Qi),.I b,.sl 1 (e.map Qe)] [] (Gives (.tup [.agg (Qz r.2),.I r.1]) []):=by
 refine Qc.walk 32 func89 rfl rfl rfl fun C hC=>?_
 obtain⟨l,p,h⟩:=Qb h
 refine Qa hC [.n 9,.v .no [] (.agg (Qd i)),.n 2,.o (.c false [.d,.d,.d] (.tup [.sl 1 (l.1.map Qe),.I l.2])),.n 14] rfl ⟨⟨tt_,rfl⟩,(Qn6 _ _ _ p)⟩ ?_
 rcases Qr h with⟨f,h⟩|⟨f,h⟩
 ·refine Qa hC [.T,.n 2,.v .no [some 7,some 3,some 14,none,none,some 1,none,some 2,none,none,some 3,none,none,some 4,some 4,some 1,none,none,none,none,some 1] (.agg (Qz (QX.mk (Qj.mk ([]:(List QJ)) ([]:(List QN)) ([]:(List QD)) 0 0) ([]:QMk) (QD.mk (⟨#[]⟩:ByteArray) ([]:(List QaQ)) (Qo.mk 0 0 ([]:(List Qo))) 0 0 ([]:(List Qax)) ([]:(List Qax)) ([]:(List Int)) 0 (0,0,0)) ([]:(List Int))))),.n 2,.O 8 (.var (Qz (QX.mk (Qj.mk ([]:(List QJ)) ([]:(List QN)) ([]:(List QD)) 0 0) ([]:QMk) (QD.mk (⟨#[]⟩:ByteArray) ([]:(List QaQ)) (Qo.mk 0 0 ([]:(List Qo))) 0 0 ([]:(List Qax)) ([]:(List Qax)) ([]:(List Int)) 0 (0,0,0)) ([]:(List Int))))),.n 5,.K [8,9] [8]] rfl ⟨⟨⟨tt_,f⟩,rfl⟩,rfl⟩ ?_
  cases h
  exact AK.done (ex_ [_,_] (an_ (an_ (ex_ _ (ex_ _ (an_ rfl (an_ rfl (Or.inl (an_ (Qp.ag rfl) (an_ (Qp.sz rfl) rfl))))))) (an_ rfl tt_)) (gives tt_)))
 obtain⟨g,j,h⟩:=Qb h
 refine Qa hC [.F,.n 3,.K [1,2,4,8,9,10] [4,8]] rfl ⟨tt_,f⟩ ?_
 refine AK.draw2 Qp hC mixed [.a .no (some ([],.agg (Qd i))) false,.N,.N,.N,.N,.a (.row (Qh g)) none false,.a .no (some ([],.agg (Qh g))) false,.N,.a .no (some ([],.agg (Qz (QX.mk i k g l.1)))) false,.m .s,.m .s] [] [] [8,9] [8] rfl rfl rfl ⟨⟨⟨⟨tt_,rfl⟩,(QP j)⟩,rfl⟩,rfl⟩ rfl (by kernel_rfl) rfl rfl rfl ?_
 refine Qa hC [.O 8 (.var (Qz (QX.mk i k g l.1))),.n 2,.K [8,9] [8]] rfl ⟨tt_,rfl⟩ ?_
 cases h
 exact AK.done (ex_ [_,_] (an_ (an_ (ex_ _ (ex_ _ (an_ rfl (an_ rfl (Or.inl (an_ (Qp.ag rfl) (an_ (Qp.sz rfl) rfl))))))) (an_ rfl tt_)) (gives tt_)))
def Qjm (c:Qo)(rec_expr_Depth:Qo→Option Int)(d:Int)(a:Int):Option ((Int×Int)⊕Int):=
 bif (decide (a<(c.Kids.length:Int)))then
 (idx c.Kids a).bind fun e=>
 (rec_expr_Depth e).bind fun b=>
 some (.inl ((max2 d b),(w64 (a+1))))
 else
 some (.inr d)
def Qmn (a:Int):Option Int:=
 some (w64 (a+1))
def Qnf (rec_expr_Depth:Qo→Option Int)(a:Qo):Option Int:=
 (QK (fun st=>Qjm a rec_expr_Depth st.1 st.2) (0,0)).bind (fun q=>Qmn q)
def Qep : Nat→Qo→Option Int
 | 0,_=>none
 | n+1,a=>Qnf (Qep n) a
def Qpv (a:Qo):Option Int:=Qep (SizeOf.sizeOf a) a
theorem QuN (rec_expr_Depth:Qo→Option Int)(hrec_expr_Depth:∀(a:Qo) {r:Int},rec_expr_Depth a=some r→Qc prog 235 [.agg (Qs a)] [] (Gives (.I r) []))(a:Qo){r:Int}(h:Qnf rec_expr_Depth a=some r):Qc prog 235 [.agg (Qs a)] [] (Gives (.I r) []):=by
 refine Qc.walk 20 func235 rfl rfl rfl fun C hC=>?_
 refine Qa hC [.n 16,.o (.ln a.Kids.length),.n 4,.K [3,7,8,9] []] rfl ⟨tt_,Qku _⟩ ?_
 obtain⟨l,f,h⟩:=Qb h
 refine AK.loop (body:=(fun st=>Qjm a rec_expr_Depth st.1 st.2)) (fun st σ=>σ=⟨[(3,.I st.1),(7,.sl 3 (Qbq a.Kids)),(8,.I (a.Kids.length:Int)),(9,.I st.2)],[]⟩) (fun q e σ=>e=.exit 0∧σ=⟨[(3,.I q)],[]⟩) f rfl ?_ ?_
 ·rintro ⟨m,p⟩ o σ rfl h
  refine tg_ hC [.n 6] rfl ?_
  rcases Qr h with⟨b,h⟩|⟨b,h⟩
  ·obtain⟨i,j,h⟩:=Qb h
   obtain⟨k,g,h⟩:=Qb h
   refine Qa hC [.T,.n 6,.o (.row (Qs i)),.v .no [] (.agg (Qs i)),.n 2,.O 5 (.var (Qs i)),.n 4,.v .no [] (.agg (Qs i)),.o (.c false [.d] (.I k)),.n 9,.K [3,7,8,9] []] rfl ⟨⟨⟨⟨⟨⟨tt_,b⟩,(QeB j)⟩,rfl⟩,rfl⟩,rfl⟩,(hrec_expr_Depth _ g)⟩ ?_
   cases h
   exact Q4 rfl rfl
  refine Qa hC [.F,.n 2,.K [3] []] rfl ⟨tt_,b⟩ ?_
  cases h
  exact Q6 rfl (an_ rfl rfl)
 replace h:Qmn l=some r:=h
 rintro e σ ⟨rfl,rfl⟩
 refine tg_ hC [.n 10] rfl ?_
 cases h
 exact d1_ rfl rfl tt_
theorem Qos : ∀(fuel:Nat) (a:Qo) {r:Int},Qep fuel a=some r→Qc prog 235 [.agg (Qs a)] [] (Gives (.I r) [])
 | 0,_,_,h=>by cases h
 | n+1,a,_,h=>QuN (Qep n) (fun _ _ h=>Qos n _ h) a h
theorem Qwt (a){r}(h:Qpv a=some r):Qc prog 235 [.agg (Qs a)] [] (Gives (.I r) []):=Qos _ a h
def QkB (c:Qo)(rec_expr_Size:Qo→Option Int)(d:Int)(a:Int):Option ((Int×Int)⊕Int):=
 bif (decide (a<(c.Kids.length:Int)))then
 (idx c.Kids a).bind fun e=>
 (rec_expr_Size e).bind fun b=>
 some (.inl ((w64 (d+b)),(w64 (a+1))))
 else
 some (.inr d)
def Qng (a:Int):Option Int:=
 some a
def Qn7 (rec_expr_Size:Qo→Option Int)(a:Qo):Option Int:=
 (QK (fun st=>QkB a rec_expr_Size st.1 st.2) (1,0)).bind (fun q=>Qng q)
def Qfh : Nat→Qo→Option Int
 | 0,_=>none
 | n+1,a=>Qn7 (Qfh n) a
def Qrc (a:Qo):Option Int:=Qfh (SizeOf.sizeOf a) a
theorem QvF (rec_expr_Size:Qo→Option Int)(hrec_expr_Size:∀(a:Qo) {r:Int},rec_expr_Size a=some r→Qc prog 236 [.agg (Qs a)] [] (Gives (.I r) []))(a:Qo){r:Int}(h:Qn7 rec_expr_Size a=some r):Qc prog 236 [.agg (Qs a)] [] (Gives (.I r) []):=by
 refine Qc.walk 19 func236 rfl rfl rfl fun C hC=>?_
 refine Qa hC [.n 16,.o (.ln a.Kids.length),.n 4,.K [3,7,8,9] []] rfl ⟨tt_,Qku _⟩ ?_
 obtain⟨l,f,h⟩:=Qb h
 refine AK.loop (body:=(fun st=>QkB a rec_expr_Size st.1 st.2)) (fun st σ=>σ=⟨[(3,.I st.1),(7,.sl 3 (Qbq a.Kids)),(8,.I (a.Kids.length:Int)),(9,.I st.2)],[]⟩) (fun q e σ=>e=.exit 0∧σ=⟨[(3,.I q)],[]⟩) f rfl ?_ ?_
 ·rintro ⟨m,p⟩ o σ rfl h
  refine tg_ hC [.n 6] rfl ?_
  rcases Qr h with⟨b,h⟩|⟨b,h⟩
  ·obtain⟨i,j,h⟩:=Qb h
   obtain⟨k,g,h⟩:=Qb h
   refine Qa hC [.T,.n 6,.o (.row (Qs i)),.v .no [] (.agg (Qs i)),.n 2,.O 5 (.var (Qs i)),.n 4,.v .no [] (.agg (Qs i)),.o (.c false [.d] (.I k)),.n 9,.K [3,7,8,9] []] rfl ⟨⟨⟨⟨⟨⟨tt_,b⟩,(QeB j)⟩,rfl⟩,rfl⟩,rfl⟩,(hrec_expr_Size _ g)⟩ ?_
   cases h
   exact Q4 rfl rfl
  refine Qa hC [.F,.n 2,.K [3] []] rfl ⟨tt_,b⟩ ?_
  cases h
  exact Q6 rfl (an_ rfl rfl)
 replace h:Qng l=some r:=h
 rintro e σ ⟨rfl,rfl⟩
 refine tg_ hC [.n 9] rfl ?_
 cases h
 exact d1_ rfl rfl tt_
theorem Qpw : ∀(fuel:Nat) (a:Qo) {r:Int},Qfh fuel a=some r→Qc prog 236 [.agg (Qs a)] [] (Gives (.I r) [])
 | 0,_,_,h=>by cases h
 | n+1,a,_,h=>QvF (Qfh n) (fun _ _ h=>Qpw n _ h) a h
theorem Qxp (a){r}(h:Qrc a=some r):Qc prog 236 [.agg (Qs a)] [] (Gives (.I r) []):=Qpw _ a h
def QhM (a:Int)(b:Bool):Option Int:=
 bif b then
 some 1
 else
 bif (a==5)then
 some 2
 else
 bif (a==6)then
 some 3
 else
 some (-1)
def QhN (a:Int)(b:Bool):Option Int:=
 bif b then
 some 0
 else
 bif (a==3)then
 QhM a (a==3)
 else
 QhM a (a==4)
def QnI (a:Int):Option Int:=
 bif (a==1)then
 QhN a (a==1)
 else
 QhN a (a==2)
theorem Qxq (a){r}(h:QnI a=some r):Qc prog 258 [.I a] [] (Gives (.I r) []):=by
 refine Qc.walk 14 func258 rfl rfl rfl fun C hC=>?_
 refine tg_ hC [.n 12] rfl ?_
 refine AK.meet (fun σ=>∃j:Bool,σ=⟨[(3,.I a),(4,.b j)],[]⟩∧QhN a j=some r) ?_ ?_
 ·refine tg_ hC [.n 6] rfl ?_
  refine bg_ h (fun c h=>Qa hC [.T,.n 1,.K [3,4] []] rfl ⟨tt_,c⟩ ?_) fun c h=>Qa hC [.F,.n 4,.K [3,4] []] rfl ⟨tt_,c⟩ ?_
  ·exact AK.met (ex_ _ (an_ rfl h))
  exact AK.met (ex_ _ (an_ rfl h))
 rintro σ ⟨j,rfl,h⟩
 refine bg_ h (fun e h=>Qa hC [.T,.n 8,.K [2] []] rfl ⟨tt_,e⟩ ?_) fun e h=>Qa hC [.F] rfl ⟨tt_,e⟩ ?_
 ·cases h
  exact d1_ rfl rfl tt_
 refine AK.meet (fun σ=>∃k:Bool,σ=⟨[(3,.I a),(7,.b k)],[]⟩∧QhM a k=some r) ?_ ?_
 ·refine tg_ hC [.n 6] rfl ?_
  refine bg_ h (fun d h=>Qa hC [.T,.n 1,.K [3,7] []] rfl ⟨tt_,d⟩ ?_) fun d h=>Qa hC [.F,.n 4,.K [3,7] []] rfl ⟨tt_,d⟩ ?_
  ·exact AK.met (ex_ _ (an_ rfl h))
  exact AK.met (ex_ _ (an_ rfl h))
 rintro σ ⟨k,rfl,h⟩
 refine bg_ h (fun f h=>Qa hC [.T,.n 8,.K [2] []] rfl ⟨tt_,f⟩ ?_) fun f h=>Qa hC [.F,.n 6] rfl ⟨tt_,f⟩ ?_
 ·cases h
  exact d1_ rfl rfl tt_
 refine bg_ h (fun g h=>Qa hC [.T,.n 8,.K [2] []] rfl ⟨tt_,g⟩ ?_) fun g h=>Qa hC [.F,.n 6] rfl ⟨tt_,g⟩ ?_
 ·cases h
  exact d1_ rfl rfl tt_
 refine bg_ h (fun i h=>Qa hC [.T,.n 8,.K [2] []] rfl ⟨tt_,i⟩ ?_) fun i h=>Qa hC [.F,.n 9,.K [2] []] rfl ⟨tt_,i⟩ ?_
 ·cases h
  exact d1_ rfl rfl tt_
 cases h
 exact d1_ rfl rfl tt_
def Qmo (op1:Int):Option Bool:=
 some ((decide (1≤op1))&&(decide (op1≤11)))
theorem Qwu (op1){r}(h:Qmo op1=some r):Qc prog 259 [.I op1] [] (Gives (.b r) []):=by
 refine Qc.walk 9 func259 rfl rfl rfl fun C hC=>?_
 refine tg_ hC [.n 6] rfl ?_
 refine AK.meetX (fun σ=>σ=⟨[(2,.b ((decide (1≤op1))&&(decide (op1≤11))))],[]⟩) ?_ ?_
 ·refine tg_ hC [.n 4] rfl ?_
  rcases Q3 (decide (1≤op1))with a | a
  ·refine Qa hC [.S 5 (.b true),.n 5,.S 2 (.b ((decide (1≤op1))&&(decide (op1≤11)))),.K [2] []] rfl ⟨(tc_ a),(congrArg V.b (Qb6 a rfl))⟩ ?_
   exact AK.met rfl
  refine Qa hC [.S 5 (.b false),.n 5,.S 2 (.b ((decide (1≤op1))&&(decide (op1≤11)))),.K [2] []] rfl ⟨(tc_ a),(congrArg V.b (Qd2 a rfl))⟩ ?_
  exact AK.met rfl
 rintro σ rfl
 refine tg_ hC [.n 2] rfl ?_
 cases h
 exact d1_ rfl rfl tt_
def Qnh (rec_expr_parts:Qo→Int→Option Bool)(a:Qo)(b:Int):Option Bool:=
 (rec_expr_parts a b).bind fun c=>
 some (!c)
theorem QuO (rec_expr_parts:Qo→Int→Option Bool)(hrec_expr_parts:∀(i:Qo) (a:Int) {r:Bool},rec_expr_parts i a=some r→Qc prog 237 [.agg (Qs i),.I a] [] (Gives (.b r) []))(e:Qo)(f:Int){r:Bool}(h:Qnh rec_expr_parts e f=some r):Qc prog 261 [.agg (Qs e),.loc 617 0 0] [(617,.var (Qe f))] (Gives (.b r) [(617,.var (Qe f))]):=by
 refine Qc.walk 8 func261 rfl rfl rfl fun C hC=>?_
 obtain⟨j,g,h⟩:=Qb h
 refine Qa hC [.n 8,.v .no [] (.agg (Qs e)),.n 1,.o (.c false [.d,.d] (.b j)),.n 5] rfl ⟨⟨tt_,rfl⟩,(hrec_expr_parts _ _ g)⟩ ?_
 cases h
 exact d1_ rfl rfl ⟨rfl,tt_⟩
def Qa4 (c:(List Qo))(rec_expr_parts:Qo→Int→Option Bool)(d:Int)(a:Int):Option (Int⊕(Int⊕Unit)):=
 bif (decide (a<(c.length:Int)))then
 (idx c a).bind fun e=>
 (Qnh rec_expr_parts e d).bind fun b=>
 bif b then
 some (.inr (.inl a))
 else
 some (.inl (w64 (a+1)))
 else
 some (.inr (.inr ()))
def QdW (a:Int):Option Int:=
 some a
def QdX : Option Int:=
 some (-1)
def QcE (rec_expr_parts:Qo→Int→Option Bool)(a:(List Qo))(b:Int):Option Int:=
 (QK (fun st=>Qa4 a rec_expr_parts b st) 0).bind (Sum.elim (fun q=>QdW q) (fun q=>QdX))
theorem QiO (rec_expr_parts:Qo→Int→Option Bool)(hrec_expr_parts:∀(s:Qo) (a:Int) {r:Bool},rec_expr_parts s a=some r→Qc prog 237 [.agg (Qs s),.I a] [] (Gives (.b r) []))(i:(List Qo))(f:Int){r:Int}(h:QcE rec_expr_parts i f=some r):Qc prog 277 [.sl 3 (Qbq i),.clo (.func 261) [] [.loc 617 0 0]] [(617,.var (Qe f))] (Gives (.I r) [(617,.var (Qe f))]):=by
 refine Qc.walk 19 func277 rfl rfl rfl fun C hC=>?_
 refine Qa hC [.n 9,.o (.ln i.length),.n 4,.K [0,1,7,8] [617]] rfl ⟨tt_,Qku _⟩ ?_
 obtain⟨l,j,h⟩:=Qb h
 refine AK.loop (body:=(fun st=>Qa4 i rec_expr_parts f st)) (fun st σ=>σ=⟨[(0,.sl 3 (Qbq i)),(1,.clo (.func 261) [] [.loc 617 0 0]),(7,.I (i.length:Int)),(8,.I st)],[(617,.var (Qe f))]⟩) (Sum.elim (fun q e σ=>e=.ret∧σ=⟨[(4,.I q)],[(617,.var (Qe f))]⟩) (fun q e σ=>e=.exit 0∧σ=⟨[],[(617,.var (Qe f))]⟩)) j rfl ?_ ?_
 ·rintro w o σ rfl h
  refine tg_ hC [.n 6] rfl ?_
  rcases Qr h with⟨g,h⟩|⟨g,h⟩
  ·obtain⟨t,m,h⟩:=Qb h
   obtain⟨p,k,h⟩:=Qb h
   refine Qa hC [.T,.n 15,.o (.row (Qs t)),.v .no [] (.agg (Qs t)),.cm (.clo) [(617,617)] [(617,617)] [] [.d,.d] [(617,.var (Qe f))] (.b p),.n 2] rfl ⟨⟨⟨⟨tt_,g⟩,(QeB m)⟩,rfl⟩,(QuO rec_expr_parts hrec_expr_parts _ _ k)⟩ ?_
   refine bg_ h (fun c h=>Qa hC [.T,.n 9,.K [4] [617]] rfl ⟨tt_,c⟩ ?_) fun c h=>Qa hC [.F,.n 7,.K [0,1,7,8] [617]] rfl ⟨tt_,c⟩ ?_
   ·cases h
    exact Qar rfl (an_ rfl rfl)
   cases h
   exact Q4 rfl rfl
  refine Qa hC [.F,.n 2,.K [] [617]] rfl ⟨tt_,g⟩ ?_
  cases h
  exact Q6 rfl (an_ rfl rfl)
 rcases l with(u | _)
 ·replace h:QdW u=some r:=h
  rintro e σ ⟨rfl,rfl⟩
  refine tg_ hC [.n 2] rfl ?_
  cases h
  exact d1_ rfl rfl ⟨rfl,tt_⟩
 replace h:QdX=some r:=h
 rintro e σ ⟨rfl,rfl⟩
 refine tg_ hC [.n 8] rfl ?_
 cases h
 exact d1_ rfl rfl ⟨rfl,tt_⟩
def Qa5 (rec_expr_parts:Qo→Int→Option Bool)(a:(List Qo))(b:Int):Option Bool:=
 (QcE rec_expr_parts a b).bind fun c=>
 some (decide (0≤c))
theorem QhO (rec_expr_parts:Qo→Int→Option Bool)(hrec_expr_parts:∀(f:Qo) (a:Int) {r:Bool},rec_expr_parts f a=some r→Qc prog 237 [.agg (Qs f),.I a] [] (Gives (.b r) []))(g:(List Qo))(c:Int){r:Bool}(h:Qa5 rec_expr_parts g c=some r):Qc prog 260 [.sl 3 (Qbq g),.clo (.func 261) [] [.loc 617 0 0]] [(617,.var (Qe c))] (Gives (.b r) [(617,.var (Qe c))]):=by
 refine Qc.walk 9 func260 rfl rfl rfl fun C hC=>?_
 obtain⟨i,e,h⟩:=Qb h
 refine Qa hC [.n 9,.cm (.fn) [(617,617)] [(617,617)] [] [.d,.d] [(617,.var (Qe c))] (.I i),.n 5] rfl ⟨tt_,(QiO rec_expr_parts hrec_expr_parts _ _ e)⟩ ?_
 cases h
 exact d1_ rfl rfl ⟨rfl,tt_⟩
def Qqw (b:Qo):Option Bool:=
 bif (b.Kind==5)then
 (Qmo b.Num).bind fun a=>
 some (!a)
 else
 some false
def Qjn (rec_expr_parts:Qo→Int→Option Bool)(d:Qo)(a:Int)(b:Bool):Option Bool:=
 bif b then
 some false
 else
 (Qa5 rec_expr_parts d.Kids a).bind fun c=>
 some (!c)
def Qni (rec_expr_parts:Qo→Int→Option Bool)(b:Qo)(a:Int):Option Bool:=
 (QnI b.Kind).bind fun d=>
 bif ((b.Kids.length:Int) != d)then
 some false
 else
 bif ((b.Kind==2)&&((decide (b.Num<0))||(decide (a≤b.Num))))then
 some false
 else
 (Qqw b).bind (fun c=>Qjn rec_expr_parts b a c)
def Qeq : Nat→Qo→Int→Option Bool
 | 0,_,_=>none
 | n+1,b,a=>Qni (Qeq n) b a
def Qpx (b:Qo)(a:Int):Option Bool:=Qeq (SizeOf.sizeOf b) b a
theorem QuP (rec_expr_parts:Qo→Int→Option Bool)(hrec_expr_parts:∀(f:Qo) (e:Int) {r:Bool},rec_expr_parts f e=some r→Qc prog 237 [.agg (Qs f),.I e] [] (Gives (.b r) []))(f:Qo)(e:Int){r:Bool}(h:Qni rec_expr_parts f e=some r):Qc prog 237 [.agg (Qs f),.I e] [] (Gives (.b r) []):=by
 refine Qc.walk 43 func237 rfl rfl rfl fun C hC=>?_
 obtain⟨x,u,h⟩:=Qb h
 refine tg_ hC [.n 10,.K [2,3] [2,3]] rfl ?_
 refine AK.draw2 Qp hC mixed [.N,.N,.a (.ln f.Kids.length) none false,.N,.N,.a (.c false [.d] (.I x)) none false,.N,.N] [] [] [2,3,5] [2,3] rfl rfl rfl ⟨⟨tt_,Qku _⟩,(Qxq _ u)⟩ rfl (by kernel_rfl) rfl rfl rfl ?_
 refine tg_ hC [.n 1] rfl ?_
 refine bg_ h (fun m h=>Qa hC [.T,.n 8,.K [4] []] rfl ⟨tt_,m⟩ ?_) fun m h=>Qa hC [.F,.n 1] rfl ⟨tt_,m⟩ ?_
 ·cases h
  exact d1_ rfl rfl tt_
 refine AK.meetX (fun σ=>σ=⟨[(2,.loc 2 0 0),(3,.loc 3 0 0),(13,.b ((f.Kind==2)&&((decide (f.Num<0))||(decide (e≤f.Num)))))],[(2,.var (Qs f)),(3,.var (Qe e))]⟩) ?_ ?_
 ·refine tg_ hC [.n 5] rfl ?_
  rcases Q3 (f.Kind==2)with g | g
  ·refine Qa hC [.S 17 (.b true),.n 4] rfl (tc_ g) ?_
   rcases Q3 (decide (f.Num<0))with i | i
   ·refine Qa hC [.S 21 (.b true),.n 8,.S 13 (.b ((f.Kind==2)&&((decide (f.Num<0))||(decide (e≤f.Num))))),.K [2,3,13] [2,3]] rfl ⟨(tc_ i),(congrArg V.b (Qb6 g (orT i rfl)))⟩ ?_
    exact AK.met rfl
   refine Qa hC [.S 21 (.b false),.n 8,.S 13 (.b ((f.Kind==2)&&((decide (f.Num<0))||(decide (e≤f.Num))))),.K [2,3,13] [2,3]] rfl ⟨(tc_ i),(congrArg V.b (Qb6 g (orF i rfl)))⟩ ?_
   exact AK.met rfl
  refine Qa hC [.S 17 (.b false),.n 12,.S 13 (.b ((f.Kind==2)&&((decide (f.Num<0))||(decide (e≤f.Num))))),.K [2,3,13] [2,3]] rfl ⟨(tc_ g),(congrArg V.b (Qd2 g rfl))⟩ ?_
  exact AK.met rfl
 rintro σ rfl
 refine tg_ hC [.n 1] rfl ?_
 refine bg_ h (fun j h=>Qa hC [.T,.n 8,.K [4] []] rfl ⟨tt_,j⟩ ?_) fun j h=>Qa hC [.F,.n 1] rfl ⟨tt_,j⟩ ?_
 ·cases h
  exact d1_ rfl rfl tt_
 obtain⟨p,q,h⟩:=Qb h
 replace h:Qjn rec_expr_parts f e p=some r:=h
 refine AK.meetX (fun σ=>σ=⟨[(2,.loc 2 0 0),(3,.loc 3 0 0),(28,.b p)],[(2,.var (Qs f)),(3,.var (Qe e))]⟩) ?_ ?_
 ·replace h:=q
  refine tg_ hC [.n 5] rfl ?_
  rcases Qr h with⟨k,h⟩|⟨k,h⟩
  ·obtain⟨v,s,h⟩:=Qb h
   refine Qa hC [.S 32 (.b true),.n 2,.o (.c false [.d] (.b v)),.n 4,.K [2,3,28] [2,3]] rfl ⟨(tc_ k),(Qwu _ s)⟩ ?_
   cases h
   exact AK.met rfl
  refine Qa hC [.S 32 (.b false),.n 7,.K [2,3,28] [2,3]] rfl (tc_ k) ?_
  cases h
  exact AK.met rfl
 rintro σ rfl
 replace h:Qjn rec_expr_parts f e p=some r:=h
 refine tg_ hC [.n 1] rfl ?_
 rcases Qr h with⟨l,h⟩|⟨l,h⟩
 ·refine Qa hC [.T,.n 8] rfl ⟨tt_,l⟩ ?_
  cases h
  exact d1_ rfl rfl tt_
 obtain⟨w,t,h⟩:=Qb h
 refine Qa hC [.F,.n 8,.cm (.fn) [(617,3)] [(3,617)] [] [.d,.d] [(617,.var (Qe e))] (.b w),.n 5] rfl ⟨⟨tt_,l⟩,(QhO rec_expr_parts hrec_expr_parts _ _ t)⟩ ?_
 cases h
 exact d1_ rfl rfl tt_
theorem Qot : ∀(fuel:Nat) (c:Qo) (a:Int) {r:Bool},Qeq fuel c a=some r→Qc prog 237 [.agg (Qs c),.I a] [] (Gives (.b r) [])
 | 0,_,_,_,h=>by cases h
 | n+1,c,a,_,h=>QuP (Qeq n) (fun _ _ _ h=>Qot n _ _ h) c a h
theorem Qwv (c a){r}(h:Qpx c a=some r):Qc prog 237 [.agg (Qs c),.I a] [] (Gives (.b r) []):=Qot _ c a h
def Qqx (b:Qo)(a:Int):Option Bool:=
 (Qpv b).bind fun d=>
 bif (decide (d≤40))then
 (Qrc b).bind fun e=>
 bif (decide (e≤400))then
 (Qpx b a).bind fun c=>
 some c
 else
 some false
 else
 some false
def Qmp (a:Bool):Option Bool:=
 some a
def QhP (b:Qo)(a:Int):Option Bool:=
 (Qqx b a).bind (fun c=>Qmp c)
theorem Qmq (g a){r}(h:QhP g a=some r):Qc prog 192 [.agg (Qs g),.I a] [] (Gives (.b r) []):=by
 refine Qc.walk 18 func192 rfl rfl rfl fun C hC=>?_
 refine tg_ hC [.n 7] rfl ?_
 obtain⟨j,k,h⟩:=Qb h
 replace h:Qmp j=some r:=h
 refine AK.meetX (fun σ=>σ=⟨[(4,.b j)],[]⟩) ?_ ?_
 ·replace h:=k
  obtain⟨q,l,h⟩:=Qb h
  refine Qa hC [.n 1,.v .no [] (.agg (Qs g)),.o (.c false [.d] (.I q)),.n 2] rfl ⟨⟨tt_,rfl⟩,(Qwt _ l)⟩ ?_
  rcases Qr h with⟨e,h⟩|⟨e,h⟩
  ·obtain⟨s,m,h⟩:=Qb h
   refine Qa hC [.S 8 (.b true),.v .no [] (.agg (Qs g)),.o (.c false [.d] (.I s)),.n 3] rfl ⟨⟨(tc_ e),rfl⟩,(Qxp _ m)⟩ ?_
   rcases Qr h with⟨f,h⟩|⟨f,h⟩
   ·obtain⟨p,i,h⟩:=Qb h
    refine Qa hC [.S 13 (.b true),.v .no [] (.agg (Qs g)),.n 1,.o (.c false [.d,.d] (.b p)),.n 3,.K [4] []] rfl ⟨⟨(tc_ f),rfl⟩,(Qwv _ _ i)⟩ ?_
    cases h
    exact AK.met rfl
   refine Qa hC [.S 13 (.b false),.n 6,.K [4] []] rfl (tc_ f) ?_
   cases h
   exact AK.met rfl
  refine Qa hC [.S 8 (.b false),.n 11,.K [4] []] rfl (tc_ e) ?_
  cases h
  exact AK.met rfl
 rintro σ rfl
 replace h:Qmp j=some r:=h
 refine tg_ hC [.n 2] rfl ?_
 cases h
 exact d1_ rfl rfl tt_
def QcF (b:(List Int))(a:Int)(c:Bool):Option ((List Int)⊕((List Int)⊕((List Int)⊕((List Int)⊕(List Int))))):=
 bif c then
 some (.inr (.inr (.inl b)))
 else
 bif (a==5)then
 some (.inr (.inr (.inr (.inl b))))
 else
 some (.inr (.inr (.inr (.inr b))))
def QcW (b:(List Int))(a:Int):Option ((List Int)⊕((List Int)⊕((List Int)⊕((List Int)⊕(List Int))))):=
 bif (a==1)then
 some (.inl b)
 else
 bif (a==2)then
 some (.inr (.inl b))
 else
 bif (a==3)then
 QcF b a (a==3)
 else
 QcF b a (a==4)
theorem QeQ (j a){r}(h:QcW j a=some r):Qc prog 252 [.sl 1 (j.map Qe),.I a] [] ((Sum.elim (fun q=>(Gives (.clo (.func 268) [.sl 1 (q.map Qe)] []) [])) (Sum.elim (fun q=>(Gives (.clo (.func 269) [.sl 1 (q.map Qe)] []) [])) (Sum.elim (fun q=>(Gives (.clo (.func 270) [.sl 1 (q.map Qe)] []) [])) (Sum.elim (fun q=>(Gives (.clo (.func 271) [.sl 1 (q.map Qe)] []) [])) (fun q=>(Gives (.clo (.func 272) [.sl 1 (q.map Qe)] []) [])))))) r):=by
 refine Qc.walk 25 func252 rfl rfl rfl fun C hC=>?_
 refine tg_ hC [.n 18] rfl ?_
 refine bg_ h (fun f h=>Qa hC [.T,.n 10,.K [4] []] rfl ⟨tt_,f⟩ ?_) fun f h=>Qa hC [.F,.n 6] rfl ⟨tt_,f⟩ ?_
 ·cases h
  exact AK.done (ex_ [_] (an_ (an_ rfl tt_) (gives tt_)))
 refine bg_ h (fun g h=>Qa hC [.T,.n 10,.K [4] []] rfl ⟨tt_,g⟩ ?_) fun g h=>Qa hC [.F] rfl ⟨tt_,g⟩ ?_
 ·cases h
  exact AK.done (ex_ [_] (an_ (an_ rfl tt_) (gives tt_)))
 refine AK.meet (fun σ=>∃i:Bool,σ=⟨[(0,.sl 1 (j.map Qe)),(5,.I a),(14,.b i)],[]⟩∧QcF j a i=some r) ?_ ?_
 ·refine tg_ hC [.n 6] rfl ?_
  refine bg_ h (fun c h=>Qa hC [.T,.n 1,.K [0,5,14] []] rfl ⟨tt_,c⟩ ?_) fun c h=>Qa hC [.F,.n 4,.K [0,5,14] []] rfl ⟨tt_,c⟩ ?_
  ·exact AK.met (ex_ _ (an_ rfl h))
  exact AK.met (ex_ _ (an_ rfl h))
 rintro σ ⟨i,rfl,h⟩
 refine bg_ h (fun d h=>Qa hC [.T,.n 10,.K [4] []] rfl ⟨tt_,d⟩ ?_) fun d h=>Qa hC [.F,.n 6] rfl ⟨tt_,d⟩ ?_
 ·cases h
  exact AK.done (ex_ [_] (an_ (an_ rfl tt_) (gives tt_)))
 refine bg_ h (fun e h=>Qa hC [.T,.n 10,.K [4] []] rfl ⟨tt_,e⟩ ?_) fun e h=>Qa hC [.F,.n 11,.K [4] []] rfl ⟨tt_,e⟩ ?_
 ·cases h
  exact AK.done (ex_ [_] (an_ (an_ rfl tt_) (gives tt_)))
 cases h
 exact AK.done (ex_ [_] (an_ (an_ rfl tt_) (gives tt_)))
def Qou (b:(List Int))(a:Qo):Option (Int×Int):=
 some (a.Num,0)
theorem QsD (a b){r}(h:Qou a b=some r):Qc prog 268 [.sl 1 (a.map Qe),.agg (Qs b)] [] (Gives (.tup [.I r.1,.I r.2]) []):=by
 refine Qc.walk 8 func268 rfl rfl rfl fun C hC=>?_
 refine tg_ hC [.n 16] rfl ?_
 cases h
 exact d2_ rfl rfl rfl tt_
def Qja (a:(List Int))(b:Qo):Option (Int×Int):=
 (idx a b.Num).bind fun c=>
 some (c,0)
theorem Qrd (b c){r}(h:Qja b c=some r):Qc prog 269 [.sl 1 (b.map Qe),.agg (Qs c)] [] (Gives (.tup [.I r.1,.I r.2]) []):=by
 refine Qc.walk 11 func269 rfl rfl rfl fun C hC=>?_
 obtain⟨d,a,h⟩:=Qb h
 refine Qa hC [.n 12,.o (.row (Qe d)),.n 6] rfl ⟨tt_,(QP a)⟩ ?_
 cases h
 exact d2_ rfl rfl rfl tt_
def QoQ (a:Int)(b:Int):Option (Int×Int):=
 bif (((decide (a<0))==(decide (b<0)))&&((decide ((w64 (a+b))<0)) != (decide (a<0))))then
 some (0,6)
 else
 some ((w64 (a+b)),0)
theorem Qyf (a d){r}(h:QoQ a d=some r):Qc prog 289 [.I a,.I d] [] (Gives (.tup [.I r.1,.I r.2]) []):=by
 refine Qc.walk 23 func289 rfl rfl rfl fun C hC=>?_
 refine tg_ hC [.n 16] rfl ?_
 refine AK.meetX (fun σ=>σ=⟨[(6,.I (w64 (a+d))),(21,.b (((decide (a<0))==(decide (d<0)))&&((decide ((w64 (a+d))<0)) != (decide (a<0)))))],[]⟩) ?_ ?_
 ·refine tg_ hC [.n 7] rfl ?_
  rcases Q3 ((decide (a<0))==(decide (d<0)))with c | c
  ·refine Qa hC [.S 15 (.b true),.n 7,.S 21 (.b (((decide (a<0))==(decide (d<0)))&&((decide ((w64 (a+d))<0)) != (decide (a<0))))),.K [6,21] []] rfl ⟨(tc_ c),(congrArg V.b (Qb6 c rfl))⟩ ?_
   exact AK.met rfl
  refine Qa hC [.S 15 (.b false),.n 7,.S 21 (.b (((decide (a<0))==(decide (d<0)))&&((decide ((w64 (a+d))<0)) != (decide (a<0))))),.K [6,21] []] rfl ⟨(tc_ c),(congrArg V.b (Qd2 c rfl))⟩ ?_
  exact AK.met rfl
 rintro σ rfl
 refine tg_ hC [.n 1] rfl ?_
 refine bg_ h (fun e h=>Qa hC [.T,.n 8,.K [4,5] []] rfl ⟨tt_,e⟩ ?_) fun e h=>Qa hC [.F,.n 10,.K [4,5] []] rfl ⟨tt_,e⟩ ?_
 ·cases h
  exact d2_ rfl rfl rfl tt_
 cases h
 exact d2_ rfl rfl rfl tt_
def Qhm (a:Int)(b:Int):Option (Int×Int):=
 bif (((decide (a<0)) != (decide (b<0)))&&((decide ((w64 (a-b))<0)) != (decide (a<0))))then
 some (0,6)
 else
 some ((w64 (a-b)),0)
theorem QsE (a d){r}(h:Qhm a d=some r):Qc prog 290 [.I a,.I d] [] (Gives (.tup [.I r.1,.I r.2]) []):=by
 refine Qc.walk 23 func290 rfl rfl rfl fun C hC=>?_
 refine tg_ hC [.n 16] rfl ?_
 refine AK.meetX (fun σ=>σ=⟨[(6,.I (w64 (a-d))),(21,.b (((decide (a<0)) != (decide (d<0)))&&((decide ((w64 (a-d))<0)) != (decide (a<0)))))],[]⟩) ?_ ?_
 ·refine tg_ hC [.n 7] rfl ?_
  rcases Q3 ((decide (a<0)) != (decide (d<0)))with c | c
  ·refine Qa hC [.S 15 (.b true),.n 7,.S 21 (.b (((decide (a<0)) != (decide (d<0)))&&((decide ((w64 (a-d))<0)) != (decide (a<0))))),.K [6,21] []] rfl ⟨(tc_ c),(congrArg V.b (Qb6 c rfl))⟩ ?_
   exact AK.met rfl
  refine Qa hC [.S 15 (.b false),.n 7,.S 21 (.b (((decide (a<0)) != (decide (d<0)))&&((decide ((w64 (a-d))<0)) != (decide (a<0))))),.K [6,21] []] rfl ⟨(tc_ c),(congrArg V.b (Qd2 c rfl))⟩ ?_
  exact AK.met rfl
 rintro σ rfl
 refine tg_ hC [.n 1] rfl ?_
 refine bg_ h (fun e h=>Qa hC [.T,.n 8,.K [4,5] []] rfl ⟨tt_,e⟩ ?_) fun e h=>Qa hC [.F,.n 10,.K [4,5] []] rfl ⟨tt_,e⟩ ?_
 ·cases h
  exact d2_ rfl rfl rfl tt_
 cases h
 exact d2_ rfl rfl rfl tt_
def Qlf (a:Int):Option Int:=
 bif (decide (a<0))then
 some (IntKind.u64.wrap (0-(IntKind.u64.wrap a)))
 else
 some (IntKind.u64.wrap a)
theorem Qrx (b){r}(h:Qlf b=some r):Qc prog 296 [.I b] [] (Gives (.i .u64 r) []):=by
 refine Qc.walk 10 func296 rfl rfl rfl fun C hC=>?_
 refine tg_ hC [.n 12] rfl ?_
 refine bg_ h (fun a h=>Qa hC [.T,.n 3,.o (.any (.i .u64 (IntKind.u64.wrap b)) none),.n 6,.K [2] []] rfl ⟨⟨tt_,a⟩,(fun σ c d _=>Stp.convI rfl rfl (QO hC.n rfl) (c _ _ rfl) QvB QtQ)⟩ ?_) fun a h=>Qa hC [.F,.n 5,.o (.any (.i .u64 (IntKind.u64.wrap b)) none),.n 4,.K [2] []] rfl ⟨⟨tt_,a⟩,(fun σ c d _=>Stp.convI rfl rfl (QO hC.n rfl) (c _ _ rfl) QvB QtQ)⟩ ?_
 ·cases h
  exact d1_ rfl rfl tt_
 cases h
 exact d1_ rfl rfl tt_
def Qhn (a:Int)(b:Int):Option (Int×Int):=
 some ((IntKind.u64.wrap ((IntKind.u64.wrap ((IntKind.u64.wrap ((Qbt .u64 a 32)*(Qbt .u64 b 32)))+(Qbt .u64 (IntKind.u64.wrap ((IntKind.u64.wrap ((Qbt .u64 a 32)*(Qd3 .u64 b 4294967295)))+(Qbt .u64 (IntKind.u64.wrap ((Qd3 .u64 a 4294967295)*(Qd3 .u64 b 4294967295))) 32))) 32)))+(Qbt .u64 (IntKind.u64.wrap ((Qd3 .u64 (IntKind.u64.wrap ((IntKind.u64.wrap ((Qbt .u64 a 32)*(Qd3 .u64 b 4294967295)))+(Qbt .u64 (IntKind.u64.wrap ((Qd3 .u64 a 4294967295)*(Qd3 .u64 b 4294967295))) 32))) 4294967295)+(IntKind.u64.wrap ((Qd3 .u64 a 4294967295)*(Qbt .u64 b 32))))) 32))),(IntKind.u64.wrap (a*b)))
theorem QsF (b c){r}(h:Qhn b c=some r):Qc prog 295 [.i .u64 b,.i .u64 c] [] (Gives (.tup [.i .u64 r.1,.i .u64 r.2]) []):=by
 refine Qc.walk 51 func295 rfl rfl rfl fun C hC=>?_
 refine Qa hC [.n 9,.o (.any (.i .u64 (Qd3 .u64 b 4294967295)) none),.n 6,.o (.any (.i .u64 (Qbt .u64 b 32)) none),.n 6,.o (.any (.i .u64 (Qd3 .u64 c 4294967295)) none),.n 6,.o (.any (.i .u64 (Qbt .u64 c 32)) none),.n 17,.o (.any (.i .u64 (Qbt .u64 (IntKind.u64.wrap ((Qd3 .u64 b 4294967295)*(Qd3 .u64 c 4294967295))) 32)) none),.n 7,.o (.any (.i .u64 (Qd3 .u64 (IntKind.u64.wrap ((IntKind.u64.wrap ((Qbt .u64 b 32)*(Qd3 .u64 c 4294967295)))+(Qbt .u64 (IntKind.u64.wrap ((Qd3 .u64 b 4294967295)*(Qd3 .u64 c 4294967295))) 32))) 4294967295)) none),.n 6,.o (.any (.i .u64 (Qbt .u64 (IntKind.u64.wrap ((IntKind.u64.wrap ((Qbt .u64 b 32)*(Qd3 .u64 c 4294967295)))+(Qbt .u64 (IntKind.u64.wrap ((Qd3 .u64 b 4294967295)*(Qd3 .u64 c 4294967295))) 32))) 32)) none),.n 21,.o (.any (.i .u64 (Qbt .u64 (IntKind.u64.wrap ((Qd3 .u64 (IntKind.u64.wrap ((IntKind.u64.wrap ((Qbt .u64 b 32)*(Qd3 .u64 c 4294967295)))+(Qbt .u64 (IntKind.u64.wrap ((Qd3 .u64 b 4294967295)*(Qd3 .u64 c 4294967295))) 32))) 4294967295)+(IntKind.u64.wrap ((Qd3 .u64 b 4294967295)*(Qbt .u64 c 32))))) 32)) none),.n 13] rfl ⟨⟨⟨⟨⟨⟨⟨⟨tt_,(fun σ a d _=>Stp.andB rfl rfl (QO hC.n rfl) (a _ _ rfl) (a _ _ rfl))⟩,(fun σ a d _=>Stp.shr rfl rfl (QO hC.n rfl) (a _ _ rfl) (a _ _ rfl) (by decide))⟩,(fun σ a d _=>Stp.andB rfl rfl (QO hC.n rfl) (a _ _ rfl) (a _ _ rfl))⟩,(fun σ a d _=>Stp.shr rfl rfl (QO hC.n rfl) (a _ _ rfl) (a _ _ rfl) (by decide))⟩,(fun σ a d _=>Stp.shr rfl rfl (QO hC.n rfl) (a _ _ rfl) (a _ _ rfl) (by decide))⟩,(fun σ a d _=>Stp.andB rfl rfl (QO hC.n rfl) (a _ _ rfl) (a _ _ rfl))⟩,(fun σ a d _=>Stp.shr rfl rfl (QO hC.n rfl) (a _ _ rfl) (a _ _ rfl) (by decide))⟩,(fun σ a d _=>Stp.shr rfl rfl (QO hC.n rfl) (a _ _ rfl) (a _ _ rfl) (by decide))⟩ ?_
 cases h
 exact d2_ rfl rfl rfl tt_
def Qfl (b:(Int×Int))(c:Int)(d:Int)(a:Int):Option (Int×Int):=
 bif ((decide (0<b.1))||(decide (a<b.2)))then
 some (0,6)
 else
 some ((w64 (c*d)),0)
def QkC (a:Int)(b:Int):Option (Int×Int):=
 (Qlf a).bind fun d=>
 (Qlf b).bind fun e=>
 (Qhn d e).bind fun c=>
 bif ((decide (a<0)) != (decide (b<0)))then
 Qfl c a b (IntKind.u64.wrap (9223372036854775807+1))
 else
 Qfl c a b 9223372036854775807
theorem QuQ (k l){r}(h:QkC k l=some r):Qc prog 291 [.I k,.I l] [] (Gives (.tup [.I r.1,.I r.2]) []):=by
 refine Qc.walk 34 func291 rfl rfl rfl fun C hC=>?_
 obtain⟨s,m,h⟩:=Qb h
 obtain⟨t,p,h⟩:=Qb h
 obtain⟨f,q,h⟩:=Qb h
 refine Qa hC [.n 9,.o (.c false [.d] (.i .u64 s)),.n 1,.o (.c false [.d] (.i .u64 t)),.o (.c false [.d,.d] (.tup [.i .u64 f.1,.i .u64 f.2])),.n 12] rfl ⟨⟨⟨tt_,(Qrx _ m)⟩,(Qrx _ p)⟩,(QsF _ _ q)⟩ ?_
 refine AK.meet (fun σ=>∃a:Int,σ=⟨[(0,.I k),(1,.I l),(6,.i .u64 f.1),(7,.i .u64 f.2),(8,.i .u64 a)],[]⟩∧Qfl f k l a=some r) ?_ ?_
 ·refine tg_ hC [.n 9] rfl ?_
  refine bg_ h (fun g h=>Qa hC [.T,.n 5,.K [0,1,6,7,8] []] rfl ⟨tt_,g⟩ ?_) fun g h=>Qa hC [.F,.n 1,.K [0,1,6,7,8] []] rfl ⟨tt_,g⟩ ?_
  ·exact AK.met (ex_ _ (an_ rfl h))
  exact AK.met (ex_ _ (an_ rfl h))
 rintro σ ⟨a,rfl,h⟩
 refine tg_ hC [.n 2] rfl ?_
 refine AK.meetX (fun σ=>σ=⟨[(0,.I k),(1,.I l),(30,.b ((decide (0<f.1))||(decide (a<f.2))))],[]⟩) ?_ ?_
 ·refine tg_ hC [.n 4] rfl ?_
  rcases Q3 (decide (0<f.1))with e | e
  ·refine Qa hC [.S 26 (.b true),.n 5,.S 30 (.b ((decide (0<f.1))||(decide (a<f.2)))),.K [0,1,30] []] rfl ⟨(tc_ e),(congrArg V.b (orT e rfl))⟩ ?_
   exact AK.met rfl
  refine Qa hC [.S 26 (.b false),.n 5,.S 30 (.b ((decide (0<f.1))||(decide (a<f.2)))),.K [0,1,30] []] rfl ⟨(tc_ e),(congrArg V.b (orF e rfl))⟩ ?_
  exact AK.met rfl
 rintro σ rfl
 refine tg_ hC [.n 1] rfl ?_
 refine bg_ h (fun j h=>Qa hC [.T,.n 8,.K [4,5] []] rfl ⟨tt_,j⟩ ?_) fun j h=>Qa hC [.F,.n 12,.K [4,5] []] rfl ⟨tt_,j⟩ ?_
 ·cases h
  exact d2_ rfl rfl rfl tt_
 cases h
 exact d2_ rfl rfl rfl tt_
def QgK (b:Int)(a:Int):Option (Int×Int×Int):=
 bif (a==0)then
 some (0,0,7)
 else
 bif ((b==(-9223372036854775808))&&(a==(-1)))then
 some (0,0,6)
 else
 (chk (a != 0)).bind fun _=>
 (chk (a != 0)).bind fun _=>
 some ((w64 (Int.tdiv b a)),(Int.tmod b a),0)
theorem QnV (d f){r}(h:QgK d f=some r):Qc prog 292 [.I d,.I f] [] (Gives (.tup [.I r.1,.I r.2.1,.I r.2.2]) []):=by
 refine Qc.walk 23 func292 rfl rfl rfl fun C hC=>?_
 refine tg_ hC [.n 16] rfl ?_
 refine bg_ h (fun e h=>Qa hC [.T,.n 10,.K [4,5,6] []] rfl ⟨tt_,e⟩ ?_) fun e h=>Qa hC [.F,.n 1] rfl ⟨tt_,e⟩ ?_
 ·cases h
  exact AK.done (ex_ [_,_,_] (an_ (an_ rfl (an_ rfl (an_ rfl tt_))) (gives tt_)))
 refine AK.meetX (fun σ=>σ=⟨[(0,.I d),(1,.I f),(10,.b ((d==(-9223372036854775808))&&(f==(-1))))],[]⟩) ?_ ?_
 ·refine tg_ hC [.n 4] rfl ?_
  rcases Q3 (d==(-9223372036854775808))with a | a
  ·refine Qa hC [.S 13 (.b true),.n 5,.S 10 (.b ((d==(-9223372036854775808))&&(f==(-1)))),.K [0,1,10] []] rfl ⟨(tc_ a),(congrArg V.b (Qb6 a rfl))⟩ ?_
   exact AK.met rfl
  refine Qa hC [.S 13 (.b false),.n 5,.S 10 (.b ((d==(-9223372036854775808))&&(f==(-1)))),.K [0,1,10] []] rfl ⟨(tc_ a),(congrArg V.b (Qd2 a rfl))⟩ ?_
  exact AK.met rfl
 rintro σ rfl
 refine tg_ hC [.n 1] rfl ?_
 rcases Qr h with⟨c,h⟩|⟨c,h⟩
 ·refine Qa hC [.T,.n 10,.K [4,5,6] []] rfl ⟨tt_,c⟩ ?_
  cases h
  exact AK.done (ex_ [_,_,_] (an_ (an_ rfl (an_ rfl (an_ rfl tt_))) (gives tt_)))
 obtain⟨g,h⟩:=QaX h
 obtain⟨i,h⟩:=QaX h
 refine Qa hC [.F,.n 4,.K [0,1] []] rfl ⟨tt_,c⟩ ?_
 refine AK.draw2 Qp hC mixed [.N,.N,.N,.N,.N,.N,.N,.N,.N] [] [] [4,5,6] [] rfl rfl rfl ⟨⟨tt_,(neZ g)⟩,(neZ i)⟩ rfl (by kernel_rfl) rfl rfl rfl ?_
 refine tg_ hC [.n 2,.K [4,5,6] []] rfl ?_
 cases h
 exact AK.done (ex_ [_,_,_] (an_ (an_ rfl (an_ rfl (an_ rfl tt_))) (gives tt_)))
def QdI (a:Bool):Option (Int×Int):=
 bif a then
 some (1,0)
 else
 some (0,0)
theorem QdY (c){r}(h:QdI c=some r):Qc prog 293 [.b c] [] (Gives (.tup [.I r.1,.I r.2]) []):=by
 refine Qc.walk 5 func293 rfl rfl rfl fun C hC=>?_
 refine tg_ hC [.n 12] rfl ?_
 refine bg_ h (fun a h=>Qa hC [.T,.n 8,.K [2,3] []] rfl ⟨tt_,a⟩ ?_) fun a h=>Qa hC [.F,.n 9,.K [2,3] []] rfl ⟨tt_,a⟩ ?_
 ·cases h
  exact d2_ rfl rfl rfl tt_
 cases h
 exact d2_ rfl rfl rfl tt_
def QtX (c:Int)(d:Int):Option (Int×Int):=
 bif (c != 0)then
 (QdI (d != 0)).bind fun a=>
 some (a.1,a.2)
 else
 (QdI false).bind fun b=>
 some (b.1,b.2)
def Qmr (a:Int)(b:Int):Option (Int×Int):=
 some (a,b)
def QtY (c:Int)(d:Int):Option (Int×Int):=
 bif (c != 0)then
 (QdI true).bind fun a=>
 some (a.1,a.2)
 else
 (QdI (d != 0)).bind fun b=>
 some (b.1,b.2)
def Qms (a:Int)(b:Int):Option (Int×Int):=
 some (a,b)
def Qj4 (op1:Int)(a:Int)(b:Int):Option (Int×Int):=
 bif (op1==1)then
 (QoQ a b).bind fun k=>
 some (k.1,k.2)
 else
 bif (op1==2)then
 (Qhm a b).bind fun c=>
 some (c.1,c.2)
 else
 bif (op1==3)then
 (QkC a b).bind fun d=>
 some (d.1,d.2)
 else
 bif (op1==4)then
 (QgK a b).bind fun e=>
 some (e.1,e.2.2)
 else
 bif (op1==5)then
 (QgK a b).bind fun f=>
 some (f.2.1,f.2.2)
 else
 bif (op1==6)then
 (QdI (a==b)).bind fun g=>
 some (g.1,g.2)
 else
 bif (op1==7)then
 (QdI (a != b)).bind fun h=>
 some (h.1,h.2)
 else
 bif (op1==8)then
 (QdI (decide (a<b))).bind fun i=>
 some (i.1,i.2)
 else
 bif (op1==9)then
 (QdI (decide (a≤b))).bind fun j=>
 some (j.1,j.2)
 else
 bif (op1==10)then
 (QtX a b).bind (fun v=>Qmr v.1 v.2)
 else
 bif (op1==11)then
 (QtY a b).bind (fun v=>Qms v.1 v.2)
 else
 some (0,1)
theorem Qmt (op1 a2 b3){r}(h:Qj4 op1 a2 b3=some r):Qc prog 286 [.I op1,.I a2,.I b3] [] (Gives (.tup [.I r.1,.I r.2]) []):=by
 refine Qc.walk 112 func286 rfl rfl rfl fun C hC=>?_
 refine tg_ hC [.n 19] rfl ?_
 rcases Qr h with⟨t,h⟩|⟨t,h⟩
 ·obtain⟨x9,a5,h⟩:=Qb h
  refine Qa hC [.T,.n 4,.o (.c false [.d,.d] (.tup [.I x9.1,.I x9.2])),.n 9] rfl ⟨⟨tt_,t⟩,(Qyf _ _ a5)⟩ ?_
  cases h
  exact d2_ rfl rfl rfl tt_
 refine Qa hC [.F,.n 6] rfl ⟨tt_,t⟩ ?_
 rcases Qr h with⟨a,h⟩|⟨a,h⟩
 ·obtain⟨x,y,h⟩:=Qb h
  refine Qa hC [.T,.n 4,.o (.c false [.d,.d] (.tup [.I x.1,.I x.2])),.n 9] rfl ⟨⟨tt_,a⟩,(QsE _ _ y)⟩ ?_
  cases h
  exact d2_ rfl rfl rfl tt_
 refine Qa hC [.F,.n 6] rfl ⟨tt_,a⟩ ?_
 rcases Qr h with⟨e,h⟩|⟨e,h⟩
 ·obtain⟨z,A,h⟩:=Qb h
  refine Qa hC [.T,.n 4,.o (.c false [.d,.d] (.tup [.I z.1,.I z.2])),.n 9] rfl ⟨⟨tt_,e⟩,(QuQ _ _ A)⟩ ?_
  cases h
  exact d2_ rfl rfl rfl tt_
 refine Qa hC [.F,.n 6] rfl ⟨tt_,e⟩ ?_
 rcases Qr h with⟨f,h⟩|⟨f,h⟩
 ·obtain⟨u,B,h⟩:=Qb h
  refine Qa hC [.T,.n 4,.o (.c false [.d,.d] (.tup [.I u.1,.I u.2.1,.I u.2.2])),.n 20] rfl ⟨⟨tt_,f⟩,(QnV _ _ B)⟩ ?_
  cases h
  exact d2_ rfl rfl rfl tt_
 refine Qa hC [.F,.n 6] rfl ⟨tt_,f⟩ ?_
 rcases Qr h with⟨g,h⟩|⟨g,h⟩
 ·obtain⟨w,D,h⟩:=Qb h
  refine Qa hC [.T,.n 4,.o (.c false [.d,.d] (.tup [.I w.1,.I w.2.1,.I w.2.2])),.n 20] rfl ⟨⟨tt_,g⟩,(QnV _ _ D)⟩ ?_
  cases h
  exact d2_ rfl rfl rfl tt_
 refine Qa hC [.F,.n 6] rfl ⟨tt_,g⟩ ?_
 rcases Qr h with⟨i,h⟩|⟨i,h⟩
 ·obtain⟨E,G,h⟩:=Qb h
  refine Qa hC [.T,.n 5,.o (.c false [.d] (.tup [.I E.1,.I E.2])),.n 9] rfl ⟨⟨tt_,i⟩,(QdY _ G)⟩ ?_
  cases h
  exact d2_ rfl rfl rfl tt_
 refine Qa hC [.F,.n 6] rfl ⟨tt_,i⟩ ?_
 rcases Qr h with⟨j,h⟩|⟨j,h⟩
 ·obtain⟨H,J,h⟩:=Qb h
  refine Qa hC [.T,.n 5,.o (.c false [.d] (.tup [.I H.1,.I H.2])),.n 9] rfl ⟨⟨tt_,j⟩,(QdY _ J)⟩ ?_
  cases h
  exact d2_ rfl rfl rfl tt_
 refine Qa hC [.F,.n 6] rfl ⟨tt_,j⟩ ?_
 rcases Qr h with⟨k,h⟩|⟨k,h⟩
 ·obtain⟨L,M,h⟩:=Qb h
  refine Qa hC [.T,.n 5,.o (.c false [.d] (.tup [.I L.1,.I L.2])),.n 9] rfl ⟨⟨tt_,k⟩,(QdY _ M)⟩ ?_
  cases h
  exact d2_ rfl rfl rfl tt_
 refine Qa hC [.F,.n 6] rfl ⟨tt_,k⟩ ?_
 rcases Qr h with⟨l,h⟩|⟨l,h⟩
 ·obtain⟨N,O,h⟩:=Qb h
  refine Qa hC [.T,.n 5,.o (.c false [.d] (.tup [.I N.1,.I N.2])),.n 9] rfl ⟨⟨tt_,l⟩,(QdY _ O)⟩ ?_
  cases h
  exact d2_ rfl rfl rfl tt_
 refine Qa hC [.F,.n 6] rfl ⟨tt_,l⟩ ?_
 refine bg_ h (fun m h=>Qa hC [.T,.n 1] rfl ⟨tt_,m⟩ ?_) fun m h=>Qa hC [.F,.n 6] rfl ⟨tt_,m⟩ ?_
 ·obtain⟨v,P,h⟩:=Qb h
  replace h:Qmr v.1 v.2=some r:=h
  refine AK.meetX (fun σ=>σ=⟨[(6,.I v.1),(7,.I v.2)],[]⟩) ?_ ?_
  ·replace h:=P
   refine tg_ hC [.n 4] rfl ?_
   rcases Qr h with⟨p,h⟩|⟨p,h⟩
   ·obtain⟨U,W,h⟩:=Qb h
    refine Qa hC [.S 94 (.b true),.n 3,.o (.c false [.d] (.tup [.I U.1,.I U.2])),.n 5,.K [6,7] []] rfl ⟨(tc_ p),(QdY _ W)⟩ ?_
    cases h
    exact AK.met rfl
   obtain⟨X,Y,h⟩:=Qb h
   refine Qa hC [.S 94 (.b false),.n 3,.o (.c false [.d] (.tup [.I X.1,.I X.2])),.n 5,.K [6,7] []] rfl ⟨(tc_ p),(QdY _ Y)⟩ ?_
   cases h
   exact AK.met rfl
  rintro σ rfl
  obtain⟨a6,a7⟩:=v
  replace h:Qmr a6 a7=some r:=h
  refine tg_ hC [.n 4] rfl ?_
  cases h
  exact d2_ rfl rfl rfl tt_
 refine bg_ h (fun q h=>Qa hC [.T,.n 1] rfl ⟨tt_,q⟩ ?_) fun q h=>Qa hC [.F,.n 10,.K [6,7] []] rfl ⟨tt_,q⟩ ?_
 ·obtain⟨v,Z,h⟩:=Qb h
  replace h:Qms v.1 v.2=some r:=h
  refine AK.meetX (fun σ=>σ=⟨[(6,.I v.1),(7,.I v.2)],[]⟩) ?_ ?_
  ·replace h:=Z
   refine tg_ hC [.n 4] rfl ?_
   rcases Qr h with⟨s,h⟩|⟨s,h⟩
   ·obtain⟨a0,a1,h⟩:=Qb h
    refine Qa hC [.S 105 (.b true),.n 3,.o (.c false [.d] (.tup [.I a0.1,.I a0.2])),.n 5,.K [6,7] []] rfl ⟨(tc_ s),(QdY _ a1)⟩ ?_
    cases h
    exact AK.met rfl
   obtain⟨a3,a4,h⟩:=Qb h
   refine Qa hC [.S 105 (.b false),.n 3,.o (.c false [.d] (.tup [.I a3.1,.I a3.2])),.n 5,.K [6,7] []] rfl ⟨(tc_ s),(QdY _ a4)⟩ ?_
   cases h
   exact AK.met rfl
  rintro σ rfl
  obtain⟨a8,a9⟩:=v
  replace h:Qms a8 a9=some r:=h
  refine tg_ hC [.n 4] rfl ?_
  cases h
  exact d2_ rfl rfl rfl tt_
 cases h
 exact d2_ rfl rfl rfl tt_
def QoR (b:Int):Option (Int×Int):=
 (Qj4 2 0 b).bind fun a=>
 some (a.1,a.2)
theorem Qyg (b){r}(h:QoR b=some r):Qc prog 285 [.I b] [] (Gives (.tup [.I r.1,.I r.2]) []):=by
 refine Qc.walk 8 func285 rfl rfl rfl fun C hC=>?_
 obtain⟨e,a,h⟩:=Qb h
 refine Qa hC [.n 9,.o (.c false [.d,.d,.d] (.tup [.I e.1,.I e.2])),.n 7] rfl ⟨tt_,(Qmt _ _ _ a)⟩ ?_
 cases h
 exact d2_ rfl rfl rfl tt_
def Qho (rec_expr_env_eval:(List Int)→Qo→Option (Int×Int))(e:(List Int))(d:Qo):Option (Int×Int):=
 (idx d.Kids 0).bind fun f=>
 (rec_expr_env_eval e f).bind fun c=>
 bif (c.2 != 0)then
 some (0,c.2)
 else
 bif (d.Kind==3)then
 (QoR c.1).bind fun a=>
 some (a.1,a.2)
 else
 (Qj4 6 c.1 0).bind fun b=>
 some (b.1,b.2)
theorem QsG (rec_expr_env_eval:(List Int)→Qo→Option (Int×Int))(hrec_expr_env_eval:∀(e:(List Int)) (f:Qo) {r:(Int×Int)},rec_expr_env_eval e f=some r→Qc prog 213 [.sl 1 (e.map Qe),.agg (Qs f)] [] (Gives (.tup [.I r.1,.I r.2]) []))(e:(List Int))(f:Qo){r:(Int×Int)}(h:Qho rec_expr_env_eval e f=some r):Qc prog 270 [.sl 1 (e.map Qe),.agg (Qs f)] [] (Gives (.tup [.I r.1,.I r.2]) []):=by
 refine Qc.walk 33 func270 rfl rfl rfl fun C hC=>?_
 obtain⟨p,l,h⟩:=Qb h
 obtain⟨q,m,h⟩:=Qb h
 refine Qa hC [.n 12,.o (.row (Qs p)),.v .no [] (.agg (Qs p)),.o (.c false [.d,.d] (.tup [.I q.1,.I q.2])),.n 16] rfl ⟨⟨⟨tt_,(QeB l)⟩,rfl⟩,(hrec_expr_env_eval _ _ m)⟩ ?_
 refine bg_ h (fun b h=>Qa hC [.T,.n 10,.K [4,5] []] rfl ⟨tt_,b⟩ ?_) fun b h=>Qa hC [.F,.n 8] rfl ⟨tt_,b⟩ ?_
 ·cases h
  exact d2_ rfl rfl rfl tt_
 rcases Qr h with⟨a,h⟩|⟨a,h⟩
 ·obtain⟨g,i,h⟩:=Qb h
  refine Qa hC [.T,.n 3,.o (.c false [.d] (.tup [.I g.1,.I g.2])),.n 9] rfl ⟨⟨tt_,a⟩,(Qyg _ i)⟩ ?_
  cases h
  exact d2_ rfl rfl rfl tt_
 obtain⟨j,k,h⟩:=Qb h
 refine Qa hC [.F,.n 6,.o (.c false [.d,.d,.d] (.tup [.I j.1,.I j.2])),.n 7] rfl ⟨⟨tt_,a⟩,(Qmt _ _ _ k)⟩ ?_
 cases h
 exact d2_ rfl rfl rfl tt_
def QdU (f:(Int×Int))(g:Qo)(rec_expr_env_eval:(List Int)→Qo→Option (Int×Int))(h:(List Int))(d:Bool):Option (Int×Int):=
 bif d then
 (Qj4 7 f.1 0).bind fun b=>
 some (b.1,b.2)
 else
 (idx g.Kids 1).bind fun e=>
 (rec_expr_env_eval h e).bind fun a=>
 bif (a.2 != 0)then
 some (0,a.2)
 else
 (Qj4 g.Num f.1 a.1).bind fun c=>
 some (c.1,c.2)
def Qnj (rec_expr_env_eval:(List Int)→Qo→Option (Int×Int))(c:(List Int))(b:Qo):Option (Int×Int):=
 (idx b.Kids 0).bind fun d=>
 (rec_expr_env_eval c d).bind fun a=>
 bif (a.2 != 0)then
 some (0,a.2)
 else
 bif ((b.Num==10)&&(a.1==0))then
 QdU a b rec_expr_env_eval c ((b.Num==10)&&(a.1==0))
 else
 bif (b.Num==11)then
 QdU a b rec_expr_env_eval c (a.1 != 0)
 else
 QdU a b rec_expr_env_eval c false
theorem QuR (rec_expr_env_eval:(List Int)→Qo→Option (Int×Int))(hrec_expr_env_eval:∀(k:(List Int)) (e:Qo) {r:(Int×Int)},rec_expr_env_eval k e=some r→Qc prog 213 [.sl 1 (k.map Qe),.agg (Qs e)] [] (Gives (.tup [.I r.1,.I r.2]) []))(k:(List Int))(e:Qo){r:(Int×Int)}(h:Qnj rec_expr_env_eval k e=some r):Qc prog 271 [.sl 1 (k.map Qe),.agg (Qs e)] [] (Gives (.tup [.I r.1,.I r.2]) []):=by
 refine Qc.walk 60 func271 rfl rfl rfl fun C hC=>?_
 obtain⟨D,A,h⟩:=Qb h
 obtain⟨l,B,h⟩:=Qb h
 refine Qa hC [.n 12,.o (.row (Qs D)),.v .no [] (.agg (Qs D)),.o (.c false [.d,.d] (.tup [.I l.1,.I l.2])),.n 16] rfl ⟨⟨⟨tt_,(QeB A)⟩,rfl⟩,(hrec_expr_env_eval _ _ B)⟩ ?_
 refine bg_ h (fun m h=>Qa hC [.T,.n 10,.K [4,5] []] rfl ⟨tt_,m⟩ ?_) fun m h=>Qa hC [.F] rfl ⟨tt_,m⟩ ?_
 ·cases h
  exact d2_ rfl rfl rfl tt_
 refine AK.meet (fun σ=>∃p:Bool,σ=⟨[(0,.sl 1 (k.map Qe)),(3,.loc 3 0 0),(6,.I l.1),(22,.b p)],[(3,.var (Qs e))]⟩∧QdU l e rec_expr_env_eval k p=some r) ?_ ?_
 ·refine tg_ hC [.n 1] rfl ?_
  refine AK.meetX (fun σ=>σ=⟨[(0,.sl 1 (k.map Qe)),(3,.loc 3 0 0),(6,.I l.1),(22,.b ((e.Num==10)&&(l.1==0)))],[(3,.var (Qs e))]⟩) ?_ ?_
  ·refine tg_ hC [.n 5] rfl ?_
   rcases Q3 (e.Num==10)with a | a
   ·refine Qa hC [.S 26 (.b true),.n 5,.S 22 (.b ((e.Num==10)&&(l.1==0))),.K [0,3,6,22] [3]] rfl ⟨(tc_ a),(congrArg V.b (Qb6 a rfl))⟩ ?_
    exact AK.met rfl
   refine Qa hC [.S 26 (.b false),.n 5,.S 22 (.b ((e.Num==10)&&(l.1==0))),.K [0,3,6,22] [3]] rfl ⟨(tc_ a),(congrArg V.b (Qd2 a rfl))⟩ ?_
   exact AK.met rfl
  rintro σ rfl
  refine tg_ hC [.n 1] rfl ?_
  refine bg_ h (fun f h=>Qa hC [.T,.n 1,.K [0,3,6,22] [3]] rfl ⟨tt_,f⟩ ?_) fun f h=>Qa hC [.F,.n 5] rfl ⟨tt_,f⟩ ?_
  ·exact AK.met (ex_ _ (an_ rfl h))
  refine bg_ h (fun g h=>Qa hC [.S 33 (.b true),.n 5,.K [0,3,6,22] [3]] rfl (tc_ g) ?_) fun g h=>Qa hC [.S 33 (.b false),.n 5,.K [0,3,6,22] [3]] rfl (tc_ g) ?_
  ·exact AK.met (ex_ _ (an_ rfl h))
  exact AK.met (ex_ _ (an_ rfl h))
 rintro σ ⟨p,rfl,h⟩
 rcases Qr h with⟨i,h⟩|⟨i,h⟩
 ·obtain⟨q,s,h⟩:=Qb h
  refine Qa hC [.T,.n 3,.o (.c false [.d,.d,.d] (.tup [.I q.1,.I q.2])),.n 9] rfl ⟨⟨tt_,i⟩,(Qmt _ _ _ s)⟩ ?_
  cases h
  exact d2_ rfl rfl rfl tt_
 obtain⟨t,u,h⟩:=Qb h
 obtain⟨w,x,h⟩:=Qb h
 refine Qa hC [.F,.n 8,.o (.row (Qs t)),.v .no [] (.agg (Qs t)),.o (.c false [.d,.d] (.tup [.I w.1,.I w.2])),.n 14] rfl ⟨⟨⟨⟨tt_,i⟩,(QeB u)⟩,rfl⟩,(hrec_expr_env_eval _ _ x)⟩ ?_
 rcases Qr h with⟨j,h⟩|⟨j,h⟩
 ·refine Qa hC [.T,.n 9] rfl ⟨tt_,j⟩ ?_
  cases h
  exact d2_ rfl rfl rfl tt_
 obtain⟨y,z,h⟩:=Qb h
 refine Qa hC [.F,.n 8,.o (.c false [.d,.d,.d] (.tup [.I y.1,.I y.2])),.n 7] rfl ⟨⟨tt_,j⟩,(Qmt _ _ _ z)⟩ ?_
 cases h
 exact d2_ rfl rfl rfl tt_
def Qk3 (rec_expr_env_eval:(List Int)→Qo→Option (Int×Int))(c:(List Int))(d:Qo):Option (Int×Int):=
 (idx d.Kids 0).bind fun h=>
 (rec_expr_env_eval c h).bind fun e=>
 bif (e.2 != 0)then
 some (0,e.2)
 else
 bif (e.1 != 0)then
 (idx d.Kids 1).bind fun f=>
 (rec_expr_env_eval c f).bind fun a=>
 some (a.1,a.2)
 else
 (idx d.Kids 2).bind fun g=>
 (rec_expr_env_eval c g).bind fun b=>
 some (b.1,b.2)
theorem QsH (rec_expr_env_eval:(List Int)→Qo→Option (Int×Int))(hrec_expr_env_eval:∀(e:(List Int)) (f:Qo) {r:(Int×Int)},rec_expr_env_eval e f=some r→Qc prog 213 [.sl 1 (e.map Qe),.agg (Qs f)] [] (Gives (.tup [.I r.1,.I r.2]) []))(e:(List Int))(f:Qo){r:(Int×Int)}(h:Qk3 rec_expr_env_eval e f=some r):Qc prog 272 [.sl 1 (e.map Qe),.agg (Qs f)] [] (Gives (.tup [.I r.1,.I r.2]) []):=by
 refine Qc.walk 40 func272 rfl rfl rfl fun C hC=>?_
 obtain⟨u,s,h⟩:=Qb h
 obtain⟨w,t,h⟩:=Qb h
 refine Qa hC [.n 12,.o (.row (Qs u)),.v .no [] (.agg (Qs u)),.o (.c false [.d,.d] (.tup [.I w.1,.I w.2])),.n 16] rfl ⟨⟨⟨tt_,(QeB s)⟩,rfl⟩,(hrec_expr_env_eval _ _ t)⟩ ?_
 refine bg_ h (fun b h=>Qa hC [.T,.n 10,.K [4,5] []] rfl ⟨tt_,b⟩ ?_) fun b h=>Qa hC [.F,.n 7] rfl ⟨tt_,b⟩ ?_
 ·cases h
  exact d2_ rfl rfl rfl tt_
 rcases Qr h with⟨a,h⟩|⟨a,h⟩
 ·obtain⟨g,i,h⟩:=Qb h
  obtain⟨j,k,h⟩:=Qb h
  refine Qa hC [.T,.n 5,.o (.row (Qs g)),.v .no [] (.agg (Qs g)),.o (.c false [.d,.d] (.tup [.I j.1,.I j.2])),.n 9] rfl ⟨⟨⟨⟨tt_,a⟩,(QeB i)⟩,rfl⟩,(hrec_expr_env_eval _ _ k)⟩ ?_
  cases h
  exact d2_ rfl rfl rfl tt_
 obtain⟨l,m,h⟩:=Qb h
 obtain⟨p,q,h⟩:=Qb h
 refine Qa hC [.F,.n 8,.o (.row (Qs l)),.v .no [] (.agg (Qs l)),.o (.c false [.d,.d] (.tup [.I p.1,.I p.2])),.n 7] rfl ⟨⟨⟨⟨tt_,a⟩,(QeB m)⟩,rfl⟩,(hrec_expr_env_eval _ _ q)⟩ ?_
 cases h
 exact d2_ rfl rfl rfl tt_
def QnW (b:Qo)(c:(List Int)):Option (Int×Int):=
 (Qou c b).bind fun a=>
 some (a.1,a.2)
def QgL (b:Qo)(c:(List Int)):Option (Int×Int):=
 (Qja c b).bind fun a=>
 some (a.1,a.2)
def Qdn (rec_expr_env_eval:(List Int)→Qo→Option (Int×Int))(c:Qo)(b:(List Int)):Option (Int×Int):=
 (Qho rec_expr_env_eval b c).bind fun a=>
 some (a.1,a.2)
def QgM (rec_expr_env_eval:(List Int)→Qo→Option (Int×Int))(c:Qo)(b:(List Int)):Option (Int×Int):=
 (Qnj rec_expr_env_eval b c).bind fun a=>
 some (a.1,a.2)
def QgN (rec_expr_env_eval:(List Int)→Qo→Option (Int×Int))(c:Qo)(b:(List Int)):Option (Int×Int):=
 (Qk3 rec_expr_env_eval b c).bind fun a=>
 some (a.1,a.2)
def Qk4 (rec_expr_env_eval:(List Int)→Qo→Option (Int×Int))(b:(List Int))(a:Qo):Option (Int×Int):=
 (QcW b a.Kind).bind fun c=>
 (Sum.elim (fun q=>QnW a q) (Sum.elim (fun q=>QgL a q) (Sum.elim (fun q=>Qdn rec_expr_env_eval a q) (Sum.elim (fun q=>QgM rec_expr_env_eval a q) (fun q=>QgN rec_expr_env_eval a q))))) c
def QaI : Nat→(List Int)→Qo→Option (Int×Int)
 | 0,_,_=>none
 | n+1,a,b=>Qk4 (QaI n) a b
def Qmu (b:(List Int))(a:Qo):Option (Int×Int):=QaI (SizeOf.sizeOf a) b a
theorem QsI (rec_expr_env_eval:(List Int)→Qo→Option (Int×Int))(hrec_expr_env_eval:∀(l:(List Int)) (b:Qo) {r:(Int×Int)},rec_expr_env_eval l b=some r→Qc prog 213 [.sl 1 (l.map Qe),.agg (Qs b)] [] (Gives (.tup [.I r.1,.I r.2]) []))(l:(List Int))(b:Qo){r:(Int×Int)}(h:Qk4 rec_expr_env_eval l b=some r):Qc prog 213 [.sl 1 (l.map Qe),.agg (Qs b)] [] (Gives (.tup [.I r.1,.I r.2]) []):=by
 refine Qc.walk 14 func213 rfl rfl rfl fun C hC=>?_
 refine tg_ hC [.n 8] rfl ?_
 obtain⟨D,e,h⟩:=Qb h
 rcases D with(A | (B | (i | (j | k))))
 ·replace h:QnW b A=some r:=h
  obtain⟨o,p,h⟩:=Qb h
  refine tg_ hC [.K [0,3,4,5] [3]] rfl ?_
  refine AK.draw2 Qp hC mixed [.N,.N,.N,.a (.any (.clo (.func 268) [.sl 1 (A.map Qe)] []) none) none false,.a .no (some ([],.agg (Qs b))) false,.a (.c false [.d,.d] (.tup [.I o.1,.I o.2])) none false,.N,.N,.m .s,.m .s] [] [] [4,5] [] rfl rfl rfl ⟨⟨⟨tt_,(fun σ f g _=>Stp.callSame (md:=.cm (.fn) [] [] [] [.d,.d] [] (.clo (.func 268) [.sl 1 (A.map Qe)] []) []) Qp hC f g rfl ⟨tt_,(QeQ _ _ e)⟩)⟩,rfl⟩,(QsD _ _ p)⟩ rfl (by kernel_rfl) rfl rfl rfl ?_
  refine tg_ hC [.n 2] rfl ?_
  cases h
  exact d2_ rfl rfl rfl tt_
 ·replace h:QgL b B=some r:=h
  obtain⟨q,t,h⟩:=Qb h
  refine tg_ hC [.K [0,3,4,5] [3]] rfl ?_
  refine AK.draw2 Qp hC mixed [.N,.N,.N,.a (.any (.clo (.func 269) [.sl 1 (B.map Qe)] []) none) none false,.a .no (some ([],.agg (Qs b))) false,.a (.c false [.d,.d] (.tup [.I q.1,.I q.2])) none false,.N,.N,.m .s,.m .s] [] [] [4,5] [] rfl rfl rfl ⟨⟨⟨tt_,(fun σ f g _=>Stp.callSame (md:=.cm (.fn) [] [] [] [.d,.d] [] (.clo (.func 269) [.sl 1 (B.map Qe)] []) []) Qp hC f g rfl ⟨tt_,(QeQ _ _ e)⟩)⟩,rfl⟩,(Qrd _ _ t)⟩ rfl (by kernel_rfl) rfl rfl rfl ?_
  refine tg_ hC [.n 2] rfl ?_
  cases h
  exact d2_ rfl rfl rfl tt_
 ·replace h:Qdn rec_expr_env_eval b i=some r:=h
  obtain⟨u,v,h⟩:=Qb h
  refine tg_ hC [.K [0,3,4,5] [3]] rfl ?_
  refine AK.draw2 Qp hC mixed [.N,.N,.N,.a (.any (.clo (.func 270) [.sl 1 (i.map Qe)] []) none) none false,.a .no (some ([],.agg (Qs b))) false,.a (.c false [.d,.d] (.tup [.I u.1,.I u.2])) none false,.N,.N,.m .s,.m .s] [] [] [4,5] [] rfl rfl rfl ⟨⟨⟨tt_,(fun σ f g _=>Stp.callSame (md:=.cm (.fn) [] [] [] [.d,.d] [] (.clo (.func 270) [.sl 1 (i.map Qe)] []) []) Qp hC f g rfl ⟨tt_,(QeQ _ _ e)⟩)⟩,rfl⟩,(QsG rec_expr_env_eval hrec_expr_env_eval _ _ v)⟩ rfl (by kernel_rfl) rfl rfl rfl ?_
  refine tg_ hC [.n 2] rfl ?_
  cases h
  exact d2_ rfl rfl rfl tt_
 ·replace h:QgM rec_expr_env_eval b j=some r:=h
  obtain⟨w,x,h⟩:=Qb h
  refine tg_ hC [.K [0,3,4,5] [3]] rfl ?_
  refine AK.draw2 Qp hC mixed [.N,.N,.N,.a (.any (.clo (.func 271) [.sl 1 (j.map Qe)] []) none) none false,.a .no (some ([],.agg (Qs b))) false,.a (.c false [.d,.d] (.tup [.I w.1,.I w.2])) none false,.N,.N,.m .s,.m .s] [] [] [4,5] [] rfl rfl rfl ⟨⟨⟨tt_,(fun σ f g _=>Stp.callSame (md:=.cm (.fn) [] [] [] [.d,.d] [] (.clo (.func 271) [.sl 1 (j.map Qe)] []) []) Qp hC f g rfl ⟨tt_,(QeQ _ _ e)⟩)⟩,rfl⟩,(QuR rec_expr_env_eval hrec_expr_env_eval _ _ x)⟩ rfl (by kernel_rfl) rfl rfl rfl ?_
  refine tg_ hC [.n 2] rfl ?_
  cases h
  exact d2_ rfl rfl rfl tt_
 replace h:QgN rec_expr_env_eval b k=some r:=h
 obtain⟨y,z,h⟩:=Qb h
 refine tg_ hC [.K [0,3,4,5] [3]] rfl ?_
 refine AK.draw2 Qp hC mixed [.N,.N,.N,.a (.any (.clo (.func 272) [.sl 1 (k.map Qe)] []) none) none false,.a .no (some ([],.agg (Qs b))) false,.a (.c false [.d,.d] (.tup [.I y.1,.I y.2])) none false,.N,.N,.m .s,.m .s] [] [] [4,5] [] rfl rfl rfl ⟨⟨⟨tt_,(fun σ f g _=>Stp.callSame (md:=.cm (.fn) [] [] [] [.d,.d] [] (.clo (.func 272) [.sl 1 (k.map Qe)] []) []) Qp hC f g rfl ⟨tt_,(QeQ _ _ e)⟩)⟩,rfl⟩,(QsH rec_expr_env_eval hrec_expr_env_eval _ _ z)⟩ rfl (by kernel_rfl) rfl rfl rfl ?_
 refine tg_ hC [.n 2] rfl ?_
 cases h
 exact d2_ rfl rfl rfl tt_
theorem Qmv : ∀(fuel:Nat) (a:(List Int)) (b:Qo) {r:(Int×Int)},QaI fuel a b=some r→Qc prog 213 [.sl 1 (a.map Qe),.agg (Qs b)] [] (Gives (.tup [.I r.1,.I r.2]) [])
 | 0,_,_,_,h=>by cases h
 | n+1,a,b,_,h=>QsI (QaI n) (fun _ _ _ h=>Qmv n _ _ h) a b h
theorem QtZ (a b){r}(h:Qmu a b=some r):Qc prog 213 [.sl 1 (a.map Qe),.agg (Qs b)] [] (Gives (.tup [.I r.1,.I r.2]) []):=Qmv _ a b h
def Qlg (b:Qo)(a:(List Int)):Option (Int×Int):=
 (QhP b (a.length:Int)).bind fun d=>
 bif (!d)then
 some (0,1)
 else
 (Qmu a b).bind fun c=>
 some (c.1,c.2)
theorem Qry (f a){r}(h:Qlg f a=some r):Qc prog 144 [.agg (Qs f),.sl 1 (a.map Qe)] [] (Gives (.tup [.I r.1,.I r.2]) []):=by
 refine Qc.walk 16 func144 rfl rfl rfl fun C hC=>?_
 obtain⟨k,g,h⟩:=Qb h
 refine Qa hC [.n 10,.v .no [] (.agg (Qs f)),.n 1,.o (.ln a.length),.o (.c false [.d,.d] (.b k)),.n 3] rfl ⟨⟨⟨tt_,rfl⟩,Qf⟩,(Qmq _ _ g)⟩ ?_
 rcases Qr h with⟨e,h⟩|⟨e,h⟩
 ·refine Qa hC [.T,.n 8] rfl ⟨tt_,e⟩ ?_
  cases h
  exact d2_ rfl rfl rfl tt_
 obtain⟨j,i,h⟩:=Qb h
 refine Qa hC [.F,.n 5,.v .no [] (.agg (Qs f)),.o (.c false [.d,.d] (.tup [.I j.1,.I j.2])),.n 7] rfl ⟨⟨⟨tt_,e⟩,rfl⟩,(QtZ _ _ i)⟩ ?_
 cases h
 exact d2_ rfl rfl rfl tt_
def Qal (b:QX):Option Int:=
 (Qlg b.task.Guard b.env).bind fun a=>
 bif (a.2 != 0)then
 some a.2
 else
 bif (a.1==0)then
 some 9
 else
 some 0
theorem Qj5 (e){r}(h:Qal e=some r):Qc prog 90 [.agg (Qz e)] [] (Gives (.I r) []):=by
 refine Qc.walk 21 func90 rfl rfl rfl fun C hC=>?_
 obtain⟨g,f,h⟩:=Qb h
 refine Qa hC [.n 10,.v .no [] (.agg (Qs e.task.Guard)),.n 2,.o (.c false [.d,.d] (.tup [.I g.1,.I g.2])),.n 16] rfl ⟨⟨tt_,rfl⟩,(Qry _ _ f)⟩ ?_
 refine bg_ h (fun a h=>Qa hC [.T,.n 9,.K [2] []] rfl ⟨tt_,a⟩ ?_) fun a h=>Qa hC [.F,.n 7] rfl ⟨tt_,a⟩ ?_
 ·cases h
  exact d1_ rfl rfl tt_
 refine bg_ h (fun b h=>Qa hC [.T,.n 8,.K [2] []] rfl ⟨tt_,b⟩ ?_) fun b h=>Qa hC [.F,.n 9,.K [2] []] rfl ⟨tt_,b⟩ ?_
 ·cases h
  exact d1_ rfl rfl tt_
 cases h
 exact d1_ rfl rfl tt_
def Qdt (a:QLL):Option QLL:=
 (chk (decide (([]:List (List Int)).length+a.length≤4294967296))).bind fun _=>
 some (([]:List (List Int))++a)
theorem Qnk (a){r}(h:Qdt a=some r):Qc prog 100 [.sl 1 (a.map QL)] [] (Gives (.own 600 r.length) [(600,.arr 1 (r.map QL))]):=by
 refine Qc.walk 8 func100 rfl rfl rfl fun C hC=>?_
 unfold Qdt at h
 refine tg_ hC [.n 9] rfl ?_
 refine AK.eqNil rfl rfl rfl (QO hC.n rfl) rfl rfl QD8 ?_ ?_
 ·intro b
  replace h:some ([]:List (List Int))=some r:=by simpa [chk,List.map_eq_nil_iff.1 b] using h
  refine Qa hC [.n 10,.adopt 2 600 1,.O 600 (.arr 1 (([]:List (List Int)).map QL)),.S 2 (.own 600 ([]:List (List Int)).length)] rfl ⟨⟨tt_,rfl⟩,rfl⟩ ?_
  cases h
  exact d1_ rfl rfl ⟨rfl,tt_⟩
 obtain⟨c,h⟩:=QaX h
 refine Qa hC [.n 8,.O 5 (.arr 1 (([]:List (List Int)).map QL)),.S 5 (.own 5 ([]:List (List Int)).length),.n 1,.app ((([]:List (List Int))++a).map QL) (([]:List (List Int))++a).length,.n 4,.K [2] [5],.ren 5 600] rfl ⟨⟨⟨tt_,rfl⟩,rfl⟩,⟨Qf,QbP c Qf,QaZ,QcP Qf⟩⟩ ?_
 cases h
 exact d1_ rfl rfl ⟨rfl,tt_⟩
def QcG (c:(Bool×QaY))(a:Int):Option (Int×Bool):=
 (Qdi c.2 a).bind fun b=>
 bif (!b)then
 some (0,false)
 else
 some (a,true)
def Qe4 (d:(List QJ))(e:Int)(b:Int):Option (Int×Bool):=
 (QfL d e).bind fun c=>
 bif (!c.1)then
 some (0,false)
 else
 (Qc1 c.2).bind fun a=>
 bif (a.Kind==1)then
 bif ((decide (b<a.Lo))||(decide (a.Hi<b)))then
 some (0,false)
 else
 QcG c (w64 (b-a.Lo))
 else
 QcG c b
theorem Qt0 (u w j){r}(h:Qe4 u w j=some r):Qc prog 151 [.sl 7 (u.map Qu),.I w,.I j] [] (Gives (.tup [.I r.1,.b r.2]) []):=by
 refine Qc.walk 43 func151 rfl rfl rfl fun C hC=>?_
 obtain⟨k,s,h⟩:=Qb h
 refine Qa hC [.n 10,.o (.c false [.d,.d] (.tup [.agg (Q9 k.2),.b k.1])),.n 5,.O 8 (.var (Q9 k.2)),.n 10] rfl ⟨⟨tt_,(Qne _ _ s)⟩,rfl⟩ ?_
 refine bg_ h (fun l h=>Qa hC [.T,.n 8,.K [6,7] []] rfl ⟨tt_,l⟩ ?_) fun l h=>Qa hC [.F,.n 2] rfl ⟨tt_,l⟩ ?_
 ·cases h
  exact d2_ rfl rfl rfl tt_
 refine AK.meet (fun σ=>∃m:Int,σ=⟨[(2,.I m),(8,.loc 8 0 0)],[(8,.var (Q9 k.2))]⟩∧QcG k m=some r) ?_ ?_
 ·obtain⟨a,p,h⟩:=Qb h
  refine Qa hC [.n 2,.v .no [] (.agg (Q9 k.2)),.o (.c false [.d] (.agg (Qu a))),.n 2,.O 10 (.var (Qu a)),.n 9] rfl ⟨⟨⟨tt_,rfl⟩,(Qg8 _ p)⟩,rfl⟩ ?_
  refine bg_ h (fun f h=>Qa hC [.T,.n 2] rfl ⟨tt_,f⟩ ?_) fun f h=>Qa hC [.F,.n 1,.K [2,8] [8]] rfl ⟨tt_,f⟩ ?_
  ·refine AK.meetX (fun σ=>σ=⟨[(2,.I j),(8,.loc 8 0 0),(10,.loc 10 0 0),(33,.b ((decide (j<a.Lo))||(decide (a.Hi<j))))],[(8,.var (Q9 k.2)),(10,.var (Qu a))]⟩) ?_ ?_
   ·refine tg_ hC [.n 6] rfl ?_
    rcases Q3 (decide (j<a.Lo))with e | e
    ·refine Qa hC [.S 28 (.b true),.n 6,.S 33 (.b ((decide (j<a.Lo))||(decide (a.Hi<j)))),.K [2,8,10,33] [8,10]] rfl ⟨(tc_ e),(congrArg V.b (orT e rfl))⟩ ?_
     exact AK.met rfl
    refine Qa hC [.S 28 (.b false),.n 6,.S 33 (.b ((decide (j<a.Lo))||(decide (a.Hi<j)))),.K [2,8,10,33] [8,10]] rfl ⟨(tc_ e),(congrArg V.b (orF e rfl))⟩ ?_
    exact AK.met rfl
   rintro σ rfl
   refine tg_ hC [.n 1] rfl ?_
   refine bg_ h (fun g h=>Qa hC [.T,.n 9,.K [6,7] []] rfl ⟨tt_,g⟩ ?_) fun g h=>Qa hC [.F,.n 9,.K [2,8] [8]] rfl ⟨tt_,g⟩ ?_
   ·cases h
    exact d2_ rfl rfl rfl tt_
   exact AK.met (ex_ _ (an_ rfl h))
  exact AK.met (ex_ _ (an_ rfl h))
 rintro σ ⟨m,rfl,h⟩
 obtain⟨t,q,h⟩:=Qb h
 refine Qa hC [.n 3,.v .no [] (.agg (Q9 k.2)),.n 1,.o (.c false [.d,.d] (.b t)),.n 3] rfl ⟨⟨tt_,rfl⟩,(Qm4 _ _ q)⟩ ?_
 refine bg_ h (fun i h=>Qa hC [.T,.n 8,.K [6,7] []] rfl ⟨tt_,i⟩ ?_) fun i h=>Qa hC [.F,.n 10,.K [6,7] []] rfl ⟨tt_,i⟩ ?_
 ·cases h
  exact d2_ rfl rfl rfl tt_
 cases h
 exact d2_ rfl rfl rfl tt_
def Qio (a:(List Int))(j:(List Qax))(h:(List Int))(k:Qj)(e:Int)(c:QMk):Option ((Int×QMk)⊕(Int⊕QMk)):=
 bif (decide (e<(a.length:Int)))then
 (idx a e).bind fun d=>
 bif ((decide (d<0))||(decide ((j.length:Int)≤d)))then
 some (.inr (.inl 11))
 else
 (idx j d).bind fun l=>
 (Qlg l.Expr h).bind fun f=>
 bif (f.2 != 0)then
 some (.inr (.inl f.2))
 else
 (idx j d).bind fun b=>
 bif ((decide (b.Place<0))||(decide ((k.Places.length:Int)≤b.Place)))then
 some (.inr (.inl 3))
 else
 (idx k.Places b.Place).bind fun m=>
 (Qe4 k.Colours m.Colour f.1).bind fun i=>
 bif (!i.2)then
 some (.inr (.inl 8))
 else
 (idx c b.Place).bind fun n=>
 (Qnc ([i.1]:List Int)).bind fun o=>
 (QbH n o).bind fun g=>
 (idx c b.Place).bind fun p=>
 bif (g.2 != 0)then
 some (.inr (.inl g.2))
 else
 some (.inl ((w64 (e+1)),(c.set b.Place.toNat g.1)))
 else
 some (.inr (.inr c))
def Qpy (a:Int):Option (QMk×Int):=
 some (([]:List QBg),a)
def Qpz (a:QMk):Option (QMk×Int):=
 some (a,0)
def QdZ (b:Qj)(d:(List Qax))(a:(List Int))(c:(List Int)):Option (QMk×Int):=
 (chk (decide (0≤(b.Places.length:Int))&&decide ((b.Places.length:Int)≤(b.Places.length:Int))&&decide ((b.Places.length:Int)≤4294967296))).bind fun _=>
 (QK (fun st=>Qio a d c b st.1 st.2) (0,(List.replicate (b.Places.length:Int).toNat (([]:QBg):QBg)))).bind (Sum.elim (fun q=>Qpy q) (fun q=>Qpz q))
theorem Qf3 (s D g j){r}(h:QdZ s D g j=some r):Qc prog 95 [.agg (Qd s),.sl 4 (D.map Q7),.sl 1 (g.map Qe),.sl 1 (j.map Qe)] [] (Gives (.tup [.sl 1 (r.1.map Qi),.I r.2]) []):=by
 refine Qc.walk 97 func95 rfl rfl rfl fun C hC=>?_
 obtain⟨a5,h⟩:=QaX h
 refine Qa hC [.n 11,.o (.ln s.Places.length),.o (.rows (List.replicate (s.Places.length:Int).toNat [.lit (.slice none 0 0)]))] rfl ⟨⟨tt_,Qf⟩,⟨a5,rfl⟩⟩ ?_
 refine AK.denilA (b:=21) [some 2] rfl (Qy3 (f:=Qi) (x:=([]:QBg)) rfl) ?_
 refine Qa hC [.S 21 (.own 21 (List.replicate (s.Places.length:Int).toNat (([]:QBg):QBg)).length),.n 7,.o (.ln g.length),.n 4,.K [1,3,4,10,22,23,24] [4,21]] rfl ⟨⟨tt_,(by simp)⟩,Qf⟩ ?_
 obtain⟨a6,M,h⟩:=Qb h
 refine AK.loop (body:=(fun st=>Qio g D j s st.1 st.2)) (fun st σ=>σ=⟨[(1,.sl 4 (D.map Q7)),(3,.sl 1 (j.map Qe)),(4,.loc 4 0 0),(10,.own 21 st.2.length),(22,.sl 1 (g.map Qe)),(23,.I (g.length:Int)),(24,.I st.1)],[(4,.var (Qd s)),(21,.arr 1 (st.2.map Qi))]⟩) (Sum.elim (fun q e σ=>e=.ret∧σ=⟨[(8,.lit (.slice none 0 0)),(9,.I q)],[]⟩) (fun q e σ=>e=.exit 0∧σ=⟨[(10,.own 21 q.length)],[(21,.arr 1 (q.map Qi))]⟩)) M rfl ?_ ?_
 ·rintro ⟨O,t⟩ o σ rfl h
  refine tg_ hC [.n 6] rfl ?_
  rcases Qr h with⟨u,h⟩|⟨u,h⟩
  ·obtain⟨k,P,h⟩:=Qb h
   refine Qa hC [.T,.n 6,.o (.row (Qe k)),.n 6] rfl ⟨⟨tt_,u⟩,(QP P)⟩ ?_
   refine AK.meetX (fun σ=>σ=⟨[(1,.sl 4 (D.map Q7)),(3,.sl 1 (j.map Qe)),(4,.loc 4 0 0),(10,.own 21 t.length),(12,.I k),(22,.sl 1 (g.map Qe)),(23,.I (g.length:Int)),(24,.I O),(35,.b ((decide (k<0))||(decide ((D.length:Int)≤k))))],[(4,.var (Qd s)),(21,.arr 1 (t.map Qi))]⟩) ?_ ?_
   ·refine tg_ hC [.n 4] rfl ?_
    rcases Q3 (decide (k<0))with l | l
    ·refine Qa hC [.S 30 (.b true),.n 6,.S 35 (.b ((decide (k<0))||(decide ((D.length:Int)≤k)))),.K [1,3,4,10,12,22,23,24,35] [4,21]] rfl ⟨(tc_ l),(congrArg V.b (orT l rfl))⟩ ?_
     exact AK.met rfl
    refine Qa hC [.S 30 (.b false),.n 2,.o (.ln D.length),.n 3,.S 35 (.b ((decide (k<0))||(decide ((D.length:Int)≤k)))),.K [1,3,4,10,12,22,23,24,35] [4,21]] rfl ⟨⟨(tc_ l),Qf⟩,(congrArg V.b (orF l rfl))⟩ ?_
    exact AK.met rfl
   rintro σ rfl
   refine tg_ hC [.n 1] rfl ?_
   rcases Qr h with⟨w,h⟩|⟨w,h⟩
   ·refine Qa hC [.T,.n 10,.K [8,9] []] rfl ⟨tt_,w⟩ ?_
    cases h
    exact Qar rfl (an_ rfl rfl)
   obtain⟨U,W,h⟩:=Qb h
   obtain⟨J,X,h⟩:=Qb h
   refine Qa hC [.F,.n 6,.o (.row (Q7 U)),.n 1,.v .no [] (.agg (Qs U.Expr)),.n 1,.o (.c false [.d,.d] (.tup [.I J.1,.I J.2])),.n 14] rfl ⟨⟨⟨⟨tt_,w⟩,(QP W)⟩,rfl⟩,(Qry _ _ X)⟩ ?_
   rcases Qr h with⟨y,h⟩|⟨y,h⟩
   ·refine Qa hC [.T,.n 11,.K [8,9] []] rfl ⟨tt_,y⟩ ?_
    cases h
    exact Qar rfl (an_ rfl rfl)
   obtain⟨i,Y,h⟩:=Qb h
   refine Qa hC [.F,.n 6,.o (.row (Q7 i)),.n 7] rfl ⟨⟨tt_,y⟩,(QP Y)⟩ ?_
   refine AK.meetX (fun σ=>σ=⟨[(1,.sl 4 (D.map Q7)),(3,.sl 1 (j.map Qe)),(4,.loc 4 0 0),(10,.own 21 t.length),(13,.I J.1),(15,.I i.Place),(22,.sl 1 (g.map Qe)),(23,.I (g.length:Int)),(24,.I O),(62,.b ((decide (i.Place<0))||(decide ((s.Places.length:Int)≤i.Place))))],[(4,.var (Qd s)),(21,.arr 1 (t.map Qi))]⟩) ?_ ?_
   ·refine tg_ hC [.n 4] rfl ?_
    rcases Q3 (decide (i.Place<0))with p | p
    ·refine Qa hC [.S 56 (.b true),.n 7,.S 62 (.b ((decide (i.Place<0))||(decide ((s.Places.length:Int)≤i.Place)))),.K [1,3,4,10,13,15,22,23,24,62] [4,21]] rfl ⟨(tc_ p),(congrArg V.b (orT p rfl))⟩ ?_
     exact AK.met rfl
    refine Qa hC [.S 56 (.b false),.n 3,.o (.ln s.Places.length),.n 3,.S 62 (.b ((decide (i.Place<0))||(decide ((s.Places.length:Int)≤i.Place)))),.K [1,3,4,10,13,15,22,23,24,62] [4,21]] rfl ⟨⟨(tc_ p),Qf⟩,(congrArg V.b (orF p rfl))⟩ ?_
    exact AK.met rfl
   rintro σ rfl
   refine tg_ hC [.n 1] rfl ?_
   rcases Qr h with⟨z,h⟩|⟨z,h⟩
   ·refine Qa hC [.T,.n 10,.K [8,9] []] rfl ⟨tt_,z⟩ ?_
    cases h
    exact Qar rfl (an_ rfl rfl)
   obtain⟨a7,Z,h⟩:=Qb h
   obtain⟨L,a0,h⟩:=Qb h
   refine Qa hC [.F,.n 3,.K [1,3,4,10,13,15,22,23,24] [4,21]] rfl ⟨tt_,z⟩ ?_
   refine AK.draw2 Qp hC mixed [.N,.N,.N,.N,.N,.a (.row (Qq a7)) none false,.N,.N,.N,.a (.c false [.d,.d,.d] (.tup [.I L.1,.b L.2])) none false,.N,.N,.N,.N,.N] [] [] [1,3,4,10,15,16,17,22,23,24] [4,21] rfl rfl rfl ⟨⟨tt_,(QP Z)⟩,(Qt0 _ _ _ a0)⟩ rfl (by kernel_rfl) rfl rfl rfl ?_
   refine tg_ hC [.n 8] rfl ?_
   rcases Qr h with⟨A,h⟩|⟨A,h⟩
   ·refine Qa hC [.T,.n 10,.K [8,9] []] rfl ⟨tt_,A⟩ ?_
    cases h
    exact Qar rfl (an_ rfl rfl)
   obtain⟨a8,G,h⟩:=Qb h
   obtain⟨a1,a2,h⟩:=Qb h
   obtain⟨E,a3,h⟩:=Qb h
   obtain⟨a9,H,h⟩:=Qb h
   refine Qa hC [.F,.n 3,.K [1,3,4,10,15,16,22,23,24] [4,21]] rfl ⟨tt_,A⟩ ?_
   refine AK.draw2 Qp hC mixed [.N,.N,.N,.N,.N,.a (.row (Qi a8)) none false,.N,.a (.bd []) (some ([],.sl 1 (([L.1]:List Int).map Qe))) false,.a (.cd false [.d] 2 (a1.map QF) a1.length) none false,.a (.c false [.d,.d] (.tup [.sl 2 (E.1.map QF),.I E.2])) none false,.a .no none true true,.N,.a .no none true,.N,.m (.st (Qi a9) ((t.set i.Place.toNat E.1).map Qi)),.N] [1,3,4,10,15,16,22,23,24] [4] [1,3,4,10,14,22,23,24] [4,21] rfl rfl rfl ⟨⟨⟨⟨⟨⟨⟨tt_,(Qda G rfl)⟩,(QbV (QdE G).2)⟩,rfl⟩,⟨(Qvs _ a2),Qf⟩⟩,(Qpj _ _ a3)⟩,(Qda H rfl)⟩,⟨(QbV (QdE H).2),Qme rfl⟩⟩ rfl (by kernel_rfl) rfl rfl rfl ?_
   refine tg_ hC [.n 7] rfl ?_
   refine bg_ h (fun B h=>Qa hC [.T,.n 10,.K [8,9] []] rfl ⟨tt_,B⟩ ?_) fun B h=>Qa hC [.F,.n 7,.S 10 (.own 21 (t.set i.Place.toNat E.1).length),.K [1,3,4,10,22,23,24] [4,21]] rfl ⟨⟨tt_,B⟩,(congrArg (fun n=>V.own 21 n) (by simp))⟩ ?_
   ·cases h
    exact Qar rfl (an_ rfl rfl)
   cases h
   exact Q4 rfl rfl
  refine Qa hC [.F,.n 2,.K [10] [21]] rfl ⟨tt_,u⟩ ?_
  cases h
  exact Q6 rfl (an_ rfl rfl)
 rcases a6 with(b0 | a4)
 ·replace h:Qpy b0=some r:=h
  rintro e σ ⟨rfl,rfl⟩
  refine tg_ hC [.n 2,.denil 8 [some 1]] rfl ?_
  cases h
  exact d2_ rfl rfl rfl tt_
 replace h:Qpz a4=some r:=h
 rintro e σ ⟨rfl,rfl⟩
 refine Qa hC [.n 10,.frz 21 (a4.map Qi) [8] []] rfl ⟨tt_,⟨tt_,(Qb7 Qf)⟩⟩ ?_
 cases h
 exact d2_ rfl rfl rfl tt_
def QaA (b:QX)(a:(List Int)):Option Int:=
 (QdZ b.net b.task.Outs a b.env).bind fun c=>
 some c.2
theorem Qlh (b a){r}(h:QaA b a=some r):Qc prog 93 [.agg (Qz b),.sl 1 (a.map Qe)] [] (Gives (.I r) []):=by
 refine Qc.walk 20 func93 rfl rfl rfl fun C hC=>?_
 obtain⟨f,e,h⟩:=Qb h
 refine Qa hC [.n 9,.v .no [] (.agg (Qd b.net)),.n 6,.o (.c false [.d,.d,.d,.d] (.tup [.sl 1 (f.1.map Qi),.I f.2])),.n 14] rfl ⟨⟨tt_,rfl⟩,(Qf3 _ _ _ _ e)⟩ ?_
 cases h
 exact d1_ rfl rfl tt_
def QhQ (a:(List Int))(b:QX):Option Bool:=
 (QaA b a).bind fun c=>
 some (c != 0)
theorem Qov (a e){r}(h:QhQ a e=some r):Qc prog 101 [.sl 1 (a.map Qe),.loc 617 0 0] [(617,.var (Qz e))] (Gives (.b r) [(617,.var (Qz e))]):=by
 refine Qc.walk 8 func101 rfl rfl rfl fun C hC=>?_
 obtain⟨g,f,h⟩:=Qb h
 refine Qa hC [.n 7,.v .no [] (.agg (Qz e)),.n 1,.o (.c false [.d,.d] (.I g)),.n 5] rfl ⟨⟨tt_,rfl⟩,(Qlh _ _ f)⟩ ?_
 cases h
 exact d1_ rfl rfl ⟨rfl,tt_⟩
def QbZ (c:QLL)(d:QX)(a:Int):Option (Int⊕(Int⊕Unit)):=
 bif (decide (a<(c.length:Int)))then
 (idx c a).bind fun e=>
 (QhQ e d).bind fun b=>
 bif b then
 some (.inr (.inl a))
 else
 some (.inl (w64 (a+1)))
 else
 some (.inr (.inr ()))
def Qf4 (a:Int):Option Int:=
 some a
def Qf5 : Option Int:=
 some (-1)
def QcA (a:QLL)(b:QX):Option Int:=
 (QK (fun st=>QbZ a b st) 0).bind (Sum.elim (fun q=>Qf4 q) (fun q=>Qf5))
theorem QlR (c f){r}(h:QcA c f=some r):Qc prog 153 [.own 617 c.length,.clo (.func 101) [] [.loc 618 0 0]] [(617,.arr 1 (c.map QL)),(618,.var (Qz f))] (Gives (.I r) [(617,.arr 1 (c.map QL)),(618,.var (Qz f))]):=by
 refine Qc.walk 19 func153 rfl rfl rfl fun C hC=>?_
 refine tg_ hC [.n 14,.K [0,1,7,8] [617,618]] rfl ?_
 obtain⟨l,i,h⟩:=Qb h
 refine AK.loop (body:=(fun st=>QbZ c f st)) (fun st σ=>σ=⟨[(0,.own 617 c.length),(1,.clo (.func 101) [] [.loc 618 0 0]),(7,.I (c.length:Int)),(8,.I st)],[(617,.arr 1 (c.map QL)),(618,.var (Qz f))]⟩) (Sum.elim (fun q e σ=>e=.ret∧σ=⟨[(4,.I q)],[(617,.arr 1 (c.map QL)),(618,.var (Qz f))]⟩) (fun q e σ=>e=.exit 0∧σ=⟨[],[(617,.arr 1 (c.map QL)),(618,.var (Qz f))]⟩)) i rfl ?_ ?_
 ·rintro t o σ rfl h
  refine tg_ hC [.n 6] rfl ?_
  rcases Qr h with⟨g,h⟩|⟨g,h⟩
  ·obtain⟨p,j,h⟩:=Qb h
   obtain⟨m,k,h⟩:=Qb h
   refine Qa hC [.T,.n 16,.o (.row (QL p)),.cm (.clo) [(617,618)] [(618,617)] [] [.d,.d] [(617,.var (Qz f))] (.b m),.n 2] rfl ⟨⟨⟨⟨tt_,g⟩,(Qda j rfl)⟩,(QbV (QdE j).2)⟩,(Qov _ _ k)⟩ ?_
   refine bg_ h (fun a h=>Qa hC [.T,.n 9,.K [4] [617,618]] rfl ⟨tt_,a⟩ ?_) fun a h=>Qa hC [.F,.n 7,.K [0,1,7,8] [617,618]] rfl ⟨tt_,a⟩ ?_
   ·cases h
    exact Qar rfl (an_ rfl rfl)
   cases h
   exact Q4 rfl rfl
  refine Qa hC [.F,.n 2,.K [] [617,618]] rfl ⟨tt_,g⟩ ?_
  cases h
  exact Q6 rfl (an_ rfl rfl)
 rcases l with(s | _)
 ·replace h:Qf4 s=some r:=h
  rintro e σ ⟨rfl,rfl⟩
  refine tg_ hC [.n 2] rfl ?_
  cases h
  exact d1_ rfl rfl ⟨rfl,rfl,tt_⟩
 replace h:Qf5=some r:=h
 rintro e σ ⟨rfl,rfl⟩
 refine tg_ hC [.n 8] rfl ?_
 cases h
 exact d1_ rfl rfl ⟨rfl,rfl,tt_⟩
def Qc5 (a:Int)(b:Int)(c:QLL):Option ((Int×Int×QLL)⊕(Int×QLL)):=
 some (.inl (b,(w64 (a+1)),c))
def QbT (f:QX)(c:Int)(b:Int)(a:QLL):Option ((Int×Int×QLL)⊕(Int×QLL)):=
 bif (decide (b<(a.length:Int)))then
 (idx a b).bind fun d=>
 (QhQ d f).bind fun e=>
 bif (!e)then
 (idx a c).bind fun g=>
 Qc5 b (w64 (c+1)) (a.set c.toNat d)
 else
 Qc5 b c a
 else
 some (.inr (c,a))
def QbU (a:Int)(b:QLL):Option QLL:=
 (chk (decide (0≤a)&&decide (a.toNat≤b.length))).bind fun _=>
 (chk (decide (0≤a)&&decide (a.toNat≤(b.take a.toNat++List.replicate (b.length-a.toNat) (([]:(List Int)):(List Int))).length))).bind fun _=>
 some ((b.take a.toNat++List.replicate (b.length-a.toNat) (([]:(List Int)):(List Int))).take a.toNat)
def Qcp (a:QLL)(c:QX):Option QLL:=
 (QcA a c).bind fun b=>
 bif (b==(-1))then
 some a
 else
 (QK (fun st=>QbT c st.1 st.2.1 st.2.2) (b,(w64 (b+1)),a)).bind (fun q=>QbU q.1 q.2)
theorem Qli (D m){r}(h:Qcp D m=some r):Qc prog 99 [.own 617 D.length,.clo (.func 101) [] [.loc 618 0 0]] [(617,.arr 1 (D.map QL)),(618,.var (Qz m))] (Gives (.own 617 r.length) [(617,.arr 1 (r.map QL)),(618,.var (Qz m))]):=by
 refine Qc.walk 42 func99 rfl rfl rfl fun C hC=>?_
 obtain⟨N,E,h⟩:=Qb h
 refine Qa hC [.n 9,.cm (.fn) [(617,617),(618,618)] [(617,617),(618,618)] [] [.d,.d] [(617,.arr 1 (D.map QL)),(618,.var (Qz m))] (.I N),.n 10] rfl ⟨tt_,(QlR _ _ E)⟩ ?_
 refine bg_ h (fun u h=>Qa hC [.T,.n 8,.K [4] [617,618]] rfl ⟨tt_,u⟩ ?_) fun u h=>Qa hC [.F,.n 11,.K [0,1,5,6] [617,618]] rfl ⟨tt_,u⟩ ?_
 ·cases h
  exact d1_ rfl rfl ⟨rfl,rfl,tt_⟩
 obtain⟨G,y,h⟩:=Qb h
 refine AK.loop (body:=(fun st=>QbT m st.1 st.2.1 st.2.2)) (fun st σ=>σ=⟨[(0,.own 617 st.2.2.length),(1,.clo (.func 101) [] [.loc 618 0 0]),(5,.I st.1),(6,.I st.2.1)],[(617,.arr 1 (st.2.2.map QL)),(618,.var (Qz m))]⟩) (fun q e σ=>e=.exit 0∧σ=⟨[(0,.own 617 q.2.length),(5,.I q.1)],[(617,.arr 1 (q.2.map QL)),(618,.var (Qz m))]⟩) y rfl ?_ ?_
 ·rintro ⟨L,z,A⟩ o σ rfl h
  refine tg_ hC [.n 9] rfl ?_
  refine bg_ h (fun j h=>Qa hC [.T,.n 2] rfl ⟨tt_,j⟩ ?_) fun j h=>Qa hC [.F,.n 2,.K [0,5] [617,618]] rfl ⟨tt_,j⟩ ?_
  ·refine AK.meet (fun σ=>∃v:Int,∃p:QLL,σ=⟨[(0,.own 617 p.length),(1,.clo (.func 101) [] [.loc 618 0 0]),(5,.I v),(6,.I z)],[(617,.arr 1 (p.map QL)),(618,.var (Qz m))]⟩∧Qc5 z v p=some o) ?_ ?_
   ·obtain⟨w,s,h⟩:=Qb h
    obtain⟨H,B,h⟩:=Qb h
    refine Qa hC [.n 6,.o (.row (QL w)),.n 7,.cm (.clo) [(617,618)] [(618,617)] [] [.d,.d] [(617,.var (Qz m))] (.b H),.n 3] rfl ⟨⟨⟨tt_,(Qda s rfl)⟩,(QbV (QdE s).2)⟩,(Qov _ _ B)⟩ ?_
    rcases Qr h with⟨k,h⟩|⟨k,h⟩
    ·obtain⟨J,t,h⟩:=Qb h
     refine Qa hC [.T,.n 6,.st (QL J) ((A.set L.toNat w).map QL),.n 8,.S 0 (.own 617 (A.set L.toNat w).length),.K [0,1,5,6] [617,618]] rfl ⟨⟨⟨⟨tt_,k⟩,(Qda t rfl)⟩,⟨(QbV (QdE t).2),Qme rfl⟩⟩,(congrArg (fun n=>V.own 617 n) (by simp))⟩ ?_
     exact AK.met (ex_ _ (ex_ _ (an_ rfl h)))
    refine Qa hC [.F,.n 2,.K [0,1,5,6] [617,618]] rfl ⟨tt_,k⟩ ?_
    exact AK.met (ex_ _ (ex_ _ (an_ rfl h)))
   rintro σ ⟨v,p,rfl,h⟩
   refine tg_ hC [.n 5,.K [0,1,5,6] [617,618]] rfl ?_
   cases h
   exact Q4 rfl rfl
  cases h
  exact Q6 rfl (an_ rfl rfl)
 obtain⟨a,c⟩:=G
 replace h:QbU a c=some r:=h
 rintro e σ ⟨rfl,rfl⟩
 refine tg_ hC [.n 6] rfl ?_
 obtain⟨g,h⟩:=QaX h
 refine AK.clearTail (b:=617) (l:=a.toNat) (n:=c.length) rfl rfl rfl rfl rfl rfl (QO hC.n rfl) rfl rfl Qf (Qp.es rfl) QDj rfl rfl rfl (Bnd.val rfl (Q8 (Qrp g)) rfl) (Q8 (Qmi g)) rfl ?_
 refine AK.denilA (b:=617) [some 1] rfl (QD3 (f:=QL) (x:=(([]:(List Int)):(List Int))) (fun _=>rfl) rfl) ?_
 obtain⟨i,h⟩:=QaX h
 refine Qa hC [.S 0 (.own 617 (c.take a.toNat++List.replicate (c.length-a.toNat) (([]:(List Int)):(List Int))).length),.S 36 (.own 617 (c.take a.toNat++List.replicate (c.length-a.toNat) (([]:(List Int)):(List Int))).length),.n 6] rfl ⟨⟨tt_,(QBn (Q8 (Qmi g)))⟩,(QBn (Q8 (Qmi g)))⟩ ?_
 have M:a.toNat=((c.take a.toNat++List.replicate (c.length-a.toNat) (([]:(List Int)):(List Int))).take a.toNat).length:=by rw [Qgg,Qqk (Q8 (Qmi i))]
 refine Qa hC [.x (fun σ=>(σ.set 617 (.arr 1 (((c.take a.toNat++List.replicate (c.length-a.toNat) (([]:(List Int)):(List Int))).take a.toNat).map QL))).put 41 (.own 617 a.toNat)),.S 41 (.own 617 ((c.take a.toNat++List.replicate (c.length-a.toNat) (([]:(List Int)):(List Int))).take a.toNat).length),.n 4] rfl ⟨⟨tt_,(Stp.sliceO rfl rfl (QO hC.n rfl) rfl rfl (Qp.es rfl) Bnd.no (Bnd.val rfl (Q8 (Qrp i)) rfl) (Q8 (Qmi i)) (by simp))⟩,(QDW (Q8 (Qmi i)))⟩ ?_
 cases h
 exact d1_ rfl rfl ⟨rfl,rfl,tt_⟩
def Qc6 (a:QBg)(b:Int)(c:Int):Option (Unit⊕Unit):=
 bif (decide (((QG a b).getD 0)<c))then
 some (.inr ())
 else
 some (.inl ())
def Qlj : Option Bool:=
 some true
def Qlk : Option Bool:=
 some false
def Qeh (a:QBg)(b:QBg):Option Bool:=
 (QiN (fun st p=>Qc6 b p.1 p.2) () a).bind (Sum.elim (fun q=>Qlj) (fun q=>Qlk))
theorem Qll (j d){r}(h:Qeh j d=some r):Qc prog 96 [.map 617,.map 618] [(617,.map (QA V.I V.I j)),(618,.map (QA V.I V.I d))] (Gives (.b r) [(617,.map (QA V.I V.I j)),(618,.map (QA V.I V.I d))]):=by
 refine Qc.walk 19 func96 rfl rfl rfl fun C hC=>?_
 refine tg_ hC [.n 9] rfl ?_
 refine AK.openMap (b:=617) Qdg rfl fun a c L5 s t=>?_
 refine Qa hC [.x (fun σ=>(σ.set 8 (.itr a c #[] none)).put 8 (.loc 8 0 0)),.n 3,.K [1,8] [8,617,618]] rfl ⟨tt_,(Stp.range (b:=617) rfl rfl (QO hC.n rfl) rfl rfl QeN rfl)⟩ ?_
 obtain⟨w,u,h⟩:=Qb h
 refine AK.range (body:=(fun st p=>Qc6 d p.1 p.2)) (fun st seen σ=>∃cur:Option MapEntry,σ=⟨[(1,.map 618),(8,.loc 8 0 0)],[(8,.itr a c seen cur),(617,.mapX a c (QhG V.I V.I L5) (QA V.I V.I j)),(618,.map (QA V.I V.I d))]⟩) (fun q e σ=>e=.ret∧σ=⟨[(4,.b false)],[(617,.mapX a c (QhG V.I V.I L5) (QA V.I V.I j)),(618,.map (QA V.I V.I d))]⟩) (fun st e σ=>e=.exit 0∧σ=⟨[],[(617,.mapX a c (QhG V.I V.I L5) (QA V.I V.I j)),(618,.map (QA V.I V.I d))]⟩) s t u (ex_ _ rfl) ?_ ?_
 ·rintro _ seen σ ⟨cur,rfl⟩ hex
  refine tg_ hC [.n 2] rfl ?_
  refine AK.nextT (b:=8) (m:=617) rfl rfl rfl (QO hC.n rfl) rfl rfl rfl rfl ?_ ?_
  ·intro hleft
   refine tg_ hC [.n 7,.K [] [617,618]] rfl ?_
   exact AK.done (Or.inl (an_ hleft (an_ (fun h=>(by cases h)) (an_ rfl rfl))))
  intro B v y g
  obtain⟨o,h⟩:=hex _ g
  have ho:=h
  replace h:Qc6 d v y=some o:=h
  refine Qa hC [.n 10,.x (fun σ=>σ.put 11 (.tup [.I v,.I y])),.n 11,.o (.any (.I ((QG d v).getD 0)) none),.n 3] rfl ⟨⟨tt_,(Stp.entryT (b:=8) (m:=617) rfl rfl (QO hC.n rfl) rfl g rfl rfl)⟩,(fun σ A D _=>Stp.lookup (e:=V.I) (f:=V.I) (l:=d) (k:=v) (z:=0) rfl rfl (QO hC.n rfl) (A _ _ rfl) (D _ _ rfl) (A _ _ rfl) QeN Qdg QkZ rfl)⟩ ?_
  refine bg_ h (fun i h=>Qa hC [.T,.n 7,.K [4] [617,618]] rfl ⟨tt_,i⟩ ?_) fun i h=>Qa hC [.F,.n 2,.K [1,8] [8,617,618]] rfl ⟨tt_,i⟩ ?_
  ·cases h
   exact AK.done (Or.inr (ex_ _ (an_ g (Or.inr (ex_ _ (an_ ho (an_ (fun h=>(by cases h)) (an_ rfl rfl))))))))
  cases h
  exact AK.done (Or.inr (ex_ _ (an_ g (Or.inl (ex_ _ (an_ ho (an_ rfl (ex_ _ rfl))))))))
 rcases w with(_ | _)
 ·replace h:Qlj=some r:=h
  rintro e σ ⟨rfl,rfl⟩
  refine tg_ hC [.n 8] rfl ?_
  refine AK.closeMap (b:=617) rfl ?_
  cases h
  exact d1_ rfl rfl ⟨rfl,rfl,tt_⟩
 replace h:Qlk=some r:=h
 rintro e σ ⟨rfl,rfl⟩
 refine tg_ hC [.n 2] rfl ?_
 refine AK.closeMap (b:=617) rfl ?_
 cases h
 exact d1_ rfl rfl ⟨rfl,rfl,tt_⟩
def Qqy (a:Unit):Option Bool:=
 some false
def Qqz (a:QBg):Option Bool:=
 some false
def QqA (a:QBg):Option Bool:=
 some false
def Qmw (b:(QBg×QBg)):Option Bool:=
 (Qeh b.1 b.2).bind fun a=>
 some a
def Qmx (a:QBg)(b:QBg):Option Bool:=
 (Qky a b).bind (Sum.elim (fun q=>Qqy q) (Sum.elim (fun q=>Qqz q) (Sum.elim (fun q=>QqA q) (fun q=>Qmw q))))
theorem Qww (g i){r}(h:Qmx g i=some r):Qc prog 214 [.sl 2 (g.map QF),.sl 2 (i.map QF)] [] (Gives (.b r) []):=by
 refine Qc.walk 21 func214 rfl rfl rfl fun C hC=>?_
 obtain⟨l,a,h⟩:=Qb h
 refine tg_ hC [.n 9] rfl ?_
 rcases l with(m | (j | (k | c)))
 ·replace h:Qqy m=some r:=h
  refine Qa hC [.cm (.fn) [] [] [] [.d,.d] [] (.tup [.lit (.map none),.lit (.map none),.b false]),.n 21] rfl ⟨tt_,(QbL _ _ a)⟩ ?_
  cases h
  exact d1_ rfl rfl tt_
 ·replace h:Qqz j=some r:=h
  refine Qa hC [.cm (.fn) [] [(11,603)] [] [.d,.d] [(603,.map (QA V.I V.I j))] (.tup [.lit (.map none),.map 603,.b false]),.n 21] rfl ⟨tt_,(QbL _ _ a)⟩ ?_
  cases h
  exact d1_ rfl rfl tt_
 ·replace h:QqA k=some r:=h
  refine Qa hC [.cm (.fn) [] [(11,602)] [] [.d,.d] [(602,.map (QA V.I V.I k))] (.tup [.map 602,.lit (.map none),.b false]),.n 21] rfl ⟨tt_,(QbL _ _ a)⟩ ?_
  cases h
  exact d1_ rfl rfl tt_
 replace h:Qmw c=some r:=h
 obtain⟨f,e,h⟩:=Qb h
 refine Qa hC [.cm (.fn) [] [(11,602),(610,603)] [] [.d,.d] [(602,.map (QA V.I V.I c.1)),(603,.map (QA V.I V.I c.2))] (.tup [.map 602,.map 603,.b true]),.n 15,.cm (.fn) [(617,11),(618,610)] [(11,617),(610,618)] [] [.d,.d] [(617,.map (QA V.I V.I c.1)),(618,.map (QA V.I V.I c.2))] (.b f),.n 5] rfl ⟨⟨tt_,(QbL _ _ a)⟩,(Qll _ _ e)⟩ ?_
 cases h
 exact d1_ rfl rfl tt_
def Qae (d:QMk)(e:QMk)(a:Int):Option (Int⊕(Unit⊕Unit)):=
 bif (decide (a<(d.length:Int)))then
 (idx d a).bind fun f=>
 (idx e a).bind fun b=>
 (Qmx f b).bind fun c=>
 bif (!c)then
 some (.inr (.inl ()))
 else
 some (.inl (w64 (a+1)))
 else
 some (.inr (.inr ()))
def Qbn : Option Bool:=
 some false
def Qbo : Option Bool:=
 some true
def Qay (a:QMk)(b:QMk):Option Bool:=
 bif ((a.length:Int) != (b.length:Int))then
 some false
 else
 (QK (fun st=>Qae a b st) 0).bind (Sum.elim (fun q=>Qbn) (fun q=>Qbo))
theorem QdB (f j){r}(h:Qay f j=some r):Qc prog 34 [.sl 1 (f.map Qi),.sl 1 (j.map Qi),.clo (.func 214) [] []] [] (Gives (.b r) []):=by
 refine Qc.walk 32 func34 rfl rfl rfl fun C hC=>?_
 refine Qa hC [.n 9,.o (.ln f.length),.n 1,.o (.ln j.length),.n 3] rfl ⟨⟨tt_,Qf⟩,Qf⟩ ?_
 refine bg_ h (fun g h=>Qa hC [.T,.n 7,.K [6] []] rfl ⟨tt_,g⟩ ?_) fun g h=>Qa hC [.F,.n 6,.o (.ln f.length),.n 4,.K [1,2,15,16,17] []] rfl ⟨⟨tt_,g⟩,Qf⟩ ?_
 ·cases h
  exact d1_ rfl rfl tt_
 obtain⟨p,k,h⟩:=Qb h
 refine AK.loop (body:=(fun st=>Qae f j st)) (fun st σ=>σ=⟨[(1,.sl 1 (j.map Qi)),(2,.clo (.func 214) [] []),(15,.sl 1 (f.map Qi)),(16,.I (f.length:Int)),(17,.I st)],[]⟩) (Sum.elim (fun q e σ=>e=.ret∧σ=⟨[(6,.b false)],[]⟩) (fun q e σ=>e=.exit 0∧σ=⟨[],[]⟩)) k rfl ?_ ?_
 ·rintro w o σ rfl h
  refine tg_ hC [.n 6] rfl ?_
  rcases Qr h with⟨i,h⟩|⟨i,h⟩
  ·obtain⟨v,s,h⟩:=Qb h
   obtain⟨t,l,h⟩:=Qb h
   obtain⟨u,m,h⟩:=Qb h
   refine Qa hC [.T,.n 7,.o (.row (Qi v)),.n 9,.o (.row (Qi t)),.n 9,.o (.c false [.d,.d] (.b u)),.n 3] rfl ⟨⟨⟨⟨tt_,i⟩,(QP s)⟩,(QP l)⟩,(Qww _ _ m)⟩ ?_
   refine bg_ h (fun a h=>Qa hC [.T,.n 8,.K [6] []] rfl ⟨tt_,a⟩ ?_) fun a h=>Qa hC [.F,.n 7,.K [1,2,15,16,17] []] rfl ⟨tt_,a⟩ ?_
   ·cases h
    exact Qar rfl (an_ rfl rfl)
   cases h
   exact Q4 rfl rfl
  refine Qa hC [.F,.n 2,.K [] []] rfl ⟨tt_,i⟩ ?_
  cases h
  exact Q6 rfl (an_ rfl rfl)
 rcases p with(_ | _)
 ·replace h:Qbn=some r:=h
  rintro e σ ⟨rfl,rfl⟩
  refine tg_ hC [.n 2] rfl ?_
  cases h
  exact d1_ rfl rfl tt_
 replace h:Qbo=some r:=h
 rintro e σ ⟨rfl,rfl⟩
 refine tg_ hC [.n 8] rfl ?_
 cases h
 exact d1_ rfl rfl tt_
def QiP (a:QMk)(b:QMk):Option Bool:=
 (Qay a b).bind fun c=>
 some c
theorem QpA (a e){r}(h:QiP a e=some r):Qc prog 148 [.sl 1 (a.map Qi),.sl 1 (e.map Qi)] [] (Gives (.b r) []):=by
 refine Qc.walk 8 func148 rfl rfl rfl fun C hC=>?_
 obtain⟨f,c,h⟩:=Qb h
 refine Qa hC [.n 9,.cm (.fn) [] [] [] [.d,.d,.d] [] (.b f),.n 4] rfl ⟨tt_,(QdB _ _ c)⟩ ?_
 cases h
 exact d1_ rfl rfl tt_
def Qdu (b:(List Int))(c:Int)(a:Int):Option (Int⊕(Int⊕Unit)):=
 bif (decide (a<(b.length:Int)))then
 (idx b a).bind fun d=>
 bif (c==d)then
 some (.inr (.inl a))
 else
 some (.inl (w64 (a+1)))
 else
 some (.inr (.inr ()))
def Qdv (a:Int):Option Int:=
 some a
def Qdw : Option Int:=
 some (-1)
def QeC (a:(List Int))(b:Int):Option Int:=
 (QK (fun st=>Qdu a b st) 0).bind (Sum.elim (fun q=>Qdv q) (fun q=>Qdw))
theorem QoS (c f){r}(h:QeC c f=some r):Qc prog 215 [.sl 1 (c.map Qe),.I f] [] (Gives (.I r) []):=by
 refine Qc.walk 19 func215 rfl rfl rfl fun C hC=>?_
 refine Qa hC [.n 9,.o (.ln c.length),.n 4,.K [0,1,7,8] []] rfl ⟨tt_,Qf⟩ ?_
 obtain⟨g,d,h⟩:=Qb h
 refine AK.loop (body:=(fun st=>Qdu c f st)) (fun st σ=>σ=⟨[(0,.sl 1 (c.map Qe)),(1,.I f),(7,.I (c.length:Int)),(8,.I st)],[]⟩) (Sum.elim (fun q e σ=>e=.ret∧σ=⟨[(4,.I q)],[]⟩) (fun q e σ=>e=.exit 0∧σ=⟨[],[]⟩)) d rfl ?_ ?_
 ·rintro l o σ rfl h
  refine tg_ hC [.n 6] rfl ?_
  rcases Qr h with⟨b,h⟩|⟨b,h⟩
  ·obtain⟨j,i,h⟩:=Qb h
   refine Qa hC [.T,.n 15,.o (.row (Qe j)),.n 4] rfl ⟨⟨tt_,b⟩,(QP i)⟩ ?_
   refine bg_ h (fun a h=>Qa hC [.T,.n 9,.K [4] []] rfl ⟨tt_,a⟩ ?_) fun a h=>Qa hC [.F,.n 7,.K [0,1,7,8] []] rfl ⟨tt_,a⟩ ?_
   ·cases h
    exact Qar rfl (an_ rfl rfl)
   cases h
   exact Q4 rfl rfl
  refine Qa hC [.F,.n 2,.K [] []] rfl ⟨tt_,b⟩ ?_
  cases h
  exact Q6 rfl (an_ rfl rfl)
 rcases g with(k | _)
 ·replace h:Qdv k=some r:=h
  rintro e σ ⟨rfl,rfl⟩
  refine tg_ hC [.n 2] rfl ?_
  cases h
  exact d1_ rfl rfl tt_
 replace h:Qdw=some r:=h
 rintro e σ ⟨rfl,rfl⟩
 refine tg_ hC [.n 8] rfl ?_
 cases h
 exact d1_ rfl rfl tt_
def Qbx (a:(List Int))(b:Int):Option Bool:=
 (QeC a b).bind fun c=>
 some (decide (0≤c))
theorem QhR (e f){r}(h:Qbx e f=some r):Qc prog 149 [.sl 1 (e.map Qe),.I f] [] (Gives (.b r) []):=by
 refine Qc.walk 9 func149 rfl rfl rfl fun C hC=>?_
 obtain⟨g,a,h⟩:=Qb h
 refine Qa hC [.n 9,.o (.c false [.d,.d] (.I g)),.n 5] rfl ⟨tt_,(QoS _ _ a)⟩ ?_
 cases h
 exact d1_ rfl rfl tt_
def QeD (a:Int):Option (Int⊕(Unit⊕Unit)):=
 some (.inl (w64 (a+1)))
def Qlm (a:(QMk×Int))(c:QX):Option Bool:=
 bif (a.2==0)then
 (QiP a.1 c.m).bind fun b=>
 some b
 else
 some false
def QeE (a:Int)(b:Bool):Option (Int⊕(Unit⊕Unit)):=
 bif b then
 some (.inr (.inl ()))
 else
 QeD a
def QeF (d:QX)(b:(List Int))(a:Int):Option (Int⊕(Unit⊕Unit)):=
 bif (decide (a<(d.task.Ins.length:Int)))then
 (Qbx b a).bind fun f=>
 bif f then
 QeD a
 else
 (QaM b).bind fun c=>
 (chk (decide (c.length+([a]:List Int).length≤4294967296))).bind fun _=>
 (Qbg (c++([a]:List Int))).bind fun e=>
 (chk (decide (e.length=(c++([a]:List Int)).length))).bind fun _=>
 (QdZ d.net d.task.Ins e d.env).bind fun g=>
 (Qlm g d).bind (fun h=>QeE a h)
 else
 some (.inr (.inr ()))
def Qln : Option Int:=
 some 11
def Qlo : Option Int:=
 some 0
def Qaj (b:QX)(a:(List Int)):Option Int:=
 (QdZ b.net b.task.Ins a b.env).bind fun c=>
 bif (c.2 != 0)then
 some c.2
 else
 (QiP c.1 b.m).bind fun d=>
 bif (!d)then
 some 10
 else
 bif (b.task.Join != 3)then
 some 0
 else
 (QK (fun st=>QeF b a st) 0).bind (Sum.elim (fun q=>Qln) (fun q=>Qlo))
theorem Qlp (g a){r}(h:Qaj g a=some r):Qc prog 92 [.agg (Qz g),.sl 1 (a.map Qe)] [] (Gives (.I r) []):=by
 refine Qc.walk 76 func92 rfl rfl rfl fun C hC=>?_
 obtain⟨U,L,h⟩:=Qb h
 refine Qa hC [.n 9,.v .no [] (.agg (Qd g.net)),.n 6,.o (.c false [.d,.d,.d,.d] (.tup [.sl 1 (U.1.map Qi),.I U.2])),.n 16] rfl ⟨⟨tt_,rfl⟩,(Qf3 _ _ _ _ L)⟩ ?_
 rcases Qr h with⟨t,h⟩|⟨t,h⟩
 ·refine Qa hC [.T,.n 9] rfl ⟨tt_,t⟩ ?_
  cases h
  exact d1_ rfl rfl tt_
 obtain⟨W,M,h⟩:=Qb h
 refine Qa hC [.F,.n 5,.o (.c false [.d,.d] (.b W)),.n 4] rfl ⟨⟨tt_,t⟩,(QpA _ _ M)⟩ ?_
 refine bg_ h (fun u h=>Qa hC [.T,.n 8,.K [4] []] rfl ⟨tt_,u⟩ ?_) fun u h=>Qa hC [.F,.n 9] rfl ⟨tt_,u⟩ ?_
 ·cases h
  exact d1_ rfl rfl tt_
 refine bg_ h (fun w h=>Qa hC [.T,.n 8,.K [4] []] rfl ⟨tt_,w⟩ ?_) fun w h=>Qa hC [.F,.n 9,.o (.ln g.task.Ins.length),.n 4,.K [1,2,41,42] [2]] rfl ⟨⟨tt_,w⟩,Qf⟩ ?_
 ·cases h
  exact d1_ rfl rfl tt_
 obtain⟨N,y,h⟩:=Qb h
 refine AK.loop (body:=(fun st=>QeF g a st)) (fun st σ=>σ=⟨[(1,.sl 1 (a.map Qe)),(2,.loc 2 0 0),(41,.I (g.task.Ins.length:Int)),(42,.I st)],[(2,.var (Qz g))]⟩) (Sum.elim (fun q e σ=>e=.ret∧σ=⟨[(4,.I 11)],[]⟩) (fun q e σ=>e=.exit 1∧σ=⟨[],[]⟩)) y rfl ?_ ?_
 ·rintro f o σ rfl h
  refine tg_ hC [.n 6] rfl ?_
  refine bg_ h (fun i h=>Qa hC [.T,.n 2] rfl ⟨tt_,i⟩ ?_) fun i h=>Qa hC [.F,.n 2,.K [] []] rfl ⟨tt_,i⟩ ?_
  ·refine AK.meet (fun σ=>σ=⟨[(1,.sl 1 (a.map Qe)),(2,.loc 2 0 0),(41,.I (g.task.Ins.length:Int)),(42,.I f)],[(2,.var (Qz g))]⟩∧QeD f=some o) ?_ ?_
   ·obtain⟨O,z,h⟩:=Qb h
    refine Qa hC [.n 12,.o (.c false [.d,.d] (.b O)),.n 2] rfl ⟨tt_,(QhR _ _ z)⟩ ?_
    rcases Qr h with⟨j,h⟩|⟨j,h⟩
    ·refine Qa hC [.T,.n 3,.K [1,2,41,42] [2]] rfl ⟨tt_,j⟩ ?_
     exact AK.met (an_ rfl h)
    obtain⟨s,A,h⟩:=Qb h
    obtain⟨B,h⟩:=QaX h
    obtain⟨k,D,h⟩:=Qb h
    obtain⟨l,h⟩:=QaX h
    obtain⟨E,G,h⟩:=Qb h
    refine Qa hC [.F,.n 5,.o (.co false [.d] 1 (s.map Qe) s.length),.n 1,.v (.bd []) [] (.sl 1 (([f]:List Int).map Qe)),.app ((s++([f]:List Int)).map Qe) (s++([f]:List Int)).length,.n 6,.cm (.fn) [(617,49)] [(49,617)] [] [.d] [(617,.arr 1 (k.map Qe))] (.tup []),.S 8 (.own 49 k.length),.S 52 (.own 49 k.length),.S 53 (.own 49 k.length),.n 5,.v .no [] (.agg (Qd g.net)),.n 6,.frz 49 (k.map Qe) [8,52,53,61] [],.o (.c false [.d,.d,.d,.d] (.tup [.sl 1 (E.1.map Qi),.I E.2])),.n 8] rfl ⟨⟨⟨⟨⟨⟨⟨⟨⟨⟨⟨tt_,j⟩,⟨(Qco _ A),Qf,.inl rfl⟩⟩,rfl⟩,⟨Qf,QbP B Qf,QaZ,QcP Qf⟩⟩,(QdH _ D)⟩,(by simp [Q8 l])⟩,(by simp [Q8 l])⟩,(by simp [Q8 l])⟩,rfl⟩,⟨⟨⟨⟨tt_,(Qb7 Qf)⟩,(Qb7 Qf)⟩,(Qb7 Qf)⟩,(Qb7 Qf)⟩⟩,(Qf3 _ _ _ _ G)⟩ ?_
    obtain⟨x,H,h⟩:=Qb h
    replace h:QeE f x=some o:=h
    refine AK.meetX (fun σ=>σ=⟨[(1,.sl 1 (a.map Qe)),(2,.loc 2 0 0),(41,.I (g.task.Ins.length:Int)),(42,.I f),(74,.b x)],[(2,.var (Qz g))]⟩) ?_ ?_
    ·replace h:=H
     refine tg_ hC [.n 4] rfl ?_
     rcases Qr h with⟨m,h⟩|⟨m,h⟩
     ·obtain⟨P,J,h⟩:=Qb h
      refine Qa hC [.S 69 (.b true),.n 3,.o (.c false [.d,.d] (.b P)),.n 2,.K [1,2,41,42,74] [2]] rfl ⟨(tc_ m),(QpA _ _ J)⟩ ?_
      cases h
      exact AK.met rfl
     refine Qa hC [.S 69 (.b false),.n 6,.K [1,2,41,42,74] [2]] rfl (tc_ m) ?_
     cases h
     exact AK.met rfl
    rintro σ rfl
    replace h:QeE f x=some o:=h
    refine tg_ hC [.n 1] rfl ?_
    refine bg_ h (fun p h=>Qa hC [.T,.n 8,.K [4] []] rfl ⟨tt_,p⟩ ?_) fun p h=>Qa hC [.F,.n 2,.K [1,2,41,42] [2]] rfl ⟨tt_,p⟩ ?_
    ·cases h
     exact Qar rfl (an_ rfl rfl)
    exact AK.met (an_ rfl h)
   rintro σ ⟨rfl,h⟩
   refine tg_ hC [.n 4,.K [1,2,41,42] [2]] rfl ?_
   cases h
   exact Q4 rfl rfl
  cases h
  exact Q6 rfl (an_ rfl rfl)
 rcases N with(_ | _)
 ·replace h:Qln=some r:=h
  rintro e σ ⟨rfl,rfl⟩
  refine tg_ hC [.n 2] rfl ?_
  cases h
  exact d1_ rfl rfl tt_
 replace h:Qlo=some r:=h
 rintro e σ ⟨rfl,rfl⟩
 refine tg_ hC [.n 8] rfl ?_
 cases h
 exact d1_ rfl rfl tt_
def Qj6 (a:(Int×QX)):Option Bool:=
 bif (a.1 != 0)then
 some true
 else
 (Qal a.2).bind fun b=>
 some (b != 0)
def QcH (a:Int)(b:(List Ql)):Option ((Int×(List Ql))⊕((List Ql)⊕(List Ql))):=
 some (.inl ((w64 (a+1)),b))
def QdJ (f:QLL)(j:(List Int))(h:(List Int))(g:Int)(k:Int)(e:Int)(a:(List Ql)):Option ((Int×(List Ql))⊕((List Ql)⊕(List Ql))):=
 bif (decide (e<(f.length:Int)))then
 (idx f e).bind fun i=>
 (QaM j).bind fun b=>
 (QaM h).bind fun c=>
 (QaM i).bind fun d=>
 (chk (decide (a.length+([(Ql.mk g b c d)]:List Ql).length≤4294967296))).bind fun _=>
 bif (((a++[(Ql.mk g b c d)]).length:Int)==k)then
 some (.inr (.inl (a++[(Ql.mk g b c d)])))
 else
 some (.inl ((w64 (e+1)),(a++[(Ql.mk g b c d)])))
 else
 some (.inr (.inr a))
def Qj7 (a:(List Ql)):Option ((Int×(List Ql))⊕((List Ql)⊕(List Ql))):=
 some (.inr (.inl a))
def Qf6 (a:Int)(b:(List Ql)):Option ((Int×(List Ql))⊕((List Ql)⊕(List Ql))):=
 QcH a b
def QdK (g:QLL)(d:(Int×QX))(e:QLL)(h:(List Int))(i:Int)(j:Int)(a:Int)(b:(List Ql)):Option ((Int×(List Ql))⊕((List Ql)⊕(List Ql))):=
 bif (decide (a<(g.length:Int)))then
 (idx g a).bind fun c=>
 (Qaj d.2 c).bind fun f=>
 bif (f != 0)then
 QcH a b
 else
 (QK (fun st=>QdJ e h c i j st.1 st.2) (0,b)).bind (Sum.elim (fun q=>Qj7 q) (fun q=>Qf6 a q))
 else
 some (.inr (.inr b))
def Qj8 (a:(List Ql)):Option ((List Ql)⊕(List Ql)):=
 some (.inl a)
def Qj9 (a:(List Ql)):Option ((List Ql)⊕(List Ql)):=
 some (.inr a)
def QdL (e:(List Ql))(f:QLL)(a:(Int×QX))(g:QLL)(h:(List Int))(i:Int)(j:Int)(b:Bool):Option ((List Ql)⊕(List Ql)):=
 bif b then
 some (.inr e)
 else
 (Qdt f).bind fun c=>
 (Qcp c a.2).bind fun d=>
 (QK (fun st=>QdK g a d h i j st.1 st.2) (0,e)).bind (Sum.elim (fun q=>Qj8 q) (fun q=>Qj9 q))
def Qe5 (e:Qj)(f:QMk)(c:Int)(g:Int)(k:(List Ql))(h:QLL)(i:QLL)(j:(List Ql))(d:(List Int)):Option ((List Ql)⊕(List Ql)):=
 (QbQ e f c d).bind fun a=>
 (Qj6 a).bind (fun b=>QdL j i a h d c g b)
theorem Qka (lpl lpf:Nat)(x:Qj)(y:QMk)(j:Int)(u:Int)(k:(List Ql))(i:QLL)(w:QLL)(U:(List Ql))(z:(List Int)){r:((List Ql)⊕(List Ql))}(h:Qe5 x y j u k i w U z=some r):QnS prog lpl (QaP lpf) (QFs (.loc 618 0 0) (.loc 619 0 0) (.loc 620 0 0) (.loc 621 0 0) (.loc 622 0 0) (.loc 623 0 0) (.loc 624 0 0) (.loc 625 0 0) (.sl 1 (z.map Qe))) [(617,.lp lpl (QaP lpf) (Qd4 (.loc 618 0 0) (.loc 619 0 0) (.loc 620 0 0) (.loc 621 0 0) (.loc 622 0 0) (.loc 623 0 0) (.loc 624 0 0) (.loc 625 0 0)) 0),(618,.var (Qd x)),(619,.var (Qt y)),(620,.var (Qe j)),(621,.var (Qe u)),(622,.var [.own 615 k.length]),(615,.arr 4 (k.map Qk)),(623,.var (QZ i)),(624,.var (QZ w)),(625,.var [.own 616 U.length]),(616,.arr 4 (U.map Qk))] ((Sum.elim (fun q=>(Gives (.b false) [(615,.arr 4 (k.map Qk)),(616,.arr 4 (q.map Qk)),(617,.lp lpl (QaP lpf) (Qd4 (.loc 618 0 0) (.loc 619 0 0) (.loc 620 0 0) (.loc 621 0 0) (.loc 622 0 0) (.loc 623 0 0) (.loc 624 0 0) (.loc 625 0 0)) 2),(618,.var (Qd x)),(619,.var (Qt y)),(620,.var (Qe j)),(621,.var (Qe u)),(622,.var [.own 616 q.length]),(623,.var (QZ i)),(624,.var (QZ w)),(625,.var [.own 616 q.length])])) (fun q=>(Gives (.b true) [(615,.arr 4 (k.map Qk)),(616,.arr 4 (q.map Qk)),(617,.lp lpl (QaP lpf) (Qd4 (.loc 618 0 0) (.loc 619 0 0) (.loc 620 0 0) (.loc 621 0 0) (.loc 622 0 0) (.loc 623 0 0) (.loc 624 0 0) (.loc 625 0 0)) 0),(618,.var (Qd x)),(619,.var (Qt y)),(620,.var (Qe j)),(621,.var (Qe u)),(622,.var [.own 615 k.length]),(623,.var (QZ i)),(624,.var (QZ w)),(625,.var [.own 616 q.length])]))) r):=by
 refine QnS.walk (b:=617) 109 rfl rfl fun C hC=>?_
 refine tg_ hC [.n 3] rfl ?_
 refine AK.done (an_ rfl (ex_ _ (an_ rfl ?_)))
 obtain⟨f,Y,h⟩:=Qb h
 refine Qa hC [.n 3,.v .no [] (.agg (Qd x)),.n 3,.o (.c false [.d,.d,.d,.d] (.tup [.agg (Qz f.2),.I f.1])),.n 5,.O 14 (.var (Qz f.2)),.n 5] rfl ⟨⟨⟨tt_,rfl⟩,(Qqv _ _ _ _ Y)⟩,rfl⟩ ?_
 obtain⟨W,Z,h⟩:=Qb h
 replace h:QdL U w f i z j u W=some r:=h
 refine AK.meetX (fun σ=>σ=⟨[(6,.loc 620 0 0),(7,.loc 621 0 0),(8,.loc 622 0 0),(10,.loc 623 0 0),(11,.loc 624 0 0),(12,.loc 625 0 0),(13,.sl 1 (z.map Qe)),(14,.loc 14 0 0),(69,.b W)],[(14,.var (Qz f.2)),(615,.arr 4 (k.map Qk)),(616,.arr 4 (U.map Qk)),(617,.lp lpl (QaP lpf) (Qd4 (.loc 618 0 0) (.loc 619 0 0) (.loc 620 0 0) (.loc 621 0 0) (.loc 622 0 0) (.loc 623 0 0) (.loc 624 0 0) (.loc 625 0 0)) 1),(618,.var (Qd x)),(619,.var (Qt y)),(620,.var (Qe j)),(621,.var (Qe u)),(622,.var [.own 615 k.length]),(623,.var (QZ i)),(624,.var (QZ w)),(625,.var [.own 616 U.length])]⟩) ?_ ?_
 ·replace h:=Z
  refine tg_ hC [.n 4] rfl ?_
  rcases Qr h with⟨A,h⟩|⟨A,h⟩
  ·refine Qa hC [.S 65 (.b true),.n 5,.K [6,7,8,10,11,12,13,14,69] [14,615,616,617,618,619,620,621,622,623,624,625]] rfl (tc_ A) ?_
   cases h
   exact AK.met rfl
  obtain⟨b2,a0,h⟩:=Qb h
  refine Qa hC [.S 65 (.b false),.v .no [] (.agg (Qz f.2)),.o (.c false [.d] (.I b2)),.n 3,.K [6,7,8,10,11,12,13,14,69] [14,615,616,617,618,619,620,621,622,623,624,625]] rfl ⟨⟨(tc_ A),rfl⟩,(Qj5 _ a0)⟩ ?_
  cases h
  exact AK.met rfl
 rintro σ rfl
 replace h:QdL U w f i z j u W=some r:=h
 refine tg_ hC [.n 1] rfl ?_
 rcases Qr h with⟨B,h⟩|⟨B,h⟩
 ·refine Qa hC [.T,.n 3,.K [] [615,616,617,618,619,620,621,622,623,624,625]] rfl ⟨tt_,B⟩ ?_
  cases h
  refine AK.done ?_
  exact ex_ _ (an_ rfl (gives ⟨rfl,rfl,rfl,rfl,rfl,rfl,rfl,rfl,rfl,rfl,rfl,tt_⟩))
 obtain⟨a1,a2,h⟩:=Qb h
 obtain⟨g,a3,h⟩:=Qb h
 refine Qa hC [.F,.n 5,.o (.co false [.d] 1 (a1.map QL) a1.length),.n 1,.cm (.fn) [(617,71),(618,14)] [(71,617),(14,618)] [] [.d,.d] [(617,.arr 1 (g.map QL)),(618,.var (Qz f.2))] (.own 617 g.length),.n 6,.o (.ln i.length),.n 4,.K [6,7,8,12,13,14,16,74,75,76] [14,71,615,616,617,618,619,620,621,622,623,624,625]] rfl ⟨⟨⟨⟨tt_,B⟩,⟨(Qnk _ a2),Qf,.inl rfl⟩⟩,(Qli _ _ a3)⟩,Qf⟩ ?_
 obtain⟨b3,a4,h⟩:=Qb h
 refine AK.loop (body:=(fun st=>QdK i f g z j u st.1 st.2)) (fun st σ=>σ=⟨[(6,.loc 620 0 0),(7,.loc 621 0 0),(8,.loc 622 0 0),(12,.loc 625 0 0),(13,.sl 1 (z.map Qe)),(14,.loc 14 0 0),(16,.own 71 g.length),(74,.sl 1 (i.map QL)),(75,.I (i.length:Int)),(76,.I st.1)],[(14,.var (Qz f.2)),(71,.arr 1 (g.map QL)),(615,.arr 4 (k.map Qk)),(616,.arr 4 (st.2.map Qk)),(617,.lp lpl (QaP lpf) (Qd4 (.loc 618 0 0) (.loc 619 0 0) (.loc 620 0 0) (.loc 621 0 0) (.loc 622 0 0) (.loc 623 0 0) (.loc 624 0 0) (.loc 625 0 0)) 1),(618,.var (Qd x)),(619,.var (Qt y)),(620,.var (Qe j)),(621,.var (Qe u)),(622,.var [.own 615 k.length]),(623,.var (QZ i)),(624,.var (QZ w)),(625,.var [.own 616 st.2.length])]⟩) (Sum.elim (fun q e σ=>e=.ret∧σ=⟨[],[(615,.arr 4 (k.map Qk)),(616,.arr 4 (q.map Qk)),(617,.lp lpl (QaP lpf) (Qd4 (.loc 618 0 0) (.loc 619 0 0) (.loc 620 0 0) (.loc 621 0 0) (.loc 622 0 0) (.loc 623 0 0) (.loc 624 0 0) (.loc 625 0 0)) 1),(618,.var (Qd x)),(619,.var (Qt y)),(620,.var (Qe j)),(621,.var (Qe u)),(622,.var [.own 616 q.length]),(623,.var (QZ i)),(624,.var (QZ w)),(625,.var [.own 616 q.length])]⟩) (fun q e σ=>e=.exit 2∧σ=⟨[],[(615,.arr 4 (k.map Qk)),(616,.arr 4 (q.map Qk)),(617,.lp lpl (QaP lpf) (Qd4 (.loc 618 0 0) (.loc 619 0 0) (.loc 620 0 0) (.loc 621 0 0) (.loc 622 0 0) (.loc 623 0 0) (.loc 624 0 0) (.loc 625 0 0)) 1),(618,.var (Qd x)),(619,.var (Qt y)),(620,.var (Qe j)),(621,.var (Qe u)),(622,.var [.own 615 k.length]),(623,.var (QZ i)),(624,.var (QZ w)),(625,.var [.own 616 q.length])]⟩)) a4 rfl ?_ ?_
 ·rintro ⟨D,c1⟩ o σ rfl h
  refine tg_ hC [.n 6] rfl ?_
  refine bg_ h (fun E h=>Qa hC [.T,.n 2] rfl ⟨tt_,E⟩ ?_) fun E h=>Qa hC [.F,.n 2,.K [] [615,616,617,618,619,620,621,622,623,624,625]] rfl ⟨tt_,E⟩ ?_
  ·refine AK.meet (fun σ=>∃L:(List Ql),σ=⟨[(6,.loc 620 0 0),(7,.loc 621 0 0),(8,.loc 622 0 0),(12,.loc 625 0 0),(13,.sl 1 (z.map Qe)),(14,.loc 14 0 0),(16,.own 71 g.length),(74,.sl 1 (i.map QL)),(75,.I (i.length:Int)),(76,.I D)],[(14,.var (Qz f.2)),(71,.arr 1 (g.map QL)),(615,.arr 4 (k.map Qk)),(616,.arr 4 (L.map Qk)),(617,.lp lpl (QaP lpf) (Qd4 (.loc 618 0 0) (.loc 619 0 0) (.loc 620 0 0) (.loc 621 0 0) (.loc 622 0 0) (.loc 623 0 0) (.loc 624 0 0) (.loc 625 0 0)) 1),(618,.var (Qd x)),(619,.var (Qt y)),(620,.var (Qe j)),(621,.var (Qe u)),(622,.var [.own 615 k.length]),(623,.var (QZ i)),(624,.var (QZ w)),(625,.var [.own 616 L.length])]⟩∧QcH D L=some o) ?_ ?_
   ·obtain⟨X,a5,h⟩:=Qb h
    obtain⟨b4,a6,h⟩:=Qb h
    refine Qa hC [.n 3,.o (.row (QL X)),.n 7,.v .no [] (.agg (Qz f.2)),.n 1,.o (.c false [.d,.d] (.I b4)),.n 3] rfl ⟨⟨⟨tt_,(QP a5)⟩,rfl⟩,(Qlp _ _ a6)⟩ ?_
    refine bg_ h (fun G h=>Qa hC [.T,.n 3,.K [6,7,8,12,13,14,16,74,75,76] [14,71,615,616,617,618,619,620,621,622,623,624,625]] rfl ⟨tt_,G⟩ ?_) fun G h=>Qa hC [.F,.n 10,.K [6,7,8,12,13,14,16,18,74,75,76,84,85,86] [14,71,615,616,617,618,619,620,621,622,623,624,625]] rfl ⟨tt_,G⟩ ?_
    ·exact AK.met (ex_ _ (an_ rfl h))
    obtain⟨b5,a7,h⟩:=Qb h
    refine AK.loop (body:=(fun st=>QdJ g z X j u st.1 st.2)) (fun st σ=>σ=⟨[(6,.loc 620 0 0),(7,.loc 621 0 0),(8,.loc 622 0 0),(12,.loc 625 0 0),(13,.sl 1 (z.map Qe)),(14,.loc 14 0 0),(16,.own 71 g.length),(18,.sl 1 (X.map Qe)),(74,.sl 1 (i.map QL)),(75,.I (i.length:Int)),(76,.I D),(84,.own 71 g.length),(85,.I (g.length:Int)),(86,.I st.1)],[(14,.var (Qz f.2)),(71,.arr 1 (g.map QL)),(615,.arr 4 (k.map Qk)),(616,.arr 4 (st.2.map Qk)),(617,.lp lpl (QaP lpf) (Qd4 (.loc 618 0 0) (.loc 619 0 0) (.loc 620 0 0) (.loc 621 0 0) (.loc 622 0 0) (.loc 623 0 0) (.loc 624 0 0) (.loc 625 0 0)) 1),(618,.var (Qd x)),(619,.var (Qt y)),(620,.var (Qe j)),(621,.var (Qe u)),(622,.var [.own 615 k.length]),(623,.var (QZ i)),(624,.var (QZ w)),(625,.var [.own 616 st.2.length])]⟩) (Sum.elim (fun q e σ=>e=.ret∧σ=⟨[],[(615,.arr 4 (k.map Qk)),(616,.arr 4 (q.map Qk)),(617,.lp lpl (QaP lpf) (Qd4 (.loc 618 0 0) (.loc 619 0 0) (.loc 620 0 0) (.loc 621 0 0) (.loc 622 0 0) (.loc 623 0 0) (.loc 624 0 0) (.loc 625 0 0)) 1),(618,.var (Qd x)),(619,.var (Qt y)),(620,.var (Qe j)),(621,.var (Qe u)),(622,.var [.own 616 q.length]),(623,.var (QZ i)),(624,.var (QZ w)),(625,.var [.own 616 q.length])]⟩) (fun q e σ=>e=.exit 4∧σ=⟨[(6,.loc 620 0 0),(7,.loc 621 0 0),(8,.loc 622 0 0),(12,.loc 625 0 0),(13,.sl 1 (z.map Qe)),(14,.loc 14 0 0),(16,.own 71 g.length),(74,.sl 1 (i.map QL)),(75,.I (i.length:Int)),(76,.I D)],[(14,.var (Qz f.2)),(71,.arr 1 (g.map QL)),(615,.arr 4 (k.map Qk)),(616,.arr 4 (q.map Qk)),(617,.lp lpl (QaP lpf) (Qd4 (.loc 618 0 0) (.loc 619 0 0) (.loc 620 0 0) (.loc 621 0 0) (.loc 622 0 0) (.loc 623 0 0) (.loc 624 0 0) (.loc 625 0 0)) 1),(618,.var (Qd x)),(619,.var (Qt y)),(620,.var (Qe j)),(621,.var (Qe u)),(622,.var [.own 615 k.length]),(623,.var (QZ i)),(624,.var (QZ w)),(625,.var [.own 616 q.length])]⟩)) a7 rfl ?_ ?_
    ·rintro ⟨c2,M⟩ o σ rfl h
     refine tg_ hC [.n 6] rfl ?_
     rcases Qr h with⟨H,h⟩|⟨H,h⟩
     ·obtain⟨b6,P,h⟩:=Qb h
      obtain⟨l,a8,h⟩:=Qb h
      obtain⟨p,a9,h⟩:=Qb h
      obtain⟨t,b0,h⟩:=Qb h
      obtain⟨b1,h⟩:=QaX h
      refine Qa hC [.T,.n 7,.o (.row (QL b6)),.n 4,.K [6,7,8,12,13,14,16,18,20,74,75,76,84,85,86] [14,71,615,616,617,618,619,620,621,622,623,624,625]] rfl ⟨⟨⟨tt_,H⟩,(Qda P rfl)⟩,(QbV (QdE P).2)⟩ ?_
      refine AK.draw2 Qp hC mixed [.N,.N,.N,.a (.cd false [.d] 1 (l.map Qe) l.length) none false,.N,.a (.cd false [.d] 1 (p.map Qe) p.length) none false,.N,.a (.cd false [.d] 1 (t.map Qe) t.length) none false,.a .no (some ([],.agg (Qk (Ql.mk j l p t)))) false,.a (.bd []) (some ([],.sl 4 (([(Ql.mk j l p t)]:List Ql).map Qk))) false,.m (.app ((M++[(Ql.mk j l p t)]).map Qk) (M++[(Ql.mk j l p t)]).length),.m .s] [] [] [6,7,8,12,13,14,16,18,74,75,76,84,85,86] [14,71,615,616,617,618,619,620,621,622,623,624,625] rfl rfl rfl ⟨⟨⟨⟨⟨⟨tt_,⟨(Qco _ a8),Qf⟩⟩,⟨(Qco _ a9),Qf⟩⟩,⟨(Qco _ b0),Qf⟩⟩,rfl⟩,rfl⟩,⟨Qf,QbP b1 Qf,QaZ,QcP Qf⟩⟩ rfl (by kernel_rfl) rfl rfl rfl ?_
      refine Qa hC [.O 625 (.var [.own 616 (M++[(Ql.mk j l p t)]).length]),.n 9] rfl ⟨tt_,rfl⟩ ?_
      refine bg_ h (fun J h=>Qa hC [.T,.n 4,.O 622 (.var [.own 616 (M++[(Ql.mk j l p t)]).length]),.n 5,.K [] [615,616,617,618,619,620,621,622,623,624,625]] rfl ⟨⟨tt_,J⟩,rfl⟩ ?_) fun J h=>Qa hC [.F,.n 7,.K [6,7,8,12,13,14,16,18,74,75,76,84,85,86] [14,71,615,616,617,618,619,620,621,622,623,624,625]] rfl ⟨tt_,J⟩ ?_
      ·cases h
       exact Qar rfl (an_ rfl rfl)
      cases h
      exact Q4 rfl rfl
     refine Qa hC [.F,.n 2,.K [6,7,8,12,13,14,16,74,75,76] [14,71,615,616,617,618,619,620,621,622,623,624,625]] rfl ⟨tt_,H⟩ ?_
     cases h
     exact Q6 rfl (an_ rfl rfl)
    rcases b5 with(b7 | b8)
    ·replace h:Qj7 b7=some o:=h
     rintro e σ ⟨rfl,rfl⟩
     refine tg_ hC [.n 3,.K [] [615,616,617,618,619,620,621,622,623,624,625]] rfl ?_
     cases h
     exact Qar rfl (an_ rfl rfl)
    replace h:Qf6 D b8=some o:=h
    unfold Qf6 at h
    rintro e σ ⟨rfl,rfl⟩
    refine tg_ hC [.n 2,.K [6,7,8,12,13,14,16,74,75,76] [14,71,615,616,617,618,619,620,621,622,623,624,625]] rfl ?_
    exact AK.met (ex_ _ (an_ rfl h))
   rintro σ ⟨L,rfl,h⟩
   refine tg_ hC [.n 4,.K [6,7,8,12,13,14,16,74,75,76] [14,71,615,616,617,618,619,620,621,622,623,624,625]] rfl ?_
   cases h
   exact Q4 rfl rfl
  cases h
  exact Q6 rfl (an_ rfl rfl)
 rcases b3 with(b9 | c0)
 ·replace h:Qj8 b9=some r:=h
  rintro e σ ⟨rfl,rfl⟩
  refine tg_ hC [.n 2,.K [] [615,616,617,618,619,620,621,622,623,624,625]] rfl ?_
  cases h
  refine AK.done ?_
  exact ex_ _ (an_ rfl (gives ⟨rfl,rfl,rfl,rfl,rfl,rfl,rfl,rfl,rfl,rfl,rfl,tt_⟩))
 replace h:Qj9 c0=some r:=h
 rintro e σ ⟨rfl,rfl⟩
 refine tg_ hC [.n 2,.K [] [615,616,617,618,619,620,621,622,623,624,625]] rfl ?_
 cases h
 refine AK.done ?_
 exact ex_ _ (an_ rfl (gives ⟨rfl,rfl,rfl,rfl,rfl,rfl,rfl,rfl,rfl,rfl,rfl,tt_⟩))
def Qa6 (c:(List QJ))(a:Int):Option Int:=
 (QfL c a).bind fun b=>
 bif (!b.1)then
 some 0
 else
 (idx b.2.sizes a).bind fun d=>
 some d
theorem Qip (i j){r}(h:Qa6 i j=some r):Qc prog 134 [.sl 7 (i.map Qu),.I j] [] (Gives (.I r) []):=by
 refine Qc.walk 20 func134 rfl rfl rfl fun C hC=>?_
 obtain⟨e,f,h⟩:=Qb h
 refine Qa hC [.n 9,.o (.c false [.d,.d] (.tup [.agg (Q9 e.2),.b e.1])),.n 5,.O 5 (.var (Q9 e.2)),.n 10] rfl ⟨⟨tt_,(Qne _ _ f)⟩,rfl⟩ ?_
 rcases Qr h with⟨a,h⟩|⟨a,h⟩
 ·refine Qa hC [.T,.n 7] rfl ⟨tt_,a⟩ ?_
  cases h
  exact d1_ rfl rfl tt_
 obtain⟨k,g,h⟩:=Qb h
 refine Qa hC [.F,.n 7,.o (.row (Qe k)),.n 5] rfl ⟨⟨tt_,a⟩,(QP g)⟩ ?_
 cases h
 exact d1_ rfl rfl tt_
def Qmy (a:(List Ql)):Option (((List Int)×(List Ql))⊕((List Ql)⊕(List Ql))):=
 some (.inr (.inr a))
def Qmz (at_25:Int)(a:(List Int))(f:QD)(b:Qj):Option Bool:=
 bif (decide (0≤at_25))then
 (idx a at_25).bind fun c=>
 (idx f.Vars at_25).bind fun d=>
 (Qa6 b.Colours d.Colour).bind fun e=>
 some (decide (e≤(w64 (c+1))))
 else
 some false
def Qfy (a:(List Int))(at_25:Int)(b:Bool):Option ((Int×(List Int))⊕(Int×(List Int))):=
 bif b then
 (idx a at_25).bind fun c=>
 some (.inl ((w64 (at_25-1)),(a.set at_25.toNat 0)))
 else
 some (.inr (at_25,a))
def QdM (d:QD)(b:Qj)(at_25:Int)(a:(List Int)):Option ((Int×(List Int))⊕(Int×(List Int))):=
 (Qmz at_25 a d b).bind (fun c=>Qfy a at_25 c)
def Qfz (b:(List Ql))(at_29:Int)(a:(List Int)):Option (((List Int)×(List Ql))⊕((List Ql)⊕(List Ql))):=
 bif (decide (at_29<0))then
 some (.inr (.inl b))
 else
 (idx a at_29).bind fun c=>
 (idx a at_29).bind fun d=>
 some (.inl ((a.set at_29.toNat (w64 (c+1))),b))
def QfA (d:QD)(b:Qj)(a:(List Int))(c:(List Ql)):Option (((List Int)×(List Ql))⊕((List Ql)⊕(List Ql))):=
 (QK (fun st=>QdM d b st.1 st.2) ((w64 ((a.length:Int)-1)),a)).bind (fun q=>Qfz c q.1 q.2)
def QfB (e:Qj)(f:QMk)(g:Int)(h:Int)(i:(List Ql))(j:QLL)(k:QLL)(l:QD)(b:Qj)(a:(List Int))(c:(List Ql)):Option (((List Int)×(List Ql))⊕((List Ql)⊕(List Ql))):=
 (QaM a).bind fun d=>
 (Qe5 e f g h i j k c d).bind (Sum.elim (fun q=>Qmy q) (fun q=>QfA l b a q))
def QmA (a:(List Ql)):Option ((List Ql)⊕(List Ql)):=
 some (.inl a)
def QmB (a:(List Ql)):Option ((List Ql)⊕(List Ql)):=
 some (.inr a)
def Qhp (c:Qj)(d:QMk)(e:Int)(f:Int)(g:(List Ql))(h:QLL)(i:QLL)(j:(List Ql))(a:QD)(b:Qj):Option ((List Ql)⊕(List Ql)):=
 (chk (decide (0≤(a.Vars.length:Int))&&decide ((a.Vars.length:Int)≤(a.Vars.length:Int))&&decide ((a.Vars.length:Int)≤4294967296))).bind fun _=>
 (QK (fun st=>QfB c d e f g h i a b st.1 st.2) ((List.replicate (a.Vars.length:Int).toNat (0:Int)),j)).bind (Sum.elim (fun q=>QmA q) (fun q=>QmB q))
theorem QmC (lpl lpf:Nat)(l:Qj)(m:QMk)(p:Int)(s:Int)(j:(List Ql))(t:QLL)(u:QLL)(l8:(List Ql))(k:QD)(f:Qj){r:((List Ql)⊕(List Ql))}(h:Qhp l m p s j t u l8 k f=some r):Qc prog 152 [.clo (.yield lpl) [] [],.loc 626 0 0,.loc 627 0 0] [(617,.lp lpl (QaP lpf) (Qd4 (.loc 618 0 0) (.loc 619 0 0) (.loc 620 0 0) (.loc 621 0 0) (.loc 622 0 0) (.loc 623 0 0) (.loc 624 0 0) (.loc 625 0 0)) 0),(618,.var (Qd l)),(619,.var (Qt m)),(620,.var (Qe p)),(621,.var (Qe s)),(622,.var [.own 615 j.length]),(615,.arr 4 (j.map Qk)),(623,.var (QZ t)),(624,.var (QZ u)),(625,.var [.own 616 l8.length]),(616,.arr 4 (l8.map Qk)),(626,.var (Qh k)),(627,.var (Qd f))] ((Sum.elim (fun q=>(Gives (.tup []) [(615,.arr 4 (j.map Qk)),(616,.arr 4 (q.map Qk)),(617,.lp lpl (QaP lpf) (Qd4 (.loc 618 0 0) (.loc 619 0 0) (.loc 620 0 0) (.loc 621 0 0) (.loc 622 0 0) (.loc 623 0 0) (.loc 624 0 0) (.loc 625 0 0)) 0),(618,.var (Qd l)),(619,.var (Qt m)),(620,.var (Qe p)),(621,.var (Qe s)),(622,.var [.own 615 j.length]),(623,.var (QZ t)),(624,.var (QZ u)),(625,.var [.own 616 q.length]),(626,.var (Qh k)),(627,.var (Qd f))])) (fun q=>(Gives (.tup []) [(615,.arr 4 (j.map Qk)),(616,.arr 4 (q.map Qk)),(617,.lp lpl (QaP lpf) (Qd4 (.loc 618 0 0) (.loc 619 0 0) (.loc 620 0 0) (.loc 621 0 0) (.loc 622 0 0) (.loc 623 0 0) (.loc 624 0 0) (.loc 625 0 0)) 2),(618,.var (Qd l)),(619,.var (Qt m)),(620,.var (Qe p)),(621,.var (Qe s)),(622,.var [.own 616 q.length]),(623,.var (QZ t)),(624,.var (QZ u)),(625,.var [.own 616 q.length]),(626,.var (Qh k)),(627,.var (Qd f))]))) r):=by
 refine Qc.walk 50 func152 rfl rfl rfl fun C hC=>?_
 obtain⟨U,h⟩:=QaX h
 refine Qa hC [.n 4,.o (.ln k.Vars.length),.o (.rows ((List.replicate (k.Vars.length:Int).toNat (0:Int)).map Qe)),.S 9 (.own 9 (List.replicate (k.Vars.length:Int).toNat (0:Int)).length),.n 4,.K [0,1,2,4] [9,615,616,617,618,619,620,621,622,623,624,625,626,627]] rfl ⟨⟨⟨tt_,Qf⟩,⟨U,QA1 rfl⟩⟩,(by simp)⟩ ?_
 obtain⟨a3,W,h⟩:=Qb h
 refine AK.loop (body:=(fun st=>QfB l m p s j t u k f st.1 st.2)) (fun st σ=>σ=⟨[(0,.clo (.yield lpl) [] []),(1,.loc 626 0 0),(2,.loc 627 0 0),(4,.own 9 st.1.length)],[(9,.arr 1 (st.1.map Qe)),(615,.arr 4 (j.map Qk)),(616,.arr 4 (st.2.map Qk)),(617,.lp lpl (QaP lpf) (Qd4 (.loc 618 0 0) (.loc 619 0 0) (.loc 620 0 0) (.loc 621 0 0) (.loc 622 0 0) (.loc 623 0 0) (.loc 624 0 0) (.loc 625 0 0)) 0),(618,.var (Qd l)),(619,.var (Qt m)),(620,.var (Qe p)),(621,.var (Qe s)),(622,.var [.own 615 j.length]),(623,.var (QZ t)),(624,.var (QZ u)),(625,.var [.own 616 st.2.length]),(626,.var (Qh k)),(627,.var (Qd f))]⟩) (Sum.elim (fun q e σ=>e=.ret∧σ=⟨[],[(615,.arr 4 (j.map Qk)),(616,.arr 4 (q.map Qk)),(617,.lp lpl (QaP lpf) (Qd4 (.loc 618 0 0) (.loc 619 0 0) (.loc 620 0 0) (.loc 621 0 0) (.loc 622 0 0) (.loc 623 0 0) (.loc 624 0 0) (.loc 625 0 0)) 0),(618,.var (Qd l)),(619,.var (Qt m)),(620,.var (Qe p)),(621,.var (Qe s)),(622,.var [.own 615 j.length]),(623,.var (QZ t)),(624,.var (QZ u)),(625,.var [.own 616 q.length]),(626,.var (Qh k)),(627,.var (Qd f))]⟩) (fun q e σ=>e=.ret∧σ=⟨[],[(615,.arr 4 (j.map Qk)),(616,.arr 4 (q.map Qk)),(617,.lp lpl (QaP lpf) (Qd4 (.loc 618 0 0) (.loc 619 0 0) (.loc 620 0 0) (.loc 621 0 0) (.loc 622 0 0) (.loc 623 0 0) (.loc 624 0 0) (.loc 625 0 0)) 2),(618,.var (Qd l)),(619,.var (Qt m)),(620,.var (Qe p)),(621,.var (Qe s)),(622,.var [.own 616 q.length]),(623,.var (QZ t)),(624,.var (QZ u)),(625,.var [.own 616 q.length]),(626,.var (Qh k)),(627,.var (Qd f))]⟩)) W rfl ?_ ?_
 ·rintro ⟨X,b3⟩ o σ rfl h
  obtain⟨J,Y,h⟩:=Qb h
  obtain⟨a4,B,h⟩:=Qb h
  refine Qa hC [.n 6,.o (.co true [.o (X.map Qe)] 1 (J.map Qe) J.length),.frz 12 (J.map Qe) [12] []] rfl ⟨⟨tt_,⟨(Qrq rfl),⟨(Qco _ Y),Qf,.inr (QBp _)⟩⟩⟩,⟨tt_,(Qb7 Qf)⟩⟩ ?_
  rcases a4 with(v | i)
  ·replace h:Qmy v=some o:=h
   refine Qa hC [.x (fun σ=>(σ.after [615,616] [(615,.arr 4 (j.map Qk)),(616,.arr 4 (v.map Qk)),(617,.lp lpl (QaP lpf) (Qd4 (.loc 618 0 0) (.loc 619 0 0) (.loc 620 0 0) (.loc 621 0 0) (.loc 622 0 0) (.loc 623 0 0) (.loc 624 0 0) (.loc 625 0 0)) 2),(618,.var (Qd l)),(619,.var (Qt m)),(620,.var (Qe p)),(621,.var (Qe s)),(622,.var [.own 616 v.length]),(623,.var (QZ t)),(624,.var (QZ u)),(625,.var [.own 616 v.length])]).put 13 (.b false)),.n 7,.K [] [615,616,617,618,619,620,621,622,623,624,625,626,627]] rfl ⟨tt_,(Stp.yieldV (b:=617) (M:=[(617,617),(618,618),(619,619),(620,620),(621,621),(622,622),(615,615),(623,623),(624,624),(625,625),(616,616)]) (N:=[(615,615),(616,616),(617,617),(618,618),(619,619),(620,620),(621,621),(622,622),(623,623),(624,624),(625,625)]) (dead:=[615,616]) (ms:=[.d,.d,.d,.d,.d,.d,.d,.d,.d,.d,.d,.d,.d,.d,.d,.d,.d,.d,.d,.d,.d,.d,.d,.d,.d,.d,.d,.d,.d,.d,.d,.d,.d,.d,.d,.d,.d,.d,.d,.d,.d,.d,.d,.d,.d,.d,.d,.d,.d,.d,.d,.d,.d,.d,.d,.d,.d,.d,.d,.d,.d,.d,.d,.d,.d,.d,.d,.d,.d,.d,.d,.d,.d,.d,.d,.d,.d,.d,.d,.d,.d,.d,.d,.d,.d,.d,.d,.d,.d,.d,.d,.d,.d,.d,.d,.d,.d,.d,.d,.d,.d,.d,.d,.d,.d,.d,.d,.d,.d]) (outs:=[(615,.arr 4 (j.map Qk)),(616,.arr 4 (v.map Qk)),(617,.lp lpl (QaP lpf) (Qd4 (.loc 618 0 0) (.loc 619 0 0) (.loc 620 0 0) (.loc 621 0 0) (.loc 622 0 0) (.loc 623 0 0) (.loc 624 0 0) (.loc 625 0 0)) 2),(618,.var (Qd l)),(619,.var (Qt m)),(620,.var (Qe p)),(621,.var (Qe s)),(622,.var [.own 616 v.length]),(623,.var (QZ t)),(624,.var (QZ u)),(625,.var [.own 616 v.length])]) (r:=.b false) rfl rfl rfl rfl rfl rfl rfl (QO hC.n rfl) hC.g rfl rfl (Qka _ _ _ _ _ _ _ _ _ _ _ B))⟩ ?_
   cases h
   exact Qar rfl (an_ rfl rfl)
  replace h:QfA k f X i=some o:=h
  refine Qa hC [.x (fun σ=>(σ.after [615,616] [(615,.arr 4 (j.map Qk)),(616,.arr 4 (i.map Qk)),(617,.lp lpl (QaP lpf) (Qd4 (.loc 618 0 0) (.loc 619 0 0) (.loc 620 0 0) (.loc 621 0 0) (.loc 622 0 0) (.loc 623 0 0) (.loc 624 0 0) (.loc 625 0 0)) 0),(618,.var (Qd l)),(619,.var (Qt m)),(620,.var (Qe p)),(621,.var (Qe s)),(622,.var [.own 615 j.length]),(623,.var (QZ t)),(624,.var (QZ u)),(625,.var [.own 616 i.length])]).put 13 (.b true)),.n 16,.K [0,1,2,4,5] [9,615,616,617,618,619,620,621,622,623,624,625,626,627]] rfl ⟨tt_,(Stp.yieldV (b:=617) (M:=[(617,617),(618,618),(619,619),(620,620),(621,621),(622,622),(615,615),(623,623),(624,624),(625,625),(616,616)]) (N:=[(615,615),(616,616),(617,617),(618,618),(619,619),(620,620),(621,621),(622,622),(623,623),(624,624),(625,625)]) (dead:=[615,616]) (ms:=[.d,.d,.d,.d,.d,.d,.d,.d,.d,.d,.d,.d,.d,.d,.d,.d,.d,.d,.d,.d,.d,.d,.d,.d,.d,.d,.d,.d,.d,.d,.d,.d,.d,.d,.d,.d,.d,.d,.d,.d,.d,.d,.d,.d,.d,.d,.d,.d,.d,.d,.d,.d,.d,.d,.d,.d,.d,.d,.d,.d,.d,.d,.d,.d,.d,.d,.d,.d,.d,.d,.d,.d,.d,.d,.d,.d,.d,.d,.d,.d,.d,.d,.d,.d,.d,.d,.d,.d,.d,.d,.d,.d,.d,.d,.d,.d,.d,.d,.d,.d,.d,.d,.d,.d,.d,.d,.d,.d,.d]) (outs:=[(615,.arr 4 (j.map Qk)),(616,.arr 4 (i.map Qk)),(617,.lp lpl (QaP lpf) (Qd4 (.loc 618 0 0) (.loc 619 0 0) (.loc 620 0 0) (.loc 621 0 0) (.loc 622 0 0) (.loc 623 0 0) (.loc 624 0 0) (.loc 625 0 0)) 0),(618,.var (Qd l)),(619,.var (Qt m)),(620,.var (Qe p)),(621,.var (Qe s)),(622,.var [.own 615 j.length]),(623,.var (QZ t)),(624,.var (QZ u)),(625,.var [.own 616 i.length])]) (r:=.b true) rfl rfl rfl rfl rfl rfl rfl (QO hC.n rfl) hC.g rfl rfl (Qka _ _ _ _ _ _ _ _ _ _ _ B))⟩ ?_
  obtain⟨a5,Z,h⟩:=Qb h
  refine AK.loop (body:=(fun st=>QdM k f st.1 st.2)) (fun st σ=>σ=⟨[(0,.clo (.yield lpl) [] []),(1,.loc 626 0 0),(2,.loc 627 0 0),(4,.own 9 st.2.length),(5,.I st.1)],[(9,.arr 1 (st.2.map Qe)),(615,.arr 4 (j.map Qk)),(616,.arr 4 (i.map Qk)),(617,.lp lpl (QaP lpf) (Qd4 (.loc 618 0 0) (.loc 619 0 0) (.loc 620 0 0) (.loc 621 0 0) (.loc 622 0 0) (.loc 623 0 0) (.loc 624 0 0) (.loc 625 0 0)) 0),(618,.var (Qd l)),(619,.var (Qt m)),(620,.var (Qe p)),(621,.var (Qe s)),(622,.var [.own 615 j.length]),(623,.var (QZ t)),(624,.var (QZ u)),(625,.var [.own 616 i.length]),(626,.var (Qh k)),(627,.var (Qd f))]⟩) (fun q e σ=>e=.exit 2∧σ=⟨[(0,.clo (.yield lpl) [] []),(1,.loc 626 0 0),(2,.loc 627 0 0),(4,.own 9 q.2.length),(5,.I q.1)],[(9,.arr 1 (q.2.map Qe)),(615,.arr 4 (j.map Qk)),(616,.arr 4 (i.map Qk)),(617,.lp lpl (QaP lpf) (Qd4 (.loc 618 0 0) (.loc 619 0 0) (.loc 620 0 0) (.loc 621 0 0) (.loc 622 0 0) (.loc 623 0 0) (.loc 624 0 0) (.loc 625 0 0)) 0),(618,.var (Qd l)),(619,.var (Qt m)),(620,.var (Qe p)),(621,.var (Qe s)),(622,.var [.own 615 j.length]),(623,.var (QZ t)),(624,.var (QZ u)),(625,.var [.own 616 i.length]),(626,.var (Qh k)),(627,.var (Qd f))]⟩) Z rfl ?_ ?_
  ·rintro ⟨at_25,w⟩ o σ rfl h
   refine tg_ hC [.n 2] rfl ?_
   obtain⟨L,a0,h⟩:=Qb h
   replace h:Qfy w at_25 L=some o:=h
   refine AK.meetX (fun σ=>σ=⟨[(0,.clo (.yield lpl) [] []),(1,.loc 626 0 0),(2,.loc 627 0 0),(4,.own 9 w.length),(5,.I at_25),(36,.b L)],[(9,.arr 1 (w.map Qe)),(615,.arr 4 (j.map Qk)),(616,.arr 4 (i.map Qk)),(617,.lp lpl (QaP lpf) (Qd4 (.loc 618 0 0) (.loc 619 0 0) (.loc 620 0 0) (.loc 621 0 0) (.loc 622 0 0) (.loc 623 0 0) (.loc 624 0 0) (.loc 625 0 0)) 0),(618,.var (Qd l)),(619,.var (Qt m)),(620,.var (Qe p)),(621,.var (Qe s)),(622,.var [.own 615 j.length]),(623,.var (QZ t)),(624,.var (QZ u)),(625,.var [.own 616 i.length]),(626,.var (Qh k)),(627,.var (Qd f))]⟩) ?_ ?_
   ·replace h:=a0
    refine tg_ hC [.K [0,1,2,4,5] [9,615,616,617,618,619,620,621,622,623,624,625,626,627]] rfl ?_
    rcases Qr h with⟨y,h⟩|⟨y,h⟩
    ·obtain⟨a6,D,h⟩:=Qb h
     obtain⟨a7,a1,h⟩:=Qb h
     obtain⟨a8,a2,h⟩:=Qb h
     refine AK.draw2 Qp hC mixed [.N,.N,.a .no (some ([],.b true)) false,.N,.N,.N,.a (.row (Qe a6)) none false,.N,.N,.N,.N,.N,.N,.a (.row (QU a7)) none false,.N,.N,.a (.c false [.d,.d] (.I a8)) none false,.N,.N] [] [] [0,1,2,4,5,36] [9,615,616,617,618,619,620,621,622,623,624,625,626,627] rfl rfl rfl ⟨⟨⟨⟨(tc_ y),(Qda D rfl)⟩,(QbV (QdE D).2)⟩,(QP a1)⟩,(Qip _ _ a2)⟩ rfl (by kernel_rfl) rfl rfl rfl ?_
     refine tg_ hC [.K [0,1,2,4,5,36] [9,615,616,617,618,619,620,621,622,623,624,625,626,627]] rfl ?_
     cases h
     exact AK.met rfl
    refine AK.draw2 Qp hC mixed [.N,.N,.a .no (some ([],.b false)) false,.N,.N,.N,.N,.N,.N,.N,.N,.N,.N,.N,.N,.N,.N,.N,.N] [] [] [0,1,2,4,5,36] [9,615,616,617,618,619,620,621,622,623,624,625,626,627] rfl rfl rfl (tc_ y) rfl (by kernel_rfl) rfl rfl rfl ?_
    refine tg_ hC [.K [0,1,2,4,5,36] [9,615,616,617,618,619,620,621,622,623,624,625,626,627]] rfl ?_
    cases h
    exact AK.met rfl
   rintro σ rfl
   replace h:Qfy w at_25 L=some o:=h
   refine tg_ hC [.n 1] rfl ?_
   rcases Qr h with⟨z,h⟩|⟨z,h⟩
   ·obtain⟨a9,E,h⟩:=Qb h
    refine Qa hC [.T,.n 8,.st (Qe a9) ((w.set at_25.toNat 0).map Qe),.n 8,.S 4 (.own 9 (w.set at_25.toNat 0).length),.K [0,1,2,4,5] [9,615,616,617,618,619,620,621,622,623,624,625,626,627]] rfl ⟨⟨⟨⟨tt_,z⟩,(Qda E rfl)⟩,⟨(QbV (QdE E).2),Qme rfl⟩⟩,(congrArg (fun n=>V.own 9 n) (by simp))⟩ ?_
    cases h
    exact Q4 rfl rfl
   refine Qa hC [.F,.n 2,.K [0,1,2,4,5] [9,615,616,617,618,619,620,621,622,623,624,625,626,627]] rfl ⟨tt_,z⟩ ?_
   cases h
   exact Q6 rfl (an_ rfl rfl)
  obtain⟨at_29,O⟩:=a5
  replace h:Qfz i at_29 O=some o:=h
  rintro e σ ⟨rfl,rfl⟩
  refine tg_ hC [.n 9] rfl ?_
  rcases Qr h with⟨A,h⟩|⟨A,h⟩
  ·refine Qa hC [.T,.n 3,.K [] [615,616,617,618,619,620,621,622,623,624,625,626,627]] rfl ⟨tt_,A⟩ ?_
   cases h
   exact Qar rfl (an_ rfl rfl)
  obtain⟨P,G,h⟩:=Qb h
  obtain⟨b0,H,h⟩:=Qb h
  refine Qa hC [.F,.n 6,.o (.row (Qe P)),.n 2,.st (Qe b0) ((O.set at_29.toNat (w64 (P+1))).map Qe),.n 2,.S 4 (.own 9 (O.set at_29.toNat (w64 (P+1))).length),.K [0,1,2,4] [9,615,616,617,618,619,620,621,622,623,624,625,626,627]] rfl ⟨⟨⟨⟨⟨⟨tt_,A⟩,(Qda G rfl)⟩,(QbV (QdE G).2)⟩,(Qda H rfl)⟩,⟨(QbV (QdE H).2),Qme rfl⟩⟩,(congrArg (fun n=>V.own 9 n) (by simp))⟩ ?_
  cases h
  exact Q4 rfl rfl
 rcases a3 with(b1 | b2)
 ·replace h:QmA b1=some r:=h
  rintro e σ ⟨rfl,rfl⟩
  refine tg_ hC [.n 1,.K [] [615,616,617,618,619,620,621,622,623,624,625,626,627]] rfl ?_
  cases h
  refine AK.done ?_
  exact ex_ [] (an_ tt_ (gives ⟨rfl,rfl,rfl,rfl,rfl,rfl,rfl,rfl,rfl,rfl,rfl,rfl,rfl,tt_⟩))
 replace h:QmB b2=some r:=h
 rintro e σ ⟨rfl,rfl⟩
 refine tg_ hC [.n 1,.K [] [615,616,617,618,619,620,621,622,623,624,625,626,627]] rfl ?_
 cases h
 refine AK.done ?_
 exact ex_ [] (an_ tt_ (gives ⟨rfl,rfl,rfl,rfl,rfl,rfl,rfl,rfl,rfl,rfl,rfl,rfl,rfl,tt_⟩))
def QqB (a:(List Ql)):Option (List Ql):=
 some a
def QqC (a:(List Ql)):Option (List Ql):=
 some a
def QhS (e:Qj)(h:QMk)(a:Int)(b:Int):Option (List Ql):=
 bif ((decide (a<0))||((decide ((e.Tasks.length:Int)≤a))||(decide (b<1))))then
 some ([]:List Ql)
 else
 (idx e.Tasks a).bind fun c=>
 (Qcg c.Join (c.Ins.length:Int)).bind fun f=>
 (Qcg c.Split (c.Outs.length:Int)).bind fun g=>
 (Qqu e c).bind fun d=>
 (Qhp e h a b ([]:List Ql) f g ([]:List Ql) d.2 d.1).bind (Sum.elim (fun q=>QqB q) (fun q=>QqC q))
theorem Qwx (j x c e){r}(h:QhS j x c e=some r):Qc prog 65 [.agg (Qd j),.sl 1 (x.map Qi),.I c,.I e] [] (Gives (.sl 4 (r.map Qk)) []):=by
 refine Qc.walkR 109 func65 rfl ntmps65 rfl fun C hC hR=>?_
 unfold QhS at h
 refine tg_ hC [.n 11] rfl ?_
 refine AK.meetX (fun σ=>σ=⟨[(4,.loc 4 0 0),(5,.loc 5 0 0),(6,.loc 6 0 0),(7,.loc 7 0 0),(8,.loc 8 0 0),(33,.b ((decide (c<0))||((decide ((j.Tasks.length:Int)≤c))||(decide (e<1)))))],[(4,.var (Qd j)),(5,.var (Qt x)),(6,.var (Qe c)),(7,.var (Qe e)),(8,.var [.lit (.slice none 0 0)])]⟩) ?_ ?_
 ·refine tg_ hC [.n 4] rfl ?_
  rcases Q3 (decide (c<0))with f | f
  ·refine Qa hC [.S 23 (.b true),.n 11,.S 33 (.b ((decide (c<0))||((decide ((j.Tasks.length:Int)≤c))||(decide (e<1))))),.K [4,5,6,7,8,33] [4,5,6,7,8]] rfl ⟨(tc_ f),(congrArg V.b (orT f rfl))⟩ ?_
   exact AK.met rfl
  refine Qa hC [.S 23 (.b false),.n 3,.o (.ln j.Tasks.length),.n 3] rfl ⟨(tc_ f),Qf⟩ ?_
  rcases Q3 (decide ((j.Tasks.length:Int)≤c))with k | k
  ·refine Qa hC [.S 30 (.b true),.n 4,.S 33 (.b ((decide (c<0))||((decide ((j.Tasks.length:Int)≤c))||(decide (e<1))))),.K [4,5,6,7,8,33] [4,5,6,7,8]] rfl ⟨(tc_ k),(congrArg V.b (orF f (orT k rfl)))⟩ ?_
   exact AK.met rfl
  refine Qa hC [.S 30 (.b false),.n 4,.S 33 (.b ((decide (c<0))||((decide ((j.Tasks.length:Int)≤c))||(decide (e<1))))),.K [4,5,6,7,8,33] [4,5,6,7,8]] rfl ⟨(tc_ k),(congrArg V.b (orF f (orF k rfl)))⟩ ?_
  exact AK.met rfl
 rintro σ rfl
 refine tg_ hC [.n 1] rfl ?_
 rcases Qr h with⟨l,h⟩|⟨l,h⟩
 ·refine Qa hC [.T,.n 3,.O 8 (.var [.lit (.slice none 0 0)]),.n 4,.denilO 8 [some 4],.O 8 (.var (QAs ([]:List Ql))),.K [8] [8]] rfl ⟨⟨⟨tt_,l⟩,rfl⟩,rfl⟩ ?_
  cases h
  exact AK.done (ex_ [_] (an_ (an_ (ex_ _ (ex_ _ (an_ rfl (an_ rfl (Or.inr (an_ (Qp.ag rfl) rfl)))))) tt_) (gives tt_)))
 obtain⟨g,y,h⟩:=Qb h
 obtain⟨p,z,h⟩:=Qb h
 obtain⟨q,A,h⟩:=Qb h
 refine Qa hC [.F,.n 7,.o (.row (Qh g)),.v .no [] (.agg (Qh g)),.n 2,.O 9 (.var (Qh g)),.n 3,.K [4,5,6,7,8,9] [4,5,6,7,8,9]] rfl ⟨⟨⟨⟨tt_,l⟩,(QP y)⟩,rfl⟩,rfl⟩ ?_
 refine AK.draw2 Qp hC mixed [.N,.N,.N,.N,.a (.ln g.Ins.length) none false,.a (.cd false [.d,.d] 1 (p.map QL) p.length) none false,.N,.N,.N,.N,.a (.ln g.Outs.length) none false,.a (.cd false [.d,.d] 1 (q.map QL) q.length) none false,.N,.N,.m .s,.m .s] [] [] [4,5,6,7,8,9,10,11] [4,5,6,7,8,9,10,11] rfl rfl rfl ⟨⟨⟨⟨tt_,Qf⟩,⟨(Qk2 _ _ z),Qf⟩⟩,Qf⟩,⟨(Qk2 _ _ A),Qf⟩⟩ rfl (by kernel_rfl) rfl rfl rfl ?_
 obtain⟨i,B,h⟩:=Qb h
 refine Qa hC [.O 10 (.var (QZ p)),.O 11 (.var (QZ q)),.n 9,.v .no [] (.agg (Qd j)),.v .no [] (.agg (Qh g)),.cm (.fn) [] [(53,2),(610,3)] [] [.d,.d] [(2,.var (Qd i.1)),(3,.var (Qh i.2))] (.clo (.func 152) [] [.loc 3 0 0,.loc 2 0 0]),.n 3,.K [4,5,6,7,8,10,11,12,53] [4,5,6,7,8,10,11,12,53,610]] rfl ⟨⟨⟨⟨⟨tt_,rfl⟩,rfl⟩,rfl⟩,rfl⟩,(QtV _ _ B)⟩ ?_
 obtain⟨D,w,h⟩:=Qb h
 refine Qa hC [.adoptO 8 0 606 4,.O 606 (.arr 4 (([]:List Ql).map Qk)),.O 8 (.var [.own 606 ([]:List Ql).length]),.adoptO 12 0 607 4,.O 607 (.arr 4 (([]:List Ql).map Qk)),.O 12 (.var [.own 607 ([]:List Ql).length])] rfl ⟨⟨⟨⟨tt_,rfl⟩,rfl⟩,rfl⟩,rfl⟩ ?_
 rcases D with(t | u)
 ·replace h:QqB t=some r:=h
  refine AK.rangeF 614 [4,5,6,7,8,10,11,12] [(617,614),(618,4),(619,5),(620,6),(621,7),(622,8),(615,606),(623,10),(624,11),(625,12),(616,607),(626,610),(627,53)] [(606,615),(607,616),(614,617),(4,618),(5,619),(6,620),(7,621),(8,622),(10,623),(11,624),(12,625),(610,626),(53,627)] [606,607] [.d,.d,.d] QaP hC hR (fun _=>rfl) rfl rfl rfl rfl fun lpl lpf=>?_
  refine ex_ [(615,.arr 4 (([]:List Ql).map Qk)),(616,.arr 4 (t.map Qk)),(617,.lp lpl (QaP lpf) (Qd4 (.loc 618 0 0) (.loc 619 0 0) (.loc 620 0 0) (.loc 621 0 0) (.loc 622 0 0) (.loc 623 0 0) (.loc 624 0 0) (.loc 625 0 0)) 0),(618,.var (Qd j)),(619,.var (Qt x)),(620,.var (Qe c)),(621,.var (Qe e)),(622,.var [.own 615 ([]:List Ql).length]),(623,.var (QZ p)),(624,.var (QZ q)),(625,.var [.own 616 t.length]),(626,.var (Qh i.2)),(627,.var (Qd i.1))] (ex_ (.tup []) (ex_ _ (ex_ _ (ex_ (Qd4 (.loc 4 0 0) (.loc 5 0 0) (.loc 6 0 0) (.loc 7 0 0) (.loc 8 0 0) (.loc 10 0 0) (.loc 11 0 0) (.loc 12 0 0)) (ex_ 0 (an_ rfl ?_))))))
  refine an_ (QmC _ _ _ _ _ _ _ _ _ _ _ _ w) (an_ rfl (an_ (bne_iff_ne.1 (show(0 != 1)=true from rfl)) ?_))
  refine QD1 rfl ?_
  refine Qa hC [.n 6,.O 8 (.var [.own 607 t.length]),.n 3,.frz 607 (t.map Qk) [] [8],.K [8] [8]] rfl ⟨⟨tt_,rfl⟩,⟨tt_,⟨(Qb7 Qf),tt_⟩⟩⟩ ?_
  cases h
  exact AK.done (ex_ [_] (an_ (an_ (ex_ _ (ex_ _ (an_ rfl (an_ rfl (Or.inr (an_ (Qp.ag rfl) rfl)))))) tt_) (gives tt_)))
 replace h:QqC u=some r:=h
 refine AK.rangeF 614 [4,5,6,7,8,10,11,12] [(617,614),(618,4),(619,5),(620,6),(621,7),(622,8),(615,606),(623,10),(624,11),(625,12),(616,607),(626,610),(627,53)] [(606,615),(607,616),(614,617),(4,618),(5,619),(6,620),(7,621),(8,622),(10,623),(11,624),(12,625),(610,626),(53,627)] [606,607] [.d,.d,.d] QaP hC hR (fun _=>rfl) rfl rfl rfl rfl fun lpl lpf=>?_
 refine ex_ [(615,.arr 4 (([]:List Ql).map Qk)),(616,.arr 4 (u.map Qk)),(617,.lp lpl (QaP lpf) (Qd4 (.loc 618 0 0) (.loc 619 0 0) (.loc 620 0 0) (.loc 621 0 0) (.loc 622 0 0) (.loc 623 0 0) (.loc 624 0 0) (.loc 625 0 0)) 2),(618,.var (Qd j)),(619,.var (Qt x)),(620,.var (Qe c)),(621,.var (Qe e)),(622,.var [.own 616 u.length]),(623,.var (QZ p)),(624,.var (QZ q)),(625,.var [.own 616 u.length]),(626,.var (Qh i.2)),(627,.var (Qd i.1))] (ex_ (.tup []) (ex_ _ (ex_ _ (ex_ (Qd4 (.loc 4 0 0) (.loc 5 0 0) (.loc 6 0 0) (.loc 7 0 0) (.loc 8 0 0) (.loc 10 0 0) (.loc 11 0 0) (.loc 12 0 0)) (ex_ 2 (an_ rfl ?_))))))
 refine an_ (QmC _ _ _ _ _ _ _ _ _ _ _ _ w) (an_ rfl (an_ (bne_iff_ne.1 (show(2 != 1)=true from rfl)) ?_))
 refine QFn rfl ?_
 refine Qa hC [.n 3,.frz 607 (u.map Qk) [] [8],.K [8] [8]] rfl ⟨tt_,⟨tt_,⟨(Qb7 Qf),tt_⟩⟩⟩ ?_
 cases h
 exact AK.done (ex_ [_] (an_ (an_ (ex_ _ (ex_ _ (an_ rfl (an_ rfl (Or.inr (an_ (Qp.ag rfl) rfl)))))) tt_) (gives tt_)))
def QlA (e:Qj)(f:QMk)(a:Int)(d:Int)(c:(List Ql)):Option ((Int×(List Ql))⊕(List Ql)):=
 bif (decide (d<(e.Tasks.length:Int)))then
 (QhS e f d (w64 (a-(c.length:Int)))).bind fun b=>
 (chk (decide (c.length+b.length≤4294967296))).bind fun _=>
 some (.inl ((w64 (d+1)),(c++b)))
 else
 some (.inr c)
def Qs4 (a:(List Ql)):Option (List Ql):=
 some a
def QkD (b:Qj)(c:QMk)(a:Int):Option (List Ql):=
 (QK (fun st=>QlA b c a st.1 st.2) (0,([]:List Ql))).bind (fun q=>Qs4 q)
theorem Qs5 (f l a){r}(h:QkD f l a=some r):Qc prog 36 [.agg (Qd f),.sl 1 (l.map Qi),.I a] [] (Gives (.own 600 r.length) [(600,.arr 4 (r.map Qk))]):=by
 refine Qc.walk 27 func36 rfl rfl rfl fun C hC=>?_
 refine Qa hC [.n 16,.o (.ln f.Tasks.length),.n 4,.adopt 7 15 4,.O 15 (.arr 4 (([]:List Ql).map Qk)),.S 7 (.own 15 ([]:List Ql).length),.K [1,2,3,7,11,12] [3,15]] rfl ⟨⟨⟨tt_,Qf⟩,rfl⟩,(congrArg (fun n=>V.own 15 n) (by simp))⟩ ?_
 obtain⟨m,i,h⟩:=Qb h
 refine AK.loop (body:=(fun st=>QlA f l a st.1 st.2)) (fun st σ=>σ=⟨[(1,.sl 1 (l.map Qi)),(2,.I a),(3,.loc 3 0 0),(7,.own 15 st.2.length),(11,.I (f.Tasks.length:Int)),(12,.I st.1)],[(3,.var (Qd f)),(15,.arr 4 (st.2.map Qk))]⟩) (fun q e σ=>e=.exit 0∧σ=⟨[(7,.own 15 q.length)],[(15,.arr 4 (q.map Qk))]⟩) i rfl ?_ ?_
 ·rintro ⟨s,p⟩ o σ rfl h
  refine tg_ hC [.n 6] rfl ?_
  rcases Qr h with⟨b,h⟩|⟨b,h⟩
  ·obtain⟨g,j,h⟩:=Qb h
   obtain⟨k,h⟩:=QaX h
   refine Qa hC [.T,.n 12,.v .no [] (.agg (Qd f)),.n 6,.o (.c false [.d,.d,.d,.d] (.sl 4 (g.map Qk))),.app ((p++g).map Qk) (p++g).length,.n 8,.K [1,2,3,7,11,12] [3,15]] rfl ⟨⟨⟨⟨tt_,b⟩,rfl⟩,(Qwx _ _ _ _ j)⟩,⟨Qf,QbP k Qf,QaZ,QcP Qf⟩⟩ ?_
   cases h
   exact Q4 rfl rfl
  refine Qa hC [.F,.n 2,.K [7] [15]] rfl ⟨tt_,b⟩ ?_
  cases h
  exact Q6 rfl (an_ rfl rfl)
 replace h:Qs4 m=some r:=h
 rintro e σ ⟨rfl,rfl⟩
 refine tg_ hC [.n 9,.K [6] [15],.ren 15 600] rfl ?_
 cases h
 exact d1_ rfl rfl ⟨rfl,tt_⟩

end Go.Proofs
