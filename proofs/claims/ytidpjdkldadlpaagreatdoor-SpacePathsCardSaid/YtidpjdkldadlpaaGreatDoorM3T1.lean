/- What functions of the program do, as functions over plain data, and the walks that show it: printed by a program. -/
import Derived.Test.YtidpjdkldadlpaaGreatDoorM3V3
import Derived.Test.YtidpjdkldadlpaaGreatDoorProg
set_option linter.unusedVariables false
set_option linter.unusedSimpArgs false
set_option linter.unusedSectionVars false
set_option linter.deprecated false
set_option maxRecDepth 100000
set_option maxHeartbeats 4000000
noncomputable section
namespace Go.Proofs
open Go Go.RowKit Go.Vm Go.Proofs.Tryz
structure QH where
 Name:ByteArray
 Kind:Int
 Lo:Int
 Hi:Int
 Names:(List ByteArray)
 First:Int
 Then:Int
structure QM where
 Name:ByteArray
 Colour:Int
 First:(List (Int×Int))
structure QaN where
 Name:ByteArray
 Colour:Int
structure Qo where
 Kind:Int
 Num:Int
 Kids:(List Qo)
structure Qaw where
 Place:Int
 Expr:Qo
structure QC where
 Name:ByteArray
 Vars:(List QaN)
 Guard:Qo
 Join:Int
 Split:Int
 Ins:(List Qaw)
 Outs:(List Qaw)
 Cancel:(List Int)
 After:Int
 Many:(Int×Int×Int)
structure Qj where
 Colours:(List QH)
 Places:(List QM)
 Tasks:(List QC)
 From:Int
 To:Int
structure Qm where
 Task:Int
 Vars:(List Int)
 Ins:(List Int)
 Outs:(List Int)
structure QS where
 From:Int
 To:Int
 Mode:Qm
structure Q2 where
 States:(List (List (List (Int×Int))))
 Edges:(List QS)
 Full:Bool
structure QV where
 net:Qj
 m:(List (List (Int×Int)))
 task:QC
 env:(List Int)
structure QaX where
 all:(List QH)
 sizes:(List Int)
 k:Int
structure QeZ where
 Kind:Int
 At:Int
def Qea (x:ByteArray):List V:=[.s x]
def Qe (x:Int):List V:=[.i .i64 x]
theorem QBu (l:List Int):∀r∈l.map Qe,∀v∈r,v.sca=true:=QDB (fun _=>rfl) l
def QBv (x:(List ByteArray)):List V:=[.sl 1 (x.map Qea)]
def Qr (x:QH):List V:=[.s x.Name,.i .i64 x.Kind,.i .i64 x.Lo,.i .i64 x.Hi,.sl 1 (x.Names.map Qea),.i .i64 x.First,.i .i64 x.Then]
def QtN (x:(List QH)):List V:=[.sl 7 (x.map Qr)]
def QI (x:(Int×Int)):List V:=[.i .i64 x.1,.i .i64 x.2]
def Qi (x:(List (Int×Int))):List V:=[.sl 2 (x.map QI)]
def Qp (x:QM):List V:=[.s x.Name,.i .i64 x.Colour,.sl 2 (x.First.map QI)]
def Qvp (x:(List QM)):List V:=[.sl 3 (x.map Qp)]
def QR (x:QaN):List V:=[.s x.Name,.i .i64 x.Colour]
def Qch (x:(List QaN)):List V:=[.sl 2 (x.map QR)]
mutual
def Qsx : Qo→List V
 | ⟨x0,x1,x2⟩=>[.i .i64 x0,.i .i64 x1,.sl 3 (Qbo x2)]
def Qbo : List Qo→List (List V)
 | []=>[]
 | e::es=>Qsx e::Qbo es
end
def Qq (x:Qo):List V:=[.i .i64 x.Kind,.i .i64 x.Num,.sl 3 (Qbo x.Kids)]
theorem Qya : ∀x:Qo,Qsx x=Qq x
 | ⟨x0,x1,x2⟩=>by rw [Qsx];rfl
theorem Qkw : ∀l:List Qo,Qbo l=l.map Qq
 | []=>by rw [Qbo];rfl
 | e::es=>by rw [Qbo,Qkw es,Qya];rfl
theorem Qkx (l:List Qo):(Qbo l).length=l.length:=by rw [Qkw,QgG]
theorem QeD {l:List Qo}{j:Int}{x:Qo}(h:idx l j=some x):0≤j∧(Qbo l)[j.toNat]? = some (Qq x):=by rw [Qkw];exact QT h
def Q5 (x:Qaw):List V:=[.i .i64 x.Place,.i .i64 x.Expr.Kind,.i .i64 x.Expr.Num,.sl 3 (Qbo x.Expr.Kids)]
def QBw (x:(List Qaw)):List V:=[.sl 4 (x.map Q5)]
def QK (x:(List Int)):List V:=[.sl 1 (x.map Qe)]
def Qxl (x:(Int×Int×Int)):List V:=[.i .i64 x.1,.i .i64 x.2.1,.i .i64 x.2.2]
def Qh (x:QC):List V:=[.s x.Name,.sl 2 (x.Vars.map QR),.i .i64 x.Guard.Kind,.i .i64 x.Guard.Num,.sl 3 (Qbo x.Guard.Kids),.i .i64 x.Join,.i .i64 x.Split,.sl 4 (x.Ins.map Q5),.sl 4 (x.Outs.map Q5),.sl 1 (x.Cancel.map Qe),.i .i64 x.After,.i .i64 x.Many.1,.i .i64 x.Many.2.1,.i .i64 x.Many.2.2]
def QAv (x:(List QC)):List V:=[.sl 14 (x.map Qh)]
def Qd (x:Qj):List V:=[.sl 7 (x.Colours.map Qr),.sl 3 (x.Places.map Qp),.sl 14 (x.Tasks.map Qh),.i .i64 x.From,.i .i64 x.To]
def Qu (x:(List (List (Int×Int)))):List V:=[.sl 1 (x.map Qi)]
def Qk (x:Qm):List V:=[.i .i64 x.Task,.sl 1 (x.Vars.map Qe),.sl 1 (x.Ins.map Qe),.sl 1 (x.Outs.map Qe)]
def QZ (x:QS):List V:=[.i .i64 x.From,.i .i64 x.To,.i .i64 x.Mode.Task,.sl 1 (x.Mode.Vars.map Qe),.sl 1 (x.Mode.Ins.map Qe),.sl 1 (x.Mode.Outs.map Qe)]
def QL (x:Q2):List V:=[.sl 1 (x.States.map Qu),.sl 6 (x.Edges.map QZ),.b x.Full]
def QaV (x:Int):List V:=[.i .u8 x]
def QX (x:(List (List Int))):List V:=[.sl 1 (x.map QK)]
def Qy (x:QV):List V:=[.sl 7 (x.net.Colours.map Qr),.sl 3 (x.net.Places.map Qp),.sl 14 (x.net.Tasks.map Qh),.i .i64 x.net.From,.i .i64 x.net.To,.sl 1 (x.m.map Qi),.s x.task.Name,.sl 2 (x.task.Vars.map QR),.i .i64 x.task.Guard.Kind,.i .i64 x.task.Guard.Num,.sl 3 (Qbo x.task.Guard.Kids),.i .i64 x.task.Join,.i .i64 x.task.Split,.sl 4 (x.task.Ins.map Q5),.sl 4 (x.task.Outs.map Q5),.sl 1 (x.task.Cancel.map Qe),.i .i64 x.task.After,.i .i64 x.task.Many.1,.i .i64 x.task.Many.2.1,.i .i64 x.task.Many.2.2,.sl 1 (x.env.map Qe)]
def Qaa (x:QaX):List V:=[.sl 7 (x.all.map Qr),.sl 1 (x.sizes.map Qe),.i .i64 x.k]
def QAw (x:(List Qm)):List V:=[.sl 4 (x.map Qk)]
def Qdo (x:QeZ):List V:=[.i .i64 x.Kind,.i .i64 x.At]
def Qf0 (fn:Nat):Qhd:=QD9 Tryz.f218 0 fn
def QaM (fn:Nat):Qhd:=QD9 Tryz.f65 0 fn
def QCF : Go.Shelf.Ren:=⟨fun | 20=>49 | n=>n,fun | 0=>0 | 3=>3 | 4=>4 | 22=>39 | n=>n,fun n=>n⟩
theorem QBx : Lays2.n20 Tryz.prog QCF where
 mixed:=by kernel_rfl
 f20:=Tryz.func49.trans (congrArg some (by kernel_rfl))
 t0:=Tryz.underlying0
 a0:=Tryz.isAgg0
 z0:=Tryz.sizeOf0
 v0:=Tryz.zeroValue0
 t3:=Tryz.underlying3
 a3:=Tryz.isAgg3
 z3:=Tryz.sizeOf3
 v3:=Tryz.zeroValue3
 t4:=Tryz.underlying4
 a4:=Tryz.isAgg4
 z4:=Tryz.sizeOf4
 v4:=Tryz.zeroValue4
 t22:=Tryz.underlying39
 a22:=Tryz.isAgg39
 z22:=Tryz.sizeOf39
 v22:=Tryz.zeroValue39
 i3:=by kernel_rfl
theorem QEe (a0 a1 a2 b0 b1 b2:Int):EqT Tryz.prog 101 [.int .i64 a0,.int .i64 a1,.int .i64 a2] [.int .i64 b0,.int .i64 b1,.int .i64 b2] ((a0==b0)&&((a1==b1)&&(a2==b2))):=by
 refine⟨by kernel_rfl,fun w=>?_⟩
 have u3:=Tryz.underlying3
 have g3:=Tryz.isAgg3
 have z3:=Tryz.sizeOf3
 show(Op.equalIn (9999+1) 101 (.agg #[.int .i64 a0,.int .i64 a1,.int .i64 a2]) (.agg #[.int .i64 b0,.int .i64 b1,.int .i64 b2])).run Tryz.prog w=_
 rw [Op.equalIn]
 simp only [Sem.run_bind,run_underlying Tryz.underlying101,Result.andThen_ok]
 simp only [Std.Legacy.Range.forIn_eq_forIn_range',Std.Legacy.Range.size,Nat.sub_zero,Nat.add_sub_cancel,Nat.div_one,List.range'_succ,List.range'_zero,List.forIn_cons,List.forIn_nil]
 go_simp
 by_cases h0:a0=b0<;>by_cases h1:a1=b1<;>by_cases h2:a2=b2<;>simp [h0,h1,h2]
theorem QEV (a0 a1 b0 b1:Int):EqT Tryz.prog 59 [.int .i64 a0,.int .i64 a1] [.int .i64 b0,.int .i64 b1] ((a0==b0)&&(a1==b1)):=by
 refine⟨by kernel_rfl,fun w=>?_⟩
 have u3:=Tryz.underlying3
 have g3:=Tryz.isAgg3
 have z3:=Tryz.sizeOf3
 show(Op.equalIn (9999+1) 59 (.agg #[.int .i64 a0,.int .i64 a1]) (.agg #[.int .i64 b0,.int .i64 b1])).run Tryz.prog w=_
 rw [Op.equalIn]
 simp only [Sem.run_bind,run_underlying Tryz.underlying59,Result.andThen_ok]
 simp only [Std.Legacy.Range.forIn_eq_forIn_range',Std.Legacy.Range.size,Nat.sub_zero,Nat.add_sub_cancel,Nat.div_one,List.range'_succ,List.range'_zero,List.forIn_cons,List.forIn_nil]
 go_simp
 by_cases h0:a0=b0<;>by_cases h1:a1=b1<;>simp [h0,h1]
theorem QDE : QtM Tryz.prog 96 1=some (1,false,1):=by kernel_rfl
theorem QDF : QtM Tryz.prog 96 2=some (2,false,1):=by kernel_rfl
def QCG : Go.Shelf.Ren:=⟨fun | 157=>274 | 199=>288 | 229=>287 | 261=>294 | 311=>297 | 312=>298 | n=>n,fun | 0=>0 | 3=>3 | 4=>4 | 5=>5 | 9=>9 | 21=>21 | 31=>94 | 40=>275 | 46=>125 | 49=>292 | 51=>175 | 119=>273 | 141=>284 | 152=>280 | 154=>282 | 193=>288 | 194=>289 | 196=>291 | 198=>294 | 201=>297 | 226=>299 | 227=>300 | n=>n,fun | 0=>0 | 6=>1 | n=>n⟩
theorem QBy : Lays.n157 Tryz.prog QCG where
 mixed:=by kernel_rfl
 f157:=Tryz.func274.trans (congrArg some (by kernel_rfl))
 f199:=Tryz.func288.trans (congrArg some (by kernel_rfl))
 f229:=Tryz.func287.trans (congrArg some (by kernel_rfl))
 f261:=Tryz.func294.trans (congrArg some (by kernel_rfl))
 f311:=Tryz.func297.trans (congrArg some (by kernel_rfl))
 f312:=Tryz.func298.trans (congrArg some (by kernel_rfl))
 t0:=Tryz.underlying0
 a0:=Tryz.isAgg0
 z0:=Tryz.sizeOf0
 v0:=Tryz.zeroValue0
 t3:=Tryz.underlying3
 a3:=Tryz.isAgg3
 z3:=Tryz.sizeOf3
 v3:=Tryz.zeroValue3
 t4:=Tryz.underlying4
 a4:=Tryz.isAgg4
 z4:=Tryz.sizeOf4
 v4:=Tryz.zeroValue4
 t5:=Tryz.underlying5
 a5:=Tryz.isAgg5
 z5:=Tryz.sizeOf5
 v5:=Tryz.zeroValue5
 t9:=Tryz.underlying9
 a9:=Tryz.isAgg9
 z9:=Tryz.sizeOf9
 v9:=Tryz.zeroValue9
 t21:=Tryz.underlying21
 a21:=Tryz.isAgg21
 z21:=Tryz.sizeOf21
 v21:=Tryz.zeroValue21
 t31:=Tryz.underlying94
 a31:=Tryz.isAgg94
 z31:=Tryz.sizeOf94
 v31:=Tryz.zeroValue94
 t40:=Tryz.underlying275
 a40:=Tryz.isAgg275
 z40:=Tryz.sizeOf275
 v40:=Tryz.zeroValue275
 t46:=Tryz.underlying125
 a46:=Tryz.isAgg125
 z46:=Tryz.sizeOf125
 v46:=Tryz.zeroValue125
 t49:=Tryz.underlying292
 a49:=Tryz.isAgg292
 z49:=Tryz.sizeOf292
 v49:=Tryz.zeroValue292
 t51:=Tryz.underlying175
 a51:=Tryz.isAgg175
 z51:=Tryz.sizeOf175
 v51:=Tryz.zeroValue175
 t119:=Tryz.underlying273
 a119:=Tryz.isAgg273
 z119:=Tryz.sizeOf273
 t141:=Tryz.underlying284
 a141:=Tryz.isAgg284
 z141:=Tryz.sizeOf284
 v141:=Tryz.zeroValue284
 t152:=Tryz.underlying280
 a152:=Tryz.isAgg280
 z152:=Tryz.sizeOf280
 v152:=Tryz.zeroValue280
 t154:=Tryz.underlying282
 a154:=Tryz.isAgg282
 z154:=Tryz.sizeOf282
 v154:=Tryz.zeroValue282
 t193:=Tryz.underlying288
 a193:=Tryz.isAgg288
 z193:=Tryz.sizeOf288
 v193:=Tryz.zeroValue288
 t194:=Tryz.underlying289
 a194:=Tryz.isAgg289
 z194:=Tryz.sizeOf289
 v194:=Tryz.zeroValue289
 t196:=Tryz.underlying291
 a196:=Tryz.isAgg291
 z196:=Tryz.sizeOf291
 v196:=Tryz.zeroValue291
 t198:=Tryz.underlying294
 a198:=Tryz.isAgg294
 z198:=Tryz.sizeOf294
 v198:=Tryz.zeroValue294
 t201:=Tryz.underlying297
 a201:=Tryz.isAgg297
 z201:=Tryz.sizeOf297
 v201:=Tryz.zeroValue297
 t226:=Tryz.underlying299
 a226:=Tryz.isAgg299
 z226:=Tryz.sizeOf299
 v226:=Tryz.zeroValue299
 t227:=Tryz.underlying300
 a227:=Tryz.isAgg300
 z227:=Tryz.sizeOf300
 v227:=Tryz.zeroValue300
 g0:=by kernel_rfl
 g6:=by kernel_rfl
theorem QtO : QtL Tryz.prog 177 .u64=true:=by kernel_rfl
theorem Qvz : QtL Tryz.prog 3 .i64=true:=by kernel_rfl
theorem QAx : QtL Tryz.prog 5 .u8=true:=by kernel_rfl
theorem Qdh : Qdv Tryz.prog 3 (V.i .i64) (Value.int .i64):=Qdv.int (by kernel_rfl)
theorem Qsy : Qdv Tryz.prog 9 V.s Value.string:=Qdv.str (by kernel_rfl)
theorem mixed : Tryz.prog.follows .mixedOrders=true:=by kernel_rfl
theorem QeN : Qi7 Tryz.prog 118=some (3,3):=by kernel_rfl
theorem Qy2 : Qi7 Tryz.prog 122=some (3,39):=by kernel_rfl
theorem Qpi : Qi7 Tryz.prog 197=some (9,4):=by kernel_rfl
theorem Qmw : Qi7 Tryz.prog 71=some (3,3):=by kernel_rfl
theorem QDr : Qi7 Tryz.prog 76=some (9,3):=by kernel_rfl
theorem QEW : Qxf Tryz.prog 39=true:=by kernel_rfl
def QCH : Go.Shelf.Ren:=⟨fun | 125=>74 | 128=>120 | 129=>121 | 189=>48 | 215=>163 | 216=>117 | 257=>73 | 294=>111 | 295=>112 | 296=>113 | 297=>114 | 298=>115 | 299=>116 | 300=>118 | 301=>119 | 328=>158 | 329=>159 | 330=>160 | 331=>161 | 332=>162 | 343=>219 | n=>n,fun | 0=>0 | 3=>3 | 4=>4 | 5=>5 | 9=>9 | 28=>39 | 46=>125 | 51=>175 | 53=>177 | 131=>73 | 182=>167 | 183=>168 | 218=>199 | 222=>203 | 228=>235 | 229=>236 | n=>n,fun n=>n⟩
theorem QBz : Lays.n189 Tryz.prog QCH where
 mixed:=by kernel_rfl
 f125:=Tryz.func74.trans (congrArg some (by kernel_rfl))
 f128:=Tryz.func120.trans (congrArg some (by kernel_rfl))
 f129:=Tryz.func121.trans (congrArg some (by kernel_rfl))
 f189:=Tryz.func48.trans (congrArg some (by kernel_rfl))
 f215:=Tryz.func163.trans (congrArg some (by kernel_rfl))
 f216:=Tryz.func117.trans (congrArg some (by kernel_rfl))
 f257:=Tryz.func73.trans (congrArg some (by kernel_rfl))
 f294:=Tryz.func111.trans (congrArg some (by kernel_rfl))
 f295:=Tryz.func112.trans (congrArg some (by kernel_rfl))
 f296:=Tryz.func113.trans (congrArg some (by kernel_rfl))
 f297:=Tryz.func114.trans (congrArg some (by kernel_rfl))
 f298:=Tryz.func115.trans (congrArg some (by kernel_rfl))
 f299:=Tryz.func116.trans (congrArg some (by kernel_rfl))
 f300:=Tryz.func118.trans (congrArg some (by kernel_rfl))
 f301:=Tryz.func119.trans (congrArg some (by kernel_rfl))
 f328:=Tryz.func158.trans (congrArg some (by kernel_rfl))
 f329:=Tryz.func159.trans (congrArg some (by kernel_rfl))
 f330:=Tryz.func160.trans (congrArg some (by kernel_rfl))
 f331:=Tryz.func161.trans (congrArg some (by kernel_rfl))
 f332:=Tryz.func162.trans (congrArg some (by kernel_rfl))
 f343:=Tryz.func219.trans (congrArg some (by kernel_rfl))
 t0:=Tryz.underlying0
 a0:=Tryz.isAgg0
 z0:=Tryz.sizeOf0
 v0:=Tryz.zeroValue0
 t3:=Tryz.underlying3
 a3:=Tryz.isAgg3
 z3:=Tryz.sizeOf3
 v3:=Tryz.zeroValue3
 t4:=Tryz.underlying4
 a4:=Tryz.isAgg4
 z4:=Tryz.sizeOf4
 v4:=Tryz.zeroValue4
 t5:=Tryz.underlying5
 a5:=Tryz.isAgg5
 z5:=Tryz.sizeOf5
 v5:=Tryz.zeroValue5
 t9:=Tryz.underlying9
 a9:=Tryz.isAgg9
 z9:=Tryz.sizeOf9
 v9:=Tryz.zeroValue9
 t28:=Tryz.underlying39
 a28:=Tryz.isAgg39
 z28:=Tryz.sizeOf39
 v28:=Tryz.zeroValue39
 t46:=Tryz.underlying125
 a46:=Tryz.isAgg125
 z46:=Tryz.sizeOf125
 v46:=Tryz.zeroValue125
 t51:=Tryz.underlying175
 a51:=Tryz.isAgg175
 z51:=Tryz.sizeOf175
 v51:=Tryz.zeroValue175
 t53:=Tryz.underlying177
 a53:=Tryz.isAgg177
 z53:=Tryz.sizeOf177
 v53:=Tryz.zeroValue177
 t131:=Tryz.underlying73
 a131:=Tryz.isAgg73
 z131:=Tryz.sizeOf73
 v131:=Tryz.zeroValue73
 t182:=Tryz.underlying167
 a182:=Tryz.isAgg167
 z182:=Tryz.sizeOf167
 v182:=Tryz.zeroValue167
 t183:=Tryz.underlying168
 a183:=Tryz.isAgg168
 z183:=Tryz.sizeOf168
 v183:=Tryz.zeroValue168
 t218:=Tryz.underlying199
 a218:=Tryz.isAgg199
 z218:=Tryz.sizeOf199
 v218:=Tryz.zeroValue199
 t222:=Tryz.underlying203
 a222:=Tryz.isAgg203
 z222:=Tryz.sizeOf203
 v222:=Tryz.zeroValue203
 t228:=Tryz.underlying235
 a228:=Tryz.isAgg235
 z228:=Tryz.sizeOf235
 v228:=Tryz.zeroValue235
 t229:=Tryz.underlying236
 a229:=Tryz.isAgg236
 z229:=Tryz.sizeOf236
 v229:=Tryz.zeroValue236
theorem QEf : Tryz.prog.underlying 145=some (.slice 39):=by kernel_rfl
theorem QBA : Tryz.prog.underlying 157=some (.slice 5):=by kernel_rfl
theorem QEX : Tryz.prog.underlying 38=some (.slice 61):=by kernel_rfl
theorem QEY : Tryz.prog.underlying 39=some (.slice 3):=by kernel_rfl
theorem QEZ : Tryz.prog.underlying 61=some (.slice 59):=by kernel_rfl
theorem Qk9 : QiQ Tryz.prog 3 ((V.i .i64) 0):=QiQ.one (v:=.int .i64 0) (by kernel_rfl)
theorem QE0 : QiQ Tryz.prog 39 ((fun x=>V.sl 1 (x.map Qe)) ([]:(List Int))):=QiQ.sl (by kernel_rfl)
theorem QCI : QiQ Tryz.prog 4 (V.b false):=QiQ.one (v:=.bool false) (by kernel_rfl)
theorem QFw : Qap Tryz.prog 3=some [.i .i64 0]:=by kernel_rfl
theorem QFx : Qap Tryz.prog 5=some [.i .u8 0]:=by kernel_rfl
theorem QFy : Qap Tryz.prog 9=some [.s (⟨#[]⟩:ByteArray)]:=by kernel_rfl
theorem QE1 : Qap Tryz.prog 26=some [.lit (.slice none 0 0),.lit (.slice none 0 0),.lit (.slice none 0 0),.i .i64 0,.i .i64 0]:=by kernel_rfl
theorem QE2 : Qap Tryz.prog 33=some [.lit (.slice none 0 0),.lit (.slice none 0 0),.b false]:=by kernel_rfl
theorem QE3 : Qap Tryz.prog 38=some [.lit (.slice none 0 0)]:=by kernel_rfl
theorem QDs : Qap Tryz.prog 39=some [.lit (.slice none 0 0)]:=by kernel_rfl
theorem QE4 : Qap Tryz.prog 41=some [.i .i64 0,.lit (.slice none 0 0),.lit (.slice none 0 0),.lit (.slice none 0 0)]:=by kernel_rfl
theorem QE5 : Qap Tryz.prog 43=some [.i .i64 0,.i .i64 0,.i .i64 0,.lit (.slice none 0 0),.lit (.slice none 0 0),.lit (.slice none 0 0)]:=by kernel_rfl
theorem QE6 : Qap Tryz.prog 44=some [.i .i64 0]:=by kernel_rfl
theorem QE7 : Qap Tryz.prog 48=some [.lit (.slice none 0 0)]:=by kernel_rfl
theorem QE8 : Qap Tryz.prog 59=some [.i .i64 0,.i .i64 0]:=by kernel_rfl
theorem QE9 : Qap Tryz.prog 61=some [.lit (.slice none 0 0)]:=by kernel_rfl
theorem QFa : Qap Tryz.prog 71=some [.lit (.map none)]:=by kernel_rfl
theorem QFb : Qap Tryz.prog 78=some [.lit (.slice none 0 0),.lit (.slice none 0 0),.lit (.slice none 0 0),.i .i64 0,.i .i64 0,.i .i64 0,.lit (.map none),.lit (.slice none 0 0),.lit (.slice none 0 0),.b false]:=by kernel_rfl
theorem QFc : Qap Tryz.prog 83=some [.s (⟨#[]⟩:ByteArray),.i .i64 0,.lit (.slice none 0 0)]:=by kernel_rfl
theorem QFd : Qap Tryz.prog 93=some [.i .i64 0,.i .i64 0,.lit (.slice none 0 0)]:=by kernel_rfl
theorem QFe : Qap Tryz.prog 96=some [.s (⟨#[]⟩:ByteArray),.i .i64 0,.i .i64 0,.i .i64 0,.lit (.slice none 0 0),.i .i64 0,.i .i64 0]:=by kernel_rfl
theorem QFf : Qap Tryz.prog 98=some [.i .i64 0,.i .i64 0,.i .i64 0,.lit (.slice none 0 0)]:=by kernel_rfl
theorem QEg : Qap Tryz.prog 101=some [.i .i64 0,.i .i64 0,.i .i64 0]:=by kernel_rfl
theorem QEh : Qap Tryz.prog 103=some [.s (⟨#[]⟩:ByteArray),.lit (.slice none 0 0),.i .i64 0,.i .i64 0,.lit (.slice none 0 0),.i .i64 0,.i .i64 0,.lit (.slice none 0 0),.lit (.slice none 0 0),.lit (.slice none 0 0),.i .i64 0,.i .i64 0,.i .i64 0,.i .i64 0]:=by kernel_rfl
theorem QEi : Qap Tryz.prog 107=some [.s (⟨#[]⟩:ByteArray),.i .i64 0]:=by kernel_rfl
theorem QEj : Qap Tryz.prog 128=some [.i .i64 0,.i .i64 0]:=by kernel_rfl
theorem QEk : Qap Tryz.prog 135=some [.lit (.slice none 0 0),.lit (.slice none 0 0),.lit (.slice none 0 0),.i .i64 0,.i .i64 0,.lit (.slice none 0 0),.s (⟨#[]⟩:ByteArray),.lit (.slice none 0 0),.i .i64 0,.i .i64 0,.lit (.slice none 0 0),.i .i64 0,.i .i64 0,.lit (.slice none 0 0),.lit (.slice none 0 0),.lit (.slice none 0 0),.i .i64 0,.i .i64 0,.i .i64 0,.i .i64 0,.lit (.slice none 0 0)]:=by kernel_rfl
theorem QEl : Qap Tryz.prog 145=some [.lit (.slice none 0 0)]:=by kernel_rfl
theorem QnV : Qap Tryz.prog 180=some [.lit (.nilFunc),.i .i64 0]:=by kernel_rfl
theorem QEm : Qap Tryz.prog 211=some [.lit (.nilFunc)]:=by kernel_rfl
theorem QEn : Qap Tryz.prog 216=some [.lit (.nilFunc)]:=by kernel_rfl
theorem QEo : Qap Tryz.prog 225=some [.lit (.slice none 0 0),.lit (.slice none 0 0),.i .i64 0]:=by kernel_rfl
theorem QEp : Qap Tryz.prog 245=some [.lit (.nilFunc)]:=by kernel_rfl
def tab : Tab:={ ag:=[(3,false),(4,false),(9,false),(22,false),(23,false),(24,false),(26,true),(27,false),(30,false),(31,false),(33,true),(38,false),(39,false),(41,true),(43,true),(44,false),(48,false),(59,true),(61,false),(71,false),(76,false),(83,true),(91,false),(93,true),(94,false),(96,true),(98,true),(99,false),(100,false),(101,true),(103,true),(107,true),(118,false),(128,true),(135,true),(138,false),(145,false),(180,true),(211,false),(216,false),(219,false),(225,true),(245,false)],sz:=[(3,1),(4,1),(26,5),(30,1),(31,1),(33,3),(38,1),(39,1),(41,4),(43,6),(44,1),(48,1),(59,2),(61,1),(71,1),(83,3),(93,3),(96,7),(98,4),(101,3),(103,14),(107,2),(128,2),(135,21),(145,1),(180,2),(211,1),(216,1),(225,3),(245,1)],fo:=[(26,[0,1,2,3,4]),(33,[0,1,2]),(41,[0,1,2,3]),(43,[0,1,2]),(78,[0,5,6,7]),(83,[0,1,2]),(93,[0,1,2]),(96,[0,1,2,3,4,5,6]),(98,[0,1]),(103,[0,1,2,5,6,7,8,9,10,11]),(107,[0,1]),(135,[0,5,6,20]),(180,[0,1]),(225,[0,1,2])],sp:=[(26,[(0,1),(1,1),(2,1),(3,1),(4,1)]),(33,[(0,1),(1,1),(2,1)]),(41,[(0,1),(1,1),(2,1),(3,1)]),(43,[(0,1),(1,1),(2,4)]),(78,[(0,5),(5,1),(6,1),(7,3)]),(83,[(0,1),(1,1),(2,1)]),(93,[(0,1),(1,1),(2,1)]),(96,[(0,1),(1,1),(2,1),(3,1),(4,1),(5,1),(6,1)]),(98,[(0,1),(1,3)]),(103,[(0,1),(1,1),(2,3),(5,1),(6,1),(7,1),(8,1),(9,1),(10,1),(11,3)]),(128,[(0,1),(1,1)]),(135,[(0,5),(5,1),(6,14),(20,1)]),(180,[(0,1),(1,1)]),(225,[(0,1),(1,1),(2,1)])],es:=[(22,(96,7,80)),(23,(83,3,48)),(24,(103,14,200)),(30,(38,1,24)),(31,(43,6,96)),(38,(61,1,24)),(39,(3,1,8)),(48,(41,4,80)),(61,(59,2,16)),(91,(93,3,40)),(94,(9,1,16)),(99,(98,4,48)),(100,(107,2,24)),(145,(39,1,24)),(157,(5,1,1)),(205,(180,2,16)),(230,(3,1,8))],ar:=[(59,(2,1)),(101,(3,1))],zv:=[(3,[.i .i64 0]),(5,[.i .u8 0]),(9,[.s (⟨#[]⟩:ByteArray)]),(26,[.lit (.slice none 0 0),.lit (.slice none 0 0),.lit (.slice none 0 0),.i .i64 0,.i .i64 0]),(33,[.lit (.slice none 0 0),.lit (.slice none 0 0),.b false]),(38,[.lit (.slice none 0 0)]),(39,[.lit (.slice none 0 0)]),(41,[.i .i64 0,.lit (.slice none 0 0),.lit (.slice none 0 0),.lit (.slice none 0 0)]),(43,[.i .i64 0,.i .i64 0,.i .i64 0,.lit (.slice none 0 0),.lit (.slice none 0 0),.lit (.slice none 0 0)]),(44,[.i .i64 0]),(48,[.lit (.slice none 0 0)]),(59,[.i .i64 0,.i .i64 0]),(61,[.lit (.slice none 0 0)]),(71,[.lit (.map none)]),(78,[.lit (.slice none 0 0),.lit (.slice none 0 0),.lit (.slice none 0 0),.i .i64 0,.i .i64 0,.i .i64 0,.lit (.map none),.lit (.slice none 0 0),.lit (.slice none 0 0),.b false]),(83,[.s (⟨#[]⟩:ByteArray),.i .i64 0,.lit (.slice none 0 0)]),(93,[.i .i64 0,.i .i64 0,.lit (.slice none 0 0)]),(96,[.s (⟨#[]⟩:ByteArray),.i .i64 0,.i .i64 0,.i .i64 0,.lit (.slice none 0 0),.i .i64 0,.i .i64 0]),(98,[.i .i64 0,.i .i64 0,.i .i64 0,.lit (.slice none 0 0)]),(101,[.i .i64 0,.i .i64 0,.i .i64 0]),(103,[.s (⟨#[]⟩:ByteArray),.lit (.slice none 0 0),.i .i64 0,.i .i64 0,.lit (.slice none 0 0),.i .i64 0,.i .i64 0,.lit (.slice none 0 0),.lit (.slice none 0 0),.lit (.slice none 0 0),.i .i64 0,.i .i64 0,.i .i64 0,.i .i64 0]),(107,[.s (⟨#[]⟩:ByteArray),.i .i64 0]),(128,[.i .i64 0,.i .i64 0]),(135,[.lit (.slice none 0 0),.lit (.slice none 0 0),.lit (.slice none 0 0),.i .i64 0,.i .i64 0,.lit (.slice none 0 0),.s (⟨#[]⟩:ByteArray),.lit (.slice none 0 0),.i .i64 0,.i .i64 0,.lit (.slice none 0 0),.i .i64 0,.i .i64 0,.lit (.slice none 0 0),.lit (.slice none 0 0),.lit (.slice none 0 0),.i .i64 0,.i .i64 0,.i .i64 0,.i .i64 0,.lit (.slice none 0 0)]),(145,[.lit (.slice none 0 0)]),(180,[.lit (.nilFunc),.i .i64 0]),(211,[.lit (.nilFunc)]),(216,[.lit (.nilFunc)]),(225,[.lit (.slice none 0 0),.lit (.slice none 0 0),.i .i64 0]),(245,[.lit (.nilFunc)])],sb:=[9],bo:=[4],cc:=[],en:=[7,8,9,10,12,13,14,15,16,17,18,19,20,21,22,23,24,25,26,27,30,31,32,33,34,35,36,37,38,39,40,41,42,43,44,45,46,47,48,49,50,51,52,58,59,60,61,62,63,64,65,66,67,68,69,70,71,72,75,76,77,78,79,89,90,91,92,93,94,95,96,97,98,99,100,101,102,103,104,105,106,107,108,109,110,122,123,124,125,126,127,128,129,130,131,132,133,134,135,144,145,146,147,148,149,150,151,152,153,154,155,156,157,164,165,166,167,168,169,170,171,172,173,174,175,176,177,178,179,180,181,182,183,184,185,186,187,188,189,190,191,192,193,194,195,196,197,198,199,200,213,214,215,216,217,218,220,221,222,223,224,225,226,227,228,229,230,231,232,233,234,235,236,237,238,239,240,241,242,243,244,245,246,252,253,254,255,256,257,258,259,260,261,268,269,270,271,272,273,274,275,276,277,285,286,289,290,291,292,293,295,296] }
theorem Qs : Qdw Tryz.prog tab:=Tab.ok (by kernel_rfl) (Qcb.2 ⟨QFw,Qcb.2 ⟨QFx,Qcb.2 ⟨QFy,Qcb.2 ⟨QE1,Qcb.2 ⟨QE2,Qcb.2 ⟨QE3,Qcb.2 ⟨QDs,Qcb.2 ⟨QE4,Qcb.2 ⟨QE5,Qcb.2 ⟨QE6,Qcb.2 ⟨QE7,Qcb.2 ⟨QE8,Qcb.2 ⟨QE9,Qcb.2 ⟨QFa,Qcb.2 ⟨QFb,Qcb.2 ⟨QFc,Qcb.2 ⟨QFd,Qcb.2 ⟨QFe,Qcb.2 ⟨QFf,Qcb.2 ⟨QEg,Qcb.2 ⟨QEh,Qcb.2 ⟨QEi,Qcb.2 ⟨QEj,Qcb.2 ⟨QEk,Qcb.2 ⟨QEl,Qcb.2 ⟨QnV,Qcb.2 ⟨QEm,Qcb.2 ⟨QEn,Qcb.2 ⟨QEo,Qcb.2 ⟨QEp,fun _ h=>(by cases h)⟩⟩⟩⟩⟩⟩⟩⟩⟩⟩⟩⟩⟩⟩⟩⟩⟩⟩⟩⟩⟩⟩⟩⟩⟩⟩⟩⟩⟩⟩)
theorem Qa {C:Ctx}{Q:Exit→St→Prop}{n:Nat}{pt pt1:Pt}{ks ks1:List Fr}{σ σ1:St}{φ:Prop}(hC:QeY Tryz.prog C n)(ds:List Dir)(e:Vm.go Tryz.prog C tab n ds pt ks σ True=some ⟨pt1,ks1,σ1,φ⟩)(hφ:φ)(h:AK Tryz.prog C Q pt1 ks1 σ1):AK Tryz.prog C Q pt ks σ:=AK.go Qs hC ds e hφ h
abbrev QBg := List (Int×Int)
abbrev QMk := List QBg
abbrev QLL := List (List Int)
abbrev QSB := List (ByteArray×Bool)
theorem tt_ : True:=trivial
theorem an_ {a b:Prop}(x:a)(y:b):a∧b:=⟨x,y⟩
theorem ex_ {α:Sort _}{p:α→Prop}(w:α)(h:p w):∃x,p x:=⟨w,h⟩
end Go.Proofs
namespace Go.Vm
open Go Go.RowKit
noncomputable abbrev Dir.K (a b:List Nat):Dir:=.keep a b
noncomputable abbrev Dir.S (a:Nat)(b:V):Dir:=.say a b
noncomputable abbrev Dir.O (a:Nat)(b:Ob):Dir:=.sayO a b
noncomputable abbrev Dir.T:Dir:=.br true
noncomputable abbrev Dir.F:Dir:=.br false
noncomputable abbrev Dw.N:Dw:=.a .no none false
noncomputable abbrev V.I (n:Int):V:=.i .i64 n
end Go.Vm
namespace Go.Proofs
open Go Go.RowKit Go.Vm Go.Proofs.Tryz
theorem bg_ {α:Type}{c:Bool}{x y:Option α}{r:α}{G:Prop}(h:(bif c then x else y)=some r)(f:c=true→x=some r→G)(g:c=false→y=some r→G):G:=by
 cases c
 ·exact g rfl h
 exact f rfl h
theorem cb_ {a b:Bool}(h:a=b):V.b a=V.b b:=congrArg V.b h
theorem tc_ {a b:Bool}(h:a=b):True∧V.b a=V.b b:=⟨trivial,congrArg V.b h⟩
def QEq : Exit→Bool
 | .normal=>true
 | .ret=>true
 | _=>false
theorem d1_ {C:Ctx}{t:Nat}{r:V}{outs:List (Nat×Ob)}{σ:St}{e:Exit}(he:QEq e=true)(h:Go.Vm.look σ.fr t=some r)(hs:Qhe σ.hp outs):AK Tryz.prog C (Qyz Tryz.prog [.tmp t] (Gives r outs)) (.x e) [] σ:=by
 cases e<;>first | exact AK.done ⟨[r],⟨h,trivial⟩,gives hs⟩|cases he
theorem d2_ {C:Ctx}{t u:Nat}{r s:V}{outs:List (Nat×Ob)}{σ:St}{e:Exit}(he:QEq e=true)(h:Go.Vm.look σ.fr t=some r)(k:Go.Vm.look σ.fr u=some s)(hs:Qhe σ.hp outs):AK Tryz.prog C (Qyz Tryz.prog [.tmp t,.tmp u] (Gives (.tup [r,s]) outs)) (.x e) [] σ:=by
 cases e<;>first | exact AK.done ⟨[r,s],⟨h,k,trivial⟩,gives hs⟩|cases he
theorem tg_ {C:Ctx}{Q:Exit→St→Prop}{n:Nat}{pt pt1:Pt}{ks ks1:List Fr}{σ σ1:St}(hC:QeY Tryz.prog C n)(ds:List Dir)(e:Vm.go Tryz.prog C tab n ds pt ks σ True=some ⟨pt1,ks1,σ1,True⟩)(h:AK Tryz.prog C Q pt1 ks1 σ1):AK Tryz.prog C Q pt ks σ:=AK.go Qs hC ds e trivial h
theorem QaW {c:Bool}{β:Type}{f:Unit→Option β}{r:β}(h:(chk c).bind f=some r):c=true∧f ()=some r:=by
 obtain⟨_,k,h⟩:=Qb h
 exact⟨QyC k,h⟩
abbrev QFz (a0 a1:V):List V:=[.J,.J,a0,.J,.J,.J,.J,a1,.J,.J,.J,.J,.J]
abbrev Qq8 (a0:V):List V:=[.J,.J,a0,.J,.J,.J,.J,.J,.J,.J,.J,.J,.J]
abbrev QFA (a0 a1 a2 a3 a4 a5 a6 a7 a8:V):List V:=[.J,.J,.J,.J,a0,a1,a2,a3,a4,.J,a5,a6,a7,.J,.J,.J,.J,.J,.J,.J,.J,.J,.J,.J,.J,.J,.J,.J,.J,.J,.J,.J,.J,.J,.J,.J,.J,.J,.J,.J,.J,.J,.J,.J,.J,.J,.J,.J,.J,.J,.J,.J,.J,.J,a8,.J,.J,.J,.J,.J,.J,.J,.J,.J,.J,.J,.J,.J,.J,.J,.J,.J,.J,.J,.J,.J,.J,.J,.J,.J,.J,.J,.J,.J,.J,.J,.J,.J,.J,.J,.J,.J,.J,.J,.J,.J,.J,.J,.J,.J,.J,.J,.J,.J,.J,.J,.J,.J,.J]
abbrev Qd8 (a0 a1 a2 a3 a4 a5 a6 a7:V):List V:=[.J,.J,.J,.J,a0,a1,a2,a3,a4,.J,a5,a6,a7,.J,.J,.J,.J,.J,.J,.J,.J,.J,.J,.J,.J,.J,.J,.J,.J,.J,.J,.J,.J,.J,.J,.J,.J,.J,.J,.J,.J,.J,.J,.J,.J,.J,.J,.J,.J,.J,.J,.J,.J,.J,.J,.J,.J,.J,.J,.J,.J,.J,.J,.J,.J,.J,.J,.J,.J,.J,.J,.J,.J,.J,.J,.J,.J,.J,.J,.J,.J,.J,.J,.J,.J,.J,.J,.J,.J,.J,.J,.J,.J,.J,.J,.J,.J,.J,.J,.J,.J,.J,.J,.J,.J,.J,.J,.J,.J]
def Qvq  : Option Qj:=
 some (Qj.mk ([(QH.mk (⟨#[110]⟩:ByteArray) 2 0 0 ([(⟨#[107]⟩:ByteArray)]:List ByteArray) 0 0)]:List QH) ([(QM.mk (⟨#[97]⟩:ByteArray) 0 ([]:QBg)),(QM.mk (⟨#[98]⟩:ByteArray) 0 ([]:QBg))]:List QM) ([(QC.mk (⟨#[116]⟩:ByteArray) ([]:(List QaN)) (Qo.mk 1 1 ([]:(List Qo))) 1 1 ([(Qaw.mk 0 (Qo.mk 1 0 ([]:(List Qo))))]:List Qaw) ([(Qaw.mk 1 (Qo.mk 1 0 ([]:(List Qo))))]:List Qaw) ([]:(List Int)) 0 (0,0,0))]:List QC) 0 1)
theorem Qxm  {r:Qj}(h:Qvq  = some r):Qc prog 21 [] [] (Gives (.agg (Qd r)) []):=by
 refine Qc.walk 21 func21 rfl rfl rfl fun C hC=>?_
 refine Qa hC [.n 7,.v .no [none,none,some 3] (.agg (Qq (Qo.mk 1 0 ([]:(List Qo))))),.n 2,.O 1 (.var (Qq (Qo.mk 1 0 ([]:(List Qo))))),.n 4,.v .no [none,none,some 3] (.agg (Qq (Qo.mk 1 1 ([]:(List Qo))))),.n 2,.O 2 (.var (Qq (Qo.mk 1 1 ([]:(List Qo))))),.n 4,.v (.bd []) [] (.sl 1 (([(⟨#[107]⟩:ByteArray)]:List ByteArray).map Qea)),.v .no [] (.agg (Qr (QH.mk (⟨#[110]⟩:ByteArray) 2 0 0 ([(⟨#[107]⟩:ByteArray)]:List ByteArray) 0 0))),.v (.bd []) [] (.sl 7 (([(QH.mk (⟨#[110]⟩:ByteArray) 2 0 0 ([(⟨#[107]⟩:ByteArray)]:List ByteArray) 0 0)]:List QH).map Qr)),.v .no [none,none,some 2] (.agg (Qp (QM.mk (⟨#[97]⟩:ByteArray) 0 ([]:QBg)))),.v .no [none,none,some 2] (.agg (Qp (QM.mk (⟨#[98]⟩:ByteArray) 0 ([]:QBg)))),.v (.bd []) [] (.sl 3 (([(QM.mk (⟨#[97]⟩:ByteArray) 0 ([]:QBg)),(QM.mk (⟨#[98]⟩:ByteArray) 0 ([]:QBg))]:List QM).map Qp)),.v .no [] (.agg (Qq (Qo.mk 1 1 ([]:(List Qo))))),.v .no [] (.agg (Qq (Qo.mk 1 0 ([]:(List Qo))))),.v .no [] (.agg (Q5 (Qaw.mk 0 (Qo.mk 1 0 ([]:(List Qo)))))),.v (.bd []) [] (.sl 4 (([(Qaw.mk 0 (Qo.mk 1 0 ([]:(List Qo))))]:List Qaw).map Q5)),.v .no [] (.agg (Qq (Qo.mk 1 0 ([]:(List Qo))))),.v .no [] (.agg (Q5 (Qaw.mk 1 (Qo.mk 1 0 ([]:(List Qo)))))),.v (.bd []) [] (.sl 4 (([(Qaw.mk 1 (Qo.mk 1 0 ([]:(List Qo))))]:List Qaw).map Q5)),.v .no [none,some 2,none,none,none,none,none,none,none,some 1,none,none,none,none] (.agg (Qh (QC.mk (⟨#[116]⟩:ByteArray) ([]:(List QaN)) (Qo.mk 1 1 ([]:(List Qo))) 1 1 ([(Qaw.mk 0 (Qo.mk 1 0 ([]:(List Qo))))]:List Qaw) ([(Qaw.mk 1 (Qo.mk 1 0 ([]:(List Qo))))]:List Qaw) ([]:(List Int)) 0 (0,0,0)))),.v (.bd []) [] (.sl 14 (([(QC.mk (⟨#[116]⟩:ByteArray) ([]:(List QaN)) (Qo.mk 1 1 ([]:(List Qo))) 1 1 ([(Qaw.mk 0 (Qo.mk 1 0 ([]:(List Qo))))]:List Qaw) ([(Qaw.mk 1 (Qo.mk 1 0 ([]:(List Qo))))]:List Qaw) ([]:(List Int)) 0 (0,0,0))]:List QC).map Qh)),.v .no [] (.agg (Qd (Qj.mk ([(QH.mk (⟨#[110]⟩:ByteArray) 2 0 0 ([(⟨#[107]⟩:ByteArray)]:List ByteArray) 0 0)]:List QH) ([(QM.mk (⟨#[97]⟩:ByteArray) 0 ([]:QBg)),(QM.mk (⟨#[98]⟩:ByteArray) 0 ([]:QBg))]:List QM) ([(QC.mk (⟨#[116]⟩:ByteArray) ([]:(List QaN)) (Qo.mk 1 1 ([]:(List Qo))) 1 1 ([(Qaw.mk 0 (Qo.mk 1 0 ([]:(List Qo))))]:List Qaw) ([(Qaw.mk 1 (Qo.mk 1 0 ([]:(List Qo))))]:List Qaw) ([]:(List Int)) 0 (0,0,0))]:List QC) 0 1))),.n 1,.O 0 (.var (Qd (Qj.mk ([(QH.mk (⟨#[110]⟩:ByteArray) 2 0 0 ([(⟨#[107]⟩:ByteArray)]:List ByteArray) 0 0)]:List QH) ([(QM.mk (⟨#[97]⟩:ByteArray) 0 ([]:QBg)),(QM.mk (⟨#[98]⟩:ByteArray) 0 ([]:QBg))]:List QM) ([(QC.mk (⟨#[116]⟩:ByteArray) ([]:(List QaN)) (Qo.mk 1 1 ([]:(List Qo))) 1 1 ([(Qaw.mk 0 (Qo.mk 1 0 ([]:(List Qo))))]:List Qaw) ([(Qaw.mk 1 (Qo.mk 1 0 ([]:(List Qo))))]:List Qaw) ([]:(List Int)) 0 (0,0,0))]:List QC) 0 1))),.n 3,.K [0] [0]] rfl ⟨⟨⟨⟨⟨⟨⟨⟨⟨⟨⟨⟨⟨⟨⟨⟨⟨⟨⟨⟨⟨tt_,rfl⟩,rfl⟩,rfl⟩,rfl⟩,rfl⟩,rfl⟩,rfl⟩,rfl⟩,rfl⟩,rfl⟩,rfl⟩,rfl⟩,rfl⟩,rfl⟩,rfl⟩,rfl⟩,rfl⟩,rfl⟩,rfl⟩,rfl⟩,rfl⟩ ?_
 cases h
 exact AK.done (ex_ [_] (an_ (an_ (ex_ _ (ex_ _ (an_ rfl (an_ rfl (Or.inl (an_ (Qs.ag rfl) (an_ (Qs.sz rfl) rfl))))))) tt_) (gives tt_)))
def QaZ (a:QBg):Option QBg:=
 (chk (decide (([]:List (Int×Int)).length+a.length≤4294967296))).bind fun _=>
 some (([]:List (Int×Int))++a)
theorem Qgr (a){r}(h:QaZ a=some r):Qc prog 42 [.sl 2 (a.map QI)] [] (Gives (.own 600 r.length) [(600,.arr 2 (r.map QI))]):=by
 refine Qc.walk 8 func42 rfl rfl rfl fun C hC=>?_
 unfold QaZ at h
 refine tg_ hC [.n 9] rfl ?_
 refine AK.eqNil rfl rfl rfl (QN hC.n rfl) rfl rfl QEZ ?_ ?_
 ·intro b
  replace h:some ([]:List (Int×Int))=some r:=by simpa [chk,List.map_eq_nil_iff.1 b] using h
  refine Qa hC [.n 10,.adopt 2 600 2,.O 600 (.arr 2 (([]:List (Int×Int)).map QI)),.S 2 (.own 600 ([]:List (Int×Int)).length)] rfl ⟨⟨tt_,rfl⟩,rfl⟩ ?_
  cases h
  exact d1_ rfl rfl ⟨rfl,tt_⟩
 obtain⟨c,h⟩:=QaW h
 refine Qa hC [.n 8,.O 5 (.arr 2 (([]:List (Int×Int)).map QI)),.S 5 (.own 5 ([]:List (Int×Int)).length),.n 1,.app ((([]:List (Int×Int))++a).map QI) (([]:List (Int×Int))++a).length,.n 4,.K [2] [5],.ren 5 600] rfl ⟨⟨⟨tt_,rfl⟩,rfl⟩,⟨Qf,QbP c Qf,QaY,QcN Qf⟩⟩ ?_
 cases h
 exact d1_ rfl rfl ⟨rfl,tt_⟩
def QdM (a:QBg):Option Unit:=
 some ()
theorem Qlo (a){r}(h:QdM a=some r):Qc prog 110 [.map 617] [(617,.map (QA V.I V.I a))] (Gives (.clo (.func 157) [] [.loc 1 0 0]) [(1,.var [.map 617]),(617,.map (QA V.I V.I a))]):=by
 refine Qc.walk 4 func110 rfl rfl rfl fun C hC=>?_
 refine tg_ hC [.n 13] rfl ?_
 cases h
 exact d1_ rfl rfl ⟨rfl,rfl,tt_⟩
def QcO (a:(List Int))(b:Int):Option (List Int):=
 (chk (decide (a.length+([b]:List Int).length≤4294967296))).bind fun _=>
 some (a++([b]:List Int))
theorem Qja (lpl lpf:Nat)(a:(List Int))(c:Int){r:(List Int)}(h:QcO a c=some r):QnU prog lpl (Qf0 lpf) (QFz (.loc 618 0 0) (.I c)) [(617,.lp lpl (Qf0 lpf) (Qq8 (.loc 618 0 0)) 0),(618,.var [.own 615 a.length]),(615,.arr 1 (a.map Qe))] (Gives (.b true) [(615,.arr 1 (r.map Qe)),(617,.lp lpl (Qf0 lpf) (Qq8 (.loc 618 0 0)) 0),(618,.var [.own 615 r.length])]):=by
 refine QnU.walk (b:=617) 13 rfl rfl fun C hC=>?_
 refine tg_ hC [.n 3] rfl ?_
 refine AK.done (an_ rfl (ex_ _ (an_ rfl ?_)))
 obtain⟨d,h⟩:=QaW h
 refine Qa hC [.n 4,.v (.bd []) [] (.sl 1 (([c]:List Int).map Qe)),.app ((a++([c]:List Int)).map Qe) (a++([c]:List Int)).length,.n 1,.O 618 (.var [.own 615 (a++([c]:List Int)).length]),.n 2,.K [] [615,617,618]] rfl ⟨⟨⟨tt_,rfl⟩,⟨Qf,QbP d Qf,QaY,QcN Qf⟩⟩,rfl⟩ ?_
 cases h
 refine AK.done ?_
 exact ex_ _ (an_ rfl (gives ⟨rfl,rfl,rfl,tt_⟩))
theorem Qky (lpl lpf:Nat)(a:(List Int))(c:QBg)(hlen:a.length+c.length≤4294967296):Qc prog 157 [.clo (.yield lpl) [] [],.loc 619 0 0] [(617,.lp lpl (Qf0 lpf) (Qq8 (.loc 618 0 0)) 0),(618,.var [.own 615 a.length]),(615,.arr 1 (a.map Qe)),(619,.var [.map 620]),(620,.map (QA V.I V.I c))] (fun v hs=>∃r:List Int,r.Perm (a++c.map Prod.fst)∧Gives (.tup []) [(615,.arr 1 (r.map Qe)),(617,.lp lpl (Qf0 lpf) (Qq8 (.loc 618 0 0)) 0),(618,.var [.own 615 r.length]),(619,.var [.map 620]),(620,.map (QA V.I V.I c))] v hs):=by
 refine Qc.walk 14 func157 rfl rfl rfl fun C hC=>?_
 refine tg_ hC [.n 3] rfl ?_
 refine AK.openMap (b:=620) Qdh rfl fun i j L4 l o=>?_
 refine Qa hC [.x (fun σ=>(σ.set 5 (.itr i j #[] none)).put 5 (.loc 5 0 0)),.n 3,.K [0,5] [5,615,617,618,619,620]] rfl ⟨tt_,(Stp.range (b:=620) rfl rfl (QN hC.n rfl) rfl rfl QeN rfl)⟩ ?_
 have hL0:Qbn L4 #[]=L4:=by simp [Qbn]
 have w:(a++(Qbn L4 #[]).map (fun q=>q.2.1)).Perm (a++c.map Prod.fst):=by
  rw [hL0]
  refine List.Perm.append_left a ?_
  have:=o.map Prod.fst
  rwa [List.map_map]at this
 refine AK.range (body:=QAs) (fun (_:Nat) seen σ=>∃(cur:Option MapEntry) (st:List Int),(st++(Qbn L4 seen).map (fun q=>q.2.1)).Perm (a++c.map Prod.fst)∧σ=⟨[(0,.clo (.yield lpl) [] []),(5,.loc 5 0 0)],[(5,.itr i j seen cur),(615,.arr 1 (st.map Qe)),(617,.lp lpl (Qf0 lpf) (Qq8 (.loc 618 0 0)) 0),(618,.var [.own 615 st.length]),(619,.var [.map 620]),(620,.mapX i j (QhG V.I V.I L4) (QA V.I V.I c))]⟩) (fun (q:Empty) _ _=>False) (fun _ e σ=>∃st:List Int,st.Perm (a++c.map Prod.fst)∧e=.exit 0∧σ=⟨[],[(615,.arr 1 (st.map Qe)),(617,.lp lpl (Qf0 lpf) (Qq8 (.loc 618 0 0)) 0),(618,.var [.own 615 st.length]),(619,.var [.map 620]),(620,.mapX i j (QhG V.I V.I L4) (QA V.I V.I c))]⟩) l o (QBt c 0) (ex_ _ (ex_ a (an_ w rfl))) ?_ ?_
 ·rintro A seen σ ⟨cur,k,hpp,rfl⟩ hex
  refine tg_ hC [.n 2] rfl ?_
  refine AK.nextT (b:=5) (m:=620) rfl rfl rfl (QN hC.n rfl) rfl rfl rfl rfl ?_ ?_
  ·intro hleft
   refine tg_ hC [.n 7,.K [] [615,617,618,619,620]] rfl ?_
   exact AK.done (Or.inl (an_ hleft (an_ (fun h=>(by cases h)) (ex_ k (an_ (by simpa [hleft] using hpp) (an_ rfl rfl))))))
  intro y u B s
  have hpk:=(Qsn l s).map (fun q=>q.2.1)
  have t:((k++[u])++(Qbn L4 (seen.push y.born)).map (fun q=>q.2.1)).Perm (a++c.map Prod.fst):=List.Perm.trans (by simpa using (List.Perm.append_left k hpk).symm) hpp
  have z:k.length+([u]:List Int).length≤4294967296:=by
   have:=t.length_eq
   simp at this ⊢
   omega
  have p:QcO k u=some (k++[u]):=by
   unfold QcO
   rw [QbW z];rfl
  obtain⟨f,hxe⟩:∃x,x=k++[u]:=⟨_,rfl⟩
  rw [←hxe]at p t
  refine Qa hC [.n 10,.x (fun σ=>σ.put 8 (.tup [.I u,.I B])),.n 8,.x (fun σ=>(σ.after [615] [(615,.arr 1 (f.map Qe)),(617,.lp lpl (Qf0 lpf) (Qq8 (.loc 618 0 0)) 0),(618,.var [.own 615 f.length])]).put 12 (.b true)),.n 6,.K [0,5] [5,615,617,618,619,620]] rfl ⟨⟨tt_,(Stp.entryT (b:=5) (m:=620) rfl rfl (QN hC.n rfl) rfl s rfl rfl)⟩,(Stp.yieldV (b:=617) (M:=[(617,617),(618,618),(615,615)]) (N:=[(615,615),(617,617),(618,618)]) (dead:=[615]) (ms:=[.d,.d,.d,.d,.d,.d,.d,.d,.d,.d,.d,.d,.d]) (outs:=[(615,.arr 1 (f.map Qe)),(617,.lp lpl (Qf0 lpf) (Qq8 (.loc 618 0 0)) 0),(618,.var [.own 615 f.length])]) (r:=.b true) rfl rfl rfl rfl rfl rfl rfl (QN hC.n rfl) hC.g rfl rfl (Qja _ _ _ _ p))⟩ ?_
  exact AK.done (Or.inr (ex_ _ (an_ s (Or.inl (ex_ (A+1) (an_ rfl (an_ rfl (ex_ _ (ex_ f (an_ t rfl))))))))))
 rintro e σ ⟨k,hpp,rfl,rfl⟩
 refine tg_ hC [.n 1] rfl ?_
 refine AK.closeMap (b:=620) rfl ?_
 refine tg_ hC [.K [] [615,617,618,619,620]] rfl ?_
 refine AK.done ?_
 exact ex_ [] (an_ tt_ (ex_ k (an_ hpp (gives ⟨rfl,rfl,rfl,rfl,rfl,tt_⟩))))
theorem Qm6 (a:QBg)(hlen:a.length≤4294967296):Qc prog 218 [.lit (.slice none 0 0),.clo (.func 157) [] [.loc 617 0 0]] [(617,.var [.map 618]),(618,.map (QA V.I V.I a))] (fun v hs=>∃r:List Int,r.Perm (a.map Prod.fst)∧Gives (.own 600 r.length) [(600,.arr 1 (r.map Qe)),(617,.var [.map 618]),(618,.map (QA V.I V.I a))] v hs):=by
 refine Qc.walkR 13 func218 rfl ntmps218 rfl fun C hC hR=>?_
 refine tg_ hC [.n 13,.K [2,4,6] [2,617,618]] rfl ?_
 refine Qa hC [.adoptO 2 0 605 1,.O 605 (.arr 1 (([]:List Int).map Qe)),.O 2 (.var [.own 605 ([]:List Int).length])] rfl ⟨⟨tt_,rfl⟩,rfl⟩ ?_
 refine AK.rangeFE (ι:=List Int) (Φ:=fun x=>x.Perm (a.map Prod.fst)) 614 [2] [(617,614),(618,2),(615,605),(619,617),(620,618)] [(605,615),(614,617),(2,618),(617,619),(618,620)] [605] [.d,.d] Qf0 hC hR (fun _=>rfl) rfl rfl rfl rfl fun lpl lpf=>?_
 refine ex_ (fun b:List Int=>[(615,.arr 1 (b.map Qe)),(617,.lp lpl (Qf0 lpf) (Qq8 (.loc 618 0 0)) 0),(618,.var [.own 615 b.length]),(619,.var [.map 620]),(620,.map (QA V.I V.I a))]) (ex_ (fun _=>.tup []) (ex_ (fun b=>_) (ex_ _ (ex_ _ (an_ rfl (an_ rfl (an_ (Qky _ _ ([]:List Int) a (by simpa using hlen)) fun b=>ex_ _ (ex_ (Qq8 (.loc 2 0 0)) (ex_ 0 (an_ rfl (an_ rfl (an_ (bne_iff_ne.1 (show(0 != 1)=true from rfl)) fun hpp=>?_))))))))))))
 refine QD8 rfl ?_
 refine tg_ hC [.n 9,.K [4] [605,617,618],.ren 605 600,.K [4] [600,617,618]] rfl ?_
 exact AK.done (ex_ [_] (an_ (an_ rfl tt_) (ex_ b (an_ hpp (gives ⟨rfl,rfl,rfl,tt_⟩)))))
theorem Qp5 (a:QBg)(hlen:a.length≤4294967296):Qc prog 156 [.clo (.func 157) [] [.loc 617 0 0]] [(617,.var [.map 618]),(618,.map (QA V.I V.I a))] (fun v hs=>∃r:List Int,r.Perm (a.map Prod.fst)∧Gives (.own 600 r.length) [(600,.arr 1 (r.map Qe)),(617,.var [.map 618]),(618,.map (QA V.I V.I a))] v hs):=by
 refine Qc.walk 5 func156 rfl rfl rfl fun C hC=>?_
 refine tg_ hC [.n 8] rfl ?_
 refine AK.callE (ι:=List Int) (Φ:=fun x=>x.Perm (a.map Prod.fst)) [(617,617),(618,618)] [(4,600),(617,617),(618,618)] [] [.d,.d] (fun b=>[(600,.arr 1 (b.map Qe)),(617,.var [.map 618]),(618,.map (QA V.I V.I a))]) (fun b=>(.own 600 b.length)) (fun b=>_) rfl hC (QbN.fn rfl rfl rfl) rfl (QN hC.n rfl) rfl rfl (Qm6 a hlen) (fun b=>ex_ _ rfl) fun b hpp=>?_
 refine tg_ hC [.n 4,.K [2] [4,617,618],.ren 4 600,.K [2] [600,617,618]] rfl ?_
 exact AK.done (ex_ [_] (an_ (an_ rfl tt_) (ex_ b (an_ hpp (gives ⟨rfl,rfl,rfl,tt_⟩)))))
def Qbc (l:List Int):Option (List Int):=(chk (decide (l.length<4611686018427387904))).bind fun _=>some (QeC l)
theorem QdN (l){r}(h:Qbc l=some r):Qc prog 48 [.own 617 l.length] [(617,.arr 1 (l.map Qe))] (Gives (.tup []) [(617,.arr 1 (r.map Qe))]):=by
 obtain⟨_,a,h⟩:=Qb h
 cases h
 exact QzA QBz l (Q9 (QyC a))
def Qjb (a:QBg):Option (List Int):=
 (chk (decide (a.length≤4294967296))).bind fun _=>
 some (QeC (a.map Prod.fst))
theorem Qq9 (a){r}(h:Qjb a=some r):Qc prog 109 [.clo (.func 157) [] [.loc 617 0 0]] [(617,.var [.map 618]),(618,.map (QA V.I V.I a))] (Gives (.own 600 r.length) [(600,.arr 1 (r.map Qe)),(617,.var [.map 618]),(618,.map (QA V.I V.I a))]):=by
 refine Qc.walk 9 func109 rfl rfl rfl fun C hC=>?_
 obtain⟨_,hlen,h⟩:=Qb h
 replace hlen:=Q9 (QyC hlen)
 cases h
 refine tg_ hC [.n 8] rfl ?_
 refine AK.callE (ι:=List Int) (Φ:=fun x=>x.Perm (a.map Prod.fst)) [(617,617),(618,618)] [(5,600),(617,617),(618,618)] [] [.d] (fun b=>[(600,.arr 1 (b.map Qe)),(617,.var [.map 618]),(618,.map (QA V.I V.I a))]) (fun b=>(.own 600 b.length)) (fun b=>_) rfl hC (QbN.fn rfl rfl rfl) rfl (QN hC.n rfl) rfl rfl (Qp5 a hlen) (fun b=>ex_ _ rfl) fun b hpp=>?_
 have e:Qbc b=some (QeC (a.map Prod.fst)):=by
  unfold Qbc
  rw [QbW (by have:=hpp.length_eq;simp at this;omega),QAt hpp];rfl
 have c:(QeC (a.map Prod.fst)).length=b.length:=by rw [Qma,hpp.length_eq]
 refine Qa hC [.n 6,.cm (.fn) [(617,5)] [(5,617)] [] [.d] [(617,.arr 1 (((QeC (a.map Prod.fst))).map Qe))] (.tup []),.S 3 (.own 5 (QeC (a.map Prod.fst)).length),.S 5 (.own 5 (QeC (a.map Prod.fst)).length),.S 6 (.own 5 (QeC (a.map Prod.fst)).length),.n 9,.K [2] [5,617,618],.ren 5 600,.K [2] [600,617,618]] rfl ⟨⟨⟨⟨tt_,(QdN _ e)⟩,(by simp [c])⟩,(by simp [c])⟩,(by simp [c])⟩ ?_
 exact d1_ rfl rfl ⟨rfl,rfl,rfl,tt_⟩
def Qek (b:Int)(a:QBg):Option ((Int×QBg)⊕QBg):=
 some (.inl ((w64 (b+1)),a))
def Qcj (e:(List Int))(d:QBg)(b:Int)(c:QBg):Option ((Int×QBg)⊕QBg):=
 bif (decide (b<(e.length:Int)))then
 (idx e b).bind fun a=>
 bif (decide (0<((Qv d a).getD 0)))then
 (chk (decide (c.length+([(a,((Qv d a).getD 0))]:List (Int×Int)).length≤4294967296))).bind fun _=>
 Qek b (c++([(a,((Qv d a).getD 0))]:List (Int×Int)))
 else
 Qek b c
 else
 some (.inr c)
def Qm7 (a:QBg):Option QBg:=
 some a
def Qen (a:QBg):Option QBg:=
 (QdM a).bind fun c=>
 (Qjb a).bind fun b=>
 (QJ (fun st=>Qcj b a st.1 st.2) (0,([]:List (Int×Int)))).bind (fun q=>Qm7 q)
theorem Qjc (b){r}(h:Qen b=some r):Qc prog 71 [.map 617] [(617,.map (QA V.I V.I b))] (Gives (.own 600 r.length) [(600,.arr 2 (r.map QI)),(617,.map (QA V.I V.I b))]):=by
 refine Qc.walk 28 func71 rfl rfl rfl fun C hC=>?_
 obtain⟨D,u,h⟩:=Qb h
 obtain⟨i,w,h⟩:=Qb h
 refine Qa hC [.n 14,.cm (.fn) [(617,617)] [(7,1),(617,617)] [] [.d] [(1,.var [.map 617]),(617,.map (QA V.I V.I b))] (.clo (.func 157) [] [.loc 1 0 0]),.cm (.fn) [(617,7),(618,617)] [(8,600),(7,617),(617,618)] [] [.d] [(600,.arr 1 (i.map Qe)),(617,.var [.map 618]),(618,.map (QA V.I V.I b))] (.own 600 i.length),.n 5,.adopt 3 18 2,.O 18 (.arr 2 (([]:List (Int×Int)).map QI)),.S 3 (.own 18 ([]:List (Int×Int)).length),.K [0,3,8,9,10] [8,18,617]] rfl ⟨⟨⟨⟨tt_,(Qlo _ u)⟩,(Qq9 _ w)⟩,rfl⟩,(congrArg (fun n=>V.own 18 n) (by simp))⟩ ?_
 obtain⟨x,p,h⟩:=Qb h
 refine AK.loop (body:=(fun st=>Qcj i b st.1 st.2)) (fun st σ=>σ=⟨[(0,.map 617),(3,.own 18 st.2.length),(8,.own 8 i.length),(9,.I (i.length:Int)),(10,.I st.1)],[(8,.arr 1 (i.map Qe)),(18,.arr 2 (st.2.map QI)),(617,.map (QA V.I V.I b))]⟩) (fun q e σ=>e=.exit 0∧σ=⟨[(3,.own 18 q.length)],[(18,.arr 2 (q.map QI)),(617,.map (QA V.I V.I b))]⟩) p rfl ?_ ?_
 ·rintro ⟨A,B⟩ o σ rfl h
  refine tg_ hC [.n 6] rfl ?_
  refine bg_ h (fun c h=>Qa hC [.T,.n 2] rfl ⟨tt_,c⟩ ?_) fun c h=>Qa hC [.F,.n 2,.K [3] [18,617]] rfl ⟨tt_,c⟩ ?_
  ·refine AK.meet (fun σ=>∃j:QBg,σ=⟨[(0,.map 617),(3,.own 18 j.length),(8,.own 8 i.length),(9,.I (i.length:Int)),(10,.I A)],[(8,.arr 1 (i.map Qe)),(18,.arr 2 (j.map QI)),(617,.map (QA V.I V.I b))]⟩∧Qek A j=some o) ?_ ?_
   ·obtain⟨a,m,h⟩:=Qb h
    refine Qa hC [.n 4,.o (.row (Qe a)),.n 7,.o (.any (.I ((Qv b a).getD 0)) none),.n 3] rfl ⟨⟨⟨tt_,(Qda m rfl)⟩,(QbX (QdK m).2)⟩,(fun σ s y _=>Stp.lookup (e:=V.I) (f:=V.I) (l:=b) (k:=a) (z:=0) rfl rfl (QN hC.n rfl) (s _ _ rfl) (y _ _ rfl) (s _ _ rfl) QeN Qdh Qk9 rfl)⟩ ?_
    rcases Qt h with⟨g,h⟩|⟨g,h⟩
    ·obtain⟨t,h⟩:=QaW h
     refine Qa hC [.T,.n 5,.o (.any (.I ((Qv b a).getD 0)) none),.v .no [] (.agg (QI (a,((Qv b a).getD 0)))),.v (.bd []) [] (.sl 2 (([(a,((Qv b a).getD 0))]:List (Int×Int)).map QI)),.app ((B++([(a,((Qv b a).getD 0))]:List (Int×Int))).map QI) (B++([(a,((Qv b a).getD 0))]:List (Int×Int))).length,.n 3,.K [0,3,8,9,10] [8,18,617]] rfl ⟨⟨⟨⟨⟨tt_,g⟩,(fun σ s y _=>Stp.lookup (e:=V.I) (f:=V.I) (l:=b) (k:=a) (z:=0) rfl rfl (QN hC.n rfl) (s _ _ rfl) (y _ _ rfl) (s _ _ rfl) QeN Qdh Qk9 rfl)⟩,rfl⟩,rfl⟩,⟨Qf,QbP t Qf,QaY,QcN Qf⟩⟩ ?_
     exact AK.met (ex_ _ (an_ rfl h))
    refine Qa hC [.F,.n 2,.K [0,3,8,9,10] [8,18,617]] rfl ⟨tt_,g⟩ ?_
    exact AK.met (ex_ _ (an_ rfl h))
   rintro σ ⟨j,rfl,h⟩
   refine tg_ hC [.n 4,.K [0,3,8,9,10] [8,18,617]] rfl ?_
   cases h
   exact Q6 rfl rfl
  cases h
  exact Q8 rfl (an_ rfl rfl)
 replace h:Qm7 x=some r:=h
 rintro e σ ⟨rfl,rfl⟩
 refine tg_ hC [.n 9,.K [2] [18,617],.ren 18 600] rfl ?_
 cases h
 exact d1_ rfl rfl ⟨rfl,rfl,tt_⟩
def QnH (b:Int)(a:QBg):Option ((Int×QBg)⊕QBg):=
 some (.inl ((w64 (b+1)),a))
def QfL (d:(List Int))(b:Int)(c:QBg):Option ((Int×QBg)⊕QBg):=
 bif (decide (b<(d.length:Int)))then
 (idx d b).bind fun a=>
 bif (decide (0≤a))then
 QnH b (Qag ltI c a (min2 (w64 (((Qv c a).getD 0)+1)) 1048576))
 else
 QnH b c
 else
 some (.inr c)
def QnI (b:QBg):Option QBg:=
 (Qen b).bind fun a=>
 some a
def Qne (a:(List Int)):Option QBg:=
 (QJ (fun st=>QfL a st.1 st.2) (0,([]:QBg))).bind (fun q=>QnI q)
theorem Qvr (c){r}(h:Qne c=some r):Qc prog 44 [.sl 1 (c.map Qe)] [] (Gives (.own 600 r.length) [(600,.arr 2 (r.map QI))]):=by
 refine Qc.walk 25 func44 rfl rfl rfl fun C hC=>?_
 refine Qa hC [.n 8,.O 6 (.map (QA V.I V.I ([]:QBg))),.n 7,.o (.ln c.length),.n 4,.K [3,7,8,9] [6]] rfl ⟨⟨tt_,rfl⟩,Qf⟩ ?_
 obtain⟨u,m,h⟩:=Qb h
 refine AK.loop (body:=(fun st=>QfL c st.1 st.2)) (fun st σ=>σ=⟨[(3,.map 6),(7,.sl 1 (c.map Qe)),(8,.I (c.length:Int)),(9,.I st.1)],[(6,.map (QA V.I V.I st.2))]⟩) (fun q e σ=>e=.exit 0∧σ=⟨[(3,.map 6)],[(6,.map (QA V.I V.I q))]⟩) m rfl ?_ ?_
 ·rintro ⟨w,j⟩ o σ rfl h
  refine tg_ hC [.n 6] rfl ?_
  refine bg_ h (fun g h=>Qa hC [.T,.n 2] rfl ⟨tt_,g⟩ ?_) fun g h=>Qa hC [.F,.n 2,.K [3] [6]] rfl ⟨tt_,g⟩ ?_
  ·refine AK.meet (fun σ=>∃i:QBg,σ=⟨[(3,.map 6),(7,.sl 1 (c.map Qe)),(8,.I (c.length:Int)),(9,.I w)],[(6,.map (QA V.I V.I i))]⟩∧QnH w i=some o) ?_ ?_
   ·obtain⟨a,p,h⟩:=Qb h
    refine Qa hC [.n 3,.o (.row (Qe a)),.n 10] rfl ⟨tt_,(QT p)⟩ ?_
    refine bg_ h (fun b h=>Qa hC [.T,.n 5,.o (.any (.I ((Qv j a).getD 0)) none),.n 2,.x (fun σ=>σ.set 6 (.map (QA V.I V.I (Qag ltI j a (min2 (w64 (((Qv j a).getD 0)+1)) 1048576))))),.n 2,.K [3,7,8,9] [6]] rfl ⟨⟨⟨tt_,b⟩,(fun σ y A _=>Stp.lookup (e:=V.I) (f:=V.I) (l:=j) (k:=a) (z:=0) rfl rfl (QN hC.n rfl) (y _ _ rfl) (A _ _ rfl) (y _ _ rfl) QeN Qdh Qk9 rfl)⟩,(Stp.mapUpdate (e:=V.I) (f:=V.I) (l:=j) (k:=a) (v:=(min2 (w64 (((Qv j a).getD 0)+1)) 1048576)) ltI rfl rfl rfl rfl rfl rfl QeN Qdh rfl)⟩ ?_) fun b h=>Qa hC [.F,.n 2,.K [3,7,8,9] [6]] rfl ⟨tt_,b⟩ ?_
    ·exact AK.met (ex_ _ (an_ rfl h))
    exact AK.met (ex_ _ (an_ rfl h))
   rintro σ ⟨i,rfl,h⟩
   refine tg_ hC [.n 4,.K [3,7,8,9] [6]] rfl ?_
   cases h
   exact Q6 rfl rfl
  cases h
  exact Q8 rfl (an_ rfl rfl)
 replace h:QnI u=some r:=h
 rintro e σ ⟨rfl,rfl⟩
 obtain⟨s,t,h⟩:=Qb h
 refine Qa hC [.n 5,.cm (.fn) [(617,6)] [(24,600),(6,617)] [] [.d] [(600,.arr 2 (s.map QI)),(617,.map (QA V.I V.I u))] (.own 600 s.length),.n 4,.K [2] [24],.ren 24 600] rfl ⟨tt_,(Qjc _ t)⟩ ?_
 cases h
 exact d1_ rfl rfl ⟨rfl,tt_⟩
def QcP (d:QBg)(a:Int)(c:Int):Option ((Int×Int)⊕(Unit⊕Unit)):=
 bif (decide (c<(d.length:Int)))then
 (idx d c).bind fun b=>
 bif ((decide (b.1≤a))||((decide (b.2<1))||(decide (1048576<b.2))))then
 some (.inr (.inl ()))
 else
 some (.inl (b.1,(w64 (c+1))))
 else
 some (.inr (.inr ()))
def Qkz : Option Bool:=
 some false
def QkA : Option Bool:=
 some true
def Qc4 (a:QBg):Option Bool:=
 (QJ (fun st=>QcP a st.1 st.2) ((-1),0)).bind (Sum.elim (fun q=>Qkz) (fun q=>QkA))
theorem QfQ (i){r}(h:Qc4 i=some r):Qc prog 63 [.sl 2 (i.map QI)] [] (Gives (.b r) []):=by
 refine Qc.walk 29 func63 rfl rfl rfl fun C hC=>?_
 refine Qa hC [.n 14,.o (.ln i.length),.n 4,.K [3,6,7,8] []] rfl ⟨tt_,Qf⟩ ?_
 obtain⟨l,k,h⟩:=Qb h
 refine AK.loop (body:=(fun st=>QcP i st.1 st.2)) (fun st σ=>σ=⟨[(3,.I st.1),(6,.sl 2 (i.map QI)),(7,.I (i.length:Int)),(8,.I st.2)],[]⟩) (Sum.elim (fun q e σ=>e=.ret∧σ=⟨[(2,.b false)],[]⟩) (fun q e σ=>e=.exit 0∧σ=⟨[],[]⟩)) k rfl ?_ ?_
 ·rintro ⟨a,p⟩ o σ rfl h
  refine tg_ hC [.n 6] rfl ?_
  rcases Qt h with⟨j,h⟩|⟨j,h⟩
  ·obtain⟨d,m,h⟩:=Qb h
   refine Qa hC [.T,.n 6,.o (.row (QI d)),.v .no [] (.agg (QI d)),.n 2,.O 5 (.var (QI d)),.n 4] rfl ⟨⟨⟨⟨tt_,j⟩,(QT m)⟩,rfl⟩,rfl⟩ ?_
   refine AK.meetX (fun σ=>σ=⟨[(5,.loc 5 0 0),(6,.sl 2 (i.map QI)),(7,.I (i.length:Int)),(8,.I p),(25,.b ((decide (d.1≤a))||((decide (d.2<1))||(decide (1048576<d.2)))))],[(5,.var (QI d))]⟩) ?_ ?_
   ·refine tg_ hC [.n 6] rfl ?_
    rcases Q7 (decide (d.1≤a))with c | c
    ·refine Qa hC [.S 16 (.b true),.n 10,.S 25 (.b ((decide (d.1≤a))||((decide (d.2<1))||(decide (1048576<d.2))))),.K [5,6,7,8,25] [5]] rfl ⟨(tc_ c),(congrArg V.b (orT c rfl))⟩ ?_
     exact AK.met rfl
    refine Qa hC [.S 16 (.b false),.n 5] rfl (tc_ c) ?_
    rcases Q7 (decide (d.2<1))with f | f
    ·refine Qa hC [.S 21 (.b true),.n 5,.S 25 (.b ((decide (d.1≤a))||((decide (d.2<1))||(decide (1048576<d.2))))),.K [5,6,7,8,25] [5]] rfl ⟨(tc_ f),(congrArg V.b (orF c (orT f rfl)))⟩ ?_
     exact AK.met rfl
    refine Qa hC [.S 21 (.b false),.n 5,.S 25 (.b ((decide (d.1≤a))||((decide (d.2<1))||(decide (1048576<d.2))))),.K [5,6,7,8,25] [5]] rfl ⟨(tc_ f),(congrArg V.b (orF c (orF f rfl)))⟩ ?_
    exact AK.met rfl
   rintro σ rfl
   refine tg_ hC [.n 1] rfl ?_
   refine bg_ h (fun g h=>Qa hC [.T,.n 9,.K [2] []] rfl ⟨tt_,g⟩ ?_) fun g h=>Qa hC [.F,.n 13,.K [3,6,7,8] []] rfl ⟨tt_,g⟩ ?_
   ·cases h
    exact Qav rfl (an_ rfl rfl)
   cases h
   exact Q6 rfl rfl
  refine Qa hC [.F,.n 2,.K [] []] rfl ⟨tt_,j⟩ ?_
  cases h
  exact Q8 rfl (an_ rfl rfl)
 rcases l with(_ | _)
 ·replace h:Qkz=some r:=h
  rintro e σ ⟨rfl,rfl⟩
  refine tg_ hC [.n 2] rfl ?_
  cases h
  exact d1_ rfl rfl tt_
 replace h:QkA=some r:=h
 rintro e σ ⟨rfl,rfl⟩
 refine tg_ hC [.n 8] rfl ?_
 cases h
 exact d1_ rfl rfl tt_
def Qg4 (c:QBg)(b:Int)(d:QBg):Option ((Int×QBg)⊕QBg):=
 bif (decide (b<(c.length:Int)))then
 (idx c b).bind fun a=>
 some (.inl ((w64 (b+1)),(Qag ltI d a.1 a.2)))
 else
 some (.inr d)
def Qvs (a:QBg):Option (Unit⊕QBg):=
 some (.inr a)
def QlT (a:QBg):Option (Unit⊕QBg):=
 (Qc4 a).bind fun b=>
 bif (!b)then
 some (.inl ())
 else
 (QJ (fun st=>Qg4 a st.1 st.2) (0,([]:QBg))).bind (fun q=>Qvs q)
theorem QfM (j){r}(h:QlT j=some r):Qc prog 108 [.sl 2 (j.map QI)] [] ((Sum.elim (fun q=>(Gives (.tup [.lit (.map none),.b false]) [])) (fun q=>(Gives (.tup [.map 601,.b true]) [(601,.map (QA V.I V.I q))]))) r):=by
 refine Qc.walk 24 func108 rfl rfl rfl fun C hC=>?_
 obtain⟨w,s,h⟩:=Qb h
 refine Qa hC [.n 10,.o (.c false [.d] (.b w)),.n 3] rfl ⟨tt_,(QfQ _ s)⟩ ?_
 refine bg_ h (fun i h=>Qa hC [.T,.n 8,.K [2,3] []] rfl ⟨tt_,i⟩ ?_) fun i h=>Qa hC [.F,.n 5,.O 10 (.map (QA V.I V.I ([]:QBg))),.n 7,.o (.ln j.length),.n 4,.K [4,11,12,13] [10]] rfl ⟨⟨⟨tt_,i⟩,rfl⟩,Qf⟩ ?_
 ·cases h
  exact AK.done (ex_ [_,_] (an_ (an_ rfl (an_ rfl tt_)) (gives tt_)))
 obtain⟨t,m,h⟩:=Qb h
 refine AK.loop (body:=(fun st=>Qg4 j st.1 st.2)) (fun st σ=>σ=⟨[(4,.map 10),(11,.sl 2 (j.map QI)),(12,.I (j.length:Int)),(13,.I st.1)],[(10,.map (QA V.I V.I st.2))]⟩) (fun q e σ=>e=.exit 0∧σ=⟨[(4,.map 10)],[(10,.map (QA V.I V.I q))]⟩) m rfl ?_ ?_
 ·rintro ⟨y,u⟩ o σ rfl h
  refine tg_ hC [.n 6] rfl ?_
  rcases Qt h with⟨g,h⟩|⟨g,h⟩
  ·obtain⟨a,p,h⟩:=Qb h
   refine Qa hC [.T,.n 6,.o (.row (QI a)),.v .no [] (.agg (QI a)),.n 2,.O 6 (.var (QI a)),.n 8,.x (fun σ=>σ.set 10 (.map (QA V.I V.I (Qag ltI u a.1 a.2)))),.n 7,.K [4,11,12,13] [10]] rfl ⟨⟨⟨⟨⟨tt_,g⟩,(QT p)⟩,rfl⟩,rfl⟩,(Stp.mapUpdate (e:=V.I) (f:=V.I) (l:=u) (k:=a.1) (v:=a.2) ltI rfl rfl rfl rfl rfl rfl QeN Qdh rfl)⟩ ?_
   cases h
   exact Q6 rfl rfl
  refine Qa hC [.F,.n 2,.K [4] [10]] rfl ⟨tt_,g⟩ ?_
  cases h
  exact Q8 rfl (an_ rfl rfl)
 replace h:Qvs t=some r:=h
 rintro e σ ⟨rfl,rfl⟩
 refine tg_ hC [.n 10,.K [2,3] [10],.ren 10 601,.K [2,3] [601]] rfl ?_
 cases h
 exact AK.done (ex_ [_,_] (an_ (an_ rfl (an_ rfl tt_)) (gives ⟨rfl,tt_⟩)))
def QsU (a:Unit):Option (Unit⊕(QBg⊕(QBg⊕(QBg×QBg)))):=
 some (.inl ())
def QsV (a:QBg):Option (Unit⊕(QBg⊕(QBg⊕(QBg×QBg)))):=
 some (.inr (.inl a))
def Qn5 (a:QBg)(b:Unit):Option (Unit⊕(QBg⊕(QBg⊕(QBg×QBg)))):=
 (QlT a).bind (Sum.elim (fun q=>QsU q) (fun q=>QsV q))
def QsW (a:QBg)(b:Unit):Option (Unit⊕(QBg⊕(QBg⊕(QBg×QBg)))):=
 some (.inr (.inr (.inl a)))
def QsX (b:QBg)(a:QBg):Option (Unit⊕(QBg⊕(QBg⊕(QBg×QBg)))):=
 some (.inr (.inr (.inr (b,a))))
def Qn6 (b:QBg)(a:QBg):Option (Unit⊕(QBg⊕(QBg⊕(QBg×QBg)))):=
 (QlT b).bind (Sum.elim (fun q=>QsW a q) (fun q=>QsX a q))
def QkB (b:QBg)(a:QBg):Option (Unit⊕(QBg⊕(QBg⊕(QBg×QBg)))):=
 (QlT b).bind (Sum.elim (fun q=>Qn5 a q) (fun q=>Qn6 a q))
theorem QbL (p i){r}(h:QkB p i=some r):Qc prog 70 [.sl 2 (p.map QI),.sl 2 (i.map QI)] [] ((Sum.elim (fun q=>(Gives (.tup [.lit (.map none),.lit (.map none),.b false]) [])) (Sum.elim (fun q=>(Gives (.tup [.lit (.map none),.map 603,.b false]) [(603,.map (QA V.I V.I q))])) (Sum.elim (fun q=>(Gives (.tup [.map 602,.lit (.map none),.b false]) [(602,.map (QA V.I V.I q))])) (fun q=>(Gives (.tup [.map 602,.map 603,.b true]) [(602,.map (QA V.I V.I q.1)),(603,.map (QA V.I V.I q.2))]))))) r):=by
 refine Qc.walk 25 func70 rfl rfl rfl fun C hC=>?_
 obtain⟨s,e,h⟩:=Qb h
 refine tg_ hC [.n 10] rfl ?_
 rcases s with(t | j)
 ·replace h:Qn5 i t=some r:=h
  obtain⟨k,a,h⟩:=Qb h
  refine Qa hC [.cm (.fn) [] [] [] [.d] [] (.tup [.lit (.map none),.b false]),.n 10] rfl ⟨tt_,(QfM _ e)⟩ ?_
  rcases k with(l | f)
  ·replace h:QsU l=some r:=h
   refine Qa hC [.cm (.fn) [] [] [] [.d] [] (.tup [.lit (.map none),.b false]),.n 21,.K [4,5,6] []] rfl ⟨tt_,(QfM _ a)⟩ ?_
   cases h
   exact AK.done (ex_ [_,_,_] (an_ (an_ rfl (an_ rfl (an_ rfl tt_))) (gives tt_)))
  replace h:QsV f=some r:=h
  refine Qa hC [.cm (.fn) [] [(16,601)] [] [.d] [(601,.map (QA V.I V.I f))] (.tup [.map 601,.b true]),.n 21,.K [4,5,6] [16],.ren 16 603,.K [4,5,6] [603]] rfl ⟨tt_,(QfM _ a)⟩ ?_
  cases h
  exact AK.done (ex_ [_,_,_] (an_ (an_ rfl (an_ rfl (an_ rfl tt_))) (gives ⟨rfl,tt_⟩)))
 replace h:Qn6 i j=some r:=h
 obtain⟨m,c,h⟩:=Qb h
 refine Qa hC [.cm (.fn) [] [(11,601)] [] [.d] [(601,.map (QA V.I V.I j))] (.tup [.map 601,.b true]),.n 10] rfl ⟨tt_,(QfM _ e)⟩ ?_
 rcases m with(o | g)
 ·replace h:QsW j o=some r:=h
  refine Qa hC [.cm (.fn) [] [] [] [.d] [] (.tup [.lit (.map none),.b false]),.n 21,.K [4,5,6] [11],.ren 11 602,.K [4,5,6] [602]] rfl ⟨tt_,(QfM _ c)⟩ ?_
  cases h
  exact AK.done (ex_ [_,_,_] (an_ (an_ rfl (an_ rfl (an_ rfl tt_))) (gives ⟨rfl,tt_⟩)))
 replace h:QsX j g=some r:=h
 refine Qa hC [.cm (.fn) [] [(16,601)] [] [.d] [(601,.map (QA V.I V.I g))] (.tup [.map 601,.b true]),.n 21,.K [4,5,6] [11,16],.ren 11 602,.K [4,5,6] [16,602],.ren 16 603,.K [4,5,6] [602,603]] rfl ⟨tt_,(QfM _ c)⟩ ?_
 cases h
 exact AK.done (ex_ [_,_,_] (an_ (an_ rfl (an_ rfl (an_ rfl tt_))) (gives ⟨rfl,rfl,tt_⟩)))
def QtP (a:Unit):Option (QBg×Int):=
 some (([]:List (Int×Int)),1)
def QtQ (a:QBg):Option (QBg×Int):=
 some (([]:List (Int×Int)),1)
def QtR (a:QBg):Option (QBg×Int):=
 some (([]:List (Int×Int)),1)
def QhJ (b:QBg)(a:Int)(c:Int):Option (QBg⊕Unit):=
 bif (decide (1048576<((Qv (Qag ltI b a (w64 (((Qv b a).getD 0)+c))) a).getD 0)))then
 some (.inr ())
 else
 some (.inl (Qag ltI b a (w64 (((Qv b a).getD 0)+c))))
def Qpj (a:QBg):Option (QBg×Int):=
 (Qen a).bind fun b=>
 some (b,0)
def QtS : Option (QBg×Int):=
 some (([]:List (Int×Int)),2)
def Qpk (a:(QBg×QBg)):Option (QBg×Int):=
 (QiR (fun st p=>QhJ st p.1 p.2) a.1 a.2).bind (Sum.elim (fun q=>Qpj q) (fun q=>QtS))
def QbF (a:QBg)(b:QBg):Option (QBg×Int):=
 (QkB a b).bind (Sum.elim (fun q=>QtP q) (Sum.elim (fun q=>QtQ q) (Sum.elim (fun q=>QtR q) (fun q=>Qpk q))))
theorem Qpl (M N){r}(h:QbF M N=some r):Qc prog 43 [.sl 2 (M.map QI),.sl 2 (N.map QI)] [] (Gives (.tup [.sl 2 (r.1.map QI),.I r.2]) []):=by
 refine Qc.walk 38 func43 rfl rfl rfl fun C hC=>?_
 obtain⟨S,u,h⟩:=Qb h
 refine tg_ hC [.n 10] rfl ?_
 rcases S with(U | (O | (D | w)))
 ·replace h:QtP U=some r:=h
  refine Qa hC [.cm (.fn) [] [] [] [.d,.d] [] (.tup [.lit (.map none),.lit (.map none),.b false]),.n 25,.denil 4 [some 2]] rfl ⟨tt_,(QbL _ _ u)⟩ ?_
  cases h
  exact d2_ rfl rfl rfl tt_
 ·replace h:QtQ O=some r:=h
  refine Qa hC [.cm (.fn) [] [(14,603)] [] [.d,.d] [(603,.map (QA V.I V.I O))] (.tup [.lit (.map none),.map 603,.b false]),.n 25,.denil 4 [some 2]] rfl ⟨tt_,(QbL _ _ u)⟩ ?_
  cases h
  exact d2_ rfl rfl rfl tt_
 ·replace h:QtR D=some r:=h
  refine Qa hC [.cm (.fn) [] [(14,602)] [] [.d,.d] [(602,.map (QA V.I V.I D))] (.tup [.map 602,.lit (.map none),.b false]),.n 25,.denil 4 [some 2]] rfl ⟨tt_,(QbL _ _ u)⟩ ?_
  cases h
  exact d2_ rfl rfl rfl tt_
 replace h:Qpk w=some r:=h
 refine Qa hC [.cm (.fn) [] [(14,602),(610,603)] [] [.d,.d] [(602,.map (QA V.I V.I w.1)),(603,.map (QA V.I V.I w.2))] (.tup [.map 602,.map 603,.b true]),.n 23] rfl ⟨tt_,(QbL _ _ u)⟩ ?_
 refine AK.openMap (b:=610) Qdh rfl fun j s L12 y A=>?_
 refine Qa hC [.x (fun σ=>(σ.set 21 (.itr j s #[] none)).put 21 (.loc 21 0 0)),.n 3,.K [6,21] [14,21,610]] rfl ⟨tt_,(Stp.range (b:=610) rfl rfl (QN hC.n rfl) rfl rfl QeN rfl)⟩ ?_
 obtain⟨J,E,h⟩:=Qb h
 refine AK.range (body:=(fun st p=>QhJ st p.1 p.2)) (fun st seen σ=>∃cur:Option MapEntry,σ=⟨[(6,.map 14),(21,.loc 21 0 0)],[(14,.map (QA V.I V.I st)),(21,.itr j s seen cur),(610,.mapX j s (QhG V.I V.I L12) (QA V.I V.I w.2))]⟩) (fun q e σ=>e=.ret∧σ=⟨[(4,.lit (.slice none 0 0)),(5,.I 2)],[]⟩) (fun st e σ=>e=.exit 0∧σ=⟨[(6,.map 14)],[(14,.map (QA V.I V.I st))]⟩) y A E (ex_ _ rfl) ?_ ?_
 ·rintro a seen σ ⟨cur,rfl⟩ hex
  refine tg_ hC [.n 2] rfl ?_
  refine AK.nextT (b:=21) (m:=610) rfl rfl rfl (QN hC.n rfl) rfl rfl rfl rfl ?_ ?_
  ·intro hleft
   refine tg_ hC [.n 7,.K [6] [14]] rfl ?_
   exact AK.done (Or.inl (an_ hleft (an_ (fun h=>(by cases h)) (an_ rfl rfl))))
  intro P c i g
  obtain⟨o,h⟩:=hex _ g
  have ho:=h
  replace h:QhJ a c i=some o:=h
  refine Qa hC [.n 10,.x (fun σ=>σ.put 24 (.tup [.I c,.I i])),.n 10,.o (.any (.I ((Qv a c).getD 0)) none),.n 2,.x (fun σ=>σ.set 14 (.map (QA V.I V.I (Qag ltI a c (w64 (((Qv a c).getD 0)+i)))))),.n 6,.o (.any (.I ((Qv (Qag ltI a c (w64 (((Qv a c).getD 0)+i))) c).getD 0)) none),.n 3] rfl ⟨⟨⟨⟨tt_,(Stp.entryT (b:=21) (m:=610) rfl rfl (QN hC.n rfl) rfl g rfl rfl)⟩,(fun σ G L _=>Stp.lookup (e:=V.I) (f:=V.I) (l:=a) (k:=c) (z:=0) rfl rfl (QN hC.n rfl) (G _ _ rfl) (L _ _ rfl) (G _ _ rfl) QeN Qdh Qk9 rfl)⟩,(Stp.mapUpdate (e:=V.I) (f:=V.I) (l:=a) (k:=c) (v:=(w64 (((Qv a c).getD 0)+i))) ltI rfl rfl rfl rfl rfl rfl QeN Qdh rfl)⟩,(fun σ G L _=>Stp.lookup (e:=V.I) (f:=V.I) (l:=(Qag ltI a c (w64 (((Qv a c).getD 0)+i)))) (k:=c) (z:=0) rfl rfl (QN hC.n rfl) (G _ _ rfl) (L _ _ rfl) (G _ _ rfl) QeN Qdh Qk9 rfl)⟩ ?_
  refine bg_ h (fun t h=>Qa hC [.T,.n 8,.K [4,5] []] rfl ⟨tt_,t⟩ ?_) fun t h=>Qa hC [.F,.n 2,.K [6,21] [14,21,610]] rfl ⟨tt_,t⟩ ?_
  ·cases h
   exact AK.done (Or.inr (ex_ _ (an_ g (Or.inr (ex_ _ (an_ ho (an_ (fun h=>(by cases h)) (an_ rfl rfl))))))))
  cases h
  exact AK.done (Or.inr (ex_ _ (an_ g (Or.inl (ex_ _ (an_ ho (an_ rfl (ex_ _ rfl))))))))
 rcases J with(a | _)
 ·replace h:Qpj a=some r:=h
  rintro e σ ⟨rfl,rfl⟩
  obtain⟨B,H,h⟩:=Qb h
  refine Qa hC [.n 5,.cm (.fn) [(617,14)] [(37,600),(14,617)] [] [.d] [(600,.arr 2 (B.map QI)),(617,.map (QA V.I V.I a))] (.own 600 B.length),.n 5,.frz 37 (B.map QI) [4] []] rfl ⟨⟨tt_,(Qjc _ H)⟩,⟨tt_,(QbQ Qf)⟩⟩ ?_
  cases h
  exact d2_ rfl rfl rfl tt_
 replace h:QtS=some r:=h
 rintro e σ ⟨rfl,rfl⟩
 refine tg_ hC [.n 2,.denil 4 [some 2]] rfl ?_
 cases h
 exact d2_ rfl rfl rfl tt_
def Qe0 (b:QMk)(c:Int)(a:QBg):Option ((Int×QMk)⊕QMk):=
 (chk (decide (b.length+([a]:List QBg).length≤4294967296))).bind fun _=>
 some (.inl ((w64 (c+1)),(b++([a]:List QBg))))
def Qjp (e:Qj)(b:Int)(d:QMk):Option ((Int×QMk)⊕QMk):=
 bif (decide (b<(e.Places.length:Int)))then
 (idx e.Places b).bind fun f=>
 (QaZ f.First).bind fun a=>
 bif (b==e.From)then
 (Qne ([0]:List Int)).bind fun g=>
 (QbF a g).bind fun c=>
 bif (c.2==0)then
 Qe0 d b c.1
 else
 Qe0 d b a
 else
 Qe0 d b a
 else
 some (.inr d)
def Qqs (a:QMk):Option QMk:=
 some a
def QeO (a:Qj):Option QMk:=
 (QJ (fun st=>Qjp a st.1 st.2) (0,([]:List QBg))).bind (fun q=>Qqs q)
theorem Qmx (g){r}(h:QeO g=some r):Qc prog 18 [.agg (Qd g)] [] (Gives (.own 600 r.length) [(600,.arr 1 (r.map Qi))]):=by
 refine Qc.walk 40 func18 rfl rfl rfl fun C hC=>?_
 refine Qa hC [.n 16,.o (.ln g.Places.length),.n 4,.adopt 3 34 1,.O 34 (.arr 1 (([]:List QBg).map Qi)),.S 3 (.own 34 ([]:List QBg).length),.K [1,3,10,11,12] [1,34]] rfl ⟨⟨⟨tt_,Qf⟩,rfl⟩,(congrArg (fun n=>V.own 34 n) (by simp))⟩ ?_
 obtain⟨A,m,h⟩:=Qb h
 refine AK.loop (body:=(fun st=>Qjp g st.1 st.2)) (fun st σ=>σ=⟨[(1,.loc 1 0 0),(3,.own 34 st.2.length),(10,.sl 3 (g.Places.map Qp)),(11,.I (g.Places.length:Int)),(12,.I st.1)],[(1,.var (Qd g)),(34,.arr 1 (st.2.map Qi))]⟩) (fun q e σ=>e=.exit 0∧σ=⟨[(3,.own 34 q.length)],[(34,.arr 1 (q.map Qi))]⟩) m rfl ?_ ?_
 ·rintro ⟨z,p⟩ o σ rfl h
  refine tg_ hC [.n 6] rfl ?_
  rcases Qt h with⟨j,h⟩|⟨j,h⟩
  ·obtain⟨k,s,h⟩:=Qb h
   obtain⟨i,t,h⟩:=Qb h
   refine Qa hC [.T,.n 7,.o (.row (Qp k)),.v .no [] (.agg (Qp k)),.n 3,.O 5 (.var (Qp k)),.n 6,.o (.co false [.d] 2 (i.map QI) i.length),.n 3] rfl ⟨⟨⟨⟨⟨tt_,j⟩,(QT s)⟩,rfl⟩,rfl⟩,⟨(Qgr _ t),Qf,.inl rfl⟩⟩ ?_
   refine AK.meet (fun σ=>∃a:QBg,σ=⟨[(1,.loc 1 0 0),(3,.own 34 p.length),(6,.sl 2 (a.map QI)),(10,.sl 3 (g.Places.map Qp)),(11,.I (g.Places.length:Int)),(12,.I z)],[(1,.var (Qd g)),(34,.arr 1 (p.map Qi))]⟩∧Qe0 p z a=some o) ?_ ?_
   ·refine tg_ hC [.n 8] rfl ?_
    rcases Qt h with⟨b,h⟩|⟨b,h⟩
    ·obtain⟨l,u,h⟩:=Qb h
     obtain⟨w,x,h⟩:=Qb h
     refine Qa hC [.T,.n 3,.v (.bd []) [] (.sl 1 (([0]:List Int).map Qe)),.o (.co false [.d] 2 (l.map QI) l.length),.frz 27 (l.map QI) [27] [],.frz 19 (i.map QI) [6,19,25] [],.o (.c false [.d,.d] (.tup [.sl 2 (w.1.map QI),.I w.2])),.n 13] rfl ⟨⟨⟨⟨⟨⟨tt_,b⟩,rfl⟩,⟨(Qvr _ u),Qf,.inl rfl⟩⟩,⟨tt_,(QbQ Qf)⟩⟩,⟨⟨⟨tt_,(QbQ Qf)⟩,(QbQ Qf)⟩,(QbQ Qf)⟩⟩,(Qpl _ _ x)⟩ ?_
     refine bg_ h (fun f h=>Qa hC [.T,.n 4,.K [1,3,6,10,11,12] [1,34]] rfl ⟨tt_,f⟩ ?_) fun f h=>Qa hC [.F,.n 1,.K [1,3,6,10,11,12] [1,34]] rfl ⟨tt_,f⟩ ?_
     ·exact AK.met (ex_ _ (an_ rfl h))
     exact AK.met (ex_ _ (an_ rfl h))
    refine Qa hC [.F,.n 1,.frz 19 (i.map QI) [6] [],.K [1,3,6,10,11,12] [1,34]] rfl ⟨⟨tt_,b⟩,⟨tt_,(QbQ Qf)⟩⟩ ?_
    exact AK.met (ex_ _ (an_ rfl h))
   rintro σ ⟨a,rfl,h⟩
   obtain⟨y,h⟩:=QaW h
   refine Qa hC [.n 3,.v (.bd []) [] (.sl 1 (([a]:List QBg).map Qi)),.app ((p++([a]:List QBg)).map Qi) (p++([a]:List QBg)).length,.n 8,.K [1,3,10,11,12] [1,34]] rfl ⟨⟨tt_,rfl⟩,⟨Qf,QbP y Qf,QaY,QcN Qf⟩⟩ ?_
   cases h
   exact Q6 rfl rfl
  refine Qa hC [.F,.n 2,.K [3] [34]] rfl ⟨tt_,j⟩ ?_
  cases h
  exact Q8 rfl (an_ rfl rfl)
 replace h:Qqs A=some r:=h
 rintro e σ ⟨rfl,rfl⟩
 refine tg_ hC [.n 9,.K [2] [34],.ren 34 600] rfl ?_
 cases h
 exact d1_ rfl rfl ⟨rfl,tt_⟩
def QbI (a:QMk):Option QMk:=
 (chk (decide (([]:List QBg).length+a.length≤4294967296))).bind fun _=>
 some (([]:List QBg)++a)
theorem QjX (a){r}(h:QbI a=some r):Qc prog 68 [.sl 1 (a.map Qi)] [] (Gives (.own 600 r.length) [(600,.arr 1 (r.map Qi))]):=by
 refine Qc.walk 8 func68 rfl rfl rfl fun C hC=>?_
 unfold QbI at h
 refine tg_ hC [.n 9] rfl ?_
 refine AK.eqNil rfl rfl rfl (QN hC.n rfl) rfl rfl QEX ?_ ?_
 ·intro b
  replace h:some ([]:List QBg)=some r:=by simpa [chk,List.map_eq_nil_iff.1 b] using h
  refine Qa hC [.n 10,.adopt 2 600 1,.O 600 (.arr 1 (([]:List QBg).map Qi)),.S 2 (.own 600 ([]:List QBg).length)] rfl ⟨⟨tt_,rfl⟩,rfl⟩ ?_
  cases h
  exact d1_ rfl rfl ⟨rfl,tt_⟩
 obtain⟨c,h⟩:=QaW h
 refine Qa hC [.n 8,.O 5 (.arr 1 (([]:List QBg).map Qi)),.S 5 (.own 5 ([]:List QBg).length),.n 1,.app ((([]:List QBg)++a).map Qi) (([]:List QBg)++a).length,.n 4,.K [2] [5],.ren 5 600] rfl ⟨⟨⟨tt_,rfl⟩,rfl⟩,⟨Qf,QbP c Qf,QaY,QcN Qf⟩⟩ ?_
 cases h
 exact d1_ rfl rfl ⟨rfl,tt_⟩
def QhK (e:QMk)(a:Int)(b:QMk):Option ((Int×QMk)⊕QMk):=
 bif (decide (a<(e.length:Int)))then
 (idx b a).bind fun c=>
 (QaZ c).bind fun d=>
 (idx b a).bind fun f=>
 some (.inl ((w64 (a+1)),(b.set a.toNat d)))
 else
 some (.inr b)
def Qrs (a:QMk):Option QMk:=
 some a
def Qg5 (b:QMk):Option QMk:=
 (QbI b).bind fun a=>
 (QJ (fun st=>QhK a st.1 st.2) (0,a)).bind (fun q=>Qrs q)
theorem QkC (t){r}(h:Qg5 t=some r):Qc prog 39 [.sl 1 (t.map Qi)] [] (Gives (.own 600 r.length) [(600,.arr 1 (r.map Qi))]):=by
 refine Qc.walk 22 func39 rfl rfl rfl fun C hC=>?_
 obtain⟨j,k,h⟩:=Qb h
 refine Qa hC [.n 8,.o (.co false [.d] 1 (j.map Qi) j.length),.n 12,.K [3,8,9,10] [7]] rfl ⟨tt_,⟨(QjX _ k),Qf,.inl rfl⟩⟩ ?_
 obtain⟨u,g,h⟩:=Qb h
 refine AK.loop (body:=(fun st=>QhK j st.1 st.2)) (fun st σ=>σ=⟨[(3,.own 7 st.2.length),(8,.own 7 st.2.length),(9,.I (j.length:Int)),(10,.I st.1)],[(7,.arr 1 (st.2.map Qi))]⟩) (fun q e σ=>e=.exit 0∧σ=⟨[(3,.own 7 q.length)],[(7,.arr 1 (q.map Qi))]⟩) g rfl ?_ ?_
 ·rintro ⟨l,m⟩ o σ rfl h
  refine tg_ hC [.n 6] rfl ?_
  rcases Qt h with⟨b,h⟩|⟨b,h⟩
  ·obtain⟨p,c,h⟩:=Qb h
   obtain⟨a,i,h⟩:=Qb h
   obtain⟨s,f,h⟩:=Qb h
   refine Qa hC [.T,.n 8,.o (.row (Qi p)),.n 8,.o (.co false [.d] 2 (a.map QI) a.length),.n 1,.frz 18 (a.map QI) [18] [],.st (Qi s) ((m.set l.toNat a).map Qi),.n 7,.S 3 (.own 7 (m.set l.toNat a).length),.S 8 (.own 7 (m.set l.toNat a).length),.K [3,8,9,10] [7]] rfl ⟨⟨⟨⟨⟨⟨⟨⟨⟨tt_,b⟩,(Qda c rfl)⟩,(QbX (QdK c).2)⟩,⟨(Qgr _ i),Qf,.inl rfl⟩⟩,(Qda f rfl)⟩,⟨tt_,(QbQ Qf)⟩⟩,⟨(QbX (QdK f).2),Qmp rfl⟩⟩,(congrArg (fun n=>V.own 7 n) (by simp))⟩,(congrArg (fun n=>V.own 7 n) (by simp))⟩ ?_
   cases h
   exact Q6 rfl rfl
  refine Qa hC [.F,.n 2,.K [3] [7]] rfl ⟨tt_,b⟩ ?_
  cases h
  exact Q8 rfl (an_ rfl rfl)
 replace h:Qrs u=some r:=h
 rintro e σ ⟨rfl,rfl⟩
 refine tg_ hC [.n 9,.K [2] [7],.ren 7 600] rfl ?_
 cases h
 exact d1_ rfl rfl ⟨rfl,tt_⟩
def Qpm (c:Int)(a:Int)(b:(List Int)):Option ((Int×(List Int))⊕(List Int)):=
 bif (decide (0≤a))then
 (chk (decide (0≤(w64 (8*a))))).bind fun _=>
 (chk (decide (b.length+([(IntKind.u8.wrap (Qbr .i64 c (w64 (8*a))))]:List Int).length≤4294967296))).bind fun _=>
 some (.inl ((w64 (a-1)),(b++([(IntKind.u8.wrap (Qbr .i64 c (w64 (8*a))))]:List Int))))
 else
 some (.inr b)
def Qpn (b:Int)(a:(List Int)):Option ((Int×(List Int))⊕(List Int)):=
 some (.inl ((w64 (b+1)),a))
def Qpo (d:(List Int))(a:Int)(b:Int)(e:(List Int)):Option ((Int×(List Int))⊕(List Int)):=
 bif (decide (b<(d.length:Int)))then
 (idx d b).bind fun c=>
 (QJ (fun st=>Qpm c st.1 st.2) ((w64 (a-1)),e)).bind (fun q=>Qpn b q)
 else
 some (.inr e)
def Qpp (a:(List Int)):Option (List Int):=
 some a
def Qn7 (a:Int)(b:(List Int)):Option (List Int):=
 (QJ (fun st=>Qpo b a st.1 st.2) (0,([]:List Int))).bind (fun q=>Qpp q)
theorem QvA (a g){r}(h:Qn7 a g=some r):Qc prog 155 [.lit (.slice none 0 0),.I a,.sl 1 (g.map Qe)] [] (Gives (.own 600 r.length) [(600,.arr 1 (r.map QaV))]):=by
 refine Qc.walk 32 func155 rfl rfl rfl fun C hC=>?_
 refine Qa hC [.n 9,.o (.ln g.length),.n 4,.adopt 0 22 1,.O 22 (.arr 1 (([]:List Int).map QaV)),.S 0 (.own 22 ([]:List Int).length),.K [0,1,10,11,12] [22]] rfl ⟨⟨⟨tt_,Qf⟩,rfl⟩,(congrArg (fun n=>V.own 22 n) (by simp))⟩ ?_
 obtain⟨x,j,h⟩:=Qb h
 refine AK.loop (body:=(fun st=>Qpo g a st.1 st.2)) (fun st σ=>σ=⟨[(0,.own 22 st.2.length),(1,.I a),(10,.sl 1 (g.map Qe)),(11,.I (g.length:Int)),(12,.I st.1)],[(22,.arr 1 (st.2.map QaV))]⟩) (fun q e σ=>e=.exit 0∧σ=⟨[(0,.own 22 q.length)],[(22,.arr 1 (q.map QaV))]⟩) j rfl ?_ ?_
 ·rintro ⟨u,z⟩ o σ rfl h
  refine tg_ hC [.n 6] rfl ?_
  rcases Qt h with⟨c,h⟩|⟨c,h⟩
  ·obtain⟨b,k,h⟩:=Qb h
   refine Qa hC [.T,.n 6,.o (.row (Qe b)),.n 12,.K [0,1,8,9,10,11,12] [22]] rfl ⟨⟨tt_,c⟩,(QT k)⟩ ?_
   obtain⟨w,l,h⟩:=Qb h
   refine AK.loop (body:=(fun st=>Qpm b st.1 st.2)) (fun st σ=>σ=⟨[(0,.own 22 st.2.length),(1,.I a),(8,.I b),(9,.I st.1),(10,.sl 1 (g.map Qe)),(11,.I (g.length:Int)),(12,.I u)],[(22,.arr 1 (st.2.map QaV))]⟩) (fun q e σ=>e=.exit 2∧σ=⟨[(0,.own 22 q.length),(1,.I a),(10,.sl 1 (g.map Qe)),(11,.I (g.length:Int)),(12,.I u)],[(22,.arr 1 (q.map QaV))]⟩) l rfl ?_ ?_
   ·rintro ⟨d,m⟩ o σ rfl h
    refine tg_ hC [.n 7] rfl ?_
    rcases Qt h with⟨f,h⟩|⟨f,h⟩
    ·obtain⟨p,h⟩:=QaW h
     obtain⟨s,h⟩:=QaW h
     refine Qa hC [.T,.n 9,.o (.any (.I (Qbr .i64 b (w64 (8*d)))) none),.o (.any (.i .u8 (IntKind.u8.wrap (Qbr .i64 b (w64 (8*d))))) none),.v (.bd []) [] (.sl 1 (([(IntKind.u8.wrap (Qbr .i64 b (w64 (8*d))))]:List Int).map QaV)),.app ((m++([(IntKind.u8.wrap (Qbr .i64 b (w64 (8*d))))]:List Int)).map QaV) (m++([(IntKind.u8.wrap (Qbr .i64 b (w64 (8*d))))]:List Int)).length,.n 9,.K [0,1,8,9,10,11,12] [22]] rfl ⟨⟨⟨⟨⟨tt_,f⟩,(fun σ t y _=>Stp.shr rfl rfl (QN hC.n rfl) (t _ _ rfl) (t _ _ rfl) (Q9 p))⟩,(fun σ t y _=>Stp.convI rfl rfl (QN hC.n rfl) (t _ _ rfl) Qvz QAx)⟩,rfl⟩,⟨Qf,QbP s Qf,QaY,QcN Qf⟩⟩ ?_
     cases h
     exact Q6 rfl rfl
    refine Qa hC [.F,.n 2,.K [0,1,10,11,12] [22]] rfl ⟨tt_,f⟩ ?_
    cases h
    exact Q8 rfl (an_ rfl rfl)
   replace h:Qpn u w=some o:=h
   rintro e σ ⟨rfl,rfl⟩
   refine tg_ hC [.n 7,.K [0,1,10,11,12] [22]] rfl ?_
   cases h
   exact Q6 rfl rfl
  refine Qa hC [.F,.n 2,.K [0] [22]] rfl ⟨tt_,c⟩ ?_
  cases h
  exact Q8 rfl (an_ rfl rfl)
 replace h:Qpp x=some r:=h
 rintro e σ ⟨rfl,rfl⟩
 refine tg_ hC [.n 9,.K [6] [22],.ren 22 600] rfl ?_
 cases h
 exact d1_ rfl rfl ⟨rfl,tt_⟩
def Qeo (c:Int)(a:Int)(b:(List Int)):Option ((Int×(List Int))⊕(List Int)):=
 bif (decide (0≤a))then
 (chk (decide (0≤(w64 (8*a))))).bind fun _=>
 (chk (decide (b.length+([(IntKind.u8.wrap (Qbr .i64 c (w64 (8*a))))]:List Int).length≤4294967296))).bind fun _=>
 some (.inl ((w64 (a-1)),(b++([(IntKind.u8.wrap (Qbr .i64 c (w64 (8*a))))]:List Int))))
 else
 some (.inr b)
def QlU (b:Int)(a:(List Int)):Option ((Int×(List Int))⊕(List Int)):=
 some (.inl ((w64 (b+1)),a))
def Qf1 (d:(List Int))(a:Int)(b:Int)(e:(List Int)):Option ((Int×(List Int))⊕(List Int)):=
 bif (decide (b<(d.length:Int)))then
 (idx d b).bind fun c=>
 (QJ (fun st=>Qeo c st.1 st.2) ((w64 (a-1)),e)).bind (fun q=>QlU b q)
 else
 some (.inr e)
def Qpq (a:(List Int)):Option (List Int):=
 some a
def Qgz (b:(List Int))(a:Int)(c:(List Int)):Option (List Int):=
 (QJ (fun st=>Qf1 c a st.1 st.2) (0,b)).bind (fun q=>Qpq q)
theorem Qpr (u a g){r}(h:Qgz u a g=some r):Qc prog 155 [.own 615 u.length,.I a,.sl 1 (g.map Qe)] [(615,.arr 1 (u.map QaV))] (Gives (.own 615 r.length) [(615,.arr 1 (r.map QaV))]):=by
 refine Qc.walk 32 func155 rfl rfl rfl fun C hC=>?_
 refine Qa hC [.n 9,.o (.ln g.length),.n 4,.K [0,1,10,11,12] [615]] rfl ⟨tt_,Qf⟩ ?_
 obtain⟨w,j,h⟩:=Qb h
 refine AK.loop (body:=(fun st=>Qf1 g a st.1 st.2)) (fun st σ=>σ=⟨[(0,.own 615 st.2.length),(1,.I a),(10,.sl 1 (g.map Qe)),(11,.I (g.length:Int)),(12,.I st.1)],[(615,.arr 1 (st.2.map QaV))]⟩) (fun q e σ=>e=.exit 0∧σ=⟨[(0,.own 615 q.length)],[(615,.arr 1 (q.map QaV))]⟩) j rfl ?_ ?_
 ·rintro ⟨x,A⟩ o σ rfl h
  refine tg_ hC [.n 6] rfl ?_
  rcases Qt h with⟨c,h⟩|⟨c,h⟩
  ·obtain⟨b,k,h⟩:=Qb h
   refine Qa hC [.T,.n 6,.o (.row (Qe b)),.n 12,.K [0,1,8,9,10,11,12] [615]] rfl ⟨⟨tt_,c⟩,(QT k)⟩ ?_
   obtain⟨y,l,h⟩:=Qb h
   refine AK.loop (body:=(fun st=>Qeo b st.1 st.2)) (fun st σ=>σ=⟨[(0,.own 615 st.2.length),(1,.I a),(8,.I b),(9,.I st.1),(10,.sl 1 (g.map Qe)),(11,.I (g.length:Int)),(12,.I x)],[(615,.arr 1 (st.2.map QaV))]⟩) (fun q e σ=>e=.exit 2∧σ=⟨[(0,.own 615 q.length),(1,.I a),(10,.sl 1 (g.map Qe)),(11,.I (g.length:Int)),(12,.I x)],[(615,.arr 1 (q.map QaV))]⟩) l rfl ?_ ?_
   ·rintro ⟨d,m⟩ o σ rfl h
    refine tg_ hC [.n 7] rfl ?_
    rcases Qt h with⟨f,h⟩|⟨f,h⟩
    ·obtain⟨p,h⟩:=QaW h
     obtain⟨s,h⟩:=QaW h
     refine Qa hC [.T,.n 9,.o (.any (.I (Qbr .i64 b (w64 (8*d)))) none),.o (.any (.i .u8 (IntKind.u8.wrap (Qbr .i64 b (w64 (8*d))))) none),.v (.bd []) [] (.sl 1 (([(IntKind.u8.wrap (Qbr .i64 b (w64 (8*d))))]:List Int).map QaV)),.app ((m++([(IntKind.u8.wrap (Qbr .i64 b (w64 (8*d))))]:List Int)).map QaV) (m++([(IntKind.u8.wrap (Qbr .i64 b (w64 (8*d))))]:List Int)).length,.n 9,.K [0,1,8,9,10,11,12] [615]] rfl ⟨⟨⟨⟨⟨tt_,f⟩,(fun σ t z _=>Stp.shr rfl rfl (QN hC.n rfl) (t _ _ rfl) (t _ _ rfl) (Q9 p))⟩,(fun σ t z _=>Stp.convI rfl rfl (QN hC.n rfl) (t _ _ rfl) Qvz QAx)⟩,rfl⟩,⟨Qf,QbP s Qf,QaY,QcN Qf⟩⟩ ?_
     cases h
     exact Q6 rfl rfl
    refine Qa hC [.F,.n 2,.K [0,1,10,11,12] [615]] rfl ⟨tt_,f⟩ ?_
    cases h
    exact Q8 rfl (an_ rfl rfl)
   replace h:QlU x y=some o:=h
   rintro e σ ⟨rfl,rfl⟩
   refine tg_ hC [.n 7,.K [0,1,10,11,12] [615]] rfl ?_
   cases h
   exact Q6 rfl rfl
  refine Qa hC [.F,.n 2,.K [0] [615]] rfl ⟨tt_,c⟩ ?_
  cases h
  exact Q8 rfl (an_ rfl rfl)
 replace h:Qpq w=some r:=h
 rintro e σ ⟨rfl,rfl⟩
 refine tg_ hC [.n 9] rfl ?_
 cases h
 exact d1_ rfl rfl ⟨rfl,tt_⟩
def QlV (a:QBg):Option Bool:=
 (Qc4 a).bind fun b=>
 bif (!b)then
 some true
 else
 bif (decide (65535<(a.length:Int)))then
 some true
 else
 bif (decide (0<(a.length:Int)))then
 (idx a (w64 ((a.length:Int)-1))).bind fun c=>
 some (decide (4294967295<c.1))
 else
 some false
def Qf2 (b:QBg)(a:Int)(c:(List Int)):Option ((Int×(List Int))⊕(List Int)):=
 bif (decide (a<(b.length:Int)))then
 (idx b a).bind fun d=>
 (Qgz c 4 ([d.1,d.2]:List Int)).bind fun e=>
 some (.inl ((w64 (a+1)),e))
 else
 some (.inr c)
def QlW (b:Int)(a:(List Int)):Option ((Int×(List Int))⊕(Unit⊕(List Int))):=
 some (.inl ((w64 (b+1)),a))
def Qim (b:(List Int))(a:QBg)(e:Int)(c:Bool):Option ((Int×(List Int))⊕(Unit⊕(List Int))):=
 bif c then
 some (.inr (.inl ()))
 else
 (Qgz b 2 ([(a.length:Int)]:List Int)).bind fun d=>
 (QJ (fun st=>Qf2 a st.1 st.2) (0,d)).bind (fun q=>QlW e q)
def Qf3 (e:QMk)(c:Int)(a:(List Int)):Option ((Int×(List Int))⊕(Unit⊕(List Int))):=
 bif (decide (c<(e.length:Int)))then
 (idx e c).bind fun b=>
 (QlV b).bind (fun d=>Qim a b c d)
 else
 some (.inr (.inr a))
def Qps : Option ((List Int)×Int):=
 some (([]:List Int),1)
def Qpt (a:(List Int)):Option ((List Int)×Int):=
 some (a,0)
def QgA (a:QMk):Option ((List Int)×Int):=
 bif (decide (64<(a.length:Int)))then
 some (([]:List Int),1)
 else
 (Qn7 1 ([(a.length:Int)]:List Int)).bind fun b=>
 (QJ (fun st=>Qf3 a st.1 st.2) (0,b)).bind (Sum.elim (fun q=>Qps) (fun q=>Qpt q))
theorem Qpu (f){r}(h:QgA f=some r):Qc prog 107 [.sl 1 (f.map Qi)] [] (Gives (.tup [.sl 1 (r.1.map QaV),.I r.2]) []):=by
 refine Qc.walk 66 func107 rfl rfl rfl fun C hC=>?_
 refine Qa hC [.n 10,.o (.ln f.length),.n 3] rfl ⟨tt_,Qf⟩ ?_
 rcases Qt h with⟨t,h⟩|⟨t,h⟩
 ·refine Qa hC [.T,.n 8,.denil 2 [some 1]] rfl ⟨tt_,t⟩ ?_
  cases h
  exact d2_ rfl rfl rfl tt_
 obtain⟨Y,N,h⟩:=Qb h
 refine Qa hC [.F,.n 5,.o (.ln f.length),.v (.bd []) [] (.sl 1 (([(f.length:Int)]:List Int).map Qe)),.cm (.fn) [] [(15,600)] [] [.d,.d,.d] [(600,.arr 1 (Y.map QaV))] (.own 600 Y.length),.n 7,.o (.ln f.length),.n 4,.K [4,16,17,18] [15]] rfl ⟨⟨⟨⟨⟨tt_,t⟩,Qf⟩,rfl⟩,(QvA _ _ N)⟩,Qf⟩ ?_
 obtain⟨P,x,h⟩:=Qb h
 refine AK.loop (body:=(fun st=>Qf3 f st.1 st.2)) (fun st σ=>σ=⟨[(4,.own 15 st.2.length),(16,.sl 1 (f.map Qi)),(17,.I (f.length:Int)),(18,.I st.1)],[(15,.arr 1 (st.2.map QaV))]⟩) (Sum.elim (fun q e σ=>e=.ret∧σ=⟨[(2,.lit (.slice none 0 0)),(3,.I 1)],[]⟩) (fun q e σ=>e=.exit 0∧σ=⟨[(4,.own 15 q.length)],[(15,.arr 1 (q.map QaV))]⟩)) x rfl ?_ ?_
 ·rintro ⟨w,s⟩ o σ rfl h
  refine tg_ hC [.n 6] rfl ?_
  rcases Qt h with⟨g,h⟩|⟨g,h⟩
  ·obtain⟨a,y,h⟩:=Qb h
   refine Qa hC [.T,.n 6,.o (.row (Qi a)),.n 6] rfl ⟨⟨tt_,g⟩,(QT y)⟩ ?_
   obtain⟨u,z,h⟩:=Qb h
   replace h:Qim s a w u=some o:=h
   refine AK.meetX (fun σ=>σ=⟨[(4,.own 15 s.length),(6,.sl 2 (a.map QI)),(16,.sl 1 (f.map Qi)),(17,.I (f.length:Int)),(18,.I w),(44,.b u)],[(15,.arr 1 (s.map QaV))]⟩) ?_ ?_
   ·replace h:=z
    obtain⟨U,A,h⟩:=Qb h
    refine Qa hC [.n 2,.o (.c false [.d] (.b U)),.n 2] rfl ⟨tt_,(QfQ _ A)⟩ ?_
    refine bg_ h (fun i h=>Qa hC [.S 25 (.b true),.n 20,.K [4,6,16,17,18,44] [15]] rfl (tc_ i) ?_) fun i h=>Qa hC [.S 25 (.b false),.n 1,.o (.ln a.length),.n 3] rfl ⟨(tc_ i),Qf⟩ ?_
    ·cases h
     exact AK.met rfl
    refine bg_ h (fun j h=>Qa hC [.S 30 (.b true),.n 15,.K [4,6,16,17,18,44] [15]] rfl (tc_ j) ?_) fun j h=>Qa hC [.S 30 (.b false),.n 1,.o (.ln a.length),.n 2] rfl ⟨(tc_ j),Qf⟩ ?_
    ·cases h
     exact AK.met rfl
    rcases Qt h with⟨k,h⟩|⟨k,h⟩
    ·obtain⟨W,B,h⟩:=Qb h
     refine Qa hC [.S 34 (.b true),.n 2,.o (.ln a.length),.n 1,.o (.row (QI W)),.n 6,.K [4,6,16,17,18,44] [15]] rfl ⟨⟨(tc_ k),Qf⟩,(QT B)⟩ ?_
     cases h
     exact AK.met rfl
    refine Qa hC [.S 34 (.b false),.n 11,.K [4,6,16,17,18,44] [15]] rfl (tc_ k) ?_
    cases h
    exact AK.met rfl
   rintro σ rfl
   replace h:Qim s a w u=some o:=h
   refine tg_ hC [.n 1] rfl ?_
   rcases Qt h with⟨l,h⟩|⟨l,h⟩
   ·refine Qa hC [.T,.n 10,.K [2,3] []] rfl ⟨tt_,l⟩ ?_
    cases h
    exact Qav rfl (an_ rfl rfl)
   obtain⟨D,E,h⟩:=Qb h
   refine Qa hC [.F,.n 6,.o (.ln a.length),.v (.bd []) [] (.sl 1 (([(a.length:Int)]:List Int).map Qe)),.cm (.fn) [(615,15)] [(15,615)] [15] [.d,.d,.d] [(615,.arr 1 (D.map QaV))] (.own 615 D.length),.n 6,.o (.ln a.length),.n 4,.K [4,16,17,18,50,51,52] [15]] rfl ⟨⟨⟨⟨⟨tt_,l⟩,Qf⟩,rfl⟩,(Qpr _ _ _ E)⟩,Qf⟩ ?_
   obtain⟨X,G,h⟩:=Qb h
   refine AK.loop (body:=(fun st=>Qf2 a st.1 st.2)) (fun st σ=>σ=⟨[(4,.own 15 st.2.length),(16,.sl 1 (f.map Qi)),(17,.I (f.length:Int)),(18,.I w),(50,.sl 2 (a.map QI)),(51,.I (a.length:Int)),(52,.I st.1)],[(15,.arr 1 (st.2.map QaV))]⟩) (fun q e σ=>e=.exit 2∧σ=⟨[(4,.own 15 q.length),(16,.sl 1 (f.map Qi)),(17,.I (f.length:Int)),(18,.I w)],[(15,.arr 1 (q.map QaV))]⟩) G rfl ?_ ?_
   ·rintro ⟨Z,a0⟩ o σ rfl h
    refine tg_ hC [.n 6] rfl ?_
    rcases Qt h with⟨m,h⟩|⟨m,h⟩
    ·obtain⟨p,H,h⟩:=Qb h
     obtain⟨J,L,h⟩:=Qb h
     refine Qa hC [.T,.n 6,.o (.row (QI p)),.v .no [] (.agg (QI p)),.n 2,.O 8 (.var (QI p)),.n 8,.v (.bd []) [] (.sl 1 (([p.1,p.2]:List Int).map Qe)),.cm (.fn) [(615,15)] [(15,615)] [15] [.d,.d,.d] [(615,.arr 1 (J.map QaV))] (.own 615 J.length),.n 8,.K [4,16,17,18,50,51,52] [15]] rfl ⟨⟨⟨⟨⟨⟨tt_,m⟩,(QT H)⟩,rfl⟩,rfl⟩,rfl⟩,(Qpr _ _ _ L)⟩ ?_
     cases h
     exact Q6 rfl rfl
    refine Qa hC [.F,.n 2,.K [4,16,17,18] [15]] rfl ⟨tt_,m⟩ ?_
    cases h
    exact Q8 rfl (an_ rfl rfl)
   replace h:QlW w X=some o:=h
   rintro e σ ⟨rfl,rfl⟩
   refine tg_ hC [.n 7,.K [4,16,17,18] [15]] rfl ?_
   cases h
   exact Q6 rfl rfl
  refine Qa hC [.F,.n 2,.K [4] [15]] rfl ⟨tt_,g⟩ ?_
  cases h
  exact Q8 rfl (an_ rfl rfl)
 rcases P with(_ | M)
 ·replace h:Qps=some r:=h
  rintro e σ ⟨rfl,rfl⟩
  refine tg_ hC [.n 2,.denil 2 [some 1]] rfl ?_
  cases h
  exact d2_ rfl rfl rfl tt_
 replace h:Qpt M=some r:=h
 rintro e σ ⟨rfl,rfl⟩
 refine Qa hC [.n 10,.frz 15 (M.map QaV) [2] []] rfl ⟨tt_,⟨tt_,(QbQ Qf)⟩⟩ ?_
 cases h
 exact d2_ rfl rfl rfl tt_
def QnJ (a:QMk):Option ByteArray:=
 (QgA a).bind fun b=>
 some (Qjo b.1)
theorem Qrt (e){r}(h:QnJ e=some r):Qc prog 67 [.sl 1 (e.map Qi)] [] (Gives (.s r) []):=by
 refine Qc.walk 12 func67 rfl rfl rfl fun C hC=>?_
 obtain⟨a,b,h⟩:=Qb h
 refine Qa hC [.n 8,.o (.c false [.d] (.tup [.sl 1 (a.1.map QaV),.I a.2])),.n 10,.o (.any (.s (Qjo a.1)) none),.n 4] rfl ⟨⟨tt_,(Qpu _ b)⟩,(fun σ f g _=>Stp.b2s rfl rfl (QN hC.n rfl) (f _ _ rfl) rfl QBA QAx (Qs.sb rfl))⟩ ?_
 cases h
 exact d1_ rfl rfl tt_
def Qc5 (g:(List QH))(h:(List QM))(i:(List QC))(j:Int)(k:Int)(f:Int)(d:(List (ByteArray×Int)))(b:(List QMk))(m:(List QS))(c:Bool)(a:QMk):Option (Int×(List QMk)×(List QH)×(List QM)×(List QC)×Int×Int×Int×Bool×(List (ByteArray×Int))):=
 (QnJ a).bind fun e=>
 bif (Qv d e).isSome then
 some (((Qv d e).getD 0),b,g,h,i,j,k,f,c,d)
 else
 bif (decide ((min2 f 4096)≤(b.length:Int)))then
 some ((-1),b,g,h,i,j,k,f,c,d)
 else
 (QnJ a).bind fun l=>
 (chk (decide (b.length+([a]:List QMk).length≤4294967296))).bind fun _=>
 some ((b.length:Int),(b++([a]:List QMk)),g,h,i,j,k,f,c,(Qag ltS d l (b.length:Int)))
theorem Qjq (D E G H J L q p w t g){r}(h:Qc5 D E G H J L q p w t g=some r):Qc prog 38 [.loc 617 0 0,.sl 1 (g.map Qi)] [(617,.var [.sl 7 (D.map Qr),.sl 3 (E.map Qp),.sl 14 (G.map Qh),.I H,.I J,.I L,.map 618,.own 615 p.length,.own 616 w.length,.b t]),(618,.map (QA V.s V.I q)),(615,.arr 1 (p.map Qu)),(616,.arr 6 (w.map QZ))] (Gives (.I r.1) [(615,.arr 1 (r.2.1.map Qu)),(616,.arr 6 (w.map QZ)),(617,.var [.sl 7 (r.2.2.1.map Qr),.sl 3 (r.2.2.2.1.map Qp),.sl 14 (r.2.2.2.2.1.map Qh),.I r.2.2.2.2.2.1,.I r.2.2.2.2.2.2.1,.I r.2.2.2.2.2.2.2.1,.map 618,.own 615 r.2.1.length,.own 616 w.length,.b r.2.2.2.2.2.2.2.2.1]),(618,.map (QA V.s V.I r.2.2.2.2.2.2.2.2.2))]):=by
 refine Qc.walk 59 func38 rfl rfl rfl fun C hC=>?_
 obtain⟨o,y,h⟩:=Qb h
 refine tg_ hC [.n 6,.K [0,1] [615,616,617,618]] rfl ?_
 refine AK.draw2 Qs hC mixed [.N,.N,.N,.N,.N,.a (.c false [.d] (.s o)) none false,.a (.any (.tup [.I ((Qv q o).getD 0),.b (Qv q o).isSome]) none) none false,.N,.N,.N,.N,.N] [] [] [0,1,5,6] [615,616,617,618] rfl rfl rfl ⟨⟨tt_,(Qrt _ y)⟩,(fun σ x M _=>Stp.lookupOk (e:=V.s) (f:=V.I) (l:=q) (k:=o) (z:=0) rfl rfl (QN hC.n rfl) (x _ _ rfl) (M _ _ rfl) (x _ _ rfl) QDr Qsy Qk9 rfl rfl)⟩ rfl (by kernel_rfl) rfl rfl rfl ?_
 refine tg_ hC [.n 9] rfl ?_
 refine bg_ h (fun i h=>Qa hC [.T,.n 9,.K [4] [615,616,617,618]] rfl ⟨tt_,i⟩ ?_) fun i h=>Qa hC [.F,.n 1,.K [0,1] [615,616,617,618]] rfl ⟨tt_,i⟩ ?_
 ·cases h
  exact d1_ rfl rfl ⟨rfl,rfl,rfl,rfl,tt_⟩
 refine AK.draw2 Qs hC mixed [.N,.N,.N,.N,.N,.N,.N,.N,.N,.N,.N,.N,.N] [] [] [0,1,20] [615,616,617,618] rfl rfl rfl tt_ rfl (by kernel_rfl) rfl rfl rfl ?_
 refine tg_ hC [.n 1] rfl ?_
 rcases Qt h with⟨j,h⟩|⟨j,h⟩
 ·refine Qa hC [.T,.n 8] rfl ⟨tt_,j⟩ ?_
  cases h
  exact d1_ rfl rfl ⟨rfl,rfl,rfl,rfl,tt_⟩
 obtain⟨u,A,h⟩:=Qb h
 refine Qa hC [.F,.n 15,.K [0,1,5] [615,616,617,618]] rfl ⟨tt_,j⟩ ?_
 refine AK.draw2 Qs hC mixed [.N,.N,.N,.N,.N,.a (.c false [.d] (.s u)) none false,.N,.m (.any ⟨[],[(618,.map (QA V.s V.I (Qag ltS q u (p.length:Int))))],none⟩)] [] [] [0,1,5] [615,616,617,618] rfl rfl rfl ⟨⟨tt_,(Qrt _ A)⟩,(fun σ x M=>Stp.mapUpdate (e:=V.s) (f:=V.I) (l:=q) (k:=u) (v:=(p.length:Int)) ltS rfl rfl (x _ _ rfl) (M _ _ rfl) (x _ _ rfl) (x _ _ rfl) QDr Qsy rfl)⟩ rfl (by kernel_rfl) rfl rfl rfl ?_
 obtain⟨B,h⟩:=QaW h
 refine Qa hC [.n 10,.v (.bd []) [] (.sl 1 (([g]:List QMk).map Qu)),.app ((p++([g]:List QMk)).map Qu) (p++([g]:List QMk)).length,.n 4,.O 617 (.var [.sl 7 (D.map Qr),.sl 3 (E.map Qp),.sl 14 (G.map Qh),.I H,.I J,.I L,.map 618,.own 615 (p++([g]:List QMk)).length,.own 616 w.length,.b t]),.n 9] rfl ⟨⟨⟨tt_,rfl⟩,⟨Qf,QbP B Qf,QaY,QcN Qf⟩⟩,rfl⟩ ?_
 cases h
 exact d1_ rfl rfl ⟨rfl,rfl,rfl,rfl,tt_⟩
def Qru (a:Unit):Option Int:=
 some 0
noncomputable def Qep (n9:Int)(k11:Int)(v12:Int):Option (Int⊕Empty):=
 some (.inl (w64 (n9+v12)))
def Qrv (a:Int):Option Int:=
 some a
noncomputable def QkD (a6:QBg):Option Int:=
 (QiR (fun st p=>Qep st p.1 p.2) 0 a6).bind (Sum.elim (fun q=>Qrv q) (fun q=>Empty.elim q))
def QnK (a:QBg):Option Int:=
 (QlT a).bind (Sum.elim (fun q=>Qru q) (fun q=>QkD q))
theorem Qxn (w){r}(h:QnK w=some r):Qc prog 69 [.sl 2 (w.map QI)] [] (Gives (.I r) []):=by
 refine Qc.walk 23 func69 rfl rfl rfl fun C hC=>?_
 obtain⟨z,g,h⟩:=Qb h
 refine tg_ hC [.n 8] rfl ?_
 rcases z with(A | t)
 ·replace h:Qru A=some r:=h
  refine Qa hC [.cm (.fn) [] [] [] [.d] [] (.tup [.lit (.map none),.b false]),.n 16,.x (fun σ=>(σ.set 14 .itr0).put 14 (.loc 14 0 0)),.n 3] rfl ⟨⟨tt_,(QfM _ g)⟩,(Stp.range0 rfl rfl (QN hC.n rfl) rfl QeN rfl)⟩ ?_
  refine AK.loopOnce ?_
  refine Qa hC [.n 2,.x (fun σ=>σ.put 15 (.tup [.b false])),.n 17] rfl ⟨tt_,(Stp.next0 rfl rfl (QN hC.n rfl) rfl rfl)⟩ ?_
  cases h
  exact d1_ rfl rfl tt_
 replace h:QkD t=some r:=h
 refine Qa hC [.cm (.fn) [] [(10,601)] [] [.d] [(601,.map (QA V.I V.I t))] (.tup [.map 601,.b true]),.n 16] rfl ⟨tt_,(QfM _ g)⟩ ?_
 refine AK.openMap (b:=10) Qdh rfl fun a c L7 i j=>?_
 refine Qa hC [.x (fun σ=>(σ.set 14 (.itr a c #[] none)).put 14 (.loc 14 0 0)),.n 3,.K [5,14] [10,14]] rfl ⟨tt_,(Stp.range (b:=10) rfl rfl (QN hC.n rfl) rfl rfl QeN rfl)⟩ ?_
 obtain⟨u,k,h⟩:=Qb h
 refine AK.range (body:=(fun st p=>Qep st p.1 p.2)) (fun st seen σ=>∃cur:Option MapEntry,σ=⟨[(5,.I st),(14,.loc 14 0 0)],[(10,.mapX a c (QhG V.I V.I L7) (QA V.I V.I t)),(14,.itr a c seen cur)]⟩) (fun (q:Empty) _ _=>False) (fun st e σ=>e=.exit 0∧σ=⟨[(5,.I st)],[]⟩) i j k (ex_ _ rfl) ?_ ?_
 ·rintro v seen σ ⟨cur,rfl⟩ hex
  refine tg_ hC [.n 2] rfl ?_
  refine AK.nextT (b:=14) (m:=10) rfl rfl rfl (QN hC.n rfl) rfl rfl rfl rfl ?_ ?_
  ·intro hleft
   refine tg_ hC [.n 7,.K [5] []] rfl ?_
   exact AK.done (Or.inl (an_ hleft (an_ (fun h=>(by cases h)) (an_ rfl rfl))))
  intro y l s f
  obtain⟨o,h⟩:=hex _ f
  have ho:=h
  replace h:Qep v l s=some o:=h
  refine Qa hC [.n 10,.x (fun σ=>σ.put 17 (.tup [.I l,.I s])),.n 11,.K [5,14] [10,14]] rfl ⟨tt_,(Stp.entryT (b:=14) (m:=10) rfl rfl (QN hC.n rfl) rfl f rfl rfl)⟩ ?_
  cases h
  exact AK.done (Or.inr (ex_ _ (an_ f (Or.inl (ex_ _ (an_ ho (an_ rfl (ex_ _ rfl))))))))
 rcases u with(v | q)
 ·replace h:Qrv v=some r:=h
  rintro e σ ⟨rfl,rfl⟩
  refine tg_ hC [.n 9] rfl ?_
  cases h
  exact d1_ rfl rfl tt_
 exact q.elim
def QgK (c:QMk)(d:Int)(a:Int):Option ((Int×Int)⊕Int):=
 bif (decide (a<(c.length:Int)))then
 (idx c a).bind fun e=>
 (QnK e).bind fun b=>
 some (.inl ((w64 (d+b)),(w64 (a+1))))
 else
 some (.inr d)
def Qqt (a:Int):Option Int:=
 some a
def Qj5 (a:QMk):Option Int:=
 (QJ (fun st=>QgK a st.1 st.2) (0,0)).bind (fun q=>Qqt q)
theorem Qqu (b){r}(h:Qj5 b=some r):Qc prog 40 [.sl 1 (b.map Qi)] [] (Gives (.I r) []):=by
 refine Qc.walk 18 func40 rfl rfl rfl fun C hC=>?_
 refine Qa hC [.n 14,.o (.ln b.length),.n 4,.K [3,6,7,8] []] rfl ⟨tt_,Qf⟩ ?_
 obtain⟨k,f,h⟩:=Qb h
 refine AK.loop (body:=(fun st=>QgK b st.1 st.2)) (fun st σ=>σ=⟨[(3,.I st.1),(6,.sl 1 (b.map Qi)),(7,.I (b.length:Int)),(8,.I st.2)],[]⟩) (fun q e σ=>e=.exit 0∧σ=⟨[(3,.I q)],[]⟩) f rfl ?_ ?_
 ·rintro ⟨m,p⟩ o σ rfl h
  refine tg_ hC [.n 6] rfl ?_
  rcases Qt h with⟨a,h⟩|⟨a,h⟩
  ·obtain⟨l,i,h⟩:=Qb h
   obtain⟨j,g,h⟩:=Qb h
   refine Qa hC [.T,.n 6,.o (.row (Qi l)),.n 7,.o (.c false [.d] (.I j)),.n 9,.K [3,6,7,8] []] rfl ⟨⟨⟨tt_,a⟩,(QT i)⟩,(Qxn _ g)⟩ ?_
   cases h
   exact Q6 rfl rfl
  refine Qa hC [.F,.n 2,.K [3] []] rfl ⟨tt_,a⟩ ?_
  cases h
  exact Q8 rfl (an_ rfl rfl)
 replace h:Qqt k=some r:=h
 rintro e σ ⟨rfl,rfl⟩
 refine tg_ hC [.n 9] rfl ?_
 cases h
 exact d1_ rfl rfl tt_
def Qfk (a:QLL):Option QLL:=
 some a
def Qoi (b:Int)(a:Int)(c:(List Int)):Option ((Int×(List Int))⊕(List Int)):=
 bif (decide (a<b))then
 (chk (decide (c.length+([a]:List Int).length≤4294967296))).bind fun _=>
 some (.inl ((w64 (a+1)),(c++([a]:List Int))))
 else
 some (.inr c)
def Qoj (a:(List Int)):Option QLL:=
 some ([a]:List (List Int))
def Qok (b:Int)(a:Int)(c:QLL):Option ((Int×QLL)⊕QLL):=
 bif (decide (a<b))then
 (chk (decide (c.length+([([a]:List Int)]:List (List Int)).length≤4294967296))).bind fun _=>
 some (.inl ((w64 (a+1)),(c++([([a]:List Int)]:List (List Int)))))
 else
 some (.inr c)
def Qla (a:QLL):Option QLL:=
 Qfk a
def Qlb (a:Int)(b:(List Int)):Option ((Int×(List Int))⊕(List Int)):=
 some (.inl ((w64 (a+1)),b))
def Qol (c:Int)(set_33:Int)(a:Int)(b:(List Int)):Option ((Int×(List Int))⊕(List Int)):=
 bif (decide (a<c))then
 (chk (decide (0≤a))).bind fun _=>
 bif ((Qd7 .i64 (Qbr .i64 set_33 a) 1)==1)then
 (chk (decide (b.length+([a]:List Int).length≤4294967296))).bind fun _=>
 Qlb a (b++([a]:List Int))
 else
 Qlb a b
 else
 some (.inr b)
def Qom (a:QLL)(set_33:Int)(b:(List Int)):Option ((Int×QLL)⊕QLL):=
 (chk (decide (a.length+([b]:List (List Int)).length≤4294967296))).bind fun _=>
 some (.inl ((w64 (set_33+1)),(a++([b]:List (List Int)))))
def Qon (a:Int)(set_33:Int)(b:QLL):Option ((Int×QLL)⊕QLL):=
 (chk (decide (0≤a))).bind fun _=>
 bif (decide (set_33<(QAq .i64 1 a)))then
 (QJ (fun st=>Qol a set_33 st.1 st.2) (0,([]:List Int))).bind (fun q=>Qom b set_33 q)
 else
 some (.inr b)
def Qj6 (a:QLL):Option QLL:=
 Qfk a
def Qcg (b:Int)(a:Int):Option QLL:=
 bif ((decide (a<0))||((decide (16<a))||((b==3)&&(decide (4<a)))))then
 some ([]:List (List Int))
 else
 bif (b==1)then
 (QJ (fun st=>Qoi a st.1 st.2) (0,([]:List Int))).bind (fun q=>Qoj q)
 else
 bif (b==2)then
 (QJ (fun st=>Qok a st.1 st.2) (0,([]:List (List Int)))).bind (fun q=>Qla q)
 else
 bif (b==3)then
 (QJ (fun st=>Qon a st.1 st.2) (1,([]:List (List Int)))).bind (fun q=>Qj6 q)
 else
 Qfk ([]:List (List Int))
theorem Qlc (c a){r}(h:Qcg c a=some r):Qc prog 97 [.I c,.I a] [] (Gives (.own 600 r.length) [(600,.arr 1 (r.map QK))]):=by
 refine Qc.walk 79 func97 rfl rfl rfl fun C hC=>?_
 unfold Qcg at h
 refine tg_ hC [.n 7] rfl ?_
 refine AK.meetX (fun σ=>σ=⟨[(0,.I c),(1,.I a),(25,.b ((decide (a<0))||((decide (16<a))||((c==3)&&(decide (4<a))))))],[]⟩) ?_ ?_
 ·refine tg_ hC [.n 4] rfl ?_
  rcases Q7 (decide (a<0))with f | f
  ·refine Qa hC [.S 14 (.b true),.n 12,.S 25 (.b ((decide (a<0))||((decide (16<a))||((c==3)&&(decide (4<a)))))),.K [0,1,25] []] rfl ⟨(tc_ f),(congrArg V.b (orT f rfl))⟩ ?_
   exact AK.met rfl
  refine Qa hC [.S 14 (.b false),.n 4] rfl (tc_ f) ?_
  rcases Q7 (decide (16<a))with i | i
  ·refine Qa hC [.S 18 (.b true),.n 8,.S 25 (.b ((decide (a<0))||((decide (16<a))||((c==3)&&(decide (4<a)))))),.K [0,1,25] []] rfl ⟨(tc_ i),(congrArg V.b (orF f (orT i rfl)))⟩ ?_
   exact AK.met rfl
  refine Qa hC [.S 18 (.b false),.n 3] rfl (tc_ i) ?_
  rcases Q7 (c==3)with j | j
  ·refine Qa hC [.S 21 (.b true),.n 5,.S 25 (.b ((decide (a<0))||((decide (16<a))||((c==3)&&(decide (4<a)))))),.K [0,1,25] []] rfl ⟨(tc_ j),(congrArg V.b (orF f (orF i (Qb8 j rfl))))⟩ ?_
   exact AK.met rfl
  refine Qa hC [.S 21 (.b false),.n 5,.S 25 (.b ((decide (a<0))||((decide (16<a))||((c==3)&&(decide (4<a)))))),.K [0,1,25] []] rfl ⟨(tc_ j),(congrArg V.b (orF f (orF i (Qd6 j rfl))))⟩ ?_
  exact AK.met rfl
 rintro σ rfl
 refine tg_ hC [.n 1] rfl ?_
 refine bg_ h (fun E h=>Qa hC [.T,.n 7,.adopt 4 600 1,.O 600 (.arr 1 (([]:List (List Int)).map QK)),.S 4 (.own 600 ([]:List (List Int)).length),.K [4] [600]] rfl ⟨⟨⟨tt_,E⟩,rfl⟩,rfl⟩ ?_) fun E h=>Qa hC [.F,.n 7] rfl ⟨tt_,E⟩ ?_
 ·cases h
  exact d1_ rfl rfl ⟨rfl,tt_⟩
 refine AK.meet (fun σ=>∃y:QLL,σ=⟨[(5,.own 604 y.length)],[(604,.arr 1 (y.map QK))]⟩∧Qfk y=some r) ?_ ?_
 ·refine tg_ hC [.n 12] rfl ?_
  refine bg_ h (fun k h=>Qa hC [.T,.n 13,.adopt 6 33 1,.O 33 (.arr 1 (([]:List Int).map Qe)),.S 6 (.own 33 ([]:List Int).length),.K [6,29,30] [33]] rfl ⟨⟨⟨tt_,k⟩,rfl⟩,(congrArg (fun n=>V.own 33 n) (by simp))⟩ ?_) fun k h=>Qa hC [.F,.n 6] rfl ⟨tt_,k⟩ ?_
  ·obtain⟨z,H,h⟩:=Qb h
   refine AK.loop (body:=(fun st=>Qoi a st.1 st.2)) (fun st σ=>σ=⟨[(6,.own 33 st.2.length),(29,.I a),(30,.I st.1)],[(33,.arr 1 (st.2.map Qe))]⟩) (fun q e σ=>e=.exit 1∧σ=⟨[(6,.own 33 q.length)],[(33,.arr 1 (q.map Qe))]⟩) H rfl ?_ ?_
   ·rintro ⟨G,J⟩ o σ rfl h
    refine tg_ hC [.n 6] rfl ?_
    rcases Qt h with⟨l,h⟩|⟨l,h⟩
    ·obtain⟨L,h⟩:=QaW h
     refine Qa hC [.T,.n 13,.v (.bd []) [] (.sl 1 (([G]:List Int).map Qe)),.app ((J++([G]:List Int)).map Qe) (J++([G]:List Int)).length,.n 8,.K [6,29,30] [33]] rfl ⟨⟨⟨tt_,l⟩,rfl⟩,⟨Qf,QbP L Qf,QaY,QcN Qf⟩⟩ ?_
     cases h
     exact Q6 rfl rfl
    refine Qa hC [.F,.n 2,.K [6] [33]] rfl ⟨tt_,l⟩ ?_
    cases h
    exact Q8 rfl (an_ rfl rfl)
   replace h:Qoj z=some r:=h
   rintro e σ ⟨rfl,rfl⟩
   refine Qa hC [.n 5,.frz 33 (z.map Qe) [6,38] [],.n 1,.O 39 (.arr 1 (([z]:List (List Int)).map QK)),.S 39 (.own 39 ([z]:List (List Int)).length),.n 6,.K [4] [39],.ren 39 600] rfl ⟨⟨⟨tt_,⟨⟨tt_,(QbQ Qf)⟩,(QbQ Qf)⟩⟩,rfl⟩,rfl⟩ ?_
   cases h
   exact d1_ rfl rfl ⟨rfl,tt_⟩
  refine bg_ h (fun m h=>Qa hC [.T,.n 7,.adopt 5 46 1,.O 46 (.arr 1 (([]:List (List Int)).map QK)),.S 5 (.own 46 ([]:List (List Int)).length),.K [5,42,43] [46]] rfl ⟨⟨⟨tt_,m⟩,rfl⟩,(congrArg (fun n=>V.own 46 n) (by simp))⟩ ?_) fun m h=>Qa hC [.F,.n 6] rfl ⟨tt_,m⟩ ?_
  ·obtain⟨a2,M,h⟩:=Qb h
   refine AK.loop (body:=(fun st=>Qok a st.1 st.2)) (fun st σ=>σ=⟨[(5,.own 46 st.2.length),(42,.I a),(43,.I st.1)],[(46,.arr 1 (st.2.map QK))]⟩) (fun q e σ=>e=.exit 3∧σ=⟨[(5,.own 46 q.length)],[(46,.arr 1 (q.map QK))]⟩) M rfl ?_ ?_
   ·rintro ⟨A,N⟩ o σ rfl h
    refine tg_ hC [.n 6] rfl ?_
    rcases Qt h with⟨p,h⟩|⟨p,h⟩
    ·obtain⟨P,h⟩:=QaW h
     refine Qa hC [.T,.n 13,.v (.bd []) [] (.sl 1 (([A]:List Int).map Qe)),.v (.bd []) [] (.sl 1 (([([A]:List Int)]:List (List Int)).map QK)),.app ((N++([([A]:List Int)]:List (List Int))).map QK) (N++([([A]:List Int)]:List (List Int))).length,.n 8,.K [5,42,43] [46]] rfl ⟨⟨⟨⟨tt_,p⟩,rfl⟩,rfl⟩,⟨Qf,QbP P Qf,QaY,QcN Qf⟩⟩ ?_
     cases h
     exact Q6 rfl rfl
    refine Qa hC [.F,.n 2,.K [5] [46]] rfl ⟨tt_,p⟩ ?_
    cases h
    exact Q8 rfl (an_ rfl rfl)
   replace h:Qla a2=some r:=h
   unfold Qla at h
   rintro e σ ⟨rfl,rfl⟩
   refine tg_ hC [.n 2,.ren 46 604,.K [5] [604]] rfl ?_
   exact AK.met (ex_ _ (an_ rfl h))
  refine bg_ h (fun s h=>Qa hC [.T,.n 6,.adopt 5 74 1,.O 74 (.arr 1 (([]:List (List Int)).map QK)),.S 5 (.own 74 ([]:List (List Int)).length),.K [1,5,9] [74]] rfl ⟨⟨⟨tt_,s⟩,rfl⟩,(congrArg (fun n=>V.own 74 n) (by simp))⟩ ?_) fun s h=>Qa hC [.F,.n 2,.adopt 5 604 1,.O 604 (.arr 1 (([]:List (List Int)).map QK)),.S 5 (.own 604 ([]:List (List Int)).length),.K [5] [604]] rfl ⟨⟨⟨tt_,s⟩,rfl⟩,(congrArg (fun n=>V.own 604 n) (by simp))⟩ ?_
  ·obtain⟨a3,U,h⟩:=Qb h
   refine AK.loop (body:=(fun st=>Qon a st.1 st.2)) (fun st σ=>σ=⟨[(1,.I a),(5,.own 74 st.2.length),(9,.I st.1)],[(74,.arr 1 (st.2.map QK))]⟩) (fun q e σ=>e=.exit 5∧σ=⟨[(5,.own 74 q.length)],[(74,.arr 1 (q.map QK))]⟩) U rfl ?_ ?_
   ·rintro ⟨set_33,d⟩ o σ rfl h
    obtain⟨W,h⟩:=QaW h
    refine Qa hC [.n 5,.o (.any (.I (QAq .i64 1 a)) none),.n 3] rfl ⟨tt_,(fun σ D h2 _=>Stp.shl rfl rfl (QN hC.n rfl) (D _ _ rfl) (D _ _ rfl) (Q9 W))⟩ ?_
    refine bg_ h (fun t h=>Qa hC [.T,.n 17,.adopt 10 69 1,.O 69 (.arr 1 (([]:List Int).map Qe)),.S 10 (.own 69 ([]:List Int).length),.K [1,5,9,10,60,61] [69,74]] rfl ⟨⟨⟨tt_,t⟩,rfl⟩,(congrArg (fun n=>V.own 69 n) (by simp))⟩ ?_) fun t h=>Qa hC [.F,.n 2,.K [5] [74]] rfl ⟨tt_,t⟩ ?_
    ·obtain⟨u,X,h⟩:=Qb h
     refine AK.loop (body:=(fun st=>Qol a set_33 st.1 st.2)) (fun st σ=>σ=⟨[(1,.I a),(5,.own 74 d.length),(9,.I set_33),(10,.own 69 st.2.length),(60,.I a),(61,.I st.1)],[(69,.arr 1 (st.2.map Qe)),(74,.arr 1 (d.map QK))]⟩) (fun q e σ=>e=.exit 7∧σ=⟨[(1,.I a),(5,.own 74 d.length),(9,.I set_33),(10,.own 69 q.length)],[(69,.arr 1 (q.map Qe)),(74,.arr 1 (d.map QK))]⟩) X rfl ?_ ?_
     ·rintro ⟨g,Y⟩ o σ rfl h
      refine tg_ hC [.n 6] rfl ?_
      refine bg_ h (fun w h=>Qa hC [.T,.n 2] rfl ⟨tt_,w⟩ ?_) fun w h=>Qa hC [.F,.n 2,.K [1,5,9,10] [69,74]] rfl ⟨tt_,w⟩ ?_
      ·refine AK.meet (fun σ=>∃B:(List Int),σ=⟨[(1,.I a),(5,.own 74 d.length),(9,.I set_33),(10,.own 69 B.length),(60,.I a),(61,.I g)],[(69,.arr 1 (B.map Qe)),(74,.arr 1 (d.map QK))]⟩∧Qlb g B=some o) ?_ ?_
       ·obtain⟨Z,h⟩:=QaW h
        refine Qa hC [.n 11,.o (.any (.I (Qbr .i64 set_33 g)) none),.o (.any (.I (Qd7 .i64 (Qbr .i64 set_33 g) 1)) none),.n 3] rfl ⟨⟨tt_,(fun σ D h2 _=>Stp.shr rfl rfl (QN hC.n rfl) (D _ _ rfl) (D _ _ rfl) (Q9 Z))⟩,(fun σ D h2 _=>Stp.andB rfl rfl (QN hC.n rfl) (D _ _ rfl) (D _ _ rfl))⟩ ?_
        rcases Qt h with⟨x,h⟩|⟨x,h⟩
        ·obtain⟨a0,h⟩:=QaW h
         refine Qa hC [.T,.n 3,.v (.bd []) [] (.sl 1 (([g]:List Int).map Qe)),.app ((Y++([g]:List Int)).map Qe) (Y++([g]:List Int)).length,.n 3,.K [1,5,9,10,60,61] [69,74]] rfl ⟨⟨⟨tt_,x⟩,rfl⟩,⟨Qf,QbP a0 Qf,QaY,QcN Qf⟩⟩ ?_
         exact AK.met (ex_ _ (an_ rfl h))
        refine Qa hC [.F,.n 2,.K [1,5,9,10,60,61] [69,74]] rfl ⟨tt_,x⟩ ?_
        exact AK.met (ex_ _ (an_ rfl h))
       rintro σ ⟨B,rfl,h⟩
       refine tg_ hC [.n 4,.K [1,5,9,10,60,61] [69,74]] rfl ?_
       cases h
       exact Q6 rfl rfl
      cases h
      exact Q8 rfl (an_ rfl rfl)
     replace h:Qom d set_33 u=some o:=h
     rintro e σ ⟨rfl,rfl⟩
     obtain⟨a1,h⟩:=QaW h
     refine Qa hC [.n 5,.frz 69 (u.map Qe) [10,75] [],.v (.bd []) [] (.sl 1 (([u]:List (List Int)).map QK)),.app ((d++([u]:List (List Int))).map QK) (d++([u]:List (List Int))).length,.n 9,.K [1,5,9] [74]] rfl ⟨⟨⟨tt_,⟨⟨tt_,(QbQ Qf)⟩,(QbQ Qf)⟩⟩,rfl⟩,⟨Qf,QbP a1 Qf,QaY,QcN Qf⟩⟩ ?_
     cases h
     exact Q6 rfl rfl
    cases h
    exact Q8 rfl (an_ rfl rfl)
   replace h:Qj6 a3=some r:=h
   unfold Qj6 at h
   rintro e σ ⟨rfl,rfl⟩
   refine tg_ hC [.n 2,.ren 74 604,.K [5] [604]] rfl ?_
   exact AK.met (ex_ _ (an_ rfl h))
  exact AK.met (ex_ _ (an_ rfl h))
 rintro σ ⟨y,rfl,h⟩
 refine tg_ hC [.n 7,.K [4] [604],.ren 604 600] rfl ?_
 cases h
 exact d1_ rfl rfl ⟨rfl,tt_⟩
def Qqv (a:Qj)(b:QC):Option (Qj×QC):=
 some (a,b)
theorem QtT (a b){r}(h:Qqv a b=some r):Qc prog 98 [.agg (Qd a),.agg (Qh b)] [] (Gives (.clo (.func 152) [] [.loc 3 0 0,.loc 2 0 0]) [(2,.var (Qd r.1)),(3,.var (Qh r.2))]):=by
 refine Qc.walk 6 func98 rfl rfl rfl fun C hC=>?_
 refine tg_ hC [.n 14] rfl ?_
 cases h
 exact d1_ rfl rfl ⟨rfl,rfl,tt_⟩
def QaI (a:(List Int)):Option (List Int):=
 (chk (decide (([]:List Int).length+a.length≤4294967296))).bind fun _=>
 some (([]:List Int)++a)
theorem Qcn (a){r}(h:QaI a=some r):Qc prog 102 [.sl 1 (a.map Qe)] [] (Gives (.own 600 r.length) [(600,.arr 1 (r.map Qe))]):=by
 refine Qc.walk 8 func102 rfl rfl rfl fun C hC=>?_
 unfold QaI at h
 refine tg_ hC [.n 9] rfl ?_
 refine AK.eqNil rfl rfl rfl (QN hC.n rfl) rfl rfl QEY ?_ ?_
 ·intro b
  replace h:some ([]:List Int)=some r:=by simpa [chk,List.map_eq_nil_iff.1 b] using h
  refine Qa hC [.n 10,.adopt 2 600 1,.O 600 (.arr 1 (([]:List Int).map Qe)),.S 2 (.own 600 ([]:List Int).length)] rfl ⟨⟨tt_,rfl⟩,rfl⟩ ?_
  cases h
  exact d1_ rfl rfl ⟨rfl,tt_⟩
 obtain⟨c,h⟩:=QaW h
 refine Qa hC [.n 8,.O 5 (.arr 1 (([]:List Int).map Qe)),.S 5 (.own 5 ([]:List Int).length),.n 1,.app ((([]:List Int)++a).map Qe) (([]:List Int)++a).length,.n 4,.K [2] [5],.ren 5 600] rfl ⟨⟨⟨tt_,rfl⟩,rfl⟩,⟨Qf,QbP c Qf,QaY,QcN Qf⟩⟩ ?_
 cases h
 exact d1_ rfl rfl ⟨rfl,tt_⟩
def QlF (a:Int)(b:Int):Option Int:=
 bif (decide (b<a))then
 some 0
 else
 some (w64 ((w64 (min2 (IntKind.u64.wrap ((IntKind.u64.wrap b)-(IntKind.u64.wrap a))) 1024))+1))
theorem QvB (a b){r}(h:QlF a b=some r):Qc prog 275 [.I a,.I b] [] (Gives (.I r) []):=by
 refine Qc.walk 16 func275 rfl rfl rfl fun C hC=>?_
 refine tg_ hC [.n 13] rfl ?_
 refine bg_ h (fun c h=>Qa hC [.T,.n 7,.K [4] []] rfl ⟨tt_,c⟩ ?_) fun c h=>Qa hC [.F,.n 5,.o (.any (.i .u64 (IntKind.u64.wrap b)) none),.n 1,.o (.any (.i .u64 (IntKind.u64.wrap a)) none),.n 2,.o (.any (.I (w64 (min2 (IntKind.u64.wrap ((IntKind.u64.wrap b)-(IntKind.u64.wrap a))) 1024))) none),.n 5,.K [4] []] rfl ⟨⟨⟨⟨tt_,c⟩,(fun σ d e _=>Stp.convI rfl rfl (QN hC.n rfl) (d _ _ rfl) Qvz QtO)⟩,(fun σ d e _=>Stp.convI rfl rfl (QN hC.n rfl) (d _ _ rfl) Qvz QtO)⟩,(fun σ d e _=>Stp.convI rfl rfl (QN hC.n rfl) (d _ _ rfl) QtO Qvz)⟩ ?_
 ·cases h
  exact d1_ rfl rfl tt_
 cases h
 exact d1_ rfl rfl tt_
def Qe1 (a:Int):Option Bool:=
 some (bif (decide (97≤a))then((decide (a≤122))||((decide (65≤a))&&(decide (a≤90))))else((decide (65≤a))&&(decide (a≤90))))
theorem QnW (a){r}(h:Qe1 a=some r):Qc prog 253 [.i .u8 a] [] (Gives (.b r) []):=by
 refine Qc.walk 17 func253 rfl rfl rfl fun C hC=>?_
 unfold Qe1 at h
 refine tg_ hC [.n 6] rfl ?_
 refine AK.meetX (fun σ=>σ=⟨[(2,.b (bif (decide (97≤a))then((decide (a≤122))||((decide (65≤a))&&(decide (a≤90))))else((decide (65≤a))&&(decide (a≤90)))))],[]⟩) ?_ ?_
 ·refine tg_ hC [.n 4] rfl ?_
  rcases Q7 (decide (97≤a))with c | c
  ·refine Qa hC [.S 5 (.b true),.n 4] rfl (tc_ c) ?_
   rcases Q7 (decide (a≤122))with d | d
   ·refine Qa hC [.S 9 (.b true),.n 9,.S 2 (.b (bif (decide (97≤a))then((decide (a≤122))||((decide (65≤a))&&(decide (a≤90))))else((decide (65≤a))&&(decide (a≤90))))),.K [2] []] rfl ⟨(tc_ d),(congrArg V.b (QCl c (orT d rfl)))⟩ ?_
    exact AK.met rfl
   refine Qa hC [.S 9 (.b false),.n 3] rfl (tc_ d) ?_
   rcases Q7 (decide (65≤a))with e | e
   ·refine Qa hC [.S 12 (.b true),.n 6,.S 2 (.b (bif (decide (97≤a))then((decide (a≤122))||((decide (65≤a))&&(decide (a≤90))))else((decide (65≤a))&&(decide (a≤90))))),.K [2] []] rfl ⟨(tc_ e),(congrArg V.b (QCl c (orF d (Qb8 e rfl))))⟩ ?_
    exact AK.met rfl
   refine Qa hC [.S 12 (.b false),.n 6,.S 2 (.b (bif (decide (97≤a))then((decide (a≤122))||((decide (65≤a))&&(decide (a≤90))))else((decide (65≤a))&&(decide (a≤90))))),.K [2] []] rfl ⟨(tc_ e),(congrArg V.b (QCl c (orF d (Qd6 e rfl))))⟩ ?_
   exact AK.met rfl
  refine Qa hC [.S 5 (.b false),.n 7] rfl (tc_ c) ?_
  rcases Q7 (decide (65≤a))with f | f
  ·refine Qa hC [.S 12 (.b true),.n 6,.S 2 (.b (bif (decide (97≤a))then((decide (a≤122))||((decide (65≤a))&&(decide (a≤90))))else((decide (65≤a))&&(decide (a≤90))))),.K [2] []] rfl ⟨(tc_ f),(congrArg V.b (QD0 c (Qb8 f rfl)))⟩ ?_
   exact AK.met rfl
  refine Qa hC [.S 12 (.b false),.n 6,.S 2 (.b (bif (decide (97≤a))then((decide (a≤122))||((decide (65≤a))&&(decide (a≤90))))else((decide (65≤a))&&(decide (a≤90))))),.K [2] []] rfl ⟨(tc_ f),(congrArg V.b (QD0 c (Qd6 f rfl)))⟩ ?_
  exact AK.met rfl
 rintro σ rfl
 refine tg_ hC [.n 2] rfl ?_
 cases h
 exact d1_ rfl rfl tt_
def Qpv (a:ByteArray):Option Bool:=
 bif (Qij a (⟨#[]⟩:ByteArray))then
 some true
 else
 bif (decide (32<(a.size:Int)))then
 some true
 else
 (sidx a 0).bind fun b=>
 (Qe1 b).bind fun c=>
 some (!c)
def Qpw (a:Int):Option Bool:=
 (Qe1 a).bind fun b=>
 bif (!b)then
 bif (decide (a<48))then
 some (a != 95)
 else
 bif (decide (57<a))then
 some (a != 95)
 else
 some false
 else
 some false
def Qin (a:Int)(b:Bool):Option (Int⊕(Unit⊕Unit)):=
 bif b then
 some (.inr (.inl ()))
 else
 some (.inl (w64 (a+1)))
def Qio (d:ByteArray)(a:Int):Option (Int⊕(Unit⊕Unit)):=
 bif (decide (a<(d.size:Int)))then
 (sidx d a).bind fun b=>
 (Qpw b).bind (fun c=>Qin a c)
 else
 some (.inr (.inr ()))
def Qip : Option Bool:=
 some false
def Qiq : Option Bool:=
 some true
def Qir (a:ByteArray)(b:Bool):Option Bool:=
 bif b then
 some false
 else
 (QJ (fun st=>Qio a st) 0).bind (Sum.elim (fun q=>Qip) (fun q=>Qiq))
def QgB (a:ByteArray):Option Bool:=
 (Qpv a).bind (fun b=>Qir a b)
theorem QlX (l){r}(h:QgB l=some r):Qc prog 220 [.s l] [] (Gives (.b r) []):=by
 refine Qc.walk 42 func220 rfl rfl rfl fun C hC=>?_
 refine tg_ hC [.n 7] rfl ?_
 obtain⟨z,A,h⟩:=Qb h
 replace h:Qir l z=some r:=h
 refine AK.meetX (fun σ=>σ=⟨[(0,.s l),(17,.b z)],[]⟩) ?_ ?_
 ·replace h:=A
  refine tg_ hC [.n 4] rfl ?_
  refine bg_ h (fun m h=>Qa hC [.S 7 (.b true),.n 11,.K [0,17] []] rfl (tc_ m) ?_) fun m h=>Qa hC [.S 7 (.b false),.n 5] rfl (tc_ m) ?_
  ·cases h
   exact AK.met rfl
  rcases Qt h with⟨p,h⟩|⟨p,h⟩
  ·refine Qa hC [.S 12 (.b true),.n 6,.K [0,17] []] rfl (tc_ p) ?_
   cases h
   exact AK.met rfl
  obtain⟨J,B,h⟩:=Qb h
  obtain⟨L,D,h⟩:=Qb h
  refine Qa hC [.S 12 (.b false),.n 1,.o (.num J),.o (.c false [.d] (.b L)),.n 3,.K [0,17] []] rfl ⟨⟨(tc_ p),B⟩,(QnW _ D)⟩ ?_
  cases h
  exact AK.met rfl
 rintro σ rfl
 replace h:Qir l z=some r:=h
 refine tg_ hC [.n 1] rfl ?_
 refine bg_ h (fun a h=>Qa hC [.T,.n 7,.K [2] []] rfl ⟨tt_,a⟩ ?_) fun a h=>Qa hC [.F,.n 11,.K [0,19,20] []] rfl ⟨tt_,a⟩ ?_
 ·cases h
  exact d1_ rfl rfl tt_
 obtain⟨E,v,h⟩:=Qb h
 refine AK.loop (body:=(fun st=>Qio l st)) (fun st σ=>σ=⟨[(0,.s l),(19,.I (l.size:Int)),(20,.I st)],[]⟩) (Sum.elim (fun q e σ=>e=.ret∧σ=⟨[(2,.b false)],[]⟩) (fun q e σ=>e=.exit 0∧σ=⟨[],[]⟩)) v rfl ?_ ?_
 ·rintro t o σ rfl h
  refine tg_ hC [.n 6] rfl ?_
  rcases Qt h with⟨f,h⟩|⟨f,h⟩
  ·obtain⟨G,w,h⟩:=Qb h
   refine Qa hC [.T,.n 14,.o (.num G),.n 4] rfl ⟨⟨tt_,f⟩,w⟩ ?_
   obtain⟨u,x,h⟩:=Qb h
   replace h:Qin t u=some o:=h
   refine AK.meetX (fun σ=>σ=⟨[(0,.s l),(19,.I (l.size:Int)),(20,.I t),(40,.b u)],[]⟩) ?_ ?_
   ·replace h:=x
    obtain⟨H,y,h⟩:=Qb h
    refine Qa hC [.n 2,.o (.c false [.d] (.b H)),.n 2] rfl ⟨tt_,(QnW _ y)⟩ ?_
    refine bg_ h (fun g h=>Qa hC [.S 29 (.b true),.n 3] rfl (tc_ g) ?_) fun g h=>Qa hC [.S 29 (.b false),.n 12,.K [0,19,20,40] []] rfl (tc_ g) ?_
    ·refine bg_ h (fun i h=>Qa hC [.S 32 (.b true),.n 9,.K [0,19,20,40] []] rfl (tc_ i) ?_) fun i h=>Qa hC [.S 32 (.b false),.n 5] rfl (tc_ i) ?_
     ·cases h
      exact AK.met rfl
     refine bg_ h (fun j h=>Qa hC [.S 37 (.b true),.n 4,.K [0,19,20,40] []] rfl (tc_ j) ?_) fun j h=>Qa hC [.S 37 (.b false),.n 4,.K [0,19,20,40] []] rfl (tc_ j) ?_
     ·cases h
      exact AK.met rfl
     cases h
     exact AK.met rfl
    cases h
    exact AK.met rfl
   rintro σ rfl
   replace h:Qin t u=some o:=h
   refine tg_ hC [.n 1] rfl ?_
   refine bg_ h (fun k h=>Qa hC [.T,.n 8,.K [2] []] rfl ⟨tt_,k⟩ ?_) fun k h=>Qa hC [.F,.n 7,.K [0,19,20] []] rfl ⟨tt_,k⟩ ?_
   ·cases h
    exact Qav rfl (an_ rfl rfl)
   cases h
   exact Q6 rfl rfl
  refine Qa hC [.F,.n 2,.K [] []] rfl ⟨tt_,f⟩ ?_
  cases h
  exact Q8 rfl (an_ rfl rfl)
 rcases E with(_ | _)
 ·replace h:Qip=some r:=h
  rintro e σ ⟨rfl,rfl⟩
  refine tg_ hC [.n 2] rfl ?_
  cases h
  exact d1_ rfl rfl tt_
 replace h:Qiq=some r:=h
 rintro e σ ⟨rfl,rfl⟩
 refine tg_ hC [.n 8] rfl ?_
 cases h
 exact d1_ rfl rfl tt_
def Qoo (a:ByteArray)(c:QSB):Option Bool:=
 (QgB a).bind fun b=>
 bif (!b)then
 some true
 else
 some ((Qv c a).getD false)
def Qhf (c:Int)(d:QSB)(a:ByteArray)(b:Bool):Option ((Int×QSB)⊕(Unit⊕Unit)):=
 bif b then
 some (.inr (.inl ()))
 else
 some (.inl ((w64 (c+1)),(Qag ltS d a true)))
def Qhg (d:(List ByteArray))(b:Int)(e:QSB):Option ((Int×QSB)⊕(Unit⊕Unit)):=
 bif (decide (b<(d.length:Int)))then
 (idx d b).bind fun a=>
 (Qoo a e).bind (fun c=>Qhf b e a c)
 else
 some (.inr (.inr ()))
def Qhh : Option Bool:=
 some false
def Qhi : Option Bool:=
 some true
def QkE (a:(List ByteArray)):Option Bool:=
 (QJ (fun st=>Qhg a st.1 st.2) (0,([]:QSB))).bind (Sum.elim (fun q=>Qhh) (fun q=>Qhi))
theorem QuL (j){r}(h:QkE j=some r):Qc prog 276 [.sl 1 (j.map Qea)] [] (Gives (.b r) []):=by
 refine Qc.walk 24 func276 rfl rfl rfl fun C hC=>?_
 refine Qa hC [.n 8,.O 6 (.map (QA V.s V.b ([]:QSB))),.n 7,.o (.ln j.length),.n 4,.K [3,7,8,9] [6]] rfl ⟨⟨tt_,rfl⟩,Qf⟩ ?_
 obtain⟨B,u,h⟩:=Qb h
 refine AK.loop (body:=(fun st=>Qhg j st.1 st.2)) (fun st σ=>σ=⟨[(3,.map 6),(7,.sl 1 (j.map Qea)),(8,.I (j.length:Int)),(9,.I st.1)],[(6,.map (QA V.s V.b st.2))]⟩) (Sum.elim (fun q e σ=>e=.ret∧σ=⟨[(2,.b false)],[]⟩) (fun q e σ=>e=.exit 0∧σ=⟨[],[]⟩)) u rfl ?_ ?_
 ·rintro ⟨D,m⟩ o σ rfl h
  refine tg_ hC [.n 6] rfl ?_
  rcases Qt h with⟨p,h⟩|⟨p,h⟩
  ·obtain⟨a,w,h⟩:=Qb h
   refine Qa hC [.T,.n 6,.o (.row (Qea a)),.n 6] rfl ⟨⟨tt_,p⟩,(QT w)⟩ ?_
   obtain⟨t,y,h⟩:=Qb h
   replace h:Qhf D m a t=some o:=h
   refine AK.meetX (fun σ=>σ=⟨[(3,.map 6),(5,.s a),(7,.sl 1 (j.map Qea)),(8,.I (j.length:Int)),(9,.I D),(20,.b t)],[(6,.map (QA V.s V.b m))]⟩) ?_ ?_
   ·replace h:=y
    obtain⟨E,A,h⟩:=Qb h
    refine Qa hC [.n 2,.o (.c false [.d] (.b E)),.n 2] rfl ⟨tt_,(QlX _ A)⟩ ?_
    refine bg_ h (fun g h=>Qa hC [.S 16 (.b true),.n 5,.K [3,5,7,8,9,20] [6]] rfl (tc_ g) ?_) fun g h=>Qa hC [.S 16 (.b false),.n 2,.o (.any (.b ((Qv m a).getD false)) none),.n 2,.K [3,5,7,8,9,20] [6]] rfl ⟨(tc_ g),(fun σ G H _=>Stp.lookup (e:=V.s) (f:=V.b) (l:=m) (k:=a) (z:=false) rfl rfl (QN hC.n rfl) (G _ _ rfl) (H _ _ rfl) (G _ _ rfl) Qpi Qsy QCI rfl)⟩ ?_
    ·cases h
     exact AK.met rfl
    cases h
    exact AK.met rfl
   rintro σ rfl
   replace h:Qhf D m a t=some o:=h
   refine tg_ hC [.n 1] rfl ?_
   refine bg_ h (fun i h=>Qa hC [.T,.n 9,.K [2] []] rfl ⟨tt_,i⟩ ?_) fun i h=>Qa hC [.F,.n 5,.x (fun σ=>σ.set 6 (.map (QA V.s V.b (Qag ltS m a true)))),.n 7,.K [3,7,8,9] [6]] rfl ⟨⟨tt_,i⟩,(Stp.mapUpdate (e:=V.s) (f:=V.b) (l:=m) (k:=a) (v:=true) ltS rfl rfl rfl rfl rfl rfl Qpi Qsy rfl)⟩ ?_
   ·cases h
    exact Qav rfl (an_ rfl rfl)
   cases h
   exact Q6 rfl rfl
  refine Qa hC [.F,.n 2,.K [] []] rfl ⟨tt_,p⟩ ?_
  cases h
  exact Q8 rfl (an_ rfl rfl)
 rcases B with(_ | _)
 ·replace h:Qhh=some r:=h
  rintro e σ ⟨rfl,rfl⟩
  refine tg_ hC [.n 2] rfl ?_
  cases h
  exact d1_ rfl rfl tt_
 replace h:Qhi=some r:=h
 rintro e σ ⟨rfl,rfl⟩
 refine tg_ hC [.n 8] rfl ?_
 cases h
 exact d1_ rfl rfl tt_
def Qdi : Option Int:=
 some 0
def QlG (b:QH)(a:(List Int)):Option Int:=
 bif (b.Kind==1)then
 (QlF b.Lo b.Hi).bind fun e=>
 some e
 else
 bif (b.Kind==2)then
 (QkE b.Names).bind fun f=>
 bif f then
 some (b.Names.length:Int)
 else
 Qdi
 else
 bif (b.Kind==3)then
 bif ((decide (0≤(min2 b.First b.Then)))&&(decide ((max2 b.First b.Then)<(a.length:Int))))then
 (idx a b.First).bind fun c=>
 (idx a b.Then).bind fun d=>
 some (w64 (c*d))
 else
 Qdi
 else
 Qdi
theorem QvC (f e){r}(h:QlG f e=some r):Qc prog 256 [.agg (Qr f),.sl 1 (e.map Qe)] [] (Gives (.I r) []):=by
 refine Qc.walk 51 func256 rfl rfl rfl fun C hC=>?_
 refine tg_ hC [.n 6] rfl ?_
 refine AK.meet (fun σ=>σ=⟨[],[]⟩∧Qdi=some r) ?_ ?_
 ·refine tg_ hC [.n 13] rfl ?_
  rcases Qt h with⟨k,h⟩|⟨k,h⟩
  ·obtain⟨w,s,h⟩:=Qb h
   refine Qa hC [.T,.n 6,.o (.c false [.d,.d] (.I w)),.n 6] rfl ⟨⟨tt_,k⟩,(QvB _ _ s)⟩ ?_
   cases h
   exact d1_ rfl rfl tt_
  refine Qa hC [.F,.n 6] rfl ⟨tt_,k⟩ ?_
  rcases Qt h with⟨l,h⟩|⟨l,h⟩
  ·obtain⟨x,t,h⟩:=Qb h
   refine Qa hC [.T,.n 4,.o (.c false [.d] (.b x)),.n 2] rfl ⟨⟨tt_,l⟩,(QuL _ t)⟩ ?_
   refine bg_ h (fun m h=>Qa hC [.T,.n 4,.o (.ln f.Names.length),.n 6,.K [4] []] rfl ⟨⟨tt_,m⟩,Qf⟩ ?_) fun m h=>Qa hC [.F,.n 2,.K [] []] rfl ⟨tt_,m⟩ ?_
   ·cases h
    exact d1_ rfl rfl tt_
   exact AK.met (an_ rfl h)
  refine Qa hC [.F,.n 6] rfl ⟨tt_,l⟩ ?_
  refine bg_ h (fun i h=>Qa hC [.T,.n 1] rfl ⟨tt_,i⟩ ?_) fun i h=>Qa hC [.F,.n 2,.K [] []] rfl ⟨tt_,i⟩ ?_
  ·refine AK.meetX (fun σ=>σ=⟨[(1,.sl 1 (e.map Qe)),(2,.loc 2 0 0),(39,.b ((decide (0≤(min2 f.First f.Then)))&&(decide ((max2 f.First f.Then)<(e.length:Int)))))],[(2,.var (Qr f))]⟩) ?_ ?_
   ·refine tg_ hC [.n 8] rfl ?_
    rcases Q7 (decide (0≤(min2 f.First f.Then)))with g | g
    ·refine Qa hC [.S 30 (.b true),.n 6,.o (.ln e.length),.n 3,.S 39 (.b ((decide (0≤(min2 f.First f.Then)))&&(decide ((max2 f.First f.Then)<(e.length:Int))))),.K [1,2,39] [2]] rfl ⟨⟨(tc_ g),Qf⟩,(congrArg V.b (Qb8 g rfl))⟩ ?_
     exact AK.met rfl
    refine Qa hC [.S 30 (.b false),.n 10,.S 39 (.b ((decide (0≤(min2 f.First f.Then)))&&(decide ((max2 f.First f.Then)<(e.length:Int))))),.K [1,2,39] [2]] rfl ⟨(tc_ g),(congrArg V.b (Qd6 g rfl))⟩ ?_
    exact AK.met rfl
   rintro σ rfl
   refine tg_ hC [.n 1] rfl ?_
   rcases Qt h with⟨j,h⟩|⟨j,h⟩
   ·obtain⟨u,p,h⟩:=Qb h
    obtain⟨v,q,h⟩:=Qb h
    refine Qa hC [.T,.n 1,.K [1,2] [2]] rfl ⟨tt_,j⟩ ?_
    refine AK.draw2 Qs hC mixed [.N,.N,.N,.a (.row (Qe u)) none false,.N,.N,.N,.N,.a (.row (Qe v)) none false,.N,.N,.N] [] [] [4] [] rfl rfl rfl ⟨⟨tt_,(QT p)⟩,(QT q)⟩ rfl (by kernel_rfl) rfl rfl rfl ?_
    refine tg_ hC [.n 4] rfl ?_
    cases h
    exact d1_ rfl rfl tt_
   refine Qa hC [.F,.n 2,.K [] []] rfl ⟨tt_,j⟩ ?_
   exact AK.met (an_ rfl h)
  exact AK.met (an_ rfl h)
 rintro σ ⟨rfl,h⟩
 refine tg_ hC [.n 6] rfl ?_
 cases h
 exact d1_ rfl rfl tt_
def Qop (a:QH)(d:QSB)(b:Int):Option Bool:=
 (QgB a.Name).bind fun c=>
 bif (!c)then
 some true
 else
 bif ((Qv d a.Name).getD false)then
 some true
 else
 bif (decide (b<1))then
 some true
 else
 some (decide (1024<b))
def Qhj (a:(List Int))(b:Int)(e:Int)(f:QSB)(c:QH)(d:Bool):Option ((Int×QSB×(List Int))⊕(Unit⊕(List Int))):=
 bif d then
 some (.inr (.inl ()))
 else
 (chk (decide (a.length+([b]:List Int).length≤4294967296))).bind fun _=>
 some (.inl ((w64 (e+1)),(Qag ltS f c.Name true),(a++([b]:List Int))))
def Qhk (f:(List QH))(d:Int)(g:QSB)(a:(List Int)):Option ((Int×QSB×(List Int))⊕(Unit⊕(List Int))):=
 bif (decide (d<(f.length:Int)))then
 (idx f d).bind fun b=>
 (QlG b a).bind fun c=>
 (Qop b g c).bind (fun e=>Qhj a c d g b e)
 else
 some (.inr (.inr a))
def Qoq : Option ((List Int)×Bool):=
 some (([]:List Int),false)
def Qor (a:(List Int)):Option ((List Int)×Bool):=
 some (a,true)
def QhL (a:(List QH)):Option ((List Int)×Bool):=
 bif (decide (32<(a.length:Int)))then
 some (([]:List Int),false)
 else
 (QJ (fun st=>Qhk a st.1 st.2.1 st.2.2) (0,([]:QSB),([]:List Int))).bind (Sum.elim (fun q=>Qoq) (fun q=>Qor q))
theorem Qos (w){r}(h:QhL w=some r):Qc prog 223 [.sl 7 (w.map Qr)] [] (Gives (.tup [.sl 1 (r.1.map Qe),.b r.2]) []):=by
 refine Qc.walk 49 func223 rfl rfl rfl fun C hC=>?_
 refine Qa hC [.n 10,.o (.ln w.length),.n 3] rfl ⟨tt_,Qf⟩ ?_
 refine bg_ h (fun y h=>Qa hC [.T,.n 8,.denil 2 [some 1],.K [2,3] []] rfl ⟨tt_,y⟩ ?_) fun y h=>Qa hC [.F,.n 5,.O 12 (.map (QA V.s V.b ([]:QSB))),.n 12,.o (.ln w.length),.n 4,.adopt 5 43 1,.O 43 (.arr 1 (([]:List Int).map Qe)),.S 5 (.own 43 ([]:List Int).length),.K [4,5,13,14,15] [12,43]] rfl ⟨⟨⟨⟨⟨tt_,y⟩,rfl⟩,Qf⟩,rfl⟩,(congrArg (fun n=>V.own 43 n) (by simp))⟩ ?_
 ·cases h
  exact d2_ rfl rfl rfl tt_
 obtain⟨N,D,h⟩:=Qb h
 refine AK.loop (body:=(fun st=>Qhk w st.1 st.2.1 st.2.2)) (fun st σ=>σ=⟨[(4,.map 12),(5,.own 43 st.2.2.length),(13,.sl 7 (w.map Qr)),(14,.I (w.length:Int)),(15,.I st.1)],[(12,.map (QA V.s V.b st.2.1)),(43,.arr 1 (st.2.2.map Qe))]⟩) (Sum.elim (fun q e σ=>e=.ret∧σ=⟨[(2,.lit (.slice none 0 0)),(3,.b false)],[]⟩) (fun q e σ=>e=.exit 0∧σ=⟨[(5,.own 43 q.length)],[(43,.arr 1 (q.map Qe))]⟩)) D rfl ?_ ?_
 ·rintro ⟨P,A,g⟩ o σ rfl h
  refine tg_ hC [.n 6] rfl ?_
  rcases Qt h with⟨j,h⟩|⟨j,h⟩
  ·obtain⟨a,E,h⟩:=Qb h
   obtain⟨i,G,h⟩:=Qb h
   refine Qa hC [.T,.n 6,.o (.row (Qr a)),.v .no [] (.agg (Qr a)),.n 2,.O 7 (.var (Qr a)),.n 4,.v .no [] (.agg (Qr a)),.n 1,.o (.c true [.d,.o (g.map Qe)] (.I i)),.n 5] rfl ⟨⟨⟨⟨⟨⟨tt_,j⟩,(QT E)⟩,rfl⟩,rfl⟩,rfl⟩,⟨(Qrp rfl),(QvC _ _ G)⟩⟩ ?_
   obtain⟨B,H,h⟩:=Qb h
   replace h:Qhj g i P A a B=some o:=h
   refine AK.meetX (fun σ=>σ=⟨[(4,.map 12),(5,.own 43 g.length),(7,.loc 7 0 0),(8,.I i),(13,.sl 7 (w.map Qr)),(14,.I (w.length:Int)),(15,.I P),(39,.b B)],[(7,.var (Qr a)),(12,.map (QA V.s V.b A)),(43,.arr 1 (g.map Qe))]⟩) ?_ ?_
   ·replace h:=H
    obtain⟨U,J,h⟩:=Qb h
    refine Qa hC [.n 3,.o (.c false [.d] (.b U)),.n 2] rfl ⟨tt_,(QlX _ J)⟩ ?_
    refine bg_ h (fun m h=>Qa hC [.S 26 (.b true),.n 14,.K [4,5,7,8,13,14,15,39] [7,12,43]] rfl (tc_ m) ?_) fun m h=>Qa hC [.S 26 (.b false),.n 3,.o (.any (.b ((Qv A a.Name).getD false)) none),.n 2] rfl ⟨(tc_ m),(fun σ W X _=>Stp.lookup (e:=V.s) (f:=V.b) (l:=A) (k:=a.Name) (z:=false) rfl rfl (QN hC.n rfl) (W _ _ rfl) (X _ _ rfl) (W _ _ rfl) Qpi Qsy QCI rfl)⟩ ?_
    ·cases h
     exact AK.met rfl
    refine bg_ h (fun p h=>Qa hC [.S 32 (.b true),.n 8,.K [4,5,7,8,13,14,15,39] [7,12,43]] rfl (tc_ p) ?_) fun p h=>Qa hC [.S 32 (.b false),.n 4] rfl (tc_ p) ?_
    ·cases h
     exact AK.met rfl
    refine bg_ h (fun t h=>Qa hC [.S 36 (.b true),.n 4,.K [4,5,7,8,13,14,15,39] [7,12,43]] rfl (tc_ t) ?_) fun t h=>Qa hC [.S 36 (.b false),.n 4,.K [4,5,7,8,13,14,15,39] [7,12,43]] rfl (tc_ t) ?_
    ·cases h
     exact AK.met rfl
    cases h
    exact AK.met rfl
   rintro σ rfl
   replace h:Qhj g i P A a B=some o:=h
   refine tg_ hC [.n 1] rfl ?_
   rcases Qt h with⟨u,h⟩|⟨u,h⟩
   ·refine Qa hC [.T,.n 10,.K [2,3] []] rfl ⟨tt_,u⟩ ?_
    cases h
    exact Qav rfl (an_ rfl rfl)
   obtain⟨L,h⟩:=QaW h
   refine Qa hC [.F,.n 7,.x (fun σ=>σ.set 12 (.map (QA V.s V.b (Qag ltS A a.Name true)))),.n 5,.v (.bd []) [] (.sl 1 (([i]:List Int).map Qe)),.app ((g++([i]:List Int)).map Qe) (g++([i]:List Int)).length,.n 8,.K [4,5,13,14,15] [12,43]] rfl ⟨⟨⟨⟨tt_,u⟩,(Stp.mapUpdate (e:=V.s) (f:=V.b) (l:=A) (k:=a.Name) (v:=true) ltS rfl rfl rfl rfl rfl rfl Qpi Qsy rfl)⟩,rfl⟩,⟨Qf,QbP L Qf,QaY,QcN Qf⟩⟩ ?_
   cases h
   exact Q6 rfl rfl
  refine Qa hC [.F,.n 2,.K [5] [43]] rfl ⟨tt_,j⟩ ?_
  cases h
  exact Q8 rfl (an_ rfl rfl)
 rcases N with(_ | M)
 ·replace h:Qoq=some r:=h
  rintro e σ ⟨rfl,rfl⟩
  refine tg_ hC [.n 2,.denil 2 [some 1]] rfl ?_
  cases h
  exact d2_ rfl rfl rfl tt_
 replace h:Qor M=some r:=h
 rintro e σ ⟨rfl,rfl⟩
 refine Qa hC [.n 10,.frz 43 (M.map Qe) [2] []] rfl ⟨tt_,⟨tt_,(QbQ Qf)⟩⟩ ?_
 cases h
 exact d2_ rfl rfl rfl tt_
def QfN (a:(List QH))(b:Int):Option (Bool×QaX):=
 (QhL a).bind fun c=>
 bif ((!c.2)||((decide (b<0))||(decide ((a.length:Int)≤b))))then
 some (false,(QaX.mk ([]:(List QH)) ([]:(List Int)) 0))
 else
 some (true,(QaX.mk a c.1 b))
theorem Qnf (i e){r}(h:QfN i e=some r):Qc prog 200 [.sl 7 (i.map Qr),.I e] [] (Gives (.tup [.agg (Qaa r.2),.b r.1]) []):=by
 refine Qc.walk 30 func200 rfl rfl rfl fun C hC=>?_
 obtain⟨j,k,h⟩:=Qb h
 refine Qa hC [.n 9,.o (.c false [.d] (.tup [.sl 1 (j.1.map Qe),.b j.2])),.n 9] rfl ⟨tt_,(Qos _ k)⟩ ?_
 refine AK.meetX (fun σ=>σ=⟨[(0,.sl 7 (i.map Qr)),(1,.I e),(4,.loc 4 0 0),(6,.sl 1 (j.1.map Qe)),(24,.b ((!j.2)||((decide (e<0))||(decide ((i.length:Int)≤e)))))],[(4,.var [.lit (.slice none 0 0),.lit (.slice none 0 0),.I 0])]⟩) ?_ ?_
 ·refine tg_ hC [.n 4] rfl ?_
  rcases Q7 (!j.2)with f | f
  ·refine Qa hC [.S 15 (.b true),.n 10,.S 24 (.b ((!j.2)||((decide (e<0))||(decide ((i.length:Int)≤e))))),.K [0,1,4,6,24] [4]] rfl ⟨(tc_ f),(congrArg V.b (orT f rfl))⟩ ?_
   exact AK.met rfl
  refine Qa hC [.S 15 (.b false),.n 4] rfl (tc_ f) ?_
  rcases Q7 (decide (e<0))with a | a
  ·refine Qa hC [.S 19 (.b true),.n 6,.S 24 (.b ((!j.2)||((decide (e<0))||(decide ((i.length:Int)≤e))))),.K [0,1,4,6,24] [4]] rfl ⟨(tc_ a),(congrArg V.b (orF f (orT a rfl)))⟩ ?_
   exact AK.met rfl
  refine Qa hC [.S 19 (.b false),.n 2,.o (.ln i.length),.n 3,.S 24 (.b ((!j.2)||((decide (e<0))||(decide ((i.length:Int)≤e))))),.K [0,1,4,6,24] [4]] rfl ⟨⟨(tc_ a),Qf⟩,(congrArg V.b (orF f (orF a rfl)))⟩ ?_
  exact AK.met rfl
 rintro σ rfl
 refine tg_ hC [.n 1] rfl ?_
 refine bg_ h (fun g h=>Qa hC [.T,.n 2,.v .no [some 7,some 1,none] (.agg (Qaa (QaX.mk ([]:(List QH)) ([]:(List Int)) 0))),.n 1,.O 4 (.var (Qaa (QaX.mk ([]:(List QH)) ([]:(List Int)) 0))),.n 5,.K [4,5] [4]] rfl ⟨⟨⟨tt_,g⟩,rfl⟩,rfl⟩ ?_) fun g h=>Qa hC [.F,.n 7,.v .no [] (.agg (Qaa (QaX.mk i j.1 e))),.n 1,.O 4 (.var (Qaa (QaX.mk i j.1 e))),.n 4,.K [4,5] [4]] rfl ⟨⟨⟨tt_,g⟩,rfl⟩,rfl⟩ ?_
 ·cases h
  exact AK.done (ex_ [_,_] (an_ (an_ (ex_ _ (ex_ _ (an_ rfl (an_ rfl (Or.inl (an_ (Qs.ag rfl) (an_ (Qs.sz rfl) rfl))))))) (an_ rfl tt_)) (gives tt_)))
 cases h
 exact AK.done (ex_ [_,_] (an_ (an_ (ex_ _ (ex_ _ (an_ rfl (an_ rfl (Or.inl (an_ (Qs.ag rfl) (an_ (Qs.sz rfl) rfl))))))) (an_ rfl tt_)) (gives tt_)))
def Qgf (a:Int)(b:QaX):Option Bool:=
 bif (decide (0≤a))then
 (idx b.sizes b.k).bind fun c=>
 some (decide (a<c))
 else
 some false
def Qjd (a:Bool):Option Bool:=
 some a
def Qdj (a:QaX)(b:Int):Option Bool:=
 (Qgf b a).bind (fun c=>Qjd c)
theorem Qm8 (f g){r}(h:Qdj f g=some r):Qc prog 216 [.agg (Qaa f),.I g] [] (Gives (.b r) []):=by
 refine Qc.walk 17 func216 rfl rfl rfl fun C hC=>?_
 refine tg_ hC [.n 7] rfl ?_
 obtain⟨c,d,h⟩:=Qb h
 replace h:Qjd c=some r:=h
 refine AK.meetX (fun σ=>σ=⟨[(4,.b c)],[]⟩) ?_ ?_
 ·replace h:=d
  refine tg_ hC [.n 4] rfl ?_
  rcases Qt h with⟨a,h⟩|⟨a,h⟩
  ·obtain⟨i,e,h⟩:=Qb h
   refine Qa hC [.S 7 (.b true),.n 5,.o (.row (Qe i)),.n 5,.K [4] []] rfl ⟨(tc_ a),(QT e)⟩ ?_
   cases h
   exact AK.met rfl
  refine Qa hC [.S 7 (.b false),.n 11,.K [4] []] rfl (tc_ a) ?_
  cases h
  exact AK.met rfl
 rintro σ rfl
 replace h:Qjd c=some r:=h
 refine tg_ hC [.n 2] rfl ?_
 cases h
 exact d1_ rfl rfl tt_
def Qc2 (a:QaX):Option QH:=
 (idx a.all a.k).bind fun b=>
 some b
theorem Qg6 (c){r}(h:Qc2 c=some r):Qc prog 217 [.agg (Qaa c)] [] (Gives (.agg (Qr r)) []):=by
 refine Qc.walk 9 func217 rfl rfl rfl fun C hC=>?_
 obtain⟨a,b,h⟩:=Qb h
 refine Qa hC [.n 12,.o (.row (Qr a)),.v .no [] (.agg (Qr a)),.n 1,.O 2 (.var (Qr a)),.n 3,.K [2] [2]] rfl ⟨⟨⟨tt_,(QT b)⟩,rfl⟩,rfl⟩ ?_
 cases h
 exact AK.done (ex_ [_] (an_ (an_ (ex_ _ (ex_ _ (an_ rfl (an_ rfl (Or.inl (an_ (Qs.ag rfl) (an_ (Qs.sz rfl) rfl))))))) tt_) (gives tt_)))
def Qj7 (b:(Bool×QaX))(c:Int):Option Bool:=
 bif (!b.1)then
 some true
 else
 (Qdj b.2 c).bind fun a=>
 some (!a)
def QeP (c:(Bool×QaX))(d:Int)(e:Bool):Option (Int×Bool):=
 bif e then
 some (0,false)
 else
 (Qc2 c.2).bind fun a=>
 bif (a.Kind==1)then
 (Qc2 c.2).bind fun b=>
 some ((w64 (b.Lo+d)),true)
 else
 some (d,true)
def Qe2 (c:(List QH))(d:Int)(a:Int):Option (Int×Bool):=
 (QfN c d).bind fun b=>
 (Qj7 b a).bind (fun e=>QeP b a e)
theorem QtU (x y i){r}(h:Qe2 x y i=some r):Qc prog 150 [.sl 7 (x.map Qr),.I y,.I i] [] (Gives (.tup [.I r.1,.b r.2]) []):=by
 refine Qc.walk 36 func150 rfl rfl rfl fun C hC=>?_
 obtain⟨g,s,h⟩:=Qb h
 refine Qa hC [.n 10,.o (.c false [.d,.d] (.tup [.agg (Qaa g.2),.b g.1])),.n 5,.O 8 (.var (Qaa g.2)),.n 6] rfl ⟨⟨tt_,(Qnf _ _ s)⟩,rfl⟩ ?_
 obtain⟨t,j,h⟩:=Qb h
 replace h:QeP g i t=some r:=h
 refine AK.meetX (fun σ=>σ=⟨[(2,.I i),(8,.loc 8 0 0),(16,.b t)],[(8,.var (Qaa g.2))]⟩) ?_ ?_
 ·replace h:=j
  refine tg_ hC [.n 4] rfl ?_
  rcases Qt h with⟨a,h⟩|⟨a,h⟩
  ·refine Qa hC [.S 19 (.b true),.n 7,.K [2,8,16] [8]] rfl (tc_ a) ?_
   cases h
   exact AK.met rfl
  obtain⟨u,k,h⟩:=Qb h
  refine Qa hC [.S 19 (.b false),.v .no [] (.agg (Qaa g.2)),.n 1,.o (.c false [.d,.d] (.b u)),.n 4,.K [2,8,16] [8]] rfl ⟨⟨(tc_ a),rfl⟩,(Qm8 _ _ k)⟩ ?_
  cases h
  exact AK.met rfl
 rintro σ rfl
 replace h:QeP g i t=some r:=h
 refine tg_ hC [.n 1] rfl ?_
 rcases Qt h with⟨e,h⟩|⟨e,h⟩
 ·refine Qa hC [.T,.n 9] rfl ⟨tt_,e⟩ ?_
  cases h
  exact d2_ rfl rfl rfl tt_
 obtain⟨l,m,h⟩:=Qb h
 refine Qa hC [.F,.n 2,.v .no [] (.agg (Qaa g.2)),.o (.c false [.d] (.agg (Qr l))),.o (.any (.I l.Kind) none),.n 4] rfl ⟨⟨⟨⟨tt_,e⟩,rfl⟩,(Qg6 _ m)⟩,(fun σ w z _=>Stp.field rfl rfl (QN hC.n rfl) (w _ _ rfl) QDE rfl)⟩ ?_
 rcases Qt h with⟨f,h⟩|⟨f,h⟩
 ·obtain⟨p,q,h⟩:=Qb h
  refine Qa hC [.T,.n 2,.v .no [] (.agg (Qaa g.2)),.o (.c false [.d] (.agg (Qr p))),.o (.any (.I p.Lo) none),.n 9] rfl ⟨⟨⟨⟨tt_,f⟩,rfl⟩,(Qg6 _ q)⟩,(fun σ w z _=>Stp.field rfl rfl (QN hC.n rfl) (w _ _ rfl) QDF rfl)⟩ ?_
  cases h
  exact d2_ rfl rfl rfl tt_
 refine Qa hC [.F,.n 11] rfl ⟨tt_,f⟩ ?_
 cases h
 exact d2_ rfl rfl rfl tt_
def QgC (d:QC)(b:(List Int))(h:Qj)(a:Int)(c:(List Int)):Option ((Int×(List Int))⊕(Unit⊕(List Int))):=
 bif (decide (a<(d.Vars.length:Int)))then
 (idx d.Vars a).bind fun f=>
 (idx b a).bind fun g=>
 (Qe2 h.Colours f.Colour g).bind fun e=>
 bif (!e.2)then
 some (.inr (.inl ()))
 else
 (idx c a).bind fun i=>
 some (.inl ((w64 (a+1)),(c.set a.toNat e.1)))
 else
 some (.inr (.inr c))
def QsY : Option ((List Int)×Int):=
 some (([]:List Int),1)
def QsZ (a:(List Int)):Option ((List Int)×Int):=
 some (a,0)
def Qfy (d:Qj)(a:Int)(c:(List Int)):Option ((List Int)×Int):=
 bif ((decide (a<0))||(decide ((d.Tasks.length:Int)≤a)))then
 some (([]:List Int),3)
 else
 (idx d.Tasks a).bind fun b=>
 bif ((c.length:Int) != (b.Vars.length:Int))then
 some (([]:List Int),1)
 else
 (chk (decide (0≤(b.Vars.length:Int))&&decide ((b.Vars.length:Int)≤(b.Vars.length:Int))&&decide ((b.Vars.length:Int)≤4294967296))).bind fun _=>
 (QJ (fun st=>QgC b c d st.1 st.2) (0,(List.replicate (b.Vars.length:Int).toNat (0:Int)))).bind (Sum.elim (fun q=>QsY) (fun q=>QsZ q))
theorem Qn8 (s f g){r}(h:Qfy s f g=some r):Qc prog 94 [.agg (Qd s),.I f,.sl 1 (g.map Qe)] [] (Gives (.tup [.sl 1 (r.1.map Qe),.I r.2]) []):=by
 refine Qc.walk 64 func94 rfl rfl rfl fun C hC=>?_
 refine tg_ hC [.n 9] rfl ?_
 refine AK.meetX (fun σ=>σ=⟨[(1,.I f),(2,.sl 1 (g.map Qe)),(3,.loc 3 0 0),(22,.b ((decide (f<0))||(decide ((s.Tasks.length:Int)≤f))))],[(3,.var (Qd s))]⟩) ?_ ?_
 ·refine tg_ hC [.n 4] rfl ?_
  rcases Q7 (decide (f<0))with j | j
  ·refine Qa hC [.S 16 (.b true),.n 7,.S 22 (.b ((decide (f<0))||(decide ((s.Tasks.length:Int)≤f)))),.K [1,2,3,22] [3]] rfl ⟨(tc_ j),(congrArg V.b (orT j rfl))⟩ ?_
   exact AK.met rfl
  refine Qa hC [.S 16 (.b false),.n 3,.o (.ln s.Tasks.length),.n 3,.S 22 (.b ((decide (f<0))||(decide ((s.Tasks.length:Int)≤f)))),.K [1,2,3,22] [3]] rfl ⟨⟨(tc_ j),Qf⟩,(congrArg V.b (orF j rfl))⟩ ?_
  exact AK.met rfl
 rintro σ rfl
 refine tg_ hC [.n 1] rfl ?_
 rcases Qt h with⟨k,h⟩|⟨k,h⟩
 ·refine Qa hC [.T,.n 8,.denil 6 [some 1]] rfl ⟨tt_,k⟩ ?_
  cases h
  exact d2_ rfl rfl rfl tt_
 obtain⟨i,x,h⟩:=Qb h
 refine Qa hC [.F,.n 7,.o (.row (Qh i)),.n 9,.o (.ln g.length),.n 1,.o (.ln i.Vars.length),.n 3] rfl ⟨⟨⟨⟨tt_,k⟩,(QT x)⟩,Qf⟩,Qf⟩ ?_
 rcases Qt h with⟨l,h⟩|⟨l,h⟩
 ·refine Qa hC [.T,.n 8,.denil 6 [some 1]] rfl ⟨tt_,l⟩ ?_
  cases h
  exact d2_ rfl rfl rfl tt_
 obtain⟨y,h⟩:=QaW h
 refine Qa hC [.F,.n 5,.o (.ln i.Vars.length),.o (.rows ((List.replicate (i.Vars.length:Int).toNat (0:Int)).map Qe)),.S 36 (.own 36 (List.replicate (i.Vars.length:Int).toNat (0:Int)).length),.n 7,.o (.ln i.Vars.length),.n 4,.K [2,3,9,37,38,39] [3,36]] rfl ⟨⟨⟨⟨⟨tt_,l⟩,Qf⟩,⟨y,QA6 rfl⟩⟩,(by simp)⟩,Qf⟩ ?_
 obtain⟨J,z,h⟩:=Qb h
 refine AK.loop (body:=(fun st=>QgC i g s st.1 st.2)) (fun st σ=>σ=⟨[(2,.sl 1 (g.map Qe)),(3,.loc 3 0 0),(9,.own 36 st.2.length),(37,.sl 2 (i.Vars.map QR)),(38,.I (i.Vars.length:Int)),(39,.I st.1)],[(3,.var (Qd s)),(36,.arr 1 (st.2.map Qe))]⟩) (Sum.elim (fun q e σ=>e=.ret∧σ=⟨[(6,.lit (.slice none 0 0)),(7,.I 1)],[]⟩) (fun q e σ=>e=.exit 0∧σ=⟨[(9,.own 36 q.length)],[(36,.arr 1 (q.map Qe))]⟩)) z rfl ?_ ?_
 ·rintro ⟨A,B⟩ o σ rfl h
  refine tg_ hC [.n 6] rfl ?_
  rcases Qt h with⟨m,h⟩|⟨m,h⟩
  ·obtain⟨w,D,h⟩:=Qb h
   obtain⟨L,E,h⟩:=Qb h
   obtain⟨t,G,h⟩:=Qb h
   refine Qa hC [.T,.n 7,.o (.row (QR w)),.v .no [] (.agg (QR w)),.n 3,.O 11 (.var (QR w)),.n 3,.K [2,3,9,10,11,37,38,39] [3,11,36]] rfl ⟨⟨⟨⟨tt_,m⟩,(QT D)⟩,rfl⟩,rfl⟩ ?_
   refine AK.draw2 Qs hC mixed [.N,.N,.N,.N,.N,.N,.a (.row (Qe L)) none false,.N,.a (.c false [.d,.d,.d] (.tup [.I t.1,.b t.2])) none false,.N,.N,.N,.N,.N] [] [] [2,3,9,10,12,13,37,38,39] [3,36] rfl rfl rfl ⟨⟨tt_,(QT E)⟩,(QtU _ _ _ G)⟩ rfl (by kernel_rfl) rfl rfl rfl ?_
   refine tg_ hC [.n 8] rfl ?_
   rcases Qt h with⟨p,h⟩|⟨p,h⟩
   ·refine Qa hC [.T,.n 10,.K [6,7] []] rfl ⟨tt_,p⟩ ?_
    cases h
    exact Qav rfl (an_ rfl rfl)
   obtain⟨M,u,h⟩:=Qb h
   refine Qa hC [.F,.n 7,.st (Qe M) ((B.set A.toNat t.1).map Qe),.n 7,.S 9 (.own 36 (B.set A.toNat t.1).length),.K [2,3,9,37,38,39] [3,36]] rfl ⟨⟨⟨⟨tt_,p⟩,(Qda u rfl)⟩,⟨(QbX (QdK u).2),Qmp rfl⟩⟩,(congrArg (fun n=>V.own 36 n) (by simp))⟩ ?_
   cases h
   exact Q6 rfl rfl
  refine Qa hC [.F,.n 2,.K [9] [36]] rfl ⟨tt_,m⟩ ?_
  cases h
  exact Q8 rfl (an_ rfl rfl)
 rcases J with(_ | H)
 ·replace h:QsY=some r:=h
  rintro e σ ⟨rfl,rfl⟩
  refine tg_ hC [.n 2,.denil 6 [some 1]] rfl ?_
  cases h
  exact d2_ rfl rfl rfl tt_
 replace h:QsZ H=some r:=h
 rintro e σ ⟨rfl,rfl⟩
 refine Qa hC [.n 10,.frz 36 (H.map Qe) [6] []] rfl ⟨tt_,⟨tt_,(QbQ Qf)⟩⟩ ?_
 cases h
 exact d2_ rfl rfl rfl tt_
def QbR (c:Qj)(f:QMk)(a:Int)(b:(List Int)):Option (Int×QV):=
 (Qfy c a b).bind fun d=>
 bif (d.2 != 0)then
 some (d.2,(QV.mk (Qj.mk ([]:(List QH)) ([]:(List QM)) ([]:(List QC)) 0 0) ([]:QMk) (QC.mk (⟨#[]⟩:ByteArray) ([]:(List QaN)) (Qo.mk 0 0 ([]:(List Qo))) 0 0 ([]:(List Qaw)) ([]:(List Qaw)) ([]:(List Int)) 0 (0,0,0)) ([]:(List Int))))
 else
 (idx c.Tasks a).bind fun e=>
 some (0,(QV.mk c f e d.1))
theorem Qqw (i k b e){r}(h:QbR i k b e=some r):Qc prog 89 [.agg (Qd i),.sl 1 (k.map Qi),.I b,.sl 1 (e.map Qe)] [] (Gives (.tup [.agg (Qy r.2),.I r.1]) []):=by
 refine Qc.walk 32 func89 rfl rfl rfl fun C hC=>?_
 obtain⟨l,p,h⟩:=Qb h
 refine Qa hC [.n 9,.v .no [] (.agg (Qd i)),.n 2,.o (.c false [.d,.d,.d] (.tup [.sl 1 (l.1.map Qe),.I l.2])),.n 14] rfl ⟨⟨tt_,rfl⟩,(Qn8 _ _ _ p)⟩ ?_
 rcases Qt h with⟨f,h⟩|⟨f,h⟩
 ·refine Qa hC [.T,.n 2,.v .no [some 7,some 3,some 14,none,none,some 1,none,some 2,none,none,some 3,none,none,some 4,some 4,some 1,none,none,none,none,some 1] (.agg (Qy (QV.mk (Qj.mk ([]:(List QH)) ([]:(List QM)) ([]:(List QC)) 0 0) ([]:QMk) (QC.mk (⟨#[]⟩:ByteArray) ([]:(List QaN)) (Qo.mk 0 0 ([]:(List Qo))) 0 0 ([]:(List Qaw)) ([]:(List Qaw)) ([]:(List Int)) 0 (0,0,0)) ([]:(List Int))))),.n 2,.O 8 (.var (Qy (QV.mk (Qj.mk ([]:(List QH)) ([]:(List QM)) ([]:(List QC)) 0 0) ([]:QMk) (QC.mk (⟨#[]⟩:ByteArray) ([]:(List QaN)) (Qo.mk 0 0 ([]:(List Qo))) 0 0 ([]:(List Qaw)) ([]:(List Qaw)) ([]:(List Int)) 0 (0,0,0)) ([]:(List Int))))),.n 5,.K [8,9] [8]] rfl ⟨⟨⟨tt_,f⟩,rfl⟩,rfl⟩ ?_
  cases h
  exact AK.done (ex_ [_,_] (an_ (an_ (ex_ _ (ex_ _ (an_ rfl (an_ rfl (Or.inl (an_ (Qs.ag rfl) (an_ (Qs.sz rfl) rfl))))))) (an_ rfl tt_)) (gives tt_)))
 obtain⟨g,j,h⟩:=Qb h
 refine Qa hC [.F,.n 3,.K [1,2,4,8,9,10] [4,8]] rfl ⟨tt_,f⟩ ?_
 refine AK.draw2 Qs hC mixed [.a .no (some ([],.agg (Qd i))) false,.N,.N,.N,.N,.a (.row (Qh g)) none false,.a .no (some ([],.agg (Qh g))) false,.N,.a .no (some ([],.agg (Qy (QV.mk i k g l.1)))) false,.m .s,.m .s] [] [] [8,9] [8] rfl rfl rfl ⟨⟨⟨⟨tt_,rfl⟩,(QT j)⟩,rfl⟩,rfl⟩ rfl (by kernel_rfl) rfl rfl rfl ?_
 refine Qa hC [.O 8 (.var (Qy (QV.mk i k g l.1))),.n 2,.K [8,9] [8]] rfl ⟨tt_,rfl⟩ ?_
 cases h
 exact AK.done (ex_ [_,_] (an_ (an_ (ex_ _ (ex_ _ (an_ rfl (an_ rfl (Or.inl (an_ (Qs.ag rfl) (an_ (Qs.sz rfl) rfl))))))) (an_ rfl tt_)) (gives tt_)))
def Qjr (c:Qo)(rec_expr_Depth:Qo→Option Int)(d:Int)(a:Int):Option ((Int×Int)⊕Int):=
 bif (decide (a<(c.Kids.length:Int)))then
 (idx c.Kids a).bind fun e=>
 (rec_expr_Depth e).bind fun b=>
 some (.inl ((max2 d b),(w64 (a+1))))
 else
 some (.inr d)
def Qmy (a:Int):Option Int:=
 some (w64 (a+1))
def Qng (rec_expr_Depth:Qo→Option Int)(a:Qo):Option Int:=
 (QJ (fun st=>Qjr a rec_expr_Depth st.1 st.2) (0,0)).bind (fun q=>Qmy q)
def Qeq : Nat→Qo→Option Int
 | 0,_=>none
 | n+1,a=>Qng (Qeq n) a
def Qpx (a:Qo):Option Int:=Qeq (SizeOf.sizeOf a) a
theorem QuM (rec_expr_Depth:Qo→Option Int)(hrec_expr_Depth:∀(a:Qo) {r:Int},rec_expr_Depth a=some r→Qc prog 235 [.agg (Qq a)] [] (Gives (.I r) []))(a:Qo){r:Int}(h:Qng rec_expr_Depth a=some r):Qc prog 235 [.agg (Qq a)] [] (Gives (.I r) []):=by
 refine Qc.walk 20 func235 rfl rfl rfl fun C hC=>?_
 refine Qa hC [.n 16,.o (.ln a.Kids.length),.n 4,.K [3,7,8,9] []] rfl ⟨tt_,Qkx _⟩ ?_
 obtain⟨l,f,h⟩:=Qb h
 refine AK.loop (body:=(fun st=>Qjr a rec_expr_Depth st.1 st.2)) (fun st σ=>σ=⟨[(3,.I st.1),(7,.sl 3 (Qbo a.Kids)),(8,.I (a.Kids.length:Int)),(9,.I st.2)],[]⟩) (fun q e σ=>e=.exit 0∧σ=⟨[(3,.I q)],[]⟩) f rfl ?_ ?_
 ·rintro ⟨m,p⟩ o σ rfl h
  refine tg_ hC [.n 6] rfl ?_
  rcases Qt h with⟨b,h⟩|⟨b,h⟩
  ·obtain⟨i,j,h⟩:=Qb h
   obtain⟨k,g,h⟩:=Qb h
   refine Qa hC [.T,.n 6,.o (.row (Qq i)),.v .no [] (.agg (Qq i)),.n 2,.O 5 (.var (Qq i)),.n 4,.v .no [] (.agg (Qq i)),.o (.c false [.d] (.I k)),.n 9,.K [3,7,8,9] []] rfl ⟨⟨⟨⟨⟨⟨tt_,b⟩,(QeD j)⟩,rfl⟩,rfl⟩,rfl⟩,(hrec_expr_Depth _ g)⟩ ?_
   cases h
   exact Q6 rfl rfl
  refine Qa hC [.F,.n 2,.K [3] []] rfl ⟨tt_,b⟩ ?_
  cases h
  exact Q8 rfl (an_ rfl rfl)
 replace h:Qmy l=some r:=h
 rintro e σ ⟨rfl,rfl⟩
 refine tg_ hC [.n 10] rfl ?_
 cases h
 exact d1_ rfl rfl tt_
theorem Qot : ∀(fuel:Nat) (a:Qo) {r:Int},Qeq fuel a=some r→Qc prog 235 [.agg (Qq a)] [] (Gives (.I r) [])
 | 0,_,_,h=>by cases h
 | n+1,a,_,h=>QuM (Qeq n) (fun _ _ h=>Qot n _ h) a h
theorem Qwr (a){r}(h:Qpx a=some r):Qc prog 235 [.agg (Qq a)] [] (Gives (.I r) []):=Qot _ a h
def QkF (c:Qo)(rec_expr_Size:Qo→Option Int)(d:Int)(a:Int):Option ((Int×Int)⊕Int):=
 bif (decide (a<(c.Kids.length:Int)))then
 (idx c.Kids a).bind fun e=>
 (rec_expr_Size e).bind fun b=>
 some (.inl ((w64 (d+b)),(w64 (a+1))))
 else
 some (.inr d)
def Qnh (a:Int):Option Int:=
 some a
def Qn9 (rec_expr_Size:Qo→Option Int)(a:Qo):Option Int:=
 (QJ (fun st=>QkF a rec_expr_Size st.1 st.2) (1,0)).bind (fun q=>Qnh q)
def Qfg : Nat→Qo→Option Int
 | 0,_=>none
 | n+1,a=>Qn9 (Qfg n) a
def Qra (a:Qo):Option Int:=Qfg (SizeOf.sizeOf a) a
theorem QvD (rec_expr_Size:Qo→Option Int)(hrec_expr_Size:∀(a:Qo) {r:Int},rec_expr_Size a=some r→Qc prog 236 [.agg (Qq a)] [] (Gives (.I r) []))(a:Qo){r:Int}(h:Qn9 rec_expr_Size a=some r):Qc prog 236 [.agg (Qq a)] [] (Gives (.I r) []):=by
 refine Qc.walk 19 func236 rfl rfl rfl fun C hC=>?_
 refine Qa hC [.n 16,.o (.ln a.Kids.length),.n 4,.K [3,7,8,9] []] rfl ⟨tt_,Qkx _⟩ ?_
 obtain⟨l,f,h⟩:=Qb h
 refine AK.loop (body:=(fun st=>QkF a rec_expr_Size st.1 st.2)) (fun st σ=>σ=⟨[(3,.I st.1),(7,.sl 3 (Qbo a.Kids)),(8,.I (a.Kids.length:Int)),(9,.I st.2)],[]⟩) (fun q e σ=>e=.exit 0∧σ=⟨[(3,.I q)],[]⟩) f rfl ?_ ?_
 ·rintro ⟨m,p⟩ o σ rfl h
  refine tg_ hC [.n 6] rfl ?_
  rcases Qt h with⟨b,h⟩|⟨b,h⟩
  ·obtain⟨i,j,h⟩:=Qb h
   obtain⟨k,g,h⟩:=Qb h
   refine Qa hC [.T,.n 6,.o (.row (Qq i)),.v .no [] (.agg (Qq i)),.n 2,.O 5 (.var (Qq i)),.n 4,.v .no [] (.agg (Qq i)),.o (.c false [.d] (.I k)),.n 9,.K [3,7,8,9] []] rfl ⟨⟨⟨⟨⟨⟨tt_,b⟩,(QeD j)⟩,rfl⟩,rfl⟩,rfl⟩,(hrec_expr_Size _ g)⟩ ?_
   cases h
   exact Q6 rfl rfl
  refine Qa hC [.F,.n 2,.K [3] []] rfl ⟨tt_,b⟩ ?_
  cases h
  exact Q8 rfl (an_ rfl rfl)
 replace h:Qnh l=some r:=h
 rintro e σ ⟨rfl,rfl⟩
 refine tg_ hC [.n 9] rfl ?_
 cases h
 exact d1_ rfl rfl tt_
theorem Qpy : ∀(fuel:Nat) (a:Qo) {r:Int},Qfg fuel a=some r→Qc prog 236 [.agg (Qq a)] [] (Gives (.I r) [])
 | 0,_,_,h=>by cases h
 | n+1,a,_,h=>QvD (Qfg n) (fun _ _ h=>Qpy n _ h) a h
theorem Qxo (a){r}(h:Qra a=some r):Qc prog 236 [.agg (Qq a)] [] (Gives (.I r) []):=Qpy _ a h
def QhM (a:Int)(b:Bool):Option Int:=
 bif b then
 some 1
 else
 bif (a==5)then
 some 2
 else
 bif (a==6)then
 some 3
 else
 some (-1)
def QhN (a:Int)(b:Bool):Option Int:=
 bif b then
 some 0
 else
 bif (a==3)then
 QhM a (a==3)
 else
 QhM a (a==4)
def QnL (a:Int):Option Int:=
 bif (a==1)then
 QhN a (a==1)
 else
 QhN a (a==2)
theorem Qxp (a){r}(h:QnL a=some r):Qc prog 258 [.I a] [] (Gives (.I r) []):=by
 refine Qc.walk 14 func258 rfl rfl rfl fun C hC=>?_
 refine tg_ hC [.n 12] rfl ?_
 refine AK.meet (fun σ=>∃j:Bool,σ=⟨[(3,.I a),(4,.b j)],[]⟩∧QhN a j=some r) ?_ ?_
 ·refine tg_ hC [.n 6] rfl ?_
  refine bg_ h (fun c h=>Qa hC [.T,.n 1,.K [3,4] []] rfl ⟨tt_,c⟩ ?_) fun c h=>Qa hC [.F,.n 4,.K [3,4] []] rfl ⟨tt_,c⟩ ?_
  ·exact AK.met (ex_ _ (an_ rfl h))
  exact AK.met (ex_ _ (an_ rfl h))
 rintro σ ⟨j,rfl,h⟩
 refine bg_ h (fun e h=>Qa hC [.T,.n 8,.K [2] []] rfl ⟨tt_,e⟩ ?_) fun e h=>Qa hC [.F] rfl ⟨tt_,e⟩ ?_
 ·cases h
  exact d1_ rfl rfl tt_
 refine AK.meet (fun σ=>∃k:Bool,σ=⟨[(3,.I a),(7,.b k)],[]⟩∧QhM a k=some r) ?_ ?_
 ·refine tg_ hC [.n 6] rfl ?_
  refine bg_ h (fun d h=>Qa hC [.T,.n 1,.K [3,7] []] rfl ⟨tt_,d⟩ ?_) fun d h=>Qa hC [.F,.n 4,.K [3,7] []] rfl ⟨tt_,d⟩ ?_
  ·exact AK.met (ex_ _ (an_ rfl h))
  exact AK.met (ex_ _ (an_ rfl h))
 rintro σ ⟨k,rfl,h⟩
 refine bg_ h (fun f h=>Qa hC [.T,.n 8,.K [2] []] rfl ⟨tt_,f⟩ ?_) fun f h=>Qa hC [.F,.n 6] rfl ⟨tt_,f⟩ ?_
 ·cases h
  exact d1_ rfl rfl tt_
 refine bg_ h (fun g h=>Qa hC [.T,.n 8,.K [2] []] rfl ⟨tt_,g⟩ ?_) fun g h=>Qa hC [.F,.n 6] rfl ⟨tt_,g⟩ ?_
 ·cases h
  exact d1_ rfl rfl tt_
 refine bg_ h (fun i h=>Qa hC [.T,.n 8,.K [2] []] rfl ⟨tt_,i⟩ ?_) fun i h=>Qa hC [.F,.n 9,.K [2] []] rfl ⟨tt_,i⟩ ?_
 ·cases h
  exact d1_ rfl rfl tt_
 cases h
 exact d1_ rfl rfl tt_
def Qmz (op1:Int):Option Bool:=
 some ((decide (1≤op1))&&(decide (op1≤11)))
theorem Qws (op1){r}(h:Qmz op1=some r):Qc prog 259 [.I op1] [] (Gives (.b r) []):=by
 refine Qc.walk 9 func259 rfl rfl rfl fun C hC=>?_
 refine tg_ hC [.n 6] rfl ?_
 refine AK.meetX (fun σ=>σ=⟨[(2,.b ((decide (1≤op1))&&(decide (op1≤11))))],[]⟩) ?_ ?_
 ·refine tg_ hC [.n 4] rfl ?_
  rcases Q7 (decide (1≤op1))with a | a
  ·refine Qa hC [.S 5 (.b true),.n 5,.S 2 (.b ((decide (1≤op1))&&(decide (op1≤11)))),.K [2] []] rfl ⟨(tc_ a),(congrArg V.b (Qb8 a rfl))⟩ ?_
   exact AK.met rfl
  refine Qa hC [.S 5 (.b false),.n 5,.S 2 (.b ((decide (1≤op1))&&(decide (op1≤11)))),.K [2] []] rfl ⟨(tc_ a),(congrArg V.b (Qd6 a rfl))⟩ ?_
  exact AK.met rfl
 rintro σ rfl
 refine tg_ hC [.n 2] rfl ?_
 cases h
 exact d1_ rfl rfl tt_
def Qni (rec_expr_parts:Qo→Int→Option Bool)(a:Qo)(b:Int):Option Bool:=
 (rec_expr_parts a b).bind fun c=>
 some (!c)
theorem QuN (rec_expr_parts:Qo→Int→Option Bool)(hrec_expr_parts:∀(i:Qo) (a:Int) {r:Bool},rec_expr_parts i a=some r→Qc prog 237 [.agg (Qq i),.I a] [] (Gives (.b r) []))(e:Qo)(f:Int){r:Bool}(h:Qni rec_expr_parts e f=some r):Qc prog 261 [.agg (Qq e),.loc 617 0 0] [(617,.var (Qe f))] (Gives (.b r) [(617,.var (Qe f))]):=by
 refine Qc.walk 8 func261 rfl rfl rfl fun C hC=>?_
 obtain⟨j,g,h⟩:=Qb h
 refine Qa hC [.n 8,.v .no [] (.agg (Qq e)),.n 1,.o (.c false [.d,.d] (.b j)),.n 5] rfl ⟨⟨tt_,rfl⟩,(hrec_expr_parts _ _ g)⟩ ?_
 cases h
 exact d1_ rfl rfl ⟨rfl,tt_⟩
def Qa1 (c:(List Qo))(rec_expr_parts:Qo→Int→Option Bool)(d:Int)(a:Int):Option (Int⊕(Int⊕Unit)):=
 bif (decide (a<(c.length:Int)))then
 (idx c a).bind fun e=>
 (Qni rec_expr_parts e d).bind fun b=>
 bif b then
 some (.inr (.inl a))
 else
 some (.inl (w64 (a+1)))
 else
 some (.inr (.inr ()))
def Qd0 (a:Int):Option Int:=
 some a
def Qd1 : Option Int:=
 some (-1)
def QcC (rec_expr_parts:Qo→Int→Option Bool)(a:(List Qo))(b:Int):Option Int:=
 (QJ (fun st=>Qa1 a rec_expr_parts b st) 0).bind (Sum.elim (fun q=>Qd0 q) (fun q=>Qd1))
theorem QiS (rec_expr_parts:Qo→Int→Option Bool)(hrec_expr_parts:∀(s:Qo) (a:Int) {r:Bool},rec_expr_parts s a=some r→Qc prog 237 [.agg (Qq s),.I a] [] (Gives (.b r) []))(i:(List Qo))(f:Int){r:Int}(h:QcC rec_expr_parts i f=some r):Qc prog 277 [.sl 3 (Qbo i),.clo (.func 261) [] [.loc 617 0 0]] [(617,.var (Qe f))] (Gives (.I r) [(617,.var (Qe f))]):=by
 refine Qc.walk 19 func277 rfl rfl rfl fun C hC=>?_
 refine Qa hC [.n 9,.o (.ln i.length),.n 4,.K [0,1,7,8] [617]] rfl ⟨tt_,Qkx _⟩ ?_
 obtain⟨l,j,h⟩:=Qb h
 refine AK.loop (body:=(fun st=>Qa1 i rec_expr_parts f st)) (fun st σ=>σ=⟨[(0,.sl 3 (Qbo i)),(1,.clo (.func 261) [] [.loc 617 0 0]),(7,.I (i.length:Int)),(8,.I st)],[(617,.var (Qe f))]⟩) (Sum.elim (fun q e σ=>e=.ret∧σ=⟨[(4,.I q)],[(617,.var (Qe f))]⟩) (fun q e σ=>e=.exit 0∧σ=⟨[],[(617,.var (Qe f))]⟩)) j rfl ?_ ?_
 ·rintro w o σ rfl h
  refine tg_ hC [.n 6] rfl ?_
  rcases Qt h with⟨g,h⟩|⟨g,h⟩
  ·obtain⟨t,m,h⟩:=Qb h
   obtain⟨p,k,h⟩:=Qb h
   refine Qa hC [.T,.n 15,.o (.row (Qq t)),.v .no [] (.agg (Qq t)),.cm (.clo) [(617,617)] [(617,617)] [] [.d,.d] [(617,.var (Qe f))] (.b p),.n 2] rfl ⟨⟨⟨⟨tt_,g⟩,(QeD m)⟩,rfl⟩,(QuN rec_expr_parts hrec_expr_parts _ _ k)⟩ ?_
   refine bg_ h (fun c h=>Qa hC [.T,.n 9,.K [4] [617]] rfl ⟨tt_,c⟩ ?_) fun c h=>Qa hC [.F,.n 7,.K [0,1,7,8] [617]] rfl ⟨tt_,c⟩ ?_
   ·cases h
    exact Qav rfl (an_ rfl rfl)
   cases h
   exact Q6 rfl rfl
  refine Qa hC [.F,.n 2,.K [] [617]] rfl ⟨tt_,g⟩ ?_
  cases h
  exact Q8 rfl (an_ rfl rfl)
 rcases l with(u | _)
 ·replace h:Qd0 u=some r:=h
  rintro e σ ⟨rfl,rfl⟩
  refine tg_ hC [.n 2] rfl ?_
  cases h
  exact d1_ rfl rfl ⟨rfl,tt_⟩
 replace h:Qd1=some r:=h
 rintro e σ ⟨rfl,rfl⟩
 refine tg_ hC [.n 8] rfl ?_
 cases h
 exact d1_ rfl rfl ⟨rfl,tt_⟩
def Qa2 (rec_expr_parts:Qo→Int→Option Bool)(a:(List Qo))(b:Int):Option Bool:=
 (QcC rec_expr_parts a b).bind fun c=>
 some (decide (0≤c))
theorem QhO (rec_expr_parts:Qo→Int→Option Bool)(hrec_expr_parts:∀(f:Qo) (a:Int) {r:Bool},rec_expr_parts f a=some r→Qc prog 237 [.agg (Qq f),.I a] [] (Gives (.b r) []))(g:(List Qo))(c:Int){r:Bool}(h:Qa2 rec_expr_parts g c=some r):Qc prog 260 [.sl 3 (Qbo g),.clo (.func 261) [] [.loc 617 0 0]] [(617,.var (Qe c))] (Gives (.b r) [(617,.var (Qe c))]):=by
 refine Qc.walk 9 func260 rfl rfl rfl fun C hC=>?_
 obtain⟨i,e,h⟩:=Qb h
 refine Qa hC [.n 9,.cm (.fn) [(617,617)] [(617,617)] [] [.d,.d] [(617,.var (Qe c))] (.I i),.n 5] rfl ⟨tt_,(QiS rec_expr_parts hrec_expr_parts _ _ e)⟩ ?_
 cases h
 exact d1_ rfl rfl ⟨rfl,tt_⟩
def Qqx (b:Qo):Option Bool:=
 bif (b.Kind==5)then
 (Qmz b.Num).bind fun a=>
 some (!a)
 else
 some false
def Qjs (rec_expr_parts:Qo→Int→Option Bool)(d:Qo)(a:Int)(b:Bool):Option Bool:=
 bif b then
 some false
 else
 (Qa2 rec_expr_parts d.Kids a).bind fun c=>
 some (!c)
def Qnj (rec_expr_parts:Qo→Int→Option Bool)(b:Qo)(a:Int):Option Bool:=
 (QnL b.Kind).bind fun d=>
 bif ((b.Kids.length:Int) != d)then
 some false
 else
 bif ((b.Kind==2)&&((decide (b.Num<0))||(decide (a≤b.Num))))then
 some false
 else
 (Qqx b).bind (fun c=>Qjs rec_expr_parts b a c)
def Qer : Nat→Qo→Int→Option Bool
 | 0,_,_=>none
 | n+1,b,a=>Qnj (Qer n) b a
def Qpz (b:Qo)(a:Int):Option Bool:=Qer (SizeOf.sizeOf b) b a
theorem QuO (rec_expr_parts:Qo→Int→Option Bool)(hrec_expr_parts:∀(f:Qo) (e:Int) {r:Bool},rec_expr_parts f e=some r→Qc prog 237 [.agg (Qq f),.I e] [] (Gives (.b r) []))(f:Qo)(e:Int){r:Bool}(h:Qnj rec_expr_parts f e=some r):Qc prog 237 [.agg (Qq f),.I e] [] (Gives (.b r) []):=by
 refine Qc.walk 43 func237 rfl rfl rfl fun C hC=>?_
 obtain⟨x,u,h⟩:=Qb h
 refine tg_ hC [.n 10,.K [2,3] [2,3]] rfl ?_
 refine AK.draw2 Qs hC mixed [.N,.N,.a (.ln f.Kids.length) none false,.N,.N,.a (.c false [.d] (.I x)) none false,.N,.N] [] [] [2,3,5] [2,3] rfl rfl rfl ⟨⟨tt_,Qkx _⟩,(Qxp _ u)⟩ rfl (by kernel_rfl) rfl rfl rfl ?_
 refine tg_ hC [.n 1] rfl ?_
 refine bg_ h (fun m h=>Qa hC [.T,.n 8,.K [4] []] rfl ⟨tt_,m⟩ ?_) fun m h=>Qa hC [.F,.n 1] rfl ⟨tt_,m⟩ ?_
 ·cases h
  exact d1_ rfl rfl tt_
 refine AK.meetX (fun σ=>σ=⟨[(2,.loc 2 0 0),(3,.loc 3 0 0),(13,.b ((f.Kind==2)&&((decide (f.Num<0))||(decide (e≤f.Num)))))],[(2,.var (Qq f)),(3,.var (Qe e))]⟩) ?_ ?_
 ·refine tg_ hC [.n 5] rfl ?_
  rcases Q7 (f.Kind==2)with g | g
  ·refine Qa hC [.S 17 (.b true),.n 4] rfl (tc_ g) ?_
   rcases Q7 (decide (f.Num<0))with i | i
   ·refine Qa hC [.S 21 (.b true),.n 8,.S 13 (.b ((f.Kind==2)&&((decide (f.Num<0))||(decide (e≤f.Num))))),.K [2,3,13] [2,3]] rfl ⟨(tc_ i),(congrArg V.b (Qb8 g (orT i rfl)))⟩ ?_
    exact AK.met rfl
   refine Qa hC [.S 21 (.b false),.n 8,.S 13 (.b ((f.Kind==2)&&((decide (f.Num<0))||(decide (e≤f.Num))))),.K [2,3,13] [2,3]] rfl ⟨(tc_ i),(congrArg V.b (Qb8 g (orF i rfl)))⟩ ?_
   exact AK.met rfl
  refine Qa hC [.S 17 (.b false),.n 12,.S 13 (.b ((f.Kind==2)&&((decide (f.Num<0))||(decide (e≤f.Num))))),.K [2,3,13] [2,3]] rfl ⟨(tc_ g),(congrArg V.b (Qd6 g rfl))⟩ ?_
  exact AK.met rfl
 rintro σ rfl
 refine tg_ hC [.n 1] rfl ?_
 refine bg_ h (fun j h=>Qa hC [.T,.n 8,.K [4] []] rfl ⟨tt_,j⟩ ?_) fun j h=>Qa hC [.F,.n 1] rfl ⟨tt_,j⟩ ?_
 ·cases h
  exact d1_ rfl rfl tt_
 obtain⟨p,q,h⟩:=Qb h
 replace h:Qjs rec_expr_parts f e p=some r:=h
 refine AK.meetX (fun σ=>σ=⟨[(2,.loc 2 0 0),(3,.loc 3 0 0),(28,.b p)],[(2,.var (Qq f)),(3,.var (Qe e))]⟩) ?_ ?_
 ·replace h:=q
  refine tg_ hC [.n 5] rfl ?_
  rcases Qt h with⟨k,h⟩|⟨k,h⟩
  ·obtain⟨v,s,h⟩:=Qb h
   refine Qa hC [.S 32 (.b true),.n 2,.o (.c false [.d] (.b v)),.n 4,.K [2,3,28] [2,3]] rfl ⟨(tc_ k),(Qws _ s)⟩ ?_
   cases h
   exact AK.met rfl
  refine Qa hC [.S 32 (.b false),.n 7,.K [2,3,28] [2,3]] rfl (tc_ k) ?_
  cases h
  exact AK.met rfl
 rintro σ rfl
 replace h:Qjs rec_expr_parts f e p=some r:=h
 refine tg_ hC [.n 1] rfl ?_
 rcases Qt h with⟨l,h⟩|⟨l,h⟩
 ·refine Qa hC [.T,.n 8] rfl ⟨tt_,l⟩ ?_
  cases h
  exact d1_ rfl rfl tt_
 obtain⟨w,t,h⟩:=Qb h
 refine Qa hC [.F,.n 8,.cm (.fn) [(617,3)] [(3,617)] [] [.d,.d] [(617,.var (Qe e))] (.b w),.n 5] rfl ⟨⟨tt_,l⟩,(QhO rec_expr_parts hrec_expr_parts _ _ t)⟩ ?_
 cases h
 exact d1_ rfl rfl tt_
theorem Qou : ∀(fuel:Nat) (c:Qo) (a:Int) {r:Bool},Qer fuel c a=some r→Qc prog 237 [.agg (Qq c),.I a] [] (Gives (.b r) [])
 | 0,_,_,_,h=>by cases h
 | n+1,c,a,_,h=>QuO (Qer n) (fun _ _ _ h=>Qou n _ _ h) c a h
theorem Qwt (c a){r}(h:Qpz c a=some r):Qc prog 237 [.agg (Qq c),.I a] [] (Gives (.b r) []):=Qou _ c a h
def Qqy (b:Qo)(a:Int):Option Bool:=
 (Qpx b).bind fun d=>
 bif (decide (d≤40))then
 (Qra b).bind fun e=>
 bif (decide (e≤400))then
 (Qpz b a).bind fun c=>
 some c
 else
 some false
 else
 some false
def QmA (a:Bool):Option Bool:=
 some a
def QhP (b:Qo)(a:Int):Option Bool:=
 (Qqy b a).bind (fun c=>QmA c)
theorem QmB (g a){r}(h:QhP g a=some r):Qc prog 192 [.agg (Qq g),.I a] [] (Gives (.b r) []):=by
 refine Qc.walk 18 func192 rfl rfl rfl fun C hC=>?_
 refine tg_ hC [.n 7] rfl ?_
 obtain⟨j,k,h⟩:=Qb h
 replace h:QmA j=some r:=h
 refine AK.meetX (fun σ=>σ=⟨[(4,.b j)],[]⟩) ?_ ?_
 ·replace h:=k
  obtain⟨q,l,h⟩:=Qb h
  refine Qa hC [.n 1,.v .no [] (.agg (Qq g)),.o (.c false [.d] (.I q)),.n 2] rfl ⟨⟨tt_,rfl⟩,(Qwr _ l)⟩ ?_
  rcases Qt h with⟨e,h⟩|⟨e,h⟩
  ·obtain⟨s,m,h⟩:=Qb h
   refine Qa hC [.S 8 (.b true),.v .no [] (.agg (Qq g)),.o (.c false [.d] (.I s)),.n 3] rfl ⟨⟨(tc_ e),rfl⟩,(Qxo _ m)⟩ ?_
   rcases Qt h with⟨f,h⟩|⟨f,h⟩
   ·obtain⟨p,i,h⟩:=Qb h
    refine Qa hC [.S 13 (.b true),.v .no [] (.agg (Qq g)),.n 1,.o (.c false [.d,.d] (.b p)),.n 3,.K [4] []] rfl ⟨⟨(tc_ f),rfl⟩,(Qwt _ _ i)⟩ ?_
    cases h
    exact AK.met rfl
   refine Qa hC [.S 13 (.b false),.n 6,.K [4] []] rfl (tc_ f) ?_
   cases h
   exact AK.met rfl
  refine Qa hC [.S 8 (.b false),.n 11,.K [4] []] rfl (tc_ e) ?_
  cases h
  exact AK.met rfl
 rintro σ rfl
 replace h:QmA j=some r:=h
 refine tg_ hC [.n 2] rfl ?_
 cases h
 exact d1_ rfl rfl tt_
def QcD (b:(List Int))(a:Int)(c:Bool):Option ((List Int)⊕((List Int)⊕((List Int)⊕((List Int)⊕(List Int))))):=
 bif c then
 some (.inr (.inr (.inl b)))
 else
 bif (a==5)then
 some (.inr (.inr (.inr (.inl b))))
 else
 some (.inr (.inr (.inr (.inr b))))
def QcV (b:(List Int))(a:Int):Option ((List Int)⊕((List Int)⊕((List Int)⊕((List Int)⊕(List Int))))):=
 bif (a==1)then
 some (.inl b)
 else
 bif (a==2)then
 some (.inr (.inl b))
 else
 bif (a==3)then
 QcD b a (a==3)
 else
 QcD b a (a==4)
theorem QeQ (j a){r}(h:QcV j a=some r):Qc prog 252 [.sl 1 (j.map Qe),.I a] [] ((Sum.elim (fun q=>(Gives (.clo (.func 268) [.sl 1 (q.map Qe)] []) [])) (Sum.elim (fun q=>(Gives (.clo (.func 269) [.sl 1 (q.map Qe)] []) [])) (Sum.elim (fun q=>(Gives (.clo (.func 270) [.sl 1 (q.map Qe)] []) [])) (Sum.elim (fun q=>(Gives (.clo (.func 271) [.sl 1 (q.map Qe)] []) [])) (fun q=>(Gives (.clo (.func 272) [.sl 1 (q.map Qe)] []) [])))))) r):=by
 refine Qc.walk 25 func252 rfl rfl rfl fun C hC=>?_
 refine tg_ hC [.n 18] rfl ?_
 refine bg_ h (fun f h=>Qa hC [.T,.n 10,.K [4] []] rfl ⟨tt_,f⟩ ?_) fun f h=>Qa hC [.F,.n 6] rfl ⟨tt_,f⟩ ?_
 ·cases h
  exact AK.done (ex_ [_] (an_ (an_ rfl tt_) (gives tt_)))
 refine bg_ h (fun g h=>Qa hC [.T,.n 10,.K [4] []] rfl ⟨tt_,g⟩ ?_) fun g h=>Qa hC [.F] rfl ⟨tt_,g⟩ ?_
 ·cases h
  exact AK.done (ex_ [_] (an_ (an_ rfl tt_) (gives tt_)))
 refine AK.meet (fun σ=>∃i:Bool,σ=⟨[(0,.sl 1 (j.map Qe)),(5,.I a),(14,.b i)],[]⟩∧QcD j a i=some r) ?_ ?_
 ·refine tg_ hC [.n 6] rfl ?_
  refine bg_ h (fun c h=>Qa hC [.T,.n 1,.K [0,5,14] []] rfl ⟨tt_,c⟩ ?_) fun c h=>Qa hC [.F,.n 4,.K [0,5,14] []] rfl ⟨tt_,c⟩ ?_
  ·exact AK.met (ex_ _ (an_ rfl h))
  exact AK.met (ex_ _ (an_ rfl h))
 rintro σ ⟨i,rfl,h⟩
 refine bg_ h (fun d h=>Qa hC [.T,.n 10,.K [4] []] rfl ⟨tt_,d⟩ ?_) fun d h=>Qa hC [.F,.n 6] rfl ⟨tt_,d⟩ ?_
 ·cases h
  exact AK.done (ex_ [_] (an_ (an_ rfl tt_) (gives tt_)))
 refine bg_ h (fun e h=>Qa hC [.T,.n 10,.K [4] []] rfl ⟨tt_,e⟩ ?_) fun e h=>Qa hC [.F,.n 11,.K [4] []] rfl ⟨tt_,e⟩ ?_
 ·cases h
  exact AK.done (ex_ [_] (an_ (an_ rfl tt_) (gives tt_)))
 cases h
 exact AK.done (ex_ [_] (an_ (an_ rfl tt_) (gives tt_)))
def Qov (b:(List Int))(a:Qo):Option (Int×Int):=
 some (a.Num,0)
theorem Qsz (a b){r}(h:Qov a b=some r):Qc prog 268 [.sl 1 (a.map Qe),.agg (Qq b)] [] (Gives (.tup [.I r.1,.I r.2]) []):=by
 refine Qc.walk 8 func268 rfl rfl rfl fun C hC=>?_
 refine tg_ hC [.n 16] rfl ?_
 cases h
 exact d2_ rfl rfl rfl tt_
def Qje (a:(List Int))(b:Qo):Option (Int×Int):=
 (idx a b.Num).bind fun c=>
 some (c,0)
theorem Qrb (b c){r}(h:Qje b c=some r):Qc prog 269 [.sl 1 (b.map Qe),.agg (Qq c)] [] (Gives (.tup [.I r.1,.I r.2]) []):=by
 refine Qc.walk 11 func269 rfl rfl rfl fun C hC=>?_
 obtain⟨d,a,h⟩:=Qb h
 refine Qa hC [.n 12,.o (.row (Qe d)),.n 6] rfl ⟨tt_,(QT a)⟩ ?_
 cases h
 exact d2_ rfl rfl rfl tt_
def QoR (a:Int)(b:Int):Option (Int×Int):=
 bif (((decide (a<0))==(decide (b<0)))&&((decide ((w64 (a+b))<0)) != (decide (a<0))))then
 some (0,6)
 else
 some ((w64 (a+b)),0)
theorem Qyb (a d){r}(h:QoR a d=some r):Qc prog 289 [.I a,.I d] [] (Gives (.tup [.I r.1,.I r.2]) []):=by
 refine Qc.walk 23 func289 rfl rfl rfl fun C hC=>?_
 refine tg_ hC [.n 16] rfl ?_
 refine AK.meetX (fun σ=>σ=⟨[(6,.I (w64 (a+d))),(21,.b (((decide (a<0))==(decide (d<0)))&&((decide ((w64 (a+d))<0)) != (decide (a<0)))))],[]⟩) ?_ ?_
 ·refine tg_ hC [.n 7] rfl ?_
  rcases Q7 ((decide (a<0))==(decide (d<0)))with c | c
  ·refine Qa hC [.S 15 (.b true),.n 7,.S 21 (.b (((decide (a<0))==(decide (d<0)))&&((decide ((w64 (a+d))<0)) != (decide (a<0))))),.K [6,21] []] rfl ⟨(tc_ c),(congrArg V.b (Qb8 c rfl))⟩ ?_
   exact AK.met rfl
  refine Qa hC [.S 15 (.b false),.n 7,.S 21 (.b (((decide (a<0))==(decide (d<0)))&&((decide ((w64 (a+d))<0)) != (decide (a<0))))),.K [6,21] []] rfl ⟨(tc_ c),(congrArg V.b (Qd6 c rfl))⟩ ?_
  exact AK.met rfl
 rintro σ rfl
 refine tg_ hC [.n 1] rfl ?_
 refine bg_ h (fun e h=>Qa hC [.T,.n 8,.K [4,5] []] rfl ⟨tt_,e⟩ ?_) fun e h=>Qa hC [.F,.n 10,.K [4,5] []] rfl ⟨tt_,e⟩ ?_
 ·cases h
  exact d2_ rfl rfl rfl tt_
 cases h
 exact d2_ rfl rfl rfl tt_
def Qhl (a:Int)(b:Int):Option (Int×Int):=
 bif (((decide (a<0)) != (decide (b<0)))&&((decide ((w64 (a-b))<0)) != (decide (a<0))))then
 some (0,6)
 else
 some ((w64 (a-b)),0)
theorem QsA (a d){r}(h:Qhl a d=some r):Qc prog 290 [.I a,.I d] [] (Gives (.tup [.I r.1,.I r.2]) []):=by
 refine Qc.walk 23 func290 rfl rfl rfl fun C hC=>?_
 refine tg_ hC [.n 16] rfl ?_
 refine AK.meetX (fun σ=>σ=⟨[(6,.I (w64 (a-d))),(21,.b (((decide (a<0)) != (decide (d<0)))&&((decide ((w64 (a-d))<0)) != (decide (a<0)))))],[]⟩) ?_ ?_
 ·refine tg_ hC [.n 7] rfl ?_
  rcases Q7 ((decide (a<0)) != (decide (d<0)))with c | c
  ·refine Qa hC [.S 15 (.b true),.n 7,.S 21 (.b (((decide (a<0)) != (decide (d<0)))&&((decide ((w64 (a-d))<0)) != (decide (a<0))))),.K [6,21] []] rfl ⟨(tc_ c),(congrArg V.b (Qb8 c rfl))⟩ ?_
   exact AK.met rfl
  refine Qa hC [.S 15 (.b false),.n 7,.S 21 (.b (((decide (a<0)) != (decide (d<0)))&&((decide ((w64 (a-d))<0)) != (decide (a<0))))),.K [6,21] []] rfl ⟨(tc_ c),(congrArg V.b (Qd6 c rfl))⟩ ?_
  exact AK.met rfl
 rintro σ rfl
 refine tg_ hC [.n 1] rfl ?_
 refine bg_ h (fun e h=>Qa hC [.T,.n 8,.K [4,5] []] rfl ⟨tt_,e⟩ ?_) fun e h=>Qa hC [.F,.n 10,.K [4,5] []] rfl ⟨tt_,e⟩ ?_
 ·cases h
  exact d2_ rfl rfl rfl tt_
 cases h
 exact d2_ rfl rfl rfl tt_
def Qlp (a:Int):Option Int:=
 bif (decide (a<0))then
 some (IntKind.u64.wrap (0-(IntKind.u64.wrap a)))
 else
 some (IntKind.u64.wrap a)
theorem Qrw (b){r}(h:Qlp b=some r):Qc prog 296 [.I b] [] (Gives (.i .u64 r) []):=by
 refine Qc.walk 10 func296 rfl rfl rfl fun C hC=>?_
 refine tg_ hC [.n 12] rfl ?_
 refine bg_ h (fun a h=>Qa hC [.T,.n 3,.o (.any (.i .u64 (IntKind.u64.wrap b)) none),.n 6,.K [2] []] rfl ⟨⟨tt_,a⟩,(fun σ c d _=>Stp.convI rfl rfl (QN hC.n rfl) (c _ _ rfl) Qvz QtO)⟩ ?_) fun a h=>Qa hC [.F,.n 5,.o (.any (.i .u64 (IntKind.u64.wrap b)) none),.n 4,.K [2] []] rfl ⟨⟨tt_,a⟩,(fun σ c d _=>Stp.convI rfl rfl (QN hC.n rfl) (c _ _ rfl) Qvz QtO)⟩ ?_
 ·cases h
  exact d1_ rfl rfl tt_
 cases h
 exact d1_ rfl rfl tt_
def Qhm (a:Int)(b:Int):Option (Int×Int):=
 some ((IntKind.u64.wrap ((IntKind.u64.wrap ((IntKind.u64.wrap ((Qbr .u64 a 32)*(Qbr .u64 b 32)))+(Qbr .u64 (IntKind.u64.wrap ((IntKind.u64.wrap ((Qbr .u64 a 32)*(Qd7 .u64 b 4294967295)))+(Qbr .u64 (IntKind.u64.wrap ((Qd7 .u64 a 4294967295)*(Qd7 .u64 b 4294967295))) 32))) 32)))+(Qbr .u64 (IntKind.u64.wrap ((Qd7 .u64 (IntKind.u64.wrap ((IntKind.u64.wrap ((Qbr .u64 a 32)*(Qd7 .u64 b 4294967295)))+(Qbr .u64 (IntKind.u64.wrap ((Qd7 .u64 a 4294967295)*(Qd7 .u64 b 4294967295))) 32))) 4294967295)+(IntKind.u64.wrap ((Qd7 .u64 a 4294967295)*(Qbr .u64 b 32))))) 32))),(IntKind.u64.wrap (a*b)))
theorem QsB (b c){r}(h:Qhm b c=some r):Qc prog 295 [.i .u64 b,.i .u64 c] [] (Gives (.tup [.i .u64 r.1,.i .u64 r.2]) []):=by
 refine Qc.walk 51 func295 rfl rfl rfl fun C hC=>?_
 refine Qa hC [.n 9,.o (.any (.i .u64 (Qd7 .u64 b 4294967295)) none),.n 6,.o (.any (.i .u64 (Qbr .u64 b 32)) none),.n 6,.o (.any (.i .u64 (Qd7 .u64 c 4294967295)) none),.n 6,.o (.any (.i .u64 (Qbr .u64 c 32)) none),.n 17,.o (.any (.i .u64 (Qbr .u64 (IntKind.u64.wrap ((Qd7 .u64 b 4294967295)*(Qd7 .u64 c 4294967295))) 32)) none),.n 7,.o (.any (.i .u64 (Qd7 .u64 (IntKind.u64.wrap ((IntKind.u64.wrap ((Qbr .u64 b 32)*(Qd7 .u64 c 4294967295)))+(Qbr .u64 (IntKind.u64.wrap ((Qd7 .u64 b 4294967295)*(Qd7 .u64 c 4294967295))) 32))) 4294967295)) none),.n 6,.o (.any (.i .u64 (Qbr .u64 (IntKind.u64.wrap ((IntKind.u64.wrap ((Qbr .u64 b 32)*(Qd7 .u64 c 4294967295)))+(Qbr .u64 (IntKind.u64.wrap ((Qd7 .u64 b 4294967295)*(Qd7 .u64 c 4294967295))) 32))) 32)) none),.n 21,.o (.any (.i .u64 (Qbr .u64 (IntKind.u64.wrap ((Qd7 .u64 (IntKind.u64.wrap ((IntKind.u64.wrap ((Qbr .u64 b 32)*(Qd7 .u64 c 4294967295)))+(Qbr .u64 (IntKind.u64.wrap ((Qd7 .u64 b 4294967295)*(Qd7 .u64 c 4294967295))) 32))) 4294967295)+(IntKind.u64.wrap ((Qd7 .u64 b 4294967295)*(Qbr .u64 c 32))))) 32)) none),.n 13] rfl ⟨⟨⟨⟨⟨⟨⟨⟨tt_,(fun σ a d _=>Stp.andB rfl rfl (QN hC.n rfl) (a _ _ rfl) (a _ _ rfl))⟩,(fun σ a d _=>Stp.shr rfl rfl (QN hC.n rfl) (a _ _ rfl) (a _ _ rfl) (by decide))⟩,(fun σ a d _=>Stp.andB rfl rfl (QN hC.n rfl) (a _ _ rfl) (a _ _ rfl))⟩,(fun σ a d _=>Stp.shr rfl rfl (QN hC.n rfl) (a _ _ rfl) (a _ _ rfl) (by decide))⟩,(fun σ a d _=>Stp.shr rfl rfl (QN hC.n rfl) (a _ _ rfl) (a _ _ rfl) (by decide))⟩,(fun σ a d _=>Stp.andB rfl rfl (QN hC.n rfl) (a _ _ rfl) (a _ _ rfl))⟩,(fun σ a d _=>Stp.shr rfl rfl (QN hC.n rfl) (a _ _ rfl) (a _ _ rfl) (by decide))⟩,(fun σ a d _=>Stp.shr rfl rfl (QN hC.n rfl) (a _ _ rfl) (a _ _ rfl) (by decide))⟩ ?_
 cases h
 exact d2_ rfl rfl rfl tt_
def Qfl (b:(Int×Int))(c:Int)(d:Int)(a:Int):Option (Int×Int):=
 bif ((decide (0<b.1))||(decide (a<b.2)))then
 some (0,6)
 else
 some ((w64 (c*d)),0)
def QkG (a:Int)(b:Int):Option (Int×Int):=
 (Qlp a).bind fun d=>
 (Qlp b).bind fun e=>
 (Qhm d e).bind fun c=>
 bif ((decide (a<0)) != (decide (b<0)))then
 Qfl c a b (IntKind.u64.wrap (9223372036854775807+1))
 else
 Qfl c a b 9223372036854775807
theorem QuP (k l){r}(h:QkG k l=some r):Qc prog 291 [.I k,.I l] [] (Gives (.tup [.I r.1,.I r.2]) []):=by
 refine Qc.walk 34 func291 rfl rfl rfl fun C hC=>?_
 obtain⟨s,m,h⟩:=Qb h
 obtain⟨t,p,h⟩:=Qb h
 obtain⟨f,q,h⟩:=Qb h
 refine Qa hC [.n 9,.o (.c false [.d] (.i .u64 s)),.n 1,.o (.c false [.d] (.i .u64 t)),.o (.c false [.d,.d] (.tup [.i .u64 f.1,.i .u64 f.2])),.n 12] rfl ⟨⟨⟨tt_,(Qrw _ m)⟩,(Qrw _ p)⟩,(QsB _ _ q)⟩ ?_
 refine AK.meet (fun σ=>∃a:Int,σ=⟨[(0,.I k),(1,.I l),(6,.i .u64 f.1),(7,.i .u64 f.2),(8,.i .u64 a)],[]⟩∧Qfl f k l a=some r) ?_ ?_
 ·refine tg_ hC [.n 9] rfl ?_
  refine bg_ h (fun g h=>Qa hC [.T,.n 5,.K [0,1,6,7,8] []] rfl ⟨tt_,g⟩ ?_) fun g h=>Qa hC [.F,.n 1,.K [0,1,6,7,8] []] rfl ⟨tt_,g⟩ ?_
  ·exact AK.met (ex_ _ (an_ rfl h))
  exact AK.met (ex_ _ (an_ rfl h))
 rintro σ ⟨a,rfl,h⟩
 refine tg_ hC [.n 2] rfl ?_
 refine AK.meetX (fun σ=>σ=⟨[(0,.I k),(1,.I l),(30,.b ((decide (0<f.1))||(decide (a<f.2))))],[]⟩) ?_ ?_
 ·refine tg_ hC [.n 4] rfl ?_
  rcases Q7 (decide (0<f.1))with e | e
  ·refine Qa hC [.S 26 (.b true),.n 5,.S 30 (.b ((decide (0<f.1))||(decide (a<f.2)))),.K [0,1,30] []] rfl ⟨(tc_ e),(congrArg V.b (orT e rfl))⟩ ?_
   exact AK.met rfl
  refine Qa hC [.S 26 (.b false),.n 5,.S 30 (.b ((decide (0<f.1))||(decide (a<f.2)))),.K [0,1,30] []] rfl ⟨(tc_ e),(congrArg V.b (orF e rfl))⟩ ?_
  exact AK.met rfl
 rintro σ rfl
 refine tg_ hC [.n 1] rfl ?_
 refine bg_ h (fun j h=>Qa hC [.T,.n 8,.K [4,5] []] rfl ⟨tt_,j⟩ ?_) fun j h=>Qa hC [.F,.n 12,.K [4,5] []] rfl ⟨tt_,j⟩ ?_
 ·cases h
  exact d2_ rfl rfl rfl tt_
 cases h
 exact d2_ rfl rfl rfl tt_
def QgL (b:Int)(a:Int):Option (Int×Int×Int):=
 bif (a==0)then
 some (0,0,7)
 else
 bif ((b==(-9223372036854775808))&&(a==(-1)))then
 some (0,0,6)
 else
 (chk (a != 0)).bind fun _=>
 (chk (a != 0)).bind fun _=>
 some ((w64 (Int.tdiv b a)),(Int.tmod b a),0)
theorem QnX (d f){r}(h:QgL d f=some r):Qc prog 292 [.I d,.I f] [] (Gives (.tup [.I r.1,.I r.2.1,.I r.2.2]) []):=by
 refine Qc.walk 23 func292 rfl rfl rfl fun C hC=>?_
 refine tg_ hC [.n 16] rfl ?_
 refine bg_ h (fun e h=>Qa hC [.T,.n 10,.K [4,5,6] []] rfl ⟨tt_,e⟩ ?_) fun e h=>Qa hC [.F,.n 1] rfl ⟨tt_,e⟩ ?_
 ·cases h
  exact AK.done (ex_ [_,_,_] (an_ (an_ rfl (an_ rfl (an_ rfl tt_))) (gives tt_)))
 refine AK.meetX (fun σ=>σ=⟨[(0,.I d),(1,.I f),(10,.b ((d==(-9223372036854775808))&&(f==(-1))))],[]⟩) ?_ ?_
 ·refine tg_ hC [.n 4] rfl ?_
  rcases Q7 (d==(-9223372036854775808))with a | a
  ·refine Qa hC [.S 13 (.b true),.n 5,.S 10 (.b ((d==(-9223372036854775808))&&(f==(-1)))),.K [0,1,10] []] rfl ⟨(tc_ a),(congrArg V.b (Qb8 a rfl))⟩ ?_
   exact AK.met rfl
  refine Qa hC [.S 13 (.b false),.n 5,.S 10 (.b ((d==(-9223372036854775808))&&(f==(-1)))),.K [0,1,10] []] rfl ⟨(tc_ a),(congrArg V.b (Qd6 a rfl))⟩ ?_
  exact AK.met rfl
 rintro σ rfl
 refine tg_ hC [.n 1] rfl ?_
 rcases Qt h with⟨c,h⟩|⟨c,h⟩
 ·refine Qa hC [.T,.n 10,.K [4,5,6] []] rfl ⟨tt_,c⟩ ?_
  cases h
  exact AK.done (ex_ [_,_,_] (an_ (an_ rfl (an_ rfl (an_ rfl tt_))) (gives tt_)))
 obtain⟨g,h⟩:=QaW h
 obtain⟨i,h⟩:=QaW h
 refine Qa hC [.F,.n 4,.K [0,1] []] rfl ⟨tt_,c⟩ ?_
 refine AK.draw2 Qs hC mixed [.N,.N,.N,.N,.N,.N,.N,.N,.N] [] [] [4,5,6] [] rfl rfl rfl ⟨⟨tt_,(neZ g)⟩,(neZ i)⟩ rfl (by kernel_rfl) rfl rfl rfl ?_
 refine tg_ hC [.n 2,.K [4,5,6] []] rfl ?_
 cases h
 exact AK.done (ex_ [_,_,_] (an_ (an_ rfl (an_ rfl (an_ rfl tt_))) (gives tt_)))
def QdO (a:Bool):Option (Int×Int):=
 bif a then
 some (1,0)
 else
 some (0,0)
theorem Qd2 (c){r}(h:QdO c=some r):Qc prog 293 [.b c] [] (Gives (.tup [.I r.1,.I r.2]) []):=by
 refine Qc.walk 5 func293 rfl rfl rfl fun C hC=>?_
 refine tg_ hC [.n 12] rfl ?_
 refine bg_ h (fun a h=>Qa hC [.T,.n 8,.K [2,3] []] rfl ⟨tt_,a⟩ ?_) fun a h=>Qa hC [.F,.n 9,.K [2,3] []] rfl ⟨tt_,a⟩ ?_
 ·cases h
  exact d2_ rfl rfl rfl tt_
 cases h
 exact d2_ rfl rfl rfl tt_
def QtV (c:Int)(d:Int):Option (Int×Int):=
 bif (c != 0)then
 (QdO (d != 0)).bind fun a=>
 some (a.1,a.2)
 else
 (QdO false).bind fun b=>
 some (b.1,b.2)
def QmC (a:Int)(b:Int):Option (Int×Int):=
 some (a,b)
def QtW (c:Int)(d:Int):Option (Int×Int):=
 bif (c != 0)then
 (QdO true).bind fun a=>
 some (a.1,a.2)
 else
 (QdO (d != 0)).bind fun b=>
 some (b.1,b.2)
def QmD (a:Int)(b:Int):Option (Int×Int):=
 some (a,b)
def Qj8 (op1:Int)(a:Int)(b:Int):Option (Int×Int):=
 bif (op1==1)then
 (QoR a b).bind fun k=>
 some (k.1,k.2)
 else
 bif (op1==2)then
 (Qhl a b).bind fun c=>
 some (c.1,c.2)
 else
 bif (op1==3)then
 (QkG a b).bind fun d=>
 some (d.1,d.2)
 else
 bif (op1==4)then
 (QgL a b).bind fun e=>
 some (e.1,e.2.2)
 else
 bif (op1==5)then
 (QgL a b).bind fun f=>
 some (f.2.1,f.2.2)
 else
 bif (op1==6)then
 (QdO (a==b)).bind fun g=>
 some (g.1,g.2)
 else
 bif (op1==7)then
 (QdO (a != b)).bind fun h=>
 some (h.1,h.2)
 else
 bif (op1==8)then
 (QdO (decide (a<b))).bind fun i=>
 some (i.1,i.2)
 else
 bif (op1==9)then
 (QdO (decide (a≤b))).bind fun j=>
 some (j.1,j.2)
 else
 bif (op1==10)then
 (QtV a b).bind (fun v=>QmC v.1 v.2)
 else
 bif (op1==11)then
 (QtW a b).bind (fun v=>QmD v.1 v.2)
 else
 some (0,1)
theorem QmE (op1 a2 b3){r}(h:Qj8 op1 a2 b3=some r):Qc prog 286 [.I op1,.I a2,.I b3] [] (Gives (.tup [.I r.1,.I r.2]) []):=by
 refine Qc.walk 112 func286 rfl rfl rfl fun C hC=>?_
 refine tg_ hC [.n 19] rfl ?_
 rcases Qt h with⟨t,h⟩|⟨t,h⟩
 ·obtain⟨x9,a5,h⟩:=Qb h
  refine Qa hC [.T,.n 4,.o (.c false [.d,.d] (.tup [.I x9.1,.I x9.2])),.n 9] rfl ⟨⟨tt_,t⟩,(Qyb _ _ a5)⟩ ?_
  cases h
  exact d2_ rfl rfl rfl tt_
 refine Qa hC [.F,.n 6] rfl ⟨tt_,t⟩ ?_
 rcases Qt h with⟨a,h⟩|⟨a,h⟩
 ·obtain⟨x,y,h⟩:=Qb h
  refine Qa hC [.T,.n 4,.o (.c false [.d,.d] (.tup [.I x.1,.I x.2])),.n 9] rfl ⟨⟨tt_,a⟩,(QsA _ _ y)⟩ ?_
  cases h
  exact d2_ rfl rfl rfl tt_
 refine Qa hC [.F,.n 6] rfl ⟨tt_,a⟩ ?_
 rcases Qt h with⟨e,h⟩|⟨e,h⟩
 ·obtain⟨z,A,h⟩:=Qb h
  refine Qa hC [.T,.n 4,.o (.c false [.d,.d] (.tup [.I z.1,.I z.2])),.n 9] rfl ⟨⟨tt_,e⟩,(QuP _ _ A)⟩ ?_
  cases h
  exact d2_ rfl rfl rfl tt_
 refine Qa hC [.F,.n 6] rfl ⟨tt_,e⟩ ?_
 rcases Qt h with⟨f,h⟩|⟨f,h⟩
 ·obtain⟨u,B,h⟩:=Qb h
  refine Qa hC [.T,.n 4,.o (.c false [.d,.d] (.tup [.I u.1,.I u.2.1,.I u.2.2])),.n 20] rfl ⟨⟨tt_,f⟩,(QnX _ _ B)⟩ ?_
  cases h
  exact d2_ rfl rfl rfl tt_
 refine Qa hC [.F,.n 6] rfl ⟨tt_,f⟩ ?_
 rcases Qt h with⟨g,h⟩|⟨g,h⟩
 ·obtain⟨w,D,h⟩:=Qb h
  refine Qa hC [.T,.n 4,.o (.c false [.d,.d] (.tup [.I w.1,.I w.2.1,.I w.2.2])),.n 20] rfl ⟨⟨tt_,g⟩,(QnX _ _ D)⟩ ?_
  cases h
  exact d2_ rfl rfl rfl tt_
 refine Qa hC [.F,.n 6] rfl ⟨tt_,g⟩ ?_
 rcases Qt h with⟨i,h⟩|⟨i,h⟩
 ·obtain⟨E,G,h⟩:=Qb h
  refine Qa hC [.T,.n 5,.o (.c false [.d] (.tup [.I E.1,.I E.2])),.n 9] rfl ⟨⟨tt_,i⟩,(Qd2 _ G)⟩ ?_
  cases h
  exact d2_ rfl rfl rfl tt_
 refine Qa hC [.F,.n 6] rfl ⟨tt_,i⟩ ?_
 rcases Qt h with⟨j,h⟩|⟨j,h⟩
 ·obtain⟨H,J,h⟩:=Qb h
  refine Qa hC [.T,.n 5,.o (.c false [.d] (.tup [.I H.1,.I H.2])),.n 9] rfl ⟨⟨tt_,j⟩,(Qd2 _ J)⟩ ?_
  cases h
  exact d2_ rfl rfl rfl tt_
 refine Qa hC [.F,.n 6] rfl ⟨tt_,j⟩ ?_
 rcases Qt h with⟨k,h⟩|⟨k,h⟩
 ·obtain⟨L,M,h⟩:=Qb h
  refine Qa hC [.T,.n 5,.o (.c false [.d] (.tup [.I L.1,.I L.2])),.n 9] rfl ⟨⟨tt_,k⟩,(Qd2 _ M)⟩ ?_
  cases h
  exact d2_ rfl rfl rfl tt_
 refine Qa hC [.F,.n 6] rfl ⟨tt_,k⟩ ?_
 rcases Qt h with⟨l,h⟩|⟨l,h⟩
 ·obtain⟨N,O,h⟩:=Qb h
  refine Qa hC [.T,.n 5,.o (.c false [.d] (.tup [.I N.1,.I N.2])),.n 9] rfl ⟨⟨tt_,l⟩,(Qd2 _ O)⟩ ?_
  cases h
  exact d2_ rfl rfl rfl tt_
 refine Qa hC [.F,.n 6] rfl ⟨tt_,l⟩ ?_
 refine bg_ h (fun m h=>Qa hC [.T,.n 1] rfl ⟨tt_,m⟩ ?_) fun m h=>Qa hC [.F,.n 6] rfl ⟨tt_,m⟩ ?_
 ·obtain⟨v,P,h⟩:=Qb h
  replace h:QmC v.1 v.2=some r:=h
  refine AK.meetX (fun σ=>σ=⟨[(6,.I v.1),(7,.I v.2)],[]⟩) ?_ ?_
  ·replace h:=P
   refine tg_ hC [.n 4] rfl ?_
   rcases Qt h with⟨p,h⟩|⟨p,h⟩
   ·obtain⟨U,W,h⟩:=Qb h
    refine Qa hC [.S 94 (.b true),.n 3,.o (.c false [.d] (.tup [.I U.1,.I U.2])),.n 5,.K [6,7] []] rfl ⟨(tc_ p),(Qd2 _ W)⟩ ?_
    cases h
    exact AK.met rfl
   obtain⟨X,Y,h⟩:=Qb h
   refine Qa hC [.S 94 (.b false),.n 3,.o (.c false [.d] (.tup [.I X.1,.I X.2])),.n 5,.K [6,7] []] rfl ⟨(tc_ p),(Qd2 _ Y)⟩ ?_
   cases h
   exact AK.met rfl
  rintro σ rfl
  obtain⟨a6,a7⟩:=v
  replace h:QmC a6 a7=some r:=h
  refine tg_ hC [.n 4] rfl ?_
  cases h
  exact d2_ rfl rfl rfl tt_
 refine bg_ h (fun q h=>Qa hC [.T,.n 1] rfl ⟨tt_,q⟩ ?_) fun q h=>Qa hC [.F,.n 10,.K [6,7] []] rfl ⟨tt_,q⟩ ?_
 ·obtain⟨v,Z,h⟩:=Qb h
  replace h:QmD v.1 v.2=some r:=h
  refine AK.meetX (fun σ=>σ=⟨[(6,.I v.1),(7,.I v.2)],[]⟩) ?_ ?_
  ·replace h:=Z
   refine tg_ hC [.n 4] rfl ?_
   rcases Qt h with⟨s,h⟩|⟨s,h⟩
   ·obtain⟨a0,a1,h⟩:=Qb h
    refine Qa hC [.S 105 (.b true),.n 3,.o (.c false [.d] (.tup [.I a0.1,.I a0.2])),.n 5,.K [6,7] []] rfl ⟨(tc_ s),(Qd2 _ a1)⟩ ?_
    cases h
    exact AK.met rfl
   obtain⟨a3,a4,h⟩:=Qb h
   refine Qa hC [.S 105 (.b false),.n 3,.o (.c false [.d] (.tup [.I a3.1,.I a3.2])),.n 5,.K [6,7] []] rfl ⟨(tc_ s),(Qd2 _ a4)⟩ ?_
   cases h
   exact AK.met rfl
  rintro σ rfl
  obtain⟨a8,a9⟩:=v
  replace h:QmD a8 a9=some r:=h
  refine tg_ hC [.n 4] rfl ?_
  cases h
  exact d2_ rfl rfl rfl tt_
 cases h
 exact d2_ rfl rfl rfl tt_
def QoS (b:Int):Option (Int×Int):=
 (Qj8 2 0 b).bind fun a=>
 some (a.1,a.2)
theorem Qyc (b){r}(h:QoS b=some r):Qc prog 285 [.I b] [] (Gives (.tup [.I r.1,.I r.2]) []):=by
 refine Qc.walk 8 func285 rfl rfl rfl fun C hC=>?_
 obtain⟨e,a,h⟩:=Qb h
 refine Qa hC [.n 9,.o (.c false [.d,.d,.d] (.tup [.I e.1,.I e.2])),.n 7] rfl ⟨tt_,(QmE _ _ _ a)⟩ ?_
 cases h
 exact d2_ rfl rfl rfl tt_
def Qhn (rec_expr_env_eval:(List Int)→Qo→Option (Int×Int))(e:(List Int))(d:Qo):Option (Int×Int):=
 (idx d.Kids 0).bind fun f=>
 (rec_expr_env_eval e f).bind fun c=>
 bif (c.2 != 0)then
 some (0,c.2)
 else
 bif (d.Kind==3)then
 (QoS c.1).bind fun a=>
 some (a.1,a.2)
 else
 (Qj8 6 c.1 0).bind fun b=>
 some (b.1,b.2)
theorem QsC (rec_expr_env_eval:(List Int)→Qo→Option (Int×Int))(hrec_expr_env_eval:∀(e:(List Int)) (f:Qo) {r:(Int×Int)},rec_expr_env_eval e f=some r→Qc prog 213 [.sl 1 (e.map Qe),.agg (Qq f)] [] (Gives (.tup [.I r.1,.I r.2]) []))(e:(List Int))(f:Qo){r:(Int×Int)}(h:Qhn rec_expr_env_eval e f=some r):Qc prog 270 [.sl 1 (e.map Qe),.agg (Qq f)] [] (Gives (.tup [.I r.1,.I r.2]) []):=by
 refine Qc.walk 33 func270 rfl rfl rfl fun C hC=>?_
 obtain⟨p,l,h⟩:=Qb h
 obtain⟨q,m,h⟩:=Qb h
 refine Qa hC [.n 12,.o (.row (Qq p)),.v .no [] (.agg (Qq p)),.o (.c false [.d,.d] (.tup [.I q.1,.I q.2])),.n 16] rfl ⟨⟨⟨tt_,(QeD l)⟩,rfl⟩,(hrec_expr_env_eval _ _ m)⟩ ?_
 refine bg_ h (fun b h=>Qa hC [.T,.n 10,.K [4,5] []] rfl ⟨tt_,b⟩ ?_) fun b h=>Qa hC [.F,.n 8] rfl ⟨tt_,b⟩ ?_
 ·cases h
  exact d2_ rfl rfl rfl tt_
 rcases Qt h with⟨a,h⟩|⟨a,h⟩
 ·obtain⟨g,i,h⟩:=Qb h
  refine Qa hC [.T,.n 3,.o (.c false [.d] (.tup [.I g.1,.I g.2])),.n 9] rfl ⟨⟨tt_,a⟩,(Qyc _ i)⟩ ?_
  cases h
  exact d2_ rfl rfl rfl tt_
 obtain⟨j,k,h⟩:=Qb h
 refine Qa hC [.F,.n 6,.o (.c false [.d,.d,.d] (.tup [.I j.1,.I j.2])),.n 7] rfl ⟨⟨tt_,a⟩,(QmE _ _ _ k)⟩ ?_
 cases h
 exact d2_ rfl rfl rfl tt_
def QdY (f:(Int×Int))(g:Qo)(rec_expr_env_eval:(List Int)→Qo→Option (Int×Int))(h:(List Int))(d:Bool):Option (Int×Int):=
 bif d then
 (Qj8 7 f.1 0).bind fun b=>
 some (b.1,b.2)
 else
 (idx g.Kids 1).bind fun e=>
 (rec_expr_env_eval h e).bind fun a=>
 bif (a.2 != 0)then
 some (0,a.2)
 else
 (Qj8 g.Num f.1 a.1).bind fun c=>
 some (c.1,c.2)
def Qnk (rec_expr_env_eval:(List Int)→Qo→Option (Int×Int))(c:(List Int))(b:Qo):Option (Int×Int):=
 (idx b.Kids 0).bind fun d=>
 (rec_expr_env_eval c d).bind fun a=>
 bif (a.2 != 0)then
 some (0,a.2)
 else
 bif ((b.Num==10)&&(a.1==0))then
 QdY a b rec_expr_env_eval c ((b.Num==10)&&(a.1==0))
 else
 bif (b.Num==11)then
 QdY a b rec_expr_env_eval c (a.1 != 0)
 else
 QdY a b rec_expr_env_eval c false
theorem QuQ (rec_expr_env_eval:(List Int)→Qo→Option (Int×Int))(hrec_expr_env_eval:∀(k:(List Int)) (e:Qo) {r:(Int×Int)},rec_expr_env_eval k e=some r→Qc prog 213 [.sl 1 (k.map Qe),.agg (Qq e)] [] (Gives (.tup [.I r.1,.I r.2]) []))(k:(List Int))(e:Qo){r:(Int×Int)}(h:Qnk rec_expr_env_eval k e=some r):Qc prog 271 [.sl 1 (k.map Qe),.agg (Qq e)] [] (Gives (.tup [.I r.1,.I r.2]) []):=by
 refine Qc.walk 60 func271 rfl rfl rfl fun C hC=>?_
 obtain⟨D,A,h⟩:=Qb h
 obtain⟨l,B,h⟩:=Qb h
 refine Qa hC [.n 12,.o (.row (Qq D)),.v .no [] (.agg (Qq D)),.o (.c false [.d,.d] (.tup [.I l.1,.I l.2])),.n 16] rfl ⟨⟨⟨tt_,(QeD A)⟩,rfl⟩,(hrec_expr_env_eval _ _ B)⟩ ?_
 refine bg_ h (fun m h=>Qa hC [.T,.n 10,.K [4,5] []] rfl ⟨tt_,m⟩ ?_) fun m h=>Qa hC [.F] rfl ⟨tt_,m⟩ ?_
 ·cases h
  exact d2_ rfl rfl rfl tt_
 refine AK.meet (fun σ=>∃p:Bool,σ=⟨[(0,.sl 1 (k.map Qe)),(3,.loc 3 0 0),(6,.I l.1),(22,.b p)],[(3,.var (Qq e))]⟩∧QdY l e rec_expr_env_eval k p=some r) ?_ ?_
 ·refine tg_ hC [.n 1] rfl ?_
  refine AK.meetX (fun σ=>σ=⟨[(0,.sl 1 (k.map Qe)),(3,.loc 3 0 0),(6,.I l.1),(22,.b ((e.Num==10)&&(l.1==0)))],[(3,.var (Qq e))]⟩) ?_ ?_
  ·refine tg_ hC [.n 5] rfl ?_
   rcases Q7 (e.Num==10)with a | a
   ·refine Qa hC [.S 26 (.b true),.n 5,.S 22 (.b ((e.Num==10)&&(l.1==0))),.K [0,3,6,22] [3]] rfl ⟨(tc_ a),(congrArg V.b (Qb8 a rfl))⟩ ?_
    exact AK.met rfl
   refine Qa hC [.S 26 (.b false),.n 5,.S 22 (.b ((e.Num==10)&&(l.1==0))),.K [0,3,6,22] [3]] rfl ⟨(tc_ a),(congrArg V.b (Qd6 a rfl))⟩ ?_
   exact AK.met rfl
  rintro σ rfl
  refine tg_ hC [.n 1] rfl ?_
  refine bg_ h (fun f h=>Qa hC [.T,.n 1,.K [0,3,6,22] [3]] rfl ⟨tt_,f⟩ ?_) fun f h=>Qa hC [.F,.n 5] rfl ⟨tt_,f⟩ ?_
  ·exact AK.met (ex_ _ (an_ rfl h))
  refine bg_ h (fun g h=>Qa hC [.S 33 (.b true),.n 5,.K [0,3,6,22] [3]] rfl (tc_ g) ?_) fun g h=>Qa hC [.S 33 (.b false),.n 5,.K [0,3,6,22] [3]] rfl (tc_ g) ?_
  ·exact AK.met (ex_ _ (an_ rfl h))
  exact AK.met (ex_ _ (an_ rfl h))
 rintro σ ⟨p,rfl,h⟩
 rcases Qt h with⟨i,h⟩|⟨i,h⟩
 ·obtain⟨q,s,h⟩:=Qb h
  refine Qa hC [.T,.n 3,.o (.c false [.d,.d,.d] (.tup [.I q.1,.I q.2])),.n 9] rfl ⟨⟨tt_,i⟩,(QmE _ _ _ s)⟩ ?_
  cases h
  exact d2_ rfl rfl rfl tt_
 obtain⟨t,u,h⟩:=Qb h
 obtain⟨w,x,h⟩:=Qb h
 refine Qa hC [.F,.n 8,.o (.row (Qq t)),.v .no [] (.agg (Qq t)),.o (.c false [.d,.d] (.tup [.I w.1,.I w.2])),.n 14] rfl ⟨⟨⟨⟨tt_,i⟩,(QeD u)⟩,rfl⟩,(hrec_expr_env_eval _ _ x)⟩ ?_
 rcases Qt h with⟨j,h⟩|⟨j,h⟩
 ·refine Qa hC [.T,.n 9] rfl ⟨tt_,j⟩ ?_
  cases h
  exact d2_ rfl rfl rfl tt_
 obtain⟨y,z,h⟩:=Qb h
 refine Qa hC [.F,.n 8,.o (.c false [.d,.d,.d] (.tup [.I y.1,.I y.2])),.n 7] rfl ⟨⟨tt_,j⟩,(QmE _ _ _ z)⟩ ?_
 cases h
 exact d2_ rfl rfl rfl tt_
def Qld (rec_expr_env_eval:(List Int)→Qo→Option (Int×Int))(c:(List Int))(d:Qo):Option (Int×Int):=
 (idx d.Kids 0).bind fun h=>
 (rec_expr_env_eval c h).bind fun e=>
 bif (e.2 != 0)then
 some (0,e.2)
 else
 bif (e.1 != 0)then
 (idx d.Kids 1).bind fun f=>
 (rec_expr_env_eval c f).bind fun a=>
 some (a.1,a.2)
 else
 (idx d.Kids 2).bind fun g=>
 (rec_expr_env_eval c g).bind fun b=>
 some (b.1,b.2)
theorem QsD (rec_expr_env_eval:(List Int)→Qo→Option (Int×Int))(hrec_expr_env_eval:∀(e:(List Int)) (f:Qo) {r:(Int×Int)},rec_expr_env_eval e f=some r→Qc prog 213 [.sl 1 (e.map Qe),.agg (Qq f)] [] (Gives (.tup [.I r.1,.I r.2]) []))(e:(List Int))(f:Qo){r:(Int×Int)}(h:Qld rec_expr_env_eval e f=some r):Qc prog 272 [.sl 1 (e.map Qe),.agg (Qq f)] [] (Gives (.tup [.I r.1,.I r.2]) []):=by
 refine Qc.walk 40 func272 rfl rfl rfl fun C hC=>?_
 obtain⟨u,s,h⟩:=Qb h
 obtain⟨w,t,h⟩:=Qb h
 refine Qa hC [.n 12,.o (.row (Qq u)),.v .no [] (.agg (Qq u)),.o (.c false [.d,.d] (.tup [.I w.1,.I w.2])),.n 16] rfl ⟨⟨⟨tt_,(QeD s)⟩,rfl⟩,(hrec_expr_env_eval _ _ t)⟩ ?_
 refine bg_ h (fun b h=>Qa hC [.T,.n 10,.K [4,5] []] rfl ⟨tt_,b⟩ ?_) fun b h=>Qa hC [.F,.n 7] rfl ⟨tt_,b⟩ ?_
 ·cases h
  exact d2_ rfl rfl rfl tt_
 rcases Qt h with⟨a,h⟩|⟨a,h⟩
 ·obtain⟨g,i,h⟩:=Qb h
  obtain⟨j,k,h⟩:=Qb h
  refine Qa hC [.T,.n 5,.o (.row (Qq g)),.v .no [] (.agg (Qq g)),.o (.c false [.d,.d] (.tup [.I j.1,.I j.2])),.n 9] rfl ⟨⟨⟨⟨tt_,a⟩,(QeD i)⟩,rfl⟩,(hrec_expr_env_eval _ _ k)⟩ ?_
  cases h
  exact d2_ rfl rfl rfl tt_
 obtain⟨l,m,h⟩:=Qb h
 obtain⟨p,q,h⟩:=Qb h
 refine Qa hC [.F,.n 8,.o (.row (Qq l)),.v .no [] (.agg (Qq l)),.o (.c false [.d,.d] (.tup [.I p.1,.I p.2])),.n 7] rfl ⟨⟨⟨⟨tt_,a⟩,(QeD m)⟩,rfl⟩,(hrec_expr_env_eval _ _ q)⟩ ?_
 cases h
 exact d2_ rfl rfl rfl tt_
def QnY (b:Qo)(c:(List Int)):Option (Int×Int):=
 (Qov c b).bind fun a=>
 some (a.1,a.2)
def QgM (b:Qo)(c:(List Int)):Option (Int×Int):=
 (Qje c b).bind fun a=>
 some (a.1,a.2)
def Qdp (rec_expr_env_eval:(List Int)→Qo→Option (Int×Int))(c:Qo)(b:(List Int)):Option (Int×Int):=
 (Qhn rec_expr_env_eval b c).bind fun a=>
 some (a.1,a.2)
def QgN (rec_expr_env_eval:(List Int)→Qo→Option (Int×Int))(c:Qo)(b:(List Int)):Option (Int×Int):=
 (Qnk rec_expr_env_eval b c).bind fun a=>
 some (a.1,a.2)
def QgO (rec_expr_env_eval:(List Int)→Qo→Option (Int×Int))(c:Qo)(b:(List Int)):Option (Int×Int):=
 (Qld rec_expr_env_eval b c).bind fun a=>
 some (a.1,a.2)
def Qle (rec_expr_env_eval:(List Int)→Qo→Option (Int×Int))(b:(List Int))(a:Qo):Option (Int×Int):=
 (QcV b a.Kind).bind fun c=>
 (Sum.elim (fun q=>QnY a q) (Sum.elim (fun q=>QgM a q) (Sum.elim (fun q=>Qdp rec_expr_env_eval a q) (Sum.elim (fun q=>QgN rec_expr_env_eval a q) (fun q=>QgO rec_expr_env_eval a q))))) c
def QaE : Nat→(List Int)→Qo→Option (Int×Int)
 | 0,_,_=>none
 | n+1,a,b=>Qle (QaE n) a b
def QmF (b:(List Int))(a:Qo):Option (Int×Int):=QaE (SizeOf.sizeOf a) b a
theorem QsE (rec_expr_env_eval:(List Int)→Qo→Option (Int×Int))(hrec_expr_env_eval:∀(l:(List Int)) (b:Qo) {r:(Int×Int)},rec_expr_env_eval l b=some r→Qc prog 213 [.sl 1 (l.map Qe),.agg (Qq b)] [] (Gives (.tup [.I r.1,.I r.2]) []))(l:(List Int))(b:Qo){r:(Int×Int)}(h:Qle rec_expr_env_eval l b=some r):Qc prog 213 [.sl 1 (l.map Qe),.agg (Qq b)] [] (Gives (.tup [.I r.1,.I r.2]) []):=by
 refine Qc.walk 14 func213 rfl rfl rfl fun C hC=>?_
 refine tg_ hC [.n 8] rfl ?_
 obtain⟨D,e,h⟩:=Qb h
 rcases D with(A | (B | (i | (j | k))))
 ·replace h:QnY b A=some r:=h
  obtain⟨o,p,h⟩:=Qb h
  refine tg_ hC [.K [0,3,4,5] [3]] rfl ?_
  refine AK.draw2 Qs hC mixed [.N,.N,.N,.a (.any (.clo (.func 268) [.sl 1 (A.map Qe)] []) none) none false,.a .no (some ([],.agg (Qq b))) false,.a (.c false [.d,.d] (.tup [.I o.1,.I o.2])) none false,.N,.N,.m .s,.m .s] [] [] [4,5] [] rfl rfl rfl ⟨⟨⟨tt_,(fun σ f g _=>Stp.callSame (md:=.cm (.fn) [] [] [] [.d,.d] [] (.clo (.func 268) [.sl 1 (A.map Qe)] []) []) Qs hC f g rfl ⟨tt_,(QeQ _ _ e)⟩)⟩,rfl⟩,(Qsz _ _ p)⟩ rfl (by kernel_rfl) rfl rfl rfl ?_
  refine tg_ hC [.n 2] rfl ?_
  cases h
  exact d2_ rfl rfl rfl tt_
 ·replace h:QgM b B=some r:=h
  obtain⟨q,t,h⟩:=Qb h
  refine tg_ hC [.K [0,3,4,5] [3]] rfl ?_
  refine AK.draw2 Qs hC mixed [.N,.N,.N,.a (.any (.clo (.func 269) [.sl 1 (B.map Qe)] []) none) none false,.a .no (some ([],.agg (Qq b))) false,.a (.c false [.d,.d] (.tup [.I q.1,.I q.2])) none false,.N,.N,.m .s,.m .s] [] [] [4,5] [] rfl rfl rfl ⟨⟨⟨tt_,(fun σ f g _=>Stp.callSame (md:=.cm (.fn) [] [] [] [.d,.d] [] (.clo (.func 269) [.sl 1 (B.map Qe)] []) []) Qs hC f g rfl ⟨tt_,(QeQ _ _ e)⟩)⟩,rfl⟩,(Qrb _ _ t)⟩ rfl (by kernel_rfl) rfl rfl rfl ?_
  refine tg_ hC [.n 2] rfl ?_
  cases h
  exact d2_ rfl rfl rfl tt_
 ·replace h:Qdp rec_expr_env_eval b i=some r:=h
  obtain⟨u,v,h⟩:=Qb h
  refine tg_ hC [.K [0,3,4,5] [3]] rfl ?_
  refine AK.draw2 Qs hC mixed [.N,.N,.N,.a (.any (.clo (.func 270) [.sl 1 (i.map Qe)] []) none) none false,.a .no (some ([],.agg (Qq b))) false,.a (.c false [.d,.d] (.tup [.I u.1,.I u.2])) none false,.N,.N,.m .s,.m .s] [] [] [4,5] [] rfl rfl rfl ⟨⟨⟨tt_,(fun σ f g _=>Stp.callSame (md:=.cm (.fn) [] [] [] [.d,.d] [] (.clo (.func 270) [.sl 1 (i.map Qe)] []) []) Qs hC f g rfl ⟨tt_,(QeQ _ _ e)⟩)⟩,rfl⟩,(QsC rec_expr_env_eval hrec_expr_env_eval _ _ v)⟩ rfl (by kernel_rfl) rfl rfl rfl ?_
  refine tg_ hC [.n 2] rfl ?_
  cases h
  exact d2_ rfl rfl rfl tt_
 ·replace h:QgN rec_expr_env_eval b j=some r:=h
  obtain⟨w,x,h⟩:=Qb h
  refine tg_ hC [.K [0,3,4,5] [3]] rfl ?_
  refine AK.draw2 Qs hC mixed [.N,.N,.N,.a (.any (.clo (.func 271) [.sl 1 (j.map Qe)] []) none) none false,.a .no (some ([],.agg (Qq b))) false,.a (.c false [.d,.d] (.tup [.I w.1,.I w.2])) none false,.N,.N,.m .s,.m .s] [] [] [4,5] [] rfl rfl rfl ⟨⟨⟨tt_,(fun σ f g _=>Stp.callSame (md:=.cm (.fn) [] [] [] [.d,.d] [] (.clo (.func 271) [.sl 1 (j.map Qe)] []) []) Qs hC f g rfl ⟨tt_,(QeQ _ _ e)⟩)⟩,rfl⟩,(QuQ rec_expr_env_eval hrec_expr_env_eval _ _ x)⟩ rfl (by kernel_rfl) rfl rfl rfl ?_
  refine tg_ hC [.n 2] rfl ?_
  cases h
  exact d2_ rfl rfl rfl tt_
 replace h:QgO rec_expr_env_eval b k=some r:=h
 obtain⟨y,z,h⟩:=Qb h
 refine tg_ hC [.K [0,3,4,5] [3]] rfl ?_
 refine AK.draw2 Qs hC mixed [.N,.N,.N,.a (.any (.clo (.func 272) [.sl 1 (k.map Qe)] []) none) none false,.a .no (some ([],.agg (Qq b))) false,.a (.c false [.d,.d] (.tup [.I y.1,.I y.2])) none false,.N,.N,.m .s,.m .s] [] [] [4,5] [] rfl rfl rfl ⟨⟨⟨tt_,(fun σ f g _=>Stp.callSame (md:=.cm (.fn) [] [] [] [.d,.d] [] (.clo (.func 272) [.sl 1 (k.map Qe)] []) []) Qs hC f g rfl ⟨tt_,(QeQ _ _ e)⟩)⟩,rfl⟩,(QsD rec_expr_env_eval hrec_expr_env_eval _ _ z)⟩ rfl (by kernel_rfl) rfl rfl rfl ?_
 refine tg_ hC [.n 2] rfl ?_
 cases h
 exact d2_ rfl rfl rfl tt_
theorem QmG : ∀(fuel:Nat) (a:(List Int)) (b:Qo) {r:(Int×Int)},QaE fuel a b=some r→Qc prog 213 [.sl 1 (a.map Qe),.agg (Qq b)] [] (Gives (.tup [.I r.1,.I r.2]) [])
 | 0,_,_,_,h=>by cases h
 | n+1,a,b,_,h=>QsE (QaE n) (fun _ _ _ h=>QmG n _ _ h) a b h
theorem QtX (a b){r}(h:QmF a b=some r):Qc prog 213 [.sl 1 (a.map Qe),.agg (Qq b)] [] (Gives (.tup [.I r.1,.I r.2]) []):=QmG _ a b h
def Qlq (b:Qo)(a:(List Int)):Option (Int×Int):=
 (QhP b (a.length:Int)).bind fun d=>
 bif (!d)then
 some (0,1)
 else
 (QmF a b).bind fun c=>
 some (c.1,c.2)
theorem Qrx (f a){r}(h:Qlq f a=some r):Qc prog 144 [.agg (Qq f),.sl 1 (a.map Qe)] [] (Gives (.tup [.I r.1,.I r.2]) []):=by
 refine Qc.walk 16 func144 rfl rfl rfl fun C hC=>?_
 obtain⟨k,g,h⟩:=Qb h
 refine Qa hC [.n 10,.v .no [] (.agg (Qq f)),.n 1,.o (.ln a.length),.o (.c false [.d,.d] (.b k)),.n 3] rfl ⟨⟨⟨tt_,rfl⟩,Qf⟩,(QmB _ _ g)⟩ ?_
 rcases Qt h with⟨e,h⟩|⟨e,h⟩
 ·refine Qa hC [.T,.n 8] rfl ⟨tt_,e⟩ ?_
  cases h
  exact d2_ rfl rfl rfl tt_
 obtain⟨j,i,h⟩:=Qb h
 refine Qa hC [.F,.n 5,.v .no [] (.agg (Qq f)),.o (.c false [.d,.d] (.tup [.I j.1,.I j.2])),.n 7] rfl ⟨⟨⟨tt_,e⟩,rfl⟩,(QtX _ _ i)⟩ ?_
 cases h
 exact d2_ rfl rfl rfl tt_
def Qal (b:QV):Option Int:=
 (Qlq b.task.Guard b.env).bind fun a=>
 bif (a.2 != 0)then
 some a.2
 else
 bif (a.1==0)then
 some 9
 else
 some 0
theorem Qj9 (e){r}(h:Qal e=some r):Qc prog 90 [.agg (Qy e)] [] (Gives (.I r) []):=by
 refine Qc.walk 21 func90 rfl rfl rfl fun C hC=>?_
 obtain⟨g,f,h⟩:=Qb h
 refine Qa hC [.n 10,.v .no [] (.agg (Qq e.task.Guard)),.n 2,.o (.c false [.d,.d] (.tup [.I g.1,.I g.2])),.n 16] rfl ⟨⟨tt_,rfl⟩,(Qrx _ _ f)⟩ ?_
 refine bg_ h (fun a h=>Qa hC [.T,.n 9,.K [2] []] rfl ⟨tt_,a⟩ ?_) fun a h=>Qa hC [.F,.n 7] rfl ⟨tt_,a⟩ ?_
 ·cases h
  exact d1_ rfl rfl tt_
 refine bg_ h (fun b h=>Qa hC [.T,.n 8,.K [2] []] rfl ⟨tt_,b⟩ ?_) fun b h=>Qa hC [.F,.n 9,.K [2] []] rfl ⟨tt_,b⟩ ?_
 ·cases h
  exact d1_ rfl rfl tt_
 cases h
 exact d1_ rfl rfl tt_
def Qdx (a:QLL):Option QLL:=
 (chk (decide (([]:List (List Int)).length+a.length≤4294967296))).bind fun _=>
 some (([]:List (List Int))++a)
theorem Qnl (a){r}(h:Qdx a=some r):Qc prog 100 [.sl 1 (a.map QK)] [] (Gives (.own 600 r.length) [(600,.arr 1 (r.map QK))]):=by
 refine Qc.walk 8 func100 rfl rfl rfl fun C hC=>?_
 unfold Qdx at h
 refine tg_ hC [.n 9] rfl ?_
 refine AK.eqNil rfl rfl rfl (QN hC.n rfl) rfl rfl QEf ?_ ?_
 ·intro b
  replace h:some ([]:List (List Int))=some r:=by simpa [chk,List.map_eq_nil_iff.1 b] using h
  refine Qa hC [.n 10,.adopt 2 600 1,.O 600 (.arr 1 (([]:List (List Int)).map QK)),.S 2 (.own 600 ([]:List (List Int)).length)] rfl ⟨⟨tt_,rfl⟩,rfl⟩ ?_
  cases h
  exact d1_ rfl rfl ⟨rfl,tt_⟩
 obtain⟨c,h⟩:=QaW h
 refine Qa hC [.n 8,.O 5 (.arr 1 (([]:List (List Int)).map QK)),.S 5 (.own 5 ([]:List (List Int)).length),.n 1,.app ((([]:List (List Int))++a).map QK) (([]:List (List Int))++a).length,.n 4,.K [2] [5],.ren 5 600] rfl ⟨⟨⟨tt_,rfl⟩,rfl⟩,⟨Qf,QbP c Qf,QaY,QcN Qf⟩⟩ ?_
 cases h
 exact d1_ rfl rfl ⟨rfl,tt_⟩
def QcE (c:(Bool×QaX))(a:Int):Option (Int×Bool):=
 (Qdj c.2 a).bind fun b=>
 bif (!b)then
 some (0,false)
 else
 some (a,true)
def Qe3 (d:(List QH))(e:Int)(b:Int):Option (Int×Bool):=
 (QfN d e).bind fun c=>
 bif (!c.1)then
 some (0,false)
 else
 (Qc2 c.2).bind fun a=>
 bif (a.Kind==1)then
 bif ((decide (b<a.Lo))||(decide (a.Hi<b)))then
 some (0,false)
 else
 QcE c (w64 (b-a.Lo))
 else
 QcE c b
theorem QtY (u w j){r}(h:Qe3 u w j=some r):Qc prog 151 [.sl 7 (u.map Qr),.I w,.I j] [] (Gives (.tup [.I r.1,.b r.2]) []):=by
 refine Qc.walk 43 func151 rfl rfl rfl fun C hC=>?_
 obtain⟨k,s,h⟩:=Qb h
 refine Qa hC [.n 10,.o (.c false [.d,.d] (.tup [.agg (Qaa k.2),.b k.1])),.n 5,.O 8 (.var (Qaa k.2)),.n 10] rfl ⟨⟨tt_,(Qnf _ _ s)⟩,rfl⟩ ?_
 refine bg_ h (fun l h=>Qa hC [.T,.n 8,.K [6,7] []] rfl ⟨tt_,l⟩ ?_) fun l h=>Qa hC [.F,.n 2] rfl ⟨tt_,l⟩ ?_
 ·cases h
  exact d2_ rfl rfl rfl tt_
 refine AK.meet (fun σ=>∃m:Int,σ=⟨[(2,.I m),(8,.loc 8 0 0)],[(8,.var (Qaa k.2))]⟩∧QcE k m=some r) ?_ ?_
 ·obtain⟨a,p,h⟩:=Qb h
  refine Qa hC [.n 2,.v .no [] (.agg (Qaa k.2)),.o (.c false [.d] (.agg (Qr a))),.n 2,.O 10 (.var (Qr a)),.n 9] rfl ⟨⟨⟨tt_,rfl⟩,(Qg6 _ p)⟩,rfl⟩ ?_
  refine bg_ h (fun f h=>Qa hC [.T,.n 2] rfl ⟨tt_,f⟩ ?_) fun f h=>Qa hC [.F,.n 1,.K [2,8] [8]] rfl ⟨tt_,f⟩ ?_
  ·refine AK.meetX (fun σ=>σ=⟨[(2,.I j),(8,.loc 8 0 0),(10,.loc 10 0 0),(33,.b ((decide (j<a.Lo))||(decide (a.Hi<j))))],[(8,.var (Qaa k.2)),(10,.var (Qr a))]⟩) ?_ ?_
   ·refine tg_ hC [.n 6] rfl ?_
    rcases Q7 (decide (j<a.Lo))with e | e
    ·refine Qa hC [.S 28 (.b true),.n 6,.S 33 (.b ((decide (j<a.Lo))||(decide (a.Hi<j)))),.K [2,8,10,33] [8,10]] rfl ⟨(tc_ e),(congrArg V.b (orT e rfl))⟩ ?_
     exact AK.met rfl
    refine Qa hC [.S 28 (.b false),.n 6,.S 33 (.b ((decide (j<a.Lo))||(decide (a.Hi<j)))),.K [2,8,10,33] [8,10]] rfl ⟨(tc_ e),(congrArg V.b (orF e rfl))⟩ ?_
    exact AK.met rfl
   rintro σ rfl
   refine tg_ hC [.n 1] rfl ?_
   refine bg_ h (fun g h=>Qa hC [.T,.n 9,.K [6,7] []] rfl ⟨tt_,g⟩ ?_) fun g h=>Qa hC [.F,.n 9,.K [2,8] [8]] rfl ⟨tt_,g⟩ ?_
   ·cases h
    exact d2_ rfl rfl rfl tt_
   exact AK.met (ex_ _ (an_ rfl h))
  exact AK.met (ex_ _ (an_ rfl h))
 rintro σ ⟨m,rfl,h⟩
 obtain⟨t,q,h⟩:=Qb h
 refine Qa hC [.n 3,.v .no [] (.agg (Qaa k.2)),.n 1,.o (.c false [.d,.d] (.b t)),.n 3] rfl ⟨⟨tt_,rfl⟩,(Qm8 _ _ q)⟩ ?_
 refine bg_ h (fun i h=>Qa hC [.T,.n 8,.K [6,7] []] rfl ⟨tt_,i⟩ ?_) fun i h=>Qa hC [.F,.n 10,.K [6,7] []] rfl ⟨tt_,i⟩ ?_
 ·cases h
  exact d2_ rfl rfl rfl tt_
 cases h
 exact d2_ rfl rfl rfl tt_
def Qis (a:(List Int))(j:(List Qaw))(h:(List Int))(k:Qj)(e:Int)(c:QMk):Option ((Int×QMk)⊕(Int⊕QMk)):=
 bif (decide (e<(a.length:Int)))then
 (idx a e).bind fun d=>
 bif ((decide (d<0))||(decide ((j.length:Int)≤d)))then
 some (.inr (.inl 11))
 else
 (idx j d).bind fun l=>
 (Qlq l.Expr h).bind fun f=>
 bif (f.2 != 0)then
 some (.inr (.inl f.2))
 else
 (idx j d).bind fun b=>
 bif ((decide (b.Place<0))||(decide ((k.Places.length:Int)≤b.Place)))then
 some (.inr (.inl 3))
 else
 (idx k.Places b.Place).bind fun m=>
 (Qe3 k.Colours m.Colour f.1).bind fun i=>
 bif (!i.2)then
 some (.inr (.inl 8))
 else
 (idx c b.Place).bind fun n=>
 (Qne ([i.1]:List Int)).bind fun o=>
 (QbF n o).bind fun g=>
 (idx c b.Place).bind fun p=>
 bif (g.2 != 0)then
 some (.inr (.inl g.2))
 else
 some (.inl ((w64 (e+1)),(c.set b.Place.toNat g.1)))
 else
 some (.inr (.inr c))
def QpA (a:Int):Option (QMk×Int):=
 some (([]:List QBg),a)
def QpB (a:QMk):Option (QMk×Int):=
 some (a,0)
def Qd3 (b:Qj)(d:(List Qaw))(a:(List Int))(c:(List Int)):Option (QMk×Int):=
 (chk (decide (0≤(b.Places.length:Int))&&decide ((b.Places.length:Int)≤(b.Places.length:Int))&&decide ((b.Places.length:Int)≤4294967296))).bind fun _=>
 (QJ (fun st=>Qis a d c b st.1 st.2) (0,(List.replicate (b.Places.length:Int).toNat (([]:QBg):QBg)))).bind (Sum.elim (fun q=>QpA q) (fun q=>QpB q))
theorem Qf4 (s D g j){r}(h:Qd3 s D g j=some r):Qc prog 95 [.agg (Qd s),.sl 4 (D.map Q5),.sl 1 (g.map Qe),.sl 1 (j.map Qe)] [] (Gives (.tup [.sl 1 (r.1.map Qi),.I r.2]) []):=by
 refine Qc.walk 97 func95 rfl rfl rfl fun C hC=>?_
 obtain⟨a5,h⟩:=QaW h
 refine Qa hC [.n 11,.o (.ln s.Places.length),.o (.rows (List.replicate (s.Places.length:Int).toNat [.lit (.slice none 0 0)]))] rfl ⟨⟨tt_,Qf⟩,⟨a5,rfl⟩⟩ ?_
 refine AK.denilA (b:=21) [some 2] rfl (QyY (f:=Qi) (x:=([]:QBg)) rfl) ?_
 refine Qa hC [.S 21 (.own 21 (List.replicate (s.Places.length:Int).toNat (([]:QBg):QBg)).length),.n 7,.o (.ln g.length),.n 4,.K [1,3,4,10,22,23,24] [4,21]] rfl ⟨⟨tt_,(by simp)⟩,Qf⟩ ?_
 obtain⟨a6,M,h⟩:=Qb h
 refine AK.loop (body:=(fun st=>Qis g D j s st.1 st.2)) (fun st σ=>σ=⟨[(1,.sl 4 (D.map Q5)),(3,.sl 1 (j.map Qe)),(4,.loc 4 0 0),(10,.own 21 st.2.length),(22,.sl 1 (g.map Qe)),(23,.I (g.length:Int)),(24,.I st.1)],[(4,.var (Qd s)),(21,.arr 1 (st.2.map Qi))]⟩) (Sum.elim (fun q e σ=>e=.ret∧σ=⟨[(8,.lit (.slice none 0 0)),(9,.I q)],[]⟩) (fun q e σ=>e=.exit 0∧σ=⟨[(10,.own 21 q.length)],[(21,.arr 1 (q.map Qi))]⟩)) M rfl ?_ ?_
 ·rintro ⟨O,t⟩ o σ rfl h
  refine tg_ hC [.n 6] rfl ?_
  rcases Qt h with⟨u,h⟩|⟨u,h⟩
  ·obtain⟨k,P,h⟩:=Qb h
   refine Qa hC [.T,.n 6,.o (.row (Qe k)),.n 6] rfl ⟨⟨tt_,u⟩,(QT P)⟩ ?_
   refine AK.meetX (fun σ=>σ=⟨[(1,.sl 4 (D.map Q5)),(3,.sl 1 (j.map Qe)),(4,.loc 4 0 0),(10,.own 21 t.length),(12,.I k),(22,.sl 1 (g.map Qe)),(23,.I (g.length:Int)),(24,.I O),(35,.b ((decide (k<0))||(decide ((D.length:Int)≤k))))],[(4,.var (Qd s)),(21,.arr 1 (t.map Qi))]⟩) ?_ ?_
   ·refine tg_ hC [.n 4] rfl ?_
    rcases Q7 (decide (k<0))with l | l
    ·refine Qa hC [.S 30 (.b true),.n 6,.S 35 (.b ((decide (k<0))||(decide ((D.length:Int)≤k)))),.K [1,3,4,10,12,22,23,24,35] [4,21]] rfl ⟨(tc_ l),(congrArg V.b (orT l rfl))⟩ ?_
     exact AK.met rfl
    refine Qa hC [.S 30 (.b false),.n 2,.o (.ln D.length),.n 3,.S 35 (.b ((decide (k<0))||(decide ((D.length:Int)≤k)))),.K [1,3,4,10,12,22,23,24,35] [4,21]] rfl ⟨⟨(tc_ l),Qf⟩,(congrArg V.b (orF l rfl))⟩ ?_
    exact AK.met rfl
   rintro σ rfl
   refine tg_ hC [.n 1] rfl ?_
   rcases Qt h with⟨w,h⟩|⟨w,h⟩
   ·refine Qa hC [.T,.n 10,.K [8,9] []] rfl ⟨tt_,w⟩ ?_
    cases h
    exact Qav rfl (an_ rfl rfl)
   obtain⟨U,W,h⟩:=Qb h
   obtain⟨J,X,h⟩:=Qb h
   refine Qa hC [.F,.n 6,.o (.row (Q5 U)),.n 1,.v .no [] (.agg (Qq U.Expr)),.n 1,.o (.c false [.d,.d] (.tup [.I J.1,.I J.2])),.n 14] rfl ⟨⟨⟨⟨tt_,w⟩,(QT W)⟩,rfl⟩,(Qrx _ _ X)⟩ ?_
   rcases Qt h with⟨y,h⟩|⟨y,h⟩
   ·refine Qa hC [.T,.n 11,.K [8,9] []] rfl ⟨tt_,y⟩ ?_
    cases h
    exact Qav rfl (an_ rfl rfl)
   obtain⟨i,Y,h⟩:=Qb h
   refine Qa hC [.F,.n 6,.o (.row (Q5 i)),.n 7] rfl ⟨⟨tt_,y⟩,(QT Y)⟩ ?_
   refine AK.meetX (fun σ=>σ=⟨[(1,.sl 4 (D.map Q5)),(3,.sl 1 (j.map Qe)),(4,.loc 4 0 0),(10,.own 21 t.length),(13,.I J.1),(15,.I i.Place),(22,.sl 1 (g.map Qe)),(23,.I (g.length:Int)),(24,.I O),(62,.b ((decide (i.Place<0))||(decide ((s.Places.length:Int)≤i.Place))))],[(4,.var (Qd s)),(21,.arr 1 (t.map Qi))]⟩) ?_ ?_
   ·refine tg_ hC [.n 4] rfl ?_
    rcases Q7 (decide (i.Place<0))with p | p
    ·refine Qa hC [.S 56 (.b true),.n 7,.S 62 (.b ((decide (i.Place<0))||(decide ((s.Places.length:Int)≤i.Place)))),.K [1,3,4,10,13,15,22,23,24,62] [4,21]] rfl ⟨(tc_ p),(congrArg V.b (orT p rfl))⟩ ?_
     exact AK.met rfl
    refine Qa hC [.S 56 (.b false),.n 3,.o (.ln s.Places.length),.n 3,.S 62 (.b ((decide (i.Place<0))||(decide ((s.Places.length:Int)≤i.Place)))),.K [1,3,4,10,13,15,22,23,24,62] [4,21]] rfl ⟨⟨(tc_ p),Qf⟩,(congrArg V.b (orF p rfl))⟩ ?_
    exact AK.met rfl
   rintro σ rfl
   refine tg_ hC [.n 1] rfl ?_
   rcases Qt h with⟨z,h⟩|⟨z,h⟩
   ·refine Qa hC [.T,.n 10,.K [8,9] []] rfl ⟨tt_,z⟩ ?_
    cases h
    exact Qav rfl (an_ rfl rfl)
   obtain⟨a7,Z,h⟩:=Qb h
   obtain⟨L,a0,h⟩:=Qb h
   refine Qa hC [.F,.n 3,.K [1,3,4,10,13,15,22,23,24] [4,21]] rfl ⟨tt_,z⟩ ?_
   refine AK.draw2 Qs hC mixed [.N,.N,.N,.N,.N,.a (.row (Qp a7)) none false,.N,.N,.N,.a (.c false [.d,.d,.d] (.tup [.I L.1,.b L.2])) none false,.N,.N,.N,.N,.N] [] [] [1,3,4,10,15,16,17,22,23,24] [4,21] rfl rfl rfl ⟨⟨tt_,(QT Z)⟩,(QtY _ _ _ a0)⟩ rfl (by kernel_rfl) rfl rfl rfl ?_
   refine tg_ hC [.n 8] rfl ?_
   rcases Qt h with⟨A,h⟩|⟨A,h⟩
   ·refine Qa hC [.T,.n 10,.K [8,9] []] rfl ⟨tt_,A⟩ ?_
    cases h
    exact Qav rfl (an_ rfl rfl)
   obtain⟨a8,G,h⟩:=Qb h
   obtain⟨a1,a2,h⟩:=Qb h
   obtain⟨E,a3,h⟩:=Qb h
   obtain⟨a9,H,h⟩:=Qb h
   refine Qa hC [.F,.n 3,.K [1,3,4,10,15,16,22,23,24] [4,21]] rfl ⟨tt_,A⟩ ?_
   refine AK.draw2 Qs hC mixed [.N,.N,.N,.N,.N,.a (.row (Qi a8)) none false,.N,.a (.bd []) (some ([],.sl 1 (([L.1]:List Int).map Qe))) false,.a (.cd false [.d] 2 (a1.map QI) a1.length) none false,.a (.c false [.d,.d] (.tup [.sl 2 (E.1.map QI),.I E.2])) none false,.a .no none true true,.N,.a .no none true,.N,.m (.st (Qi a9) ((t.set i.Place.toNat E.1).map Qi)),.N] [1,3,4,10,15,16,22,23,24] [4] [1,3,4,10,14,22,23,24] [4,21] rfl rfl rfl ⟨⟨⟨⟨⟨⟨⟨tt_,(Qda G rfl)⟩,(QbX (QdK G).2)⟩,rfl⟩,⟨(Qvr _ a2),Qf⟩⟩,(Qpl _ _ a3)⟩,(Qda H rfl)⟩,⟨(QbX (QdK H).2),Qmp rfl⟩⟩ rfl (by kernel_rfl) rfl rfl rfl ?_
   refine tg_ hC [.n 7] rfl ?_
   refine bg_ h (fun B h=>Qa hC [.T,.n 10,.K [8,9] []] rfl ⟨tt_,B⟩ ?_) fun B h=>Qa hC [.F,.n 7,.S 10 (.own 21 (t.set i.Place.toNat E.1).length),.K [1,3,4,10,22,23,24] [4,21]] rfl ⟨⟨tt_,B⟩,(congrArg (fun n=>V.own 21 n) (by simp))⟩ ?_
   ·cases h
    exact Qav rfl (an_ rfl rfl)
   cases h
   exact Q6 rfl rfl
  refine Qa hC [.F,.n 2,.K [10] [21]] rfl ⟨tt_,u⟩ ?_
  cases h
  exact Q8 rfl (an_ rfl rfl)
 rcases a6 with(b0 | a4)
 ·replace h:QpA b0=some r:=h
  rintro e σ ⟨rfl,rfl⟩
  refine tg_ hC [.n 2,.denil 8 [some 1]] rfl ?_
  cases h
  exact d2_ rfl rfl rfl tt_
 replace h:QpB a4=some r:=h
 rintro e σ ⟨rfl,rfl⟩
 refine Qa hC [.n 10,.frz 21 (a4.map Qi) [8] []] rfl ⟨tt_,⟨tt_,(QbQ Qf)⟩⟩ ?_
 cases h
 exact d2_ rfl rfl rfl tt_
def QaA (b:QV)(a:(List Int)):Option Int:=
 (Qd3 b.net b.task.Outs a b.env).bind fun c=>
 some c.2
theorem Qlr (b a){r}(h:QaA b a=some r):Qc prog 93 [.agg (Qy b),.sl 1 (a.map Qe)] [] (Gives (.I r) []):=by
 refine Qc.walk 20 func93 rfl rfl rfl fun C hC=>?_
 obtain⟨f,e,h⟩:=Qb h
 refine Qa hC [.n 9,.v .no [] (.agg (Qd b.net)),.n 6,.o (.c false [.d,.d,.d,.d] (.tup [.sl 1 (f.1.map Qi),.I f.2])),.n 14] rfl ⟨⟨tt_,rfl⟩,(Qf4 _ _ _ _ e)⟩ ?_
 cases h
 exact d1_ rfl rfl tt_
def QhQ (a:(List Int))(b:QV):Option Bool:=
 (QaA b a).bind fun c=>
 some (c != 0)
theorem Qow (a e){r}(h:QhQ a e=some r):Qc prog 101 [.sl 1 (a.map Qe),.loc 617 0 0] [(617,.var (Qy e))] (Gives (.b r) [(617,.var (Qy e))]):=by
 refine Qc.walk 8 func101 rfl rfl rfl fun C hC=>?_
 obtain⟨g,f,h⟩:=Qb h
 refine Qa hC [.n 7,.v .no [] (.agg (Qy e)),.n 1,.o (.c false [.d,.d] (.I g)),.n 5] rfl ⟨⟨tt_,rfl⟩,(Qlr _ _ f)⟩ ?_
 cases h
 exact d1_ rfl rfl ⟨rfl,tt_⟩
def Qb1 (c:QLL)(d:QV)(a:Int):Option (Int⊕(Int⊕Unit)):=
 bif (decide (a<(c.length:Int)))then
 (idx c a).bind fun e=>
 (QhQ e d).bind fun b=>
 bif b then
 some (.inr (.inl a))
 else
 some (.inl (w64 (a+1)))
 else
 some (.inr (.inr ()))
def Qf5 (a:Int):Option Int:=
 some a
def Qf6 : Option Int:=
 some (-1)
def Qcx (a:QLL)(b:QV):Option Int:=
 (QJ (fun st=>Qb1 a b st) 0).bind (Sum.elim (fun q=>Qf5 q) (fun q=>Qf6))
theorem QlY (c f){r}(h:Qcx c f=some r):Qc prog 153 [.own 617 c.length,.clo (.func 101) [] [.loc 618 0 0]] [(617,.arr 1 (c.map QK)),(618,.var (Qy f))] (Gives (.I r) [(617,.arr 1 (c.map QK)),(618,.var (Qy f))]):=by
 refine Qc.walk 19 func153 rfl rfl rfl fun C hC=>?_
 refine tg_ hC [.n 14,.K [0,1,7,8] [617,618]] rfl ?_
 obtain⟨l,i,h⟩:=Qb h
 refine AK.loop (body:=(fun st=>Qb1 c f st)) (fun st σ=>σ=⟨[(0,.own 617 c.length),(1,.clo (.func 101) [] [.loc 618 0 0]),(7,.I (c.length:Int)),(8,.I st)],[(617,.arr 1 (c.map QK)),(618,.var (Qy f))]⟩) (Sum.elim (fun q e σ=>e=.ret∧σ=⟨[(4,.I q)],[(617,.arr 1 (c.map QK)),(618,.var (Qy f))]⟩) (fun q e σ=>e=.exit 0∧σ=⟨[],[(617,.arr 1 (c.map QK)),(618,.var (Qy f))]⟩)) i rfl ?_ ?_
 ·rintro t o σ rfl h
  refine tg_ hC [.n 6] rfl ?_
  rcases Qt h with⟨g,h⟩|⟨g,h⟩
  ·obtain⟨p,j,h⟩:=Qb h
   obtain⟨m,k,h⟩:=Qb h
   refine Qa hC [.T,.n 16,.o (.row (QK p)),.cm (.clo) [(617,618)] [(618,617)] [] [.d,.d] [(617,.var (Qy f))] (.b m),.n 2] rfl ⟨⟨⟨⟨tt_,g⟩,(Qda j rfl)⟩,(QbX (QdK j).2)⟩,(Qow _ _ k)⟩ ?_
   refine bg_ h (fun a h=>Qa hC [.T,.n 9,.K [4] [617,618]] rfl ⟨tt_,a⟩ ?_) fun a h=>Qa hC [.F,.n 7,.K [0,1,7,8] [617,618]] rfl ⟨tt_,a⟩ ?_
   ·cases h
    exact Qav rfl (an_ rfl rfl)
   cases h
   exact Q6 rfl rfl
  refine Qa hC [.F,.n 2,.K [] [617,618]] rfl ⟨tt_,g⟩ ?_
  cases h
  exact Q8 rfl (an_ rfl rfl)
 rcases l with(s | _)
 ·replace h:Qf5 s=some r:=h
  rintro e σ ⟨rfl,rfl⟩
  refine tg_ hC [.n 2] rfl ?_
  cases h
  exact d1_ rfl rfl ⟨rfl,rfl,tt_⟩
 replace h:Qf6=some r:=h
 rintro e σ ⟨rfl,rfl⟩
 refine tg_ hC [.n 8] rfl ?_
 cases h
 exact d1_ rfl rfl ⟨rfl,rfl,tt_⟩
def Qc6 (a:Int)(b:Int)(c:QLL):Option ((Int×Int×QLL)⊕(Int×QLL)):=
 some (.inl (b,(w64 (a+1)),c))
def QbU (f:QV)(c:Int)(b:Int)(a:QLL):Option ((Int×Int×QLL)⊕(Int×QLL)):=
 bif (decide (b<(a.length:Int)))then
 (idx a b).bind fun d=>
 (QhQ d f).bind fun e=>
 bif (!e)then
 (idx a c).bind fun g=>
 Qc6 b (w64 (c+1)) (a.set c.toNat d)
 else
 Qc6 b c a
 else
 some (.inr (c,a))
def QbV (a:Int)(b:QLL):Option QLL:=
 (chk (decide (0≤a)&&decide (a.toNat≤b.length))).bind fun _=>
 (chk (decide (0≤a)&&decide (a.toNat≤(b.take a.toNat++List.replicate (b.length-a.toNat) (([]:(List Int)):(List Int))).length))).bind fun _=>
 some ((b.take a.toNat++List.replicate (b.length-a.toNat) (([]:(List Int)):(List Int))).take a.toNat)
def Qco (a:QLL)(c:QV):Option QLL:=
 (Qcx a c).bind fun b=>
 bif (b==(-1))then
 some a
 else
 (QJ (fun st=>QbU c st.1 st.2.1 st.2.2) (b,(w64 (b+1)),a)).bind (fun q=>QbV q.1 q.2)
theorem Qls (D m){r}(h:Qco D m=some r):Qc prog 99 [.own 617 D.length,.clo (.func 101) [] [.loc 618 0 0]] [(617,.arr 1 (D.map QK)),(618,.var (Qy m))] (Gives (.own 617 r.length) [(617,.arr 1 (r.map QK)),(618,.var (Qy m))]):=by
 refine Qc.walk 42 func99 rfl rfl rfl fun C hC=>?_
 obtain⟨N,E,h⟩:=Qb h
 refine Qa hC [.n 9,.cm (.fn) [(617,617),(618,618)] [(617,617),(618,618)] [] [.d,.d] [(617,.arr 1 (D.map QK)),(618,.var (Qy m))] (.I N),.n 10] rfl ⟨tt_,(QlY _ _ E)⟩ ?_
 refine bg_ h (fun u h=>Qa hC [.T,.n 8,.K [4] [617,618]] rfl ⟨tt_,u⟩ ?_) fun u h=>Qa hC [.F,.n 11,.K [0,1,5,6] [617,618]] rfl ⟨tt_,u⟩ ?_
 ·cases h
  exact d1_ rfl rfl ⟨rfl,rfl,tt_⟩
 obtain⟨G,y,h⟩:=Qb h
 refine AK.loop (body:=(fun st=>QbU m st.1 st.2.1 st.2.2)) (fun st σ=>σ=⟨[(0,.own 617 st.2.2.length),(1,.clo (.func 101) [] [.loc 618 0 0]),(5,.I st.1),(6,.I st.2.1)],[(617,.arr 1 (st.2.2.map QK)),(618,.var (Qy m))]⟩) (fun q e σ=>e=.exit 0∧σ=⟨[(0,.own 617 q.2.length),(5,.I q.1)],[(617,.arr 1 (q.2.map QK)),(618,.var (Qy m))]⟩) y rfl ?_ ?_
 ·rintro ⟨L,z,A⟩ o σ rfl h
  refine tg_ hC [.n 9] rfl ?_
  refine bg_ h (fun j h=>Qa hC [.T,.n 2] rfl ⟨tt_,j⟩ ?_) fun j h=>Qa hC [.F,.n 2,.K [0,5] [617,618]] rfl ⟨tt_,j⟩ ?_
  ·refine AK.meet (fun σ=>∃v:Int,∃p:QLL,σ=⟨[(0,.own 617 p.length),(1,.clo (.func 101) [] [.loc 618 0 0]),(5,.I v),(6,.I z)],[(617,.arr 1 (p.map QK)),(618,.var (Qy m))]⟩∧Qc6 z v p=some o) ?_ ?_
   ·obtain⟨w,s,h⟩:=Qb h
    obtain⟨H,B,h⟩:=Qb h
    refine Qa hC [.n 6,.o (.row (QK w)),.n 7,.cm (.clo) [(617,618)] [(618,617)] [] [.d,.d] [(617,.var (Qy m))] (.b H),.n 3] rfl ⟨⟨⟨tt_,(Qda s rfl)⟩,(QbX (QdK s).2)⟩,(Qow _ _ B)⟩ ?_
    rcases Qt h with⟨k,h⟩|⟨k,h⟩
    ·obtain⟨J,t,h⟩:=Qb h
     refine Qa hC [.T,.n 6,.st (QK J) ((A.set L.toNat w).map QK),.n 8,.S 0 (.own 617 (A.set L.toNat w).length),.K [0,1,5,6] [617,618]] rfl ⟨⟨⟨⟨tt_,k⟩,(Qda t rfl)⟩,⟨(QbX (QdK t).2),Qmp rfl⟩⟩,(congrArg (fun n=>V.own 617 n) (by simp))⟩ ?_
     exact AK.met (ex_ _ (ex_ _ (an_ rfl h)))
    refine Qa hC [.F,.n 2,.K [0,1,5,6] [617,618]] rfl ⟨tt_,k⟩ ?_
    exact AK.met (ex_ _ (ex_ _ (an_ rfl h)))
   rintro σ ⟨v,p,rfl,h⟩
   refine tg_ hC [.n 5,.K [0,1,5,6] [617,618]] rfl ?_
   cases h
   exact Q6 rfl rfl
  cases h
  exact Q8 rfl (an_ rfl rfl)
 obtain⟨a,c⟩:=G
 replace h:QbV a c=some r:=h
 rintro e σ ⟨rfl,rfl⟩
 refine tg_ hC [.n 6] rfl ?_
 obtain⟨g,h⟩:=QaW h
 refine AK.clearTail (b:=617) (l:=a.toNat) (n:=c.length) rfl rfl rfl rfl rfl rfl (QN hC.n rfl) rfl rfl Qf (Qs.es rfl) QDs rfl rfl rfl (Bnd.val rfl (Q9 (Qro g)) rfl) (Q9 (Qmt g)) rfl ?_
 refine AK.denilA (b:=617) [some 1] rfl (QEa (f:=QK) (x:=(([]:(List Int)):(List Int))) (fun _=>rfl) rfl) ?_
 obtain⟨i,h⟩:=QaW h
 refine Qa hC [.S 0 (.own 617 (c.take a.toNat++List.replicate (c.length-a.toNat) (([]:(List Int)):(List Int))).length),.S 36 (.own 617 (c.take a.toNat++List.replicate (c.length-a.toNat) (([]:(List Int)):(List Int))).length),.n 6] rfl ⟨⟨tt_,(QBs (Q9 (Qmt g)))⟩,(QBs (Q9 (Qmt g)))⟩ ?_
 have M:a.toNat=((c.take a.toNat++List.replicate (c.length-a.toNat) (([]:(List Int)):(List Int))).take a.toNat).length:=by rw [Qfs,Qql (Q9 (Qmt i))]
 refine Qa hC [.x (fun σ=>(σ.set 617 (.arr 1 (((c.take a.toNat++List.replicate (c.length-a.toNat) (([]:(List Int)):(List Int))).take a.toNat).map QK))).put 41 (.own 617 a.toNat)),.S 41 (.own 617 ((c.take a.toNat++List.replicate (c.length-a.toNat) (([]:(List Int)):(List Int))).take a.toNat).length),.n 4] rfl ⟨⟨tt_,(Stp.sliceO rfl rfl (QN hC.n rfl) rfl rfl (Qs.es rfl) Bnd.no (Bnd.val rfl (Q9 (Qro i)) rfl) (Q9 (Qmt i)) (by simp))⟩,(QD3 (Q9 (Qmt i)))⟩ ?_
 cases h
 exact d1_ rfl rfl ⟨rfl,rfl,tt_⟩
def Qc7 (a:QBg)(b:Int)(c:Int):Option (Unit⊕Unit):=
 bif (decide (((Qv a b).getD 0)<c))then
 some (.inr ())
 else
 some (.inl ())
def Qlt : Option Bool:=
 some true
def Qlu : Option Bool:=
 some false
def Qel (a:QBg)(b:QBg):Option Bool:=
 (QiR (fun st p=>Qc7 b p.1 p.2) () a).bind (Sum.elim (fun q=>Qlt) (fun q=>Qlu))
theorem Qlv (j d){r}(h:Qel j d=some r):Qc prog 96 [.map 617,.map 618] [(617,.map (QA V.I V.I j)),(618,.map (QA V.I V.I d))] (Gives (.b r) [(617,.map (QA V.I V.I j)),(618,.map (QA V.I V.I d))]):=by
 refine Qc.walk 19 func96 rfl rfl rfl fun C hC=>?_
 refine tg_ hC [.n 9] rfl ?_
 refine AK.openMap (b:=617) Qdh rfl fun a c L5 s t=>?_
 refine Qa hC [.x (fun σ=>(σ.set 8 (.itr a c #[] none)).put 8 (.loc 8 0 0)),.n 3,.K [1,8] [8,617,618]] rfl ⟨tt_,(Stp.range (b:=617) rfl rfl (QN hC.n rfl) rfl rfl QeN rfl)⟩ ?_
 obtain⟨w,u,h⟩:=Qb h
 refine AK.range (body:=(fun st p=>Qc7 d p.1 p.2)) (fun st seen σ=>∃cur:Option MapEntry,σ=⟨[(1,.map 618),(8,.loc 8 0 0)],[(8,.itr a c seen cur),(617,.mapX a c (QhG V.I V.I L5) (QA V.I V.I j)),(618,.map (QA V.I V.I d))]⟩) (fun q e σ=>e=.ret∧σ=⟨[(4,.b false)],[(617,.mapX a c (QhG V.I V.I L5) (QA V.I V.I j)),(618,.map (QA V.I V.I d))]⟩) (fun st e σ=>e=.exit 0∧σ=⟨[],[(617,.mapX a c (QhG V.I V.I L5) (QA V.I V.I j)),(618,.map (QA V.I V.I d))]⟩) s t u (ex_ _ rfl) ?_ ?_
 ·rintro _ seen σ ⟨cur,rfl⟩ hex
  refine tg_ hC [.n 2] rfl ?_
  refine AK.nextT (b:=8) (m:=617) rfl rfl rfl (QN hC.n rfl) rfl rfl rfl rfl ?_ ?_
  ·intro hleft
   refine tg_ hC [.n 7,.K [] [617,618]] rfl ?_
   exact AK.done (Or.inl (an_ hleft (an_ (fun h=>(by cases h)) (an_ rfl rfl))))
  intro B v y g
  obtain⟨o,h⟩:=hex _ g
  have ho:=h
  replace h:Qc7 d v y=some o:=h
  refine Qa hC [.n 10,.x (fun σ=>σ.put 11 (.tup [.I v,.I y])),.n 11,.o (.any (.I ((Qv d v).getD 0)) none),.n 3] rfl ⟨⟨tt_,(Stp.entryT (b:=8) (m:=617) rfl rfl (QN hC.n rfl) rfl g rfl rfl)⟩,(fun σ A D _=>Stp.lookup (e:=V.I) (f:=V.I) (l:=d) (k:=v) (z:=0) rfl rfl (QN hC.n rfl) (A _ _ rfl) (D _ _ rfl) (A _ _ rfl) QeN Qdh Qk9 rfl)⟩ ?_
  refine bg_ h (fun i h=>Qa hC [.T,.n 7,.K [4] [617,618]] rfl ⟨tt_,i⟩ ?_) fun i h=>Qa hC [.F,.n 2,.K [1,8] [8,617,618]] rfl ⟨tt_,i⟩ ?_
  ·cases h
   exact AK.done (Or.inr (ex_ _ (an_ g (Or.inr (ex_ _ (an_ ho (an_ (fun h=>(by cases h)) (an_ rfl rfl))))))))
  cases h
  exact AK.done (Or.inr (ex_ _ (an_ g (Or.inl (ex_ _ (an_ ho (an_ rfl (ex_ _ rfl))))))))
 rcases w with(_ | _)
 ·replace h:Qlt=some r:=h
  rintro e σ ⟨rfl,rfl⟩
  refine tg_ hC [.n 8] rfl ?_
  refine AK.closeMap (b:=617) rfl ?_
  cases h
  exact d1_ rfl rfl ⟨rfl,rfl,tt_⟩
 replace h:Qlu=some r:=h
 rintro e σ ⟨rfl,rfl⟩
 refine tg_ hC [.n 2] rfl ?_
 refine AK.closeMap (b:=617) rfl ?_
 cases h
 exact d1_ rfl rfl ⟨rfl,rfl,tt_⟩
def Qqz (a:Unit):Option Bool:=
 some false
def QqA (a:QBg):Option Bool:=
 some false
def QqB (a:QBg):Option Bool:=
 some false
def QmH (b:(QBg×QBg)):Option Bool:=
 (Qel b.1 b.2).bind fun a=>
 some a
def QmI (a:QBg)(b:QBg):Option Bool:=
 (QkB a b).bind (Sum.elim (fun q=>Qqz q) (Sum.elim (fun q=>QqA q) (Sum.elim (fun q=>QqB q) (fun q=>QmH q))))
theorem Qwu (g i){r}(h:QmI g i=some r):Qc prog 214 [.sl 2 (g.map QI),.sl 2 (i.map QI)] [] (Gives (.b r) []):=by
 refine Qc.walk 21 func214 rfl rfl rfl fun C hC=>?_
 obtain⟨l,a,h⟩:=Qb h
 refine tg_ hC [.n 9] rfl ?_
 rcases l with(m | (j | (k | c)))
 ·replace h:Qqz m=some r:=h
  refine Qa hC [.cm (.fn) [] [] [] [.d,.d] [] (.tup [.lit (.map none),.lit (.map none),.b false]),.n 21] rfl ⟨tt_,(QbL _ _ a)⟩ ?_
  cases h
  exact d1_ rfl rfl tt_
 ·replace h:QqA j=some r:=h
  refine Qa hC [.cm (.fn) [] [(11,603)] [] [.d,.d] [(603,.map (QA V.I V.I j))] (.tup [.lit (.map none),.map 603,.b false]),.n 21] rfl ⟨tt_,(QbL _ _ a)⟩ ?_
  cases h
  exact d1_ rfl rfl tt_
 ·replace h:QqB k=some r:=h
  refine Qa hC [.cm (.fn) [] [(11,602)] [] [.d,.d] [(602,.map (QA V.I V.I k))] (.tup [.map 602,.lit (.map none),.b false]),.n 21] rfl ⟨tt_,(QbL _ _ a)⟩ ?_
  cases h
  exact d1_ rfl rfl tt_
 replace h:QmH c=some r:=h
 obtain⟨f,e,h⟩:=Qb h
 refine Qa hC [.cm (.fn) [] [(11,602),(610,603)] [] [.d,.d] [(602,.map (QA V.I V.I c.1)),(603,.map (QA V.I V.I c.2))] (.tup [.map 602,.map 603,.b true]),.n 15,.cm (.fn) [(617,11),(618,610)] [(11,617),(610,618)] [] [.d,.d] [(617,.map (QA V.I V.I c.1)),(618,.map (QA V.I V.I c.2))] (.b f),.n 5] rfl ⟨⟨tt_,(QbL _ _ a)⟩,(Qlv _ _ e)⟩ ?_
 cases h
 exact d1_ rfl rfl tt_
def Qae (d:QMk)(e:QMk)(a:Int):Option (Int⊕(Unit⊕Unit)):=
 bif (decide (a<(d.length:Int)))then
 (idx d a).bind fun f=>
 (idx e a).bind fun b=>
 (QmI f b).bind fun c=>
 bif (!c)then
 some (.inr (.inl ()))
 else
 some (.inl (w64 (a+1)))
 else
 some (.inr (.inr ()))
def Qbk : Option Bool:=
 some false
def Qbl : Option Bool:=
 some true
def Qax (a:QMk)(b:QMk):Option Bool:=
 bif ((a.length:Int) != (b.length:Int))then
 some false
 else
 (QJ (fun st=>Qae a b st) 0).bind (Sum.elim (fun q=>Qbk) (fun q=>Qbl))
theorem QdG (f j){r}(h:Qax f j=some r):Qc prog 34 [.sl 1 (f.map Qi),.sl 1 (j.map Qi),.clo (.func 214) [] []] [] (Gives (.b r) []):=by
 refine Qc.walk 32 func34 rfl rfl rfl fun C hC=>?_
 refine Qa hC [.n 9,.o (.ln f.length),.n 1,.o (.ln j.length),.n 3] rfl ⟨⟨tt_,Qf⟩,Qf⟩ ?_
 refine bg_ h (fun g h=>Qa hC [.T,.n 7,.K [6] []] rfl ⟨tt_,g⟩ ?_) fun g h=>Qa hC [.F,.n 6,.o (.ln f.length),.n 4,.K [1,2,15,16,17] []] rfl ⟨⟨tt_,g⟩,Qf⟩ ?_
 ·cases h
  exact d1_ rfl rfl tt_
 obtain⟨p,k,h⟩:=Qb h
 refine AK.loop (body:=(fun st=>Qae f j st)) (fun st σ=>σ=⟨[(1,.sl 1 (j.map Qi)),(2,.clo (.func 214) [] []),(15,.sl 1 (f.map Qi)),(16,.I (f.length:Int)),(17,.I st)],[]⟩) (Sum.elim (fun q e σ=>e=.ret∧σ=⟨[(6,.b false)],[]⟩) (fun q e σ=>e=.exit 0∧σ=⟨[],[]⟩)) k rfl ?_ ?_
 ·rintro w o σ rfl h
  refine tg_ hC [.n 6] rfl ?_
  rcases Qt h with⟨i,h⟩|⟨i,h⟩
  ·obtain⟨v,s,h⟩:=Qb h
   obtain⟨t,l,h⟩:=Qb h
   obtain⟨u,m,h⟩:=Qb h
   refine Qa hC [.T,.n 7,.o (.row (Qi v)),.n 9,.o (.row (Qi t)),.n 9,.o (.c false [.d,.d] (.b u)),.n 3] rfl ⟨⟨⟨⟨tt_,i⟩,(QT s)⟩,(QT l)⟩,(Qwu _ _ m)⟩ ?_
   refine bg_ h (fun a h=>Qa hC [.T,.n 8,.K [6] []] rfl ⟨tt_,a⟩ ?_) fun a h=>Qa hC [.F,.n 7,.K [1,2,15,16,17] []] rfl ⟨tt_,a⟩ ?_
   ·cases h
    exact Qav rfl (an_ rfl rfl)
   cases h
   exact Q6 rfl rfl
  refine Qa hC [.F,.n 2,.K [] []] rfl ⟨tt_,i⟩ ?_
  cases h
  exact Q8 rfl (an_ rfl rfl)
 rcases p with(_ | _)
 ·replace h:Qbk=some r:=h
  rintro e σ ⟨rfl,rfl⟩
  refine tg_ hC [.n 2] rfl ?_
  cases h
  exact d1_ rfl rfl tt_
 replace h:Qbl=some r:=h
 rintro e σ ⟨rfl,rfl⟩
 refine tg_ hC [.n 8] rfl ?_
 cases h
 exact d1_ rfl rfl tt_
def QiT (a:QMk)(b:QMk):Option Bool:=
 (Qax a b).bind fun c=>
 some c
theorem QpC (a e){r}(h:QiT a e=some r):Qc prog 148 [.sl 1 (a.map Qi),.sl 1 (e.map Qi)] [] (Gives (.b r) []):=by
 refine Qc.walk 8 func148 rfl rfl rfl fun C hC=>?_
 obtain⟨f,c,h⟩:=Qb h
 refine Qa hC [.n 9,.cm (.fn) [] [] [] [.d,.d,.d] [] (.b f),.n 4] rfl ⟨tt_,(QdG _ _ c)⟩ ?_
 cases h
 exact d1_ rfl rfl tt_
def Qdy (b:(List Int))(c:Int)(a:Int):Option (Int⊕(Int⊕Unit)):=
 bif (decide (a<(b.length:Int)))then
 (idx b a).bind fun d=>
 bif (c==d)then
 some (.inr (.inl a))
 else
 some (.inl (w64 (a+1)))
 else
 some (.inr (.inr ()))
def Qdz (a:Int):Option Int:=
 some a
def QdA : Option Int:=
 some (-1)
def QeE (a:(List Int))(b:Int):Option Int:=
 (QJ (fun st=>Qdy a b st) 0).bind (Sum.elim (fun q=>Qdz q) (fun q=>QdA))
theorem QoT (c f){r}(h:QeE c f=some r):Qc prog 215 [.sl 1 (c.map Qe),.I f] [] (Gives (.I r) []):=by
 refine Qc.walk 19 func215 rfl rfl rfl fun C hC=>?_
 refine Qa hC [.n 9,.o (.ln c.length),.n 4,.K [0,1,7,8] []] rfl ⟨tt_,Qf⟩ ?_
 obtain⟨g,d,h⟩:=Qb h
 refine AK.loop (body:=(fun st=>Qdy c f st)) (fun st σ=>σ=⟨[(0,.sl 1 (c.map Qe)),(1,.I f),(7,.I (c.length:Int)),(8,.I st)],[]⟩) (Sum.elim (fun q e σ=>e=.ret∧σ=⟨[(4,.I q)],[]⟩) (fun q e σ=>e=.exit 0∧σ=⟨[],[]⟩)) d rfl ?_ ?_
 ·rintro l o σ rfl h
  refine tg_ hC [.n 6] rfl ?_
  rcases Qt h with⟨b,h⟩|⟨b,h⟩
  ·obtain⟨j,i,h⟩:=Qb h
   refine Qa hC [.T,.n 15,.o (.row (Qe j)),.n 4] rfl ⟨⟨tt_,b⟩,(QT i)⟩ ?_
   refine bg_ h (fun a h=>Qa hC [.T,.n 9,.K [4] []] rfl ⟨tt_,a⟩ ?_) fun a h=>Qa hC [.F,.n 7,.K [0,1,7,8] []] rfl ⟨tt_,a⟩ ?_
   ·cases h
    exact Qav rfl (an_ rfl rfl)
   cases h
   exact Q6 rfl rfl
  refine Qa hC [.F,.n 2,.K [] []] rfl ⟨tt_,b⟩ ?_
  cases h
  exact Q8 rfl (an_ rfl rfl)
 rcases g with(k | _)
 ·replace h:Qdz k=some r:=h
  rintro e σ ⟨rfl,rfl⟩
  refine tg_ hC [.n 2] rfl ?_
  cases h
  exact d1_ rfl rfl tt_
 replace h:QdA=some r:=h
 rintro e σ ⟨rfl,rfl⟩
 refine tg_ hC [.n 8] rfl ?_
 cases h
 exact d1_ rfl rfl tt_
def Qbv (a:(List Int))(b:Int):Option Bool:=
 (QeE a b).bind fun c=>
 some (decide (0≤c))
theorem QhR (e f){r}(h:Qbv e f=some r):Qc prog 149 [.sl 1 (e.map Qe),.I f] [] (Gives (.b r) []):=by
 refine Qc.walk 9 func149 rfl rfl rfl fun C hC=>?_
 obtain⟨g,a,h⟩:=Qb h
 refine Qa hC [.n 9,.o (.c false [.d,.d] (.I g)),.n 5] rfl ⟨tt_,(QoT _ _ a)⟩ ?_
 cases h
 exact d1_ rfl rfl tt_
def QeF (a:Int):Option (Int⊕(Unit⊕Unit)):=
 some (.inl (w64 (a+1)))
def Qlw (a:(QMk×Int))(c:QV):Option Bool:=
 bif (a.2==0)then
 (QiT a.1 c.m).bind fun b=>
 some b
 else
 some false
def QeG (a:Int)(b:Bool):Option (Int⊕(Unit⊕Unit)):=
 bif b then
 some (.inr (.inl ()))
 else
 QeF a
def QeH (d:QV)(b:(List Int))(a:Int):Option (Int⊕(Unit⊕Unit)):=
 bif (decide (a<(d.task.Ins.length:Int)))then
 (Qbv b a).bind fun f=>
 bif f then
 QeF a
 else
 (QaI b).bind fun c=>
 (chk (decide (c.length+([a]:List Int).length≤4294967296))).bind fun _=>
 (Qbc (c++([a]:List Int))).bind fun e=>
 (chk (decide (e.length=(c++([a]:List Int)).length))).bind fun _=>
 (Qd3 d.net d.task.Ins e d.env).bind fun g=>
 (Qlw g d).bind (fun h=>QeG a h)
 else
 some (.inr (.inr ()))
def Qlx : Option Int:=
 some 11
def Qly : Option Int:=
 some 0
def Qai (b:QV)(a:(List Int)):Option Int:=
 (Qd3 b.net b.task.Ins a b.env).bind fun c=>
 bif (c.2 != 0)then
 some c.2
 else
 (QiT c.1 b.m).bind fun d=>
 bif (!d)then
 some 10
 else
 bif (b.task.Join != 3)then
 some 0
 else
 (QJ (fun st=>QeH b a st) 0).bind (Sum.elim (fun q=>Qlx) (fun q=>Qly))
theorem Qlz (g a){r}(h:Qai g a=some r):Qc prog 92 [.agg (Qy g),.sl 1 (a.map Qe)] [] (Gives (.I r) []):=by
 refine Qc.walk 76 func92 rfl rfl rfl fun C hC=>?_
 obtain⟨U,L,h⟩:=Qb h
 refine Qa hC [.n 9,.v .no [] (.agg (Qd g.net)),.n 6,.o (.c false [.d,.d,.d,.d] (.tup [.sl 1 (U.1.map Qi),.I U.2])),.n 16] rfl ⟨⟨tt_,rfl⟩,(Qf4 _ _ _ _ L)⟩ ?_
 rcases Qt h with⟨t,h⟩|⟨t,h⟩
 ·refine Qa hC [.T,.n 9] rfl ⟨tt_,t⟩ ?_
  cases h
  exact d1_ rfl rfl tt_
 obtain⟨W,M,h⟩:=Qb h
 refine Qa hC [.F,.n 5,.o (.c false [.d,.d] (.b W)),.n 4] rfl ⟨⟨tt_,t⟩,(QpC _ _ M)⟩ ?_
 refine bg_ h (fun u h=>Qa hC [.T,.n 8,.K [4] []] rfl ⟨tt_,u⟩ ?_) fun u h=>Qa hC [.F,.n 9] rfl ⟨tt_,u⟩ ?_
 ·cases h
  exact d1_ rfl rfl tt_
 refine bg_ h (fun w h=>Qa hC [.T,.n 8,.K [4] []] rfl ⟨tt_,w⟩ ?_) fun w h=>Qa hC [.F,.n 9,.o (.ln g.task.Ins.length),.n 4,.K [1,2,41,42] [2]] rfl ⟨⟨tt_,w⟩,Qf⟩ ?_
 ·cases h
  exact d1_ rfl rfl tt_
 obtain⟨N,y,h⟩:=Qb h
 refine AK.loop (body:=(fun st=>QeH g a st)) (fun st σ=>σ=⟨[(1,.sl 1 (a.map Qe)),(2,.loc 2 0 0),(41,.I (g.task.Ins.length:Int)),(42,.I st)],[(2,.var (Qy g))]⟩) (Sum.elim (fun q e σ=>e=.ret∧σ=⟨[(4,.I 11)],[]⟩) (fun q e σ=>e=.exit 1∧σ=⟨[],[]⟩)) y rfl ?_ ?_
 ·rintro f o σ rfl h
  refine tg_ hC [.n 6] rfl ?_
  refine bg_ h (fun i h=>Qa hC [.T,.n 2] rfl ⟨tt_,i⟩ ?_) fun i h=>Qa hC [.F,.n 2,.K [] []] rfl ⟨tt_,i⟩ ?_
  ·refine AK.meet (fun σ=>σ=⟨[(1,.sl 1 (a.map Qe)),(2,.loc 2 0 0),(41,.I (g.task.Ins.length:Int)),(42,.I f)],[(2,.var (Qy g))]⟩∧QeF f=some o) ?_ ?_
   ·obtain⟨O,z,h⟩:=Qb h
    refine Qa hC [.n 12,.o (.c false [.d,.d] (.b O)),.n 2] rfl ⟨tt_,(QhR _ _ z)⟩ ?_
    rcases Qt h with⟨j,h⟩|⟨j,h⟩
    ·refine Qa hC [.T,.n 3,.K [1,2,41,42] [2]] rfl ⟨tt_,j⟩ ?_
     exact AK.met (an_ rfl h)
    obtain⟨s,A,h⟩:=Qb h
    obtain⟨B,h⟩:=QaW h
    obtain⟨k,D,h⟩:=Qb h
    obtain⟨l,h⟩:=QaW h
    obtain⟨E,G,h⟩:=Qb h
    refine Qa hC [.F,.n 5,.o (.co false [.d] 1 (s.map Qe) s.length),.n 1,.v (.bd []) [] (.sl 1 (([f]:List Int).map Qe)),.app ((s++([f]:List Int)).map Qe) (s++([f]:List Int)).length,.n 6,.cm (.fn) [(617,49)] [(49,617)] [] [.d] [(617,.arr 1 (k.map Qe))] (.tup []),.S 8 (.own 49 k.length),.S 52 (.own 49 k.length),.S 53 (.own 49 k.length),.n 5,.v .no [] (.agg (Qd g.net)),.n 6,.frz 49 (k.map Qe) [8,52,53,61] [],.o (.c false [.d,.d,.d,.d] (.tup [.sl 1 (E.1.map Qi),.I E.2])),.n 8] rfl ⟨⟨⟨⟨⟨⟨⟨⟨⟨⟨⟨tt_,j⟩,⟨(Qcn _ A),Qf,.inl rfl⟩⟩,rfl⟩,⟨Qf,QbP B Qf,QaY,QcN Qf⟩⟩,(QdN _ D)⟩,(by simp [Q9 l])⟩,(by simp [Q9 l])⟩,(by simp [Q9 l])⟩,rfl⟩,⟨⟨⟨⟨tt_,(QbQ Qf)⟩,(QbQ Qf)⟩,(QbQ Qf)⟩,(QbQ Qf)⟩⟩,(Qf4 _ _ _ _ G)⟩ ?_
    obtain⟨x,H,h⟩:=Qb h
    replace h:QeG f x=some o:=h
    refine AK.meetX (fun σ=>σ=⟨[(1,.sl 1 (a.map Qe)),(2,.loc 2 0 0),(41,.I (g.task.Ins.length:Int)),(42,.I f),(74,.b x)],[(2,.var (Qy g))]⟩) ?_ ?_
    ·replace h:=H
     refine tg_ hC [.n 4] rfl ?_
     rcases Qt h with⟨m,h⟩|⟨m,h⟩
     ·obtain⟨P,J,h⟩:=Qb h
      refine Qa hC [.S 69 (.b true),.n 3,.o (.c false [.d,.d] (.b P)),.n 2,.K [1,2,41,42,74] [2]] rfl ⟨(tc_ m),(QpC _ _ J)⟩ ?_
      cases h
      exact AK.met rfl
     refine Qa hC [.S 69 (.b false),.n 6,.K [1,2,41,42,74] [2]] rfl (tc_ m) ?_
     cases h
     exact AK.met rfl
    rintro σ rfl
    replace h:QeG f x=some o:=h
    refine tg_ hC [.n 1] rfl ?_
    refine bg_ h (fun p h=>Qa hC [.T,.n 8,.K [4] []] rfl ⟨tt_,p⟩ ?_) fun p h=>Qa hC [.F,.n 2,.K [1,2,41,42] [2]] rfl ⟨tt_,p⟩ ?_
    ·cases h
     exact Qav rfl (an_ rfl rfl)
    exact AK.met (an_ rfl h)
   rintro σ ⟨rfl,h⟩
   refine tg_ hC [.n 4,.K [1,2,41,42] [2]] rfl ?_
   cases h
   exact Q6 rfl rfl
  cases h
  exact Q8 rfl (an_ rfl rfl)
 rcases N with(_ | _)
 ·replace h:Qlx=some r:=h
  rintro e σ ⟨rfl,rfl⟩
  refine tg_ hC [.n 2] rfl ?_
  cases h
  exact d1_ rfl rfl tt_
 replace h:Qly=some r:=h
 rintro e σ ⟨rfl,rfl⟩
 refine tg_ hC [.n 8] rfl ?_
 cases h
 exact d1_ rfl rfl tt_
def Qka (a:(Int×QV)):Option Bool:=
 bif (a.1 != 0)then
 some true
 else
 (Qal a.2).bind fun b=>
 some (b != 0)
def QcF (a:Int)(b:(List Qm)):Option ((Int×(List Qm))⊕((List Qm)⊕(List Qm))):=
 some (.inl ((w64 (a+1)),b))
def QdP (f:QLL)(j:(List Int))(h:(List Int))(g:Int)(k:Int)(e:Int)(a:(List Qm)):Option ((Int×(List Qm))⊕((List Qm)⊕(List Qm))):=
 bif (decide (e<(f.length:Int)))then
 (idx f e).bind fun i=>
 (QaI j).bind fun b=>
 (QaI h).bind fun c=>
 (QaI i).bind fun d=>
 (chk (decide (a.length+([(Qm.mk g b c d)]:List Qm).length≤4294967296))).bind fun _=>
 bif (((a++[(Qm.mk g b c d)]).length:Int)==k)then
 some (.inr (.inl (a++[(Qm.mk g b c d)])))
 else
 some (.inl ((w64 (e+1)),(a++[(Qm.mk g b c d)])))
 else
 some (.inr (.inr a))
def Qkb (a:(List Qm)):Option ((Int×(List Qm))⊕((List Qm)⊕(List Qm))):=
 some (.inr (.inl a))
def Qf7 (a:Int)(b:(List Qm)):Option ((Int×(List Qm))⊕((List Qm)⊕(List Qm))):=
 QcF a b
def QdQ (g:QLL)(d:(Int×QV))(e:QLL)(h:(List Int))(i:Int)(j:Int)(a:Int)(b:(List Qm)):Option ((Int×(List Qm))⊕((List Qm)⊕(List Qm))):=
 bif (decide (a<(g.length:Int)))then
 (idx g a).bind fun c=>
 (Qai d.2 c).bind fun f=>
 bif (f != 0)then
 QcF a b
 else
 (QJ (fun st=>QdP e h c i j st.1 st.2) (0,b)).bind (Sum.elim (fun q=>Qkb q) (fun q=>Qf7 a q))
 else
 some (.inr (.inr b))
def Qkc (a:(List Qm)):Option ((List Qm)⊕(List Qm)):=
 some (.inl a)
def Qkd (a:(List Qm)):Option ((List Qm)⊕(List Qm)):=
 some (.inr a)
def QdR (e:(List Qm))(f:QLL)(a:(Int×QV))(g:QLL)(h:(List Int))(i:Int)(j:Int)(b:Bool):Option ((List Qm)⊕(List Qm)):=
 bif b then
 some (.inr e)
 else
 (Qdx f).bind fun c=>
 (Qco c a.2).bind fun d=>
 (QJ (fun st=>QdQ g a d h i j st.1 st.2) (0,e)).bind (Sum.elim (fun q=>Qkc q) (fun q=>Qkd q))
def Qe4 (e:Qj)(f:QMk)(c:Int)(g:Int)(k:(List Qm))(h:QLL)(i:QLL)(j:(List Qm))(d:(List Int)):Option ((List Qm)⊕(List Qm)):=
 (QbR e f c d).bind fun a=>
 (Qka a).bind (fun b=>QdR j i a h d c g b)
theorem Qke (lpl lpf:Nat)(x:Qj)(y:QMk)(j:Int)(u:Int)(k:(List Qm))(i:QLL)(w:QLL)(U:(List Qm))(z:(List Int)){r:((List Qm)⊕(List Qm))}(h:Qe4 x y j u k i w U z=some r):QnU prog lpl (QaM lpf) (QFA (.loc 618 0 0) (.loc 619 0 0) (.loc 620 0 0) (.loc 621 0 0) (.loc 622 0 0) (.loc 623 0 0) (.loc 624 0 0) (.loc 625 0 0) (.sl 1 (z.map Qe))) [(617,.lp lpl (QaM lpf) (Qd8 (.loc 618 0 0) (.loc 619 0 0) (.loc 620 0 0) (.loc 621 0 0) (.loc 622 0 0) (.loc 623 0 0) (.loc 624 0 0) (.loc 625 0 0)) 0),(618,.var (Qd x)),(619,.var (Qu y)),(620,.var (Qe j)),(621,.var (Qe u)),(622,.var [.own 615 k.length]),(615,.arr 4 (k.map Qk)),(623,.var (QX i)),(624,.var (QX w)),(625,.var [.own 616 U.length]),(616,.arr 4 (U.map Qk))] ((Sum.elim (fun q=>(Gives (.b false) [(615,.arr 4 (k.map Qk)),(616,.arr 4 (q.map Qk)),(617,.lp lpl (QaM lpf) (Qd8 (.loc 618 0 0) (.loc 619 0 0) (.loc 620 0 0) (.loc 621 0 0) (.loc 622 0 0) (.loc 623 0 0) (.loc 624 0 0) (.loc 625 0 0)) 2),(618,.var (Qd x)),(619,.var (Qu y)),(620,.var (Qe j)),(621,.var (Qe u)),(622,.var [.own 616 q.length]),(623,.var (QX i)),(624,.var (QX w)),(625,.var [.own 616 q.length])])) (fun q=>(Gives (.b true) [(615,.arr 4 (k.map Qk)),(616,.arr 4 (q.map Qk)),(617,.lp lpl (QaM lpf) (Qd8 (.loc 618 0 0) (.loc 619 0 0) (.loc 620 0 0) (.loc 621 0 0) (.loc 622 0 0) (.loc 623 0 0) (.loc 624 0 0) (.loc 625 0 0)) 0),(618,.var (Qd x)),(619,.var (Qu y)),(620,.var (Qe j)),(621,.var (Qe u)),(622,.var [.own 615 k.length]),(623,.var (QX i)),(624,.var (QX w)),(625,.var [.own 616 q.length])]))) r):=by
 refine QnU.walk (b:=617) 109 rfl rfl fun C hC=>?_
 refine tg_ hC [.n 3] rfl ?_
 refine AK.done (an_ rfl (ex_ _ (an_ rfl ?_)))
 obtain⟨f,Y,h⟩:=Qb h
 refine Qa hC [.n 3,.v .no [] (.agg (Qd x)),.n 3,.o (.c false [.d,.d,.d,.d] (.tup [.agg (Qy f.2),.I f.1])),.n 5,.O 14 (.var (Qy f.2)),.n 5] rfl ⟨⟨⟨tt_,rfl⟩,(Qqw _ _ _ _ Y)⟩,rfl⟩ ?_
 obtain⟨W,Z,h⟩:=Qb h
 replace h:QdR U w f i z j u W=some r:=h
 refine AK.meetX (fun σ=>σ=⟨[(6,.loc 620 0 0),(7,.loc 621 0 0),(8,.loc 622 0 0),(10,.loc 623 0 0),(11,.loc 624 0 0),(12,.loc 625 0 0),(13,.sl 1 (z.map Qe)),(14,.loc 14 0 0),(69,.b W)],[(14,.var (Qy f.2)),(615,.arr 4 (k.map Qk)),(616,.arr 4 (U.map Qk)),(617,.lp lpl (QaM lpf) (Qd8 (.loc 618 0 0) (.loc 619 0 0) (.loc 620 0 0) (.loc 621 0 0) (.loc 622 0 0) (.loc 623 0 0) (.loc 624 0 0) (.loc 625 0 0)) 1),(618,.var (Qd x)),(619,.var (Qu y)),(620,.var (Qe j)),(621,.var (Qe u)),(622,.var [.own 615 k.length]),(623,.var (QX i)),(624,.var (QX w)),(625,.var [.own 616 U.length])]⟩) ?_ ?_
 ·replace h:=Z
  refine tg_ hC [.n 4] rfl ?_
  rcases Qt h with⟨A,h⟩|⟨A,h⟩
  ·refine Qa hC [.S 65 (.b true),.n 5,.K [6,7,8,10,11,12,13,14,69] [14,615,616,617,618,619,620,621,622,623,624,625]] rfl (tc_ A) ?_
   cases h
   exact AK.met rfl
  obtain⟨b2,a0,h⟩:=Qb h
  refine Qa hC [.S 65 (.b false),.v .no [] (.agg (Qy f.2)),.o (.c false [.d] (.I b2)),.n 3,.K [6,7,8,10,11,12,13,14,69] [14,615,616,617,618,619,620,621,622,623,624,625]] rfl ⟨⟨(tc_ A),rfl⟩,(Qj9 _ a0)⟩ ?_
  cases h
  exact AK.met rfl
 rintro σ rfl
 replace h:QdR U w f i z j u W=some r:=h
 refine tg_ hC [.n 1] rfl ?_
 rcases Qt h with⟨B,h⟩|⟨B,h⟩
 ·refine Qa hC [.T,.n 3,.K [] [615,616,617,618,619,620,621,622,623,624,625]] rfl ⟨tt_,B⟩ ?_
  cases h
  refine AK.done ?_
  exact ex_ _ (an_ rfl (gives ⟨rfl,rfl,rfl,rfl,rfl,rfl,rfl,rfl,rfl,rfl,rfl,tt_⟩))
 obtain⟨a1,a2,h⟩:=Qb h
 obtain⟨g,a3,h⟩:=Qb h
 refine Qa hC [.F,.n 5,.o (.co false [.d] 1 (a1.map QK) a1.length),.n 1,.cm (.fn) [(617,71),(618,14)] [(71,617),(14,618)] [] [.d,.d] [(617,.arr 1 (g.map QK)),(618,.var (Qy f.2))] (.own 617 g.length),.n 6,.o (.ln i.length),.n 4,.K [6,7,8,12,13,14,16,74,75,76] [14,71,615,616,617,618,619,620,621,622,623,624,625]] rfl ⟨⟨⟨⟨tt_,B⟩,⟨(Qnl _ a2),Qf,.inl rfl⟩⟩,(Qls _ _ a3)⟩,Qf⟩ ?_
 obtain⟨b3,a4,h⟩:=Qb h
 refine AK.loop (body:=(fun st=>QdQ i f g z j u st.1 st.2)) (fun st σ=>σ=⟨[(6,.loc 620 0 0),(7,.loc 621 0 0),(8,.loc 622 0 0),(12,.loc 625 0 0),(13,.sl 1 (z.map Qe)),(14,.loc 14 0 0),(16,.own 71 g.length),(74,.sl 1 (i.map QK)),(75,.I (i.length:Int)),(76,.I st.1)],[(14,.var (Qy f.2)),(71,.arr 1 (g.map QK)),(615,.arr 4 (k.map Qk)),(616,.arr 4 (st.2.map Qk)),(617,.lp lpl (QaM lpf) (Qd8 (.loc 618 0 0) (.loc 619 0 0) (.loc 620 0 0) (.loc 621 0 0) (.loc 622 0 0) (.loc 623 0 0) (.loc 624 0 0) (.loc 625 0 0)) 1),(618,.var (Qd x)),(619,.var (Qu y)),(620,.var (Qe j)),(621,.var (Qe u)),(622,.var [.own 615 k.length]),(623,.var (QX i)),(624,.var (QX w)),(625,.var [.own 616 st.2.length])]⟩) (Sum.elim (fun q e σ=>e=.ret∧σ=⟨[],[(615,.arr 4 (k.map Qk)),(616,.arr 4 (q.map Qk)),(617,.lp lpl (QaM lpf) (Qd8 (.loc 618 0 0) (.loc 619 0 0) (.loc 620 0 0) (.loc 621 0 0) (.loc 622 0 0) (.loc 623 0 0) (.loc 624 0 0) (.loc 625 0 0)) 1),(618,.var (Qd x)),(619,.var (Qu y)),(620,.var (Qe j)),(621,.var (Qe u)),(622,.var [.own 616 q.length]),(623,.var (QX i)),(624,.var (QX w)),(625,.var [.own 616 q.length])]⟩) (fun q e σ=>e=.exit 2∧σ=⟨[],[(615,.arr 4 (k.map Qk)),(616,.arr 4 (q.map Qk)),(617,.lp lpl (QaM lpf) (Qd8 (.loc 618 0 0) (.loc 619 0 0) (.loc 620 0 0) (.loc 621 0 0) (.loc 622 0 0) (.loc 623 0 0) (.loc 624 0 0) (.loc 625 0 0)) 1),(618,.var (Qd x)),(619,.var (Qu y)),(620,.var (Qe j)),(621,.var (Qe u)),(622,.var [.own 615 k.length]),(623,.var (QX i)),(624,.var (QX w)),(625,.var [.own 616 q.length])]⟩)) a4 rfl ?_ ?_
 ·rintro ⟨D,c1⟩ o σ rfl h
  refine tg_ hC [.n 6] rfl ?_
  refine bg_ h (fun E h=>Qa hC [.T,.n 2] rfl ⟨tt_,E⟩ ?_) fun E h=>Qa hC [.F,.n 2,.K [] [615,616,617,618,619,620,621,622,623,624,625]] rfl ⟨tt_,E⟩ ?_
  ·refine AK.meet (fun σ=>∃L:(List Qm),σ=⟨[(6,.loc 620 0 0),(7,.loc 621 0 0),(8,.loc 622 0 0),(12,.loc 625 0 0),(13,.sl 1 (z.map Qe)),(14,.loc 14 0 0),(16,.own 71 g.length),(74,.sl 1 (i.map QK)),(75,.I (i.length:Int)),(76,.I D)],[(14,.var (Qy f.2)),(71,.arr 1 (g.map QK)),(615,.arr 4 (k.map Qk)),(616,.arr 4 (L.map Qk)),(617,.lp lpl (QaM lpf) (Qd8 (.loc 618 0 0) (.loc 619 0 0) (.loc 620 0 0) (.loc 621 0 0) (.loc 622 0 0) (.loc 623 0 0) (.loc 624 0 0) (.loc 625 0 0)) 1),(618,.var (Qd x)),(619,.var (Qu y)),(620,.var (Qe j)),(621,.var (Qe u)),(622,.var [.own 615 k.length]),(623,.var (QX i)),(624,.var (QX w)),(625,.var [.own 616 L.length])]⟩∧QcF D L=some o) ?_ ?_
   ·obtain⟨X,a5,h⟩:=Qb h
    obtain⟨b4,a6,h⟩:=Qb h
    refine Qa hC [.n 3,.o (.row (QK X)),.n 7,.v .no [] (.agg (Qy f.2)),.n 1,.o (.c false [.d,.d] (.I b4)),.n 3] rfl ⟨⟨⟨tt_,(QT a5)⟩,rfl⟩,(Qlz _ _ a6)⟩ ?_
    refine bg_ h (fun G h=>Qa hC [.T,.n 3,.K [6,7,8,12,13,14,16,74,75,76] [14,71,615,616,617,618,619,620,621,622,623,624,625]] rfl ⟨tt_,G⟩ ?_) fun G h=>Qa hC [.F,.n 10,.K [6,7,8,12,13,14,16,18,74,75,76,84,85,86] [14,71,615,616,617,618,619,620,621,622,623,624,625]] rfl ⟨tt_,G⟩ ?_
    ·exact AK.met (ex_ _ (an_ rfl h))
    obtain⟨b5,a7,h⟩:=Qb h
    refine AK.loop (body:=(fun st=>QdP g z X j u st.1 st.2)) (fun st σ=>σ=⟨[(6,.loc 620 0 0),(7,.loc 621 0 0),(8,.loc 622 0 0),(12,.loc 625 0 0),(13,.sl 1 (z.map Qe)),(14,.loc 14 0 0),(16,.own 71 g.length),(18,.sl 1 (X.map Qe)),(74,.sl 1 (i.map QK)),(75,.I (i.length:Int)),(76,.I D),(84,.own 71 g.length),(85,.I (g.length:Int)),(86,.I st.1)],[(14,.var (Qy f.2)),(71,.arr 1 (g.map QK)),(615,.arr 4 (k.map Qk)),(616,.arr 4 (st.2.map Qk)),(617,.lp lpl (QaM lpf) (Qd8 (.loc 618 0 0) (.loc 619 0 0) (.loc 620 0 0) (.loc 621 0 0) (.loc 622 0 0) (.loc 623 0 0) (.loc 624 0 0) (.loc 625 0 0)) 1),(618,.var (Qd x)),(619,.var (Qu y)),(620,.var (Qe j)),(621,.var (Qe u)),(622,.var [.own 615 k.length]),(623,.var (QX i)),(624,.var (QX w)),(625,.var [.own 616 st.2.length])]⟩) (Sum.elim (fun q e σ=>e=.ret∧σ=⟨[],[(615,.arr 4 (k.map Qk)),(616,.arr 4 (q.map Qk)),(617,.lp lpl (QaM lpf) (Qd8 (.loc 618 0 0) (.loc 619 0 0) (.loc 620 0 0) (.loc 621 0 0) (.loc 622 0 0) (.loc 623 0 0) (.loc 624 0 0) (.loc 625 0 0)) 1),(618,.var (Qd x)),(619,.var (Qu y)),(620,.var (Qe j)),(621,.var (Qe u)),(622,.var [.own 616 q.length]),(623,.var (QX i)),(624,.var (QX w)),(625,.var [.own 616 q.length])]⟩) (fun q e σ=>e=.exit 4∧σ=⟨[(6,.loc 620 0 0),(7,.loc 621 0 0),(8,.loc 622 0 0),(12,.loc 625 0 0),(13,.sl 1 (z.map Qe)),(14,.loc 14 0 0),(16,.own 71 g.length),(74,.sl 1 (i.map QK)),(75,.I (i.length:Int)),(76,.I D)],[(14,.var (Qy f.2)),(71,.arr 1 (g.map QK)),(615,.arr 4 (k.map Qk)),(616,.arr 4 (q.map Qk)),(617,.lp lpl (QaM lpf) (Qd8 (.loc 618 0 0) (.loc 619 0 0) (.loc 620 0 0) (.loc 621 0 0) (.loc 622 0 0) (.loc 623 0 0) (.loc 624 0 0) (.loc 625 0 0)) 1),(618,.var (Qd x)),(619,.var (Qu y)),(620,.var (Qe j)),(621,.var (Qe u)),(622,.var [.own 615 k.length]),(623,.var (QX i)),(624,.var (QX w)),(625,.var [.own 616 q.length])]⟩)) a7 rfl ?_ ?_
    ·rintro ⟨c2,M⟩ o σ rfl h
     refine tg_ hC [.n 6] rfl ?_
     rcases Qt h with⟨H,h⟩|⟨H,h⟩
     ·obtain⟨b6,P,h⟩:=Qb h
      obtain⟨l,a8,h⟩:=Qb h
      obtain⟨p,a9,h⟩:=Qb h
      obtain⟨t,b0,h⟩:=Qb h
      obtain⟨b1,h⟩:=QaW h
      refine Qa hC [.T,.n 7,.o (.row (QK b6)),.n 4,.K [6,7,8,12,13,14,16,18,20,74,75,76,84,85,86] [14,71,615,616,617,618,619,620,621,622,623,624,625]] rfl ⟨⟨⟨tt_,H⟩,(Qda P rfl)⟩,(QbX (QdK P).2)⟩ ?_
      refine AK.draw2 Qs hC mixed [.N,.N,.N,.a (.cd false [.d] 1 (l.map Qe) l.length) none false,.N,.a (.cd false [.d] 1 (p.map Qe) p.length) none false,.N,.a (.cd false [.d] 1 (t.map Qe) t.length) none false,.a .no (some ([],.agg (Qk (Qm.mk j l p t)))) false,.a (.bd []) (some ([],.sl 4 (([(Qm.mk j l p t)]:List Qm).map Qk))) false,.m (.app ((M++[(Qm.mk j l p t)]).map Qk) (M++[(Qm.mk j l p t)]).length),.m .s] [] [] [6,7,8,12,13,14,16,18,74,75,76,84,85,86] [14,71,615,616,617,618,619,620,621,622,623,624,625] rfl rfl rfl ⟨⟨⟨⟨⟨⟨tt_,⟨(Qcn _ a8),Qf⟩⟩,⟨(Qcn _ a9),Qf⟩⟩,⟨(Qcn _ b0),Qf⟩⟩,rfl⟩,rfl⟩,⟨Qf,QbP b1 Qf,QaY,QcN Qf⟩⟩ rfl (by kernel_rfl) rfl rfl rfl ?_
      refine Qa hC [.O 625 (.var [.own 616 (M++[(Qm.mk j l p t)]).length]),.n 9] rfl ⟨tt_,rfl⟩ ?_
      refine bg_ h (fun J h=>Qa hC [.T,.n 4,.O 622 (.var [.own 616 (M++[(Qm.mk j l p t)]).length]),.n 5,.K [] [615,616,617,618,619,620,621,622,623,624,625]] rfl ⟨⟨tt_,J⟩,rfl⟩ ?_) fun J h=>Qa hC [.F,.n 7,.K [6,7,8,12,13,14,16,18,74,75,76,84,85,86] [14,71,615,616,617,618,619,620,621,622,623,624,625]] rfl ⟨tt_,J⟩ ?_
      ·cases h
       exact Qav rfl (an_ rfl rfl)
      cases h
      exact Q6 rfl rfl
     refine Qa hC [.F,.n 2,.K [6,7,8,12,13,14,16,74,75,76] [14,71,615,616,617,618,619,620,621,622,623,624,625]] rfl ⟨tt_,H⟩ ?_
     cases h
     exact Q8 rfl (an_ rfl rfl)
    rcases b5 with(b7 | b8)
    ·replace h:Qkb b7=some o:=h
     rintro e σ ⟨rfl,rfl⟩
     refine tg_ hC [.n 3,.K [] [615,616,617,618,619,620,621,622,623,624,625]] rfl ?_
     cases h
     exact Qav rfl (an_ rfl rfl)
    replace h:Qf7 D b8=some o:=h
    unfold Qf7 at h
    rintro e σ ⟨rfl,rfl⟩
    refine tg_ hC [.n 2,.K [6,7,8,12,13,14,16,74,75,76] [14,71,615,616,617,618,619,620,621,622,623,624,625]] rfl ?_
    exact AK.met (ex_ _ (an_ rfl h))
   rintro σ ⟨L,rfl,h⟩
   refine tg_ hC [.n 4,.K [6,7,8,12,13,14,16,74,75,76] [14,71,615,616,617,618,619,620,621,622,623,624,625]] rfl ?_
   cases h
   exact Q6 rfl rfl
  cases h
  exact Q8 rfl (an_ rfl rfl)
 rcases b3 with(b9 | c0)
 ·replace h:Qkc b9=some r:=h
  rintro e σ ⟨rfl,rfl⟩
  refine tg_ hC [.n 2,.K [] [615,616,617,618,619,620,621,622,623,624,625]] rfl ?_
  cases h
  refine AK.done ?_
  exact ex_ _ (an_ rfl (gives ⟨rfl,rfl,rfl,rfl,rfl,rfl,rfl,rfl,rfl,rfl,rfl,tt_⟩))
 replace h:Qkd c0=some r:=h
 rintro e σ ⟨rfl,rfl⟩
 refine tg_ hC [.n 2,.K [] [615,616,617,618,619,620,621,622,623,624,625]] rfl ?_
 cases h
 refine AK.done ?_
 exact ex_ _ (an_ rfl (gives ⟨rfl,rfl,rfl,rfl,rfl,rfl,rfl,rfl,rfl,rfl,rfl,tt_⟩))
def Qa3 (c:(List QH))(a:Int):Option Int:=
 (QfN c a).bind fun b=>
 bif (!b.1)then
 some 0
 else
 (idx b.2.sizes a).bind fun d=>
 some d
theorem Qit (i j){r}(h:Qa3 i j=some r):Qc prog 134 [.sl 7 (i.map Qr),.I j] [] (Gives (.I r) []):=by
 refine Qc.walk 20 func134 rfl rfl rfl fun C hC=>?_
 obtain⟨e,f,h⟩:=Qb h
 refine Qa hC [.n 9,.o (.c false [.d,.d] (.tup [.agg (Qaa e.2),.b e.1])),.n 5,.O 5 (.var (Qaa e.2)),.n 10] rfl ⟨⟨tt_,(Qnf _ _ f)⟩,rfl⟩ ?_
 rcases Qt h with⟨a,h⟩|⟨a,h⟩
 ·refine Qa hC [.T,.n 7] rfl ⟨tt_,a⟩ ?_
  cases h
  exact d1_ rfl rfl tt_
 obtain⟨k,g,h⟩:=Qb h
 refine Qa hC [.F,.n 7,.o (.row (Qe k)),.n 5] rfl ⟨⟨tt_,a⟩,(QT g)⟩ ?_
 cases h
 exact d1_ rfl rfl tt_
def QmJ (a:(List Qm)):Option (((List Int)×(List Qm))⊕((List Qm)⊕(List Qm))):=
 some (.inr (.inr a))
def QmK (at_25:Int)(a:(List Int))(f:QC)(b:Qj):Option Bool:=
 bif (decide (0≤at_25))then
 (idx a at_25).bind fun c=>
 (idx f.Vars at_25).bind fun d=>
 (Qa3 b.Colours d.Colour).bind fun e=>
 some (decide (e≤(w64 (c+1))))
 else
 some false
def Qfz (a:(List Int))(at_25:Int)(b:Bool):Option ((Int×(List Int))⊕(Int×(List Int))):=
 bif b then
 (idx a at_25).bind fun c=>
 some (.inl ((w64 (at_25-1)),(a.set at_25.toNat 0)))
 else
 some (.inr (at_25,a))
def QdS (d:QC)(b:Qj)(at_25:Int)(a:(List Int)):Option ((Int×(List Int))⊕(Int×(List Int))):=
 (QmK at_25 a d b).bind (fun c=>Qfz a at_25 c)
def QfA (b:(List Qm))(at_29:Int)(a:(List Int)):Option (((List Int)×(List Qm))⊕((List Qm)⊕(List Qm))):=
 bif (decide (at_29<0))then
 some (.inr (.inl b))
 else
 (idx a at_29).bind fun c=>
 (idx a at_29).bind fun d=>
 some (.inl ((a.set at_29.toNat (w64 (c+1))),b))
def QfB (d:QC)(b:Qj)(a:(List Int))(c:(List Qm)):Option (((List Int)×(List Qm))⊕((List Qm)⊕(List Qm))):=
 (QJ (fun st=>QdS d b st.1 st.2) ((w64 ((a.length:Int)-1)),a)).bind (fun q=>QfA c q.1 q.2)
def QfC (e:Qj)(f:QMk)(g:Int)(h:Int)(i:(List Qm))(j:QLL)(k:QLL)(l:QC)(b:Qj)(a:(List Int))(c:(List Qm)):Option (((List Int)×(List Qm))⊕((List Qm)⊕(List Qm))):=
 (QaI a).bind fun d=>
 (Qe4 e f g h i j k c d).bind (Sum.elim (fun q=>QmJ q) (fun q=>QfB l b a q))
def QmL (a:(List Qm)):Option ((List Qm)⊕(List Qm)):=
 some (.inl a)
def QmM (a:(List Qm)):Option ((List Qm)⊕(List Qm)):=
 some (.inr a)
def Qho (c:Qj)(d:QMk)(e:Int)(f:Int)(g:(List Qm))(h:QLL)(i:QLL)(j:(List Qm))(a:QC)(b:Qj):Option ((List Qm)⊕(List Qm)):=
 (chk (decide (0≤(a.Vars.length:Int))&&decide ((a.Vars.length:Int)≤(a.Vars.length:Int))&&decide ((a.Vars.length:Int)≤4294967296))).bind fun _=>
 (QJ (fun st=>QfC c d e f g h i a b st.1 st.2) ((List.replicate (a.Vars.length:Int).toNat (0:Int)),j)).bind (Sum.elim (fun q=>QmL q) (fun q=>QmM q))
theorem QmN (lpl lpf:Nat)(l:Qj)(m:QMk)(p:Int)(s:Int)(j:(List Qm))(t:QLL)(u:QLL)(l8:(List Qm))(k:QC)(f:Qj){r:((List Qm)⊕(List Qm))}(h:Qho l m p s j t u l8 k f=some r):Qc prog 152 [.clo (.yield lpl) [] [],.loc 626 0 0,.loc 627 0 0] [(617,.lp lpl (QaM lpf) (Qd8 (.loc 618 0 0) (.loc 619 0 0) (.loc 620 0 0) (.loc 621 0 0) (.loc 622 0 0) (.loc 623 0 0) (.loc 624 0 0) (.loc 625 0 0)) 0),(618,.var (Qd l)),(619,.var (Qu m)),(620,.var (Qe p)),(621,.var (Qe s)),(622,.var [.own 615 j.length]),(615,.arr 4 (j.map Qk)),(623,.var (QX t)),(624,.var (QX u)),(625,.var [.own 616 l8.length]),(616,.arr 4 (l8.map Qk)),(626,.var (Qh k)),(627,.var (Qd f))] ((Sum.elim (fun q=>(Gives (.tup []) [(615,.arr 4 (j.map Qk)),(616,.arr 4 (q.map Qk)),(617,.lp lpl (QaM lpf) (Qd8 (.loc 618 0 0) (.loc 619 0 0) (.loc 620 0 0) (.loc 621 0 0) (.loc 622 0 0) (.loc 623 0 0) (.loc 624 0 0) (.loc 625 0 0)) 0),(618,.var (Qd l)),(619,.var (Qu m)),(620,.var (Qe p)),(621,.var (Qe s)),(622,.var [.own 615 j.length]),(623,.var (QX t)),(624,.var (QX u)),(625,.var [.own 616 q.length]),(626,.var (Qh k)),(627,.var (Qd f))])) (fun q=>(Gives (.tup []) [(615,.arr 4 (j.map Qk)),(616,.arr 4 (q.map Qk)),(617,.lp lpl (QaM lpf) (Qd8 (.loc 618 0 0) (.loc 619 0 0) (.loc 620 0 0) (.loc 621 0 0) (.loc 622 0 0) (.loc 623 0 0) (.loc 624 0 0) (.loc 625 0 0)) 2),(618,.var (Qd l)),(619,.var (Qu m)),(620,.var (Qe p)),(621,.var (Qe s)),(622,.var [.own 616 q.length]),(623,.var (QX t)),(624,.var (QX u)),(625,.var [.own 616 q.length]),(626,.var (Qh k)),(627,.var (Qd f))]))) r):=by
 refine Qc.walk 50 func152 rfl rfl rfl fun C hC=>?_
 obtain⟨U,h⟩:=QaW h
 refine Qa hC [.n 4,.o (.ln k.Vars.length),.o (.rows ((List.replicate (k.Vars.length:Int).toNat (0:Int)).map Qe)),.S 9 (.own 9 (List.replicate (k.Vars.length:Int).toNat (0:Int)).length),.n 4,.K [0,1,2,4] [9,615,616,617,618,619,620,621,622,623,624,625,626,627]] rfl ⟨⟨⟨tt_,Qf⟩,⟨U,QA6 rfl⟩⟩,(by simp)⟩ ?_
 obtain⟨a3,W,h⟩:=Qb h
 refine AK.loop (body:=(fun st=>QfC l m p s j t u k f st.1 st.2)) (fun st σ=>σ=⟨[(0,.clo (.yield lpl) [] []),(1,.loc 626 0 0),(2,.loc 627 0 0),(4,.own 9 st.1.length)],[(9,.arr 1 (st.1.map Qe)),(615,.arr 4 (j.map Qk)),(616,.arr 4 (st.2.map Qk)),(617,.lp lpl (QaM lpf) (Qd8 (.loc 618 0 0) (.loc 619 0 0) (.loc 620 0 0) (.loc 621 0 0) (.loc 622 0 0) (.loc 623 0 0) (.loc 624 0 0) (.loc 625 0 0)) 0),(618,.var (Qd l)),(619,.var (Qu m)),(620,.var (Qe p)),(621,.var (Qe s)),(622,.var [.own 615 j.length]),(623,.var (QX t)),(624,.var (QX u)),(625,.var [.own 616 st.2.length]),(626,.var (Qh k)),(627,.var (Qd f))]⟩) (Sum.elim (fun q e σ=>e=.ret∧σ=⟨[],[(615,.arr 4 (j.map Qk)),(616,.arr 4 (q.map Qk)),(617,.lp lpl (QaM lpf) (Qd8 (.loc 618 0 0) (.loc 619 0 0) (.loc 620 0 0) (.loc 621 0 0) (.loc 622 0 0) (.loc 623 0 0) (.loc 624 0 0) (.loc 625 0 0)) 0),(618,.var (Qd l)),(619,.var (Qu m)),(620,.var (Qe p)),(621,.var (Qe s)),(622,.var [.own 615 j.length]),(623,.var (QX t)),(624,.var (QX u)),(625,.var [.own 616 q.length]),(626,.var (Qh k)),(627,.var (Qd f))]⟩) (fun q e σ=>e=.ret∧σ=⟨[],[(615,.arr 4 (j.map Qk)),(616,.arr 4 (q.map Qk)),(617,.lp lpl (QaM lpf) (Qd8 (.loc 618 0 0) (.loc 619 0 0) (.loc 620 0 0) (.loc 621 0 0) (.loc 622 0 0) (.loc 623 0 0) (.loc 624 0 0) (.loc 625 0 0)) 2),(618,.var (Qd l)),(619,.var (Qu m)),(620,.var (Qe p)),(621,.var (Qe s)),(622,.var [.own 616 q.length]),(623,.var (QX t)),(624,.var (QX u)),(625,.var [.own 616 q.length]),(626,.var (Qh k)),(627,.var (Qd f))]⟩)) W rfl ?_ ?_
 ·rintro ⟨X,b3⟩ o σ rfl h
  obtain⟨J,Y,h⟩:=Qb h
  obtain⟨a4,B,h⟩:=Qb h
  refine Qa hC [.n 6,.o (.co true [.o (X.map Qe)] 1 (J.map Qe) J.length),.frz 12 (J.map Qe) [12] []] rfl ⟨⟨tt_,⟨(Qrp rfl),⟨(Qcn _ Y),Qf,.inr (QBu _)⟩⟩⟩,⟨tt_,(QbQ Qf)⟩⟩ ?_
  rcases a4 with(v | i)
  ·replace h:QmJ v=some o:=h
   refine Qa hC [.x (fun σ=>(σ.after [615,616] [(615,.arr 4 (j.map Qk)),(616,.arr 4 (v.map Qk)),(617,.lp lpl (QaM lpf) (Qd8 (.loc 618 0 0) (.loc 619 0 0) (.loc 620 0 0) (.loc 621 0 0) (.loc 622 0 0) (.loc 623 0 0) (.loc 624 0 0) (.loc 625 0 0)) 2),(618,.var (Qd l)),(619,.var (Qu m)),(620,.var (Qe p)),(621,.var (Qe s)),(622,.var [.own 616 v.length]),(623,.var (QX t)),(624,.var (QX u)),(625,.var [.own 616 v.length])]).put 13 (.b false)),.n 7,.K [] [615,616,617,618,619,620,621,622,623,624,625,626,627]] rfl ⟨tt_,(Stp.yieldV (b:=617) (M:=[(617,617),(618,618),(619,619),(620,620),(621,621),(622,622),(615,615),(623,623),(624,624),(625,625),(616,616)]) (N:=[(615,615),(616,616),(617,617),(618,618),(619,619),(620,620),(621,621),(622,622),(623,623),(624,624),(625,625)]) (dead:=[615,616]) (ms:=[.d,.d,.d,.d,.d,.d,.d,.d,.d,.d,.d,.d,.d,.d,.d,.d,.d,.d,.d,.d,.d,.d,.d,.d,.d,.d,.d,.d,.d,.d,.d,.d,.d,.d,.d,.d,.d,.d,.d,.d,.d,.d,.d,.d,.d,.d,.d,.d,.d,.d,.d,.d,.d,.d,.d,.d,.d,.d,.d,.d,.d,.d,.d,.d,.d,.d,.d,.d,.d,.d,.d,.d,.d,.d,.d,.d,.d,.d,.d,.d,.d,.d,.d,.d,.d,.d,.d,.d,.d,.d,.d,.d,.d,.d,.d,.d,.d,.d,.d,.d,.d,.d,.d,.d,.d,.d,.d,.d,.d]) (outs:=[(615,.arr 4 (j.map Qk)),(616,.arr 4 (v.map Qk)),(617,.lp lpl (QaM lpf) (Qd8 (.loc 618 0 0) (.loc 619 0 0) (.loc 620 0 0) (.loc 621 0 0) (.loc 622 0 0) (.loc 623 0 0) (.loc 624 0 0) (.loc 625 0 0)) 2),(618,.var (Qd l)),(619,.var (Qu m)),(620,.var (Qe p)),(621,.var (Qe s)),(622,.var [.own 616 v.length]),(623,.var (QX t)),(624,.var (QX u)),(625,.var [.own 616 v.length])]) (r:=.b false) rfl rfl rfl rfl rfl rfl rfl (QN hC.n rfl) hC.g rfl rfl (Qke _ _ _ _ _ _ _ _ _ _ _ B))⟩ ?_
   cases h
   exact Qav rfl (an_ rfl rfl)
  replace h:QfB k f X i=some o:=h
  refine Qa hC [.x (fun σ=>(σ.after [615,616] [(615,.arr 4 (j.map Qk)),(616,.arr 4 (i.map Qk)),(617,.lp lpl (QaM lpf) (Qd8 (.loc 618 0 0) (.loc 619 0 0) (.loc 620 0 0) (.loc 621 0 0) (.loc 622 0 0) (.loc 623 0 0) (.loc 624 0 0) (.loc 625 0 0)) 0),(618,.var (Qd l)),(619,.var (Qu m)),(620,.var (Qe p)),(621,.var (Qe s)),(622,.var [.own 615 j.length]),(623,.var (QX t)),(624,.var (QX u)),(625,.var [.own 616 i.length])]).put 13 (.b true)),.n 16,.K [0,1,2,4,5] [9,615,616,617,618,619,620,621,622,623,624,625,626,627]] rfl ⟨tt_,(Stp.yieldV (b:=617) (M:=[(617,617),(618,618),(619,619),(620,620),(621,621),(622,622),(615,615),(623,623),(624,624),(625,625),(616,616)]) (N:=[(615,615),(616,616),(617,617),(618,618),(619,619),(620,620),(621,621),(622,622),(623,623),(624,624),(625,625)]) (dead:=[615,616]) (ms:=[.d,.d,.d,.d,.d,.d,.d,.d,.d,.d,.d,.d,.d,.d,.d,.d,.d,.d,.d,.d,.d,.d,.d,.d,.d,.d,.d,.d,.d,.d,.d,.d,.d,.d,.d,.d,.d,.d,.d,.d,.d,.d,.d,.d,.d,.d,.d,.d,.d,.d,.d,.d,.d,.d,.d,.d,.d,.d,.d,.d,.d,.d,.d,.d,.d,.d,.d,.d,.d,.d,.d,.d,.d,.d,.d,.d,.d,.d,.d,.d,.d,.d,.d,.d,.d,.d,.d,.d,.d,.d,.d,.d,.d,.d,.d,.d,.d,.d,.d,.d,.d,.d,.d,.d,.d,.d,.d,.d,.d]) (outs:=[(615,.arr 4 (j.map Qk)),(616,.arr 4 (i.map Qk)),(617,.lp lpl (QaM lpf) (Qd8 (.loc 618 0 0) (.loc 619 0 0) (.loc 620 0 0) (.loc 621 0 0) (.loc 622 0 0) (.loc 623 0 0) (.loc 624 0 0) (.loc 625 0 0)) 0),(618,.var (Qd l)),(619,.var (Qu m)),(620,.var (Qe p)),(621,.var (Qe s)),(622,.var [.own 615 j.length]),(623,.var (QX t)),(624,.var (QX u)),(625,.var [.own 616 i.length])]) (r:=.b true) rfl rfl rfl rfl rfl rfl rfl (QN hC.n rfl) hC.g rfl rfl (Qke _ _ _ _ _ _ _ _ _ _ _ B))⟩ ?_
  obtain⟨a5,Z,h⟩:=Qb h
  refine AK.loop (body:=(fun st=>QdS k f st.1 st.2)) (fun st σ=>σ=⟨[(0,.clo (.yield lpl) [] []),(1,.loc 626 0 0),(2,.loc 627 0 0),(4,.own 9 st.2.length),(5,.I st.1)],[(9,.arr 1 (st.2.map Qe)),(615,.arr 4 (j.map Qk)),(616,.arr 4 (i.map Qk)),(617,.lp lpl (QaM lpf) (Qd8 (.loc 618 0 0) (.loc 619 0 0) (.loc 620 0 0) (.loc 621 0 0) (.loc 622 0 0) (.loc 623 0 0) (.loc 624 0 0) (.loc 625 0 0)) 0),(618,.var (Qd l)),(619,.var (Qu m)),(620,.var (Qe p)),(621,.var (Qe s)),(622,.var [.own 615 j.length]),(623,.var (QX t)),(624,.var (QX u)),(625,.var [.own 616 i.length]),(626,.var (Qh k)),(627,.var (Qd f))]⟩) (fun q e σ=>e=.exit 2∧σ=⟨[(0,.clo (.yield lpl) [] []),(1,.loc 626 0 0),(2,.loc 627 0 0),(4,.own 9 q.2.length),(5,.I q.1)],[(9,.arr 1 (q.2.map Qe)),(615,.arr 4 (j.map Qk)),(616,.arr 4 (i.map Qk)),(617,.lp lpl (QaM lpf) (Qd8 (.loc 618 0 0) (.loc 619 0 0) (.loc 620 0 0) (.loc 621 0 0) (.loc 622 0 0) (.loc 623 0 0) (.loc 624 0 0) (.loc 625 0 0)) 0),(618,.var (Qd l)),(619,.var (Qu m)),(620,.var (Qe p)),(621,.var (Qe s)),(622,.var [.own 615 j.length]),(623,.var (QX t)),(624,.var (QX u)),(625,.var [.own 616 i.length]),(626,.var (Qh k)),(627,.var (Qd f))]⟩) Z rfl ?_ ?_
  ·rintro ⟨at_25,w⟩ o σ rfl h
   refine tg_ hC [.n 2] rfl ?_
   obtain⟨L,a0,h⟩:=Qb h
   replace h:Qfz w at_25 L=some o:=h
   refine AK.meetX (fun σ=>σ=⟨[(0,.clo (.yield lpl) [] []),(1,.loc 626 0 0),(2,.loc 627 0 0),(4,.own 9 w.length),(5,.I at_25),(36,.b L)],[(9,.arr 1 (w.map Qe)),(615,.arr 4 (j.map Qk)),(616,.arr 4 (i.map Qk)),(617,.lp lpl (QaM lpf) (Qd8 (.loc 618 0 0) (.loc 619 0 0) (.loc 620 0 0) (.loc 621 0 0) (.loc 622 0 0) (.loc 623 0 0) (.loc 624 0 0) (.loc 625 0 0)) 0),(618,.var (Qd l)),(619,.var (Qu m)),(620,.var (Qe p)),(621,.var (Qe s)),(622,.var [.own 615 j.length]),(623,.var (QX t)),(624,.var (QX u)),(625,.var [.own 616 i.length]),(626,.var (Qh k)),(627,.var (Qd f))]⟩) ?_ ?_
   ·replace h:=a0
    refine tg_ hC [.K [0,1,2,4,5] [9,615,616,617,618,619,620,621,622,623,624,625,626,627]] rfl ?_
    rcases Qt h with⟨y,h⟩|⟨y,h⟩
    ·obtain⟨a6,D,h⟩:=Qb h
     obtain⟨a7,a1,h⟩:=Qb h
     obtain⟨a8,a2,h⟩:=Qb h
     refine AK.draw2 Qs hC mixed [.N,.N,.a .no (some ([],.b true)) false,.N,.N,.N,.a (.row (Qe a6)) none false,.N,.N,.N,.N,.N,.N,.a (.row (QR a7)) none false,.N,.N,.a (.c false [.d,.d] (.I a8)) none false,.N,.N] [] [] [0,1,2,4,5,36] [9,615,616,617,618,619,620,621,622,623,624,625,626,627] rfl rfl rfl ⟨⟨⟨⟨(tc_ y),(Qda D rfl)⟩,(QbX (QdK D).2)⟩,(QT a1)⟩,(Qit _ _ a2)⟩ rfl (by kernel_rfl) rfl rfl rfl ?_
     refine tg_ hC [.K [0,1,2,4,5,36] [9,615,616,617,618,619,620,621,622,623,624,625,626,627]] rfl ?_
     cases h
     exact AK.met rfl
    refine AK.draw2 Qs hC mixed [.N,.N,.a .no (some ([],.b false)) false,.N,.N,.N,.N,.N,.N,.N,.N,.N,.N,.N,.N,.N,.N,.N,.N] [] [] [0,1,2,4,5,36] [9,615,616,617,618,619,620,621,622,623,624,625,626,627] rfl rfl rfl (tc_ y) rfl (by kernel_rfl) rfl rfl rfl ?_
    refine tg_ hC [.K [0,1,2,4,5,36] [9,615,616,617,618,619,620,621,622,623,624,625,626,627]] rfl ?_
    cases h
    exact AK.met rfl
   rintro σ rfl
   replace h:Qfz w at_25 L=some o:=h
   refine tg_ hC [.n 1] rfl ?_
   rcases Qt h with⟨z,h⟩|⟨z,h⟩
   ·obtain⟨a9,E,h⟩:=Qb h
    refine Qa hC [.T,.n 8,.st (Qe a9) ((w.set at_25.toNat 0).map Qe),.n 8,.S 4 (.own 9 (w.set at_25.toNat 0).length),.K [0,1,2,4,5] [9,615,616,617,618,619,620,621,622,623,624,625,626,627]] rfl ⟨⟨⟨⟨tt_,z⟩,(Qda E rfl)⟩,⟨(QbX (QdK E).2),Qmp rfl⟩⟩,(congrArg (fun n=>V.own 9 n) (by simp))⟩ ?_
    cases h
    exact Q6 rfl rfl
   refine Qa hC [.F,.n 2,.K [0,1,2,4,5] [9,615,616,617,618,619,620,621,622,623,624,625,626,627]] rfl ⟨tt_,z⟩ ?_
   cases h
   exact Q8 rfl (an_ rfl rfl)
  obtain⟨at_29,O⟩:=a5
  replace h:QfA i at_29 O=some o:=h
  rintro e σ ⟨rfl,rfl⟩
  refine tg_ hC [.n 9] rfl ?_
  rcases Qt h with⟨A,h⟩|⟨A,h⟩
  ·refine Qa hC [.T,.n 3,.K [] [615,616,617,618,619,620,621,622,623,624,625,626,627]] rfl ⟨tt_,A⟩ ?_
   cases h
   exact Qav rfl (an_ rfl rfl)
  obtain⟨P,G,h⟩:=Qb h
  obtain⟨b0,H,h⟩:=Qb h
  refine Qa hC [.F,.n 6,.o (.row (Qe P)),.n 2,.st (Qe b0) ((O.set at_29.toNat (w64 (P+1))).map Qe),.n 2,.S 4 (.own 9 (O.set at_29.toNat (w64 (P+1))).length),.K [0,1,2,4] [9,615,616,617,618,619,620,621,622,623,624,625,626,627]] rfl ⟨⟨⟨⟨⟨⟨tt_,A⟩,(Qda G rfl)⟩,(QbX (QdK G).2)⟩,(Qda H rfl)⟩,⟨(QbX (QdK H).2),Qmp rfl⟩⟩,(congrArg (fun n=>V.own 9 n) (by simp))⟩ ?_
  cases h
  exact Q6 rfl rfl
 rcases a3 with(b1 | b2)
 ·replace h:QmL b1=some r:=h
  rintro e σ ⟨rfl,rfl⟩
  refine tg_ hC [.n 1,.K [] [615,616,617,618,619,620,621,622,623,624,625,626,627]] rfl ?_
  cases h
  refine AK.done ?_
  exact ex_ [] (an_ tt_ (gives ⟨rfl,rfl,rfl,rfl,rfl,rfl,rfl,rfl,rfl,rfl,rfl,rfl,rfl,tt_⟩))
 replace h:QmM b2=some r:=h
 rintro e σ ⟨rfl,rfl⟩
 refine tg_ hC [.n 1,.K [] [615,616,617,618,619,620,621,622,623,624,625,626,627]] rfl ?_
 cases h
 refine AK.done ?_
 exact ex_ [] (an_ tt_ (gives ⟨rfl,rfl,rfl,rfl,rfl,rfl,rfl,rfl,rfl,rfl,rfl,rfl,rfl,tt_⟩))
def QqC (a:(List Qm)):Option (List Qm):=
 some a
def QqD (a:(List Qm)):Option (List Qm):=
 some a
def QhS (e:Qj)(h:QMk)(a:Int)(b:Int):Option (List Qm):=
 bif ((decide (a<0))||((decide ((e.Tasks.length:Int)≤a))||(decide (b<1))))then
 some ([]:List Qm)
 else
 (idx e.Tasks a).bind fun c=>
 (Qcg c.Join (c.Ins.length:Int)).bind fun f=>
 (Qcg c.Split (c.Outs.length:Int)).bind fun g=>
 (Qqv e c).bind fun d=>
 (Qho e h a b ([]:List Qm) f g ([]:List Qm) d.2 d.1).bind (Sum.elim (fun q=>QqC q) (fun q=>QqD q))
theorem Qwv (j x c e){r}(h:QhS j x c e=some r):Qc prog 65 [.agg (Qd j),.sl 1 (x.map Qi),.I c,.I e] [] (Gives (.sl 4 (r.map Qk)) []):=by
 refine Qc.walkR 109 func65 rfl ntmps65 rfl fun C hC hR=>?_
 unfold QhS at h
 refine tg_ hC [.n 11] rfl ?_
 refine AK.meetX (fun σ=>σ=⟨[(4,.loc 4 0 0),(5,.loc 5 0 0),(6,.loc 6 0 0),(7,.loc 7 0 0),(8,.loc 8 0 0),(33,.b ((decide (c<0))||((decide ((j.Tasks.length:Int)≤c))||(decide (e<1)))))],[(4,.var (Qd j)),(5,.var (Qu x)),(6,.var (Qe c)),(7,.var (Qe e)),(8,.var [.lit (.slice none 0 0)])]⟩) ?_ ?_
 ·refine tg_ hC [.n 4] rfl ?_
  rcases Q7 (decide (c<0))with f | f
  ·refine Qa hC [.S 23 (.b true),.n 11,.S 33 (.b ((decide (c<0))||((decide ((j.Tasks.length:Int)≤c))||(decide (e<1))))),.K [4,5,6,7,8,33] [4,5,6,7,8]] rfl ⟨(tc_ f),(congrArg V.b (orT f rfl))⟩ ?_
   exact AK.met rfl
  refine Qa hC [.S 23 (.b false),.n 3,.o (.ln j.Tasks.length),.n 3] rfl ⟨(tc_ f),Qf⟩ ?_
  rcases Q7 (decide ((j.Tasks.length:Int)≤c))with k | k
  ·refine Qa hC [.S 30 (.b true),.n 4,.S 33 (.b ((decide (c<0))||((decide ((j.Tasks.length:Int)≤c))||(decide (e<1))))),.K [4,5,6,7,8,33] [4,5,6,7,8]] rfl ⟨(tc_ k),(congrArg V.b (orF f (orT k rfl)))⟩ ?_
   exact AK.met rfl
  refine Qa hC [.S 30 (.b false),.n 4,.S 33 (.b ((decide (c<0))||((decide ((j.Tasks.length:Int)≤c))||(decide (e<1))))),.K [4,5,6,7,8,33] [4,5,6,7,8]] rfl ⟨(tc_ k),(congrArg V.b (orF f (orF k rfl)))⟩ ?_
  exact AK.met rfl
 rintro σ rfl
 refine tg_ hC [.n 1] rfl ?_
 rcases Qt h with⟨l,h⟩|⟨l,h⟩
 ·refine Qa hC [.T,.n 3,.O 8 (.var [.lit (.slice none 0 0)]),.n 4,.denilO 8 [some 4],.O 8 (.var (QAw ([]:List Qm))),.K [8] [8]] rfl ⟨⟨⟨tt_,l⟩,rfl⟩,rfl⟩ ?_
  cases h
  exact AK.done (ex_ [_] (an_ (an_ (ex_ _ (ex_ _ (an_ rfl (an_ rfl (Or.inr (an_ (Qs.ag rfl) rfl)))))) tt_) (gives tt_)))
 obtain⟨g,y,h⟩:=Qb h
 obtain⟨p,z,h⟩:=Qb h
 obtain⟨q,A,h⟩:=Qb h
 refine Qa hC [.F,.n 7,.o (.row (Qh g)),.v .no [] (.agg (Qh g)),.n 2,.O 9 (.var (Qh g)),.n 3,.K [4,5,6,7,8,9] [4,5,6,7,8,9]] rfl ⟨⟨⟨⟨tt_,l⟩,(QT y)⟩,rfl⟩,rfl⟩ ?_
 refine AK.draw2 Qs hC mixed [.N,.N,.N,.N,.a (.ln g.Ins.length) none false,.a (.cd false [.d,.d] 1 (p.map QK) p.length) none false,.N,.N,.N,.N,.a (.ln g.Outs.length) none false,.a (.cd false [.d,.d] 1 (q.map QK) q.length) none false,.N,.N,.m .s,.m .s] [] [] [4,5,6,7,8,9,10,11] [4,5,6,7,8,9,10,11] rfl rfl rfl ⟨⟨⟨⟨tt_,Qf⟩,⟨(Qlc _ _ z),Qf⟩⟩,Qf⟩,⟨(Qlc _ _ A),Qf⟩⟩ rfl (by kernel_rfl) rfl rfl rfl ?_
 obtain⟨i,B,h⟩:=Qb h
 refine Qa hC [.O 10 (.var (QX p)),.O 11 (.var (QX q)),.n 9,.v .no [] (.agg (Qd j)),.v .no [] (.agg (Qh g)),.cm (.fn) [] [(53,2),(610,3)] [] [.d,.d] [(2,.var (Qd i.1)),(3,.var (Qh i.2))] (.clo (.func 152) [] [.loc 3 0 0,.loc 2 0 0]),.n 3,.K [4,5,6,7,8,10,11,12,53] [4,5,6,7,8,10,11,12,53,610]] rfl ⟨⟨⟨⟨⟨tt_,rfl⟩,rfl⟩,rfl⟩,rfl⟩,(QtT _ _ B)⟩ ?_
 obtain⟨D,w,h⟩:=Qb h
 refine Qa hC [.adoptO 8 0 606 4,.O 606 (.arr 4 (([]:List Qm).map Qk)),.O 8 (.var [.own 606 ([]:List Qm).length]),.adoptO 12 0 607 4,.O 607 (.arr 4 (([]:List Qm).map Qk)),.O 12 (.var [.own 607 ([]:List Qm).length])] rfl ⟨⟨⟨⟨tt_,rfl⟩,rfl⟩,rfl⟩,rfl⟩ ?_
 rcases D with(t | u)
 ·replace h:QqC t=some r:=h
  refine AK.rangeF 614 [4,5,6,7,8,10,11,12] [(617,614),(618,4),(619,5),(620,6),(621,7),(622,8),(615,606),(623,10),(624,11),(625,12),(616,607),(626,610),(627,53)] [(606,615),(607,616),(614,617),(4,618),(5,619),(6,620),(7,621),(8,622),(10,623),(11,624),(12,625),(610,626),(53,627)] [606,607] [.d,.d,.d] QaM hC hR (fun _=>rfl) rfl rfl rfl rfl fun lpl lpf=>?_
  refine ex_ [(615,.arr 4 (([]:List Qm).map Qk)),(616,.arr 4 (t.map Qk)),(617,.lp lpl (QaM lpf) (Qd8 (.loc 618 0 0) (.loc 619 0 0) (.loc 620 0 0) (.loc 621 0 0) (.loc 622 0 0) (.loc 623 0 0) (.loc 624 0 0) (.loc 625 0 0)) 0),(618,.var (Qd j)),(619,.var (Qu x)),(620,.var (Qe c)),(621,.var (Qe e)),(622,.var [.own 615 ([]:List Qm).length]),(623,.var (QX p)),(624,.var (QX q)),(625,.var [.own 616 t.length]),(626,.var (Qh i.2)),(627,.var (Qd i.1))] (ex_ (.tup []) (ex_ _ (ex_ _ (ex_ (Qd8 (.loc 4 0 0) (.loc 5 0 0) (.loc 6 0 0) (.loc 7 0 0) (.loc 8 0 0) (.loc 10 0 0) (.loc 11 0 0) (.loc 12 0 0)) (ex_ 0 (an_ rfl ?_))))))
  refine an_ (QmN _ _ _ _ _ _ _ _ _ _ _ _ w) (an_ rfl (an_ (bne_iff_ne.1 (show(0 != 1)=true from rfl)) ?_))
  refine QD8 rfl ?_
  refine Qa hC [.n 6,.O 8 (.var [.own 607 t.length]),.n 3,.frz 607 (t.map Qk) [] [8],.K [8] [8]] rfl ⟨⟨tt_,rfl⟩,⟨tt_,⟨(QbQ Qf),tt_⟩⟩⟩ ?_
  cases h
  exact AK.done (ex_ [_] (an_ (an_ (ex_ _ (ex_ _ (an_ rfl (an_ rfl (Or.inr (an_ (Qs.ag rfl) rfl)))))) tt_) (gives tt_)))
 replace h:QqD u=some r:=h
 refine AK.rangeF 614 [4,5,6,7,8,10,11,12] [(617,614),(618,4),(619,5),(620,6),(621,7),(622,8),(615,606),(623,10),(624,11),(625,12),(616,607),(626,610),(627,53)] [(606,615),(607,616),(614,617),(4,618),(5,619),(6,620),(7,621),(8,622),(10,623),(11,624),(12,625),(610,626),(53,627)] [606,607] [.d,.d,.d] QaM hC hR (fun _=>rfl) rfl rfl rfl rfl fun lpl lpf=>?_
 refine ex_ [(615,.arr 4 (([]:List Qm).map Qk)),(616,.arr 4 (u.map Qk)),(617,.lp lpl (QaM lpf) (Qd8 (.loc 618 0 0) (.loc 619 0 0) (.loc 620 0 0) (.loc 621 0 0) (.loc 622 0 0) (.loc 623 0 0) (.loc 624 0 0) (.loc 625 0 0)) 2),(618,.var (Qd j)),(619,.var (Qu x)),(620,.var (Qe c)),(621,.var (Qe e)),(622,.var [.own 616 u.length]),(623,.var (QX p)),(624,.var (QX q)),(625,.var [.own 616 u.length]),(626,.var (Qh i.2)),(627,.var (Qd i.1))] (ex_ (.tup []) (ex_ _ (ex_ _ (ex_ (Qd8 (.loc 4 0 0) (.loc 5 0 0) (.loc 6 0 0) (.loc 7 0 0) (.loc 8 0 0) (.loc 10 0 0) (.loc 11 0 0) (.loc 12 0 0)) (ex_ 2 (an_ rfl ?_))))))
 refine an_ (QmN _ _ _ _ _ _ _ _ _ _ _ _ w) (an_ rfl (an_ (bne_iff_ne.1 (show(2 != 1)=true from rfl)) ?_))
 refine QFv rfl ?_
 refine Qa hC [.n 3,.frz 607 (u.map Qk) [] [8],.K [8] [8]] rfl ⟨tt_,⟨tt_,⟨(QbQ Qf),tt_⟩⟩⟩ ?_
 cases h
 exact AK.done (ex_ [_] (an_ (an_ (ex_ _ (ex_ _ (an_ rfl (an_ rfl (Or.inr (an_ (Qs.ag rfl) rfl)))))) tt_) (gives tt_)))
def QlH (e:Qj)(f:QMk)(a:Int)(d:Int)(c:(List Qm)):Option ((Int×(List Qm))⊕(List Qm)):=
 bif (decide (d<(e.Tasks.length:Int)))then
 (QhS e f d (w64 (a-(c.length:Int)))).bind fun b=>
 (chk (decide (c.length+b.length≤4294967296))).bind fun _=>
 some (.inl ((w64 (d+1)),(c++b)))
 else
 some (.inr c)
def Qs0 (a:(List Qm)):Option (List Qm):=
 some a
def QkH (b:Qj)(c:QMk)(a:Int):Option (List Qm):=
 (QJ (fun st=>QlH b c a st.1 st.2) (0,([]:List Qm))).bind (fun q=>Qs0 q)
theorem Qs1 (f l a){r}(h:QkH f l a=some r):Qc prog 36 [.agg (Qd f),.sl 1 (l.map Qi),.I a] [] (Gives (.own 600 r.length) [(600,.arr 4 (r.map Qk))]):=by
 refine Qc.walk 27 func36 rfl rfl rfl fun C hC=>?_
 refine Qa hC [.n 16,.o (.ln f.Tasks.length),.n 4,.adopt 7 15 4,.O 15 (.arr 4 (([]:List Qm).map Qk)),.S 7 (.own 15 ([]:List Qm).length),.K [1,2,3,7,11,12] [3,15]] rfl ⟨⟨⟨tt_,Qf⟩,rfl⟩,(congrArg (fun n=>V.own 15 n) (by simp))⟩ ?_
 obtain⟨m,i,h⟩:=Qb h
 refine AK.loop (body:=(fun st=>QlH f l a st.1 st.2)) (fun st σ=>σ=⟨[(1,.sl 1 (l.map Qi)),(2,.I a),(3,.loc 3 0 0),(7,.own 15 st.2.length),(11,.I (f.Tasks.length:Int)),(12,.I st.1)],[(3,.var (Qd f)),(15,.arr 4 (st.2.map Qk))]⟩) (fun q e σ=>e=.exit 0∧σ=⟨[(7,.own 15 q.length)],[(15,.arr 4 (q.map Qk))]⟩) i rfl ?_ ?_
 ·rintro ⟨s,p⟩ o σ rfl h
  refine tg_ hC [.n 6] rfl ?_
  rcases Qt h with⟨b,h⟩|⟨b,h⟩
  ·obtain⟨g,j,h⟩:=Qb h
   obtain⟨k,h⟩:=QaW h
   refine Qa hC [.T,.n 12,.v .no [] (.agg (Qd f)),.n 6,.o (.c false [.d,.d,.d,.d] (.sl 4 (g.map Qk))),.app ((p++g).map Qk) (p++g).length,.n 8,.K [1,2,3,7,11,12] [3,15]] rfl ⟨⟨⟨⟨tt_,b⟩,rfl⟩,(Qwv _ _ _ _ j)⟩,⟨Qf,QbP k Qf,QaY,QcN Qf⟩⟩ ?_
   cases h
   exact Q6 rfl rfl
  refine Qa hC [.F,.n 2,.K [7] [15]] rfl ⟨tt_,b⟩ ?_
  cases h
  exact Q8 rfl (an_ rfl rfl)
 replace h:Qs0 m=some r:=h
 rintro e σ ⟨rfl,rfl⟩
 refine tg_ hC [.n 9,.K [6] [15],.ren 15 600] rfl ?_
 cases h
 exact d1_ rfl rfl ⟨rfl,tt_⟩

end Go.Proofs
