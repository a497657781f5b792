/- What functions of the program do, as functions over plain data, and the walks that show it: printed by a program. -/
import Derived.Test.YtidpjdkldadlpaaGreatDoorM1V3
import Derived.Test.YtidpjdkldadlpaaGreatDoorProg
set_option linter.unusedVariables false
set_option linter.unusedSimpArgs false
set_option linter.unusedSectionVars false
set_option linter.deprecated false
set_option maxRecDepth 100000
set_option maxHeartbeats 4000000
noncomputable section
namespace Go.Proofs
open Go Go.RowKit Go.Vm Go.Proofs.Tryz
structure QI where
 Name:ByteArray
 Kind:Int
 Lo:Int
 Hi:Int
 Names:(List ByteArray)
 First:Int
 Then:Int
structure QN where
 Name:ByteArray
 Colour:Int
 First:(List (Int×Int))
structure QaQ where
 Name:ByteArray
 Colour:Int
structure Qo where
 Kind:Int
 Num:Int
 Kids:(List Qo)
structure Qax where
 Place:Int
 Expr:Qo
structure QB where
 Name:ByteArray
 Vars:(List QaQ)
 Guard:Qo
 Join:Int
 Split:Int
 Ins:(List Qax)
 Outs:(List Qax)
 Cancel:(List Int)
 After:Int
 Many:(Int×Int×Int)
structure Qj where
 Colours:(List QI)
 Places:(List QN)
 Tasks:(List QB)
 From:Int
 To:Int
structure Qm where
 Task:Int
 Vars:(List Int)
 Ins:(List Int)
 Outs:(List Int)
structure Qaa where
 From:Int
 To:Int
 Mode:Qm
structure Qaj where
 States:(List (List (List (Int×Int))))
 Edges:(List Qaa)
 Full:Bool
structure QX where
 net:Qj
 m:(List (List (Int×Int)))
 task:QB
 env:(List Int)
structure QaY where
 all:(List QI)
 sizes:(List Int)
 k:Int
structure Qe0 where
 Kind:Int
 At:Int
def Qea (x:ByteArray):List V:=[.s x]
def Qe (x:Int):List V:=[.i .i64 x]
theorem QAX (l:List Int):∀r∈l.map Qe,∀v∈r,v.sca=true:=QCX (fun _=>rfl) l
def QAY (x:(List ByteArray)):List V:=[.sl 1 (x.map Qea)]
def Qu (x:QI):List V:=[.s x.Name,.i .i64 x.Kind,.i .i64 x.Lo,.i .i64 x.Hi,.sl 1 (x.Names.map Qea),.i .i64 x.First,.i .i64 x.Then]
def QtG (x:(List QI)):List V:=[.sl 7 (x.map Qu)]
def QJ (x:(Int×Int)):List V:=[.i .i64 x.1,.i .i64 x.2]
def Qi (x:(List (Int×Int))):List V:=[.sl 2 (x.map QJ)]
def Qp (x:QN):List V:=[.s x.Name,.i .i64 x.Colour,.sl 2 (x.First.map QJ)]
def Qvc (x:(List QN)):List V:=[.sl 3 (x.map Qp)]
def QS (x:QaQ):List V:=[.s x.Name,.i .i64 x.Colour]
def Qci (x:(List QaQ)):List V:=[.sl 2 (x.map QS)]
mutual
def Qsu : Qo→List V
 | ⟨x0,x1,x2⟩=>[.i .i64 x0,.i .i64 x1,.sl 3 (Qbp x2)]
def Qbp : List Qo→List (List V)
 | []=>[]
 | e::es=>Qsu e::Qbp es
end
def Qr (x:Qo):List V:=[.i .i64 x.Kind,.i .i64 x.Num,.sl 3 (Qbp x.Kids)]
theorem QxS : ∀x:Qo,Qsu x=Qr x
 | ⟨x0,x1,x2⟩=>by rw [Qsu];rfl
theorem Qkq : ∀l:List Qo,Qbp l=l.map Qr
 | []=>by rw [Qbp];rfl
 | e::es=>by rw [Qbp,Qkq es,QxS];rfl
theorem Qkr (l:List Qo):(Qbp l).length=l.length:=by rw [Qkq,Qhf]
theorem QeG {l:List Qo}{j:Int}{x:Qo}(h:idx l j=some x):0≤j∧(Qbp l)[j.toNat]? = some (Qr x):=by rw [Qkq];exact QT h
def Q4 (x:Qax):List V:=[.i .i64 x.Place,.i .i64 x.Expr.Kind,.i .i64 x.Expr.Num,.sl 3 (Qbp x.Expr.Kids)]
def QAZ (x:(List Qax)):List V:=[.sl 4 (x.map Q4)]
def QL (x:(List Int)):List V:=[.sl 1 (x.map Qe)]
def Qw4 (x:(Int×Int×Int)):List V:=[.i .i64 x.1,.i .i64 x.2.1,.i .i64 x.2.2]
def Qh (x:QB):List V:=[.s x.Name,.sl 2 (x.Vars.map QS),.i .i64 x.Guard.Kind,.i .i64 x.Guard.Num,.sl 3 (Qbp x.Guard.Kids),.i .i64 x.Join,.i .i64 x.Split,.sl 4 (x.Ins.map Q4),.sl 4 (x.Outs.map Q4),.sl 1 (x.Cancel.map Qe),.i .i64 x.After,.i .i64 x.Many.1,.i .i64 x.Many.2.1,.i .i64 x.Many.2.2]
def Qz3 (x:(List QB)):List V:=[.sl 14 (x.map Qh)]
def Qd (x:Qj):List V:=[.sl 7 (x.Colours.map Qu),.sl 3 (x.Places.map Qp),.sl 14 (x.Tasks.map Qh),.i .i64 x.From,.i .i64 x.To]
def Qt (x:(List (List (Int×Int)))):List V:=[.sl 1 (x.map Qi)]
def Qk (x:Qm):List V:=[.i .i64 x.Task,.sl 1 (x.Vars.map Qe),.sl 1 (x.Ins.map Qe),.sl 1 (x.Outs.map Qe)]
def QU (x:Qaa):List V:=[.i .i64 x.From,.i .i64 x.To,.i .i64 x.Mode.Task,.sl 1 (x.Mode.Vars.map Qe),.sl 1 (x.Mode.Ins.map Qe),.sl 1 (x.Mode.Outs.map Qe)]
def QH (x:Qaj):List V:=[.sl 1 (x.States.map Qt),.sl 6 (x.Edges.map QU),.b x.Full]
def QaW (x:Int):List V:=[.i .u8 x]
def QZ (x:(List (List Int))):List V:=[.sl 1 (x.map QL)]
def Qz (x:QX):List V:=[.sl 7 (x.net.Colours.map Qu),.sl 3 (x.net.Places.map Qp),.sl 14 (x.net.Tasks.map Qh),.i .i64 x.net.From,.i .i64 x.net.To,.sl 1 (x.m.map Qi),.s x.task.Name,.sl 2 (x.task.Vars.map QS),.i .i64 x.task.Guard.Kind,.i .i64 x.task.Guard.Num,.sl 3 (Qbp x.task.Guard.Kids),.i .i64 x.task.Join,.i .i64 x.task.Split,.sl 4 (x.task.Ins.map Q4),.sl 4 (x.task.Outs.map Q4),.sl 1 (x.task.Cancel.map Qe),.i .i64 x.task.After,.i .i64 x.task.Many.1,.i .i64 x.task.Many.2.1,.i .i64 x.task.Many.2.2,.sl 1 (x.env.map Qe)]
def Q8 (x:QaY):List V:=[.sl 7 (x.all.map Qu),.sl 1 (x.sizes.map Qe),.i .i64 x.k]
def Qz4 (x:(List Qm)):List V:=[.sl 4 (x.map Qk)]
def Qdq (x:Qe0):List V:=[.i .i64 x.Kind,.i .i64 x.At]
def Qf1 (fn:Nat):Qhg:=QDw Tryz.f218 0 fn
def QaP (fn:Nat):Qhg:=QDw Tryz.f65 0 fn
def QB8 : Go.Shelf.Ren:=⟨fun | 20=>49 | n=>n,fun | 0=>0 | 3=>3 | 4=>4 | 22=>39 | n=>n,fun n=>n⟩
theorem QA0 : Lays2.n20 Tryz.prog QB8 where
 mixed:=by kernel_rfl
 f20:=Tryz.func49.trans (congrArg some (by kernel_rfl))
 t0:=Tryz.underlying0
 a0:=Tryz.isAgg0
 z0:=Tryz.sizeOf0
 v0:=Tryz.zeroValue0
 t3:=Tryz.underlying3
 a3:=Tryz.isAgg3
 z3:=Tryz.sizeOf3
 v3:=Tryz.zeroValue3
 t4:=Tryz.underlying4
 a4:=Tryz.isAgg4
 z4:=Tryz.sizeOf4
 v4:=Tryz.zeroValue4
 t22:=Tryz.underlying39
 a22:=Tryz.isAgg39
 z22:=Tryz.sizeOf39
 v22:=Tryz.zeroValue39
 i3:=by kernel_rfl
theorem QDB (a0 a1 a2 b0 b1 b2:Int):EqT Tryz.prog 101 [.int .i64 a0,.int .i64 a1,.int .i64 a2] [.int .i64 b0,.int .i64 b1,.int .i64 b2] ((a0==b0)&&((a1==b1)&&(a2==b2))):=by
 refine⟨by kernel_rfl,fun w=>?_⟩
 have u3:=Tryz.underlying3
 have g3:=Tryz.isAgg3
 have z3:=Tryz.sizeOf3
 show(Op.equalIn (9999+1) 101 (.agg #[.int .i64 a0,.int .i64 a1,.int .i64 a2]) (.agg #[.int .i64 b0,.int .i64 b1,.int .i64 b2])).run Tryz.prog w=_
 rw [Op.equalIn]
 simp only [Sem.run_bind,run_underlying Tryz.underlying101,Result.andThen_ok]
 simp only [Std.Legacy.Range.forIn_eq_forIn_range',Std.Legacy.Range.size,Nat.sub_zero,Nat.add_sub_cancel,Nat.div_one,List.range'_succ,List.range'_zero,List.forIn_cons,List.forIn_nil]
 go_simp
 by_cases h0:a0=b0<;>by_cases h1:a1=b1<;>by_cases h2:a2=b2<;>simp [h0,h1,h2]
theorem QEd (a0 a1 b0 b1:Int):EqT Tryz.prog 59 [.int .i64 a0,.int .i64 a1] [.int .i64 b0,.int .i64 b1] ((a0==b0)&&(a1==b1)):=by
 refine⟨by kernel_rfl,fun w=>?_⟩
 have u3:=Tryz.underlying3
 have g3:=Tryz.isAgg3
 have z3:=Tryz.sizeOf3
 show(Op.equalIn (9999+1) 59 (.agg #[.int .i64 a0,.int .i64 a1]) (.agg #[.int .i64 b0,.int .i64 b1])).run Tryz.prog w=_
 rw [Op.equalIn]
 simp only [Sem.run_bind,run_underlying Tryz.underlying59,Result.andThen_ok]
 simp only [Std.Legacy.Range.forIn_eq_forIn_range',Std.Legacy.Range.size,Nat.sub_zero,Nat.add_sub_cancel,Nat.div_one,List.range'_succ,List.range'_zero,List.forIn_cons,List.forIn_nil]
 go_simp
 by_cases h0:a0=b0<;>by_cases h1:a1=b1<;>simp [h0,h1]
theorem QC0 : QtF Tryz.prog 96 1=some (1,false,1):=by kernel_rfl
theorem QC1 : QtF Tryz.prog 96 2=some (2,false,1):=by kernel_rfl
def QB9 : Go.Shelf.Ren:=⟨fun | 157=>274 | 199=>288 | 229=>287 | 261=>294 | 311=>297 | 312=>298 | n=>n,fun | 0=>0 | 3=>3 | 4=>4 | 5=>5 | 9=>9 | 21=>21 | 31=>94 | 40=>275 | 46=>125 | 49=>292 | 51=>175 | 119=>273 | 141=>284 | 152=>280 | 154=>282 | 193=>288 | 194=>289 | 196=>291 | 198=>294 | 201=>297 | 226=>299 | 227=>300 | n=>n,fun | 0=>0 | 6=>1 | n=>n⟩
theorem QA1 : Lays.n157 Tryz.prog QB9 where
 mixed:=by kernel_rfl
 f157:=Tryz.func274.trans (congrArg some (by kernel_rfl))
 f199:=Tryz.func288.trans (congrArg some (by kernel_rfl))
 f229:=Tryz.func287.trans (congrArg some (by kernel_rfl))
 f261:=Tryz.func294.trans (congrArg some (by kernel_rfl))
 f311:=Tryz.func297.trans (congrArg some (by kernel_rfl))
 f312:=Tryz.func298.trans (congrArg some (by kernel_rfl))
 t0:=Tryz.underlying0
 a0:=Tryz.isAgg0
 z0:=Tryz.sizeOf0
 v0:=Tryz.zeroValue0
 t3:=Tryz.underlying3
 a3:=Tryz.isAgg3
 z3:=Tryz.sizeOf3
 v3:=Tryz.zeroValue3
 t4:=Tryz.underlying4
 a4:=Tryz.isAgg4
 z4:=Tryz.sizeOf4
 v4:=Tryz.zeroValue4
 t5:=Tryz.underlying5
 a5:=Tryz.isAgg5
 z5:=Tryz.sizeOf5
 v5:=Tryz.zeroValue5
 t9:=Tryz.underlying9
 a9:=Tryz.isAgg9
 z9:=Tryz.sizeOf9
 v9:=Tryz.zeroValue9
 t21:=Tryz.underlying21
 a21:=Tryz.isAgg21
 z21:=Tryz.sizeOf21
 v21:=Tryz.zeroValue21
 t31:=Tryz.underlying94
 a31:=Tryz.isAgg94
 z31:=Tryz.sizeOf94
 v31:=Tryz.zeroValue94
 t40:=Tryz.underlying275
 a40:=Tryz.isAgg275
 z40:=Tryz.sizeOf275
 v40:=Tryz.zeroValue275
 t46:=Tryz.underlying125
 a46:=Tryz.isAgg125
 z46:=Tryz.sizeOf125
 v46:=Tryz.zeroValue125
 t49:=Tryz.underlying292
 a49:=Tryz.isAgg292
 z49:=Tryz.sizeOf292
 v49:=Tryz.zeroValue292
 t51:=Tryz.underlying175
 a51:=Tryz.isAgg175
 z51:=Tryz.sizeOf175
 v51:=Tryz.zeroValue175
 t119:=Tryz.underlying273
 a119:=Tryz.isAgg273
 z119:=Tryz.sizeOf273
 t141:=Tryz.underlying284
 a141:=Tryz.isAgg284
 z141:=Tryz.sizeOf284
 v141:=Tryz.zeroValue284
 t152:=Tryz.underlying280
 a152:=Tryz.isAgg280
 z152:=Tryz.sizeOf280
 v152:=Tryz.zeroValue280
 t154:=Tryz.underlying282
 a154:=Tryz.isAgg282
 z154:=Tryz.sizeOf282
 v154:=Tryz.zeroValue282
 t193:=Tryz.underlying288
 a193:=Tryz.isAgg288
 z193:=Tryz.sizeOf288
 v193:=Tryz.zeroValue288
 t194:=Tryz.underlying289
 a194:=Tryz.isAgg289
 z194:=Tryz.sizeOf289
 v194:=Tryz.zeroValue289
 t196:=Tryz.underlying291
 a196:=Tryz.isAgg291
 z196:=Tryz.sizeOf291
 v196:=Tryz.zeroValue291
 t198:=Tryz.underlying294
 a198:=Tryz.isAgg294
 z198:=Tryz.sizeOf294
 v198:=Tryz.zeroValue294
 t201:=Tryz.underlying297
 a201:=Tryz.isAgg297
 z201:=Tryz.sizeOf297
 v201:=Tryz.zeroValue297
 t226:=Tryz.underlying299
 a226:=Tryz.isAgg299
 z226:=Tryz.sizeOf299
 v226:=Tryz.zeroValue299
 t227:=Tryz.underlying300
 a227:=Tryz.isAgg300
 z227:=Tryz.sizeOf300
 v227:=Tryz.zeroValue300
 g0:=by kernel_rfl
 g6:=by kernel_rfl
theorem QtH : QtE Tryz.prog 177 .u64=true:=by kernel_rfl
theorem Qvn : QtE Tryz.prog 3 .i64=true:=by kernel_rfl
theorem Qz5 : QtE Tryz.prog 5 .u8=true:=by kernel_rfl
theorem Qdj : Qdv Tryz.prog 3 (V.i .i64) (Value.int .i64):=Qdv.int (by kernel_rfl)
theorem Qsv : Qdv Tryz.prog 9 V.s Value.string:=Qdv.str (by kernel_rfl)
theorem mixed : Tryz.prog.follows .mixedOrders=true:=by kernel_rfl
theorem QeS : Qi4 Tryz.prog 118=some (3,3):=by kernel_rfl
theorem QyI : Qi4 Tryz.prog 122=some (3,39):=by kernel_rfl
theorem Qo3 : Qi4 Tryz.prog 197=some (9,4):=by kernel_rfl
theorem Qmp : Qi4 Tryz.prog 71=some (3,3):=by kernel_rfl
theorem QCO : Qi4 Tryz.prog 76=some (9,3):=by kernel_rfl
theorem QEe : QwY Tryz.prog 39=true:=by kernel_rfl
def QCa : Go.Shelf.Ren:=⟨fun | 125=>74 | 128=>120 | 129=>121 | 189=>48 | 215=>163 | 216=>117 | 257=>73 | 294=>111 | 295=>112 | 296=>113 | 297=>114 | 298=>115 | 299=>116 | 300=>118 | 301=>119 | 328=>158 | 329=>159 | 330=>160 | 331=>161 | 332=>162 | 343=>219 | n=>n,fun | 0=>0 | 3=>3 | 4=>4 | 5=>5 | 9=>9 | 28=>39 | 46=>125 | 51=>175 | 53=>177 | 131=>73 | 182=>167 | 183=>168 | 218=>199 | 222=>203 | 228=>235 | 229=>236 | n=>n,fun n=>n⟩
theorem QA2 : Lays.n189 Tryz.prog QCa where
 mixed:=by kernel_rfl
 f125:=Tryz.func74.trans (congrArg some (by kernel_rfl))
 f128:=Tryz.func120.trans (congrArg some (by kernel_rfl))
 f129:=Tryz.func121.trans (congrArg some (by kernel_rfl))
 f189:=Tryz.func48.trans (congrArg some (by kernel_rfl))
 f215:=Tryz.func163.trans (congrArg some (by kernel_rfl))
 f216:=Tryz.func117.trans (congrArg some (by kernel_rfl))
 f257:=Tryz.func73.trans (congrArg some (by kernel_rfl))
 f294:=Tryz.func111.trans (congrArg some (by kernel_rfl))
 f295:=Tryz.func112.trans (congrArg some (by kernel_rfl))
 f296:=Tryz.func113.trans (congrArg some (by kernel_rfl))
 f297:=Tryz.func114.trans (congrArg some (by kernel_rfl))
 f298:=Tryz.func115.trans (congrArg some (by kernel_rfl))
 f299:=Tryz.func116.trans (congrArg some (by kernel_rfl))
 f300:=Tryz.func118.trans (congrArg some (by kernel_rfl))
 f301:=Tryz.func119.trans (congrArg some (by kernel_rfl))
 f328:=Tryz.func158.trans (congrArg some (by kernel_rfl))
 f329:=Tryz.func159.trans (congrArg some (by kernel_rfl))
 f330:=Tryz.func160.trans (congrArg some (by kernel_rfl))
 f331:=Tryz.func161.trans (congrArg some (by kernel_rfl))
 f332:=Tryz.func162.trans (congrArg some (by kernel_rfl))
 f343:=Tryz.func219.trans (congrArg some (by kernel_rfl))
 t0:=Tryz.underlying0
 a0:=Tryz.isAgg0
 z0:=Tryz.sizeOf0
 v0:=Tryz.zeroValue0
 t3:=Tryz.underlying3
 a3:=Tryz.isAgg3
 z3:=Tryz.sizeOf3
 v3:=Tryz.zeroValue3
 t4:=Tryz.underlying4
 a4:=Tryz.isAgg4
 z4:=Tryz.sizeOf4
 v4:=Tryz.zeroValue4
 t5:=Tryz.underlying5
 a5:=Tryz.isAgg5
 z5:=Tryz.sizeOf5
 v5:=Tryz.zeroValue5
 t9:=Tryz.underlying9
 a9:=Tryz.isAgg9
 z9:=Tryz.sizeOf9
 v9:=Tryz.zeroValue9
 t28:=Tryz.underlying39
 a28:=Tryz.isAgg39
 z28:=Tryz.sizeOf39
 v28:=Tryz.zeroValue39
 t46:=Tryz.underlying125
 a46:=Tryz.isAgg125
 z46:=Tryz.sizeOf125
 v46:=Tryz.zeroValue125
 t51:=Tryz.underlying175
 a51:=Tryz.isAgg175
 z51:=Tryz.sizeOf175
 v51:=Tryz.zeroValue175
 t53:=Tryz.underlying177
 a53:=Tryz.isAgg177
 z53:=Tryz.sizeOf177
 v53:=Tryz.zeroValue177
 t131:=Tryz.underlying73
 a131:=Tryz.isAgg73
 z131:=Tryz.sizeOf73
 v131:=Tryz.zeroValue73
 t182:=Tryz.underlying167
 a182:=Tryz.isAgg167
 z182:=Tryz.sizeOf167
 v182:=Tryz.zeroValue167
 t183:=Tryz.underlying168
 a183:=Tryz.isAgg168
 z183:=Tryz.sizeOf168
 v183:=Tryz.zeroValue168
 t218:=Tryz.underlying199
 a218:=Tryz.isAgg199
 z218:=Tryz.sizeOf199
 v218:=Tryz.zeroValue199
 t222:=Tryz.underlying203
 a222:=Tryz.isAgg203
 z222:=Tryz.sizeOf203
 v222:=Tryz.zeroValue203
 t228:=Tryz.underlying235
 a228:=Tryz.isAgg235
 z228:=Tryz.sizeOf235
 v228:=Tryz.zeroValue235
 t229:=Tryz.underlying236
 a229:=Tryz.isAgg236
 z229:=Tryz.sizeOf236
 v229:=Tryz.zeroValue236
theorem QDC : Tryz.prog.underlying 145=some (.slice 39):=by kernel_rfl
theorem QA3 : Tryz.prog.underlying 157=some (.slice 5):=by kernel_rfl
theorem QEf : Tryz.prog.underlying 38=some (.slice 61):=by kernel_rfl
theorem QEg : Tryz.prog.underlying 39=some (.slice 3):=by kernel_rfl
theorem QEh : Tryz.prog.underlying 61=some (.slice 59):=by kernel_rfl
theorem Qk0 : QiO Tryz.prog 3 ((V.i .i64) 0):=QiO.one (v:=.int .i64 0) (by kernel_rfl)
theorem QEi : QiO Tryz.prog 39 ((fun x=>V.sl 1 (x.map Qe)) ([]:(List Int))):=QiO.sl (by kernel_rfl)
theorem QCb : QiO Tryz.prog 4 (V.b false):=QiO.one (v:=.bool false) (by kernel_rfl)
theorem QEN : Qaq Tryz.prog 3=some [.i .i64 0]:=by kernel_rfl
theorem QEO : Qaq Tryz.prog 5=some [.i .u8 0]:=by kernel_rfl
theorem QEP : Qaq Tryz.prog 9=some [.s (⟨#[]⟩:ByteArray)]:=by kernel_rfl
theorem QEj : Qaq Tryz.prog 26=some [.lit (.slice none 0 0),.lit (.slice none 0 0),.lit (.slice none 0 0),.i .i64 0,.i .i64 0]:=by kernel_rfl
theorem QEk : Qaq Tryz.prog 33=some [.lit (.slice none 0 0),.lit (.slice none 0 0),.b false]:=by kernel_rfl
theorem QEl : Qaq Tryz.prog 38=some [.lit (.slice none 0 0)]:=by kernel_rfl
theorem QCP : Qaq Tryz.prog 39=some [.lit (.slice none 0 0)]:=by kernel_rfl
theorem QEm : Qaq Tryz.prog 41=some [.i .i64 0,.lit (.slice none 0 0),.lit (.slice none 0 0),.lit (.slice none 0 0)]:=by kernel_rfl
theorem QEn : Qaq Tryz.prog 43=some [.i .i64 0,.i .i64 0,.i .i64 0,.lit (.slice none 0 0),.lit (.slice none 0 0),.lit (.slice none 0 0)]:=by kernel_rfl
theorem QEo : Qaq Tryz.prog 44=some [.i .i64 0]:=by kernel_rfl
theorem QEp : Qaq Tryz.prog 48=some [.lit (.slice none 0 0)]:=by kernel_rfl
theorem QEq : Qaq Tryz.prog 59=some [.i .i64 0,.i .i64 0]:=by kernel_rfl
theorem QEr : Qaq Tryz.prog 61=some [.lit (.slice none 0 0)]:=by kernel_rfl
theorem QEs : Qaq Tryz.prog 71=some [.lit (.map none)]:=by kernel_rfl
theorem QEt : Qaq Tryz.prog 78=some [.lit (.slice none 0 0),.lit (.slice none 0 0),.lit (.slice none 0 0),.i .i64 0,.i .i64 0,.i .i64 0,.lit (.map none),.lit (.slice none 0 0),.lit (.slice none 0 0),.b false]:=by kernel_rfl
theorem QEu : Qaq Tryz.prog 83=some [.s (⟨#[]⟩:ByteArray),.i .i64 0,.lit (.slice none 0 0)]:=by kernel_rfl
theorem QEv : Qaq Tryz.prog 93=some [.i .i64 0,.i .i64 0,.lit (.slice none 0 0)]:=by kernel_rfl
theorem QEw : Qaq Tryz.prog 96=some [.s (⟨#[]⟩:ByteArray),.i .i64 0,.i .i64 0,.i .i64 0,.lit (.slice none 0 0),.i .i64 0,.i .i64 0]:=by kernel_rfl
theorem QEx : Qaq Tryz.prog 98=some [.i .i64 0,.i .i64 0,.i .i64 0,.lit (.slice none 0 0)]:=by kernel_rfl
theorem QDD : Qaq Tryz.prog 101=some [.i .i64 0,.i .i64 0,.i .i64 0]:=by kernel_rfl
theorem QDE : Qaq Tryz.prog 103=some [.s (⟨#[]⟩:ByteArray),.lit (.slice none 0 0),.i .i64 0,.i .i64 0,.lit (.slice none 0 0),.i .i64 0,.i .i64 0,.lit (.slice none 0 0),.lit (.slice none 0 0),.lit (.slice none 0 0),.i .i64 0,.i .i64 0,.i .i64 0,.i .i64 0]:=by kernel_rfl
theorem QDF : Qaq Tryz.prog 107=some [.s (⟨#[]⟩:ByteArray),.i .i64 0]:=by kernel_rfl
theorem QDG : Qaq Tryz.prog 128=some [.i .i64 0,.i .i64 0]:=by kernel_rfl
theorem QDH : Qaq Tryz.prog 135=some [.lit (.slice none 0 0),.lit (.slice none 0 0),.lit (.slice none 0 0),.i .i64 0,.i .i64 0,.lit (.slice none 0 0),.s (⟨#[]⟩:ByteArray),.lit (.slice none 0 0),.i .i64 0,.i .i64 0,.lit (.slice none 0 0),.i .i64 0,.i .i64 0,.lit (.slice none 0 0),.lit (.slice none 0 0),.lit (.slice none 0 0),.i .i64 0,.i .i64 0,.i .i64 0,.i .i64 0,.lit (.slice none 0 0)]:=by kernel_rfl
theorem QDI : Qaq Tryz.prog 145=some [.lit (.slice none 0 0)]:=by kernel_rfl
theorem QnE : Qaq Tryz.prog 180=some [.lit (.nilFunc),.i .i64 0]:=by kernel_rfl
theorem QDJ : Qaq Tryz.prog 211=some [.lit (.nilFunc)]:=by kernel_rfl
theorem QDK : Qaq Tryz.prog 216=some [.lit (.nilFunc)]:=by kernel_rfl
theorem QDL : Qaq Tryz.prog 225=some [.lit (.slice none 0 0),.lit (.slice none 0 0),.i .i64 0]:=by kernel_rfl
theorem QDM : Qaq Tryz.prog 245=some [.lit (.nilFunc)]:=by kernel_rfl
def tab : Tab:={ ag:=[(3,false),(4,false),(9,false),(22,false),(23,false),(24,false),(26,true),(27,false),(30,false),(31,false),(33,true),(38,false),(39,false),(41,true),(43,true),(44,false),(48,false),(59,true),(61,false),(71,false),(76,false),(83,true),(91,false),(93,true),(94,false),(96,true),(98,true),(99,false),(100,false),(101,true),(103,true),(107,true),(118,false),(128,true),(135,true),(138,false),(145,false),(180,true),(211,false),(216,false),(219,false),(225,true),(245,false)],sz:=[(3,1),(4,1),(26,5),(30,1),(31,1),(33,3),(38,1),(39,1),(41,4),(43,6),(44,1),(48,1),(59,2),(61,1),(71,1),(83,3),(93,3),(96,7),(98,4),(101,3),(103,14),(107,2),(128,2),(135,21),(145,1),(180,2),(211,1),(216,1),(225,3),(245,1)],fo:=[(26,[0,1,2,3,4]),(33,[0,1,2]),(41,[0,1,2,3]),(43,[0,1,2]),(78,[0,5,6,7]),(83,[0,1,2]),(93,[0,1,2]),(96,[0,1,2,3,4,5,6]),(98,[0,1]),(103,[0,1,2,5,6,7,8,9,10,11]),(107,[0,1]),(135,[0,5,6,20]),(180,[0,1]),(225,[0,1,2])],sp:=[(26,[(0,1),(1,1),(2,1),(3,1),(4,1)]),(33,[(0,1),(1,1),(2,1)]),(41,[(0,1),(1,1),(2,1),(3,1)]),(43,[(0,1),(1,1),(2,4)]),(78,[(0,5),(5,1),(6,1),(7,3)]),(83,[(0,1),(1,1),(2,1)]),(93,[(0,1),(1,1),(2,1)]),(96,[(0,1),(1,1),(2,1),(3,1),(4,1),(5,1),(6,1)]),(98,[(0,1),(1,3)]),(103,[(0,1),(1,1),(2,3),(5,1),(6,1),(7,1),(8,1),(9,1),(10,1),(11,3)]),(128,[(0,1),(1,1)]),(135,[(0,5),(5,1),(6,14),(20,1)]),(180,[(0,1),(1,1)]),(225,[(0,1),(1,1),(2,1)])],es:=[(22,(96,7,80)),(23,(83,3,48)),(24,(103,14,200)),(30,(38,1,24)),(31,(43,6,96)),(38,(61,1,24)),(39,(3,1,8)),(48,(41,4,80)),(61,(59,2,16)),(91,(93,3,40)),(94,(9,1,16)),(99,(98,4,48)),(100,(107,2,24)),(145,(39,1,24)),(157,(5,1,1)),(205,(180,2,16)),(230,(3,1,8))],ar:=[(59,(2,1)),(101,(3,1))],zv:=[(3,[.i .i64 0]),(5,[.i .u8 0]),(9,[.s (⟨#[]⟩:ByteArray)]),(26,[.lit (.slice none 0 0),.lit (.slice none 0 0),.lit (.slice none 0 0),.i .i64 0,.i .i64 0]),(33,[.lit (.slice none 0 0),.lit (.slice none 0 0),.b false]),(38,[.lit (.slice none 0 0)]),(39,[.lit (.slice none 0 0)]),(41,[.i .i64 0,.lit (.slice none 0 0),.lit (.slice none 0 0),.lit (.slice none 0 0)]),(43,[.i .i64 0,.i .i64 0,.i .i64 0,.lit (.slice none 0 0),.lit (.slice none 0 0),.lit (.slice none 0 0)]),(44,[.i .i64 0]),(48,[.lit (.slice none 0 0)]),(59,[.i .i64 0,.i .i64 0]),(61,[.lit (.slice none 0 0)]),(71,[.lit (.map none)]),(78,[.lit (.slice none 0 0),.lit (.slice none 0 0),.lit (.slice none 0 0),.i .i64 0,.i .i64 0,.i .i64 0,.lit (.map none),.lit (.slice none 0 0),.lit (.slice none 0 0),.b false]),(83,[.s (⟨#[]⟩:ByteArray),.i .i64 0,.lit (.slice none 0 0)]),(93,[.i .i64 0,.i .i64 0,.lit (.slice none 0 0)]),(96,[.s (⟨#[]⟩:ByteArray),.i .i64 0,.i .i64 0,.i .i64 0,.lit (.slice none 0 0),.i .i64 0,.i .i64 0]),(98,[.i .i64 0,.i .i64 0,.i .i64 0,.lit (.slice none 0 0)]),(101,[.i .i64 0,.i .i64 0,.i .i64 0]),(103,[.s (⟨#[]⟩:ByteArray),.lit (.slice none 0 0),.i .i64 0,.i .i64 0,.lit (.slice none 0 0),.i .i64 0,.i .i64 0,.lit (.slice none 0 0),.lit (.slice none 0 0),.lit (.slice none 0 0),.i .i64 0,.i .i64 0,.i .i64 0,.i .i64 0]),(107,[.s (⟨#[]⟩:ByteArray),.i .i64 0]),(128,[.i .i64 0,.i .i64 0]),(135,[.lit (.slice none 0 0),.lit (.slice none 0 0),.lit (.slice none 0 0),.i .i64 0,.i .i64 0,.lit (.slice none 0 0),.s (⟨#[]⟩:ByteArray),.lit (.slice none 0 0),.i .i64 0,.i .i64 0,.lit (.slice none 0 0),.i .i64 0,.i .i64 0,.lit (.slice none 0 0),.lit (.slice none 0 0),.lit (.slice none 0 0),.i .i64 0,.i .i64 0,.i .i64 0,.i .i64 0,.lit (.slice none 0 0)]),(145,[.lit (.slice none 0 0)]),(180,[.lit (.nilFunc),.i .i64 0]),(211,[.lit (.nilFunc)]),(216,[.lit (.nilFunc)]),(225,[.lit (.slice none 0 0),.lit (.slice none 0 0),.i .i64 0]),(245,[.lit (.nilFunc)])],sb:=[9],bo:=[4],cc:=[],en:=[7,8,9,10,12,13,14,15,16,17,18,19,20,21,22,23,24,25,26,27,30,31,32,33,34,35,36,37,38,39,40,41,42,43,44,45,46,47,48,49,50,51,52,58,59,60,61,62,63,64,65,66,67,68,69,70,71,72,75,76,77,78,79,89,90,91,92,93,94,95,96,97,98,99,100,101,102,103,104,105,106,107,108,109,110,122,123,124,125,126,127,128,129,130,131,132,133,134,135,144,145,146,147,148,149,150,151,152,153,154,155,156,157,164,165,166,167,168,169,170,171,172,173,174,175,176,177,178,179,180,181,182,183,184,185,186,187,188,189,190,191,192,193,194,195,196,197,198,199,200,213,214,215,216,217,218,220,221,222,223,224,225,226,227,228,229,230,231,232,233,234,235,236,237,238,239,240,241,242,243,244,245,246,252,253,254,255,256,257,258,259,260,261,268,269,270,271,272,273,274,275,276,277,285,286,289,290,291,292,293,295,296] }
theorem Qq : Qdw Tryz.prog tab:=Tab.ok (by kernel_rfl) (Qcb.2 ⟨QEN,Qcb.2 ⟨QEO,Qcb.2 ⟨QEP,Qcb.2 ⟨QEj,Qcb.2 ⟨QEk,Qcb.2 ⟨QEl,Qcb.2 ⟨QCP,Qcb.2 ⟨QEm,Qcb.2 ⟨QEn,Qcb.2 ⟨QEo,Qcb.2 ⟨QEp,Qcb.2 ⟨QEq,Qcb.2 ⟨QEr,Qcb.2 ⟨QEs,Qcb.2 ⟨QEt,Qcb.2 ⟨QEu,Qcb.2 ⟨QEv,Qcb.2 ⟨QEw,Qcb.2 ⟨QEx,Qcb.2 ⟨QDD,Qcb.2 ⟨QDE,Qcb.2 ⟨QDF,Qcb.2 ⟨QDG,Qcb.2 ⟨QDH,Qcb.2 ⟨QDI,Qcb.2 ⟨QnE,Qcb.2 ⟨QDJ,Qcb.2 ⟨QDK,Qcb.2 ⟨QDL,Qcb.2 ⟨QDM,fun _ h=>(by cases h)⟩⟩⟩⟩⟩⟩⟩⟩⟩⟩⟩⟩⟩⟩⟩⟩⟩⟩⟩⟩⟩⟩⟩⟩⟩⟩⟩⟩⟩⟩)
theorem Qa {C:Ctx}{Q:Exit→St→Prop}{n:Nat}{pt pt1:Pt}{ks ks1:List Fr}{σ σ1:St}{φ:Prop}(hC:QeZ Tryz.prog C n)(ds:List Dir)(e:Vm.go Tryz.prog C tab n ds pt ks σ True=some ⟨pt1,ks1,σ1,φ⟩)(hφ:φ)(h:AK Tryz.prog C Q pt1 ks1 σ1):AK Tryz.prog C Q pt ks σ:=AK.go Qq hC ds e hφ h
abbrev QBg := List (Int×Int)
abbrev QMk := List QBg
abbrev QLL := List (List Int)
abbrev QSB := List (ByteArray×Bool)
theorem tt_ : True:=trivial
theorem an_ {a b:Prop}(x:a)(y:b):a∧b:=⟨x,y⟩
theorem ex_ {α:Sort _}{p:α→Prop}(w:α)(h:p w):∃x,p x:=⟨w,h⟩
end Go.Proofs
namespace Go.Vm
open Go Go.RowKit
noncomputable abbrev Dir.K (a b:List Nat):Dir:=.keep a b
noncomputable abbrev Dir.S (a:Nat)(b:V):Dir:=.say a b
noncomputable abbrev Dir.O (a:Nat)(b:Ob):Dir:=.sayO a b
noncomputable abbrev Dir.T:Dir:=.br true
noncomputable abbrev Dir.F:Dir:=.br false
noncomputable abbrev Dw.N:Dw:=.a .no none false
noncomputable abbrev V.I (n:Int):V:=.i .i64 n
end Go.Vm
namespace Go.Proofs
open Go Go.RowKit Go.Vm Go.Proofs.Tryz
theorem bg_ {α:Type}{c:Bool}{x y:Option α}{r:α}{G:Prop}(h:(bif c then x else y)=some r)(f:c=true→x=some r→G)(g:c=false→y=some r→G):G:=by
 cases c
 ·exact g rfl h
 exact f rfl h
theorem cb_ {a b:Bool}(h:a=b):V.b a=V.b b:=congrArg V.b h
theorem tc_ {a b:Bool}(h:a=b):True∧V.b a=V.b b:=⟨trivial,congrArg V.b h⟩
def QDN : Exit→Bool
 | .normal=>true
 | .ret=>true
 | _=>false
theorem d1_ {C:Ctx}{t:Nat}{r:V}{outs:List (Nat×Ob)}{σ:St}{e:Exit}(he:QDN e=true)(h:Go.Vm.look σ.fr t=some r)(hs:Qhh σ.hp outs):AK Tryz.prog C (Qyf Tryz.prog [.tmp t] (Gives r outs)) (.x e) [] σ:=by
 cases e<;>first | exact AK.done ⟨[r],⟨h,trivial⟩,gives hs⟩|cases he
theorem d2_ {C:Ctx}{t u:Nat}{r s:V}{outs:List (Nat×Ob)}{σ:St}{e:Exit}(he:QDN e=true)(h:Go.Vm.look σ.fr t=some r)(k:Go.Vm.look σ.fr u=some s)(hs:Qhh σ.hp outs):AK Tryz.prog C (Qyf Tryz.prog [.tmp t,.tmp u] (Gives (.tup [r,s]) outs)) (.x e) [] σ:=by
 cases e<;>first | exact AK.done ⟨[r,s],⟨h,k,trivial⟩,gives hs⟩|cases he
theorem tg_ {C:Ctx}{Q:Exit→St→Prop}{n:Nat}{pt pt1:Pt}{ks ks1:List Fr}{σ σ1:St}(hC:QeZ Tryz.prog C n)(ds:List Dir)(e:Vm.go Tryz.prog C tab n ds pt ks σ True=some ⟨pt1,ks1,σ1,True⟩)(h:AK Tryz.prog C Q pt1 ks1 σ1):AK Tryz.prog C Q pt ks σ:=AK.go Qq hC ds e trivial h
theorem QaX {c:Bool}{β:Type}{f:Unit→Option β}{r:β}(h:(chk c).bind f=some r):c=true∧f ()=some r:=by
 obtain⟨_,k,h⟩:=Qb h
 exact⟨Qyi k,h⟩
abbrev QEQ (a0 a1:V):List V:=[.J,.J,a0,.J,.J,.J,.J,a1,.J,.J,.J,.J,.J]
abbrev QqZ (a0:V):List V:=[.J,.J,a0,.J,.J,.J,.J,.J,.J,.J,.J,.J,.J]
abbrev QER (a0 a1 a2 a3 a4 a5 a6 a7 a8:V):List V:=[.J,.J,.J,.J,a0,a1,a2,a3,a4,.J,a5,a6,a7,.J,.J,.J,.J,.J,.J,.J,.J,.J,.J,.J,.J,.J,.J,.J,.J,.J,.J,.J,.J,.J,.J,.J,.J,.J,.J,.J,.J,.J,.J,.J,.J,.J,.J,.J,.J,.J,.J,.J,.J,.J,a8,.J,.J,.J,.J,.J,.J,.J,.J,.J,.J,.J,.J,.J,.J,.J,.J,.J,.J,.J,.J,.J,.J,.J,.J,.J,.J,.J,.J,.J,.J,.J,.J,.J,.J,.J,.J,.J,.J,.J,.J,.J,.J,.J,.J,.J,.J,.J,.J,.J,.J,.J,.J,.J,.J]
abbrev Qd8 (a0 a1 a2 a3 a4 a5 a6 a7:V):List V:=[.J,.J,.J,.J,a0,a1,a2,a3,a4,.J,a5,a6,a7,.J,.J,.J,.J,.J,.J,.J,.J,.J,.J,.J,.J,.J,.J,.J,.J,.J,.J,.J,.J,.J,.J,.J,.J,.J,.J,.J,.J,.J,.J,.J,.J,.J,.J,.J,.J,.J,.J,.J,.J,.J,.J,.J,.J,.J,.J,.J,.J,.J,.J,.J,.J,.J,.J,.J,.J,.J,.J,.J,.J,.J,.J,.J,.J,.J,.J,.J,.J,.J,.J,.J,.J,.J,.J,.J,.J,.J,.J,.J,.J,.J,.J,.J,.J,.J,.J,.J,.J,.J,.J,.J,.J,.J,.J,.J,.J]
def Qvd  : Option Qj:=
 some (Qj.mk ([(QI.mk (⟨#[110]⟩:ByteArray) 2 0 0 ([(⟨#[107]⟩:ByteArray)]:List ByteArray) 0 0)]:List QI) ([(QN.mk (⟨#[97]⟩:ByteArray) 0 ([]:QBg)),(QN.mk (⟨#[98]⟩:ByteArray) 0 ([]:QBg))]:List QN) ([(QB.mk (⟨#[116]⟩:ByteArray) ([]:(List QaQ)) (Qo.mk 1 1 ([]:(List Qo))) 1 1 ([(Qax.mk 0 (Qo.mk 1 0 ([]:(List Qo))))]:List Qax) ([(Qax.mk 1 (Qo.mk 1 0 ([]:(List Qo))))]:List Qax) ([]:(List Int)) 0 (0,0,0))]:List QB) 0 1)
theorem Qw5  {r:Qj}(h:Qvd  = some r):Qc prog 21 [] [] (Gives (.agg (Qd r)) []):=by
 refine Qc.walk 21 func21 rfl rfl rfl fun C hC=>?_
 refine Qa hC [.n 7,.v .no [none,none,some 3] (.agg (Qr (Qo.mk 1 0 ([]:(List Qo))))),.n 2,.O 1 (.var (Qr (Qo.mk 1 0 ([]:(List Qo))))),.n 4,.v .no [none,none,some 3] (.agg (Qr (Qo.mk 1 1 ([]:(List Qo))))),.n 2,.O 2 (.var (Qr (Qo.mk 1 1 ([]:(List Qo))))),.n 4,.v (.bd []) [] (.sl 1 (([(⟨#[107]⟩:ByteArray)]:List ByteArray).map Qea)),.v .no [] (.agg (Qu (QI.mk (⟨#[110]⟩:ByteArray) 2 0 0 ([(⟨#[107]⟩:ByteArray)]:List ByteArray) 0 0))),.v (.bd []) [] (.sl 7 (([(QI.mk (⟨#[110]⟩:ByteArray) 2 0 0 ([(⟨#[107]⟩:ByteArray)]:List ByteArray) 0 0)]:List QI).map Qu)),.v .no [none,none,some 2] (.agg (Qp (QN.mk (⟨#[97]⟩:ByteArray) 0 ([]:QBg)))),.v .no [none,none,some 2] (.agg (Qp (QN.mk (⟨#[98]⟩:ByteArray) 0 ([]:QBg)))),.v (.bd []) [] (.sl 3 (([(QN.mk (⟨#[97]⟩:ByteArray) 0 ([]:QBg)),(QN.mk (⟨#[98]⟩:ByteArray) 0 ([]:QBg))]:List QN).map Qp)),.v .no [] (.agg (Qr (Qo.mk 1 1 ([]:(List Qo))))),.v .no [] (.agg (Qr (Qo.mk 1 0 ([]:(List Qo))))),.v .no [] (.agg (Q4 (Qax.mk 0 (Qo.mk 1 0 ([]:(List Qo)))))),.v (.bd []) [] (.sl 4 (([(Qax.mk 0 (Qo.mk 1 0 ([]:(List Qo))))]:List Qax).map Q4)),.v .no [] (.agg (Qr (Qo.mk 1 0 ([]:(List Qo))))),.v .no [] (.agg (Q4 (Qax.mk 1 (Qo.mk 1 0 ([]:(List Qo)))))),.v (.bd []) [] (.sl 4 (([(Qax.mk 1 (Qo.mk 1 0 ([]:(List Qo))))]:List Qax).map Q4)),.v .no [none,some 2,none,none,none,none,none,none,none,some 1,none,none,none,none] (.agg (Qh (QB.mk (⟨#[116]⟩:ByteArray) ([]:(List QaQ)) (Qo.mk 1 1 ([]:(List Qo))) 1 1 ([(Qax.mk 0 (Qo.mk 1 0 ([]:(List Qo))))]:List Qax) ([(Qax.mk 1 (Qo.mk 1 0 ([]:(List Qo))))]:List Qax) ([]:(List Int)) 0 (0,0,0)))),.v (.bd []) [] (.sl 14 (([(QB.mk (⟨#[116]⟩:ByteArray) ([]:(List QaQ)) (Qo.mk 1 1 ([]:(List Qo))) 1 1 ([(Qax.mk 0 (Qo.mk 1 0 ([]:(List Qo))))]:List Qax) ([(Qax.mk 1 (Qo.mk 1 0 ([]:(List Qo))))]:List Qax) ([]:(List Int)) 0 (0,0,0))]:List QB).map Qh)),.v .no [] (.agg (Qd (Qj.mk ([(QI.mk (⟨#[110]⟩:ByteArray) 2 0 0 ([(⟨#[107]⟩:ByteArray)]:List ByteArray) 0 0)]:List QI) ([(QN.mk (⟨#[97]⟩:ByteArray) 0 ([]:QBg)),(QN.mk (⟨#[98]⟩:ByteArray) 0 ([]:QBg))]:List QN) ([(QB.mk (⟨#[116]⟩:ByteArray) ([]:(List QaQ)) (Qo.mk 1 1 ([]:(List Qo))) 1 1 ([(Qax.mk 0 (Qo.mk 1 0 ([]:(List Qo))))]:List Qax) ([(Qax.mk 1 (Qo.mk 1 0 ([]:(List Qo))))]:List Qax) ([]:(List Int)) 0 (0,0,0))]:List QB) 0 1))),.n 1,.O 0 (.var (Qd (Qj.mk ([(QI.mk (⟨#[110]⟩:ByteArray) 2 0 0 ([(⟨#[107]⟩:ByteArray)]:List ByteArray) 0 0)]:List QI) ([(QN.mk (⟨#[97]⟩:ByteArray) 0 ([]:QBg)),(QN.mk (⟨#[98]⟩:ByteArray) 0 ([]:QBg))]:List QN) ([(QB.mk (⟨#[116]⟩:ByteArray) ([]:(List QaQ)) (Qo.mk 1 1 ([]:(List Qo))) 1 1 ([(Qax.mk 0 (Qo.mk 1 0 ([]:(List Qo))))]:List Qax) ([(Qax.mk 1 (Qo.mk 1 0 ([]:(List Qo))))]:List Qax) ([]:(List Int)) 0 (0,0,0))]:List QB) 0 1))),.n 3,.K [0] [0]] rfl ⟨⟨⟨⟨⟨⟨⟨⟨⟨⟨⟨⟨⟨⟨⟨⟨⟨⟨⟨⟨⟨tt_,rfl⟩,rfl⟩,rfl⟩,rfl⟩,rfl⟩,rfl⟩,rfl⟩,rfl⟩,rfl⟩,rfl⟩,rfl⟩,rfl⟩,rfl⟩,rfl⟩,rfl⟩,rfl⟩,rfl⟩,rfl⟩,rfl⟩,rfl⟩,rfl⟩ ?_
 cases h
 exact AK.done (ex_ [_] (an_ (an_ (ex_ _ (ex_ _ (an_ rfl (an_ rfl (Or.inl (an_ (Qq.ag rfl) (an_ (Qq.sz rfl) rfl))))))) tt_) (gives tt_)))
def Qa0 (a:QBg):Option QBg:=
 (chk (decide (([]:List (Int×Int)).length+a.length≤4294967296))).bind fun _=>
 some (([]:List (Int×Int))++a)
theorem Qgt (a){r}(h:Qa0 a=some r):Qc prog 42 [.sl 2 (a.map QJ)] [] (Gives (.own 600 r.length) [(600,.arr 2 (r.map QJ))]):=by
 refine Qc.walk 8 func42 rfl rfl rfl fun C hC=>?_
 unfold Qa0 at h
 refine tg_ hC [.n 9] rfl ?_
 refine AK.eqNil rfl rfl rfl (QO hC.n rfl) rfl rfl QEh ?_ ?_
 ·intro b
  replace h:some ([]:List (Int×Int))=some r:=by simpa [chk,List.map_eq_nil_iff.1 b] using h
  refine Qa hC [.n 10,.adopt 2 600 2,.O 600 (.arr 2 (([]:List (Int×Int)).map QJ)),.S 2 (.own 600 ([]:List (Int×Int)).length)] rfl ⟨⟨tt_,rfl⟩,rfl⟩ ?_
  cases h
  exact d1_ rfl rfl ⟨rfl,tt_⟩
 obtain⟨c,h⟩:=QaX h
 refine Qa hC [.n 8,.O 5 (.arr 2 (([]:List (Int×Int)).map QJ)),.S 5 (.own 5 ([]:List (Int×Int)).length),.n 1,.app ((([]:List (Int×Int))++a).map QJ) (([]:List (Int×Int))++a).length,.n 4,.K [2] [5],.ren 5 600] rfl ⟨⟨⟨tt_,rfl⟩,rfl⟩,⟨Qg,QbP c Qg,QaZ,QcM Qg⟩⟩ ?_
 cases h
 exact d1_ rfl rfl ⟨rfl,tt_⟩
def QdM (a:QBg):Option Unit:=
 some ()
theorem Qlf (a){r}(h:QdM a=some r):Qc prog 110 [.map 617] [(617,.map (QA V.I V.I a))] (Gives (.clo (.func 157) [] [.loc 1 0 0]) [(1,.var [.map 617]),(617,.map (QA V.I V.I a))]):=by
 refine Qc.walk 4 func110 rfl rfl rfl fun C hC=>?_
 refine tg_ hC [.n 13] rfl ?_
 cases h
 exact d1_ rfl rfl ⟨rfl,rfl,tt_⟩
def QcN (a:(List Int))(b:Int):Option (List Int):=
 (chk (decide (a.length+([b]:List Int).length≤4294967296))).bind fun _=>
 some (a++([b]:List Int))
theorem Qi7 (lpl lpf:Nat)(a:(List Int))(c:Int){r:(List Int)}(h:QcN a c=some r):QnD prog lpl (Qf1 lpf) (QEQ (.loc 618 0 0) (.I c)) [(617,.lp lpl (Qf1 lpf) (QqZ (.loc 618 0 0)) 0),(618,.var [.own 615 a.length]),(615,.arr 1 (a.map Qe))] (Gives (.b true) [(615,.arr 1 (r.map Qe)),(617,.lp lpl (Qf1 lpf) (QqZ (.loc 618 0 0)) 0),(618,.var [.own 615 r.length])]):=by
 refine QnD.walk (b:=617) 13 rfl rfl fun C hC=>?_
 refine tg_ hC [.n 3] rfl ?_
 refine AK.done (an_ rfl (ex_ _ (an_ rfl ?_)))
 obtain⟨d,h⟩:=QaX h
 refine Qa hC [.n 4,.v (.bd []) [] (.sl 1 (([c]:List Int).map Qe)),.app ((a++([c]:List Int)).map Qe) (a++([c]:List Int)).length,.n 1,.O 618 (.var [.own 615 (a++([c]:List Int)).length]),.n 2,.K [] [615,617,618]] rfl ⟨⟨⟨tt_,rfl⟩,⟨Qg,QbP d Qg,QaZ,QcM Qg⟩⟩,rfl⟩ ?_
 cases h
 refine AK.done ?_
 exact ex_ _ (an_ rfl (gives ⟨rfl,rfl,rfl,tt_⟩))
theorem Qks (lpl lpf:Nat)(a:(List Int))(c:QBg)(hlen:a.length+c.length≤4294967296):Qc prog 157 [.clo (.yield lpl) [] [],.loc 619 0 0] [(617,.lp lpl (Qf1 lpf) (QqZ (.loc 618 0 0)) 0),(618,.var [.own 615 a.length]),(615,.arr 1 (a.map Qe)),(619,.var [.map 620]),(620,.map (QA V.I V.I c))] (fun v hs=>∃r:List Int,r.Perm (a++c.map Prod.fst)∧Gives (.tup []) [(615,.arr 1 (r.map Qe)),(617,.lp lpl (Qf1 lpf) (QqZ (.loc 618 0 0)) 0),(618,.var [.own 615 r.length]),(619,.var [.map 620]),(620,.map (QA V.I V.I c))] v hs):=by
 refine Qc.walk 14 func157 rfl rfl rfl fun C hC=>?_
 refine tg_ hC [.n 3] rfl ?_
 refine AK.openMap (b:=620) Qdj rfl fun i j L4 l o=>?_
 refine Qa hC [.x (fun σ=>(σ.set 5 (.itr i j #[] none)).put 5 (.loc 5 0 0)),.n 3,.K [0,5] [5,615,617,618,619,620]] rfl ⟨tt_,(Stp.range (b:=620) rfl rfl (QO hC.n rfl) rfl rfl QeS rfl)⟩ ?_
 have hL0:Qbo L4 #[]=L4:=by simp [Qbo]
 have w:(a++(Qbo L4 #[]).map (fun q=>q.2.1)).Perm (a++c.map Prod.fst):=by
  rw [hL0]
  refine List.Perm.append_left a ?_
  have:=o.map Prod.fst
  rwa [List.map_map]at this
 refine AK.range (body:=Qz0) (fun (_:Nat) seen σ=>∃(cur:Option MapEntry) (st:List Int),(st++(Qbo L4 seen).map (fun q=>q.2.1)).Perm (a++c.map Prod.fst)∧σ=⟨[(0,.clo (.yield lpl) [] []),(5,.loc 5 0 0)],[(5,.itr i j seen cur),(615,.arr 1 (st.map Qe)),(617,.lp lpl (Qf1 lpf) (QqZ (.loc 618 0 0)) 0),(618,.var [.own 615 st.length]),(619,.var [.map 620]),(620,.mapX i j (QhI V.I V.I L4) (QA V.I V.I c))]⟩) (fun (q:Empty) _ _=>False) (fun _ e σ=>∃st:List Int,st.Perm (a++c.map Prod.fst)∧e=.exit 0∧σ=⟨[],[(615,.arr 1 (st.map Qe)),(617,.lp lpl (Qf1 lpf) (QqZ (.loc 618 0 0)) 0),(618,.var [.own 615 st.length]),(619,.var [.map 620]),(620,.mapX i j (QhI V.I V.I L4) (QA V.I V.I c))]⟩) l o (QAW c 0) (ex_ _ (ex_ a (an_ w rfl))) ?_ ?_
 ·rintro A seen σ ⟨cur,k,hpp,rfl⟩ hex
  refine tg_ hC [.n 2] rfl ?_
  refine AK.nextT (b:=5) (m:=620) rfl rfl rfl (QO hC.n rfl) rfl rfl rfl rfl ?_ ?_
  ·intro hleft
   refine tg_ hC [.n 7,.K [] [615,617,618,619,620]] rfl ?_
   exact AK.done (Or.inl (an_ hleft (an_ (fun h=>(by cases h)) (ex_ k (an_ (by simpa [hleft] using hpp) (an_ rfl rfl))))))
  intro y u B s
  have hpk:=(Qsk l s).map (fun q=>q.2.1)
  have t:((k++[u])++(Qbo L4 (seen.push y.born)).map (fun q=>q.2.1)).Perm (a++c.map Prod.fst):=List.Perm.trans (by simpa using (List.Perm.append_left k hpk).symm) hpp
  have z:k.length+([u]:List Int).length≤4294967296:=by
   have:=t.length_eq
   simp at this ⊢
   omega
  have p:QcN k u=some (k++[u]):=by
   unfold QcN
   rw [QbW z];rfl
  obtain⟨f,hxe⟩:∃x,x=k++[u]:=⟨_,rfl⟩
  rw [←hxe]at p t
  refine Qa hC [.n 10,.x (fun σ=>σ.put 8 (.tup [.I u,.I B])),.n 8,.x (fun σ=>(σ.after [615] [(615,.arr 1 (f.map Qe)),(617,.lp lpl (Qf1 lpf) (QqZ (.loc 618 0 0)) 0),(618,.var [.own 615 f.length])]).put 12 (.b true)),.n 6,.K [0,5] [5,615,617,618,619,620]] rfl ⟨⟨tt_,(Stp.entryT (b:=5) (m:=620) rfl rfl (QO hC.n rfl) rfl s rfl rfl)⟩,(Stp.yieldV (b:=617) (M:=[(617,617),(618,618),(615,615)]) (N:=[(615,615),(617,617),(618,618)]) (dead:=[615]) (ms:=[.d,.d,.d,.d,.d,.d,.d,.d,.d,.d,.d,.d,.d]) (outs:=[(615,.arr 1 (f.map Qe)),(617,.lp lpl (Qf1 lpf) (QqZ (.loc 618 0 0)) 0),(618,.var [.own 615 f.length])]) (r:=.b true) rfl rfl rfl rfl rfl rfl rfl (QO hC.n rfl) hC.g rfl rfl (Qi7 _ _ _ _ p))⟩ ?_
  exact AK.done (Or.inr (ex_ _ (an_ s (Or.inl (ex_ (A+1) (an_ rfl (an_ rfl (ex_ _ (ex_ f (an_ t rfl))))))))))
 rintro e σ ⟨k,hpp,rfl,rfl⟩
 refine tg_ hC [.n 1] rfl ?_
 refine AK.closeMap (b:=620) rfl ?_
 refine tg_ hC [.K [] [615,617,618,619,620]] rfl ?_
 refine AK.done ?_
 exact ex_ [] (an_ tt_ (ex_ k (an_ hpp (gives ⟨rfl,rfl,rfl,rfl,rfl,tt_⟩))))
theorem QmU (a:QBg)(hlen:a.length≤4294967296):Qc prog 218 [.lit (.slice none 0 0),.clo (.func 157) [] [.loc 617 0 0]] [(617,.var [.map 618]),(618,.map (QA V.I V.I a))] (fun v hs=>∃r:List Int,r.Perm (a.map Prod.fst)∧Gives (.own 600 r.length) [(600,.arr 1 (r.map Qe)),(617,.var [.map 618]),(618,.map (QA V.I V.I a))] v hs):=by
 refine Qc.walkR 13 func218 rfl ntmps218 rfl fun C hC hR=>?_
 refine tg_ hC [.n 13,.K [2,4,6] [2,617,618]] rfl ?_
 refine Qa hC [.adoptO 2 0 605 1,.O 605 (.arr 1 (([]:List Int).map Qe)),.O 2 (.var [.own 605 ([]:List Int).length])] rfl ⟨⟨tt_,rfl⟩,rfl⟩ ?_
 refine AK.rangeFE (ι:=List Int) (Φ:=fun x=>x.Perm (a.map Prod.fst)) 614 [2] [(617,614),(618,2),(615,605),(619,617),(620,618)] [(605,615),(614,617),(2,618),(617,619),(618,620)] [605] [.d,.d] Qf1 hC hR (fun _=>rfl) rfl rfl rfl rfl fun lpl lpf=>?_
 refine ex_ (fun b:List Int=>[(615,.arr 1 (b.map Qe)),(617,.lp lpl (Qf1 lpf) (QqZ (.loc 618 0 0)) 0),(618,.var [.own 615 b.length]),(619,.var [.map 620]),(620,.map (QA V.I V.I a))]) (ex_ (fun _=>.tup []) (ex_ (fun b=>_) (ex_ _ (ex_ _ (an_ rfl (an_ rfl (an_ (Qks _ _ ([]:List Int) a (by simpa using hlen)) fun b=>ex_ _ (ex_ (QqZ (.loc 2 0 0)) (ex_ 0 (an_ rfl (an_ rfl (an_ (bne_iff_ne.1 (show(0 != 1)=true from rfl)) fun hpp=>?_))))))))))))
 refine QDv rfl ?_
 refine tg_ hC [.n 9,.K [4] [605,617,618],.ren 605 600,.K [4] [600,617,618]] rfl ?_
 exact AK.done (ex_ [_] (an_ (an_ rfl tt_) (ex_ b (an_ hpp (gives ⟨rfl,rfl,rfl,tt_⟩)))))
theorem QpR (a:QBg)(hlen:a.length≤4294967296):Qc prog 156 [.clo (.func 157) [] [.loc 617 0 0]] [(617,.var [.map 618]),(618,.map (QA V.I V.I a))] (fun v hs=>∃r:List Int,r.Perm (a.map Prod.fst)∧Gives (.own 600 r.length) [(600,.arr 1 (r.map Qe)),(617,.var [.map 618]),(618,.map (QA V.I V.I a))] v hs):=by
 refine Qc.walk 5 func156 rfl rfl rfl fun C hC=>?_
 refine tg_ hC [.n 8] rfl ?_
 refine AK.callE (ι:=List Int) (Φ:=fun x=>x.Perm (a.map Prod.fst)) [(617,617),(618,618)] [(4,600),(617,617),(618,618)] [] [.d,.d] (fun b=>[(600,.arr 1 (b.map Qe)),(617,.var [.map 618]),(618,.map (QA V.I V.I a))]) (fun b=>(.own 600 b.length)) (fun b=>_) rfl hC (QbN.fn rfl rfl rfl) rfl (QO hC.n rfl) rfl rfl (QmU a hlen) (fun b=>ex_ _ rfl) fun b hpp=>?_
 refine tg_ hC [.n 4,.K [2] [4,617,618],.ren 4 600,.K [2] [600,617,618]] rfl ?_
 exact AK.done (ex_ [_] (an_ (an_ rfl tt_) (ex_ b (an_ hpp (gives ⟨rfl,rfl,rfl,tt_⟩)))))
def Qbf (l:List Int):Option (List Int):=(chk (decide (l.length<4611686018427387904))).bind fun _=>some (QeF l)
theorem QdN (l){r}(h:Qbf l=some r):Qc prog 48 [.own 617 l.length] [(617,.arr 1 (l.map Qe))] (Gives (.tup []) [(617,.arr 1 (r.map Qe))]):=by
 obtain⟨_,a,h⟩:=Qb h
 cases h
 exact Qzb QA2 l (Q7 (Qyi a))
def Qi8 (a:QBg):Option (List Int):=
 (chk (decide (a.length≤4294967296))).bind fun _=>
 some (QeF (a.map Prod.fst))
theorem Qq0 (a){r}(h:Qi8 a=some r):Qc prog 109 [.clo (.func 157) [] [.loc 617 0 0]] [(617,.var [.map 618]),(618,.map (QA V.I V.I a))] (Gives (.own 600 r.length) [(600,.arr 1 (r.map Qe)),(617,.var [.map 618]),(618,.map (QA V.I V.I a))]):=by
 refine Qc.walk 9 func109 rfl rfl rfl fun C hC=>?_
 obtain⟨_,hlen,h⟩:=Qb h
 replace hlen:=Q7 (Qyi hlen)
 cases h
 refine tg_ hC [.n 8] rfl ?_
 refine AK.callE (ι:=List Int) (Φ:=fun x=>x.Perm (a.map Prod.fst)) [(617,617),(618,618)] [(5,600),(617,617),(618,618)] [] [.d] (fun b=>[(600,.arr 1 (b.map Qe)),(617,.var [.map 618]),(618,.map (QA V.I V.I a))]) (fun b=>(.own 600 b.length)) (fun b=>_) rfl hC (QbN.fn rfl rfl rfl) rfl (QO hC.n rfl) rfl rfl (QpR a hlen) (fun b=>ex_ _ rfl) fun b hpp=>?_
 have e:Qbf b=some (QeF (a.map Prod.fst)):=by
  unfold Qbf
  rw [QbW (by have:=hpp.length_eq;simp at this;omega),Qz1 hpp];rfl
 have c:(QeF (a.map Prod.fst)).length=b.length:=by rw [Ql5,hpp.length_eq]
 refine Qa hC [.n 6,.cm (.fn) [(617,5)] [(5,617)] [] [.d] [(617,.arr 1 (((QeF (a.map Prod.fst))).map Qe))] (.tup []),.S 3 (.own 5 (QeF (a.map Prod.fst)).length),.S 5 (.own 5 (QeF (a.map Prod.fst)).length),.S 6 (.own 5 (QeF (a.map Prod.fst)).length),.n 9,.K [2] [5,617,618],.ren 5 600,.K [2] [600,617,618]] rfl ⟨⟨⟨⟨tt_,(QdN _ e)⟩,(by simp [c])⟩,(by simp [c])⟩,(by simp [c])⟩ ?_
 exact d1_ rfl rfl ⟨rfl,rfl,rfl,tt_⟩
def Qem (b:Int)(a:QBg):Option ((Int×QBg)⊕QBg):=
 some (.inl ((w64 (b+1)),a))
def Qck (e:(List Int))(d:QBg)(b:Int)(c:QBg):Option ((Int×QBg)⊕QBg):=
 bif (decide (b<(e.length:Int)))then
 (idx e b).bind fun a=>
 bif (decide (0<((QE d a).getD 0)))then
 (chk (decide (c.length+([(a,((QE d a).getD 0))]:List (Int×Int)).length≤4294967296))).bind fun _=>
 Qem b (c++([(a,((QE d a).getD 0))]:List (Int×Int)))
 else
 Qem b c
 else
 some (.inr c)
def QmV (a:QBg):Option QBg:=
 some a
def Qer (a:QBg):Option QBg:=
 (QdM a).bind fun c=>
 (Qi8 a).bind fun b=>
 (QK (fun st=>Qck b a st.1 st.2) (0,([]:List (Int×Int)))).bind (fun q=>QmV q)
theorem Qi9 (b){r}(h:Qer b=some r):Qc prog 71 [.map 617] [(617,.map (QA V.I V.I b))] (Gives (.own 600 r.length) [(600,.arr 2 (r.map QJ)),(617,.map (QA V.I V.I b))]):=by
 refine Qc.walk 28 func71 rfl rfl rfl fun C hC=>?_
 obtain⟨D,u,h⟩:=Qb h
 obtain⟨i,w,h⟩:=Qb h
 refine Qa hC [.n 14,.cm (.fn) [(617,617)] [(7,1),(617,617)] [] [.d] [(1,.var [.map 617]),(617,.map (QA V.I V.I b))] (.clo (.func 157) [] [.loc 1 0 0]),.cm (.fn) [(617,7),(618,617)] [(8,600),(7,617),(617,618)] [] [.d] [(600,.arr 1 (i.map Qe)),(617,.var [.map 618]),(618,.map (QA V.I V.I b))] (.own 600 i.length),.n 5,.adopt 3 18 2,.O 18 (.arr 2 (([]:List (Int×Int)).map QJ)),.S 3 (.own 18 ([]:List (Int×Int)).length),.K [0,3,8,9,10] [8,18,617]] rfl ⟨⟨⟨⟨tt_,(Qlf _ u)⟩,(Qq0 _ w)⟩,rfl⟩,(congrArg (fun n=>V.own 18 n) (by simp))⟩ ?_
 obtain⟨x,p,h⟩:=Qb h
 refine AK.loop (body:=(fun st=>Qck i b st.1 st.2)) (fun st σ=>σ=⟨[(0,.map 617),(3,.own 18 st.2.length),(8,.own 8 i.length),(9,.I (i.length:Int)),(10,.I st.1)],[(8,.arr 1 (i.map Qe)),(18,.arr 2 (st.2.map QJ)),(617,.map (QA V.I V.I b))]⟩) (fun q e σ=>e=.exit 0∧σ=⟨[(3,.own 18 q.length)],[(18,.arr 2 (q.map QJ)),(617,.map (QA V.I V.I b))]⟩) p rfl ?_ ?_
 ·rintro ⟨A,B⟩ o σ rfl h
  refine tg_ hC [.n 6] rfl ?_
  refine bg_ h (fun c h=>Qa hC [.T,.n 2] rfl ⟨tt_,c⟩ ?_) fun c h=>Qa hC [.F,.n 2,.K [3] [18,617]] rfl ⟨tt_,c⟩ ?_
  ·refine AK.meet (fun σ=>∃j:QBg,σ=⟨[(0,.map 617),(3,.own 18 j.length),(8,.own 8 i.length),(9,.I (i.length:Int)),(10,.I A)],[(8,.arr 1 (i.map Qe)),(18,.arr 2 (j.map QJ)),(617,.map (QA V.I V.I b))]⟩∧Qem A j=some o) ?_ ?_
   ·obtain⟨a,m,h⟩:=Qb h
    refine Qa hC [.n 4,.o (.row (Qe a)),.n 7,.o (.any (.I ((QE b a).getD 0)) none),.n 3] rfl ⟨⟨⟨tt_,(Qdd m rfl)⟩,(QbX (QdK m).2)⟩,(fun σ s y _=>Stp.lookup (e:=V.I) (f:=V.I) (l:=b) (k:=a) (z:=0) rfl rfl (QO hC.n rfl) (s _ _ rfl) (y _ _ rfl) (s _ _ rfl) QeS Qdj Qk0 rfl)⟩ ?_
    rcases Qs h with⟨g,h⟩|⟨g,h⟩
    ·obtain⟨t,h⟩:=QaX h
     refine Qa hC [.T,.n 5,.o (.any (.I ((QE b a).getD 0)) none),.v .no [] (.agg (QJ (a,((QE b a).getD 0)))),.v (.bd []) [] (.sl 2 (([(a,((QE b a).getD 0))]:List (Int×Int)).map QJ)),.app ((B++([(a,((QE b a).getD 0))]:List (Int×Int))).map QJ) (B++([(a,((QE b a).getD 0))]:List (Int×Int))).length,.n 3,.K [0,3,8,9,10] [8,18,617]] rfl ⟨⟨⟨⟨⟨tt_,g⟩,(fun σ s y _=>Stp.lookup (e:=V.I) (f:=V.I) (l:=b) (k:=a) (z:=0) rfl rfl (QO hC.n rfl) (s _ _ rfl) (y _ _ rfl) (s _ _ rfl) QeS Qdj Qk0 rfl)⟩,rfl⟩,rfl⟩,⟨Qg,QbP t Qg,QaZ,QcM Qg⟩⟩ ?_
     exact AK.met (ex_ _ (an_ rfl h))
    refine Qa hC [.F,.n 2,.K [0,3,8,9,10] [8,18,617]] rfl ⟨tt_,g⟩ ?_
    exact AK.met (ex_ _ (an_ rfl h))
   rintro σ ⟨j,rfl,h⟩
   refine tg_ hC [.n 4,.K [0,3,8,9,10] [8,18,617]] rfl ?_
   cases h
   exact Q5 rfl rfl
  cases h
  exact Q6 rfl (an_ rfl rfl)
 replace h:QmV x=some r:=h
 rintro e σ ⟨rfl,rfl⟩
 refine tg_ hC [.n 9,.K [2] [18,617],.ren 18 600] rfl ?_
 cases h
 exact d1_ rfl rfl ⟨rfl,rfl,tt_⟩
def Qnr (b:Int)(a:QBg):Option ((Int×QBg)⊕QBg):=
 some (.inl ((w64 (b+1)),a))
def QfM (d:(List Int))(b:Int)(c:QBg):Option ((Int×QBg)⊕QBg):=
 bif (decide (b<(d.length:Int)))then
 (idx d b).bind fun a=>
 bif (decide (0≤a))then
 Qnr b (Qan ltI c a (min2 (w64 (((QE c a).getD 0)+1)) 1048576))
 else
 Qnr b c
 else
 some (.inr c)
def Qns (b:QBg):Option QBg:=
 (Qer b).bind fun a=>
 some a
def Qm2 (a:(List Int)):Option QBg:=
 (QK (fun st=>QfM a st.1 st.2) (0,([]:QBg))).bind (fun q=>Qns q)
theorem Qve (c){r}(h:Qm2 c=some r):Qc prog 44 [.sl 1 (c.map Qe)] [] (Gives (.own 600 r.length) [(600,.arr 2 (r.map QJ))]):=by
 refine Qc.walk 25 func44 rfl rfl rfl fun C hC=>?_
 refine Qa hC [.n 8,.O 6 (.map (QA V.I V.I ([]:QBg))),.n 7,.o (.ln c.length),.n 4,.K [3,7,8,9] [6]] rfl ⟨⟨tt_,rfl⟩,Qg⟩ ?_
 obtain⟨u,m,h⟩:=Qb h
 refine AK.loop (body:=(fun st=>QfM c st.1 st.2)) (fun st σ=>σ=⟨[(3,.map 6),(7,.sl 1 (c.map Qe)),(8,.I (c.length:Int)),(9,.I st.1)],[(6,.map (QA V.I V.I st.2))]⟩) (fun q e σ=>e=.exit 0∧σ=⟨[(3,.map 6)],[(6,.map (QA V.I V.I q))]⟩) m rfl ?_ ?_
 ·rintro ⟨w,j⟩ o σ rfl h
  refine tg_ hC [.n 6] rfl ?_
  refine bg_ h (fun g h=>Qa hC [.T,.n 2] rfl ⟨tt_,g⟩ ?_) fun g h=>Qa hC [.F,.n 2,.K [3] [6]] rfl ⟨tt_,g⟩ ?_
  ·refine AK.meet (fun σ=>∃i:QBg,σ=⟨[(3,.map 6),(7,.sl 1 (c.map Qe)),(8,.I (c.length:Int)),(9,.I w)],[(6,.map (QA V.I V.I i))]⟩∧Qnr w i=some o) ?_ ?_
   ·obtain⟨a,p,h⟩:=Qb h
    refine Qa hC [.n 3,.o (.row (Qe a)),.n 10] rfl ⟨tt_,(QT p)⟩ ?_
    refine bg_ h (fun b h=>Qa hC [.T,.n 5,.o (.any (.I ((QE j a).getD 0)) none),.n 2,.x (fun σ=>σ.set 6 (.map (QA V.I V.I (Qan ltI j a (min2 (w64 (((QE j a).getD 0)+1)) 1048576))))),.n 2,.K [3,7,8,9] [6]] rfl ⟨⟨⟨tt_,b⟩,(fun σ y A _=>Stp.lookup (e:=V.I) (f:=V.I) (l:=j) (k:=a) (z:=0) rfl rfl (QO hC.n rfl) (y _ _ rfl) (A _ _ rfl) (y _ _ rfl) QeS Qdj Qk0 rfl)⟩,(Stp.mapUpdate (e:=V.I) (f:=V.I) (l:=j) (k:=a) (v:=(min2 (w64 (((QE j a).getD 0)+1)) 1048576)) ltI rfl rfl rfl rfl rfl rfl QeS Qdj rfl)⟩ ?_) fun b h=>Qa hC [.F,.n 2,.K [3,7,8,9] [6]] rfl ⟨tt_,b⟩ ?_
    ·exact AK.met (ex_ _ (an_ rfl h))
    exact AK.met (ex_ _ (an_ rfl h))
   rintro σ ⟨i,rfl,h⟩
   refine tg_ hC [.n 4,.K [3,7,8,9] [6]] rfl ?_
   cases h
   exact Q5 rfl rfl
  cases h
  exact Q6 rfl (an_ rfl rfl)
 replace h:Qns u=some r:=h
 rintro e σ ⟨rfl,rfl⟩
 obtain⟨s,t,h⟩:=Qb h
 refine Qa hC [.n 5,.cm (.fn) [(617,6)] [(24,600),(6,617)] [] [.d] [(600,.arr 2 (s.map QJ)),(617,.map (QA V.I V.I u))] (.own 600 s.length),.n 4,.K [2] [24],.ren 24 600] rfl ⟨tt_,(Qi9 _ t)⟩ ?_
 cases h
 exact d1_ rfl rfl ⟨rfl,tt_⟩
def QcO (d:QBg)(a:Int)(c:Int):Option ((Int×Int)⊕(Unit⊕Unit)):=
 bif (decide (c<(d.length:Int)))then
 (idx d c).bind fun b=>
 bif ((decide (b.1≤a))||((decide (b.2<1))||(decide (1048576<b.2))))then
 some (.inr (.inl ()))
 else
 some (.inl (b.1,(w64 (c+1))))
 else
 some (.inr (.inr ()))
def Qkt : Option Bool:=
 some false
def Qku : Option Bool:=
 some true
def Qc5 (a:QBg):Option Bool:=
 (QK (fun st=>QcO a st.1 st.2) ((-1),0)).bind (Sum.elim (fun q=>Qkt) (fun q=>Qku))
theorem QfR (i){r}(h:Qc5 i=some r):Qc prog 63 [.sl 2 (i.map QJ)] [] (Gives (.b r) []):=by
 refine Qc.walk 29 func63 rfl rfl rfl fun C hC=>?_
 refine Qa hC [.n 14,.o (.ln i.length),.n 4,.K [3,6,7,8] []] rfl ⟨tt_,Qg⟩ ?_
 obtain⟨l,k,h⟩:=Qb h
 refine AK.loop (body:=(fun st=>QcO i st.1 st.2)) (fun st σ=>σ=⟨[(3,.I st.1),(6,.sl 2 (i.map QJ)),(7,.I (i.length:Int)),(8,.I st.2)],[]⟩) (Sum.elim (fun q e σ=>e=.ret∧σ=⟨[(2,.b false)],[]⟩) (fun q e σ=>e=.exit 0∧σ=⟨[],[]⟩)) k rfl ?_ ?_
 ·rintro ⟨a,p⟩ o σ rfl h
  refine tg_ hC [.n 6] rfl ?_
  rcases Qs h with⟨j,h⟩|⟨j,h⟩
  ·obtain⟨d,m,h⟩:=Qb h
   refine Qa hC [.T,.n 6,.o (.row (QJ d)),.v .no [] (.agg (QJ d)),.n 2,.O 5 (.var (QJ d)),.n 4] rfl ⟨⟨⟨⟨tt_,j⟩,(QT m)⟩,rfl⟩,rfl⟩ ?_
   refine AK.meetX (fun σ=>σ=⟨[(5,.loc 5 0 0),(6,.sl 2 (i.map QJ)),(7,.I (i.length:Int)),(8,.I p),(25,.b ((decide (d.1≤a))||((decide (d.2<1))||(decide (1048576<d.2)))))],[(5,.var (QJ d))]⟩) ?_ ?_
   ·refine tg_ hC [.n 6] rfl ?_
    rcases Q3 (decide (d.1≤a))with c | c
    ·refine Qa hC [.S 16 (.b true),.n 10,.S 25 (.b ((decide (d.1≤a))||((decide (d.2<1))||(decide (1048576<d.2))))),.K [5,6,7,8,25] [5]] rfl ⟨(tc_ c),(congrArg V.b (orT c rfl))⟩ ?_
     exact AK.met rfl
    refine Qa hC [.S 16 (.b false),.n 5] rfl (tc_ c) ?_
    rcases Q3 (decide (d.2<1))with f | f
    ·refine Qa hC [.S 21 (.b true),.n 5,.S 25 (.b ((decide (d.1≤a))||((decide (d.2<1))||(decide (1048576<d.2))))),.K [5,6,7,8,25] [5]] rfl ⟨(tc_ f),(congrArg V.b (orF c (orT f rfl)))⟩ ?_
     exact AK.met rfl
    refine Qa hC [.S 21 (.b false),.n 5,.S 25 (.b ((decide (d.1≤a))||((decide (d.2<1))||(decide (1048576<d.2))))),.K [5,6,7,8,25] [5]] rfl ⟨(tc_ f),(congrArg V.b (orF c (orF f rfl)))⟩ ?_
    exact AK.met rfl
   rintro σ rfl
   refine tg_ hC [.n 1] rfl ?_
   refine bg_ h (fun g h=>Qa hC [.T,.n 9,.K [2] []] rfl ⟨tt_,g⟩ ?_) fun g h=>Qa hC [.F,.n 13,.K [3,6,7,8] []] rfl ⟨tt_,g⟩ ?_
   ·cases h
    exact Qar rfl (an_ rfl rfl)
   cases h
   exact Q5 rfl rfl
  refine Qa hC [.F,.n 2,.K [] []] rfl ⟨tt_,j⟩ ?_
  cases h
  exact Q6 rfl (an_ rfl rfl)
 rcases l with(_ | _)
 ·replace h:Qkt=some r:=h
  rintro e σ ⟨rfl,rfl⟩
  refine tg_ hC [.n 2] rfl ?_
  cases h
  exact d1_ rfl rfl tt_
 replace h:Qku=some r:=h
 rintro e σ ⟨rfl,rfl⟩
 refine tg_ hC [.n 8] rfl ?_
 cases h
 exact d1_ rfl rfl tt_
def Qg3 (c:QBg)(b:Int)(d:QBg):Option ((Int×QBg)⊕QBg):=
 bif (decide (b<(c.length:Int)))then
 (idx c b).bind fun a=>
 some (.inl ((w64 (b+1)),(Qan ltI d a.1 a.2)))
 else
 some (.inr d)
def Qvf (a:QBg):Option (Unit⊕QBg):=
 some (.inr a)
def QlO (a:QBg):Option (Unit⊕QBg):=
 (Qc5 a).bind fun b=>
 bif (!b)then
 some (.inl ())
 else
 (QK (fun st=>Qg3 a st.1 st.2) (0,([]:QBg))).bind (fun q=>Qvf q)
theorem QfN (j){r}(h:QlO j=some r):Qc prog 108 [.sl 2 (j.map QJ)] [] ((Sum.elim (fun q=>(Gives (.tup [.lit (.map none),.b false]) [])) (fun q=>(Gives (.tup [.map 601,.b true]) [(601,.map (QA V.I V.I q))]))) r):=by
 refine Qc.walk 24 func108 rfl rfl rfl fun C hC=>?_
 obtain⟨w,s,h⟩:=Qb h
 refine Qa hC [.n 10,.o (.c false [.d] (.b w)),.n 3] rfl ⟨tt_,(QfR _ s)⟩ ?_
 refine bg_ h (fun i h=>Qa hC [.T,.n 8,.K [2,3] []] rfl ⟨tt_,i⟩ ?_) fun i h=>Qa hC [.F,.n 5,.O 10 (.map (QA V.I V.I ([]:QBg))),.n 7,.o (.ln j.length),.n 4,.K [4,11,12,13] [10]] rfl ⟨⟨⟨tt_,i⟩,rfl⟩,Qg⟩ ?_
 ·cases h
  exact AK.done (ex_ [_,_] (an_ (an_ rfl (an_ rfl tt_)) (gives tt_)))
 obtain⟨t,m,h⟩:=Qb h
 refine AK.loop (body:=(fun st=>Qg3 j st.1 st.2)) (fun st σ=>σ=⟨[(4,.map 10),(11,.sl 2 (j.map QJ)),(12,.I (j.length:Int)),(13,.I st.1)],[(10,.map (QA V.I V.I st.2))]⟩) (fun q e σ=>e=.exit 0∧σ=⟨[(4,.map 10)],[(10,.map (QA V.I V.I q))]⟩) m rfl ?_ ?_
 ·rintro ⟨y,u⟩ o σ rfl h
  refine tg_ hC [.n 6] rfl ?_
  rcases Qs h with⟨g,h⟩|⟨g,h⟩
  ·obtain⟨a,p,h⟩:=Qb h
   refine Qa hC [.T,.n 6,.o (.row (QJ a)),.v .no [] (.agg (QJ a)),.n 2,.O 6 (.var (QJ a)),.n 8,.x (fun σ=>σ.set 10 (.map (QA V.I V.I (Qan ltI u a.1 a.2)))),.n 7,.K [4,11,12,13] [10]] rfl ⟨⟨⟨⟨⟨tt_,g⟩,(QT p)⟩,rfl⟩,rfl⟩,(Stp.mapUpdate (e:=V.I) (f:=V.I) (l:=u) (k:=a.1) (v:=a.2) ltI rfl rfl rfl rfl rfl rfl QeS Qdj rfl)⟩ ?_
   cases h
   exact Q5 rfl rfl
  refine Qa hC [.F,.n 2,.K [4] [10]] rfl ⟨tt_,g⟩ ?_
  cases h
  exact Q6 rfl (an_ rfl rfl)
 replace h:Qvf t=some r:=h
 rintro e σ ⟨rfl,rfl⟩
 refine tg_ hC [.n 10,.K [2,3] [10],.ren 10 601,.K [2,3] [601]] rfl ?_
 cases h
 exact AK.done (ex_ [_,_] (an_ (an_ rfl (an_ rfl tt_)) (gives ⟨rfl,tt_⟩)))
def QsQ (a:Unit):Option (Unit⊕(QBg⊕(QBg⊕(QBg×QBg)))):=
 some (.inl ())
def QsR (a:QBg):Option (Unit⊕(QBg⊕(QBg⊕(QBg×QBg)))):=
 some (.inr (.inl a))
def QnO (a:QBg)(b:Unit):Option (Unit⊕(QBg⊕(QBg⊕(QBg×QBg)))):=
 (QlO a).bind (Sum.elim (fun q=>QsQ q) (fun q=>QsR q))
def QsS (a:QBg)(b:Unit):Option (Unit⊕(QBg⊕(QBg⊕(QBg×QBg)))):=
 some (.inr (.inr (.inl a)))
def QsT (b:QBg)(a:QBg):Option (Unit⊕(QBg⊕(QBg⊕(QBg×QBg)))):=
 some (.inr (.inr (.inr (b,a))))
def QnP (b:QBg)(a:QBg):Option (Unit⊕(QBg⊕(QBg⊕(QBg×QBg)))):=
 (QlO b).bind (Sum.elim (fun q=>QsS a q) (fun q=>QsT a q))
def Qkv (b:QBg)(a:QBg):Option (Unit⊕(QBg⊕(QBg⊕(QBg×QBg)))):=
 (QlO b).bind (Sum.elim (fun q=>QnO a q) (fun q=>QnP a q))
theorem QbL (p i){r}(h:Qkv p i=some r):Qc prog 70 [.sl 2 (p.map QJ),.sl 2 (i.map QJ)] [] ((Sum.elim (fun q=>(Gives (.tup [.lit (.map none),.lit (.map none),.b false]) [])) (Sum.elim (fun q=>(Gives (.tup [.lit (.map none),.map 603,.b false]) [(603,.map (QA V.I V.I q))])) (Sum.elim (fun q=>(Gives (.tup [.map 602,.lit (.map none),.b false]) [(602,.map (QA V.I V.I q))])) (fun q=>(Gives (.tup [.map 602,.map 603,.b true]) [(602,.map (QA V.I V.I q.1)),(603,.map (QA V.I V.I q.2))]))))) r):=by
 refine Qc.walk 25 func70 rfl rfl rfl fun C hC=>?_
 obtain⟨s,e,h⟩:=Qb h
 refine tg_ hC [.n 10] rfl ?_
 rcases s with(t | j)
 ·replace h:QnO i t=some r:=h
  obtain⟨k,a,h⟩:=Qb h
  refine Qa hC [.cm (.fn) [] [] [] [.d] [] (.tup [.lit (.map none),.b false]),.n 10] rfl ⟨tt_,(QfN _ e)⟩ ?_
  rcases k with(l | f)
  ·replace h:QsQ l=some r:=h
   refine Qa hC [.cm (.fn) [] [] [] [.d] [] (.tup [.lit (.map none),.b false]),.n 21,.K [4,5,6] []] rfl ⟨tt_,(QfN _ a)⟩ ?_
   cases h
   exact AK.done (ex_ [_,_,_] (an_ (an_ rfl (an_ rfl (an_ rfl tt_))) (gives tt_)))
  replace h:QsR f=some r:=h
  refine Qa hC [.cm (.fn) [] [(16,601)] [] [.d] [(601,.map (QA V.I V.I f))] (.tup [.map 601,.b true]),.n 21,.K [4,5,6] [16],.ren 16 603,.K [4,5,6] [603]] rfl ⟨tt_,(QfN _ a)⟩ ?_
  cases h
  exact AK.done (ex_ [_,_,_] (an_ (an_ rfl (an_ rfl (an_ rfl tt_))) (gives ⟨rfl,tt_⟩)))
 replace h:QnP i j=some r:=h
 obtain⟨m,c,h⟩:=Qb h
 refine Qa hC [.cm (.fn) [] [(11,601)] [] [.d] [(601,.map (QA V.I V.I j))] (.tup [.map 601,.b true]),.n 10] rfl ⟨tt_,(QfN _ e)⟩ ?_
 rcases m with(o | g)
 ·replace h:QsS j o=some r:=h
  refine Qa hC [.cm (.fn) [] [] [] [.d] [] (.tup [.lit (.map none),.b false]),.n 21,.K [4,5,6] [11],.ren 11 602,.K [4,5,6] [602]] rfl ⟨tt_,(QfN _ c)⟩ ?_
  cases h
  exact AK.done (ex_ [_,_,_] (an_ (an_ rfl (an_ rfl (an_ rfl tt_))) (gives ⟨rfl,tt_⟩)))
 replace h:QsT j g=some r:=h
 refine Qa hC [.cm (.fn) [] [(16,601)] [] [.d] [(601,.map (QA V.I V.I g))] (.tup [.map 601,.b true]),.n 21,.K [4,5,6] [11,16],.ren 11 602,.K [4,5,6] [16,602],.ren 16 603,.K [4,5,6] [602,603]] rfl ⟨tt_,(QfN _ c)⟩ ?_
 cases h
 exact AK.done (ex_ [_,_,_] (an_ (an_ rfl (an_ rfl (an_ rfl tt_))) (gives ⟨rfl,rfl,tt_⟩)))
def QtI (a:Unit):Option (QBg×Int):=
 some (([]:List (Int×Int)),1)
def QtJ (a:QBg):Option (QBg×Int):=
 some (([]:List (Int×Int)),1)
def QtK (a:QBg):Option (QBg×Int):=
 some (([]:List (Int×Int)),1)
def QhL (b:QBg)(a:Int)(c:Int):Option (QBg⊕Unit):=
 bif (decide (1048576<((QE (Qan ltI b a (w64 (((QE b a).getD 0)+c))) a).getD 0)))then
 some (.inr ())
 else
 some (.inl (Qan ltI b a (w64 (((QE b a).getD 0)+c))))
def Qo4 (a:QBg):Option (QBg×Int):=
 (Qer a).bind fun b=>
 some (b,0)
def QtL : Option (QBg×Int):=
 some (([]:List (Int×Int)),2)
def Qo5 (a:(QBg×QBg)):Option (QBg×Int):=
 (QiP (fun st p=>QhL st p.1 p.2) a.1 a.2).bind (Sum.elim (fun q=>Qo4 q) (fun q=>QtL))
def QbH (a:QBg)(b:QBg):Option (QBg×Int):=
 (Qkv a b).bind (Sum.elim (fun q=>QtI q) (Sum.elim (fun q=>QtJ q) (Sum.elim (fun q=>QtK q) (fun q=>Qo5 q))))
theorem Qo6 (M N){r}(h:QbH M N=some r):Qc prog 43 [.sl 2 (M.map QJ),.sl 2 (N.map QJ)] [] (Gives (.tup [.sl 2 (r.1.map QJ),.I r.2]) []):=by
 refine Qc.walk 38 func43 rfl rfl rfl fun C hC=>?_
 obtain⟨S,u,h⟩:=Qb h
 refine tg_ hC [.n 10] rfl ?_
 rcases S with(U | (O | (D | w)))
 ·replace h:QtI U=some r:=h
  refine Qa hC [.cm (.fn) [] [] [] [.d,.d] [] (.tup [.lit (.map none),.lit (.map none),.b false]),.n 25,.denil 4 [some 2]] rfl ⟨tt_,(QbL _ _ u)⟩ ?_
  cases h
  exact d2_ rfl rfl rfl tt_
 ·replace h:QtJ O=some r:=h
  refine Qa hC [.cm (.fn) [] [(14,603)] [] [.d,.d] [(603,.map (QA V.I V.I O))] (.tup [.lit (.map none),.map 603,.b false]),.n 25,.denil 4 [some 2]] rfl ⟨tt_,(QbL _ _ u)⟩ ?_
  cases h
  exact d2_ rfl rfl rfl tt_
 ·replace h:QtK D=some r:=h
  refine Qa hC [.cm (.fn) [] [(14,602)] [] [.d,.d] [(602,.map (QA V.I V.I D))] (.tup [.map 602,.lit (.map none),.b false]),.n 25,.denil 4 [some 2]] rfl ⟨tt_,(QbL _ _ u)⟩ ?_
  cases h
  exact d2_ rfl rfl rfl tt_
 replace h:Qo5 w=some r:=h
 refine Qa hC [.cm (.fn) [] [(14,602),(610,603)] [] [.d,.d] [(602,.map (QA V.I V.I w.1)),(603,.map (QA V.I V.I w.2))] (.tup [.map 602,.map 603,.b true]),.n 23] rfl ⟨tt_,(QbL _ _ u)⟩ ?_
 refine AK.openMap (b:=610) Qdj rfl fun j s L12 y A=>?_
 refine Qa hC [.x (fun σ=>(σ.set 21 (.itr j s #[] none)).put 21 (.loc 21 0 0)),.n 3,.K [6,21] [14,21,610]] rfl ⟨tt_,(Stp.range (b:=610) rfl rfl (QO hC.n rfl) rfl rfl QeS rfl)⟩ ?_
 obtain⟨J,E,h⟩:=Qb h
 refine AK.range (body:=(fun st p=>QhL st p.1 p.2)) (fun st seen σ=>∃cur:Option MapEntry,σ=⟨[(6,.map 14),(21,.loc 21 0 0)],[(14,.map (QA V.I V.I st)),(21,.itr j s seen cur),(610,.mapX j s (QhI V.I V.I L12) (QA V.I V.I w.2))]⟩) (fun q e σ=>e=.ret∧σ=⟨[(4,.lit (.slice none 0 0)),(5,.I 2)],[]⟩) (fun st e σ=>e=.exit 0∧σ=⟨[(6,.map 14)],[(14,.map (QA V.I V.I st))]⟩) y A E (ex_ _ rfl) ?_ ?_
 ·rintro a seen σ ⟨cur,rfl⟩ hex
  refine tg_ hC [.n 2] rfl ?_
  refine AK.nextT (b:=21) (m:=610) rfl rfl rfl (QO hC.n rfl) rfl rfl rfl rfl ?_ ?_
  ·intro hleft
   refine tg_ hC [.n 7,.K [6] [14]] rfl ?_
   exact AK.done (Or.inl (an_ hleft (an_ (fun h=>(by cases h)) (an_ rfl rfl))))
  intro P c i g
  obtain⟨o,h⟩:=hex _ g
  have ho:=h
  replace h:QhL a c i=some o:=h
  refine Qa hC [.n 10,.x (fun σ=>σ.put 24 (.tup [.I c,.I i])),.n 10,.o (.any (.I ((QE a c).getD 0)) none),.n 2,.x (fun σ=>σ.set 14 (.map (QA V.I V.I (Qan ltI a c (w64 (((QE a c).getD 0)+i)))))),.n 6,.o (.any (.I ((QE (Qan ltI a c (w64 (((QE a c).getD 0)+i))) c).getD 0)) none),.n 3] rfl ⟨⟨⟨⟨tt_,(Stp.entryT (b:=21) (m:=610) rfl rfl (QO hC.n rfl) rfl g rfl rfl)⟩,(fun σ G L _=>Stp.lookup (e:=V.I) (f:=V.I) (l:=a) (k:=c) (z:=0) rfl rfl (QO hC.n rfl) (G _ _ rfl) (L _ _ rfl) (G _ _ rfl) QeS Qdj Qk0 rfl)⟩,(Stp.mapUpdate (e:=V.I) (f:=V.I) (l:=a) (k:=c) (v:=(w64 (((QE a c).getD 0)+i))) ltI rfl rfl rfl rfl rfl rfl QeS Qdj rfl)⟩,(fun σ G L _=>Stp.lookup (e:=V.I) (f:=V.I) (l:=(Qan ltI a c (w64 (((QE a c).getD 0)+i)))) (k:=c) (z:=0) rfl rfl (QO hC.n rfl) (G _ _ rfl) (L _ _ rfl) (G _ _ rfl) QeS Qdj Qk0 rfl)⟩ ?_
  refine bg_ h (fun t h=>Qa hC [.T,.n 8,.K [4,5] []] rfl ⟨tt_,t⟩ ?_) fun t h=>Qa hC [.F,.n 2,.K [6,21] [14,21,610]] rfl ⟨tt_,t⟩ ?_
  ·cases h
   exact AK.done (Or.inr (ex_ _ (an_ g (Or.inr (ex_ _ (an_ ho (an_ (fun h=>(by cases h)) (an_ rfl rfl))))))))
  cases h
  exact AK.done (Or.inr (ex_ _ (an_ g (Or.inl (ex_ _ (an_ ho (an_ rfl (ex_ _ rfl))))))))
 rcases J with(a | _)
 ·replace h:Qo4 a=some r:=h
  rintro e σ ⟨rfl,rfl⟩
  obtain⟨B,H,h⟩:=Qb h
  refine Qa hC [.n 5,.cm (.fn) [(617,14)] [(37,600),(14,617)] [] [.d] [(600,.arr 2 (B.map QJ)),(617,.map (QA V.I V.I a))] (.own 600 B.length),.n 5,.frz 37 (B.map QJ) [4] []] rfl ⟨⟨tt_,(Qi9 _ H)⟩,⟨tt_,(Qb7 Qg)⟩⟩ ?_
  cases h
  exact d2_ rfl rfl rfl tt_
 replace h:QtL=some r:=h
 rintro e σ ⟨rfl,rfl⟩
 refine tg_ hC [.n 2,.denil 4 [some 2]] rfl ?_
 cases h
 exact d2_ rfl rfl rfl tt_
def Qe1 (b:QMk)(c:Int)(a:QBg):Option ((Int×QMk)⊕QMk):=
 (chk (decide (b.length+([a]:List QBg).length≤4294967296))).bind fun _=>
 some (.inl ((w64 (c+1)),(b++([a]:List QBg))))
def Qjk (e:Qj)(b:Int)(d:QMk):Option ((Int×QMk)⊕QMk):=
 bif (decide (b<(e.Places.length:Int)))then
 (idx e.Places b).bind fun f=>
 (Qa0 f.First).bind fun a=>
 bif (b==e.From)then
 (Qm2 ([0]:List Int)).bind fun g=>
 (QbH a g).bind fun c=>
 bif (c.2==0)then
 Qe1 d b c.1
 else
 Qe1 d b a
 else
 Qe1 d b a
 else
 some (.inr d)
def Qqg (a:QMk):Option QMk:=
 some a
def Qf2 (a:Qj):Option QMk:=
 (QK (fun st=>Qjk a st.1 st.2) (0,([]:List QBg))).bind (fun q=>Qqg q)
theorem Qqh (g){r}(h:Qf2 g=some r):Qc prog 18 [.agg (Qd g)] [] (Gives (.own 600 r.length) [(600,.arr 1 (r.map Qi))]):=by
 refine Qc.walk 40 func18 rfl rfl rfl fun C hC=>?_
 refine Qa hC [.n 16,.o (.ln g.Places.length),.n 4,.adopt 3 34 1,.O 34 (.arr 1 (([]:List QBg).map Qi)),.S 3 (.own 34 ([]:List QBg).length),.K [1,3,10,11,12] [1,34]] rfl ⟨⟨⟨tt_,Qg⟩,rfl⟩,(congrArg (fun n=>V.own 34 n) (by simp))⟩ ?_
 obtain⟨A,m,h⟩:=Qb h
 refine AK.loop (body:=(fun st=>Qjk g st.1 st.2)) (fun st σ=>σ=⟨[(1,.loc 1 0 0),(3,.own 34 st.2.length),(10,.sl 3 (g.Places.map Qp)),(11,.I (g.Places.length:Int)),(12,.I st.1)],[(1,.var (Qd g)),(34,.arr 1 (st.2.map Qi))]⟩) (fun q e σ=>e=.exit 0∧σ=⟨[(3,.own 34 q.length)],[(34,.arr 1 (q.map Qi))]⟩) m rfl ?_ ?_
 ·rintro ⟨z,p⟩ o σ rfl h
  refine tg_ hC [.n 6] rfl ?_
  rcases Qs h with⟨j,h⟩|⟨j,h⟩
  ·obtain⟨k,s,h⟩:=Qb h
   obtain⟨i,t,h⟩:=Qb h
   refine Qa hC [.T,.n 7,.o (.row (Qp k)),.v .no [] (.agg (Qp k)),.n 3,.O 5 (.var (Qp k)),.n 6,.o (.co false [.d] 2 (i.map QJ) i.length),.n 3] rfl ⟨⟨⟨⟨⟨tt_,j⟩,(QT s)⟩,rfl⟩,rfl⟩,⟨(Qgt _ t),Qg,.inl rfl⟩⟩ ?_
   refine AK.meet (fun σ=>∃a:QBg,σ=⟨[(1,.loc 1 0 0),(3,.own 34 p.length),(6,.sl 2 (a.map QJ)),(10,.sl 3 (g.Places.map Qp)),(11,.I (g.Places.length:Int)),(12,.I z)],[(1,.var (Qd g)),(34,.arr 1 (p.map Qi))]⟩∧Qe1 p z a=some o) ?_ ?_
   ·refine tg_ hC [.n 8] rfl ?_
    rcases Qs h with⟨b,h⟩|⟨b,h⟩
    ·obtain⟨l,u,h⟩:=Qb h
     obtain⟨w,x,h⟩:=Qb h
     refine Qa hC [.T,.n 3,.v (.bd []) [] (.sl 1 (([0]:List Int).map Qe)),.o (.co false [.d] 2 (l.map QJ) l.length),.frz 27 (l.map QJ) [27] [],.frz 19 (i.map QJ) [6,19,25] [],.o (.c false [.d,.d] (.tup [.sl 2 (w.1.map QJ),.I w.2])),.n 13] rfl ⟨⟨⟨⟨⟨⟨tt_,b⟩,rfl⟩,⟨(Qve _ u),Qg,.inl rfl⟩⟩,⟨tt_,(Qb7 Qg)⟩⟩,⟨⟨⟨tt_,(Qb7 Qg)⟩,(Qb7 Qg)⟩,(Qb7 Qg)⟩⟩,(Qo6 _ _ x)⟩ ?_
     refine bg_ h (fun f h=>Qa hC [.T,.n 4,.K [1,3,6,10,11,12] [1,34]] rfl ⟨tt_,f⟩ ?_) fun f h=>Qa hC [.F,.n 1,.K [1,3,6,10,11,12] [1,34]] rfl ⟨tt_,f⟩ ?_
     ·exact AK.met (ex_ _ (an_ rfl h))
     exact AK.met (ex_ _ (an_ rfl h))
    refine Qa hC [.F,.n 1,.frz 19 (i.map QJ) [6] [],.K [1,3,6,10,11,12] [1,34]] rfl ⟨⟨tt_,b⟩,⟨tt_,(Qb7 Qg)⟩⟩ ?_
    exact AK.met (ex_ _ (an_ rfl h))
   rintro σ ⟨a,rfl,h⟩
   obtain⟨y,h⟩:=QaX h
   refine Qa hC [.n 3,.v (.bd []) [] (.sl 1 (([a]:List QBg).map Qi)),.app ((p++([a]:List QBg)).map Qi) (p++([a]:List QBg)).length,.n 8,.K [1,3,10,11,12] [1,34]] rfl ⟨⟨tt_,rfl⟩,⟨Qg,QbP y Qg,QaZ,QcM Qg⟩⟩ ?_
   cases h
   exact Q5 rfl rfl
  refine Qa hC [.F,.n 2,.K [3] [34]] rfl ⟨tt_,j⟩ ?_
  cases h
  exact Q6 rfl (an_ rfl rfl)
 replace h:Qqg A=some r:=h
 rintro e σ ⟨rfl,rfl⟩
 refine tg_ hC [.n 9,.K [2] [34],.ren 34 600] rfl ?_
 cases h
 exact d1_ rfl rfl ⟨rfl,tt_⟩
def QbJ (a:QMk):Option QMk:=
 (chk (decide (([]:List QBg).length+a.length≤4294967296))).bind fun _=>
 some (([]:List QBg)++a)
theorem QjQ (a){r}(h:QbJ a=some r):Qc prog 68 [.sl 1 (a.map Qi)] [] (Gives (.own 600 r.length) [(600,.arr 1 (r.map Qi))]):=by
 refine Qc.walk 8 func68 rfl rfl rfl fun C hC=>?_
 unfold QbJ at h
 refine tg_ hC [.n 9] rfl ?_
 refine AK.eqNil rfl rfl rfl (QO hC.n rfl) rfl rfl QEf ?_ ?_
 ·intro b
  replace h:some ([]:List QBg)=some r:=by simpa [chk,List.map_eq_nil_iff.1 b] using h
  refine Qa hC [.n 10,.adopt 2 600 1,.O 600 (.arr 1 (([]:List QBg).map Qi)),.S 2 (.own 600 ([]:List QBg).length)] rfl ⟨⟨tt_,rfl⟩,rfl⟩ ?_
  cases h
  exact d1_ rfl rfl ⟨rfl,tt_⟩
 obtain⟨c,h⟩:=QaX h
 refine Qa hC [.n 8,.O 5 (.arr 1 (([]:List QBg).map Qi)),.S 5 (.own 5 ([]:List QBg).length),.n 1,.app ((([]:List QBg)++a).map Qi) (([]:List QBg)++a).length,.n 4,.K [2] [5],.ren 5 600] rfl ⟨⟨⟨tt_,rfl⟩,rfl⟩,⟨Qg,QbP c Qg,QaZ,QcM Qg⟩⟩ ?_
 cases h
 exact d1_ rfl rfl ⟨rfl,tt_⟩
def QhM (e:QMk)(a:Int)(b:QMk):Option ((Int×QMk)⊕QMk):=
 bif (decide (a<(e.length:Int)))then
 (idx b a).bind fun c=>
 (Qa0 c).bind fun d=>
 (idx b a).bind fun f=>
 some (.inl ((w64 (a+1)),(b.set a.toNat d)))
 else
 some (.inr b)
def Qrk (a:QMk):Option QMk:=
 some a
def Qi1 (b:QMk):Option QMk:=
 (QbJ b).bind fun a=>
 (QK (fun st=>QhM a st.1 st.2) (0,a)).bind (fun q=>Qrk q)
theorem Qm3 (t){r}(h:Qi1 t=some r):Qc prog 39 [.sl 1 (t.map Qi)] [] (Gives (.own 600 r.length) [(600,.arr 1 (r.map Qi))]):=by
 refine Qc.walk 22 func39 rfl rfl rfl fun C hC=>?_
 obtain⟨j,k,h⟩:=Qb h
 refine Qa hC [.n 8,.o (.co false [.d] 1 (j.map Qi) j.length),.n 12,.K [3,8,9,10] [7]] rfl ⟨tt_,⟨(QjQ _ k),Qg,.inl rfl⟩⟩ ?_
 obtain⟨u,g,h⟩:=Qb h
 refine AK.loop (body:=(fun st=>QhM j st.1 st.2)) (fun st σ=>σ=⟨[(3,.own 7 st.2.length),(8,.own 7 st.2.length),(9,.I (j.length:Int)),(10,.I st.1)],[(7,.arr 1 (st.2.map Qi))]⟩) (fun q e σ=>e=.exit 0∧σ=⟨[(3,.own 7 q.length)],[(7,.arr 1 (q.map Qi))]⟩) g rfl ?_ ?_
 ·rintro ⟨l,m⟩ o σ rfl h
  refine tg_ hC [.n 6] rfl ?_
  rcases Qs h with⟨b,h⟩|⟨b,h⟩
  ·obtain⟨p,c,h⟩:=Qb h
   obtain⟨a,i,h⟩:=Qb h
   obtain⟨s,f,h⟩:=Qb h
   refine Qa hC [.T,.n 8,.o (.row (Qi p)),.n 8,.o (.co false [.d] 2 (a.map QJ) a.length),.n 1,.frz 18 (a.map QJ) [18] [],.st (Qi s) ((m.set l.toNat a).map Qi),.n 7,.S 3 (.own 7 (m.set l.toNat a).length),.S 8 (.own 7 (m.set l.toNat a).length),.K [3,8,9,10] [7]] rfl ⟨⟨⟨⟨⟨⟨⟨⟨⟨tt_,b⟩,(Qdd c rfl)⟩,(QbX (QdK c).2)⟩,⟨(Qgt _ i),Qg,.inl rfl⟩⟩,(Qdd f rfl)⟩,⟨tt_,(Qb7 Qg)⟩⟩,⟨(QbX (QdK f).2),Qmi rfl⟩⟩,(congrArg (fun n=>V.own 7 n) (by simp))⟩,(congrArg (fun n=>V.own 7 n) (by simp))⟩ ?_
   cases h
   exact Q5 rfl rfl
  refine Qa hC [.F,.n 2,.K [3] [7]] rfl ⟨tt_,b⟩ ?_
  cases h
  exact Q6 rfl (an_ rfl rfl)
 replace h:Qrk u=some r:=h
 rintro e σ ⟨rfl,rfl⟩
 refine tg_ hC [.n 9,.K [2] [7],.ren 7 600] rfl ?_
 cases h
 exact d1_ rfl rfl ⟨rfl,tt_⟩
def Qo7 (c:Int)(a:Int)(b:(List Int)):Option ((Int×(List Int))⊕(List Int)):=
 bif (decide (0≤a))then
 (chk (decide (0≤(w64 (8*a))))).bind fun _=>
 (chk (decide (b.length+([(IntKind.u8.wrap (Qbt .i64 c (w64 (8*a))))]:List Int).length≤4294967296))).bind fun _=>
 some (.inl ((w64 (a-1)),(b++([(IntKind.u8.wrap (Qbt .i64 c (w64 (8*a))))]:List Int))))
 else
 some (.inr b)
def Qo8 (b:Int)(a:(List Int)):Option ((Int×(List Int))⊕(List Int)):=
 some (.inl ((w64 (b+1)),a))
def Qo9 (d:(List Int))(a:Int)(b:Int)(e:(List Int)):Option ((Int×(List Int))⊕(List Int)):=
 bif (decide (b<(d.length:Int)))then
 (idx d b).bind fun c=>
 (QK (fun st=>Qo7 c st.1 st.2) ((w64 (a-1)),e)).bind (fun q=>Qo8 b q)
 else
 some (.inr e)
def Qpa (a:(List Int)):Option (List Int):=
 some a
def QnQ (a:Int)(b:(List Int)):Option (List Int):=
 (QK (fun st=>Qo9 b a st.1 st.2) (0,([]:List Int))).bind (fun q=>Qpa q)
theorem Qvo (a g){r}(h:QnQ a g=some r):Qc prog 155 [.lit (.slice none 0 0),.I a,.sl 1 (g.map Qe)] [] (Gives (.own 600 r.length) [(600,.arr 1 (r.map QaW))]):=by
 refine Qc.walk 32 func155 rfl rfl rfl fun C hC=>?_
 refine Qa hC [.n 9,.o (.ln g.length),.n 4,.adopt 0 22 1,.O 22 (.arr 1 (([]:List Int).map QaW)),.S 0 (.own 22 ([]:List Int).length),.K [0,1,10,11,12] [22]] rfl ⟨⟨⟨tt_,Qg⟩,rfl⟩,(congrArg (fun n=>V.own 22 n) (by simp))⟩ ?_
 obtain⟨x,j,h⟩:=Qb h
 refine AK.loop (body:=(fun st=>Qo9 g a st.1 st.2)) (fun st σ=>σ=⟨[(0,.own 22 st.2.length),(1,.I a),(10,.sl 1 (g.map Qe)),(11,.I (g.length:Int)),(12,.I st.1)],[(22,.arr 1 (st.2.map QaW))]⟩) (fun q e σ=>e=.exit 0∧σ=⟨[(0,.own 22 q.length)],[(22,.arr 1 (q.map QaW))]⟩) j rfl ?_ ?_
 ·rintro ⟨u,z⟩ o σ rfl h
  refine tg_ hC [.n 6] rfl ?_
  rcases Qs h with⟨c,h⟩|⟨c,h⟩
  ·obtain⟨b,k,h⟩:=Qb h
   refine Qa hC [.T,.n 6,.o (.row (Qe b)),.n 12,.K [0,1,8,9,10,11,12] [22]] rfl ⟨⟨tt_,c⟩,(QT k)⟩ ?_
   obtain⟨w,l,h⟩:=Qb h
   refine AK.loop (body:=(fun st=>Qo7 b st.1 st.2)) (fun st σ=>σ=⟨[(0,.own 22 st.2.length),(1,.I a),(8,.I b),(9,.I st.1),(10,.sl 1 (g.map Qe)),(11,.I (g.length:Int)),(12,.I u)],[(22,.arr 1 (st.2.map QaW))]⟩) (fun q e σ=>e=.exit 2∧σ=⟨[(0,.own 22 q.length),(1,.I a),(10,.sl 1 (g.map Qe)),(11,.I (g.length:Int)),(12,.I u)],[(22,.arr 1 (q.map QaW))]⟩) l rfl ?_ ?_
   ·rintro ⟨d,m⟩ o σ rfl h
    refine tg_ hC [.n 7] rfl ?_
    rcases Qs h with⟨f,h⟩|⟨f,h⟩
    ·obtain⟨p,h⟩:=QaX h
     obtain⟨s,h⟩:=QaX h
     refine Qa hC [.T,.n 9,.o (.any (.I (Qbt .i64 b (w64 (8*d)))) none),.o (.any (.i .u8 (IntKind.u8.wrap (Qbt .i64 b (w64 (8*d))))) none),.v (.bd []) [] (.sl 1 (([(IntKind.u8.wrap (Qbt .i64 b (w64 (8*d))))]:List Int).map QaW)),.app ((m++([(IntKind.u8.wrap (Qbt .i64 b (w64 (8*d))))]:List Int)).map QaW) (m++([(IntKind.u8.wrap (Qbt .i64 b (w64 (8*d))))]:List Int)).length,.n 9,.K [0,1,8,9,10,11,12] [22]] rfl ⟨⟨⟨⟨⟨tt_,f⟩,(fun σ t y _=>Stp.shr rfl rfl (QO hC.n rfl) (t _ _ rfl) (t _ _ rfl) (Q7 p))⟩,(fun σ t y _=>Stp.convI rfl rfl (QO hC.n rfl) (t _ _ rfl) Qvn Qz5)⟩,rfl⟩,⟨Qg,QbP s Qg,QaZ,QcM Qg⟩⟩ ?_
     cases h
     exact Q5 rfl rfl
    refine Qa hC [.F,.n 2,.K [0,1,10,11,12] [22]] rfl ⟨tt_,f⟩ ?_
    cases h
    exact Q6 rfl (an_ rfl rfl)
   replace h:Qo8 u w=some o:=h
   rintro e σ ⟨rfl,rfl⟩
   refine tg_ hC [.n 7,.K [0,1,10,11,12] [22]] rfl ?_
   cases h
   exact Q5 rfl rfl
  refine Qa hC [.F,.n 2,.K [0] [22]] rfl ⟨tt_,c⟩ ?_
  cases h
  exact Q6 rfl (an_ rfl rfl)
 replace h:Qpa x=some r:=h
 rintro e σ ⟨rfl,rfl⟩
 refine tg_ hC [.n 9,.K [6] [22],.ren 22 600] rfl ?_
 cases h
 exact d1_ rfl rfl ⟨rfl,tt_⟩
def Qes (c:Int)(a:Int)(b:(List Int)):Option ((Int×(List Int))⊕(List Int)):=
 bif (decide (0≤a))then
 (chk (decide (0≤(w64 (8*a))))).bind fun _=>
 (chk (decide (b.length+([(IntKind.u8.wrap (Qbt .i64 c (w64 (8*a))))]:List Int).length≤4294967296))).bind fun _=>
 some (.inl ((w64 (a-1)),(b++([(IntKind.u8.wrap (Qbt .i64 c (w64 (8*a))))]:List Int))))
 else
 some (.inr b)
def QlP (b:Int)(a:(List Int)):Option ((Int×(List Int))⊕(List Int)):=
 some (.inl ((w64 (b+1)),a))
def Qf3 (d:(List Int))(a:Int)(b:Int)(e:(List Int)):Option ((Int×(List Int))⊕(List Int)):=
 bif (decide (b<(d.length:Int)))then
 (idx d b).bind fun c=>
 (QK (fun st=>Qes c st.1 st.2) ((w64 (a-1)),e)).bind (fun q=>QlP b q)
 else
 some (.inr e)
def Qpb (a:(List Int)):Option (List Int):=
 some a
def QgC (b:(List Int))(a:Int)(c:(List Int)):Option (List Int):=
 (QK (fun st=>Qf3 c a st.1 st.2) (0,b)).bind (fun q=>Qpb q)
theorem Qpc (u a g){r}(h:QgC u a g=some r):Qc prog 155 [.own 615 u.length,.I a,.sl 1 (g.map Qe)] [(615,.arr 1 (u.map QaW))] (Gives (.own 615 r.length) [(615,.arr 1 (r.map QaW))]):=by
 refine Qc.walk 32 func155 rfl rfl rfl fun C hC=>?_
 refine Qa hC [.n 9,.o (.ln g.length),.n 4,.K [0,1,10,11,12] [615]] rfl ⟨tt_,Qg⟩ ?_
 obtain⟨w,j,h⟩:=Qb h
 refine AK.loop (body:=(fun st=>Qf3 g a st.1 st.2)) (fun st σ=>σ=⟨[(0,.own 615 st.2.length),(1,.I a),(10,.sl 1 (g.map Qe)),(11,.I (g.length:Int)),(12,.I st.1)],[(615,.arr 1 (st.2.map QaW))]⟩) (fun q e σ=>e=.exit 0∧σ=⟨[(0,.own 615 q.length)],[(615,.arr 1 (q.map QaW))]⟩) j rfl ?_ ?_
 ·rintro ⟨x,A⟩ o σ rfl h
  refine tg_ hC [.n 6] rfl ?_
  rcases Qs h with⟨c,h⟩|⟨c,h⟩
  ·obtain⟨b,k,h⟩:=Qb h
   refine Qa hC [.T,.n 6,.o (.row (Qe b)),.n 12,.K [0,1,8,9,10,11,12] [615]] rfl ⟨⟨tt_,c⟩,(QT k)⟩ ?_
   obtain⟨y,l,h⟩:=Qb h
   refine AK.loop (body:=(fun st=>Qes b st.1 st.2)) (fun st σ=>σ=⟨[(0,.own 615 st.2.length),(1,.I a),(8,.I b),(9,.I st.1),(10,.sl 1 (g.map Qe)),(11,.I (g.length:Int)),(12,.I x)],[(615,.arr 1 (st.2.map QaW))]⟩) (fun q e σ=>e=.exit 2∧σ=⟨[(0,.own 615 q.length),(1,.I a),(10,.sl 1 (g.map Qe)),(11,.I (g.length:Int)),(12,.I x)],[(615,.arr 1 (q.map QaW))]⟩) l rfl ?_ ?_
   ·rintro ⟨d,m⟩ o σ rfl h
    refine tg_ hC [.n 7] rfl ?_
    rcases Qs h with⟨f,h⟩|⟨f,h⟩
    ·obtain⟨p,h⟩:=QaX h
     obtain⟨s,h⟩:=QaX h
     refine Qa hC [.T,.n 9,.o (.any (.I (Qbt .i64 b (w64 (8*d)))) none),.o (.any (.i .u8 (IntKind.u8.wrap (Qbt .i64 b (w64 (8*d))))) none),.v (.bd []) [] (.sl 1 (([(IntKind.u8.wrap (Qbt .i64 b (w64 (8*d))))]:List Int).map QaW)),.app ((m++([(IntKind.u8.wrap (Qbt .i64 b (w64 (8*d))))]:List Int)).map QaW) (m++([(IntKind.u8.wrap (Qbt .i64 b (w64 (8*d))))]:List Int)).length,.n 9,.K [0,1,8,9,10,11,12] [615]] rfl ⟨⟨⟨⟨⟨tt_,f⟩,(fun σ t z _=>Stp.shr rfl rfl (QO hC.n rfl) (t _ _ rfl) (t _ _ rfl) (Q7 p))⟩,(fun σ t z _=>Stp.convI rfl rfl (QO hC.n rfl) (t _ _ rfl) Qvn Qz5)⟩,rfl⟩,⟨Qg,QbP s Qg,QaZ,QcM Qg⟩⟩ ?_
     cases h
     exact Q5 rfl rfl
    refine Qa hC [.F,.n 2,.K [0,1,10,11,12] [615]] rfl ⟨tt_,f⟩ ?_
    cases h
    exact Q6 rfl (an_ rfl rfl)
   replace h:QlP x y=some o:=h
   rintro e σ ⟨rfl,rfl⟩
   refine tg_ hC [.n 7,.K [0,1,10,11,12] [615]] rfl ?_
   cases h
   exact Q5 rfl rfl
  refine Qa hC [.F,.n 2,.K [0] [615]] rfl ⟨tt_,c⟩ ?_
  cases h
  exact Q6 rfl (an_ rfl rfl)
 replace h:Qpb w=some r:=h
 rintro e σ ⟨rfl,rfl⟩
 refine tg_ hC [.n 9] rfl ?_
 cases h
 exact d1_ rfl rfl ⟨rfl,tt_⟩
def QlQ (a:QBg):Option Bool:=
 (Qc5 a).bind fun b=>
 bif (!b)then
 some true
 else
 bif (decide (65535<(a.length:Int)))then
 some true
 else
 bif (decide (0<(a.length:Int)))then
 (idx a (w64 ((a.length:Int)-1))).bind fun c=>
 some (decide (4294967295<c.1))
 else
 some false
def Qf4 (b:QBg)(a:Int)(c:(List Int)):Option ((Int×(List Int))⊕(List Int)):=
 bif (decide (a<(b.length:Int)))then
 (idx b a).bind fun d=>
 (QgC c 4 ([d.1,d.2]:List Int)).bind fun e=>
 some (.inl ((w64 (a+1)),e))
 else
 some (.inr c)
def QlR (b:Int)(a:(List Int)):Option ((Int×(List Int))⊕(Unit⊕(List Int))):=
 some (.inl ((w64 (b+1)),a))
def Qik (b:(List Int))(a:QBg)(e:Int)(c:Bool):Option ((Int×(List Int))⊕(Unit⊕(List Int))):=
 bif c then
 some (.inr (.inl ()))
 else
 (QgC b 2 ([(a.length:Int)]:List Int)).bind fun d=>
 (QK (fun st=>Qf4 a st.1 st.2) (0,d)).bind (fun q=>QlR e q)
def Qf5 (e:QMk)(c:Int)(a:(List Int)):Option ((Int×(List Int))⊕(Unit⊕(List Int))):=
 bif (decide (c<(e.length:Int)))then
 (idx e c).bind fun b=>
 (QlQ b).bind (fun d=>Qik a b c d)
 else
 some (.inr (.inr a))
def Qpd : Option ((List Int)×Int):=
 some (([]:List Int),1)
def Qpe (a:(List Int)):Option ((List Int)×Int):=
 some (a,0)
def QgD (a:QMk):Option ((List Int)×Int):=
 bif (decide (64<(a.length:Int)))then
 some (([]:List Int),1)
 else
 (QnQ 1 ([(a.length:Int)]:List Int)).bind fun b=>
 (QK (fun st=>Qf5 a st.1 st.2) (0,b)).bind (Sum.elim (fun q=>Qpd) (fun q=>Qpe q))
theorem Qpf (f){r}(h:QgD f=some r):Qc prog 107 [.sl 1 (f.map Qi)] [] (Gives (.tup [.sl 1 (r.1.map QaW),.I r.2]) []):=by
 refine Qc.walk 66 func107 rfl rfl rfl fun C hC=>?_
 refine Qa hC [.n 10,.o (.ln f.length),.n 3] rfl ⟨tt_,Qg⟩ ?_
 rcases Qs h with⟨t,h⟩|⟨t,h⟩
 ·refine Qa hC [.T,.n 8,.denil 2 [some 1]] rfl ⟨tt_,t⟩ ?_
  cases h
  exact d2_ rfl rfl rfl tt_
 obtain⟨Y,N,h⟩:=Qb h
 refine Qa hC [.F,.n 5,.o (.ln f.length),.v (.bd []) [] (.sl 1 (([(f.length:Int)]:List Int).map Qe)),.cm (.fn) [] [(15,600)] [] [.d,.d,.d] [(600,.arr 1 (Y.map QaW))] (.own 600 Y.length),.n 7,.o (.ln f.length),.n 4,.K [4,16,17,18] [15]] rfl ⟨⟨⟨⟨⟨tt_,t⟩,Qg⟩,rfl⟩,(Qvo _ _ N)⟩,Qg⟩ ?_
 obtain⟨P,x,h⟩:=Qb h
 refine AK.loop (body:=(fun st=>Qf5 f st.1 st.2)) (fun st σ=>σ=⟨[(4,.own 15 st.2.length),(16,.sl 1 (f.map Qi)),(17,.I (f.length:Int)),(18,.I st.1)],[(15,.arr 1 (st.2.map QaW))]⟩) (Sum.elim (fun q e σ=>e=.ret∧σ=⟨[(2,.lit (.slice none 0 0)),(3,.I 1)],[]⟩) (fun q e σ=>e=.exit 0∧σ=⟨[(4,.own 15 q.length)],[(15,.arr 1 (q.map QaW))]⟩)) x rfl ?_ ?_
 ·rintro ⟨w,s⟩ o σ rfl h
  refine tg_ hC [.n 6] rfl ?_
  rcases Qs h with⟨g,h⟩|⟨g,h⟩
  ·obtain⟨a,y,h⟩:=Qb h
   refine Qa hC [.T,.n 6,.o (.row (Qi a)),.n 6] rfl ⟨⟨tt_,g⟩,(QT y)⟩ ?_
   obtain⟨u,z,h⟩:=Qb h
   replace h:Qik s a w u=some o:=h
   refine AK.meetX (fun σ=>σ=⟨[(4,.own 15 s.length),(6,.sl 2 (a.map QJ)),(16,.sl 1 (f.map Qi)),(17,.I (f.length:Int)),(18,.I w),(44,.b u)],[(15,.arr 1 (s.map QaW))]⟩) ?_ ?_
   ·replace h:=z
    obtain⟨U,A,h⟩:=Qb h
    refine Qa hC [.n 2,.o (.c false [.d] (.b U)),.n 2] rfl ⟨tt_,(QfR _ A)⟩ ?_
    refine bg_ h (fun i h=>Qa hC [.S 25 (.b true),.n 20,.K [4,6,16,17,18,44] [15]] rfl (tc_ i) ?_) fun i h=>Qa hC [.S 25 (.b false),.n 1,.o (.ln a.length),.n 3] rfl ⟨(tc_ i),Qg⟩ ?_
    ·cases h
     exact AK.met rfl
    refine bg_ h (fun j h=>Qa hC [.S 30 (.b true),.n 15,.K [4,6,16,17,18,44] [15]] rfl (tc_ j) ?_) fun j h=>Qa hC [.S 30 (.b false),.n 1,.o (.ln a.length),.n 2] rfl ⟨(tc_ j),Qg⟩ ?_
    ·cases h
     exact AK.met rfl
    rcases Qs h with⟨k,h⟩|⟨k,h⟩
    ·obtain⟨W,B,h⟩:=Qb h
     refine Qa hC [.S 34 (.b true),.n 2,.o (.ln a.length),.n 1,.o (.row (QJ W)),.n 6,.K [4,6,16,17,18,44] [15]] rfl ⟨⟨(tc_ k),Qg⟩,(QT B)⟩ ?_
     cases h
     exact AK.met rfl
    refine Qa hC [.S 34 (.b false),.n 11,.K [4,6,16,17,18,44] [15]] rfl (tc_ k) ?_
    cases h
    exact AK.met rfl
   rintro σ rfl
   replace h:Qik s a w u=some o:=h
   refine tg_ hC [.n 1] rfl ?_
   rcases Qs h with⟨l,h⟩|⟨l,h⟩
   ·refine Qa hC [.T,.n 10,.K [2,3] []] rfl ⟨tt_,l⟩ ?_
    cases h
    exact Qar rfl (an_ rfl rfl)
   obtain⟨D,E,h⟩:=Qb h
   refine Qa hC [.F,.n 6,.o (.ln a.length),.v (.bd []) [] (.sl 1 (([(a.length:Int)]:List Int).map Qe)),.cm (.fn) [(615,15)] [(15,615)] [15] [.d,.d,.d] [(615,.arr 1 (D.map QaW))] (.own 615 D.length),.n 6,.o (.ln a.length),.n 4,.K [4,16,17,18,50,51,52] [15]] rfl ⟨⟨⟨⟨⟨tt_,l⟩,Qg⟩,rfl⟩,(Qpc _ _ _ E)⟩,Qg⟩ ?_
   obtain⟨X,G,h⟩:=Qb h
   refine AK.loop (body:=(fun st=>Qf4 a st.1 st.2)) (fun st σ=>σ=⟨[(4,.own 15 st.2.length),(16,.sl 1 (f.map Qi)),(17,.I (f.length:Int)),(18,.I w),(50,.sl 2 (a.map QJ)),(51,.I (a.length:Int)),(52,.I st.1)],[(15,.arr 1 (st.2.map QaW))]⟩) (fun q e σ=>e=.exit 2∧σ=⟨[(4,.own 15 q.length),(16,.sl 1 (f.map Qi)),(17,.I (f.length:Int)),(18,.I w)],[(15,.arr 1 (q.map QaW))]⟩) G rfl ?_ ?_
   ·rintro ⟨Z,a0⟩ o σ rfl h
    refine tg_ hC [.n 6] rfl ?_
    rcases Qs h with⟨m,h⟩|⟨m,h⟩
    ·obtain⟨p,H,h⟩:=Qb h
     obtain⟨J,L,h⟩:=Qb h
     refine Qa hC [.T,.n 6,.o (.row (QJ p)),.v .no [] (.agg (QJ p)),.n 2,.O 8 (.var (QJ p)),.n 8,.v (.bd []) [] (.sl 1 (([p.1,p.2]:List Int).map Qe)),.cm (.fn) [(615,15)] [(15,615)] [15] [.d,.d,.d] [(615,.arr 1 (J.map QaW))] (.own 615 J.length),.n 8,.K [4,16,17,18,50,51,52] [15]] rfl ⟨⟨⟨⟨⟨⟨tt_,m⟩,(QT H)⟩,rfl⟩,rfl⟩,rfl⟩,(Qpc _ _ _ L)⟩ ?_
     cases h
     exact Q5 rfl rfl
    refine Qa hC [.F,.n 2,.K [4,16,17,18] [15]] rfl ⟨tt_,m⟩ ?_
    cases h
    exact Q6 rfl (an_ rfl rfl)
   replace h:QlR w X=some o:=h
   rintro e σ ⟨rfl,rfl⟩
   refine tg_ hC [.n 7,.K [4,16,17,18] [15]] rfl ?_
   cases h
   exact Q5 rfl rfl
  refine Qa hC [.F,.n 2,.K [4] [15]] rfl ⟨tt_,g⟩ ?_
  cases h
  exact Q6 rfl (an_ rfl rfl)
 rcases P with(_ | M)
 ·replace h:Qpd=some r:=h
  rintro e σ ⟨rfl,rfl⟩
  refine tg_ hC [.n 2,.denil 2 [some 1]] rfl ?_
  cases h
  exact d2_ rfl rfl rfl tt_
 replace h:Qpe M=some r:=h
 rintro e σ ⟨rfl,rfl⟩
 refine Qa hC [.n 10,.frz 15 (M.map QaW) [2] []] rfl ⟨tt_,⟨tt_,(Qb7 Qg)⟩⟩ ?_
 cases h
 exact d2_ rfl rfl rfl tt_
def Qnt (a:QMk):Option ByteArray:=
 (QgD a).bind fun b=>
 some (Qjj b.1)
theorem Qrl (e){r}(h:Qnt e=some r):Qc prog 67 [.sl 1 (e.map Qi)] [] (Gives (.s r) []):=by
 refine Qc.walk 12 func67 rfl rfl rfl fun C hC=>?_
 obtain⟨a,b,h⟩:=Qb h
 refine Qa hC [.n 8,.o (.c false [.d] (.tup [.sl 1 (a.1.map QaW),.I a.2])),.n 10,.o (.any (.s (Qjj a.1)) none),.n 4] rfl ⟨⟨tt_,(Qpf _ b)⟩,(fun σ f g _=>Stp.b2s rfl rfl (QO hC.n rfl) (f _ _ rfl) rfl QA3 Qz5 (Qq.sb rfl))⟩ ?_
 cases h
 exact d1_ rfl rfl tt_
def Qc6 (g:(List QI))(h:(List QN))(i:(List QB))(j:Int)(k:Int)(f:Int)(d:(List (ByteArray×Int)))(b:(List QMk))(m:(List Qaa))(c:Bool)(a:QMk):Option (Int×(List QMk)×(List QI)×(List QN)×(List QB)×Int×Int×Int×Bool×(List (ByteArray×Int))):=
 (Qnt a).bind fun e=>
 bif (QE d e).isSome then
 some (((QE d e).getD 0),b,g,h,i,j,k,f,c,d)
 else
 bif (decide ((min2 f 4096)≤(b.length:Int)))then
 some ((-1),b,g,h,i,j,k,f,c,d)
 else
 (Qnt a).bind fun l=>
 (chk (decide (b.length+([a]:List QMk).length≤4294967296))).bind fun _=>
 some ((b.length:Int),(b++([a]:List QMk)),g,h,i,j,k,f,c,(Qan ltS d l (b.length:Int)))
theorem Qjl (D E G H J L q p w t g){r}(h:Qc6 D E G H J L q p w t g=some r):Qc prog 38 [.loc 617 0 0,.sl 1 (g.map Qi)] [(617,.var [.sl 7 (D.map Qu),.sl 3 (E.map Qp),.sl 14 (G.map Qh),.I H,.I J,.I L,.map 618,.own 615 p.length,.own 616 w.length,.b t]),(618,.map (QA V.s V.I q)),(615,.arr 1 (p.map Qt)),(616,.arr 6 (w.map QU))] (Gives (.I r.1) [(615,.arr 1 (r.2.1.map Qt)),(616,.arr 6 (w.map QU)),(617,.var [.sl 7 (r.2.2.1.map Qu),.sl 3 (r.2.2.2.1.map Qp),.sl 14 (r.2.2.2.2.1.map Qh),.I r.2.2.2.2.2.1,.I r.2.2.2.2.2.2.1,.I r.2.2.2.2.2.2.2.1,.map 618,.own 615 r.2.1.length,.own 616 w.length,.b r.2.2.2.2.2.2.2.2.1]),(618,.map (QA V.s V.I r.2.2.2.2.2.2.2.2.2))]):=by
 refine Qc.walk 59 func38 rfl rfl rfl fun C hC=>?_
 obtain⟨o,y,h⟩:=Qb h
 refine tg_ hC [.n 6,.K [0,1] [615,616,617,618]] rfl ?_
 refine AK.draw2 Qq hC mixed [.N,.N,.N,.N,.N,.a (.c false [.d] (.s o)) none false,.a (.any (.tup [.I ((QE q o).getD 0),.b (QE q o).isSome]) none) none false,.N,.N,.N,.N,.N] [] [] [0,1,5,6] [615,616,617,618] rfl rfl rfl ⟨⟨tt_,(Qrl _ y)⟩,(fun σ x M _=>Stp.lookupOk (e:=V.s) (f:=V.I) (l:=q) (k:=o) (z:=0) rfl rfl (QO hC.n rfl) (x _ _ rfl) (M _ _ rfl) (x _ _ rfl) QCO Qsv Qk0 rfl rfl)⟩ rfl (by kernel_rfl) rfl rfl rfl ?_
 refine tg_ hC [.n 9] rfl ?_
 refine bg_ h (fun i h=>Qa hC [.T,.n 9,.K [4] [615,616,617,618]] rfl ⟨tt_,i⟩ ?_) fun i h=>Qa hC [.F,.n 1,.K [0,1] [615,616,617,618]] rfl ⟨tt_,i⟩ ?_
 ·cases h
  exact d1_ rfl rfl ⟨rfl,rfl,rfl,rfl,tt_⟩
 refine AK.draw2 Qq hC mixed [.N,.N,.N,.N,.N,.N,.N,.N,.N,.N,.N,.N,.N] [] [] [0,1,20] [615,616,617,618] rfl rfl rfl tt_ rfl (by kernel_rfl) rfl rfl rfl ?_
 refine tg_ hC [.n 1] rfl ?_
 rcases Qs h with⟨j,h⟩|⟨j,h⟩
 ·refine Qa hC [.T,.n 8] rfl ⟨tt_,j⟩ ?_
  cases h
  exact d1_ rfl rfl ⟨rfl,rfl,rfl,rfl,tt_⟩
 obtain⟨u,A,h⟩:=Qb h
 refine Qa hC [.F,.n 15,.K [0,1,5] [615,616,617,618]] rfl ⟨tt_,j⟩ ?_
 refine AK.draw2 Qq hC mixed [.N,.N,.N,.N,.N,.a (.c false [.d] (.s u)) none false,.N,.m (.any ⟨[],[(618,.map (QA V.s V.I (Qan ltS q u (p.length:Int))))],none⟩)] [] [] [0,1,5] [615,616,617,618] rfl rfl rfl ⟨⟨tt_,(Qrl _ A)⟩,(fun σ x M=>Stp.mapUpdate (e:=V.s) (f:=V.I) (l:=q) (k:=u) (v:=(p.length:Int)) ltS rfl rfl (x _ _ rfl) (M _ _ rfl) (x _ _ rfl) (x _ _ rfl) QCO Qsv rfl)⟩ rfl (by kernel_rfl) rfl rfl rfl ?_
 obtain⟨B,h⟩:=QaX h
 refine Qa hC [.n 10,.v (.bd []) [] (.sl 1 (([g]:List QMk).map Qt)),.app ((p++([g]:List QMk)).map Qt) (p++([g]:List QMk)).length,.n 4,.O 617 (.var [.sl 7 (D.map Qu),.sl 3 (E.map Qp),.sl 14 (G.map Qh),.I H,.I J,.I L,.map 618,.own 615 (p++([g]:List QMk)).length,.own 616 w.length,.b t]),.n 9] rfl ⟨⟨⟨tt_,rfl⟩,⟨Qg,QbP B Qg,QaZ,QcM Qg⟩⟩,rfl⟩ ?_
 cases h
 exact d1_ rfl rfl ⟨rfl,rfl,rfl,rfl,tt_⟩
def Qrm (a:Unit):Option Int:=
 some 0
noncomputable def Qet (n9:Int)(k11:Int)(v12:Int):Option (Int⊕Empty):=
 some (.inl (w64 (n9+v12)))
def Qrn (a:Int):Option Int:=
 some a
noncomputable def Qkw (a6:QBg):Option Int:=
 (QiP (fun st p=>Qet st p.1 p.2) 0 a6).bind (Sum.elim (fun q=>Qrn q) (fun q=>Empty.elim q))
def Qnu (a:QBg):Option Int:=
 (QlO a).bind (Sum.elim (fun q=>Qrm q) (fun q=>Qkw q))
theorem Qw6 (w){r}(h:Qnu w=some r):Qc prog 69 [.sl 2 (w.map QJ)] [] (Gives (.I r) []):=by
 refine Qc.walk 23 func69 rfl rfl rfl fun C hC=>?_
 obtain⟨z,g,h⟩:=Qb h
 refine tg_ hC [.n 8] rfl ?_
 rcases z with(A | t)
 ·replace h:Qrm A=some r:=h
  refine Qa hC [.cm (.fn) [] [] [] [.d] [] (.tup [.lit (.map none),.b false]),.n 16,.x (fun σ=>(σ.set 14 .itr0).put 14 (.loc 14 0 0)),.n 3] rfl ⟨⟨tt_,(QfN _ g)⟩,(Stp.range0 rfl rfl (QO hC.n rfl) rfl QeS rfl)⟩ ?_
  refine AK.loopOnce ?_
  refine Qa hC [.n 2,.x (fun σ=>σ.put 15 (.tup [.b false])),.n 17] rfl ⟨tt_,(Stp.next0 rfl rfl (QO hC.n rfl) rfl rfl)⟩ ?_
  cases h
  exact d1_ rfl rfl tt_
 replace h:Qkw t=some r:=h
 refine Qa hC [.cm (.fn) [] [(10,601)] [] [.d] [(601,.map (QA V.I V.I t))] (.tup [.map 601,.b true]),.n 16] rfl ⟨tt_,(QfN _ g)⟩ ?_
 refine AK.openMap (b:=10) Qdj rfl fun a c L7 i j=>?_
 refine Qa hC [.x (fun σ=>(σ.set 14 (.itr a c #[] none)).put 14 (.loc 14 0 0)),.n 3,.K [5,14] [10,14]] rfl ⟨tt_,(Stp.range (b:=10) rfl rfl (QO hC.n rfl) rfl rfl QeS rfl)⟩ ?_
 obtain⟨u,k,h⟩:=Qb h
 refine AK.range (body:=(fun st p=>Qet st p.1 p.2)) (fun st seen σ=>∃cur:Option MapEntry,σ=⟨[(5,.I st),(14,.loc 14 0 0)],[(10,.mapX a c (QhI V.I V.I L7) (QA V.I V.I t)),(14,.itr a c seen cur)]⟩) (fun (q:Empty) _ _=>False) (fun st e σ=>e=.exit 0∧σ=⟨[(5,.I st)],[]⟩) i j k (ex_ _ rfl) ?_ ?_
 ·rintro v seen σ ⟨cur,rfl⟩ hex
  refine tg_ hC [.n 2] rfl ?_
  refine AK.nextT (b:=14) (m:=10) rfl rfl rfl (QO hC.n rfl) rfl rfl rfl rfl ?_ ?_
  ·intro hleft
   refine tg_ hC [.n 7,.K [5] []] rfl ?_
   exact AK.done (Or.inl (an_ hleft (an_ (fun h=>(by cases h)) (an_ rfl rfl))))
  intro y l s f
  obtain⟨o,h⟩:=hex _ f
  have ho:=h
  replace h:Qet v l s=some o:=h
  refine Qa hC [.n 10,.x (fun σ=>σ.put 17 (.tup [.I l,.I s])),.n 11,.K [5,14] [10,14]] rfl ⟨tt_,(Stp.entryT (b:=14) (m:=10) rfl rfl (QO hC.n rfl) rfl f rfl rfl)⟩ ?_
  cases h
  exact AK.done (Or.inr (ex_ _ (an_ f (Or.inl (ex_ _ (an_ ho (an_ rfl (ex_ _ rfl))))))))
 rcases u with(v | q)
 ·replace h:Qrn v=some r:=h
  rintro e σ ⟨rfl,rfl⟩
  refine tg_ hC [.n 9] rfl ?_
  cases h
  exact d1_ rfl rfl tt_
 exact q.elim
def QgJ (c:QMk)(d:Int)(a:Int):Option ((Int×Int)⊕Int):=
 bif (decide (a<(c.length:Int)))then
 (idx c a).bind fun e=>
 (Qnu e).bind fun b=>
 some (.inl ((w64 (d+b)),(w64 (a+1))))
 else
 some (.inr d)
def Qqi (a:Int):Option Int:=
 some a
def QjY (a:QMk):Option Int:=
 (QK (fun st=>QgJ a st.1 st.2) (0,0)).bind (fun q=>Qqi q)
theorem Qqj (b){r}(h:QjY b=some r):Qc prog 40 [.sl 1 (b.map Qi)] [] (Gives (.I r) []):=by
 refine Qc.walk 18 func40 rfl rfl rfl fun C hC=>?_
 refine Qa hC [.n 14,.o (.ln b.length),.n 4,.K [3,6,7,8] []] rfl ⟨tt_,Qg⟩ ?_
 obtain⟨k,f,h⟩:=Qb h
 refine AK.loop (body:=(fun st=>QgJ b st.1 st.2)) (fun st σ=>σ=⟨[(3,.I st.1),(6,.sl 1 (b.map Qi)),(7,.I (b.length:Int)),(8,.I st.2)],[]⟩) (fun q e σ=>e=.exit 0∧σ=⟨[(3,.I q)],[]⟩) f rfl ?_ ?_
 ·rintro ⟨m,p⟩ o σ rfl h
  refine tg_ hC [.n 6] rfl ?_
  rcases Qs h with⟨a,h⟩|⟨a,h⟩
  ·obtain⟨l,i,h⟩:=Qb h
   obtain⟨j,g,h⟩:=Qb h
   refine Qa hC [.T,.n 6,.o (.row (Qi l)),.n 7,.o (.c false [.d] (.I j)),.n 9,.K [3,6,7,8] []] rfl ⟨⟨⟨tt_,a⟩,(QT i)⟩,(Qw6 _ g)⟩ ?_
   cases h
   exact Q5 rfl rfl
  refine Qa hC [.F,.n 2,.K [3] []] rfl ⟨tt_,a⟩ ?_
  cases h
  exact Q6 rfl (an_ rfl rfl)
 replace h:Qqi k=some r:=h
 rintro e σ ⟨rfl,rfl⟩
 refine tg_ hC [.n 9] rfl ?_
 cases h
 exact d1_ rfl rfl tt_
def Qfl (a:QLL):Option QLL:=
 some a
def Qn2 (b:Int)(a:Int)(c:(List Int)):Option ((Int×(List Int))⊕(List Int)):=
 bif (decide (a<b))then
 (chk (decide (c.length+([a]:List Int).length≤4294967296))).bind fun _=>
 some (.inl ((w64 (a+1)),(c++([a]:List Int))))
 else
 some (.inr c)
def Qn3 (a:(List Int)):Option QLL:=
 some ([a]:List (List Int))
def Qn4 (b:Int)(a:Int)(c:QLL):Option ((Int×QLL)⊕QLL):=
 bif (decide (a<b))then
 (chk (decide (c.length+([([a]:List Int)]:List (List Int)).length≤4294967296))).bind fun _=>
 some (.inl ((w64 (a+1)),(c++([([a]:List Int)]:List (List Int)))))
 else
 some (.inr c)
def Qk1 (a:QLL):Option QLL:=
 Qfl a
def Qk2 (a:Int)(b:(List Int)):Option ((Int×(List Int))⊕(List Int)):=
 some (.inl ((w64 (a+1)),b))
def Qn5 (c:Int)(set_33:Int)(a:Int)(b:(List Int)):Option ((Int×(List Int))⊕(List Int)):=
 bif (decide (a<c))then
 (chk (decide (0≤a))).bind fun _=>
 bif ((Qd7 .i64 (Qbt .i64 set_33 a) 1)==1)then
 (chk (decide (b.length+([a]:List Int).length≤4294967296))).bind fun _=>
 Qk2 a (b++([a]:List Int))
 else
 Qk2 a b
 else
 some (.inr b)
def Qn6 (a:QLL)(set_33:Int)(b:(List Int)):Option ((Int×QLL)⊕QLL):=
 (chk (decide (a.length+([b]:List (List Int)).length≤4294967296))).bind fun _=>
 some (.inl ((w64 (set_33+1)),(a++([b]:List (List Int)))))
def Qn7 (a:Int)(set_33:Int)(b:QLL):Option ((Int×QLL)⊕QLL):=
 (chk (decide (0≤a))).bind fun _=>
 bif (decide (set_33<(QzY .i64 1 a)))then
 (QK (fun st=>Qn5 a set_33 st.1 st.2) (0,([]:List Int))).bind (fun q=>Qn6 b set_33 q)
 else
 some (.inr b)
def QjZ (a:QLL):Option QLL:=
 Qfl a
def Qch (b:Int)(a:Int):Option QLL:=
 bif ((decide (a<0))||((decide (16<a))||((b==3)&&(decide (4<a)))))then
 some ([]:List (List Int))
 else
 bif (b==1)then
 (QK (fun st=>Qn2 a st.1 st.2) (0,([]:List Int))).bind (fun q=>Qn3 q)
 else
 bif (b==2)then
 (QK (fun st=>Qn4 a st.1 st.2) (0,([]:List (List Int)))).bind (fun q=>Qk1 q)
 else
 bif (b==3)then
 (QK (fun st=>Qn7 a st.1 st.2) (1,([]:List (List Int)))).bind (fun q=>QjZ q)
 else
 Qfl ([]:List (List Int))
theorem Qk3 (c a){r}(h:Qch c a=some r):Qc prog 97 [.I c,.I a] [] (Gives (.own 600 r.length) [(600,.arr 1 (r.map QL))]):=by
 refine Qc.walk 79 func97 rfl rfl rfl fun C hC=>?_
 unfold Qch at h
 refine tg_ hC [.n 7] rfl ?_
 refine AK.meetX (fun σ=>σ=⟨[(0,.I c),(1,.I a),(25,.b ((decide (a<0))||((decide (16<a))||((c==3)&&(decide (4<a))))))],[]⟩) ?_ ?_
 ·refine tg_ hC [.n 4] rfl ?_
  rcases Q3 (decide (a<0))with f | f
  ·refine Qa hC [.S 14 (.b true),.n 12,.S 25 (.b ((decide (a<0))||((decide (16<a))||((c==3)&&(decide (4<a)))))),.K [0,1,25] []] rfl ⟨(tc_ f),(congrArg V.b (orT f rfl))⟩ ?_
   exact AK.met rfl
  refine Qa hC [.S 14 (.b false),.n 4] rfl (tc_ f) ?_
  rcases Q3 (decide (16<a))with i | i
  ·refine Qa hC [.S 18 (.b true),.n 8,.S 25 (.b ((decide (a<0))||((decide (16<a))||((c==3)&&(decide (4<a)))))),.K [0,1,25] []] rfl ⟨(tc_ i),(congrArg V.b (orF f (orT i rfl)))⟩ ?_
   exact AK.met rfl
  refine Qa hC [.S 18 (.b false),.n 3] rfl (tc_ i) ?_
  rcases Q3 (c==3)with j | j
  ·refine Qa hC [.S 21 (.b true),.n 5,.S 25 (.b ((decide (a<0))||((decide (16<a))||((c==3)&&(decide (4<a)))))),.K [0,1,25] []] rfl ⟨(tc_ j),(congrArg V.b (orF f (orF i (QbV j rfl))))⟩ ?_
   exact AK.met rfl
  refine Qa hC [.S 21 (.b false),.n 5,.S 25 (.b ((decide (a<0))||((decide (16<a))||((c==3)&&(decide (4<a)))))),.K [0,1,25] []] rfl ⟨(tc_ j),(congrArg V.b (orF f (orF i (QdF j rfl))))⟩ ?_
  exact AK.met rfl
 rintro σ rfl
 refine tg_ hC [.n 1] rfl ?_
 refine bg_ h (fun E h=>Qa hC [.T,.n 7,.adopt 4 600 1,.O 600 (.arr 1 (([]:List (List Int)).map QL)),.S 4 (.own 600 ([]:List (List Int)).length),.K [4] [600]] rfl ⟨⟨⟨tt_,E⟩,rfl⟩,rfl⟩ ?_) fun E h=>Qa hC [.F,.n 7] rfl ⟨tt_,E⟩ ?_
 ·cases h
  exact d1_ rfl rfl ⟨rfl,tt_⟩
 refine AK.meet (fun σ=>∃y:QLL,σ=⟨[(5,.own 604 y.length)],[(604,.arr 1 (y.map QL))]⟩∧Qfl y=some r) ?_ ?_
 ·refine tg_ hC [.n 12] rfl ?_
  refine bg_ h (fun k h=>Qa hC [.T,.n 13,.adopt 6 33 1,.O 33 (.arr 1 (([]:List Int).map Qe)),.S 6 (.own 33 ([]:List Int).length),.K [6,29,30] [33]] rfl ⟨⟨⟨tt_,k⟩,rfl⟩,(congrArg (fun n=>V.own 33 n) (by simp))⟩ ?_) fun k h=>Qa hC [.F,.n 6] rfl ⟨tt_,k⟩ ?_
  ·obtain⟨z,H,h⟩:=Qb h
   refine AK.loop (body:=(fun st=>Qn2 a st.1 st.2)) (fun st σ=>σ=⟨[(6,.own 33 st.2.length),(29,.I a),(30,.I st.1)],[(33,.arr 1 (st.2.map Qe))]⟩) (fun q e σ=>e=.exit 1∧σ=⟨[(6,.own 33 q.length)],[(33,.arr 1 (q.map Qe))]⟩) H rfl ?_ ?_
   ·rintro ⟨G,J⟩ o σ rfl h
    refine tg_ hC [.n 6] rfl ?_
    rcases Qs h with⟨l,h⟩|⟨l,h⟩
    ·obtain⟨L,h⟩:=QaX h
     refine Qa hC [.T,.n 13,.v (.bd []) [] (.sl 1 (([G]:List Int).map Qe)),.app ((J++([G]:List Int)).map Qe) (J++([G]:List Int)).length,.n 8,.K [6,29,30] [33]] rfl ⟨⟨⟨tt_,l⟩,rfl⟩,⟨Qg,QbP L Qg,QaZ,QcM Qg⟩⟩ ?_
     cases h
     exact Q5 rfl rfl
    refine Qa hC [.F,.n 2,.K [6] [33]] rfl ⟨tt_,l⟩ ?_
    cases h
    exact Q6 rfl (an_ rfl rfl)
   replace h:Qn3 z=some r:=h
   rintro e σ ⟨rfl,rfl⟩
   refine Qa hC [.n 5,.frz 33 (z.map Qe) [6,38] [],.n 1,.O 39 (.arr 1 (([z]:List (List Int)).map QL)),.S 39 (.own 39 ([z]:List (List Int)).length),.n 6,.K [4] [39],.ren 39 600] rfl ⟨⟨⟨tt_,⟨⟨tt_,(Qb7 Qg)⟩,(Qb7 Qg)⟩⟩,rfl⟩,rfl⟩ ?_
   cases h
   exact d1_ rfl rfl ⟨rfl,tt_⟩
  refine bg_ h (fun m h=>Qa hC [.T,.n 7,.adopt 5 46 1,.O 46 (.arr 1 (([]:List (List Int)).map QL)),.S 5 (.own 46 ([]:List (List Int)).length),.K [5,42,43] [46]] rfl ⟨⟨⟨tt_,m⟩,rfl⟩,(congrArg (fun n=>V.own 46 n) (by simp))⟩ ?_) fun m h=>Qa hC [.F,.n 6] rfl ⟨tt_,m⟩ ?_
  ·obtain⟨a2,M,h⟩:=Qb h
   refine AK.loop (body:=(fun st=>Qn4 a st.1 st.2)) (fun st σ=>σ=⟨[(5,.own 46 st.2.length),(42,.I a),(43,.I st.1)],[(46,.arr 1 (st.2.map QL))]⟩) (fun q e σ=>e=.exit 3∧σ=⟨[(5,.own 46 q.length)],[(46,.arr 1 (q.map QL))]⟩) M rfl ?_ ?_
   ·rintro ⟨A,N⟩ o σ rfl h
    refine tg_ hC [.n 6] rfl ?_
    rcases Qs h with⟨p,h⟩|⟨p,h⟩
    ·obtain⟨P,h⟩:=QaX h
     refine Qa hC [.T,.n 13,.v (.bd []) [] (.sl 1 (([A]:List Int).map Qe)),.v (.bd []) [] (.sl 1 (([([A]:List Int)]:List (List Int)).map QL)),.app ((N++([([A]:List Int)]:List (List Int))).map QL) (N++([([A]:List Int)]:List (List Int))).length,.n 8,.K [5,42,43] [46]] rfl ⟨⟨⟨⟨tt_,p⟩,rfl⟩,rfl⟩,⟨Qg,QbP P Qg,QaZ,QcM Qg⟩⟩ ?_
     cases h
     exact Q5 rfl rfl
    refine Qa hC [.F,.n 2,.K [5] [46]] rfl ⟨tt_,p⟩ ?_
    cases h
    exact Q6 rfl (an_ rfl rfl)
   replace h:Qk1 a2=some r:=h
   unfold Qk1 at h
   rintro e σ ⟨rfl,rfl⟩
   refine tg_ hC [.n 2,.ren 46 604,.K [5] [604]] rfl ?_
   exact AK.met (ex_ _ (an_ rfl h))
  refine bg_ h (fun s h=>Qa hC [.T,.n 6,.adopt 5 74 1,.O 74 (.arr 1 (([]:List (List Int)).map QL)),.S 5 (.own 74 ([]:List (List Int)).length),.K [1,5,9] [74]] rfl ⟨⟨⟨tt_,s⟩,rfl⟩,(congrArg (fun n=>V.own 74 n) (by simp))⟩ ?_) fun s h=>Qa hC [.F,.n 2,.adopt 5 604 1,.O 604 (.arr 1 (([]:List (List Int)).map QL)),.S 5 (.own 604 ([]:List (List Int)).length),.K [5] [604]] rfl ⟨⟨⟨tt_,s⟩,rfl⟩,(congrArg (fun n=>V.own 604 n) (by simp))⟩ ?_
  ·obtain⟨a3,U,h⟩:=Qb h
   refine AK.loop (body:=(fun st=>Qn7 a st.1 st.2)) (fun st σ=>σ=⟨[(1,.I a),(5,.own 74 st.2.length),(9,.I st.1)],[(74,.arr 1 (st.2.map QL))]⟩) (fun q e σ=>e=.exit 5∧σ=⟨[(5,.own 74 q.length)],[(74,.arr 1 (q.map QL))]⟩) U rfl ?_ ?_
   ·rintro ⟨set_33,d⟩ o σ rfl h
    obtain⟨W,h⟩:=QaX h
    refine Qa hC [.n 5,.o (.any (.I (QzY .i64 1 a)) none),.n 3] rfl ⟨tt_,(fun σ D h2 _=>Stp.shl rfl rfl (QO hC.n rfl) (D _ _ rfl) (D _ _ rfl) (Q7 W))⟩ ?_
    refine bg_ h (fun t h=>Qa hC [.T,.n 17,.adopt 10 69 1,.O 69 (.arr 1 (([]:List Int).map Qe)),.S 10 (.own 69 ([]:List Int).length),.K [1,5,9,10,60,61] [69,74]] rfl ⟨⟨⟨tt_,t⟩,rfl⟩,(congrArg (fun n=>V.own 69 n) (by simp))⟩ ?_) fun t h=>Qa hC [.F,.n 2,.K [5] [74]] rfl ⟨tt_,t⟩ ?_
    ·obtain⟨u,X,h⟩:=Qb h
     refine AK.loop (body:=(fun st=>Qn5 a set_33 st.1 st.2)) (fun st σ=>σ=⟨[(1,.I a),(5,.own 74 d.length),(9,.I set_33),(10,.own 69 st.2.length),(60,.I a),(61,.I st.1)],[(69,.arr 1 (st.2.map Qe)),(74,.arr 1 (d.map QL))]⟩) (fun q e σ=>e=.exit 7∧σ=⟨[(1,.I a),(5,.own 74 d.length),(9,.I set_33),(10,.own 69 q.length)],[(69,.arr 1 (q.map Qe)),(74,.arr 1 (d.map QL))]⟩) X rfl ?_ ?_
     ·rintro ⟨g,Y⟩ o σ rfl h
      refine tg_ hC [.n 6] rfl ?_
      refine bg_ h (fun w h=>Qa hC [.T,.n 2] rfl ⟨tt_,w⟩ ?_) fun w h=>Qa hC [.F,.n 2,.K [1,5,9,10] [69,74]] rfl ⟨tt_,w⟩ ?_
      ·refine AK.meet (fun σ=>∃B:(List Int),σ=⟨[(1,.I a),(5,.own 74 d.length),(9,.I set_33),(10,.own 69 B.length),(60,.I a),(61,.I g)],[(69,.arr 1 (B.map Qe)),(74,.arr 1 (d.map QL))]⟩∧Qk2 g B=some o) ?_ ?_
       ·obtain⟨Z,h⟩:=QaX h
        refine Qa hC [.n 11,.o (.any (.I (Qbt .i64 set_33 g)) none),.o (.any (.I (Qd7 .i64 (Qbt .i64 set_33 g) 1)) none),.n 3] rfl ⟨⟨tt_,(fun σ D h2 _=>Stp.shr rfl rfl (QO hC.n rfl) (D _ _ rfl) (D _ _ rfl) (Q7 Z))⟩,(fun σ D h2 _=>Stp.andB rfl rfl (QO hC.n rfl) (D _ _ rfl) (D _ _ rfl))⟩ ?_
        rcases Qs h with⟨x,h⟩|⟨x,h⟩
        ·obtain⟨a0,h⟩:=QaX h
         refine Qa hC [.T,.n 3,.v (.bd []) [] (.sl 1 (([g]:List Int).map Qe)),.app ((Y++([g]:List Int)).map Qe) (Y++([g]:List Int)).length,.n 3,.K [1,5,9,10,60,61] [69,74]] rfl ⟨⟨⟨tt_,x⟩,rfl⟩,⟨Qg,QbP a0 Qg,QaZ,QcM Qg⟩⟩ ?_
         exact AK.met (ex_ _ (an_ rfl h))
        refine Qa hC [.F,.n 2,.K [1,5,9,10,60,61] [69,74]] rfl ⟨tt_,x⟩ ?_
        exact AK.met (ex_ _ (an_ rfl h))
       rintro σ ⟨B,rfl,h⟩
       refine tg_ hC [.n 4,.K [1,5,9,10,60,61] [69,74]] rfl ?_
       cases h
       exact Q5 rfl rfl
      cases h
      exact Q6 rfl (an_ rfl rfl)
     replace h:Qn6 d set_33 u=some o:=h
     rintro e σ ⟨rfl,rfl⟩
     obtain⟨a1,h⟩:=QaX h
     refine Qa hC [.n 5,.frz 69 (u.map Qe) [10,75] [],.v (.bd []) [] (.sl 1 (([u]:List (List Int)).map QL)),.app ((d++([u]:List (List Int))).map QL) (d++([u]:List (List Int))).length,.n 9,.K [1,5,9] [74]] rfl ⟨⟨⟨tt_,⟨⟨tt_,(Qb7 Qg)⟩,(Qb7 Qg)⟩⟩,rfl⟩,⟨Qg,QbP a1 Qg,QaZ,QcM Qg⟩⟩ ?_
     cases h
     exact Q5 rfl rfl
    cases h
    exact Q6 rfl (an_ rfl rfl)
   replace h:QjZ a3=some r:=h
   unfold QjZ at h
   rintro e σ ⟨rfl,rfl⟩
   refine tg_ hC [.n 2,.ren 74 604,.K [5] [604]] rfl ?_
   exact AK.met (ex_ _ (an_ rfl h))
  exact AK.met (ex_ _ (an_ rfl h))
 rintro σ ⟨y,rfl,h⟩
 refine tg_ hC [.n 7,.K [4] [604],.ren 604 600] rfl ?_
 cases h
 exact d1_ rfl rfl ⟨rfl,tt_⟩
def Qqk (a:Qj)(b:QB):Option (Qj×QB):=
 some (a,b)
theorem QtM (a b){r}(h:Qqk a b=some r):Qc prog 98 [.agg (Qd a),.agg (Qh b)] [] (Gives (.clo (.func 152) [] [.loc 3 0 0,.loc 2 0 0]) [(2,.var (Qd r.1)),(3,.var (Qh r.2))]):=by
 refine Qc.walk 6 func98 rfl rfl rfl fun C hC=>?_
 refine tg_ hC [.n 14] rfl ?_
 cases h
 exact d1_ rfl rfl ⟨rfl,rfl,tt_⟩
def QaK (a:(List Int)):Option (List Int):=
 (chk (decide (([]:List Int).length+a.length≤4294967296))).bind fun _=>
 some (([]:List Int)++a)
theorem Qcp (a){r}(h:QaK a=some r):Qc prog 102 [.sl 1 (a.map Qe)] [] (Gives (.own 600 r.length) [(600,.arr 1 (r.map Qe))]):=by
 refine Qc.walk 8 func102 rfl rfl rfl fun C hC=>?_
 unfold QaK at h
 refine tg_ hC [.n 9] rfl ?_
 refine AK.eqNil rfl rfl rfl (QO hC.n rfl) rfl rfl QEg ?_ ?_
 ·intro b
  replace h:some ([]:List Int)=some r:=by simpa [chk,List.map_eq_nil_iff.1 b] using h
  refine Qa hC [.n 10,.adopt 2 600 1,.O 600 (.arr 1 (([]:List Int).map Qe)),.S 2 (.own 600 ([]:List Int).length)] rfl ⟨⟨tt_,rfl⟩,rfl⟩ ?_
  cases h
  exact d1_ rfl rfl ⟨rfl,tt_⟩
 obtain⟨c,h⟩:=QaX h
 refine Qa hC [.n 8,.O 5 (.arr 1 (([]:List Int).map Qe)),.S 5 (.own 5 ([]:List Int).length),.n 1,.app ((([]:List Int)++a).map Qe) (([]:List Int)++a).length,.n 4,.K [2] [5],.ren 5 600] rfl ⟨⟨⟨tt_,rfl⟩,rfl⟩,⟨Qg,QbP c Qg,QaZ,QcM Qg⟩⟩ ?_
 cases h
 exact d1_ rfl rfl ⟨rfl,tt_⟩
def QlA (a:Int)(b:Int):Option Int:=
 bif (decide (b<a))then
 some 0
 else
 some (w64 ((w64 (min2 (IntKind.u64.wrap ((IntKind.u64.wrap b)-(IntKind.u64.wrap a))) 1024))+1))
theorem Qvp (a b){r}(h:QlA a b=some r):Qc prog 275 [.I a,.I b] [] (Gives (.I r) []):=by
 refine Qc.walk 16 func275 rfl rfl rfl fun C hC=>?_
 refine tg_ hC [.n 13] rfl ?_
 refine bg_ h (fun c h=>Qa hC [.T,.n 7,.K [4] []] rfl ⟨tt_,c⟩ ?_) fun c h=>Qa hC [.F,.n 5,.o (.any (.i .u64 (IntKind.u64.wrap b)) none),.n 1,.o (.any (.i .u64 (IntKind.u64.wrap a)) none),.n 2,.o (.any (.I (w64 (min2 (IntKind.u64.wrap ((IntKind.u64.wrap b)-(IntKind.u64.wrap a))) 1024))) none),.n 5,.K [4] []] rfl ⟨⟨⟨⟨tt_,c⟩,(fun σ d e _=>Stp.convI rfl rfl (QO hC.n rfl) (d _ _ rfl) Qvn QtH)⟩,(fun σ d e _=>Stp.convI rfl rfl (QO hC.n rfl) (d _ _ rfl) Qvn QtH)⟩,(fun σ d e _=>Stp.convI rfl rfl (QO hC.n rfl) (d _ _ rfl) QtH Qvn)⟩ ?_
 ·cases h
  exact d1_ rfl rfl tt_
 cases h
 exact d1_ rfl rfl tt_
def Qe2 (a:Int):Option Bool:=
 some (bif (decide (97≤a))then((decide (a≤122))||((decide (65≤a))&&(decide (a≤90))))else((decide (65≤a))&&(decide (a≤90))))
theorem QnF (a){r}(h:Qe2 a=some r):Qc prog 253 [.i .u8 a] [] (Gives (.b r) []):=by
 refine Qc.walk 17 func253 rfl rfl rfl fun C hC=>?_
 unfold Qe2 at h
 refine tg_ hC [.n 6] rfl ?_
 refine AK.meetX (fun σ=>σ=⟨[(2,.b (bif (decide (97≤a))then((decide (a≤122))||((decide (65≤a))&&(decide (a≤90))))else((decide (65≤a))&&(decide (a≤90)))))],[]⟩) ?_ ?_
 ·refine tg_ hC [.n 4] rfl ?_
  rcases Q3 (decide (97≤a))with c | c
  ·refine Qa hC [.S 5 (.b true),.n 4] rfl (tc_ c) ?_
   rcases Q3 (decide (a≤122))with d | d
   ·refine Qa hC [.S 9 (.b true),.n 9,.S 2 (.b (bif (decide (97≤a))then((decide (a≤122))||((decide (65≤a))&&(decide (a≤90))))else((decide (65≤a))&&(decide (a≤90))))),.K [2] []] rfl ⟨(tc_ d),(congrArg V.b (QBO c (orT d rfl)))⟩ ?_
    exact AK.met rfl
   refine Qa hC [.S 9 (.b false),.n 3] rfl (tc_ d) ?_
   rcases Q3 (decide (65≤a))with e | e
   ·refine Qa hC [.S 12 (.b true),.n 6,.S 2 (.b (bif (decide (97≤a))then((decide (a≤122))||((decide (65≤a))&&(decide (a≤90))))else((decide (65≤a))&&(decide (a≤90))))),.K [2] []] rfl ⟨(tc_ e),(congrArg V.b (QBO c (orF d (QbV e rfl))))⟩ ?_
    exact AK.met rfl
   refine Qa hC [.S 12 (.b false),.n 6,.S 2 (.b (bif (decide (97≤a))then((decide (a≤122))||((decide (65≤a))&&(decide (a≤90))))else((decide (65≤a))&&(decide (a≤90))))),.K [2] []] rfl ⟨(tc_ e),(congrArg V.b (QBO c (orF d (QdF e rfl))))⟩ ?_
   exact AK.met rfl
  refine Qa hC [.S 5 (.b false),.n 7] rfl (tc_ c) ?_
  rcases Q3 (decide (65≤a))with f | f
  ·refine Qa hC [.S 12 (.b true),.n 6,.S 2 (.b (bif (decide (97≤a))then((decide (a≤122))||((decide (65≤a))&&(decide (a≤90))))else((decide (65≤a))&&(decide (a≤90))))),.K [2] []] rfl ⟨(tc_ f),(congrArg V.b (QDn c (QbV f rfl)))⟩ ?_
   exact AK.met rfl
  refine Qa hC [.S 12 (.b false),.n 6,.S 2 (.b (bif (decide (97≤a))then((decide (a≤122))||((decide (65≤a))&&(decide (a≤90))))else((decide (65≤a))&&(decide (a≤90))))),.K [2] []] rfl ⟨(tc_ f),(congrArg V.b (QDn c (QdF f rfl)))⟩ ?_
  exact AK.met rfl
 rintro σ rfl
 refine tg_ hC [.n 2] rfl ?_
 cases h
 exact d1_ rfl rfl tt_
def Qpg (a:ByteArray):Option Bool:=
 bif (Qih a (⟨#[]⟩:ByteArray))then
 some true
 else
 bif (decide (32<(a.size:Int)))then
 some true
 else
 (sidx a 0).bind fun b=>
 (Qe2 b).bind fun c=>
 some (!c)
def Qph (a:Int):Option Bool:=
 (Qe2 a).bind fun b=>
 bif (!b)then
 bif (decide (a<48))then
 some (a != 95)
 else
 bif (decide (57<a))then
 some (a != 95)
 else
 some false
 else
 some false
def Qil (a:Int)(b:Bool):Option (Int⊕(Unit⊕Unit)):=
 bif b then
 some (.inr (.inl ()))
 else
 some (.inl (w64 (a+1)))
def Qim (d:ByteArray)(a:Int):Option (Int⊕(Unit⊕Unit)):=
 bif (decide (a<(d.size:Int)))then
 (sidx d a).bind fun b=>
 (Qph b).bind (fun c=>Qil a c)
 else
 some (.inr (.inr ()))
def Qin : Option Bool:=
 some false
def Qio : Option Bool:=
 some true
def Qip (a:ByteArray)(b:Bool):Option Bool:=
 bif b then
 some false
 else
 (QK (fun st=>Qim a st) 0).bind (Sum.elim (fun q=>Qin) (fun q=>Qio))
def QgE (a:ByteArray):Option Bool:=
 (Qpg a).bind (fun b=>Qip a b)
theorem QlS (l){r}(h:QgE l=some r):Qc prog 220 [.s l] [] (Gives (.b r) []):=by
 refine Qc.walk 42 func220 rfl rfl rfl fun C hC=>?_
 refine tg_ hC [.n 7] rfl ?_
 obtain⟨z,A,h⟩:=Qb h
 replace h:Qip l z=some r:=h
 refine AK.meetX (fun σ=>σ=⟨[(0,.s l),(17,.b z)],[]⟩) ?_ ?_
 ·replace h:=A
  refine tg_ hC [.n 4] rfl ?_
  refine bg_ h (fun m h=>Qa hC [.S 7 (.b true),.n 11,.K [0,17] []] rfl (tc_ m) ?_) fun m h=>Qa hC [.S 7 (.b false),.n 5] rfl (tc_ m) ?_
  ·cases h
   exact AK.met rfl
  rcases Qs h with⟨p,h⟩|⟨p,h⟩
  ·refine Qa hC [.S 12 (.b true),.n 6,.K [0,17] []] rfl (tc_ p) ?_
   cases h
   exact AK.met rfl
  obtain⟨J,B,h⟩:=Qb h
  obtain⟨L,D,h⟩:=Qb h
  refine Qa hC [.S 12 (.b false),.n 1,.o (.num J),.o (.c false [.d] (.b L)),.n 3,.K [0,17] []] rfl ⟨⟨(tc_ p),B⟩,(QnF _ D)⟩ ?_
  cases h
  exact AK.met rfl
 rintro σ rfl
 replace h:Qip l z=some r:=h
 refine tg_ hC [.n 1] rfl ?_
 refine bg_ h (fun a h=>Qa hC [.T,.n 7,.K [2] []] rfl ⟨tt_,a⟩ ?_) fun a h=>Qa hC [.F,.n 11,.K [0,19,20] []] rfl ⟨tt_,a⟩ ?_
 ·cases h
  exact d1_ rfl rfl tt_
 obtain⟨E,v,h⟩:=Qb h
 refine AK.loop (body:=(fun st=>Qim l st)) (fun st σ=>σ=⟨[(0,.s l),(19,.I (l.size:Int)),(20,.I st)],[]⟩) (Sum.elim (fun q e σ=>e=.ret∧σ=⟨[(2,.b false)],[]⟩) (fun q e σ=>e=.exit 0∧σ=⟨[],[]⟩)) v rfl ?_ ?_
 ·rintro t o σ rfl h
  refine tg_ hC [.n 6] rfl ?_
  rcases Qs h with⟨f,h⟩|⟨f,h⟩
  ·obtain⟨G,w,h⟩:=Qb h
   refine Qa hC [.T,.n 14,.o (.num G),.n 4] rfl ⟨⟨tt_,f⟩,w⟩ ?_
   obtain⟨u,x,h⟩:=Qb h
   replace h:Qil t u=some o:=h
   refine AK.meetX (fun σ=>σ=⟨[(0,.s l),(19,.I (l.size:Int)),(20,.I t),(40,.b u)],[]⟩) ?_ ?_
   ·replace h:=x
    obtain⟨H,y,h⟩:=Qb h
    refine Qa hC [.n 2,.o (.c false [.d] (.b H)),.n 2] rfl ⟨tt_,(QnF _ y)⟩ ?_
    refine bg_ h (fun g h=>Qa hC [.S 29 (.b true),.n 3] rfl (tc_ g) ?_) fun g h=>Qa hC [.S 29 (.b false),.n 12,.K [0,19,20,40] []] rfl (tc_ g) ?_
    ·refine bg_ h (fun i h=>Qa hC [.S 32 (.b true),.n 9,.K [0,19,20,40] []] rfl (tc_ i) ?_) fun i h=>Qa hC [.S 32 (.b false),.n 5] rfl (tc_ i) ?_
     ·cases h
      exact AK.met rfl
     refine bg_ h (fun j h=>Qa hC [.S 37 (.b true),.n 4,.K [0,19,20,40] []] rfl (tc_ j) ?_) fun j h=>Qa hC [.S 37 (.b false),.n 4,.K [0,19,20,40] []] rfl (tc_ j) ?_
     ·cases h
      exact AK.met rfl
     cases h
     exact AK.met rfl
    cases h
    exact AK.met rfl
   rintro σ rfl
   replace h:Qil t u=some o:=h
   refine tg_ hC [.n 1] rfl ?_
   refine bg_ h (fun k h=>Qa hC [.T,.n 8,.K [2] []] rfl ⟨tt_,k⟩ ?_) fun k h=>Qa hC [.F,.n 7,.K [0,19,20] []] rfl ⟨tt_,k⟩ ?_
   ·cases h
    exact Qar rfl (an_ rfl rfl)
   cases h
   exact Q5 rfl rfl
  refine Qa hC [.F,.n 2,.K [] []] rfl ⟨tt_,f⟩ ?_
  cases h
  exact Q6 rfl (an_ rfl rfl)
 rcases E with(_ | _)
 ·replace h:Qin=some r:=h
  rintro e σ ⟨rfl,rfl⟩
  refine tg_ hC [.n 2] rfl ?_
  cases h
  exact d1_ rfl rfl tt_
 replace h:Qio=some r:=h
 rintro e σ ⟨rfl,rfl⟩
 refine tg_ hC [.n 8] rfl ?_
 cases h
 exact d1_ rfl rfl tt_
def Qn8 (a:ByteArray)(c:QSB):Option Bool:=
 (QgE a).bind fun b=>
 bif (!b)then
 some true
 else
 some ((QE c a).getD false)
def Qhi (c:Int)(d:QSB)(a:ByteArray)(b:Bool):Option ((Int×QSB)⊕(Unit⊕Unit)):=
 bif b then
 some (.inr (.inl ()))
 else
 some (.inl ((w64 (c+1)),(Qan ltS d a true)))
def Qhj (d:(List ByteArray))(b:Int)(e:QSB):Option ((Int×QSB)⊕(Unit⊕Unit)):=
 bif (decide (b<(d.length:Int)))then
 (idx d b).bind fun a=>
 (Qn8 a e).bind (fun c=>Qhi b e a c)
 else
 some (.inr (.inr ()))
def Qhk : Option Bool:=
 some false
def Qhl : Option Bool:=
 some true
def Qkx (a:(List ByteArray)):Option Bool:=
 (QK (fun st=>Qhj a st.1 st.2) (0,([]:QSB))).bind (Sum.elim (fun q=>Qhk) (fun q=>Qhl))
theorem Quy (j){r}(h:Qkx j=some r):Qc prog 276 [.sl 1 (j.map Qea)] [] (Gives (.b r) []):=by
 refine Qc.walk 24 func276 rfl rfl rfl fun C hC=>?_
 refine Qa hC [.n 8,.O 6 (.map (QA V.s V.b ([]:QSB))),.n 7,.o (.ln j.length),.n 4,.K [3,7,8,9] [6]] rfl ⟨⟨tt_,rfl⟩,Qg⟩ ?_
 obtain⟨B,u,h⟩:=Qb h
 refine AK.loop (body:=(fun st=>Qhj j st.1 st.2)) (fun st σ=>σ=⟨[(3,.map 6),(7,.sl 1 (j.map Qea)),(8,.I (j.length:Int)),(9,.I st.1)],[(6,.map (QA V.s V.b st.2))]⟩) (Sum.elim (fun q e σ=>e=.ret∧σ=⟨[(2,.b false)],[]⟩) (fun q e σ=>e=.exit 0∧σ=⟨[],[]⟩)) u rfl ?_ ?_
 ·rintro ⟨D,m⟩ o σ rfl h
  refine tg_ hC [.n 6] rfl ?_
  rcases Qs h with⟨p,h⟩|⟨p,h⟩
  ·obtain⟨a,w,h⟩:=Qb h
   refine Qa hC [.T,.n 6,.o (.row (Qea a)),.n 6] rfl ⟨⟨tt_,p⟩,(QT w)⟩ ?_
   obtain⟨t,y,h⟩:=Qb h
   replace h:Qhi D m a t=some o:=h
   refine AK.meetX (fun σ=>σ=⟨[(3,.map 6),(5,.s a),(7,.sl 1 (j.map Qea)),(8,.I (j.length:Int)),(9,.I D),(20,.b t)],[(6,.map (QA V.s V.b m))]⟩) ?_ ?_
   ·replace h:=y
    obtain⟨E,A,h⟩:=Qb h
    refine Qa hC [.n 2,.o (.c false [.d] (.b E)),.n 2] rfl ⟨tt_,(QlS _ A)⟩ ?_
    refine bg_ h (fun g h=>Qa hC [.S 16 (.b true),.n 5,.K [3,5,7,8,9,20] [6]] rfl (tc_ g) ?_) fun g h=>Qa hC [.S 16 (.b false),.n 2,.o (.any (.b ((QE m a).getD false)) none),.n 2,.K [3,5,7,8,9,20] [6]] rfl ⟨(tc_ g),(fun σ G H _=>Stp.lookup (e:=V.s) (f:=V.b) (l:=m) (k:=a) (z:=false) rfl rfl (QO hC.n rfl) (G _ _ rfl) (H _ _ rfl) (G _ _ rfl) Qo3 Qsv QCb rfl)⟩ ?_
    ·cases h
     exact AK.met rfl
    cases h
    exact AK.met rfl
   rintro σ rfl
   replace h:Qhi D m a t=some o:=h
   refine tg_ hC [.n 1] rfl ?_
   refine bg_ h (fun i h=>Qa hC [.T,.n 9,.K [2] []] rfl ⟨tt_,i⟩ ?_) fun i h=>Qa hC [.F,.n 5,.x (fun σ=>σ.set 6 (.map (QA V.s V.b (Qan ltS m a true)))),.n 7,.K [3,7,8,9] [6]] rfl ⟨⟨tt_,i⟩,(Stp.mapUpdate (e:=V.s) (f:=V.b) (l:=m) (k:=a) (v:=true) ltS rfl rfl rfl rfl rfl rfl Qo3 Qsv rfl)⟩ ?_
   ·cases h
    exact Qar rfl (an_ rfl rfl)
   cases h
   exact Q5 rfl rfl
  refine Qa hC [.F,.n 2,.K [] []] rfl ⟨tt_,p⟩ ?_
  cases h
  exact Q6 rfl (an_ rfl rfl)
 rcases B with(_ | _)
 ·replace h:Qhk=some r:=h
  rintro e σ ⟨rfl,rfl⟩
  refine tg_ hC [.n 2] rfl ?_
  cases h
  exact d1_ rfl rfl tt_
 replace h:Qhl=some r:=h
 rintro e σ ⟨rfl,rfl⟩
 refine tg_ hC [.n 8] rfl ?_
 cases h
 exact d1_ rfl rfl tt_
def Qdk : Option Int:=
 some 0
def QlB (b:QI)(a:(List Int)):Option Int:=
 bif (b.Kind==1)then
 (QlA b.Lo b.Hi).bind fun e=>
 some e
 else
 bif (b.Kind==2)then
 (Qkx b.Names).bind fun f=>
 bif f then
 some (b.Names.length:Int)
 else
 Qdk
 else
 bif (b.Kind==3)then
 bif ((decide (0≤(min2 b.First b.Then)))&&(decide ((max2 b.First b.Then)<(a.length:Int))))then
 (idx a b.First).bind fun c=>
 (idx a b.Then).bind fun d=>
 some (w64 (c*d))
 else
 Qdk
 else
 Qdk
theorem Qvq (f e){r}(h:QlB f e=some r):Qc prog 256 [.agg (Qu f),.sl 1 (e.map Qe)] [] (Gives (.I r) []):=by
 refine Qc.walk 51 func256 rfl rfl rfl fun C hC=>?_
 refine tg_ hC [.n 6] rfl ?_
 refine AK.meet (fun σ=>σ=⟨[],[]⟩∧Qdk=some r) ?_ ?_
 ·refine tg_ hC [.n 13] rfl ?_
  rcases Qs h with⟨k,h⟩|⟨k,h⟩
  ·obtain⟨w,s,h⟩:=Qb h
   refine Qa hC [.T,.n 6,.o (.c false [.d,.d] (.I w)),.n 6] rfl ⟨⟨tt_,k⟩,(Qvp _ _ s)⟩ ?_
   cases h
   exact d1_ rfl rfl tt_
  refine Qa hC [.F,.n 6] rfl ⟨tt_,k⟩ ?_
  rcases Qs h with⟨l,h⟩|⟨l,h⟩
  ·obtain⟨x,t,h⟩:=Qb h
   refine Qa hC [.T,.n 4,.o (.c false [.d] (.b x)),.n 2] rfl ⟨⟨tt_,l⟩,(Quy _ t)⟩ ?_
   refine bg_ h (fun m h=>Qa hC [.T,.n 4,.o (.ln f.Names.length),.n 6,.K [4] []] rfl ⟨⟨tt_,m⟩,Qg⟩ ?_) fun m h=>Qa hC [.F,.n 2,.K [] []] rfl ⟨tt_,m⟩ ?_
   ·cases h
    exact d1_ rfl rfl tt_
   exact AK.met (an_ rfl h)
  refine Qa hC [.F,.n 6] rfl ⟨tt_,l⟩ ?_
  refine bg_ h (fun i h=>Qa hC [.T,.n 1] rfl ⟨tt_,i⟩ ?_) fun i h=>Qa hC [.F,.n 2,.K [] []] rfl ⟨tt_,i⟩ ?_
  ·refine AK.meetX (fun σ=>σ=⟨[(1,.sl 1 (e.map Qe)),(2,.loc 2 0 0),(39,.b ((decide (0≤(min2 f.First f.Then)))&&(decide ((max2 f.First f.Then)<(e.length:Int)))))],[(2,.var (Qu f))]⟩) ?_ ?_
   ·refine tg_ hC [.n 8] rfl ?_
    rcases Q3 (decide (0≤(min2 f.First f.Then)))with g | g
    ·refine Qa hC [.S 30 (.b true),.n 6,.o (.ln e.length),.n 3,.S 39 (.b ((decide (0≤(min2 f.First f.Then)))&&(decide ((max2 f.First f.Then)<(e.length:Int))))),.K [1,2,39] [2]] rfl ⟨⟨(tc_ g),Qg⟩,(congrArg V.b (QbV g rfl))⟩ ?_
     exact AK.met rfl
    refine Qa hC [.S 30 (.b false),.n 10,.S 39 (.b ((decide (0≤(min2 f.First f.Then)))&&(decide ((max2 f.First f.Then)<(e.length:Int))))),.K [1,2,39] [2]] rfl ⟨(tc_ g),(congrArg V.b (QdF g rfl))⟩ ?_
    exact AK.met rfl
   rintro σ rfl
   refine tg_ hC [.n 1] rfl ?_
   rcases Qs h with⟨j,h⟩|⟨j,h⟩
   ·obtain⟨u,p,h⟩:=Qb h
    obtain⟨v,q,h⟩:=Qb h
    refine Qa hC [.T,.n 1,.K [1,2] [2]] rfl ⟨tt_,j⟩ ?_
    refine AK.draw2 Qq hC mixed [.N,.N,.N,.a (.row (Qe u)) none false,.N,.N,.N,.N,.a (.row (Qe v)) none false,.N,.N,.N] [] [] [4] [] rfl rfl rfl ⟨⟨tt_,(QT p)⟩,(QT q)⟩ rfl (by kernel_rfl) rfl rfl rfl ?_
    refine tg_ hC [.n 4] rfl ?_
    cases h
    exact d1_ rfl rfl tt_
   refine Qa hC [.F,.n 2,.K [] []] rfl ⟨tt_,j⟩ ?_
   exact AK.met (an_ rfl h)
  exact AK.met (an_ rfl h)
 rintro σ ⟨rfl,h⟩
 refine tg_ hC [.n 6] rfl ?_
 cases h
 exact d1_ rfl rfl tt_
def Qn9 (a:QI)(d:QSB)(b:Int):Option Bool:=
 (QgE a.Name).bind fun c=>
 bif (!c)then
 some true
 else
 bif ((QE d a.Name).getD false)then
 some true
 else
 bif (decide (b<1))then
 some true
 else
 some (decide (1024<b))
def Qhm (a:(List Int))(b:Int)(e:Int)(f:QSB)(c:QI)(d:Bool):Option ((Int×QSB×(List Int))⊕(Unit⊕(List Int))):=
 bif d then
 some (.inr (.inl ()))
 else
 (chk (decide (a.length+([b]:List Int).length≤4294967296))).bind fun _=>
 some (.inl ((w64 (e+1)),(Qan ltS f c.Name true),(a++([b]:List Int))))
def Qhn (f:(List QI))(d:Int)(g:QSB)(a:(List Int)):Option ((Int×QSB×(List Int))⊕(Unit⊕(List Int))):=
 bif (decide (d<(f.length:Int)))then
 (idx f d).bind fun b=>
 (QlB b a).bind fun c=>
 (Qn9 b g c).bind (fun e=>Qhm a c d g b e)
 else
 some (.inr (.inr a))
def Qoa : Option ((List Int)×Bool):=
 some (([]:List Int),false)
def Qob (a:(List Int)):Option ((List Int)×Bool):=
 some (a,true)
def QhN (a:(List QI)):Option ((List Int)×Bool):=
 bif (decide (32<(a.length:Int)))then
 some (([]:List Int),false)
 else
 (QK (fun st=>Qhn a st.1 st.2.1 st.2.2) (0,([]:QSB),([]:List Int))).bind (Sum.elim (fun q=>Qoa) (fun q=>Qob q))
theorem Qoc (w){r}(h:QhN w=some r):Qc prog 223 [.sl 7 (w.map Qu)] [] (Gives (.tup [.sl 1 (r.1.map Qe),.b r.2]) []):=by
 refine Qc.walk 49 func223 rfl rfl rfl fun C hC=>?_
 refine Qa hC [.n 10,.o (.ln w.length),.n 3] rfl ⟨tt_,Qg⟩ ?_
 refine bg_ h (fun y h=>Qa hC [.T,.n 8,.denil 2 [some 1],.K [2,3] []] rfl ⟨tt_,y⟩ ?_) fun y h=>Qa hC [.F,.n 5,.O 12 (.map (QA V.s V.b ([]:QSB))),.n 12,.o (.ln w.length),.n 4,.adopt 5 43 1,.O 43 (.arr 1 (([]:List Int).map Qe)),.S 5 (.own 43 ([]:List Int).length),.K [4,5,13,14,15] [12,43]] rfl ⟨⟨⟨⟨⟨tt_,y⟩,rfl⟩,Qg⟩,rfl⟩,(congrArg (fun n=>V.own 43 n) (by simp))⟩ ?_
 ·cases h
  exact d2_ rfl rfl rfl tt_
 obtain⟨N,D,h⟩:=Qb h
 refine AK.loop (body:=(fun st=>Qhn w st.1 st.2.1 st.2.2)) (fun st σ=>σ=⟨[(4,.map 12),(5,.own 43 st.2.2.length),(13,.sl 7 (w.map Qu)),(14,.I (w.length:Int)),(15,.I st.1)],[(12,.map (QA V.s V.b st.2.1)),(43,.arr 1 (st.2.2.map Qe))]⟩) (Sum.elim (fun q e σ=>e=.ret∧σ=⟨[(2,.lit (.slice none 0 0)),(3,.b false)],[]⟩) (fun q e σ=>e=.exit 0∧σ=⟨[(5,.own 43 q.length)],[(43,.arr 1 (q.map Qe))]⟩)) D rfl ?_ ?_
 ·rintro ⟨P,A,g⟩ o σ rfl h
  refine tg_ hC [.n 6] rfl ?_
  rcases Qs h with⟨j,h⟩|⟨j,h⟩
  ·obtain⟨a,E,h⟩:=Qb h
   obtain⟨i,G,h⟩:=Qb h
   refine Qa hC [.T,.n 6,.o (.row (Qu a)),.v .no [] (.agg (Qu a)),.n 2,.O 7 (.var (Qu a)),.n 4,.v .no [] (.agg (Qu a)),.n 1,.o (.c true [.d,.o (g.map Qe)] (.I i)),.n 5] rfl ⟨⟨⟨⟨⟨⟨tt_,j⟩,(QT E)⟩,rfl⟩,rfl⟩,rfl⟩,⟨(Qrh rfl),(Qvq _ _ G)⟩⟩ ?_
   obtain⟨B,H,h⟩:=Qb h
   replace h:Qhm g i P A a B=some o:=h
   refine AK.meetX (fun σ=>σ=⟨[(4,.map 12),(5,.own 43 g.length),(7,.loc 7 0 0),(8,.I i),(13,.sl 7 (w.map Qu)),(14,.I (w.length:Int)),(15,.I P),(39,.b B)],[(7,.var (Qu a)),(12,.map (QA V.s V.b A)),(43,.arr 1 (g.map Qe))]⟩) ?_ ?_
   ·replace h:=H
    obtain⟨U,J,h⟩:=Qb h
    refine Qa hC [.n 3,.o (.c false [.d] (.b U)),.n 2] rfl ⟨tt_,(QlS _ J)⟩ ?_
    refine bg_ h (fun m h=>Qa hC [.S 26 (.b true),.n 14,.K [4,5,7,8,13,14,15,39] [7,12,43]] rfl (tc_ m) ?_) fun m h=>Qa hC [.S 26 (.b false),.n 3,.o (.any (.b ((QE A a.Name).getD false)) none),.n 2] rfl ⟨(tc_ m),(fun σ W X _=>Stp.lookup (e:=V.s) (f:=V.b) (l:=A) (k:=a.Name) (z:=false) rfl rfl (QO hC.n rfl) (W _ _ rfl) (X _ _ rfl) (W _ _ rfl) Qo3 Qsv QCb rfl)⟩ ?_
    ·cases h
     exact AK.met rfl
    refine bg_ h (fun p h=>Qa hC [.S 32 (.b true),.n 8,.K [4,5,7,8,13,14,15,39] [7,12,43]] rfl (tc_ p) ?_) fun p h=>Qa hC [.S 32 (.b false),.n 4] rfl (tc_ p) ?_
    ·cases h
     exact AK.met rfl
    refine bg_ h (fun t h=>Qa hC [.S 36 (.b true),.n 4,.K [4,5,7,8,13,14,15,39] [7,12,43]] rfl (tc_ t) ?_) fun t h=>Qa hC [.S 36 (.b false),.n 4,.K [4,5,7,8,13,14,15,39] [7,12,43]] rfl (tc_ t) ?_
    ·cases h
     exact AK.met rfl
    cases h
    exact AK.met rfl
   rintro σ rfl
   replace h:Qhm g i P A a B=some o:=h
   refine tg_ hC [.n 1] rfl ?_
   rcases Qs h with⟨u,h⟩|⟨u,h⟩
   ·refine Qa hC [.T,.n 10,.K [2,3] []] rfl ⟨tt_,u⟩ ?_
    cases h
    exact Qar rfl (an_ rfl rfl)
   obtain⟨L,h⟩:=QaX h
   refine Qa hC [.F,.n 7,.x (fun σ=>σ.set 12 (.map (QA V.s V.b (Qan ltS A a.Name true)))),.n 5,.v (.bd []) [] (.sl 1 (([i]:List Int).map Qe)),.app ((g++([i]:List Int)).map Qe) (g++([i]:List Int)).length,.n 8,.K [4,5,13,14,15] [12,43]] rfl ⟨⟨⟨⟨tt_,u⟩,(Stp.mapUpdate (e:=V.s) (f:=V.b) (l:=A) (k:=a.Name) (v:=true) ltS rfl rfl rfl rfl rfl rfl Qo3 Qsv rfl)⟩,rfl⟩,⟨Qg,QbP L Qg,QaZ,QcM Qg⟩⟩ ?_
   cases h
   exact Q5 rfl rfl
  refine Qa hC [.F,.n 2,.K [5] [43]] rfl ⟨tt_,j⟩ ?_
  cases h
  exact Q6 rfl (an_ rfl rfl)
 rcases N with(_ | M)
 ·replace h:Qoa=some r:=h
  rintro e σ ⟨rfl,rfl⟩
  refine tg_ hC [.n 2,.denil 2 [some 1]] rfl ?_
  cases h
  exact d2_ rfl rfl rfl tt_
 replace h:Qob M=some r:=h
 rintro e σ ⟨rfl,rfl⟩
 refine Qa hC [.n 10,.frz 43 (M.map Qe) [2] []] rfl ⟨tt_,⟨tt_,(Qb7 Qg)⟩⟩ ?_
 cases h
 exact d2_ rfl rfl rfl tt_
def QfO (a:(List QI))(b:Int):Option (Bool×QaY):=
 (QhN a).bind fun c=>
 bif ((!c.2)||((decide (b<0))||(decide ((a.length:Int)≤b))))then
 some (false,(QaY.mk ([]:(List QI)) ([]:(List Int)) 0))
 else
 some (true,(QaY.mk a c.1 b))
theorem Qm4 (i e){r}(h:QfO i e=some r):Qc prog 200 [.sl 7 (i.map Qu),.I e] [] (Gives (.tup [.agg (Q8 r.2),.b r.1]) []):=by
 refine Qc.walk 30 func200 rfl rfl rfl fun C hC=>?_
 obtain⟨j,k,h⟩:=Qb h
 refine Qa hC [.n 9,.o (.c false [.d] (.tup [.sl 1 (j.1.map Qe),.b j.2])),.n 9] rfl ⟨tt_,(Qoc _ k)⟩ ?_
 refine AK.meetX (fun σ=>σ=⟨[(0,.sl 7 (i.map Qu)),(1,.I e),(4,.loc 4 0 0),(6,.sl 1 (j.1.map Qe)),(24,.b ((!j.2)||((decide (e<0))||(decide ((i.length:Int)≤e)))))],[(4,.var [.lit (.slice none 0 0),.lit (.slice none 0 0),.I 0])]⟩) ?_ ?_
 ·refine tg_ hC [.n 4] rfl ?_
  rcases Q3 (!j.2)with f | f
  ·refine Qa hC [.S 15 (.b true),.n 10,.S 24 (.b ((!j.2)||((decide (e<0))||(decide ((i.length:Int)≤e))))),.K [0,1,4,6,24] [4]] rfl ⟨(tc_ f),(congrArg V.b (orT f rfl))⟩ ?_
   exact AK.met rfl
  refine Qa hC [.S 15 (.b false),.n 4] rfl (tc_ f) ?_
  rcases Q3 (decide (e<0))with a | a
  ·refine Qa hC [.S 19 (.b true),.n 6,.S 24 (.b ((!j.2)||((decide (e<0))||(decide ((i.length:Int)≤e))))),.K [0,1,4,6,24] [4]] rfl ⟨(tc_ a),(congrArg V.b (orF f (orT a rfl)))⟩ ?_
   exact AK.met rfl
  refine Qa hC [.S 19 (.b false),.n 2,.o (.ln i.length),.n 3,.S 24 (.b ((!j.2)||((decide (e<0))||(decide ((i.length:Int)≤e))))),.K [0,1,4,6,24] [4]] rfl ⟨⟨(tc_ a),Qg⟩,(congrArg V.b (orF f (orF a rfl)))⟩ ?_
  exact AK.met rfl
 rintro σ rfl
 refine tg_ hC [.n 1] rfl ?_
 refine bg_ h (fun g h=>Qa hC [.T,.n 2,.v .no [some 7,some 1,none] (.agg (Q8 (QaY.mk ([]:(List QI)) ([]:(List Int)) 0))),.n 1,.O 4 (.var (Q8 (QaY.mk ([]:(List QI)) ([]:(List Int)) 0))),.n 5,.K [4,5] [4]] rfl ⟨⟨⟨tt_,g⟩,rfl⟩,rfl⟩ ?_) fun g h=>Qa hC [.F,.n 7,.v .no [] (.agg (Q8 (QaY.mk i j.1 e))),.n 1,.O 4 (.var (Q8 (QaY.mk i j.1 e))),.n 4,.K [4,5] [4]] rfl ⟨⟨⟨tt_,g⟩,rfl⟩,rfl⟩ ?_
 ·cases h
  exact AK.done (ex_ [_,_] (an_ (an_ (ex_ _ (ex_ _ (an_ rfl (an_ rfl (Or.inl (an_ (Qq.ag rfl) (an_ (Qq.sz rfl) rfl))))))) (an_ rfl tt_)) (gives tt_)))
 cases h
 exact AK.done (ex_ [_,_] (an_ (an_ (ex_ _ (ex_ _ (an_ rfl (an_ rfl (Or.inl (an_ (Qq.ag rfl) (an_ (Qq.sz rfl) rfl))))))) (an_ rfl tt_)) (gives tt_)))
def Qgi (a:Int)(b:QaY):Option Bool:=
 bif (decide (0≤a))then
 (idx b.sizes b.k).bind fun c=>
 some (decide (a<c))
 else
 some false
def Qja (a:Bool):Option Bool:=
 some a
def Qdl (a:QaY)(b:Int):Option Bool:=
 (Qgi b a).bind (fun c=>Qja c)
theorem QmW (f g){r}(h:Qdl f g=some r):Qc prog 216 [.agg (Q8 f),.I g] [] (Gives (.b r) []):=by
 refine Qc.walk 17 func216 rfl rfl rfl fun C hC=>?_
 refine tg_ hC [.n 7] rfl ?_
 obtain⟨c,d,h⟩:=Qb h
 replace h:Qja c=some r:=h
 refine AK.meetX (fun σ=>σ=⟨[(4,.b c)],[]⟩) ?_ ?_
 ·replace h:=d
  refine tg_ hC [.n 4] rfl ?_
  rcases Qs h with⟨a,h⟩|⟨a,h⟩
  ·obtain⟨i,e,h⟩:=Qb h
   refine Qa hC [.S 7 (.b true),.n 5,.o (.row (Qe i)),.n 5,.K [4] []] rfl ⟨(tc_ a),(QT e)⟩ ?_
   cases h
   exact AK.met rfl
  refine Qa hC [.S 7 (.b false),.n 11,.K [4] []] rfl (tc_ a) ?_
  cases h
  exact AK.met rfl
 rintro σ rfl
 replace h:Qja c=some r:=h
 refine tg_ hC [.n 2] rfl ?_
 cases h
 exact d1_ rfl rfl tt_
def Qc3 (a:QaY):Option QI:=
 (idx a.all a.k).bind fun b=>
 some b
theorem Qg4 (c){r}(h:Qc3 c=some r):Qc prog 217 [.agg (Q8 c)] [] (Gives (.agg (Qu r)) []):=by
 refine Qc.walk 9 func217 rfl rfl rfl fun C hC=>?_
 obtain⟨a,b,h⟩:=Qb h
 refine Qa hC [.n 12,.o (.row (Qu a)),.v .no [] (.agg (Qu a)),.n 1,.O 2 (.var (Qu a)),.n 3,.K [2] [2]] rfl ⟨⟨⟨tt_,(QT b)⟩,rfl⟩,rfl⟩ ?_
 cases h
 exact AK.done (ex_ [_] (an_ (an_ (ex_ _ (ex_ _ (an_ rfl (an_ rfl (Or.inl (an_ (Qq.ag rfl) (an_ (Qq.sz rfl) rfl))))))) tt_) (gives tt_)))
def Qj0 (b:(Bool×QaY))(c:Int):Option Bool:=
 bif (!b.1)then
 some true
 else
 (Qdl b.2 c).bind fun a=>
 some (!a)
def QeT (c:(Bool×QaY))(d:Int)(e:Bool):Option (Int×Bool):=
 bif e then
 some (0,false)
 else
 (Qc3 c.2).bind fun a=>
 bif (a.Kind==1)then
 (Qc3 c.2).bind fun b=>
 some ((w64 (b.Lo+d)),true)
 else
 some (d,true)
def Qe3 (c:(List QI))(d:Int)(a:Int):Option (Int×Bool):=
 (QfO c d).bind fun b=>
 (Qj0 b a).bind (fun e=>QeT b a e)
theorem QtN (x y i){r}(h:Qe3 x y i=some r):Qc prog 150 [.sl 7 (x.map Qu),.I y,.I i] [] (Gives (.tup [.I r.1,.b r.2]) []):=by
 refine Qc.walk 36 func150 rfl rfl rfl fun C hC=>?_
 obtain⟨g,s,h⟩:=Qb h
 refine Qa hC [.n 10,.o (.c false [.d,.d] (.tup [.agg (Q8 g.2),.b g.1])),.n 5,.O 8 (.var (Q8 g.2)),.n 6] rfl ⟨⟨tt_,(Qm4 _ _ s)⟩,rfl⟩ ?_
 obtain⟨t,j,h⟩:=Qb h
 replace h:QeT g i t=some r:=h
 refine AK.meetX (fun σ=>σ=⟨[(2,.I i),(8,.loc 8 0 0),(16,.b t)],[(8,.var (Q8 g.2))]⟩) ?_ ?_
 ·replace h:=j
  refine tg_ hC [.n 4] rfl ?_
  rcases Qs h with⟨a,h⟩|⟨a,h⟩
  ·refine Qa hC [.S 19 (.b true),.n 7,.K [2,8,16] [8]] rfl (tc_ a) ?_
   cases h
   exact AK.met rfl
  obtain⟨u,k,h⟩:=Qb h
  refine Qa hC [.S 19 (.b false),.v .no [] (.agg (Q8 g.2)),.n 1,.o (.c false [.d,.d] (.b u)),.n 4,.K [2,8,16] [8]] rfl ⟨⟨(tc_ a),rfl⟩,(QmW _ _ k)⟩ ?_
  cases h
  exact AK.met rfl
 rintro σ rfl
 replace h:QeT g i t=some r:=h
 refine tg_ hC [.n 1] rfl ?_
 rcases Qs h with⟨e,h⟩|⟨e,h⟩
 ·refine Qa hC [.T,.n 9] rfl ⟨tt_,e⟩ ?_
  cases h
  exact d2_ rfl rfl rfl tt_
 obtain⟨l,m,h⟩:=Qb h
 refine Qa hC [.F,.n 2,.v .no [] (.agg (Q8 g.2)),.o (.c false [.d] (.agg (Qu l))),.o (.any (.I l.Kind) none),.n 4] rfl ⟨⟨⟨⟨tt_,e⟩,rfl⟩,(Qg4 _ m)⟩,(fun σ w z _=>Stp.field rfl rfl (QO hC.n rfl) (w _ _ rfl) QC0 rfl)⟩ ?_
 rcases Qs h with⟨f,h⟩|⟨f,h⟩
 ·obtain⟨p,q,h⟩:=Qb h
  refine Qa hC [.T,.n 2,.v .no [] (.agg (Q8 g.2)),.o (.c false [.d] (.agg (Qu p))),.o (.any (.I p.Lo) none),.n 9] rfl ⟨⟨⟨⟨tt_,f⟩,rfl⟩,(Qg4 _ q)⟩,(fun σ w z _=>Stp.field rfl rfl (QO hC.n rfl) (w _ _ rfl) QC1 rfl)⟩ ?_
  cases h
  exact d2_ rfl rfl rfl tt_
 refine Qa hC [.F,.n 11] rfl ⟨tt_,f⟩ ?_
 cases h
 exact d2_ rfl rfl rfl tt_
def QgF (d:QB)(b:(List Int))(h:Qj)(a:Int)(c:(List Int)):Option ((Int×(List Int))⊕(Unit⊕(List Int))):=
 bif (decide (a<(d.Vars.length:Int)))then
 (idx d.Vars a).bind fun f=>
 (idx b a).bind fun g=>
 (Qe3 h.Colours f.Colour g).bind fun e=>
 bif (!e.2)then
 some (.inr (.inl ()))
 else
 (idx c a).bind fun i=>
 some (.inl ((w64 (a+1)),(c.set a.toNat e.1)))
 else
 some (.inr (.inr c))
def QsU : Option ((List Int)×Int):=
 some (([]:List Int),1)
def QsV (a:(List Int)):Option ((List Int)×Int):=
 some (a,0)
def QfA (d:Qj)(a:Int)(c:(List Int)):Option ((List Int)×Int):=
 bif ((decide (a<0))||(decide ((d.Tasks.length:Int)≤a)))then
 some (([]:List Int),3)
 else
 (idx d.Tasks a).bind fun b=>
 bif ((c.length:Int) != (b.Vars.length:Int))then
 some (([]:List Int),1)
 else
 (chk (decide (0≤(b.Vars.length:Int))&&decide ((b.Vars.length:Int)≤(b.Vars.length:Int))&&decide ((b.Vars.length:Int)≤4294967296))).bind fun _=>
 (QK (fun st=>QgF b c d st.1 st.2) (0,(List.replicate (b.Vars.length:Int).toNat (0:Int)))).bind (Sum.elim (fun q=>QsU) (fun q=>QsV q))
theorem QnR (s f g){r}(h:QfA s f g=some r):Qc prog 94 [.agg (Qd s),.I f,.sl 1 (g.map Qe)] [] (Gives (.tup [.sl 1 (r.1.map Qe),.I r.2]) []):=by
 refine Qc.walk 64 func94 rfl rfl rfl fun C hC=>?_
 refine tg_ hC [.n 9] rfl ?_
 refine AK.meetX (fun σ=>σ=⟨[(1,.I f),(2,.sl 1 (g.map Qe)),(3,.loc 3 0 0),(22,.b ((decide (f<0))||(decide ((s.Tasks.length:Int)≤f))))],[(3,.var (Qd s))]⟩) ?_ ?_
 ·refine tg_ hC [.n 4] rfl ?_
  rcases Q3 (decide (f<0))with j | j
  ·refine Qa hC [.S 16 (.b true),.n 7,.S 22 (.b ((decide (f<0))||(decide ((s.Tasks.length:Int)≤f)))),.K [1,2,3,22] [3]] rfl ⟨(tc_ j),(congrArg V.b (orT j rfl))⟩ ?_
   exact AK.met rfl
  refine Qa hC [.S 16 (.b false),.n 3,.o (.ln s.Tasks.length),.n 3,.S 22 (.b ((decide (f<0))||(decide ((s.Tasks.length:Int)≤f)))),.K [1,2,3,22] [3]] rfl ⟨⟨(tc_ j),Qg⟩,(congrArg V.b (orF j rfl))⟩ ?_
  exact AK.met rfl
 rintro σ rfl
 refine tg_ hC [.n 1] rfl ?_
 rcases Qs h with⟨k,h⟩|⟨k,h⟩
 ·refine Qa hC [.T,.n 8,.denil 6 [some 1]] rfl ⟨tt_,k⟩ ?_
  cases h
  exact d2_ rfl rfl rfl tt_
 obtain⟨i,x,h⟩:=Qb h
 refine Qa hC [.F,.n 7,.o (.row (Qh i)),.n 9,.o (.ln g.length),.n 1,.o (.ln i.Vars.length),.n 3] rfl ⟨⟨⟨⟨tt_,k⟩,(QT x)⟩,Qg⟩,Qg⟩ ?_
 rcases Qs h with⟨l,h⟩|⟨l,h⟩
 ·refine Qa hC [.T,.n 8,.denil 6 [some 1]] rfl ⟨tt_,l⟩ ?_
  cases h
  exact d2_ rfl rfl rfl tt_
 obtain⟨y,h⟩:=QaX h
 refine Qa hC [.F,.n 5,.o (.ln i.Vars.length),.o (.rows ((List.replicate (i.Vars.length:Int).toNat (0:Int)).map Qe)),.S 36 (.own 36 (List.replicate (i.Vars.length:Int).toNat (0:Int)).length),.n 7,.o (.ln i.Vars.length),.n 4,.K [2,3,9,37,38,39] [3,36]] rfl ⟨⟨⟨⟨⟨tt_,l⟩,Qg⟩,⟨y,QAA rfl⟩⟩,(by simp)⟩,Qg⟩ ?_
 obtain⟨J,z,h⟩:=Qb h
 refine AK.loop (body:=(fun st=>QgF i g s st.1 st.2)) (fun st σ=>σ=⟨[(2,.sl 1 (g.map Qe)),(3,.loc 3 0 0),(9,.own 36 st.2.length),(37,.sl 2 (i.Vars.map QS)),(38,.I (i.Vars.length:Int)),(39,.I st.1)],[(3,.var (Qd s)),(36,.arr 1 (st.2.map Qe))]⟩) (Sum.elim (fun q e σ=>e=.ret∧σ=⟨[(6,.lit (.slice none 0 0)),(7,.I 1)],[]⟩) (fun q e σ=>e=.exit 0∧σ=⟨[(9,.own 36 q.length)],[(36,.arr 1 (q.map Qe))]⟩)) z rfl ?_ ?_
 ·rintro ⟨A,B⟩ o σ rfl h
  refine tg_ hC [.n 6] rfl ?_
  rcases Qs h with⟨m,h⟩|⟨m,h⟩
  ·obtain⟨w,D,h⟩:=Qb h
   obtain⟨L,E,h⟩:=Qb h
   obtain⟨t,G,h⟩:=Qb h
   refine Qa hC [.T,.n 7,.o (.row (QS w)),.v .no [] (.agg (QS w)),.n 3,.O 11 (.var (QS w)),.n 3,.K [2,3,9,10,11,37,38,39] [3,11,36]] rfl ⟨⟨⟨⟨tt_,m⟩,(QT D)⟩,rfl⟩,rfl⟩ ?_
   refine AK.draw2 Qq hC mixed [.N,.N,.N,.N,.N,.N,.a (.row (Qe L)) none false,.N,.a (.c false [.d,.d,.d] (.tup [.I t.1,.b t.2])) none false,.N,.N,.N,.N,.N] [] [] [2,3,9,10,12,13,37,38,39] [3,36] rfl rfl rfl ⟨⟨tt_,(QT E)⟩,(QtN _ _ _ G)⟩ rfl (by kernel_rfl) rfl rfl rfl ?_
   refine tg_ hC [.n 8] rfl ?_
   rcases Qs h with⟨p,h⟩|⟨p,h⟩
   ·refine Qa hC [.T,.n 10,.K [6,7] []] rfl ⟨tt_,p⟩ ?_
    cases h
    exact Qar rfl (an_ rfl rfl)
   obtain⟨M,u,h⟩:=Qb h
   refine Qa hC [.F,.n 7,.st (Qe M) ((B.set A.toNat t.1).map Qe),.n 7,.S 9 (.own 36 (B.set A.toNat t.1).length),.K [2,3,9,37,38,39] [3,36]] rfl ⟨⟨⟨⟨tt_,p⟩,(Qdd u rfl)⟩,⟨(QbX (QdK u).2),Qmi rfl⟩⟩,(congrArg (fun n=>V.own 36 n) (by simp))⟩ ?_
   cases h
   exact Q5 rfl rfl
  refine Qa hC [.F,.n 2,.K [9] [36]] rfl ⟨tt_,m⟩ ?_
  cases h
  exact Q6 rfl (an_ rfl rfl)
 rcases J with(_ | H)
 ·replace h:QsU=some r:=h
  rintro e σ ⟨rfl,rfl⟩
  refine tg_ hC [.n 2,.denil 6 [some 1]] rfl ?_
  cases h
  exact d2_ rfl rfl rfl tt_
 replace h:QsV H=some r:=h
 rintro e σ ⟨rfl,rfl⟩
 refine Qa hC [.n 10,.frz 36 (H.map Qe) [6] []] rfl ⟨tt_,⟨tt_,(Qb7 Qg)⟩⟩ ?_
 cases h
 exact d2_ rfl rfl rfl tt_
def QbQ (c:Qj)(f:QMk)(a:Int)(b:(List Int)):Option (Int×QX):=
 (QfA c a b).bind fun d=>
 bif (d.2 != 0)then
 some (d.2,(QX.mk (Qj.mk ([]:(List QI)) ([]:(List QN)) ([]:(List QB)) 0 0) ([]:QMk) (QB.mk (⟨#[]⟩:ByteArray) ([]:(List QaQ)) (Qo.mk 0 0 ([]:(List Qo))) 0 0 ([]:(List Qax)) ([]:(List Qax)) ([]:(List Int)) 0 (0,0,0)) ([]:(List Int))))
 else
 (idx c.Tasks a).bind fun e=>
 some (0,(QX.mk c f e d.1))
theorem Qql (i k b e){r}(h:QbQ i k b e=some r):Qc prog 89 [.agg (Qd i),.sl 1 (k.map Qi),.I b,.sl 1 (e.map Qe)] [] (Gives (.tup [.agg (Qz r.2),.I r.1]) []):=by
 refine Qc.walk 32 func89 rfl rfl rfl fun C hC=>?_
 obtain⟨l,p,h⟩:=Qb h
 refine Qa hC [.n 9,.v .no [] (.agg (Qd i)),.n 2,.o (.c false [.d,.d,.d] (.tup [.sl 1 (l.1.map Qe),.I l.2])),.n 14] rfl ⟨⟨tt_,rfl⟩,(QnR _ _ _ p)⟩ ?_
 rcases Qs h with⟨f,h⟩|⟨f,h⟩
 ·refine Qa hC [.T,.n 2,.v .no [some 7,some 3,some 14,none,none,some 1,none,some 2,none,none,some 3,none,none,some 4,some 4,some 1,none,none,none,none,some 1] (.agg (Qz (QX.mk (Qj.mk ([]:(List QI)) ([]:(List QN)) ([]:(List QB)) 0 0) ([]:QMk) (QB.mk (⟨#[]⟩:ByteArray) ([]:(List QaQ)) (Qo.mk 0 0 ([]:(List Qo))) 0 0 ([]:(List Qax)) ([]:(List Qax)) ([]:(List Int)) 0 (0,0,0)) ([]:(List Int))))),.n 2,.O 8 (.var (Qz (QX.mk (Qj.mk ([]:(List QI)) ([]:(List QN)) ([]:(List QB)) 0 0) ([]:QMk) (QB.mk (⟨#[]⟩:ByteArray) ([]:(List QaQ)) (Qo.mk 0 0 ([]:(List Qo))) 0 0 ([]:(List Qax)) ([]:(List Qax)) ([]:(List Int)) 0 (0,0,0)) ([]:(List Int))))),.n 5,.K [8,9] [8]] rfl ⟨⟨⟨tt_,f⟩,rfl⟩,rfl⟩ ?_
  cases h
  exact AK.done (ex_ [_,_] (an_ (an_ (ex_ _ (ex_ _ (an_ rfl (an_ rfl (Or.inl (an_ (Qq.ag rfl) (an_ (Qq.sz rfl) rfl))))))) (an_ rfl tt_)) (gives tt_)))
 obtain⟨g,j,h⟩:=Qb h
 refine Qa hC [.F,.n 3,.K [1,2,4,8,9,10] [4,8]] rfl ⟨tt_,f⟩ ?_
 refine AK.draw2 Qq hC mixed [.a .no (some ([],.agg (Qd i))) false,.N,.N,.N,.N,.a (.row (Qh g)) none false,.a .no (some ([],.agg (Qh g))) false,.N,.a .no (some ([],.agg (Qz (QX.mk i k g l.1)))) false,.m .s,.m .s] [] [] [8,9] [8] rfl rfl rfl ⟨⟨⟨⟨tt_,rfl⟩,(QT j)⟩,rfl⟩,rfl⟩ rfl (by kernel_rfl) rfl rfl rfl ?_
 refine Qa hC [.O 8 (.var (Qz (QX.mk i k g l.1))),.n 2,.K [8,9] [8]] rfl ⟨tt_,rfl⟩ ?_
 cases h
 exact AK.done (ex_ [_,_] (an_ (an_ (ex_ _ (ex_ _ (an_ rfl (an_ rfl (Or.inl (an_ (Qq.ag rfl) (an_ (Qq.sz rfl) rfl))))))) (an_ rfl tt_)) (gives tt_)))
def Qjm (c:Qo)(rec_expr_Depth:Qo→Option Int)(d:Int)(a:Int):Option ((Int×Int)⊕Int):=
 bif (decide (a<(c.Kids.length:Int)))then
 (idx c.Kids a).bind fun e=>
 (rec_expr_Depth e).bind fun b=>
 some (.inl ((max2 d b),(w64 (a+1))))
 else
 some (.inr d)
def Qmq (a:Int):Option Int:=
 some (w64 (a+1))
def Qm5 (rec_expr_Depth:Qo→Option Int)(a:Qo):Option Int:=
 (QK (fun st=>Qjm a rec_expr_Depth st.1 st.2) (0,0)).bind (fun q=>Qmq q)
def Qeu : Nat→Qo→Option Int
 | 0,_=>none
 | n+1,a=>Qm5 (Qeu n) a
def Qpi (a:Qo):Option Int:=Qeu (SizeOf.sizeOf a) a
theorem Quz (rec_expr_Depth:Qo→Option Int)(hrec_expr_Depth:∀(a:Qo) {r:Int},rec_expr_Depth a=some r→Qc prog 235 [.agg (Qr a)] [] (Gives (.I r) []))(a:Qo){r:Int}(h:Qm5 rec_expr_Depth a=some r):Qc prog 235 [.agg (Qr a)] [] (Gives (.I r) []):=by
 refine Qc.walk 20 func235 rfl rfl rfl fun C hC=>?_
 refine Qa hC [.n 16,.o (.ln a.Kids.length),.n 4,.K [3,7,8,9] []] rfl ⟨tt_,Qkr _⟩ ?_
 obtain⟨l,f,h⟩:=Qb h
 refine AK.loop (body:=(fun st=>Qjm a rec_expr_Depth st.1 st.2)) (fun st σ=>σ=⟨[(3,.I st.1),(7,.sl 3 (Qbp a.Kids)),(8,.I (a.Kids.length:Int)),(9,.I st.2)],[]⟩) (fun q e σ=>e=.exit 0∧σ=⟨[(3,.I q)],[]⟩) f rfl ?_ ?_
 ·rintro ⟨m,p⟩ o σ rfl h
  refine tg_ hC [.n 6] rfl ?_
  rcases Qs h with⟨b,h⟩|⟨b,h⟩
  ·obtain⟨i,j,h⟩:=Qb h
   obtain⟨k,g,h⟩:=Qb h
   refine Qa hC [.T,.n 6,.o (.row (Qr i)),.v .no [] (.agg (Qr i)),.n 2,.O 5 (.var (Qr i)),.n 4,.v .no [] (.agg (Qr i)),.o (.c false [.d] (.I k)),.n 9,.K [3,7,8,9] []] rfl ⟨⟨⟨⟨⟨⟨tt_,b⟩,(QeG j)⟩,rfl⟩,rfl⟩,rfl⟩,(hrec_expr_Depth _ g)⟩ ?_
   cases h
   exact Q5 rfl rfl
  refine Qa hC [.F,.n 2,.K [3] []] rfl ⟨tt_,b⟩ ?_
  cases h
  exact Q6 rfl (an_ rfl rfl)
 replace h:Qmq l=some r:=h
 rintro e σ ⟨rfl,rfl⟩
 refine tg_ hC [.n 10] rfl ?_
 cases h
 exact d1_ rfl rfl tt_
theorem Qod : ∀(fuel:Nat) (a:Qo) {r:Int},Qeu fuel a=some r→Qc prog 235 [.agg (Qr a)] [] (Gives (.I r) [])
 | 0,_,_,h=>by cases h
 | n+1,a,_,h=>Quz (Qeu n) (fun _ _ h=>Qod n _ h) a h
theorem Qwe (a){r}(h:Qpi a=some r):Qc prog 235 [.agg (Qr a)] [] (Gives (.I r) []):=Qod _ a h
def Qky (c:Qo)(rec_expr_Size:Qo→Option Int)(d:Int)(a:Int):Option ((Int×Int)⊕Int):=
 bif (decide (a<(c.Kids.length:Int)))then
 (idx c.Kids a).bind fun e=>
 (rec_expr_Size e).bind fun b=>
 some (.inl ((w64 (d+b)),(w64 (a+1))))
 else
 some (.inr d)
def Qm6 (a:Int):Option Int:=
 some a
def QnS (rec_expr_Size:Qo→Option Int)(a:Qo):Option Int:=
 (QK (fun st=>Qky a rec_expr_Size st.1 st.2) (1,0)).bind (fun q=>Qm6 q)
def Qfh : Nat→Qo→Option Int
 | 0,_=>none
 | n+1,a=>QnS (Qfh n) a
def Qq1 (a:Qo):Option Int:=Qfh (SizeOf.sizeOf a) a
theorem Qvr (rec_expr_Size:Qo→Option Int)(hrec_expr_Size:∀(a:Qo) {r:Int},rec_expr_Size a=some r→Qc prog 236 [.agg (Qr a)] [] (Gives (.I r) []))(a:Qo){r:Int}(h:QnS rec_expr_Size a=some r):Qc prog 236 [.agg (Qr a)] [] (Gives (.I r) []):=by
 refine Qc.walk 19 func236 rfl rfl rfl fun C hC=>?_
 refine Qa hC [.n 16,.o (.ln a.Kids.length),.n 4,.K [3,7,8,9] []] rfl ⟨tt_,Qkr _⟩ ?_
 obtain⟨l,f,h⟩:=Qb h
 refine AK.loop (body:=(fun st=>Qky a rec_expr_Size st.1 st.2)) (fun st σ=>σ=⟨[(3,.I st.1),(7,.sl 3 (Qbp a.Kids)),(8,.I (a.Kids.length:Int)),(9,.I st.2)],[]⟩) (fun q e σ=>e=.exit 0∧σ=⟨[(3,.I q)],[]⟩) f rfl ?_ ?_
 ·rintro ⟨m,p⟩ o σ rfl h
  refine tg_ hC [.n 6] rfl ?_
  rcases Qs h with⟨b,h⟩|⟨b,h⟩
  ·obtain⟨i,j,h⟩:=Qb h
   obtain⟨k,g,h⟩:=Qb h
   refine Qa hC [.T,.n 6,.o (.row (Qr i)),.v .no [] (.agg (Qr i)),.n 2,.O 5 (.var (Qr i)),.n 4,.v .no [] (.agg (Qr i)),.o (.c false [.d] (.I k)),.n 9,.K [3,7,8,9] []] rfl ⟨⟨⟨⟨⟨⟨tt_,b⟩,(QeG j)⟩,rfl⟩,rfl⟩,rfl⟩,(hrec_expr_Size _ g)⟩ ?_
   cases h
   exact Q5 rfl rfl
  refine Qa hC [.F,.n 2,.K [3] []] rfl ⟨tt_,b⟩ ?_
  cases h
  exact Q6 rfl (an_ rfl rfl)
 replace h:Qm6 l=some r:=h
 rintro e σ ⟨rfl,rfl⟩
 refine tg_ hC [.n 9] rfl ?_
 cases h
 exact d1_ rfl rfl tt_
theorem Qpj : ∀(fuel:Nat) (a:Qo) {r:Int},Qfh fuel a=some r→Qc prog 236 [.agg (Qr a)] [] (Gives (.I r) [])
 | 0,_,_,h=>by cases h
 | n+1,a,_,h=>Qvr (Qfh n) (fun _ _ h=>Qpj n _ h) a h
theorem Qw7 (a){r}(h:Qq1 a=some r):Qc prog 236 [.agg (Qr a)] [] (Gives (.I r) []):=Qpj _ a h
def QhO (a:Int)(b:Bool):Option Int:=
 bif b then
 some 1
 else
 bif (a==5)then
 some 2
 else
 bif (a==6)then
 some 3
 else
 some (-1)
def QhP (a:Int)(b:Bool):Option Int:=
 bif b then
 some 0
 else
 bif (a==3)then
 QhO a (a==3)
 else
 QhO a (a==4)
def Qnv (a:Int):Option Int:=
 bif (a==1)then
 QhP a (a==1)
 else
 QhP a (a==2)
theorem Qw8 (a){r}(h:Qnv a=some r):Qc prog 258 [.I a] [] (Gives (.I r) []):=by
 refine Qc.walk 14 func258 rfl rfl rfl fun C hC=>?_
 refine tg_ hC [.n 12] rfl ?_
 refine AK.meet (fun σ=>∃j:Bool,σ=⟨[(3,.I a),(4,.b j)],[]⟩∧QhP a j=some r) ?_ ?_
 ·refine tg_ hC [.n 6] rfl ?_
  refine bg_ h (fun c h=>Qa hC [.T,.n 1,.K [3,4] []] rfl ⟨tt_,c⟩ ?_) fun c h=>Qa hC [.F,.n 4,.K [3,4] []] rfl ⟨tt_,c⟩ ?_
  ·exact AK.met (ex_ _ (an_ rfl h))
  exact AK.met (ex_ _ (an_ rfl h))
 rintro σ ⟨j,rfl,h⟩
 refine bg_ h (fun e h=>Qa hC [.T,.n 8,.K [2] []] rfl ⟨tt_,e⟩ ?_) fun e h=>Qa hC [.F] rfl ⟨tt_,e⟩ ?_
 ·cases h
  exact d1_ rfl rfl tt_
 refine AK.meet (fun σ=>∃k:Bool,σ=⟨[(3,.I a),(7,.b k)],[]⟩∧QhO a k=some r) ?_ ?_
 ·refine tg_ hC [.n 6] rfl ?_
  refine bg_ h (fun d h=>Qa hC [.T,.n 1,.K [3,7] []] rfl ⟨tt_,d⟩ ?_) fun d h=>Qa hC [.F,.n 4,.K [3,7] []] rfl ⟨tt_,d⟩ ?_
  ·exact AK.met (ex_ _ (an_ rfl h))
  exact AK.met (ex_ _ (an_ rfl h))
 rintro σ ⟨k,rfl,h⟩
 refine bg_ h (fun f h=>Qa hC [.T,.n 8,.K [2] []] rfl ⟨tt_,f⟩ ?_) fun f h=>Qa hC [.F,.n 6] rfl ⟨tt_,f⟩ ?_
 ·cases h
  exact d1_ rfl rfl tt_
 refine bg_ h (fun g h=>Qa hC [.T,.n 8,.K [2] []] rfl ⟨tt_,g⟩ ?_) fun g h=>Qa hC [.F,.n 6] rfl ⟨tt_,g⟩ ?_
 ·cases h
  exact d1_ rfl rfl tt_
 refine bg_ h (fun i h=>Qa hC [.T,.n 8,.K [2] []] rfl ⟨tt_,i⟩ ?_) fun i h=>Qa hC [.F,.n 9,.K [2] []] rfl ⟨tt_,i⟩ ?_
 ·cases h
  exact d1_ rfl rfl tt_
 cases h
 exact d1_ rfl rfl tt_
def Qmr (op1:Int):Option Bool:=
 some ((decide (1≤op1))&&(decide (op1≤11)))
theorem Qwf (op1){r}(h:Qmr op1=some r):Qc prog 259 [.I op1] [] (Gives (.b r) []):=by
 refine Qc.walk 9 func259 rfl rfl rfl fun C hC=>?_
 refine tg_ hC [.n 6] rfl ?_
 refine AK.meetX (fun σ=>σ=⟨[(2,.b ((decide (1≤op1))&&(decide (op1≤11))))],[]⟩) ?_ ?_
 ·refine tg_ hC [.n 4] rfl ?_
  rcases Q3 (decide (1≤op1))with a | a
  ·refine Qa hC [.S 5 (.b true),.n 5,.S 2 (.b ((decide (1≤op1))&&(decide (op1≤11)))),.K [2] []] rfl ⟨(tc_ a),(congrArg V.b (QbV a rfl))⟩ ?_
   exact AK.met rfl
  refine Qa hC [.S 5 (.b false),.n 5,.S 2 (.b ((decide (1≤op1))&&(decide (op1≤11)))),.K [2] []] rfl ⟨(tc_ a),(congrArg V.b (QdF a rfl))⟩ ?_
  exact AK.met rfl
 rintro σ rfl
 refine tg_ hC [.n 2] rfl ?_
 cases h
 exact d1_ rfl rfl tt_
def Qm7 (rec_expr_parts:Qo→Int→Option Bool)(a:Qo)(b:Int):Option Bool:=
 (rec_expr_parts a b).bind fun c=>
 some (!c)
theorem QuA (rec_expr_parts:Qo→Int→Option Bool)(hrec_expr_parts:∀(i:Qo) (a:Int) {r:Bool},rec_expr_parts i a=some r→Qc prog 237 [.agg (Qr i),.I a] [] (Gives (.b r) []))(e:Qo)(f:Int){r:Bool}(h:Qm7 rec_expr_parts e f=some r):Qc prog 261 [.agg (Qr e),.loc 617 0 0] [(617,.var (Qe f))] (Gives (.b r) [(617,.var (Qe f))]):=by
 refine Qc.walk 8 func261 rfl rfl rfl fun C hC=>?_
 obtain⟨j,g,h⟩:=Qb h
 refine Qa hC [.n 8,.v .no [] (.agg (Qr e)),.n 1,.o (.c false [.d,.d] (.b j)),.n 5] rfl ⟨⟨tt_,rfl⟩,(hrec_expr_parts _ _ g)⟩ ?_
 cases h
 exact d1_ rfl rfl ⟨rfl,tt_⟩
def Qa4 (c:(List Qo))(rec_expr_parts:Qo→Int→Option Bool)(d:Int)(a:Int):Option (Int⊕(Int⊕Unit)):=
 bif (decide (a<(c.length:Int)))then
 (idx c a).bind fun e=>
 (Qm7 rec_expr_parts e d).bind fun b=>
 bif b then
 some (.inr (.inl a))
 else
 some (.inl (w64 (a+1)))
 else
 some (.inr (.inr ()))
def Qd1 (a:Int):Option Int:=
 some a
def Qd2 : Option Int:=
 some (-1)
def QcB (rec_expr_parts:Qo→Int→Option Bool)(a:(List Qo))(b:Int):Option Int:=
 (QK (fun st=>Qa4 a rec_expr_parts b st) 0).bind (Sum.elim (fun q=>Qd1 q) (fun q=>Qd2))
theorem QiQ (rec_expr_parts:Qo→Int→Option Bool)(hrec_expr_parts:∀(s:Qo) (a:Int) {r:Bool},rec_expr_parts s a=some r→Qc prog 237 [.agg (Qr s),.I a] [] (Gives (.b r) []))(i:(List Qo))(f:Int){r:Int}(h:QcB rec_expr_parts i f=some r):Qc prog 277 [.sl 3 (Qbp i),.clo (.func 261) [] [.loc 617 0 0]] [(617,.var (Qe f))] (Gives (.I r) [(617,.var (Qe f))]):=by
 refine Qc.walk 19 func277 rfl rfl rfl fun C hC=>?_
 refine Qa hC [.n 9,.o (.ln i.length),.n 4,.K [0,1,7,8] [617]] rfl ⟨tt_,Qkr _⟩ ?_
 obtain⟨l,j,h⟩:=Qb h
 refine AK.loop (body:=(fun st=>Qa4 i rec_expr_parts f st)) (fun st σ=>σ=⟨[(0,.sl 3 (Qbp i)),(1,.clo (.func 261) [] [.loc 617 0 0]),(7,.I (i.length:Int)),(8,.I st)],[(617,.var (Qe f))]⟩) (Sum.elim (fun q e σ=>e=.ret∧σ=⟨[(4,.I q)],[(617,.var (Qe f))]⟩) (fun q e σ=>e=.exit 0∧σ=⟨[],[(617,.var (Qe f))]⟩)) j rfl ?_ ?_
 ·rintro w o σ rfl h
  refine tg_ hC [.n 6] rfl ?_
  rcases Qs h with⟨g,h⟩|⟨g,h⟩
  ·obtain⟨t,m,h⟩:=Qb h
   obtain⟨p,k,h⟩:=Qb h
   refine Qa hC [.T,.n 15,.o (.row (Qr t)),.v .no [] (.agg (Qr t)),.cm (.clo) [(617,617)] [(617,617)] [] [.d,.d] [(617,.var (Qe f))] (.b p),.n 2] rfl ⟨⟨⟨⟨tt_,g⟩,(QeG m)⟩,rfl⟩,(QuA rec_expr_parts hrec_expr_parts _ _ k)⟩ ?_
   refine bg_ h (fun c h=>Qa hC [.T,.n 9,.K [4] [617]] rfl ⟨tt_,c⟩ ?_) fun c h=>Qa hC [.F,.n 7,.K [0,1,7,8] [617]] rfl ⟨tt_,c⟩ ?_
   ·cases h
    exact Qar rfl (an_ rfl rfl)
   cases h
   exact Q5 rfl rfl
  refine Qa hC [.F,.n 2,.K [] [617]] rfl ⟨tt_,g⟩ ?_
  cases h
  exact Q6 rfl (an_ rfl rfl)
 rcases l with(u | _)
 ·replace h:Qd1 u=some r:=h
  rintro e σ ⟨rfl,rfl⟩
  refine tg_ hC [.n 2] rfl ?_
  cases h
  exact d1_ rfl rfl ⟨rfl,tt_⟩
 replace h:Qd2=some r:=h
 rintro e σ ⟨rfl,rfl⟩
 refine tg_ hC [.n 8] rfl ?_
 cases h
 exact d1_ rfl rfl ⟨rfl,tt_⟩
def Qa5 (rec_expr_parts:Qo→Int→Option Bool)(a:(List Qo))(b:Int):Option Bool:=
 (QcB rec_expr_parts a b).bind fun c=>
 some (decide (0≤c))
theorem QhQ (rec_expr_parts:Qo→Int→Option Bool)(hrec_expr_parts:∀(f:Qo) (a:Int) {r:Bool},rec_expr_parts f a=some r→Qc prog 237 [.agg (Qr f),.I a] [] (Gives (.b r) []))(g:(List Qo))(c:Int){r:Bool}(h:Qa5 rec_expr_parts g c=some r):Qc prog 260 [.sl 3 (Qbp g),.clo (.func 261) [] [.loc 617 0 0]] [(617,.var (Qe c))] (Gives (.b r) [(617,.var (Qe c))]):=by
 refine Qc.walk 9 func260 rfl rfl rfl fun C hC=>?_
 obtain⟨i,e,h⟩:=Qb h
 refine Qa hC [.n 9,.cm (.fn) [(617,617)] [(617,617)] [] [.d,.d] [(617,.var (Qe c))] (.I i),.n 5] rfl ⟨tt_,(QiQ rec_expr_parts hrec_expr_parts _ _ e)⟩ ?_
 cases h
 exact d1_ rfl rfl ⟨rfl,tt_⟩
def Qqm (b:Qo):Option Bool:=
 bif (b.Kind==5)then
 (Qmr b.Num).bind fun a=>
 some (!a)
 else
 some false
def Qjn (rec_expr_parts:Qo→Int→Option Bool)(d:Qo)(a:Int)(b:Bool):Option Bool:=
 bif b then
 some false
 else
 (Qa5 rec_expr_parts d.Kids a).bind fun c=>
 some (!c)
def Qm8 (rec_expr_parts:Qo→Int→Option Bool)(b:Qo)(a:Int):Option Bool:=
 (Qnv b.Kind).bind fun d=>
 bif ((b.Kids.length:Int) != d)then
 some false
 else
 bif ((b.Kind==2)&&((decide (b.Num<0))||(decide (a≤b.Num))))then
 some false
 else
 (Qqm b).bind (fun c=>Qjn rec_expr_parts b a c)
def Qev : Nat→Qo→Int→Option Bool
 | 0,_,_=>none
 | n+1,b,a=>Qm8 (Qev n) b a
def Qpk (b:Qo)(a:Int):Option Bool:=Qev (SizeOf.sizeOf b) b a
theorem QuB (rec_expr_parts:Qo→Int→Option Bool)(hrec_expr_parts:∀(f:Qo) (e:Int) {r:Bool},rec_expr_parts f e=some r→Qc prog 237 [.agg (Qr f),.I e] [] (Gives (.b r) []))(f:Qo)(e:Int){r:Bool}(h:Qm8 rec_expr_parts f e=some r):Qc prog 237 [.agg (Qr f),.I e] [] (Gives (.b r) []):=by
 refine Qc.walk 43 func237 rfl rfl rfl fun C hC=>?_
 obtain⟨x,u,h⟩:=Qb h
 refine tg_ hC [.n 10,.K [2,3] [2,3]] rfl ?_
 refine AK.draw2 Qq hC mixed [.N,.N,.a (.ln f.Kids.length) none false,.N,.N,.a (.c false [.d] (.I x)) none false,.N,.N] [] [] [2,3,5] [2,3] rfl rfl rfl ⟨⟨tt_,Qkr _⟩,(Qw8 _ u)⟩ rfl (by kernel_rfl) rfl rfl rfl ?_
 refine tg_ hC [.n 1] rfl ?_
 refine bg_ h (fun m h=>Qa hC [.T,.n 8,.K [4] []] rfl ⟨tt_,m⟩ ?_) fun m h=>Qa hC [.F,.n 1] rfl ⟨tt_,m⟩ ?_
 ·cases h
  exact d1_ rfl rfl tt_
 refine AK.meetX (fun σ=>σ=⟨[(2,.loc 2 0 0),(3,.loc 3 0 0),(13,.b ((f.Kind==2)&&((decide (f.Num<0))||(decide (e≤f.Num)))))],[(2,.var (Qr f)),(3,.var (Qe e))]⟩) ?_ ?_
 ·refine tg_ hC [.n 5] rfl ?_
  rcases Q3 (f.Kind==2)with g | g
  ·refine Qa hC [.S 17 (.b true),.n 4] rfl (tc_ g) ?_
   rcases Q3 (decide (f.Num<0))with i | i
   ·refine Qa hC [.S 21 (.b true),.n 8,.S 13 (.b ((f.Kind==2)&&((decide (f.Num<0))||(decide (e≤f.Num))))),.K [2,3,13] [2,3]] rfl ⟨(tc_ i),(congrArg V.b (QbV g (orT i rfl)))⟩ ?_
    exact AK.met rfl
   refine Qa hC [.S 21 (.b false),.n 8,.S 13 (.b ((f.Kind==2)&&((decide (f.Num<0))||(decide (e≤f.Num))))),.K [2,3,13] [2,3]] rfl ⟨(tc_ i),(congrArg V.b (QbV g (orF i rfl)))⟩ ?_
   exact AK.met rfl
  refine Qa hC [.S 17 (.b false),.n 12,.S 13 (.b ((f.Kind==2)&&((decide (f.Num<0))||(decide (e≤f.Num))))),.K [2,3,13] [2,3]] rfl ⟨(tc_ g),(congrArg V.b (QdF g rfl))⟩ ?_
  exact AK.met rfl
 rintro σ rfl
 refine tg_ hC [.n 1] rfl ?_
 refine bg_ h (fun j h=>Qa hC [.T,.n 8,.K [4] []] rfl ⟨tt_,j⟩ ?_) fun j h=>Qa hC [.F,.n 1] rfl ⟨tt_,j⟩ ?_
 ·cases h
  exact d1_ rfl rfl tt_
 obtain⟨p,q,h⟩:=Qb h
 replace h:Qjn rec_expr_parts f e p=some r:=h
 refine AK.meetX (fun σ=>σ=⟨[(2,.loc 2 0 0),(3,.loc 3 0 0),(28,.b p)],[(2,.var (Qr f)),(3,.var (Qe e))]⟩) ?_ ?_
 ·replace h:=q
  refine tg_ hC [.n 5] rfl ?_
  rcases Qs h with⟨k,h⟩|⟨k,h⟩
  ·obtain⟨v,s,h⟩:=Qb h
   refine Qa hC [.S 32 (.b true),.n 2,.o (.c false [.d] (.b v)),.n 4,.K [2,3,28] [2,3]] rfl ⟨(tc_ k),(Qwf _ s)⟩ ?_
   cases h
   exact AK.met rfl
  refine Qa hC [.S 32 (.b false),.n 7,.K [2,3,28] [2,3]] rfl (tc_ k) ?_
  cases h
  exact AK.met rfl
 rintro σ rfl
 replace h:Qjn rec_expr_parts f e p=some r:=h
 refine tg_ hC [.n 1] rfl ?_
 rcases Qs h with⟨l,h⟩|⟨l,h⟩
 ·refine Qa hC [.T,.n 8] rfl ⟨tt_,l⟩ ?_
  cases h
  exact d1_ rfl rfl tt_
 obtain⟨w,t,h⟩:=Qb h
 refine Qa hC [.F,.n 8,.cm (.fn) [(617,3)] [(3,617)] [] [.d,.d] [(617,.var (Qe e))] (.b w),.n 5] rfl ⟨⟨tt_,l⟩,(QhQ rec_expr_parts hrec_expr_parts _ _ t)⟩ ?_
 cases h
 exact d1_ rfl rfl tt_
theorem Qoe : ∀(fuel:Nat) (c:Qo) (a:Int) {r:Bool},Qev fuel c a=some r→Qc prog 237 [.agg (Qr c),.I a] [] (Gives (.b r) [])
 | 0,_,_,_,h=>by cases h
 | n+1,c,a,_,h=>QuB (Qev n) (fun _ _ _ h=>Qoe n _ _ h) c a h
theorem Qwg (c a){r}(h:Qpk c a=some r):Qc prog 237 [.agg (Qr c),.I a] [] (Gives (.b r) []):=Qoe _ c a h
def Qqn (b:Qo)(a:Int):Option Bool:=
 (Qpi b).bind fun d=>
 bif (decide (d≤40))then
 (Qq1 b).bind fun e=>
 bif (decide (e≤400))then
 (Qpk b a).bind fun c=>
 some c
 else
 some false
 else
 some false
def Qms (a:Bool):Option Bool:=
 some a
def QhR (b:Qo)(a:Int):Option Bool:=
 (Qqn b a).bind (fun c=>Qms c)
theorem Qmt (g a){r}(h:QhR g a=some r):Qc prog 192 [.agg (Qr g),.I a] [] (Gives (.b r) []):=by
 refine Qc.walk 18 func192 rfl rfl rfl fun C hC=>?_
 refine tg_ hC [.n 7] rfl ?_
 obtain⟨j,k,h⟩:=Qb h
 replace h:Qms j=some r:=h
 refine AK.meetX (fun σ=>σ=⟨[(4,.b j)],[]⟩) ?_ ?_
 ·replace h:=k
  obtain⟨q,l,h⟩:=Qb h
  refine Qa hC [.n 1,.v .no [] (.agg (Qr g)),.o (.c false [.d] (.I q)),.n 2] rfl ⟨⟨tt_,rfl⟩,(Qwe _ l)⟩ ?_
  rcases Qs h with⟨e,h⟩|⟨e,h⟩
  ·obtain⟨s,m,h⟩:=Qb h
   refine Qa hC [.S 8 (.b true),.v .no [] (.agg (Qr g)),.o (.c false [.d] (.I s)),.n 3] rfl ⟨⟨(tc_ e),rfl⟩,(Qw7 _ m)⟩ ?_
   rcases Qs h with⟨f,h⟩|⟨f,h⟩
   ·obtain⟨p,i,h⟩:=Qb h
    refine Qa hC [.S 13 (.b true),.v .no [] (.agg (Qr g)),.n 1,.o (.c false [.d,.d] (.b p)),.n 3,.K [4] []] rfl ⟨⟨(tc_ f),rfl⟩,(Qwg _ _ i)⟩ ?_
    cases h
    exact AK.met rfl
   refine Qa hC [.S 13 (.b false),.n 6,.K [4] []] rfl (tc_ f) ?_
   cases h
   exact AK.met rfl
  refine Qa hC [.S 8 (.b false),.n 11,.K [4] []] rfl (tc_ e) ?_
  cases h
  exact AK.met rfl
 rintro σ rfl
 replace h:Qms j=some r:=h
 refine tg_ hC [.n 2] rfl ?_
 cases h
 exact d1_ rfl rfl tt_
def QcC (b:(List Int))(a:Int)(c:Bool):Option ((List Int)⊕((List Int)⊕((List Int)⊕((List Int)⊕(List Int))))):=
 bif c then
 some (.inr (.inr (.inl b)))
 else
 bif (a==5)then
 some (.inr (.inr (.inr (.inl b))))
 else
 some (.inr (.inr (.inr (.inr b))))
def QcY (b:(List Int))(a:Int):Option ((List Int)⊕((List Int)⊕((List Int)⊕((List Int)⊕(List Int))))):=
 bif (a==1)then
 some (.inl b)
 else
 bif (a==2)then
 some (.inr (.inl b))
 else
 bif (a==3)then
 QcC b a (a==3)
 else
 QcC b a (a==4)
theorem QeU (j a){r}(h:QcY j a=some r):Qc prog 252 [.sl 1 (j.map Qe),.I a] [] ((Sum.elim (fun q=>(Gives (.clo (.func 268) [.sl 1 (q.map Qe)] []) [])) (Sum.elim (fun q=>(Gives (.clo (.func 269) [.sl 1 (q.map Qe)] []) [])) (Sum.elim (fun q=>(Gives (.clo (.func 270) [.sl 1 (q.map Qe)] []) [])) (Sum.elim (fun q=>(Gives (.clo (.func 271) [.sl 1 (q.map Qe)] []) [])) (fun q=>(Gives (.clo (.func 272) [.sl 1 (q.map Qe)] []) [])))))) r):=by
 refine Qc.walk 25 func252 rfl rfl rfl fun C hC=>?_
 refine tg_ hC [.n 18] rfl ?_
 refine bg_ h (fun f h=>Qa hC [.T,.n 10,.K [4] []] rfl ⟨tt_,f⟩ ?_) fun f h=>Qa hC [.F,.n 6] rfl ⟨tt_,f⟩ ?_
 ·cases h
  exact AK.done (ex_ [_] (an_ (an_ rfl tt_) (gives tt_)))
 refine bg_ h (fun g h=>Qa hC [.T,.n 10,.K [4] []] rfl ⟨tt_,g⟩ ?_) fun g h=>Qa hC [.F] rfl ⟨tt_,g⟩ ?_
 ·cases h
  exact AK.done (ex_ [_] (an_ (an_ rfl tt_) (gives tt_)))
 refine AK.meet (fun σ=>∃i:Bool,σ=⟨[(0,.sl 1 (j.map Qe)),(5,.I a),(14,.b i)],[]⟩∧QcC j a i=some r) ?_ ?_
 ·refine tg_ hC [.n 6] rfl ?_
  refine bg_ h (fun c h=>Qa hC [.T,.n 1,.K [0,5,14] []] rfl ⟨tt_,c⟩ ?_) fun c h=>Qa hC [.F,.n 4,.K [0,5,14] []] rfl ⟨tt_,c⟩ ?_
  ·exact AK.met (ex_ _ (an_ rfl h))
  exact AK.met (ex_ _ (an_ rfl h))
 rintro σ ⟨i,rfl,h⟩
 refine bg_ h (fun d h=>Qa hC [.T,.n 10,.K [4] []] rfl ⟨tt_,d⟩ ?_) fun d h=>Qa hC [.F,.n 6] rfl ⟨tt_,d⟩ ?_
 ·cases h
  exact AK.done (ex_ [_] (an_ (an_ rfl tt_) (gives tt_)))
 refine bg_ h (fun e h=>Qa hC [.T,.n 10,.K [4] []] rfl ⟨tt_,e⟩ ?_) fun e h=>Qa hC [.F,.n 11,.K [4] []] rfl ⟨tt_,e⟩ ?_
 ·cases h
  exact AK.done (ex_ [_] (an_ (an_ rfl tt_) (gives tt_)))
 cases h
 exact AK.done (ex_ [_] (an_ (an_ rfl tt_) (gives tt_)))
def Qof (b:(List Int))(a:Qo):Option (Int×Int):=
 some (a.Num,0)
theorem Qsw (a b){r}(h:Qof a b=some r):Qc prog 268 [.sl 1 (a.map Qe),.agg (Qr b)] [] (Gives (.tup [.I r.1,.I r.2]) []):=by
 refine Qc.walk 8 func268 rfl rfl rfl fun C hC=>?_
 refine tg_ hC [.n 16] rfl ?_
 cases h
 exact d2_ rfl rfl rfl tt_
def Qjb (a:(List Int))(b:Qo):Option (Int×Int):=
 (idx a b.Num).bind fun c=>
 some (c,0)
theorem Qq2 (b c){r}(h:Qjb b c=some r):Qc prog 269 [.sl 1 (b.map Qe),.agg (Qr c)] [] (Gives (.tup [.I r.1,.I r.2]) []):=by
 refine Qc.walk 11 func269 rfl rfl rfl fun C hC=>?_
 obtain⟨d,a,h⟩:=Qb h
 refine Qa hC [.n 12,.o (.row (Qe d)),.n 6] rfl ⟨tt_,(QT a)⟩ ?_
 cases h
 exact d2_ rfl rfl rfl tt_
def QoD (a:Int)(b:Int):Option (Int×Int):=
 bif (((decide (a<0))==(decide (b<0)))&&((decide ((w64 (a+b))<0)) != (decide (a<0))))then
 some (0,6)
 else
 some ((w64 (a+b)),0)
theorem QxT (a d){r}(h:QoD a d=some r):Qc prog 289 [.I a,.I d] [] (Gives (.tup [.I r.1,.I r.2]) []):=by
 refine Qc.walk 23 func289 rfl rfl rfl fun C hC=>?_
 refine tg_ hC [.n 16] rfl ?_
 refine AK.meetX (fun σ=>σ=⟨[(6,.I (w64 (a+d))),(21,.b (((decide (a<0))==(decide (d<0)))&&((decide ((w64 (a+d))<0)) != (decide (a<0)))))],[]⟩) ?_ ?_
 ·refine tg_ hC [.n 7] rfl ?_
  rcases Q3 ((decide (a<0))==(decide (d<0)))with c | c
  ·refine Qa hC [.S 15 (.b true),.n 7,.S 21 (.b (((decide (a<0))==(decide (d<0)))&&((decide ((w64 (a+d))<0)) != (decide (a<0))))),.K [6,21] []] rfl ⟨(tc_ c),(congrArg V.b (QbV c rfl))⟩ ?_
   exact AK.met rfl
  refine Qa hC [.S 15 (.b false),.n 7,.S 21 (.b (((decide (a<0))==(decide (d<0)))&&((decide ((w64 (a+d))<0)) != (decide (a<0))))),.K [6,21] []] rfl ⟨(tc_ c),(congrArg V.b (QdF c rfl))⟩ ?_
  exact AK.met rfl
 rintro σ rfl
 refine tg_ hC [.n 1] rfl ?_
 refine bg_ h (fun e h=>Qa hC [.T,.n 8,.K [4,5] []] rfl ⟨tt_,e⟩ ?_) fun e h=>Qa hC [.F,.n 10,.K [4,5] []] rfl ⟨tt_,e⟩ ?_
 ·cases h
  exact d2_ rfl rfl rfl tt_
 cases h
 exact d2_ rfl rfl rfl tt_
def Qho (a:Int)(b:Int):Option (Int×Int):=
 bif (((decide (a<0)) != (decide (b<0)))&&((decide ((w64 (a-b))<0)) != (decide (a<0))))then
 some (0,6)
 else
 some ((w64 (a-b)),0)
theorem Qsx (a d){r}(h:Qho a d=some r):Qc prog 290 [.I a,.I d] [] (Gives (.tup [.I r.1,.I r.2]) []):=by
 refine Qc.walk 23 func290 rfl rfl rfl fun C hC=>?_
 refine tg_ hC [.n 16] rfl ?_
 refine AK.meetX (fun σ=>σ=⟨[(6,.I (w64 (a-d))),(21,.b (((decide (a<0)) != (decide (d<0)))&&((decide ((w64 (a-d))<0)) != (decide (a<0)))))],[]⟩) ?_ ?_
 ·refine tg_ hC [.n 7] rfl ?_
  rcases Q3 ((decide (a<0)) != (decide (d<0)))with c | c
  ·refine Qa hC [.S 15 (.b true),.n 7,.S 21 (.b (((decide (a<0)) != (decide (d<0)))&&((decide ((w64 (a-d))<0)) != (decide (a<0))))),.K [6,21] []] rfl ⟨(tc_ c),(congrArg V.b (QbV c rfl))⟩ ?_
   exact AK.met rfl
  refine Qa hC [.S 15 (.b false),.n 7,.S 21 (.b (((decide (a<0)) != (decide (d<0)))&&((decide ((w64 (a-d))<0)) != (decide (a<0))))),.K [6,21] []] rfl ⟨(tc_ c),(congrArg V.b (QdF c rfl))⟩ ?_
  exact AK.met rfl
 rintro σ rfl
 refine tg_ hC [.n 1] rfl ?_
 refine bg_ h (fun e h=>Qa hC [.T,.n 8,.K [4,5] []] rfl ⟨tt_,e⟩ ?_) fun e h=>Qa hC [.F,.n 10,.K [4,5] []] rfl ⟨tt_,e⟩ ?_
 ·cases h
  exact d2_ rfl rfl rfl tt_
 cases h
 exact d2_ rfl rfl rfl tt_
def Qlg (a:Int):Option Int:=
 bif (decide (a<0))then
 some (IntKind.u64.wrap (0-(IntKind.u64.wrap a)))
 else
 some (IntKind.u64.wrap a)
theorem Qro (b){r}(h:Qlg b=some r):Qc prog 296 [.I b] [] (Gives (.i .u64 r) []):=by
 refine Qc.walk 10 func296 rfl rfl rfl fun C hC=>?_
 refine tg_ hC [.n 12] rfl ?_
 refine bg_ h (fun a h=>Qa hC [.T,.n 3,.o (.any (.i .u64 (IntKind.u64.wrap b)) none),.n 6,.K [2] []] rfl ⟨⟨tt_,a⟩,(fun σ c d _=>Stp.convI rfl rfl (QO hC.n rfl) (c _ _ rfl) Qvn QtH)⟩ ?_) fun a h=>Qa hC [.F,.n 5,.o (.any (.i .u64 (IntKind.u64.wrap b)) none),.n 4,.K [2] []] rfl ⟨⟨tt_,a⟩,(fun σ c d _=>Stp.convI rfl rfl (QO hC.n rfl) (c _ _ rfl) Qvn QtH)⟩ ?_
 ·cases h
  exact d1_ rfl rfl tt_
 cases h
 exact d1_ rfl rfl tt_
def Qhp (a:Int)(b:Int):Option (Int×Int):=
 some ((IntKind.u64.wrap ((IntKind.u64.wrap ((IntKind.u64.wrap ((Qbt .u64 a 32)*(Qbt .u64 b 32)))+(Qbt .u64 (IntKind.u64.wrap ((IntKind.u64.wrap ((Qbt .u64 a 32)*(Qd7 .u64 b 4294967295)))+(Qbt .u64 (IntKind.u64.wrap ((Qd7 .u64 a 4294967295)*(Qd7 .u64 b 4294967295))) 32))) 32)))+(Qbt .u64 (IntKind.u64.wrap ((Qd7 .u64 (IntKind.u64.wrap ((IntKind.u64.wrap ((Qbt .u64 a 32)*(Qd7 .u64 b 4294967295)))+(Qbt .u64 (IntKind.u64.wrap ((Qd7 .u64 a 4294967295)*(Qd7 .u64 b 4294967295))) 32))) 4294967295)+(IntKind.u64.wrap ((Qd7 .u64 a 4294967295)*(Qbt .u64 b 32))))) 32))),(IntKind.u64.wrap (a*b)))
theorem Qsy (b c){r}(h:Qhp b c=some r):Qc prog 295 [.i .u64 b,.i .u64 c] [] (Gives (.tup [.i .u64 r.1,.i .u64 r.2]) []):=by
 refine Qc.walk 51 func295 rfl rfl rfl fun C hC=>?_
 refine Qa hC [.n 9,.o (.any (.i .u64 (Qd7 .u64 b 4294967295)) none),.n 6,.o (.any (.i .u64 (Qbt .u64 b 32)) none),.n 6,.o (.any (.i .u64 (Qd7 .u64 c 4294967295)) none),.n 6,.o (.any (.i .u64 (Qbt .u64 c 32)) none),.n 17,.o (.any (.i .u64 (Qbt .u64 (IntKind.u64.wrap ((Qd7 .u64 b 4294967295)*(Qd7 .u64 c 4294967295))) 32)) none),.n 7,.o (.any (.i .u64 (Qd7 .u64 (IntKind.u64.wrap ((IntKind.u64.wrap ((Qbt .u64 b 32)*(Qd7 .u64 c 4294967295)))+(Qbt .u64 (IntKind.u64.wrap ((Qd7 .u64 b 4294967295)*(Qd7 .u64 c 4294967295))) 32))) 4294967295)) none),.n 6,.o (.any (.i .u64 (Qbt .u64 (IntKind.u64.wrap ((IntKind.u64.wrap ((Qbt .u64 b 32)*(Qd7 .u64 c 4294967295)))+(Qbt .u64 (IntKind.u64.wrap ((Qd7 .u64 b 4294967295)*(Qd7 .u64 c 4294967295))) 32))) 32)) none),.n 21,.o (.any (.i .u64 (Qbt .u64 (IntKind.u64.wrap ((Qd7 .u64 (IntKind.u64.wrap ((IntKind.u64.wrap ((Qbt .u64 b 32)*(Qd7 .u64 c 4294967295)))+(Qbt .u64 (IntKind.u64.wrap ((Qd7 .u64 b 4294967295)*(Qd7 .u64 c 4294967295))) 32))) 4294967295)+(IntKind.u64.wrap ((Qd7 .u64 b 4294967295)*(Qbt .u64 c 32))))) 32)) none),.n 13] rfl ⟨⟨⟨⟨⟨⟨⟨⟨tt_,(fun σ a d _=>Stp.andB rfl rfl (QO hC.n rfl) (a _ _ rfl) (a _ _ rfl))⟩,(fun σ a d _=>Stp.shr rfl rfl (QO hC.n rfl) (a _ _ rfl) (a _ _ rfl) (by decide))⟩,(fun σ a d _=>Stp.andB rfl rfl (QO hC.n rfl) (a _ _ rfl) (a _ _ rfl))⟩,(fun σ a d _=>Stp.shr rfl rfl (QO hC.n rfl) (a _ _ rfl) (a _ _ rfl) (by decide))⟩,(fun σ a d _=>Stp.shr rfl rfl (QO hC.n rfl) (a _ _ rfl) (a _ _ rfl) (by decide))⟩,(fun σ a d _=>Stp.andB rfl rfl (QO hC.n rfl) (a _ _ rfl) (a _ _ rfl))⟩,(fun σ a d _=>Stp.shr rfl rfl (QO hC.n rfl) (a _ _ rfl) (a _ _ rfl) (by decide))⟩,(fun σ a d _=>Stp.shr rfl rfl (QO hC.n rfl) (a _ _ rfl) (a _ _ rfl) (by decide))⟩ ?_
 cases h
 exact d2_ rfl rfl rfl tt_
def Qfm (b:(Int×Int))(c:Int)(d:Int)(a:Int):Option (Int×Int):=
 bif ((decide (0<b.1))||(decide (a<b.2)))then
 some (0,6)
 else
 some ((w64 (c*d)),0)
def Qkz (a:Int)(b:Int):Option (Int×Int):=
 (Qlg a).bind fun d=>
 (Qlg b).bind fun e=>
 (Qhp d e).bind fun c=>
 bif ((decide (a<0)) != (decide (b<0)))then
 Qfm c a b (IntKind.u64.wrap (9223372036854775807+1))
 else
 Qfm c a b 9223372036854775807
theorem QuC (k l){r}(h:Qkz k l=some r):Qc prog 291 [.I k,.I l] [] (Gives (.tup [.I r.1,.I r.2]) []):=by
 refine Qc.walk 34 func291 rfl rfl rfl fun C hC=>?_
 obtain⟨s,m,h⟩:=Qb h
 obtain⟨t,p,h⟩:=Qb h
 obtain⟨f,q,h⟩:=Qb h
 refine Qa hC [.n 9,.o (.c false [.d] (.i .u64 s)),.n 1,.o (.c false [.d] (.i .u64 t)),.o (.c false [.d,.d] (.tup [.i .u64 f.1,.i .u64 f.2])),.n 12] rfl ⟨⟨⟨tt_,(Qro _ m)⟩,(Qro _ p)⟩,(Qsy _ _ q)⟩ ?_
 refine AK.meet (fun σ=>∃a:Int,σ=⟨[(0,.I k),(1,.I l),(6,.i .u64 f.1),(7,.i .u64 f.2),(8,.i .u64 a)],[]⟩∧Qfm f k l a=some r) ?_ ?_
 ·refine tg_ hC [.n 9] rfl ?_
  refine bg_ h (fun g h=>Qa hC [.T,.n 5,.K [0,1,6,7,8] []] rfl ⟨tt_,g⟩ ?_) fun g h=>Qa hC [.F,.n 1,.K [0,1,6,7,8] []] rfl ⟨tt_,g⟩ ?_
  ·exact AK.met (ex_ _ (an_ rfl h))
  exact AK.met (ex_ _ (an_ rfl h))
 rintro σ ⟨a,rfl,h⟩
 refine tg_ hC [.n 2] rfl ?_
 refine AK.meetX (fun σ=>σ=⟨[(0,.I k),(1,.I l),(30,.b ((decide (0<f.1))||(decide (a<f.2))))],[]⟩) ?_ ?_
 ·refine tg_ hC [.n 4] rfl ?_
  rcases Q3 (decide (0<f.1))with e | e
  ·refine Qa hC [.S 26 (.b true),.n 5,.S 30 (.b ((decide (0<f.1))||(decide (a<f.2)))),.K [0,1,30] []] rfl ⟨(tc_ e),(congrArg V.b (orT e rfl))⟩ ?_
   exact AK.met rfl
  refine Qa hC [.S 26 (.b false),.n 5,.S 30 (.b ((decide (0<f.1))||(decide (a<f.2)))),.K [0,1,30] []] rfl ⟨(tc_ e),(congrArg V.b (orF e rfl))⟩ ?_
  exact AK.met rfl
 rintro σ rfl
 refine tg_ hC [.n 1] rfl ?_
 refine bg_ h (fun j h=>Qa hC [.T,.n 8,.K [4,5] []] rfl ⟨tt_,j⟩ ?_) fun j h=>Qa hC [.F,.n 12,.K [4,5] []] rfl ⟨tt_,j⟩ ?_
 ·cases h
  exact d2_ rfl rfl rfl tt_
 cases h
 exact d2_ rfl rfl rfl tt_
def QgK (b:Int)(a:Int):Option (Int×Int×Int):=
 bif (a==0)then
 some (0,0,7)
 else
 bif ((b==(-9223372036854775808))&&(a==(-1)))then
 some (0,0,6)
 else
 (chk (a != 0)).bind fun _=>
 (chk (a != 0)).bind fun _=>
 some ((w64 (Int.tdiv b a)),(Int.tmod b a),0)
theorem QnG (d f){r}(h:QgK d f=some r):Qc prog 292 [.I d,.I f] [] (Gives (.tup [.I r.1,.I r.2.1,.I r.2.2]) []):=by
 refine Qc.walk 23 func292 rfl rfl rfl fun C hC=>?_
 refine tg_ hC [.n 16] rfl ?_
 refine bg_ h (fun e h=>Qa hC [.T,.n 10,.K [4,5,6] []] rfl ⟨tt_,e⟩ ?_) fun e h=>Qa hC [.F,.n 1] rfl ⟨tt_,e⟩ ?_
 ·cases h
  exact AK.done (ex_ [_,_,_] (an_ (an_ rfl (an_ rfl (an_ rfl tt_))) (gives tt_)))
 refine AK.meetX (fun σ=>σ=⟨[(0,.I d),(1,.I f),(10,.b ((d==(-9223372036854775808))&&(f==(-1))))],[]⟩) ?_ ?_
 ·refine tg_ hC [.n 4] rfl ?_
  rcases Q3 (d==(-9223372036854775808))with a | a
  ·refine Qa hC [.S 13 (.b true),.n 5,.S 10 (.b ((d==(-9223372036854775808))&&(f==(-1)))),.K [0,1,10] []] rfl ⟨(tc_ a),(congrArg V.b (QbV a rfl))⟩ ?_
   exact AK.met rfl
  refine Qa hC [.S 13 (.b false),.n 5,.S 10 (.b ((d==(-9223372036854775808))&&(f==(-1)))),.K [0,1,10] []] rfl ⟨(tc_ a),(congrArg V.b (QdF a rfl))⟩ ?_
  exact AK.met rfl
 rintro σ rfl
 refine tg_ hC [.n 1] rfl ?_
 rcases Qs h with⟨c,h⟩|⟨c,h⟩
 ·refine Qa hC [.T,.n 10,.K [4,5,6] []] rfl ⟨tt_,c⟩ ?_
  cases h
  exact AK.done (ex_ [_,_,_] (an_ (an_ rfl (an_ rfl (an_ rfl tt_))) (gives tt_)))
 obtain⟨g,h⟩:=QaX h
 obtain⟨i,h⟩:=QaX h
 refine Qa hC [.F,.n 4,.K [0,1] []] rfl ⟨tt_,c⟩ ?_
 refine AK.draw2 Qq hC mixed [.N,.N,.N,.N,.N,.N,.N,.N,.N] [] [] [4,5,6] [] rfl rfl rfl ⟨⟨tt_,(neZ g)⟩,(neZ i)⟩ rfl (by kernel_rfl) rfl rfl rfl ?_
 refine tg_ hC [.n 2,.K [4,5,6] []] rfl ?_
 cases h
 exact AK.done (ex_ [_,_,_] (an_ (an_ rfl (an_ rfl (an_ rfl tt_))) (gives tt_)))
def QdO (a:Bool):Option (Int×Int):=
 bif a then
 some (1,0)
 else
 some (0,0)
theorem Qd3 (c){r}(h:QdO c=some r):Qc prog 293 [.b c] [] (Gives (.tup [.I r.1,.I r.2]) []):=by
 refine Qc.walk 5 func293 rfl rfl rfl fun C hC=>?_
 refine tg_ hC [.n 12] rfl ?_
 refine bg_ h (fun a h=>Qa hC [.T,.n 8,.K [2,3] []] rfl ⟨tt_,a⟩ ?_) fun a h=>Qa hC [.F,.n 9,.K [2,3] []] rfl ⟨tt_,a⟩ ?_
 ·cases h
  exact d2_ rfl rfl rfl tt_
 cases h
 exact d2_ rfl rfl rfl tt_
def QtO (c:Int)(d:Int):Option (Int×Int):=
 bif (c != 0)then
 (QdO (d != 0)).bind fun a=>
 some (a.1,a.2)
 else
 (QdO false).bind fun b=>
 some (b.1,b.2)
def Qmu (a:Int)(b:Int):Option (Int×Int):=
 some (a,b)
def QtP (c:Int)(d:Int):Option (Int×Int):=
 bif (c != 0)then
 (QdO true).bind fun a=>
 some (a.1,a.2)
 else
 (QdO (d != 0)).bind fun b=>
 some (b.1,b.2)
def Qmv (a:Int)(b:Int):Option (Int×Int):=
 some (a,b)
def Qj1 (op1:Int)(a:Int)(b:Int):Option (Int×Int):=
 bif (op1==1)then
 (QoD a b).bind fun k=>
 some (k.1,k.2)
 else
 bif (op1==2)then
 (Qho a b).bind fun c=>
 some (c.1,c.2)
 else
 bif (op1==3)then
 (Qkz a b).bind fun d=>
 some (d.1,d.2)
 else
 bif (op1==4)then
 (QgK a b).bind fun e=>
 some (e.1,e.2.2)
 else
 bif (op1==5)then
 (QgK a b).bind fun f=>
 some (f.2.1,f.2.2)
 else
 bif (op1==6)then
 (QdO (a==b)).bind fun g=>
 some (g.1,g.2)
 else
 bif (op1==7)then
 (QdO (a != b)).bind fun h=>
 some (h.1,h.2)
 else
 bif (op1==8)then
 (QdO (decide (a<b))).bind fun i=>
 some (i.1,i.2)
 else
 bif (op1==9)then
 (QdO (decide (a≤b))).bind fun j=>
 some (j.1,j.2)
 else
 bif (op1==10)then
 (QtO a b).bind (fun v=>Qmu v.1 v.2)
 else
 bif (op1==11)then
 (QtP a b).bind (fun v=>Qmv v.1 v.2)
 else
 some (0,1)
theorem Qmw (op1 a2 b3){r}(h:Qj1 op1 a2 b3=some r):Qc prog 286 [.I op1,.I a2,.I b3] [] (Gives (.tup [.I r.1,.I r.2]) []):=by
 refine Qc.walk 112 func286 rfl rfl rfl fun C hC=>?_
 refine tg_ hC [.n 19] rfl ?_
 rcases Qs h with⟨t,h⟩|⟨t,h⟩
 ·obtain⟨x9,a5,h⟩:=Qb h
  refine Qa hC [.T,.n 4,.o (.c false [.d,.d] (.tup [.I x9.1,.I x9.2])),.n 9] rfl ⟨⟨tt_,t⟩,(QxT _ _ a5)⟩ ?_
  cases h
  exact d2_ rfl rfl rfl tt_
 refine Qa hC [.F,.n 6] rfl ⟨tt_,t⟩ ?_
 rcases Qs h with⟨a,h⟩|⟨a,h⟩
 ·obtain⟨x,y,h⟩:=Qb h
  refine Qa hC [.T,.n 4,.o (.c false [.d,.d] (.tup [.I x.1,.I x.2])),.n 9] rfl ⟨⟨tt_,a⟩,(Qsx _ _ y)⟩ ?_
  cases h
  exact d2_ rfl rfl rfl tt_
 refine Qa hC [.F,.n 6] rfl ⟨tt_,a⟩ ?_
 rcases Qs h with⟨e,h⟩|⟨e,h⟩
 ·obtain⟨z,A,h⟩:=Qb h
  refine Qa hC [.T,.n 4,.o (.c false [.d,.d] (.tup [.I z.1,.I z.2])),.n 9] rfl ⟨⟨tt_,e⟩,(QuC _ _ A)⟩ ?_
  cases h
  exact d2_ rfl rfl rfl tt_
 refine Qa hC [.F,.n 6] rfl ⟨tt_,e⟩ ?_
 rcases Qs h with⟨f,h⟩|⟨f,h⟩
 ·obtain⟨u,B,h⟩:=Qb h
  refine Qa hC [.T,.n 4,.o (.c false [.d,.d] (.tup [.I u.1,.I u.2.1,.I u.2.2])),.n 20] rfl ⟨⟨tt_,f⟩,(QnG _ _ B)⟩ ?_
  cases h
  exact d2_ rfl rfl rfl tt_
 refine Qa hC [.F,.n 6] rfl ⟨tt_,f⟩ ?_
 rcases Qs h with⟨g,h⟩|⟨g,h⟩
 ·obtain⟨w,D,h⟩:=Qb h
  refine Qa hC [.T,.n 4,.o (.c false [.d,.d] (.tup [.I w.1,.I w.2.1,.I w.2.2])),.n 20] rfl ⟨⟨tt_,g⟩,(QnG _ _ D)⟩ ?_
  cases h
  exact d2_ rfl rfl rfl tt_
 refine Qa hC [.F,.n 6] rfl ⟨tt_,g⟩ ?_
 rcases Qs h with⟨i,h⟩|⟨i,h⟩
 ·obtain⟨E,G,h⟩:=Qb h
  refine Qa hC [.T,.n 5,.o (.c false [.d] (.tup [.I E.1,.I E.2])),.n 9] rfl ⟨⟨tt_,i⟩,(Qd3 _ G)⟩ ?_
  cases h
  exact d2_ rfl rfl rfl tt_
 refine Qa hC [.F,.n 6] rfl ⟨tt_,i⟩ ?_
 rcases Qs h with⟨j,h⟩|⟨j,h⟩
 ·obtain⟨H,J,h⟩:=Qb h
  refine Qa hC [.T,.n 5,.o (.c false [.d] (.tup [.I H.1,.I H.2])),.n 9] rfl ⟨⟨tt_,j⟩,(Qd3 _ J)⟩ ?_
  cases h
  exact d2_ rfl rfl rfl tt_
 refine Qa hC [.F,.n 6] rfl ⟨tt_,j⟩ ?_
 rcases Qs h with⟨k,h⟩|⟨k,h⟩
 ·obtain⟨L,M,h⟩:=Qb h
  refine Qa hC [.T,.n 5,.o (.c false [.d] (.tup [.I L.1,.I L.2])),.n 9] rfl ⟨⟨tt_,k⟩,(Qd3 _ M)⟩ ?_
  cases h
  exact d2_ rfl rfl rfl tt_
 refine Qa hC [.F,.n 6] rfl ⟨tt_,k⟩ ?_
 rcases Qs h with⟨l,h⟩|⟨l,h⟩
 ·obtain⟨N,O,h⟩:=Qb h
  refine Qa hC [.T,.n 5,.o (.c false [.d] (.tup [.I N.1,.I N.2])),.n 9] rfl ⟨⟨tt_,l⟩,(Qd3 _ O)⟩ ?_
  cases h
  exact d2_ rfl rfl rfl tt_
 refine Qa hC [.F,.n 6] rfl ⟨tt_,l⟩ ?_
 refine bg_ h (fun m h=>Qa hC [.T,.n 1] rfl ⟨tt_,m⟩ ?_) fun m h=>Qa hC [.F,.n 6] rfl ⟨tt_,m⟩ ?_
 ·obtain⟨v,P,h⟩:=Qb h
  replace h:Qmu v.1 v.2=some r:=h
  refine AK.meetX (fun σ=>σ=⟨[(6,.I v.1),(7,.I v.2)],[]⟩) ?_ ?_
  ·replace h:=P
   refine tg_ hC [.n 4] rfl ?_
   rcases Qs h with⟨p,h⟩|⟨p,h⟩
   ·obtain⟨U,W,h⟩:=Qb h
    refine Qa hC [.S 94 (.b true),.n 3,.o (.c false [.d] (.tup [.I U.1,.I U.2])),.n 5,.K [6,7] []] rfl ⟨(tc_ p),(Qd3 _ W)⟩ ?_
    cases h
    exact AK.met rfl
   obtain⟨X,Y,h⟩:=Qb h
   refine Qa hC [.S 94 (.b false),.n 3,.o (.c false [.d] (.tup [.I X.1,.I X.2])),.n 5,.K [6,7] []] rfl ⟨(tc_ p),(Qd3 _ Y)⟩ ?_
   cases h
   exact AK.met rfl
  rintro σ rfl
  obtain⟨a6,a7⟩:=v
  replace h:Qmu a6 a7=some r:=h
  refine tg_ hC [.n 4] rfl ?_
  cases h
  exact d2_ rfl rfl rfl tt_
 refine bg_ h (fun q h=>Qa hC [.T,.n 1] rfl ⟨tt_,q⟩ ?_) fun q h=>Qa hC [.F,.n 10,.K [6,7] []] rfl ⟨tt_,q⟩ ?_
 ·obtain⟨v,Z,h⟩:=Qb h
  replace h:Qmv v.1 v.2=some r:=h
  refine AK.meetX (fun σ=>σ=⟨[(6,.I v.1),(7,.I v.2)],[]⟩) ?_ ?_
  ·replace h:=Z
   refine tg_ hC [.n 4] rfl ?_
   rcases Qs h with⟨s,h⟩|⟨s,h⟩
   ·obtain⟨a0,a1,h⟩:=Qb h
    refine Qa hC [.S 105 (.b true),.n 3,.o (.c false [.d] (.tup [.I a0.1,.I a0.2])),.n 5,.K [6,7] []] rfl ⟨(tc_ s),(Qd3 _ a1)⟩ ?_
    cases h
    exact AK.met rfl
   obtain⟨a3,a4,h⟩:=Qb h
   refine Qa hC [.S 105 (.b false),.n 3,.o (.c false [.d] (.tup [.I a3.1,.I a3.2])),.n 5,.K [6,7] []] rfl ⟨(tc_ s),(Qd3 _ a4)⟩ ?_
   cases h
   exact AK.met rfl
  rintro σ rfl
  obtain⟨a8,a9⟩:=v
  replace h:Qmv a8 a9=some r:=h
  refine tg_ hC [.n 4] rfl ?_
  cases h
  exact d2_ rfl rfl rfl tt_
 cases h
 exact d2_ rfl rfl rfl tt_
def QoE (b:Int):Option (Int×Int):=
 (Qj1 2 0 b).bind fun a=>
 some (a.1,a.2)
theorem QxU (b){r}(h:QoE b=some r):Qc prog 285 [.I b] [] (Gives (.tup [.I r.1,.I r.2]) []):=by
 refine Qc.walk 8 func285 rfl rfl rfl fun C hC=>?_
 obtain⟨e,a,h⟩:=Qb h
 refine Qa hC [.n 9,.o (.c false [.d,.d,.d] (.tup [.I e.1,.I e.2])),.n 7] rfl ⟨tt_,(Qmw _ _ _ a)⟩ ?_
 cases h
 exact d2_ rfl rfl rfl tt_
def Qhq (rec_expr_env_eval:(List Int)→Qo→Option (Int×Int))(e:(List Int))(d:Qo):Option (Int×Int):=
 (idx d.Kids 0).bind fun f=>
 (rec_expr_env_eval e f).bind fun c=>
 bif (c.2 != 0)then
 some (0,c.2)
 else
 bif (d.Kind==3)then
 (QoE c.1).bind fun a=>
 some (a.1,a.2)
 else
 (Qj1 6 c.1 0).bind fun b=>
 some (b.1,b.2)
theorem Qsz (rec_expr_env_eval:(List Int)→Qo→Option (Int×Int))(hrec_expr_env_eval:∀(e:(List Int)) (f:Qo) {r:(Int×Int)},rec_expr_env_eval e f=some r→Qc prog 213 [.sl 1 (e.map Qe),.agg (Qr f)] [] (Gives (.tup [.I r.1,.I r.2]) []))(e:(List Int))(f:Qo){r:(Int×Int)}(h:Qhq rec_expr_env_eval e f=some r):Qc prog 270 [.sl 1 (e.map Qe),.agg (Qr f)] [] (Gives (.tup [.I r.1,.I r.2]) []):=by
 refine Qc.walk 33 func270 rfl rfl rfl fun C hC=>?_
 obtain⟨p,l,h⟩:=Qb h
 obtain⟨q,m,h⟩:=Qb h
 refine Qa hC [.n 12,.o (.row (Qr p)),.v .no [] (.agg (Qr p)),.o (.c false [.d,.d] (.tup [.I q.1,.I q.2])),.n 16] rfl ⟨⟨⟨tt_,(QeG l)⟩,rfl⟩,(hrec_expr_env_eval _ _ m)⟩ ?_
 refine bg_ h (fun b h=>Qa hC [.T,.n 10,.K [4,5] []] rfl ⟨tt_,b⟩ ?_) fun b h=>Qa hC [.F,.n 8] rfl ⟨tt_,b⟩ ?_
 ·cases h
  exact d2_ rfl rfl rfl tt_
 rcases Qs h with⟨a,h⟩|⟨a,h⟩
 ·obtain⟨g,i,h⟩:=Qb h
  refine Qa hC [.T,.n 3,.o (.c false [.d] (.tup [.I g.1,.I g.2])),.n 9] rfl ⟨⟨tt_,a⟩,(QxU _ i)⟩ ?_
  cases h
  exact d2_ rfl rfl rfl tt_
 obtain⟨j,k,h⟩:=Qb h
 refine Qa hC [.F,.n 6,.o (.c false [.d,.d,.d] (.tup [.I j.1,.I j.2])),.n 7] rfl ⟨⟨tt_,a⟩,(Qmw _ _ _ k)⟩ ?_
 cases h
 exact d2_ rfl rfl rfl tt_
def QdZ (f:(Int×Int))(g:Qo)(rec_expr_env_eval:(List Int)→Qo→Option (Int×Int))(h:(List Int))(d:Bool):Option (Int×Int):=
 bif d then
 (Qj1 7 f.1 0).bind fun b=>
 some (b.1,b.2)
 else
 (idx g.Kids 1).bind fun e=>
 (rec_expr_env_eval h e).bind fun a=>
 bif (a.2 != 0)then
 some (0,a.2)
 else
 (Qj1 g.Num f.1 a.1).bind fun c=>
 some (c.1,c.2)
def Qm9 (rec_expr_env_eval:(List Int)→Qo→Option (Int×Int))(c:(List Int))(b:Qo):Option (Int×Int):=
 (idx b.Kids 0).bind fun d=>
 (rec_expr_env_eval c d).bind fun a=>
 bif (a.2 != 0)then
 some (0,a.2)
 else
 bif ((b.Num==10)&&(a.1==0))then
 QdZ a b rec_expr_env_eval c ((b.Num==10)&&(a.1==0))
 else
 bif (b.Num==11)then
 QdZ a b rec_expr_env_eval c (a.1 != 0)
 else
 QdZ a b rec_expr_env_eval c false
theorem QuD (rec_expr_env_eval:(List Int)→Qo→Option (Int×Int))(hrec_expr_env_eval:∀(k:(List Int)) (e:Qo) {r:(Int×Int)},rec_expr_env_eval k e=some r→Qc prog 213 [.sl 1 (k.map Qe),.agg (Qr e)] [] (Gives (.tup [.I r.1,.I r.2]) []))(k:(List Int))(e:Qo){r:(Int×Int)}(h:Qm9 rec_expr_env_eval k e=some r):Qc prog 271 [.sl 1 (k.map Qe),.agg (Qr e)] [] (Gives (.tup [.I r.1,.I r.2]) []):=by
 refine Qc.walk 60 func271 rfl rfl rfl fun C hC=>?_
 obtain⟨D,A,h⟩:=Qb h
 obtain⟨l,B,h⟩:=Qb h
 refine Qa hC [.n 12,.o (.row (Qr D)),.v .no [] (.agg (Qr D)),.o (.c false [.d,.d] (.tup [.I l.1,.I l.2])),.n 16] rfl ⟨⟨⟨tt_,(QeG A)⟩,rfl⟩,(hrec_expr_env_eval _ _ B)⟩ ?_
 refine bg_ h (fun m h=>Qa hC [.T,.n 10,.K [4,5] []] rfl ⟨tt_,m⟩ ?_) fun m h=>Qa hC [.F] rfl ⟨tt_,m⟩ ?_
 ·cases h
  exact d2_ rfl rfl rfl tt_
 refine AK.meet (fun σ=>∃p:Bool,σ=⟨[(0,.sl 1 (k.map Qe)),(3,.loc 3 0 0),(6,.I l.1),(22,.b p)],[(3,.var (Qr e))]⟩∧QdZ l e rec_expr_env_eval k p=some r) ?_ ?_
 ·refine tg_ hC [.n 1] rfl ?_
  refine AK.meetX (fun σ=>σ=⟨[(0,.sl 1 (k.map Qe)),(3,.loc 3 0 0),(6,.I l.1),(22,.b ((e.Num==10)&&(l.1==0)))],[(3,.var (Qr e))]⟩) ?_ ?_
  ·refine tg_ hC [.n 5] rfl ?_
   rcases Q3 (e.Num==10)with a | a
   ·refine Qa hC [.S 26 (.b true),.n 5,.S 22 (.b ((e.Num==10)&&(l.1==0))),.K [0,3,6,22] [3]] rfl ⟨(tc_ a),(congrArg V.b (QbV a rfl))⟩ ?_
    exact AK.met rfl
   refine Qa hC [.S 26 (.b false),.n 5,.S 22 (.b ((e.Num==10)&&(l.1==0))),.K [0,3,6,22] [3]] rfl ⟨(tc_ a),(congrArg V.b (QdF a rfl))⟩ ?_
   exact AK.met rfl
  rintro σ rfl
  refine tg_ hC [.n 1] rfl ?_
  refine bg_ h (fun f h=>Qa hC [.T,.n 1,.K [0,3,6,22] [3]] rfl ⟨tt_,f⟩ ?_) fun f h=>Qa hC [.F,.n 5] rfl ⟨tt_,f⟩ ?_
  ·exact AK.met (ex_ _ (an_ rfl h))
  refine bg_ h (fun g h=>Qa hC [.S 33 (.b true),.n 5,.K [0,3,6,22] [3]] rfl (tc_ g) ?_) fun g h=>Qa hC [.S 33 (.b false),.n 5,.K [0,3,6,22] [3]] rfl (tc_ g) ?_
  ·exact AK.met (ex_ _ (an_ rfl h))
  exact AK.met (ex_ _ (an_ rfl h))
 rintro σ ⟨p,rfl,h⟩
 rcases Qs h with⟨i,h⟩|⟨i,h⟩
 ·obtain⟨q,s,h⟩:=Qb h
  refine Qa hC [.T,.n 3,.o (.c false [.d,.d,.d] (.tup [.I q.1,.I q.2])),.n 9] rfl ⟨⟨tt_,i⟩,(Qmw _ _ _ s)⟩ ?_
  cases h
  exact d2_ rfl rfl rfl tt_
 obtain⟨t,u,h⟩:=Qb h
 obtain⟨w,x,h⟩:=Qb h
 refine Qa hC [.F,.n 8,.o (.row (Qr t)),.v .no [] (.agg (Qr t)),.o (.c false [.d,.d] (.tup [.I w.1,.I w.2])),.n 14] rfl ⟨⟨⟨⟨tt_,i⟩,(QeG u)⟩,rfl⟩,(hrec_expr_env_eval _ _ x)⟩ ?_
 rcases Qs h with⟨j,h⟩|⟨j,h⟩
 ·refine Qa hC [.T,.n 9] rfl ⟨tt_,j⟩ ?_
  cases h
  exact d2_ rfl rfl rfl tt_
 obtain⟨y,z,h⟩:=Qb h
 refine Qa hC [.F,.n 8,.o (.c false [.d,.d,.d] (.tup [.I y.1,.I y.2])),.n 7] rfl ⟨⟨tt_,j⟩,(Qmw _ _ _ z)⟩ ?_
 cases h
 exact d2_ rfl rfl rfl tt_
def Qk4 (rec_expr_env_eval:(List Int)→Qo→Option (Int×Int))(c:(List Int))(d:Qo):Option (Int×Int):=
 (idx d.Kids 0).bind fun h=>
 (rec_expr_env_eval c h).bind fun e=>
 bif (e.2 != 0)then
 some (0,e.2)
 else
 bif (e.1 != 0)then
 (idx d.Kids 1).bind fun f=>
 (rec_expr_env_eval c f).bind fun a=>
 some (a.1,a.2)
 else
 (idx d.Kids 2).bind fun g=>
 (rec_expr_env_eval c g).bind fun b=>
 some (b.1,b.2)
theorem QsA (rec_expr_env_eval:(List Int)→Qo→Option (Int×Int))(hrec_expr_env_eval:∀(e:(List Int)) (f:Qo) {r:(Int×Int)},rec_expr_env_eval e f=some r→Qc prog 213 [.sl 1 (e.map Qe),.agg (Qr f)] [] (Gives (.tup [.I r.1,.I r.2]) []))(e:(List Int))(f:Qo){r:(Int×Int)}(h:Qk4 rec_expr_env_eval e f=some r):Qc prog 272 [.sl 1 (e.map Qe),.agg (Qr f)] [] (Gives (.tup [.I r.1,.I r.2]) []):=by
 refine Qc.walk 40 func272 rfl rfl rfl fun C hC=>?_
 obtain⟨u,s,h⟩:=Qb h
 obtain⟨w,t,h⟩:=Qb h
 refine Qa hC [.n 12,.o (.row (Qr u)),.v .no [] (.agg (Qr u)),.o (.c false [.d,.d] (.tup [.I w.1,.I w.2])),.n 16] rfl ⟨⟨⟨tt_,(QeG s)⟩,rfl⟩,(hrec_expr_env_eval _ _ t)⟩ ?_
 refine bg_ h (fun b h=>Qa hC [.T,.n 10,.K [4,5] []] rfl ⟨tt_,b⟩ ?_) fun b h=>Qa hC [.F,.n 7] rfl ⟨tt_,b⟩ ?_
 ·cases h
  exact d2_ rfl rfl rfl tt_
 rcases Qs h with⟨a,h⟩|⟨a,h⟩
 ·obtain⟨g,i,h⟩:=Qb h
  obtain⟨j,k,h⟩:=Qb h
  refine Qa hC [.T,.n 5,.o (.row (Qr g)),.v .no [] (.agg (Qr g)),.o (.c false [.d,.d] (.tup [.I j.1,.I j.2])),.n 9] rfl ⟨⟨⟨⟨tt_,a⟩,(QeG i)⟩,rfl⟩,(hrec_expr_env_eval _ _ k)⟩ ?_
  cases h
  exact d2_ rfl rfl rfl tt_
 obtain⟨l,m,h⟩:=Qb h
 obtain⟨p,q,h⟩:=Qb h
 refine Qa hC [.F,.n 8,.o (.row (Qr l)),.v .no [] (.agg (Qr l)),.o (.c false [.d,.d] (.tup [.I p.1,.I p.2])),.n 7] rfl ⟨⟨⟨⟨tt_,a⟩,(QeG m)⟩,rfl⟩,(hrec_expr_env_eval _ _ q)⟩ ?_
 cases h
 exact d2_ rfl rfl rfl tt_
def QnH (b:Qo)(c:(List Int)):Option (Int×Int):=
 (Qof c b).bind fun a=>
 some (a.1,a.2)
def QgL (b:Qo)(c:(List Int)):Option (Int×Int):=
 (Qjb c b).bind fun a=>
 some (a.1,a.2)
def Qdr (rec_expr_env_eval:(List Int)→Qo→Option (Int×Int))(c:Qo)(b:(List Int)):Option (Int×Int):=
 (Qhq rec_expr_env_eval b c).bind fun a=>
 some (a.1,a.2)
def QgM (rec_expr_env_eval:(List Int)→Qo→Option (Int×Int))(c:Qo)(b:(List Int)):Option (Int×Int):=
 (Qm9 rec_expr_env_eval b c).bind fun a=>
 some (a.1,a.2)
def QgN (rec_expr_env_eval:(List Int)→Qo→Option (Int×Int))(c:Qo)(b:(List Int)):Option (Int×Int):=
 (Qk4 rec_expr_env_eval b c).bind fun a=>
 some (a.1,a.2)
def Qk5 (rec_expr_env_eval:(List Int)→Qo→Option (Int×Int))(b:(List Int))(a:Qo):Option (Int×Int):=
 (QcY b a.Kind).bind fun c=>
 (Sum.elim (fun q=>QnH a q) (Sum.elim (fun q=>QgL a q) (Sum.elim (fun q=>Qdr rec_expr_env_eval a q) (Sum.elim (fun q=>QgM rec_expr_env_eval a q) (fun q=>QgN rec_expr_env_eval a q))))) c
def QaG : Nat→(List Int)→Qo→Option (Int×Int)
 | 0,_,_=>none
 | n+1,a,b=>Qk5 (QaG n) a b
def Qmx (b:(List Int))(a:Qo):Option (Int×Int):=QaG (SizeOf.sizeOf a) b a
theorem QsB (rec_expr_env_eval:(List Int)→Qo→Option (Int×Int))(hrec_expr_env_eval:∀(l:(List Int)) (b:Qo) {r:(Int×Int)},rec_expr_env_eval l b=some r→Qc prog 213 [.sl 1 (l.map Qe),.agg (Qr b)] [] (Gives (.tup [.I r.1,.I r.2]) []))(l:(List Int))(b:Qo){r:(Int×Int)}(h:Qk5 rec_expr_env_eval l b=some r):Qc prog 213 [.sl 1 (l.map Qe),.agg (Qr b)] [] (Gives (.tup [.I r.1,.I r.2]) []):=by
 refine Qc.walk 14 func213 rfl rfl rfl fun C hC=>?_
 refine tg_ hC [.n 8] rfl ?_
 obtain⟨D,e,h⟩:=Qb h
 rcases D with(A | (B | (i | (j | k))))
 ·replace h:QnH b A=some r:=h
  obtain⟨o,p,h⟩:=Qb h
  refine tg_ hC [.K [0,3,4,5] [3]] rfl ?_
  refine AK.draw2 Qq hC mixed [.N,.N,.N,.a (.any (.clo (.func 268) [.sl 1 (A.map Qe)] []) none) none false,.a .no (some ([],.agg (Qr b))) false,.a (.c false [.d,.d] (.tup [.I o.1,.I o.2])) none false,.N,.N,.m .s,.m .s] [] [] [4,5] [] rfl rfl rfl ⟨⟨⟨tt_,(fun σ f g _=>Stp.callSame (md:=.cm (.fn) [] [] [] [.d,.d] [] (.clo (.func 268) [.sl 1 (A.map Qe)] []) []) Qq hC f g rfl ⟨tt_,(QeU _ _ e)⟩)⟩,rfl⟩,(Qsw _ _ p)⟩ rfl (by kernel_rfl) rfl rfl rfl ?_
  refine tg_ hC [.n 2] rfl ?_
  cases h
  exact d2_ rfl rfl rfl tt_
 ·replace h:QgL b B=some r:=h
  obtain⟨q,t,h⟩:=Qb h
  refine tg_ hC [.K [0,3,4,5] [3]] rfl ?_
  refine AK.draw2 Qq hC mixed [.N,.N,.N,.a (.any (.clo (.func 269) [.sl 1 (B.map Qe)] []) none) none false,.a .no (some ([],.agg (Qr b))) false,.a (.c false [.d,.d] (.tup [.I q.1,.I q.2])) none false,.N,.N,.m .s,.m .s] [] [] [4,5] [] rfl rfl rfl ⟨⟨⟨tt_,(fun σ f g _=>Stp.callSame (md:=.cm (.fn) [] [] [] [.d,.d] [] (.clo (.func 269) [.sl 1 (B.map Qe)] []) []) Qq hC f g rfl ⟨tt_,(QeU _ _ e)⟩)⟩,rfl⟩,(Qq2 _ _ t)⟩ rfl (by kernel_rfl) rfl rfl rfl ?_
  refine tg_ hC [.n 2] rfl ?_
  cases h
  exact d2_ rfl rfl rfl tt_
 ·replace h:Qdr rec_expr_env_eval b i=some r:=h
  obtain⟨u,v,h⟩:=Qb h
  refine tg_ hC [.K [0,3,4,5] [3]] rfl ?_
  refine AK.draw2 Qq hC mixed [.N,.N,.N,.a (.any (.clo (.func 270) [.sl 1 (i.map Qe)] []) none) none false,.a .no (some ([],.agg (Qr b))) false,.a (.c false [.d,.d] (.tup [.I u.1,.I u.2])) none false,.N,.N,.m .s,.m .s] [] [] [4,5] [] rfl rfl rfl ⟨⟨⟨tt_,(fun σ f g _=>Stp.callSame (md:=.cm (.fn) [] [] [] [.d,.d] [] (.clo (.func 270) [.sl 1 (i.map Qe)] []) []) Qq hC f g rfl ⟨tt_,(QeU _ _ e)⟩)⟩,rfl⟩,(Qsz rec_expr_env_eval hrec_expr_env_eval _ _ v)⟩ rfl (by kernel_rfl) rfl rfl rfl ?_
  refine tg_ hC [.n 2] rfl ?_
  cases h
  exact d2_ rfl rfl rfl tt_
 ·replace h:QgM rec_expr_env_eval b j=some r:=h
  obtain⟨w,x,h⟩:=Qb h
  refine tg_ hC [.K [0,3,4,5] [3]] rfl ?_
  refine AK.draw2 Qq hC mixed [.N,.N,.N,.a (.any (.clo (.func 271) [.sl 1 (j.map Qe)] []) none) none false,.a .no (some ([],.agg (Qr b))) false,.a (.c false [.d,.d] (.tup [.I w.1,.I w.2])) none false,.N,.N,.m .s,.m .s] [] [] [4,5] [] rfl rfl rfl ⟨⟨⟨tt_,(fun σ f g _=>Stp.callSame (md:=.cm (.fn) [] [] [] [.d,.d] [] (.clo (.func 271) [.sl 1 (j.map Qe)] []) []) Qq hC f g rfl ⟨tt_,(QeU _ _ e)⟩)⟩,rfl⟩,(QuD rec_expr_env_eval hrec_expr_env_eval _ _ x)⟩ rfl (by kernel_rfl) rfl rfl rfl ?_
  refine tg_ hC [.n 2] rfl ?_
  cases h
  exact d2_ rfl rfl rfl tt_
 replace h:QgN rec_expr_env_eval b k=some r:=h
 obtain⟨y,z,h⟩:=Qb h
 refine tg_ hC [.K [0,3,4,5] [3]] rfl ?_
 refine AK.draw2 Qq hC mixed [.N,.N,.N,.a (.any (.clo (.func 272) [.sl 1 (k.map Qe)] []) none) none false,.a .no (some ([],.agg (Qr b))) false,.a (.c false [.d,.d] (.tup [.I y.1,.I y.2])) none false,.N,.N,.m .s,.m .s] [] [] [4,5] [] rfl rfl rfl ⟨⟨⟨tt_,(fun σ f g _=>Stp.callSame (md:=.cm (.fn) [] [] [] [.d,.d] [] (.clo (.func 272) [.sl 1 (k.map Qe)] []) []) Qq hC f g rfl ⟨tt_,(QeU _ _ e)⟩)⟩,rfl⟩,(QsA rec_expr_env_eval hrec_expr_env_eval _ _ z)⟩ rfl (by kernel_rfl) rfl rfl rfl ?_
 refine tg_ hC [.n 2] rfl ?_
 cases h
 exact d2_ rfl rfl rfl tt_
theorem Qmy : ∀(fuel:Nat) (a:(List Int)) (b:Qo) {r:(Int×Int)},QaG fuel a b=some r→Qc prog 213 [.sl 1 (a.map Qe),.agg (Qr b)] [] (Gives (.tup [.I r.1,.I r.2]) [])
 | 0,_,_,_,h=>by cases h
 | n+1,a,b,_,h=>QsB (QaG n) (fun _ _ _ h=>Qmy n _ _ h) a b h
theorem QtQ (a b){r}(h:Qmx a b=some r):Qc prog 213 [.sl 1 (a.map Qe),.agg (Qr b)] [] (Gives (.tup [.I r.1,.I r.2]) []):=Qmy _ a b h
def Qlh (b:Qo)(a:(List Int)):Option (Int×Int):=
 (QhR b (a.length:Int)).bind fun d=>
 bif (!d)then
 some (0,1)
 else
 (Qmx a b).bind fun c=>
 some (c.1,c.2)
theorem Qrp (f a){r}(h:Qlh f a=some r):Qc prog 144 [.agg (Qr f),.sl 1 (a.map Qe)] [] (Gives (.tup [.I r.1,.I r.2]) []):=by
 refine Qc.walk 16 func144 rfl rfl rfl fun C hC=>?_
 obtain⟨k,g,h⟩:=Qb h
 refine Qa hC [.n 10,.v .no [] (.agg (Qr f)),.n 1,.o (.ln a.length),.o (.c false [.d,.d] (.b k)),.n 3] rfl ⟨⟨⟨tt_,rfl⟩,Qg⟩,(Qmt _ _ g)⟩ ?_
 rcases Qs h with⟨e,h⟩|⟨e,h⟩
 ·refine Qa hC [.T,.n 8] rfl ⟨tt_,e⟩ ?_
  cases h
  exact d2_ rfl rfl rfl tt_
 obtain⟨j,i,h⟩:=Qb h
 refine Qa hC [.F,.n 5,.v .no [] (.agg (Qr f)),.o (.c false [.d,.d] (.tup [.I j.1,.I j.2])),.n 7] rfl ⟨⟨⟨tt_,e⟩,rfl⟩,(QtQ _ _ i)⟩ ?_
 cases h
 exact d2_ rfl rfl rfl tt_
def Qal (b:QX):Option Int:=
 (Qlh b.task.Guard b.env).bind fun a=>
 bif (a.2 != 0)then
 some a.2
 else
 bif (a.1==0)then
 some 9
 else
 some 0
theorem Qj2 (e){r}(h:Qal e=some r):Qc prog 90 [.agg (Qz e)] [] (Gives (.I r) []):=by
 refine Qc.walk 21 func90 rfl rfl rfl fun C hC=>?_
 obtain⟨g,f,h⟩:=Qb h
 refine Qa hC [.n 10,.v .no [] (.agg (Qr e.task.Guard)),.n 2,.o (.c false [.d,.d] (.tup [.I g.1,.I g.2])),.n 16] rfl ⟨⟨tt_,rfl⟩,(Qrp _ _ f)⟩ ?_
 refine bg_ h (fun a h=>Qa hC [.T,.n 9,.K [2] []] rfl ⟨tt_,a⟩ ?_) fun a h=>Qa hC [.F,.n 7] rfl ⟨tt_,a⟩ ?_
 ·cases h
  exact d1_ rfl rfl tt_
 refine bg_ h (fun b h=>Qa hC [.T,.n 8,.K [2] []] rfl ⟨tt_,b⟩ ?_) fun b h=>Qa hC [.F,.n 9,.K [2] []] rfl ⟨tt_,b⟩ ?_
 ·cases h
  exact d1_ rfl rfl tt_
 cases h
 exact d1_ rfl rfl tt_
def Qdx (a:QLL):Option QLL:=
 (chk (decide (([]:List (List Int)).length+a.length≤4294967296))).bind fun _=>
 some (([]:List (List Int))++a)
theorem Qna (a){r}(h:Qdx a=some r):Qc prog 100 [.sl 1 (a.map QL)] [] (Gives (.own 600 r.length) [(600,.arr 1 (r.map QL))]):=by
 refine Qc.walk 8 func100 rfl rfl rfl fun C hC=>?_
 unfold Qdx at h
 refine tg_ hC [.n 9] rfl ?_
 refine AK.eqNil rfl rfl rfl (QO hC.n rfl) rfl rfl QDC ?_ ?_
 ·intro b
  replace h:some ([]:List (List Int))=some r:=by simpa [chk,List.map_eq_nil_iff.1 b] using h
  refine Qa hC [.n 10,.adopt 2 600 1,.O 600 (.arr 1 (([]:List (List Int)).map QL)),.S 2 (.own 600 ([]:List (List Int)).length)] rfl ⟨⟨tt_,rfl⟩,rfl⟩ ?_
  cases h
  exact d1_ rfl rfl ⟨rfl,tt_⟩
 obtain⟨c,h⟩:=QaX h
 refine Qa hC [.n 8,.O 5 (.arr 1 (([]:List (List Int)).map QL)),.S 5 (.own 5 ([]:List (List Int)).length),.n 1,.app ((([]:List (List Int))++a).map QL) (([]:List (List Int))++a).length,.n 4,.K [2] [5],.ren 5 600] rfl ⟨⟨⟨tt_,rfl⟩,rfl⟩,⟨Qg,QbP c Qg,QaZ,QcM Qg⟩⟩ ?_
 cases h
 exact d1_ rfl rfl ⟨rfl,tt_⟩
def QcD (c:(Bool×QaY))(a:Int):Option (Int×Bool):=
 (Qdl c.2 a).bind fun b=>
 bif (!b)then
 some (0,false)
 else
 some (a,true)
def Qe4 (d:(List QI))(e:Int)(b:Int):Option (Int×Bool):=
 (QfO d e).bind fun c=>
 bif (!c.1)then
 some (0,false)
 else
 (Qc3 c.2).bind fun a=>
 bif (a.Kind==1)then
 bif ((decide (b<a.Lo))||(decide (a.Hi<b)))then
 some (0,false)
 else
 QcD c (w64 (b-a.Lo))
 else
 QcD c b
theorem QtR (u w j){r}(h:Qe4 u w j=some r):Qc prog 151 [.sl 7 (u.map Qu),.I w,.I j] [] (Gives (.tup [.I r.1,.b r.2]) []):=by
 refine Qc.walk 43 func151 rfl rfl rfl fun C hC=>?_
 obtain⟨k,s,h⟩:=Qb h
 refine Qa hC [.n 10,.o (.c false [.d,.d] (.tup [.agg (Q8 k.2),.b k.1])),.n 5,.O 8 (.var (Q8 k.2)),.n 10] rfl ⟨⟨tt_,(Qm4 _ _ s)⟩,rfl⟩ ?_
 refine bg_ h (fun l h=>Qa hC [.T,.n 8,.K [6,7] []] rfl ⟨tt_,l⟩ ?_) fun l h=>Qa hC [.F,.n 2] rfl ⟨tt_,l⟩ ?_
 ·cases h
  exact d2_ rfl rfl rfl tt_
 refine AK.meet (fun σ=>∃m:Int,σ=⟨[(2,.I m),(8,.loc 8 0 0)],[(8,.var (Q8 k.2))]⟩∧QcD k m=some r) ?_ ?_
 ·obtain⟨a,p,h⟩:=Qb h
  refine Qa hC [.n 2,.v .no [] (.agg (Q8 k.2)),.o (.c false [.d] (.agg (Qu a))),.n 2,.O 10 (.var (Qu a)),.n 9] rfl ⟨⟨⟨tt_,rfl⟩,(Qg4 _ p)⟩,rfl⟩ ?_
  refine bg_ h (fun f h=>Qa hC [.T,.n 2] rfl ⟨tt_,f⟩ ?_) fun f h=>Qa hC [.F,.n 1,.K [2,8] [8]] rfl ⟨tt_,f⟩ ?_
  ·refine AK.meetX (fun σ=>σ=⟨[(2,.I j),(8,.loc 8 0 0),(10,.loc 10 0 0),(33,.b ((decide (j<a.Lo))||(decide (a.Hi<j))))],[(8,.var (Q8 k.2)),(10,.var (Qu a))]⟩) ?_ ?_
   ·refine tg_ hC [.n 6] rfl ?_
    rcases Q3 (decide (j<a.Lo))with e | e
    ·refine Qa hC [.S 28 (.b true),.n 6,.S 33 (.b ((decide (j<a.Lo))||(decide (a.Hi<j)))),.K [2,8,10,33] [8,10]] rfl ⟨(tc_ e),(congrArg V.b (orT e rfl))⟩ ?_
     exact AK.met rfl
    refine Qa hC [.S 28 (.b false),.n 6,.S 33 (.b ((decide (j<a.Lo))||(decide (a.Hi<j)))),.K [2,8,10,33] [8,10]] rfl ⟨(tc_ e),(congrArg V.b (orF e rfl))⟩ ?_
    exact AK.met rfl
   rintro σ rfl
   refine tg_ hC [.n 1] rfl ?_
   refine bg_ h (fun g h=>Qa hC [.T,.n 9,.K [6,7] []] rfl ⟨tt_,g⟩ ?_) fun g h=>Qa hC [.F,.n 9,.K [2,8] [8]] rfl ⟨tt_,g⟩ ?_
   ·cases h
    exact d2_ rfl rfl rfl tt_
   exact AK.met (ex_ _ (an_ rfl h))
  exact AK.met (ex_ _ (an_ rfl h))
 rintro σ ⟨m,rfl,h⟩
 obtain⟨t,q,h⟩:=Qb h
 refine Qa hC [.n 3,.v .no [] (.agg (Q8 k.2)),.n 1,.o (.c false [.d,.d] (.b t)),.n 3] rfl ⟨⟨tt_,rfl⟩,(QmW _ _ q)⟩ ?_
 refine bg_ h (fun i h=>Qa hC [.T,.n 8,.K [6,7] []] rfl ⟨tt_,i⟩ ?_) fun i h=>Qa hC [.F,.n 10,.K [6,7] []] rfl ⟨tt_,i⟩ ?_
 ·cases h
  exact d2_ rfl rfl rfl tt_
 cases h
 exact d2_ rfl rfl rfl tt_
def Qiq (a:(List Int))(j:(List Qax))(h:(List Int))(k:Qj)(e:Int)(c:QMk):Option ((Int×QMk)⊕(Int⊕QMk)):=
 bif (decide (e<(a.length:Int)))then
 (idx a e).bind fun d=>
 bif ((decide (d<0))||(decide ((j.length:Int)≤d)))then
 some (.inr (.inl 11))
 else
 (idx j d).bind fun l=>
 (Qlh l.Expr h).bind fun f=>
 bif (f.2 != 0)then
 some (.inr (.inl f.2))
 else
 (idx j d).bind fun b=>
 bif ((decide (b.Place<0))||(decide ((k.Places.length:Int)≤b.Place)))then
 some (.inr (.inl 3))
 else
 (idx k.Places b.Place).bind fun m=>
 (Qe4 k.Colours m.Colour f.1).bind fun i=>
 bif (!i.2)then
 some (.inr (.inl 8))
 else
 (idx c b.Place).bind fun n=>
 (Qm2 ([i.1]:List Int)).bind fun o=>
 (QbH n o).bind fun g=>
 (idx c b.Place).bind fun p=>
 bif (g.2 != 0)then
 some (.inr (.inl g.2))
 else
 some (.inl ((w64 (e+1)),(c.set b.Place.toNat g.1)))
 else
 some (.inr (.inr c))
def Qpl (a:Int):Option (QMk×Int):=
 some (([]:List QBg),a)
def Qpm (a:QMk):Option (QMk×Int):=
 some (a,0)
def Qd4 (b:Qj)(d:(List Qax))(a:(List Int))(c:(List Int)):Option (QMk×Int):=
 (chk (decide (0≤(b.Places.length:Int))&&decide ((b.Places.length:Int)≤(b.Places.length:Int))&&decide ((b.Places.length:Int)≤4294967296))).bind fun _=>
 (QK (fun st=>Qiq a d c b st.1 st.2) (0,(List.replicate (b.Places.length:Int).toNat (([]:QBg):QBg)))).bind (Sum.elim (fun q=>Qpl q) (fun q=>Qpm q))
theorem Qf6 (s D g j){r}(h:Qd4 s D g j=some r):Qc prog 95 [.agg (Qd s),.sl 4 (D.map Q4),.sl 1 (g.map Qe),.sl 1 (j.map Qe)] [] (Gives (.tup [.sl 1 (r.1.map Qi),.I r.2]) []):=by
 refine Qc.walk 97 func95 rfl rfl rfl fun C hC=>?_
 obtain⟨a5,h⟩:=QaX h
 refine Qa hC [.n 11,.o (.ln s.Places.length),.o (.rows (List.replicate (s.Places.length:Int).toNat [.lit (.slice none 0 0)]))] rfl ⟨⟨tt_,Qg⟩,⟨a5,rfl⟩⟩ ?_
 refine AK.denilA (b:=21) [some 2] rfl (QyE (f:=Qi) (x:=([]:QBg)) rfl) ?_
 refine Qa hC [.S 21 (.own 21 (List.replicate (s.Places.length:Int).toNat (([]:QBg):QBg)).length),.n 7,.o (.ln g.length),.n 4,.K [1,3,4,10,22,23,24] [4,21]] rfl ⟨⟨tt_,(by simp)⟩,Qg⟩ ?_
 obtain⟨a6,M,h⟩:=Qb h
 refine AK.loop (body:=(fun st=>Qiq g D j s st.1 st.2)) (fun st σ=>σ=⟨[(1,.sl 4 (D.map Q4)),(3,.sl 1 (j.map Qe)),(4,.loc 4 0 0),(10,.own 21 st.2.length),(22,.sl 1 (g.map Qe)),(23,.I (g.length:Int)),(24,.I st.1)],[(4,.var (Qd s)),(21,.arr 1 (st.2.map Qi))]⟩) (Sum.elim (fun q e σ=>e=.ret∧σ=⟨[(8,.lit (.slice none 0 0)),(9,.I q)],[]⟩) (fun q e σ=>e=.exit 0∧σ=⟨[(10,.own 21 q.length)],[(21,.arr 1 (q.map Qi))]⟩)) M rfl ?_ ?_
 ·rintro ⟨O,t⟩ o σ rfl h
  refine tg_ hC [.n 6] rfl ?_
  rcases Qs h with⟨u,h⟩|⟨u,h⟩
  ·obtain⟨k,P,h⟩:=Qb h
   refine Qa hC [.T,.n 6,.o (.row (Qe k)),.n 6] rfl ⟨⟨tt_,u⟩,(QT P)⟩ ?_
   refine AK.meetX (fun σ=>σ=⟨[(1,.sl 4 (D.map Q4)),(3,.sl 1 (j.map Qe)),(4,.loc 4 0 0),(10,.own 21 t.length),(12,.I k),(22,.sl 1 (g.map Qe)),(23,.I (g.length:Int)),(24,.I O),(35,.b ((decide (k<0))||(decide ((D.length:Int)≤k))))],[(4,.var (Qd s)),(21,.arr 1 (t.map Qi))]⟩) ?_ ?_
   ·refine tg_ hC [.n 4] rfl ?_
    rcases Q3 (decide (k<0))with l | l
    ·refine Qa hC [.S 30 (.b true),.n 6,.S 35 (.b ((decide (k<0))||(decide ((D.length:Int)≤k)))),.K [1,3,4,10,12,22,23,24,35] [4,21]] rfl ⟨(tc_ l),(congrArg V.b (orT l rfl))⟩ ?_
     exact AK.met rfl
    refine Qa hC [.S 30 (.b false),.n 2,.o (.ln D.length),.n 3,.S 35 (.b ((decide (k<0))||(decide ((D.length:Int)≤k)))),.K [1,3,4,10,12,22,23,24,35] [4,21]] rfl ⟨⟨(tc_ l),Qg⟩,(congrArg V.b (orF l rfl))⟩ ?_
    exact AK.met rfl
   rintro σ rfl
   refine tg_ hC [.n 1] rfl ?_
   rcases Qs h with⟨w,h⟩|⟨w,h⟩
   ·refine Qa hC [.T,.n 10,.K [8,9] []] rfl ⟨tt_,w⟩ ?_
    cases h
    exact Qar rfl (an_ rfl rfl)
   obtain⟨U,W,h⟩:=Qb h
   obtain⟨J,X,h⟩:=Qb h
   refine Qa hC [.F,.n 6,.o (.row (Q4 U)),.n 1,.v .no [] (.agg (Qr U.Expr)),.n 1,.o (.c false [.d,.d] (.tup [.I J.1,.I J.2])),.n 14] rfl ⟨⟨⟨⟨tt_,w⟩,(QT W)⟩,rfl⟩,(Qrp _ _ X)⟩ ?_
   rcases Qs h with⟨y,h⟩|⟨y,h⟩
   ·refine Qa hC [.T,.n 11,.K [8,9] []] rfl ⟨tt_,y⟩ ?_
    cases h
    exact Qar rfl (an_ rfl rfl)
   obtain⟨i,Y,h⟩:=Qb h
   refine Qa hC [.F,.n 6,.o (.row (Q4 i)),.n 7] rfl ⟨⟨tt_,y⟩,(QT Y)⟩ ?_
   refine AK.meetX (fun σ=>σ=⟨[(1,.sl 4 (D.map Q4)),(3,.sl 1 (j.map Qe)),(4,.loc 4 0 0),(10,.own 21 t.length),(13,.I J.1),(15,.I i.Place),(22,.sl 1 (g.map Qe)),(23,.I (g.length:Int)),(24,.I O),(62,.b ((decide (i.Place<0))||(decide ((s.Places.length:Int)≤i.Place))))],[(4,.var (Qd s)),(21,.arr 1 (t.map Qi))]⟩) ?_ ?_
   ·refine tg_ hC [.n 4] rfl ?_
    rcases Q3 (decide (i.Place<0))with p | p
    ·refine Qa hC [.S 56 (.b true),.n 7,.S 62 (.b ((decide (i.Place<0))||(decide ((s.Places.length:Int)≤i.Place)))),.K [1,3,4,10,13,15,22,23,24,62] [4,21]] rfl ⟨(tc_ p),(congrArg V.b (orT p rfl))⟩ ?_
     exact AK.met rfl
    refine Qa hC [.S 56 (.b false),.n 3,.o (.ln s.Places.length),.n 3,.S 62 (.b ((decide (i.Place<0))||(decide ((s.Places.length:Int)≤i.Place)))),.K [1,3,4,10,13,15,22,23,24,62] [4,21]] rfl ⟨⟨(tc_ p),Qg⟩,(congrArg V.b (orF p rfl))⟩ ?_
    exact AK.met rfl
   rintro σ rfl
   refine tg_ hC [.n 1] rfl ?_
   rcases Qs h with⟨z,h⟩|⟨z,h⟩
   ·refine Qa hC [.T,.n 10,.K [8,9] []] rfl ⟨tt_,z⟩ ?_
    cases h
    exact Qar rfl (an_ rfl rfl)
   obtain⟨a7,Z,h⟩:=Qb h
   obtain⟨L,a0,h⟩:=Qb h
   refine Qa hC [.F,.n 3,.K [1,3,4,10,13,15,22,23,24] [4,21]] rfl ⟨tt_,z⟩ ?_
   refine AK.draw2 Qq hC mixed [.N,.N,.N,.N,.N,.a (.row (Qp a7)) none false,.N,.N,.N,.a (.c false [.d,.d,.d] (.tup [.I L.1,.b L.2])) none false,.N,.N,.N,.N,.N] [] [] [1,3,4,10,15,16,17,22,23,24] [4,21] rfl rfl rfl ⟨⟨tt_,(QT Z)⟩,(QtR _ _ _ a0)⟩ rfl (by kernel_rfl) rfl rfl rfl ?_
   refine tg_ hC [.n 8] rfl ?_
   rcases Qs h with⟨A,h⟩|⟨A,h⟩
   ·refine Qa hC [.T,.n 10,.K [8,9] []] rfl ⟨tt_,A⟩ ?_
    cases h
    exact Qar rfl (an_ rfl rfl)
   obtain⟨a8,G,h⟩:=Qb h
   obtain⟨a1,a2,h⟩:=Qb h
   obtain⟨E,a3,h⟩:=Qb h
   obtain⟨a9,H,h⟩:=Qb h
   refine Qa hC [.F,.n 3,.K [1,3,4,10,15,16,22,23,24] [4,21]] rfl ⟨tt_,A⟩ ?_
   refine AK.draw2 Qq hC mixed [.N,.N,.N,.N,.N,.a (.row (Qi a8)) none false,.N,.a (.bd []) (some ([],.sl 1 (([L.1]:List Int).map Qe))) false,.a (.cd false [.d] 2 (a1.map QJ) a1.length) none false,.a (.c false [.d,.d] (.tup [.sl 2 (E.1.map QJ),.I E.2])) none false,.a .no none true true,.N,.a .no none true,.N,.m (.st (Qi a9) ((t.set i.Place.toNat E.1).map Qi)),.N] [1,3,4,10,15,16,22,23,24] [4] [1,3,4,10,14,22,23,24] [4,21] rfl rfl rfl ⟨⟨⟨⟨⟨⟨⟨tt_,(Qdd G rfl)⟩,(QbX (QdK G).2)⟩,rfl⟩,⟨(Qve _ a2),Qg⟩⟩,(Qo6 _ _ a3)⟩,(Qdd H rfl)⟩,⟨(QbX (QdK H).2),Qmi rfl⟩⟩ rfl (by kernel_rfl) rfl rfl rfl ?_
   refine tg_ hC [.n 7] rfl ?_
   refine bg_ h (fun B h=>Qa hC [.T,.n 10,.K [8,9] []] rfl ⟨tt_,B⟩ ?_) fun B h=>Qa hC [.F,.n 7,.S 10 (.own 21 (t.set i.Place.toNat E.1).length),.K [1,3,4,10,22,23,24] [4,21]] rfl ⟨⟨tt_,B⟩,(congrArg (fun n=>V.own 21 n) (by simp))⟩ ?_
   ·cases h
    exact Qar rfl (an_ rfl rfl)
   cases h
   exact Q5 rfl rfl
  refine Qa hC [.F,.n 2,.K [10] [21]] rfl ⟨tt_,u⟩ ?_
  cases h
  exact Q6 rfl (an_ rfl rfl)
 rcases a6 with(b0 | a4)
 ·replace h:Qpl b0=some r:=h
  rintro e σ ⟨rfl,rfl⟩
  refine tg_ hC [.n 2,.denil 8 [some 1]] rfl ?_
  cases h
  exact d2_ rfl rfl rfl tt_
 replace h:Qpm a4=some r:=h
 rintro e σ ⟨rfl,rfl⟩
 refine Qa hC [.n 10,.frz 21 (a4.map Qi) [8] []] rfl ⟨tt_,⟨tt_,(Qb7 Qg)⟩⟩ ?_
 cases h
 exact d2_ rfl rfl rfl tt_
def QaB (b:QX)(a:(List Int)):Option Int:=
 (Qd4 b.net b.task.Outs a b.env).bind fun c=>
 some c.2
theorem Qli (b a){r}(h:QaB b a=some r):Qc prog 93 [.agg (Qz b),.sl 1 (a.map Qe)] [] (Gives (.I r) []):=by
 refine Qc.walk 20 func93 rfl rfl rfl fun C hC=>?_
 obtain⟨f,e,h⟩:=Qb h
 refine Qa hC [.n 9,.v .no [] (.agg (Qd b.net)),.n 6,.o (.c false [.d,.d,.d,.d] (.tup [.sl 1 (f.1.map Qi),.I f.2])),.n 14] rfl ⟨⟨tt_,rfl⟩,(Qf6 _ _ _ _ e)⟩ ?_
 cases h
 exact d1_ rfl rfl tt_
def QhS (a:(List Int))(b:QX):Option Bool:=
 (QaB b a).bind fun c=>
 some (c != 0)
theorem Qog (a e){r}(h:QhS a e=some r):Qc prog 101 [.sl 1 (a.map Qe),.loc 617 0 0] [(617,.var (Qz e))] (Gives (.b r) [(617,.var (Qz e))]):=by
 refine Qc.walk 8 func101 rfl rfl rfl fun C hC=>?_
 obtain⟨g,f,h⟩:=Qb h
 refine Qa hC [.n 7,.v .no [] (.agg (Qz e)),.n 1,.o (.c false [.d,.d] (.I g)),.n 5] rfl ⟨⟨tt_,rfl⟩,(Qli _ _ f)⟩ ?_
 cases h
 exact d1_ rfl rfl ⟨rfl,tt_⟩
def Qb1 (c:QLL)(d:QX)(a:Int):Option (Int⊕(Int⊕Unit)):=
 bif (decide (a<(c.length:Int)))then
 (idx c a).bind fun e=>
 (QhS e d).bind fun b=>
 bif b then
 some (.inr (.inl a))
 else
 some (.inl (w64 (a+1)))
 else
 some (.inr (.inr ()))
def Qf7 (a:Int):Option Int:=
 some a
def Qf8 : Option Int:=
 some (-1)
def Qcy (a:QLL)(b:QX):Option Int:=
 (QK (fun st=>Qb1 a b st) 0).bind (Sum.elim (fun q=>Qf7 q) (fun q=>Qf8))
theorem QlT (c f){r}(h:Qcy c f=some r):Qc prog 153 [.own 617 c.length,.clo (.func 101) [] [.loc 618 0 0]] [(617,.arr 1 (c.map QL)),(618,.var (Qz f))] (Gives (.I r) [(617,.arr 1 (c.map QL)),(618,.var (Qz f))]):=by
 refine Qc.walk 19 func153 rfl rfl rfl fun C hC=>?_
 refine tg_ hC [.n 14,.K [0,1,7,8] [617,618]] rfl ?_
 obtain⟨l,i,h⟩:=Qb h
 refine AK.loop (body:=(fun st=>Qb1 c f st)) (fun st σ=>σ=⟨[(0,.own 617 c.length),(1,.clo (.func 101) [] [.loc 618 0 0]),(7,.I (c.length:Int)),(8,.I st)],[(617,.arr 1 (c.map QL)),(618,.var (Qz f))]⟩) (Sum.elim (fun q e σ=>e=.ret∧σ=⟨[(4,.I q)],[(617,.arr 1 (c.map QL)),(618,.var (Qz f))]⟩) (fun q e σ=>e=.exit 0∧σ=⟨[],[(617,.arr 1 (c.map QL)),(618,.var (Qz f))]⟩)) i rfl ?_ ?_
 ·rintro t o σ rfl h
  refine tg_ hC [.n 6] rfl ?_
  rcases Qs h with⟨g,h⟩|⟨g,h⟩
  ·obtain⟨p,j,h⟩:=Qb h
   obtain⟨m,k,h⟩:=Qb h
   refine Qa hC [.T,.n 16,.o (.row (QL p)),.cm (.clo) [(617,618)] [(618,617)] [] [.d,.d] [(617,.var (Qz f))] (.b m),.n 2] rfl ⟨⟨⟨⟨tt_,g⟩,(Qdd j rfl)⟩,(QbX (QdK j).2)⟩,(Qog _ _ k)⟩ ?_
   refine bg_ h (fun a h=>Qa hC [.T,.n 9,.K [4] [617,618]] rfl ⟨tt_,a⟩ ?_) fun a h=>Qa hC [.F,.n 7,.K [0,1,7,8] [617,618]] rfl ⟨tt_,a⟩ ?_
   ·cases h
    exact Qar rfl (an_ rfl rfl)
   cases h
   exact Q5 rfl rfl
  refine Qa hC [.F,.n 2,.K [] [617,618]] rfl ⟨tt_,g⟩ ?_
  cases h
  exact Q6 rfl (an_ rfl rfl)
 rcases l with(s | _)
 ·replace h:Qf7 s=some r:=h
  rintro e σ ⟨rfl,rfl⟩
  refine tg_ hC [.n 2] rfl ?_
  cases h
  exact d1_ rfl rfl ⟨rfl,rfl,tt_⟩
 replace h:Qf8=some r:=h
 rintro e σ ⟨rfl,rfl⟩
 refine tg_ hC [.n 8] rfl ?_
 cases h
 exact d1_ rfl rfl ⟨rfl,rfl,tt_⟩
def Qc7 (a:Int)(b:Int)(c:QLL):Option ((Int×Int×QLL)⊕(Int×QLL)):=
 some (.inl (b,(w64 (a+1)),c))
def QbT (f:QX)(c:Int)(b:Int)(a:QLL):Option ((Int×Int×QLL)⊕(Int×QLL)):=
 bif (decide (b<(a.length:Int)))then
 (idx a b).bind fun d=>
 (QhS d f).bind fun e=>
 bif (!e)then
 (idx a c).bind fun g=>
 Qc7 b (w64 (c+1)) (a.set c.toNat d)
 else
 Qc7 b c a
 else
 some (.inr (c,a))
def QbU (a:Int)(b:QLL):Option QLL:=
 (chk (decide (0≤a)&&decide (a.toNat≤b.length))).bind fun _=>
 (chk (decide (0≤a)&&decide (a.toNat≤(b.take a.toNat++List.replicate (b.length-a.toNat) (([]:(List Int)):(List Int))).length))).bind fun _=>
 some ((b.take a.toNat++List.replicate (b.length-a.toNat) (([]:(List Int)):(List Int))).take a.toNat)
def Qcq (a:QLL)(c:QX):Option QLL:=
 (Qcy a c).bind fun b=>
 bif (b==(-1))then
 some a
 else
 (QK (fun st=>QbT c st.1 st.2.1 st.2.2) (b,(w64 (b+1)),a)).bind (fun q=>QbU q.1 q.2)
theorem Qlj (D m){r}(h:Qcq D m=some r):Qc prog 99 [.own 617 D.length,.clo (.func 101) [] [.loc 618 0 0]] [(617,.arr 1 (D.map QL)),(618,.var (Qz m))] (Gives (.own 617 r.length) [(617,.arr 1 (r.map QL)),(618,.var (Qz m))]):=by
 refine Qc.walk 42 func99 rfl rfl rfl fun C hC=>?_
 obtain⟨N,E,h⟩:=Qb h
 refine Qa hC [.n 9,.cm (.fn) [(617,617),(618,618)] [(617,617),(618,618)] [] [.d,.d] [(617,.arr 1 (D.map QL)),(618,.var (Qz m))] (.I N),.n 10] rfl ⟨tt_,(QlT _ _ E)⟩ ?_
 refine bg_ h (fun u h=>Qa hC [.T,.n 8,.K [4] [617,618]] rfl ⟨tt_,u⟩ ?_) fun u h=>Qa hC [.F,.n 11,.K [0,1,5,6] [617,618]] rfl ⟨tt_,u⟩ ?_
 ·cases h
  exact d1_ rfl rfl ⟨rfl,rfl,tt_⟩
 obtain⟨G,y,h⟩:=Qb h
 refine AK.loop (body:=(fun st=>QbT m st.1 st.2.1 st.2.2)) (fun st σ=>σ=⟨[(0,.own 617 st.2.2.length),(1,.clo (.func 101) [] [.loc 618 0 0]),(5,.I st.1),(6,.I st.2.1)],[(617,.arr 1 (st.2.2.map QL)),(618,.var (Qz m))]⟩) (fun q e σ=>e=.exit 0∧σ=⟨[(0,.own 617 q.2.length),(5,.I q.1)],[(617,.arr 1 (q.2.map QL)),(618,.var (Qz m))]⟩) y rfl ?_ ?_
 ·rintro ⟨L,z,A⟩ o σ rfl h
  refine tg_ hC [.n 9] rfl ?_
  refine bg_ h (fun j h=>Qa hC [.T,.n 2] rfl ⟨tt_,j⟩ ?_) fun j h=>Qa hC [.F,.n 2,.K [0,5] [617,618]] rfl ⟨tt_,j⟩ ?_
  ·refine AK.meet (fun σ=>∃v:Int,∃p:QLL,σ=⟨[(0,.own 617 p.length),(1,.clo (.func 101) [] [.loc 618 0 0]),(5,.I v),(6,.I z)],[(617,.arr 1 (p.map QL)),(618,.var (Qz m))]⟩∧Qc7 z v p=some o) ?_ ?_
   ·obtain⟨w,s,h⟩:=Qb h
    obtain⟨H,B,h⟩:=Qb h
    refine Qa hC [.n 6,.o (.row (QL w)),.n 7,.cm (.clo) [(617,618)] [(618,617)] [] [.d,.d] [(617,.var (Qz m))] (.b H),.n 3] rfl ⟨⟨⟨tt_,(Qdd s rfl)⟩,(QbX (QdK s).2)⟩,(Qog _ _ B)⟩ ?_
    rcases Qs h with⟨k,h⟩|⟨k,h⟩
    ·obtain⟨J,t,h⟩:=Qb h
     refine Qa hC [.T,.n 6,.st (QL J) ((A.set L.toNat w).map QL),.n 8,.S 0 (.own 617 (A.set L.toNat w).length),.K [0,1,5,6] [617,618]] rfl ⟨⟨⟨⟨tt_,k⟩,(Qdd t rfl)⟩,⟨(QbX (QdK t).2),Qmi rfl⟩⟩,(congrArg (fun n=>V.own 617 n) (by simp))⟩ ?_
     exact AK.met (ex_ _ (ex_ _ (an_ rfl h)))
    refine Qa hC [.F,.n 2,.K [0,1,5,6] [617,618]] rfl ⟨tt_,k⟩ ?_
    exact AK.met (ex_ _ (ex_ _ (an_ rfl h)))
   rintro σ ⟨v,p,rfl,h⟩
   refine tg_ hC [.n 5,.K [0,1,5,6] [617,618]] rfl ?_
   cases h
   exact Q5 rfl rfl
  cases h
  exact Q6 rfl (an_ rfl rfl)
 obtain⟨a,c⟩:=G
 replace h:QbU a c=some r:=h
 rintro e σ ⟨rfl,rfl⟩
 refine tg_ hC [.n 6] rfl ?_
 obtain⟨g,h⟩:=QaX h
 refine AK.clearTail (b:=617) (l:=a.toNat) (n:=c.length) rfl rfl rfl rfl rfl rfl (QO hC.n rfl) rfl rfl Qg (Qq.es rfl) QCP rfl rfl rfl (Bnd.val rfl (Q7 (Qrg g)) rfl) (Q7 (Qmm g)) rfl ?_
 refine AK.denilA (b:=617) [some 1] rfl (QDx (f:=QL) (x:=(([]:(List Int)):(List Int))) (fun _=>rfl) rfl) ?_
 obtain⟨i,h⟩:=QaX h
 refine Qa hC [.S 0 (.own 617 (c.take a.toNat++List.replicate (c.length-a.toNat) (([]:(List Int)):(List Int))).length),.S 36 (.own 617 (c.take a.toNat++List.replicate (c.length-a.toNat) (([]:(List Int)):(List Int))).length),.n 6] rfl ⟨⟨tt_,(QAV (Q7 (Qmm g)))⟩,(QAV (Q7 (Qmm g)))⟩ ?_
 have M:a.toNat=((c.take a.toNat++List.replicate (c.length-a.toNat) (([]:(List Int)):(List Int))).take a.toNat).length:=by rw [Qfu,Qp9 (Q7 (Qmm i))]
 refine Qa hC [.x (fun σ=>(σ.set 617 (.arr 1 (((c.take a.toNat++List.replicate (c.length-a.toNat) (([]:(List Int)):(List Int))).take a.toNat).map QL))).put 41 (.own 617 a.toNat)),.S 41 (.own 617 ((c.take a.toNat++List.replicate (c.length-a.toNat) (([]:(List Int)):(List Int))).take a.toNat).length),.n 4] rfl ⟨⟨tt_,(Stp.sliceO rfl rfl (QO hC.n rfl) rfl rfl (Qq.es rfl) Bnd.no (Bnd.val rfl (Q7 (Qrg i)) rfl) (Q7 (Qmm i)) (by simp))⟩,(QDq (Q7 (Qmm i)))⟩ ?_
 cases h
 exact d1_ rfl rfl ⟨rfl,rfl,tt_⟩
def Qc8 (a:QBg)(b:Int)(c:Int):Option (Unit⊕Unit):=
 bif (decide (((QE a b).getD 0)<c))then
 some (.inr ())
 else
 some (.inl ())
def Qlk : Option Bool:=
 some true
def Qll : Option Bool:=
 some false
def Qen (a:QBg)(b:QBg):Option Bool:=
 (QiP (fun st p=>Qc8 b p.1 p.2) () a).bind (Sum.elim (fun q=>Qlk) (fun q=>Qll))
theorem Qlm (j d){r}(h:Qen j d=some r):Qc prog 96 [.map 617,.map 618] [(617,.map (QA V.I V.I j)),(618,.map (QA V.I V.I d))] (Gives (.b r) [(617,.map (QA V.I V.I j)),(618,.map (QA V.I V.I d))]):=by
 refine Qc.walk 19 func96 rfl rfl rfl fun C hC=>?_
 refine tg_ hC [.n 9] rfl ?_
 refine AK.openMap (b:=617) Qdj rfl fun a c L5 s t=>?_
 refine Qa hC [.x (fun σ=>(σ.set 8 (.itr a c #[] none)).put 8 (.loc 8 0 0)),.n 3,.K [1,8] [8,617,618]] rfl ⟨tt_,(Stp.range (b:=617) rfl rfl (QO hC.n rfl) rfl rfl QeS rfl)⟩ ?_
 obtain⟨w,u,h⟩:=Qb h
 refine AK.range (body:=(fun st p=>Qc8 d p.1 p.2)) (fun st seen σ=>∃cur:Option MapEntry,σ=⟨[(1,.map 618),(8,.loc 8 0 0)],[(8,.itr a c seen cur),(617,.mapX a c (QhI V.I V.I L5) (QA V.I V.I j)),(618,.map (QA V.I V.I d))]⟩) (fun q e σ=>e=.ret∧σ=⟨[(4,.b false)],[(617,.mapX a c (QhI V.I V.I L5) (QA V.I V.I j)),(618,.map (QA V.I V.I d))]⟩) (fun st e σ=>e=.exit 0∧σ=⟨[],[(617,.mapX a c (QhI V.I V.I L5) (QA V.I V.I j)),(618,.map (QA V.I V.I d))]⟩) s t u (ex_ _ rfl) ?_ ?_
 ·rintro _ seen σ ⟨cur,rfl⟩ hex
  refine tg_ hC [.n 2] rfl ?_
  refine AK.nextT (b:=8) (m:=617) rfl rfl rfl (QO hC.n rfl) rfl rfl rfl rfl ?_ ?_
  ·intro hleft
   refine tg_ hC [.n 7,.K [] [617,618]] rfl ?_
   exact AK.done (Or.inl (an_ hleft (an_ (fun h=>(by cases h)) (an_ rfl rfl))))
  intro B v y g
  obtain⟨o,h⟩:=hex _ g
  have ho:=h
  replace h:Qc8 d v y=some o:=h
  refine Qa hC [.n 10,.x (fun σ=>σ.put 11 (.tup [.I v,.I y])),.n 11,.o (.any (.I ((QE d v).getD 0)) none),.n 3] rfl ⟨⟨tt_,(Stp.entryT (b:=8) (m:=617) rfl rfl (QO hC.n rfl) rfl g rfl rfl)⟩,(fun σ A D _=>Stp.lookup (e:=V.I) (f:=V.I) (l:=d) (k:=v) (z:=0) rfl rfl (QO hC.n rfl) (A _ _ rfl) (D _ _ rfl) (A _ _ rfl) QeS Qdj Qk0 rfl)⟩ ?_
  refine bg_ h (fun i h=>Qa hC [.T,.n 7,.K [4] [617,618]] rfl ⟨tt_,i⟩ ?_) fun i h=>Qa hC [.F,.n 2,.K [1,8] [8,617,618]] rfl ⟨tt_,i⟩ ?_
  ·cases h
   exact AK.done (Or.inr (ex_ _ (an_ g (Or.inr (ex_ _ (an_ ho (an_ (fun h=>(by cases h)) (an_ rfl rfl))))))))
  cases h
  exact AK.done (Or.inr (ex_ _ (an_ g (Or.inl (ex_ _ (an_ ho (an_ rfl (ex_ _ rfl))))))))
 rcases w with(_ | _)
 ·replace h:Qlk=some r:=h
  rintro e σ ⟨rfl,rfl⟩
  refine tg_ hC [.n 8] rfl ?_
  refine AK.closeMap (b:=617) rfl ?_
  cases h
  exact d1_ rfl rfl ⟨rfl,rfl,tt_⟩
 replace h:Qll=some r:=h
 rintro e σ ⟨rfl,rfl⟩
 refine tg_ hC [.n 2] rfl ?_
 refine AK.closeMap (b:=617) rfl ?_
 cases h
 exact d1_ rfl rfl ⟨rfl,rfl,tt_⟩
def Qqo (a:Unit):Option Bool:=
 some false
def Qqp (a:QBg):Option Bool:=
 some false
def Qqq (a:QBg):Option Bool:=
 some false
def Qmz (b:(QBg×QBg)):Option Bool:=
 (Qen b.1 b.2).bind fun a=>
 some a
def QmA (a:QBg)(b:QBg):Option Bool:=
 (Qkv a b).bind (Sum.elim (fun q=>Qqo q) (Sum.elim (fun q=>Qqp q) (Sum.elim (fun q=>Qqq q) (fun q=>Qmz q))))
theorem Qwh (g i){r}(h:QmA g i=some r):Qc prog 214 [.sl 2 (g.map QJ),.sl 2 (i.map QJ)] [] (Gives (.b r) []):=by
 refine Qc.walk 21 func214 rfl rfl rfl fun C hC=>?_
 obtain⟨l,a,h⟩:=Qb h
 refine tg_ hC [.n 9] rfl ?_
 rcases l with(m | (j | (k | c)))
 ·replace h:Qqo m=some r:=h
  refine Qa hC [.cm (.fn) [] [] [] [.d,.d] [] (.tup [.lit (.map none),.lit (.map none),.b false]),.n 21] rfl ⟨tt_,(QbL _ _ a)⟩ ?_
  cases h
  exact d1_ rfl rfl tt_
 ·replace h:Qqp j=some r:=h
  refine Qa hC [.cm (.fn) [] [(11,603)] [] [.d,.d] [(603,.map (QA V.I V.I j))] (.tup [.lit (.map none),.map 603,.b false]),.n 21] rfl ⟨tt_,(QbL _ _ a)⟩ ?_
  cases h
  exact d1_ rfl rfl tt_
 ·replace h:Qqq k=some r:=h
  refine Qa hC [.cm (.fn) [] [(11,602)] [] [.d,.d] [(602,.map (QA V.I V.I k))] (.tup [.map 602,.lit (.map none),.b false]),.n 21] rfl ⟨tt_,(QbL _ _ a)⟩ ?_
  cases h
  exact d1_ rfl rfl tt_
 replace h:Qmz c=some r:=h
 obtain⟨f,e,h⟩:=Qb h
 refine Qa hC [.cm (.fn) [] [(11,602),(610,603)] [] [.d,.d] [(602,.map (QA V.I V.I c.1)),(603,.map (QA V.I V.I c.2))] (.tup [.map 602,.map 603,.b true]),.n 15,.cm (.fn) [(617,11),(618,610)] [(11,617),(610,618)] [] [.d,.d] [(617,.map (QA V.I V.I c.1)),(618,.map (QA V.I V.I c.2))] (.b f),.n 5] rfl ⟨⟨tt_,(QbL _ _ a)⟩,(Qlm _ _ e)⟩ ?_
 cases h
 exact d1_ rfl rfl tt_
def Qad (d:QMk)(e:QMk)(a:Int):Option (Int⊕(Unit⊕Unit)):=
 bif (decide (a<(d.length:Int)))then
 (idx d a).bind fun f=>
 (idx e a).bind fun b=>
 (QmA f b).bind fun c=>
 bif (!c)then
 some (.inr (.inl ()))
 else
 some (.inl (w64 (a+1)))
 else
 some (.inr (.inr ()))
def Qbm : Option Bool:=
 some false
def Qbn : Option Bool:=
 some true
def Qaz (a:QMk)(b:QMk):Option Bool:=
 bif ((a.length:Int) != (b.length:Int))then
 some false
 else
 (QK (fun st=>Qad a b st) 0).bind (Sum.elim (fun q=>Qbm) (fun q=>Qbn))
theorem QdG (f j){r}(h:Qaz f j=some r):Qc prog 34 [.sl 1 (f.map Qi),.sl 1 (j.map Qi),.clo (.func 214) [] []] [] (Gives (.b r) []):=by
 refine Qc.walk 32 func34 rfl rfl rfl fun C hC=>?_
 refine Qa hC [.n 9,.o (.ln f.length),.n 1,.o (.ln j.length),.n 3] rfl ⟨⟨tt_,Qg⟩,Qg⟩ ?_
 refine bg_ h (fun g h=>Qa hC [.T,.n 7,.K [6] []] rfl ⟨tt_,g⟩ ?_) fun g h=>Qa hC [.F,.n 6,.o (.ln f.length),.n 4,.K [1,2,15,16,17] []] rfl ⟨⟨tt_,g⟩,Qg⟩ ?_
 ·cases h
  exact d1_ rfl rfl tt_
 obtain⟨p,k,h⟩:=Qb h
 refine AK.loop (body:=(fun st=>Qad f j st)) (fun st σ=>σ=⟨[(1,.sl 1 (j.map Qi)),(2,.clo (.func 214) [] []),(15,.sl 1 (f.map Qi)),(16,.I (f.length:Int)),(17,.I st)],[]⟩) (Sum.elim (fun q e σ=>e=.ret∧σ=⟨[(6,.b false)],[]⟩) (fun q e σ=>e=.exit 0∧σ=⟨[],[]⟩)) k rfl ?_ ?_
 ·rintro w o σ rfl h
  refine tg_ hC [.n 6] rfl ?_
  rcases Qs h with⟨i,h⟩|⟨i,h⟩
  ·obtain⟨v,s,h⟩:=Qb h
   obtain⟨t,l,h⟩:=Qb h
   obtain⟨u,m,h⟩:=Qb h
   refine Qa hC [.T,.n 7,.o (.row (Qi v)),.n 9,.o (.row (Qi t)),.n 9,.o (.c false [.d,.d] (.b u)),.n 3] rfl ⟨⟨⟨⟨tt_,i⟩,(QT s)⟩,(QT l)⟩,(Qwh _ _ m)⟩ ?_
   refine bg_ h (fun a h=>Qa hC [.T,.n 8,.K [6] []] rfl ⟨tt_,a⟩ ?_) fun a h=>Qa hC [.F,.n 7,.K [1,2,15,16,17] []] rfl ⟨tt_,a⟩ ?_
   ·cases h
    exact Qar rfl (an_ rfl rfl)
   cases h
   exact Q5 rfl rfl
  refine Qa hC [.F,.n 2,.K [] []] rfl ⟨tt_,i⟩ ?_
  cases h
  exact Q6 rfl (an_ rfl rfl)
 rcases p with(_ | _)
 ·replace h:Qbm=some r:=h
  rintro e σ ⟨rfl,rfl⟩
  refine tg_ hC [.n 2] rfl ?_
  cases h
  exact d1_ rfl rfl tt_
 replace h:Qbn=some r:=h
 rintro e σ ⟨rfl,rfl⟩
 refine tg_ hC [.n 8] rfl ?_
 cases h
 exact d1_ rfl rfl tt_
def QiR (a:QMk)(b:QMk):Option Bool:=
 (Qaz a b).bind fun c=>
 some c
theorem Qpn (a e){r}(h:QiR a e=some r):Qc prog 148 [.sl 1 (a.map Qi),.sl 1 (e.map Qi)] [] (Gives (.b r) []):=by
 refine Qc.walk 8 func148 rfl rfl rfl fun C hC=>?_
 obtain⟨f,c,h⟩:=Qb h
 refine Qa hC [.n 9,.cm (.fn) [] [] [] [.d,.d,.d] [] (.b f),.n 4] rfl ⟨tt_,(QdG _ _ c)⟩ ?_
 cases h
 exact d1_ rfl rfl tt_
def Qdy (b:(List Int))(c:Int)(a:Int):Option (Int⊕(Int⊕Unit)):=
 bif (decide (a<(b.length:Int)))then
 (idx b a).bind fun d=>
 bif (c==d)then
 some (.inr (.inl a))
 else
 some (.inl (w64 (a+1)))
 else
 some (.inr (.inr ()))
def Qdz (a:Int):Option Int:=
 some a
def QdA : Option Int:=
 some (-1)
def QeH (a:(List Int))(b:Int):Option Int:=
 (QK (fun st=>Qdy a b st) 0).bind (Sum.elim (fun q=>Qdz q) (fun q=>QdA))
theorem QoF (c f){r}(h:QeH c f=some r):Qc prog 215 [.sl 1 (c.map Qe),.I f] [] (Gives (.I r) []):=by
 refine Qc.walk 19 func215 rfl rfl rfl fun C hC=>?_
 refine Qa hC [.n 9,.o (.ln c.length),.n 4,.K [0,1,7,8] []] rfl ⟨tt_,Qg⟩ ?_
 obtain⟨g,d,h⟩:=Qb h
 refine AK.loop (body:=(fun st=>Qdy c f st)) (fun st σ=>σ=⟨[(0,.sl 1 (c.map Qe)),(1,.I f),(7,.I (c.length:Int)),(8,.I st)],[]⟩) (Sum.elim (fun q e σ=>e=.ret∧σ=⟨[(4,.I q)],[]⟩) (fun q e σ=>e=.exit 0∧σ=⟨[],[]⟩)) d rfl ?_ ?_
 ·rintro l o σ rfl h
  refine tg_ hC [.n 6] rfl ?_
  rcases Qs h with⟨b,h⟩|⟨b,h⟩
  ·obtain⟨j,i,h⟩:=Qb h
   refine Qa hC [.T,.n 15,.o (.row (Qe j)),.n 4] rfl ⟨⟨tt_,b⟩,(QT i)⟩ ?_
   refine bg_ h (fun a h=>Qa hC [.T,.n 9,.K [4] []] rfl ⟨tt_,a⟩ ?_) fun a h=>Qa hC [.F,.n 7,.K [0,1,7,8] []] rfl ⟨tt_,a⟩ ?_
   ·cases h
    exact Qar rfl (an_ rfl rfl)
   cases h
   exact Q5 rfl rfl
  refine Qa hC [.F,.n 2,.K [] []] rfl ⟨tt_,b⟩ ?_
  cases h
  exact Q6 rfl (an_ rfl rfl)
 rcases g with(k | _)
 ·replace h:Qdz k=some r:=h
  rintro e σ ⟨rfl,rfl⟩
  refine tg_ hC [.n 2] rfl ?_
  cases h
  exact d1_ rfl rfl tt_
 replace h:QdA=some r:=h
 rintro e σ ⟨rfl,rfl⟩
 refine tg_ hC [.n 8] rfl ?_
 cases h
 exact d1_ rfl rfl tt_
def Qbx (a:(List Int))(b:Int):Option Bool:=
 (QeH a b).bind fun c=>
 some (decide (0≤c))
theorem QhT (e f){r}(h:Qbx e f=some r):Qc prog 149 [.sl 1 (e.map Qe),.I f] [] (Gives (.b r) []):=by
 refine Qc.walk 9 func149 rfl rfl rfl fun C hC=>?_
 obtain⟨g,a,h⟩:=Qb h
 refine Qa hC [.n 9,.o (.c false [.d,.d] (.I g)),.n 5] rfl ⟨tt_,(QoF _ _ a)⟩ ?_
 cases h
 exact d1_ rfl rfl tt_
def QeI (a:Int):Option (Int⊕(Unit⊕Unit)):=
 some (.inl (w64 (a+1)))
def Qln (a:(QMk×Int))(c:QX):Option Bool:=
 bif (a.2==0)then
 (QiR a.1 c.m).bind fun b=>
 some b
 else
 some false
def QeJ (a:Int)(b:Bool):Option (Int⊕(Unit⊕Unit)):=
 bif b then
 some (.inr (.inl ()))
 else
 QeI a
def QeK (d:QX)(b:(List Int))(a:Int):Option (Int⊕(Unit⊕Unit)):=
 bif (decide (a<(d.task.Ins.length:Int)))then
 (Qbx b a).bind fun f=>
 bif f then
 QeI a
 else
 (QaK b).bind fun c=>
 (chk (decide (c.length+([a]:List Int).length≤4294967296))).bind fun _=>
 (Qbf (c++([a]:List Int))).bind fun e=>
 (chk (decide (e.length=(c++([a]:List Int)).length))).bind fun _=>
 (Qd4 d.net d.task.Ins e d.env).bind fun g=>
 (Qln g d).bind (fun h=>QeJ a h)
 else
 some (.inr (.inr ()))
def Qlo : Option Int:=
 some 11
def Qlp : Option Int:=
 some 0
def Qah (b:QX)(a:(List Int)):Option Int:=
 (Qd4 b.net b.task.Ins a b.env).bind fun c=>
 bif (c.2 != 0)then
 some c.2
 else
 (QiR c.1 b.m).bind fun d=>
 bif (!d)then
 some 10
 else
 bif (b.task.Join != 3)then
 some 0
 else
 (QK (fun st=>QeK b a st) 0).bind (Sum.elim (fun q=>Qlo) (fun q=>Qlp))
theorem Qlq (g a){r}(h:Qah g a=some r):Qc prog 92 [.agg (Qz g),.sl 1 (a.map Qe)] [] (Gives (.I r) []):=by
 refine Qc.walk 76 func92 rfl rfl rfl fun C hC=>?_
 obtain⟨U,L,h⟩:=Qb h
 refine Qa hC [.n 9,.v .no [] (.agg (Qd g.net)),.n 6,.o (.c false [.d,.d,.d,.d] (.tup [.sl 1 (U.1.map Qi),.I U.2])),.n 16] rfl ⟨⟨tt_,rfl⟩,(Qf6 _ _ _ _ L)⟩ ?_
 rcases Qs h with⟨t,h⟩|⟨t,h⟩
 ·refine Qa hC [.T,.n 9] rfl ⟨tt_,t⟩ ?_
  cases h
  exact d1_ rfl rfl tt_
 obtain⟨W,M,h⟩:=Qb h
 refine Qa hC [.F,.n 5,.o (.c false [.d,.d] (.b W)),.n 4] rfl ⟨⟨tt_,t⟩,(Qpn _ _ M)⟩ ?_
 refine bg_ h (fun u h=>Qa hC [.T,.n 8,.K [4] []] rfl ⟨tt_,u⟩ ?_) fun u h=>Qa hC [.F,.n 9] rfl ⟨tt_,u⟩ ?_
 ·cases h
  exact d1_ rfl rfl tt_
 refine bg_ h (fun w h=>Qa hC [.T,.n 8,.K [4] []] rfl ⟨tt_,w⟩ ?_) fun w h=>Qa hC [.F,.n 9,.o (.ln g.task.Ins.length),.n 4,.K [1,2,41,42] [2]] rfl ⟨⟨tt_,w⟩,Qg⟩ ?_
 ·cases h
  exact d1_ rfl rfl tt_
 obtain⟨N,y,h⟩:=Qb h
 refine AK.loop (body:=(fun st=>QeK g a st)) (fun st σ=>σ=⟨[(1,.sl 1 (a.map Qe)),(2,.loc 2 0 0),(41,.I (g.task.Ins.length:Int)),(42,.I st)],[(2,.var (Qz g))]⟩) (Sum.elim (fun q e σ=>e=.ret∧σ=⟨[(4,.I 11)],[]⟩) (fun q e σ=>e=.exit 1∧σ=⟨[],[]⟩)) y rfl ?_ ?_
 ·rintro f o σ rfl h
  refine tg_ hC [.n 6] rfl ?_
  refine bg_ h (fun i h=>Qa hC [.T,.n 2] rfl ⟨tt_,i⟩ ?_) fun i h=>Qa hC [.F,.n 2,.K [] []] rfl ⟨tt_,i⟩ ?_
  ·refine AK.meet (fun σ=>σ=⟨[(1,.sl 1 (a.map Qe)),(2,.loc 2 0 0),(41,.I (g.task.Ins.length:Int)),(42,.I f)],[(2,.var (Qz g))]⟩∧QeI f=some o) ?_ ?_
   ·obtain⟨O,z,h⟩:=Qb h
    refine Qa hC [.n 12,.o (.c false [.d,.d] (.b O)),.n 2] rfl ⟨tt_,(QhT _ _ z)⟩ ?_
    rcases Qs h with⟨j,h⟩|⟨j,h⟩
    ·refine Qa hC [.T,.n 3,.K [1,2,41,42] [2]] rfl ⟨tt_,j⟩ ?_
     exact AK.met (an_ rfl h)
    obtain⟨s,A,h⟩:=Qb h
    obtain⟨B,h⟩:=QaX h
    obtain⟨k,D,h⟩:=Qb h
    obtain⟨l,h⟩:=QaX h
    obtain⟨E,G,h⟩:=Qb h
    refine Qa hC [.F,.n 5,.o (.co false [.d] 1 (s.map Qe) s.length),.n 1,.v (.bd []) [] (.sl 1 (([f]:List Int).map Qe)),.app ((s++([f]:List Int)).map Qe) (s++([f]:List Int)).length,.n 6,.cm (.fn) [(617,49)] [(49,617)] [] [.d] [(617,.arr 1 (k.map Qe))] (.tup []),.S 8 (.own 49 k.length),.S 52 (.own 49 k.length),.S 53 (.own 49 k.length),.n 5,.v .no [] (.agg (Qd g.net)),.n 6,.frz 49 (k.map Qe) [8,52,53,61] [],.o (.c false [.d,.d,.d,.d] (.tup [.sl 1 (E.1.map Qi),.I E.2])),.n 8] rfl ⟨⟨⟨⟨⟨⟨⟨⟨⟨⟨⟨tt_,j⟩,⟨(Qcp _ A),Qg,.inl rfl⟩⟩,rfl⟩,⟨Qg,QbP B Qg,QaZ,QcM Qg⟩⟩,(QdN _ D)⟩,(by simp [Q7 l])⟩,(by simp [Q7 l])⟩,(by simp [Q7 l])⟩,rfl⟩,⟨⟨⟨⟨tt_,(Qb7 Qg)⟩,(Qb7 Qg)⟩,(Qb7 Qg)⟩,(Qb7 Qg)⟩⟩,(Qf6 _ _ _ _ G)⟩ ?_
    obtain⟨x,H,h⟩:=Qb h
    replace h:QeJ f x=some o:=h
    refine AK.meetX (fun σ=>σ=⟨[(1,.sl 1 (a.map Qe)),(2,.loc 2 0 0),(41,.I (g.task.Ins.length:Int)),(42,.I f),(74,.b x)],[(2,.var (Qz g))]⟩) ?_ ?_
    ·replace h:=H
     refine tg_ hC [.n 4] rfl ?_
     rcases Qs h with⟨m,h⟩|⟨m,h⟩
     ·obtain⟨P,J,h⟩:=Qb h
      refine Qa hC [.S 69 (.b true),.n 3,.o (.c false [.d,.d] (.b P)),.n 2,.K [1,2,41,42,74] [2]] rfl ⟨(tc_ m),(Qpn _ _ J)⟩ ?_
      cases h
      exact AK.met rfl
     refine Qa hC [.S 69 (.b false),.n 6,.K [1,2,41,42,74] [2]] rfl (tc_ m) ?_
     cases h
     exact AK.met rfl
    rintro σ rfl
    replace h:QeJ f x=some o:=h
    refine tg_ hC [.n 1] rfl ?_
    refine bg_ h (fun p h=>Qa hC [.T,.n 8,.K [4] []] rfl ⟨tt_,p⟩ ?_) fun p h=>Qa hC [.F,.n 2,.K [1,2,41,42] [2]] rfl ⟨tt_,p⟩ ?_
    ·cases h
     exact Qar rfl (an_ rfl rfl)
    exact AK.met (an_ rfl h)
   rintro σ ⟨rfl,h⟩
   refine tg_ hC [.n 4,.K [1,2,41,42] [2]] rfl ?_
   cases h
   exact Q5 rfl rfl
  cases h
  exact Q6 rfl (an_ rfl rfl)
 rcases N with(_ | _)
 ·replace h:Qlo=some r:=h
  rintro e σ ⟨rfl,rfl⟩
  refine tg_ hC [.n 2] rfl ?_
  cases h
  exact d1_ rfl rfl tt_
 replace h:Qlp=some r:=h
 rintro e σ ⟨rfl,rfl⟩
 refine tg_ hC [.n 8] rfl ?_
 cases h
 exact d1_ rfl rfl tt_
def Qj3 (a:(Int×QX)):Option Bool:=
 bif (a.1 != 0)then
 some true
 else
 (Qal a.2).bind fun b=>
 some (b != 0)
def QcE (a:Int)(b:(List Qm)):Option ((Int×(List Qm))⊕((List Qm)⊕(List Qm))):=
 some (.inl ((w64 (a+1)),b))
def QdP (f:QLL)(j:(List Int))(h:(List Int))(g:Int)(k:Int)(e:Int)(a:(List Qm)):Option ((Int×(List Qm))⊕((List Qm)⊕(List Qm))):=
 bif (decide (e<(f.length:Int)))then
 (idx f e).bind fun i=>
 (QaK j).bind fun b=>
 (QaK h).bind fun c=>
 (QaK i).bind fun d=>
 (chk (decide (a.length+([(Qm.mk g b c d)]:List Qm).length≤4294967296))).bind fun _=>
 bif (((a++[(Qm.mk g b c d)]).length:Int)==k)then
 some (.inr (.inl (a++[(Qm.mk g b c d)])))
 else
 some (.inl ((w64 (e+1)),(a++[(Qm.mk g b c d)])))
 else
 some (.inr (.inr a))
def Qj4 (a:(List Qm)):Option ((Int×(List Qm))⊕((List Qm)⊕(List Qm))):=
 some (.inr (.inl a))
def Qf9 (a:Int)(b:(List Qm)):Option ((Int×(List Qm))⊕((List Qm)⊕(List Qm))):=
 QcE a b
def QdQ (g:QLL)(d:(Int×QX))(e:QLL)(h:(List Int))(i:Int)(j:Int)(a:Int)(b:(List Qm)):Option ((Int×(List Qm))⊕((List Qm)⊕(List Qm))):=
 bif (decide (a<(g.length:Int)))then
 (idx g a).bind fun c=>
 (Qah d.2 c).bind fun f=>
 bif (f != 0)then
 QcE a b
 else
 (QK (fun st=>QdP e h c i j st.1 st.2) (0,b)).bind (Sum.elim (fun q=>Qj4 q) (fun q=>Qf9 a q))
 else
 some (.inr (.inr b))
def Qj5 (a:(List Qm)):Option ((List Qm)⊕(List Qm)):=
 some (.inl a)
def Qj6 (a:(List Qm)):Option ((List Qm)⊕(List Qm)):=
 some (.inr a)
def QdR (e:(List Qm))(f:QLL)(a:(Int×QX))(g:QLL)(h:(List Int))(i:Int)(j:Int)(b:Bool):Option ((List Qm)⊕(List Qm)):=
 bif b then
 some (.inr e)
 else
 (Qdx f).bind fun c=>
 (Qcq c a.2).bind fun d=>
 (QK (fun st=>QdQ g a d h i j st.1 st.2) (0,e)).bind (Sum.elim (fun q=>Qj5 q) (fun q=>Qj6 q))
def Qe5 (e:Qj)(f:QMk)(c:Int)(g:Int)(k:(List Qm))(h:QLL)(i:QLL)(j:(List Qm))(d:(List Int)):Option ((List Qm)⊕(List Qm)):=
 (QbQ e f c d).bind fun a=>
 (Qj3 a).bind (fun b=>QdR j i a h d c g b)
theorem Qj7 (lpl lpf:Nat)(x:Qj)(y:QMk)(j:Int)(u:Int)(k:(List Qm))(i:QLL)(w:QLL)(U:(List Qm))(z:(List Int)){r:((List Qm)⊕(List Qm))}(h:Qe5 x y j u k i w U z=some r):QnD prog lpl (QaP lpf) (QER (.loc 618 0 0) (.loc 619 0 0) (.loc 620 0 0) (.loc 621 0 0) (.loc 622 0 0) (.loc 623 0 0) (.loc 624 0 0) (.loc 625 0 0) (.sl 1 (z.map Qe))) [(617,.lp lpl (QaP lpf) (Qd8 (.loc 618 0 0) (.loc 619 0 0) (.loc 620 0 0) (.loc 621 0 0) (.loc 622 0 0) (.loc 623 0 0) (.loc 624 0 0) (.loc 625 0 0)) 0),(618,.var (Qd x)),(619,.var (Qt y)),(620,.var (Qe j)),(621,.var (Qe u)),(622,.var [.own 615 k.length]),(615,.arr 4 (k.map Qk)),(623,.var (QZ i)),(624,.var (QZ w)),(625,.var [.own 616 U.length]),(616,.arr 4 (U.map Qk))] ((Sum.elim (fun q=>(Gives (.b false) [(615,.arr 4 (k.map Qk)),(616,.arr 4 (q.map Qk)),(617,.lp lpl (QaP lpf) (Qd8 (.loc 618 0 0) (.loc 619 0 0) (.loc 620 0 0) (.loc 621 0 0) (.loc 622 0 0) (.loc 623 0 0) (.loc 624 0 0) (.loc 625 0 0)) 2),(618,.var (Qd x)),(619,.var (Qt y)),(620,.var (Qe j)),(621,.var (Qe u)),(622,.var [.own 616 q.length]),(623,.var (QZ i)),(624,.var (QZ w)),(625,.var [.own 616 q.length])])) (fun q=>(Gives (.b true) [(615,.arr 4 (k.map Qk)),(616,.arr 4 (q.map Qk)),(617,.lp lpl (QaP lpf) (Qd8 (.loc 618 0 0) (.loc 619 0 0) (.loc 620 0 0) (.loc 621 0 0) (.loc 622 0 0) (.loc 623 0 0) (.loc 624 0 0) (.loc 625 0 0)) 0),(618,.var (Qd x)),(619,.var (Qt y)),(620,.var (Qe j)),(621,.var (Qe u)),(622,.var [.own 615 k.length]),(623,.var (QZ i)),(624,.var (QZ w)),(625,.var [.own 616 q.length])]))) r):=by
 refine QnD.walk (b:=617) 109 rfl rfl fun C hC=>?_
 refine tg_ hC [.n 3] rfl ?_
 refine AK.done (an_ rfl (ex_ _ (an_ rfl ?_)))
 obtain⟨f,Y,h⟩:=Qb h
 refine Qa hC [.n 3,.v .no [] (.agg (Qd x)),.n 3,.o (.c false [.d,.d,.d,.d] (.tup [.agg (Qz f.2),.I f.1])),.n 5,.O 14 (.var (Qz f.2)),.n 5] rfl ⟨⟨⟨tt_,rfl⟩,(Qql _ _ _ _ Y)⟩,rfl⟩ ?_
 obtain⟨W,Z,h⟩:=Qb h
 replace h:QdR U w f i z j u W=some r:=h
 refine AK.meetX (fun σ=>σ=⟨[(6,.loc 620 0 0),(7,.loc 621 0 0),(8,.loc 622 0 0),(10,.loc 623 0 0),(11,.loc 624 0 0),(12,.loc 625 0 0),(13,.sl 1 (z.map Qe)),(14,.loc 14 0 0),(69,.b W)],[(14,.var (Qz f.2)),(615,.arr 4 (k.map Qk)),(616,.arr 4 (U.map Qk)),(617,.lp lpl (QaP lpf) (Qd8 (.loc 618 0 0) (.loc 619 0 0) (.loc 620 0 0) (.loc 621 0 0) (.loc 622 0 0) (.loc 623 0 0) (.loc 624 0 0) (.loc 625 0 0)) 1),(618,.var (Qd x)),(619,.var (Qt y)),(620,.var (Qe j)),(621,.var (Qe u)),(622,.var [.own 615 k.length]),(623,.var (QZ i)),(624,.var (QZ w)),(625,.var [.own 616 U.length])]⟩) ?_ ?_
 ·replace h:=Z
  refine tg_ hC [.n 4] rfl ?_
  rcases Qs h with⟨A,h⟩|⟨A,h⟩
  ·refine Qa hC [.S 65 (.b true),.n 5,.K [6,7,8,10,11,12,13,14,69] [14,615,616,617,618,619,620,621,622,623,624,625]] rfl (tc_ A) ?_
   cases h
   exact AK.met rfl
  obtain⟨b2,a0,h⟩:=Qb h
  refine Qa hC [.S 65 (.b false),.v .no [] (.agg (Qz f.2)),.o (.c false [.d] (.I b2)),.n 3,.K [6,7,8,10,11,12,13,14,69] [14,615,616,617,618,619,620,621,622,623,624,625]] rfl ⟨⟨(tc_ A),rfl⟩,(Qj2 _ a0)⟩ ?_
  cases h
  exact AK.met rfl
 rintro σ rfl
 replace h:QdR U w f i z j u W=some r:=h
 refine tg_ hC [.n 1] rfl ?_
 rcases Qs h with⟨B,h⟩|⟨B,h⟩
 ·refine Qa hC [.T,.n 3,.K [] [615,616,617,618,619,620,621,622,623,624,625]] rfl ⟨tt_,B⟩ ?_
  cases h
  refine AK.done ?_
  exact ex_ _ (an_ rfl (gives ⟨rfl,rfl,rfl,rfl,rfl,rfl,rfl,rfl,rfl,rfl,rfl,tt_⟩))
 obtain⟨a1,a2,h⟩:=Qb h
 obtain⟨g,a3,h⟩:=Qb h
 refine Qa hC [.F,.n 5,.o (.co false [.d] 1 (a1.map QL) a1.length),.n 1,.cm (.fn) [(617,71),(618,14)] [(71,617),(14,618)] [] [.d,.d] [(617,.arr 1 (g.map QL)),(618,.var (Qz f.2))] (.own 617 g.length),.n 6,.o (.ln i.length),.n 4,.K [6,7,8,12,13,14,16,74,75,76] [14,71,615,616,617,618,619,620,621,622,623,624,625]] rfl ⟨⟨⟨⟨tt_,B⟩,⟨(Qna _ a2),Qg,.inl rfl⟩⟩,(Qlj _ _ a3)⟩,Qg⟩ ?_
 obtain⟨b3,a4,h⟩:=Qb h
 refine AK.loop (body:=(fun st=>QdQ i f g z j u st.1 st.2)) (fun st σ=>σ=⟨[(6,.loc 620 0 0),(7,.loc 621 0 0),(8,.loc 622 0 0),(12,.loc 625 0 0),(13,.sl 1 (z.map Qe)),(14,.loc 14 0 0),(16,.own 71 g.length),(74,.sl 1 (i.map QL)),(75,.I (i.length:Int)),(76,.I st.1)],[(14,.var (Qz f.2)),(71,.arr 1 (g.map QL)),(615,.arr 4 (k.map Qk)),(616,.arr 4 (st.2.map Qk)),(617,.lp lpl (QaP lpf) (Qd8 (.loc 618 0 0) (.loc 619 0 0) (.loc 620 0 0) (.loc 621 0 0) (.loc 622 0 0) (.loc 623 0 0) (.loc 624 0 0) (.loc 625 0 0)) 1),(618,.var (Qd x)),(619,.var (Qt y)),(620,.var (Qe j)),(621,.var (Qe u)),(622,.var [.own 615 k.length]),(623,.var (QZ i)),(624,.var (QZ w)),(625,.var [.own 616 st.2.length])]⟩) (Sum.elim (fun q e σ=>e=.ret∧σ=⟨[],[(615,.arr 4 (k.map Qk)),(616,.arr 4 (q.map Qk)),(617,.lp lpl (QaP lpf) (Qd8 (.loc 618 0 0) (.loc 619 0 0) (.loc 620 0 0) (.loc 621 0 0) (.loc 622 0 0) (.loc 623 0 0) (.loc 624 0 0) (.loc 625 0 0)) 1),(618,.var (Qd x)),(619,.var (Qt y)),(620,.var (Qe j)),(621,.var (Qe u)),(622,.var [.own 616 q.length]),(623,.var (QZ i)),(624,.var (QZ w)),(625,.var [.own 616 q.length])]⟩) (fun q e σ=>e=.exit 2∧σ=⟨[],[(615,.arr 4 (k.map Qk)),(616,.arr 4 (q.map Qk)),(617,.lp lpl (QaP lpf) (Qd8 (.loc 618 0 0) (.loc 619 0 0) (.loc 620 0 0) (.loc 621 0 0) (.loc 622 0 0) (.loc 623 0 0) (.loc 624 0 0) (.loc 625 0 0)) 1),(618,.var (Qd x)),(619,.var (Qt y)),(620,.var (Qe j)),(621,.var (Qe u)),(622,.var [.own 615 k.length]),(623,.var (QZ i)),(624,.var (QZ w)),(625,.var [.own 616 q.length])]⟩)) a4 rfl ?_ ?_
 ·rintro ⟨D,c1⟩ o σ rfl h
  refine tg_ hC [.n 6] rfl ?_
  refine bg_ h (fun E h=>Qa hC [.T,.n 2] rfl ⟨tt_,E⟩ ?_) fun E h=>Qa hC [.F,.n 2,.K [] [615,616,617,618,619,620,621,622,623,624,625]] rfl ⟨tt_,E⟩ ?_
  ·refine AK.meet (fun σ=>∃L:(List Qm),σ=⟨[(6,.loc 620 0 0),(7,.loc 621 0 0),(8,.loc 622 0 0),(12,.loc 625 0 0),(13,.sl 1 (z.map Qe)),(14,.loc 14 0 0),(16,.own 71 g.length),(74,.sl 1 (i.map QL)),(75,.I (i.length:Int)),(76,.I D)],[(14,.var (Qz f.2)),(71,.arr 1 (g.map QL)),(615,.arr 4 (k.map Qk)),(616,.arr 4 (L.map Qk)),(617,.lp lpl (QaP lpf) (Qd8 (.loc 618 0 0) (.loc 619 0 0) (.loc 620 0 0) (.loc 621 0 0) (.loc 622 0 0) (.loc 623 0 0) (.loc 624 0 0) (.loc 625 0 0)) 1),(618,.var (Qd x)),(619,.var (Qt y)),(620,.var (Qe j)),(621,.var (Qe u)),(622,.var [.own 615 k.length]),(623,.var (QZ i)),(624,.var (QZ w)),(625,.var [.own 616 L.length])]⟩∧QcE D L=some o) ?_ ?_
   ·obtain⟨X,a5,h⟩:=Qb h
    obtain⟨b4,a6,h⟩:=Qb h
    refine Qa hC [.n 3,.o (.row (QL X)),.n 7,.v .no [] (.agg (Qz f.2)),.n 1,.o (.c false [.d,.d] (.I b4)),.n 3] rfl ⟨⟨⟨tt_,(QT a5)⟩,rfl⟩,(Qlq _ _ a6)⟩ ?_
    refine bg_ h (fun G h=>Qa hC [.T,.n 3,.K [6,7,8,12,13,14,16,74,75,76] [14,71,615,616,617,618,619,620,621,622,623,624,625]] rfl ⟨tt_,G⟩ ?_) fun G h=>Qa hC [.F,.n 10,.K [6,7,8,12,13,14,16,18,74,75,76,84,85,86] [14,71,615,616,617,618,619,620,621,622,623,624,625]] rfl ⟨tt_,G⟩ ?_
    ·exact AK.met (ex_ _ (an_ rfl h))
    obtain⟨b5,a7,h⟩:=Qb h
    refine AK.loop (body:=(fun st=>QdP g z X j u st.1 st.2)) (fun st σ=>σ=⟨[(6,.loc 620 0 0),(7,.loc 621 0 0),(8,.loc 622 0 0),(12,.loc 625 0 0),(13,.sl 1 (z.map Qe)),(14,.loc 14 0 0),(16,.own 71 g.length),(18,.sl 1 (X.map Qe)),(74,.sl 1 (i.map QL)),(75,.I (i.length:Int)),(76,.I D),(84,.own 71 g.length),(85,.I (g.length:Int)),(86,.I st.1)],[(14,.var (Qz f.2)),(71,.arr 1 (g.map QL)),(615,.arr 4 (k.map Qk)),(616,.arr 4 (st.2.map Qk)),(617,.lp lpl (QaP lpf) (Qd8 (.loc 618 0 0) (.loc 619 0 0) (.loc 620 0 0) (.loc 621 0 0) (.loc 622 0 0) (.loc 623 0 0) (.loc 624 0 0) (.loc 625 0 0)) 1),(618,.var (Qd x)),(619,.var (Qt y)),(620,.var (Qe j)),(621,.var (Qe u)),(622,.var [.own 615 k.length]),(623,.var (QZ i)),(624,.var (QZ w)),(625,.var [.own 616 st.2.length])]⟩) (Sum.elim (fun q e σ=>e=.ret∧σ=⟨[],[(615,.arr 4 (k.map Qk)),(616,.arr 4 (q.map Qk)),(617,.lp lpl (QaP lpf) (Qd8 (.loc 618 0 0) (.loc 619 0 0) (.loc 620 0 0) (.loc 621 0 0) (.loc 622 0 0) (.loc 623 0 0) (.loc 624 0 0) (.loc 625 0 0)) 1),(618,.var (Qd x)),(619,.var (Qt y)),(620,.var (Qe j)),(621,.var (Qe u)),(622,.var [.own 616 q.length]),(623,.var (QZ i)),(624,.var (QZ w)),(625,.var [.own 616 q.length])]⟩) (fun q e σ=>e=.exit 4∧σ=⟨[(6,.loc 620 0 0),(7,.loc 621 0 0),(8,.loc 622 0 0),(12,.loc 625 0 0),(13,.sl 1 (z.map Qe)),(14,.loc 14 0 0),(16,.own 71 g.length),(74,.sl 1 (i.map QL)),(75,.I (i.length:Int)),(76,.I D)],[(14,.var (Qz f.2)),(71,.arr 1 (g.map QL)),(615,.arr 4 (k.map Qk)),(616,.arr 4 (q.map Qk)),(617,.lp lpl (QaP lpf) (Qd8 (.loc 618 0 0) (.loc 619 0 0) (.loc 620 0 0) (.loc 621 0 0) (.loc 622 0 0) (.loc 623 0 0) (.loc 624 0 0) (.loc 625 0 0)) 1),(618,.var (Qd x)),(619,.var (Qt y)),(620,.var (Qe j)),(621,.var (Qe u)),(622,.var [.own 615 k.length]),(623,.var (QZ i)),(624,.var (QZ w)),(625,.var [.own 616 q.length])]⟩)) a7 rfl ?_ ?_
    ·rintro ⟨c2,M⟩ o σ rfl h
     refine tg_ hC [.n 6] rfl ?_
     rcases Qs h with⟨H,h⟩|⟨H,h⟩
     ·obtain⟨b6,P,h⟩:=Qb h
      obtain⟨l,a8,h⟩:=Qb h
      obtain⟨p,a9,h⟩:=Qb h
      obtain⟨t,b0,h⟩:=Qb h
      obtain⟨b1,h⟩:=QaX h
      refine Qa hC [.T,.n 7,.o (.row (QL b6)),.n 4,.K [6,7,8,12,13,14,16,18,20,74,75,76,84,85,86] [14,71,615,616,617,618,619,620,621,622,623,624,625]] rfl ⟨⟨⟨tt_,H⟩,(Qdd P rfl)⟩,(QbX (QdK P).2)⟩ ?_
      refine AK.draw2 Qq hC mixed [.N,.N,.N,.a (.cd false [.d] 1 (l.map Qe) l.length) none false,.N,.a (.cd false [.d] 1 (p.map Qe) p.length) none false,.N,.a (.cd false [.d] 1 (t.map Qe) t.length) none false,.a .no (some ([],.agg (Qk (Qm.mk j l p t)))) false,.a (.bd []) (some ([],.sl 4 (([(Qm.mk j l p t)]:List Qm).map Qk))) false,.m (.app ((M++[(Qm.mk j l p t)]).map Qk) (M++[(Qm.mk j l p t)]).length),.m .s] [] [] [6,7,8,12,13,14,16,18,74,75,76,84,85,86] [14,71,615,616,617,618,619,620,621,622,623,624,625] rfl rfl rfl ⟨⟨⟨⟨⟨⟨tt_,⟨(Qcp _ a8),Qg⟩⟩,⟨(Qcp _ a9),Qg⟩⟩,⟨(Qcp _ b0),Qg⟩⟩,rfl⟩,rfl⟩,⟨Qg,QbP b1 Qg,QaZ,QcM Qg⟩⟩ rfl (by kernel_rfl) rfl rfl rfl ?_
      refine Qa hC [.O 625 (.var [.own 616 (M++[(Qm.mk j l p t)]).length]),.n 9] rfl ⟨tt_,rfl⟩ ?_
      refine bg_ h (fun J h=>Qa hC [.T,.n 4,.O 622 (.var [.own 616 (M++[(Qm.mk j l p t)]).length]),.n 5,.K [] [615,616,617,618,619,620,621,622,623,624,625]] rfl ⟨⟨tt_,J⟩,rfl⟩ ?_) fun J h=>Qa hC [.F,.n 7,.K [6,7,8,12,13,14,16,18,74,75,76,84,85,86] [14,71,615,616,617,618,619,620,621,622,623,624,625]] rfl ⟨tt_,J⟩ ?_
      ·cases h
       exact Qar rfl (an_ rfl rfl)
      cases h
      exact Q5 rfl rfl
     refine Qa hC [.F,.n 2,.K [6,7,8,12,13,14,16,74,75,76] [14,71,615,616,617,618,619,620,621,622,623,624,625]] rfl ⟨tt_,H⟩ ?_
     cases h
     exact Q6 rfl (an_ rfl rfl)
    rcases b5 with(b7 | b8)
    ·replace h:Qj4 b7=some o:=h
     rintro e σ ⟨rfl,rfl⟩
     refine tg_ hC [.n 3,.K [] [615,616,617,618,619,620,621,622,623,624,625]] rfl ?_
     cases h
     exact Qar rfl (an_ rfl rfl)
    replace h:Qf9 D b8=some o:=h
    unfold Qf9 at h
    rintro e σ ⟨rfl,rfl⟩
    refine tg_ hC [.n 2,.K [6,7,8,12,13,14,16,74,75,76] [14,71,615,616,617,618,619,620,621,622,623,624,625]] rfl ?_
    exact AK.met (ex_ _ (an_ rfl h))
   rintro σ ⟨L,rfl,h⟩
   refine tg_ hC [.n 4,.K [6,7,8,12,13,14,16,74,75,76] [14,71,615,616,617,618,619,620,621,622,623,624,625]] rfl ?_
   cases h
   exact Q5 rfl rfl
  cases h
  exact Q6 rfl (an_ rfl rfl)
 rcases b3 with(b9 | c0)
 ·replace h:Qj5 b9=some r:=h
  rintro e σ ⟨rfl,rfl⟩
  refine tg_ hC [.n 2,.K [] [615,616,617,618,619,620,621,622,623,624,625]] rfl ?_
  cases h
  refine AK.done ?_
  exact ex_ _ (an_ rfl (gives ⟨rfl,rfl,rfl,rfl,rfl,rfl,rfl,rfl,rfl,rfl,rfl,tt_⟩))
 replace h:Qj6 c0=some r:=h
 rintro e σ ⟨rfl,rfl⟩
 refine tg_ hC [.n 2,.K [] [615,616,617,618,619,620,621,622,623,624,625]] rfl ?_
 cases h
 refine AK.done ?_
 exact ex_ _ (an_ rfl (gives ⟨rfl,rfl,rfl,rfl,rfl,rfl,rfl,rfl,rfl,rfl,rfl,tt_⟩))
def Qa6 (c:(List QI))(a:Int):Option Int:=
 (QfO c a).bind fun b=>
 bif (!b.1)then
 some 0
 else
 (idx b.2.sizes a).bind fun d=>
 some d
theorem Qir (i j){r}(h:Qa6 i j=some r):Qc prog 134 [.sl 7 (i.map Qu),.I j] [] (Gives (.I r) []):=by
 refine Qc.walk 20 func134 rfl rfl rfl fun C hC=>?_
 obtain⟨e,f,h⟩:=Qb h
 refine Qa hC [.n 9,.o (.c false [.d,.d] (.tup [.agg (Q8 e.2),.b e.1])),.n 5,.O 5 (.var (Q8 e.2)),.n 10] rfl ⟨⟨tt_,(Qm4 _ _ f)⟩,rfl⟩ ?_
 rcases Qs h with⟨a,h⟩|⟨a,h⟩
 ·refine Qa hC [.T,.n 7] rfl ⟨tt_,a⟩ ?_
  cases h
  exact d1_ rfl rfl tt_
 obtain⟨k,g,h⟩:=Qb h
 refine Qa hC [.F,.n 7,.o (.row (Qe k)),.n 5] rfl ⟨⟨tt_,a⟩,(QT g)⟩ ?_
 cases h
 exact d1_ rfl rfl tt_
def QmB (a:(List Qm)):Option (((List Int)×(List Qm))⊕((List Qm)⊕(List Qm))):=
 some (.inr (.inr a))
def QmC (at_25:Int)(a:(List Int))(f:QB)(b:Qj):Option Bool:=
 bif (decide (0≤at_25))then
 (idx a at_25).bind fun c=>
 (idx f.Vars at_25).bind fun d=>
 (Qa6 b.Colours d.Colour).bind fun e=>
 some (decide (e≤(w64 (c+1))))
 else
 some false
def QfB (a:(List Int))(at_25:Int)(b:Bool):Option ((Int×(List Int))⊕(Int×(List Int))):=
 bif b then
 (idx a at_25).bind fun c=>
 some (.inl ((w64 (at_25-1)),(a.set at_25.toNat 0)))
 else
 some (.inr (at_25,a))
def QdS (d:QB)(b:Qj)(at_25:Int)(a:(List Int)):Option ((Int×(List Int))⊕(Int×(List Int))):=
 (QmC at_25 a d b).bind (fun c=>QfB a at_25 c)
def QfC (b:(List Qm))(at_29:Int)(a:(List Int)):Option (((List Int)×(List Qm))⊕((List Qm)⊕(List Qm))):=
 bif (decide (at_29<0))then
 some (.inr (.inl b))
 else
 (idx a at_29).bind fun c=>
 (idx a at_29).bind fun d=>
 some (.inl ((a.set at_29.toNat (w64 (c+1))),b))
def QfD (d:QB)(b:Qj)(a:(List Int))(c:(List Qm)):Option (((List Int)×(List Qm))⊕((List Qm)⊕(List Qm))):=
 (QK (fun st=>QdS d b st.1 st.2) ((w64 ((a.length:Int)-1)),a)).bind (fun q=>QfC c q.1 q.2)
def QfE (e:Qj)(f:QMk)(g:Int)(h:Int)(i:(List Qm))(j:QLL)(k:QLL)(l:QB)(b:Qj)(a:(List Int))(c:(List Qm)):Option (((List Int)×(List Qm))⊕((List Qm)⊕(List Qm))):=
 (QaK a).bind fun d=>
 (Qe5 e f g h i j k c d).bind (Sum.elim (fun q=>QmB q) (fun q=>QfD l b a q))
def QmD (a:(List Qm)):Option ((List Qm)⊕(List Qm)):=
 some (.inl a)
def QmE (a:(List Qm)):Option ((List Qm)⊕(List Qm)):=
 some (.inr a)
def Qhr (c:Qj)(d:QMk)(e:Int)(f:Int)(g:(List Qm))(h:QLL)(i:QLL)(j:(List Qm))(a:QB)(b:Qj):Option ((List Qm)⊕(List Qm)):=
 (chk (decide (0≤(a.Vars.length:Int))&&decide ((a.Vars.length:Int)≤(a.Vars.length:Int))&&decide ((a.Vars.length:Int)≤4294967296))).bind fun _=>
 (QK (fun st=>QfE c d e f g h i a b st.1 st.2) ((List.replicate (a.Vars.length:Int).toNat (0:Int)),j)).bind (Sum.elim (fun q=>QmD q) (fun q=>QmE q))
theorem QmF (lpl lpf:Nat)(l:Qj)(m:QMk)(p:Int)(s:Int)(j:(List Qm))(t:QLL)(u:QLL)(l8:(List Qm))(k:QB)(f:Qj){r:((List Qm)⊕(List Qm))}(h:Qhr l m p s j t u l8 k f=some r):Qc prog 152 [.clo (.yield lpl) [] [],.loc 626 0 0,.loc 627 0 0] [(617,.lp lpl (QaP lpf) (Qd8 (.loc 618 0 0) (.loc 619 0 0) (.loc 620 0 0) (.loc 621 0 0) (.loc 622 0 0) (.loc 623 0 0) (.loc 624 0 0) (.loc 625 0 0)) 0),(618,.var (Qd l)),(619,.var (Qt m)),(620,.var (Qe p)),(621,.var (Qe s)),(622,.var [.own 615 j.length]),(615,.arr 4 (j.map Qk)),(623,.var (QZ t)),(624,.var (QZ u)),(625,.var [.own 616 l8.length]),(616,.arr 4 (l8.map Qk)),(626,.var (Qh k)),(627,.var (Qd f))] ((Sum.elim (fun q=>(Gives (.tup []) [(615,.arr 4 (j.map Qk)),(616,.arr 4 (q.map Qk)),(617,.lp lpl (QaP lpf) (Qd8 (.loc 618 0 0) (.loc 619 0 0) (.loc 620 0 0) (.loc 621 0 0) (.loc 622 0 0) (.loc 623 0 0) (.loc 624 0 0) (.loc 625 0 0)) 0),(618,.var (Qd l)),(619,.var (Qt m)),(620,.var (Qe p)),(621,.var (Qe s)),(622,.var [.own 615 j.length]),(623,.var (QZ t)),(624,.var (QZ u)),(625,.var [.own 616 q.length]),(626,.var (Qh k)),(627,.var (Qd f))])) (fun q=>(Gives (.tup []) [(615,.arr 4 (j.map Qk)),(616,.arr 4 (q.map Qk)),(617,.lp lpl (QaP lpf) (Qd8 (.loc 618 0 0) (.loc 619 0 0) (.loc 620 0 0) (.loc 621 0 0) (.loc 622 0 0) (.loc 623 0 0) (.loc 624 0 0) (.loc 625 0 0)) 2),(618,.var (Qd l)),(619,.var (Qt m)),(620,.var (Qe p)),(621,.var (Qe s)),(622,.var [.own 616 q.length]),(623,.var (QZ t)),(624,.var (QZ u)),(625,.var [.own 616 q.length]),(626,.var (Qh k)),(627,.var (Qd f))]))) r):=by
 refine Qc.walk 50 func152 rfl rfl rfl fun C hC=>?_
 obtain⟨U,h⟩:=QaX h
 refine Qa hC [.n 4,.o (.ln k.Vars.length),.o (.rows ((List.replicate (k.Vars.length:Int).toNat (0:Int)).map Qe)),.S 9 (.own 9 (List.replicate (k.Vars.length:Int).toNat (0:Int)).length),.n 4,.K [0,1,2,4] [9,615,616,617,618,619,620,621,622,623,624,625,626,627]] rfl ⟨⟨⟨tt_,Qg⟩,⟨U,QAA rfl⟩⟩,(by simp)⟩ ?_
 obtain⟨a3,W,h⟩:=Qb h
 refine AK.loop (body:=(fun st=>QfE l m p s j t u k f st.1 st.2)) (fun st σ=>σ=⟨[(0,.clo (.yield lpl) [] []),(1,.loc 626 0 0),(2,.loc 627 0 0),(4,.own 9 st.1.length)],[(9,.arr 1 (st.1.map Qe)),(615,.arr 4 (j.map Qk)),(616,.arr 4 (st.2.map Qk)),(617,.lp lpl (QaP lpf) (Qd8 (.loc 618 0 0) (.loc 619 0 0) (.loc 620 0 0) (.loc 621 0 0) (.loc 622 0 0) (.loc 623 0 0) (.loc 624 0 0) (.loc 625 0 0)) 0),(618,.var (Qd l)),(619,.var (Qt m)),(620,.var (Qe p)),(621,.var (Qe s)),(622,.var [.own 615 j.length]),(623,.var (QZ t)),(624,.var (QZ u)),(625,.var [.own 616 st.2.length]),(626,.var (Qh k)),(627,.var (Qd f))]⟩) (Sum.elim (fun q e σ=>e=.ret∧σ=⟨[],[(615,.arr 4 (j.map Qk)),(616,.arr 4 (q.map Qk)),(617,.lp lpl (QaP lpf) (Qd8 (.loc 618 0 0) (.loc 619 0 0) (.loc 620 0 0) (.loc 621 0 0) (.loc 622 0 0) (.loc 623 0 0) (.loc 624 0 0) (.loc 625 0 0)) 0),(618,.var (Qd l)),(619,.var (Qt m)),(620,.var (Qe p)),(621,.var (Qe s)),(622,.var [.own 615 j.length]),(623,.var (QZ t)),(624,.var (QZ u)),(625,.var [.own 616 q.length]),(626,.var (Qh k)),(627,.var (Qd f))]⟩) (fun q e σ=>e=.ret∧σ=⟨[],[(615,.arr 4 (j.map Qk)),(616,.arr 4 (q.map Qk)),(617,.lp lpl (QaP lpf) (Qd8 (.loc 618 0 0) (.loc 619 0 0) (.loc 620 0 0) (.loc 621 0 0) (.loc 622 0 0) (.loc 623 0 0) (.loc 624 0 0) (.loc 625 0 0)) 2),(618,.var (Qd l)),(619,.var (Qt m)),(620,.var (Qe p)),(621,.var (Qe s)),(622,.var [.own 616 q.length]),(623,.var (QZ t)),(624,.var (QZ u)),(625,.var [.own 616 q.length]),(626,.var (Qh k)),(627,.var (Qd f))]⟩)) W rfl ?_ ?_
 ·rintro ⟨X,b3⟩ o σ rfl h
  obtain⟨J,Y,h⟩:=Qb h
  obtain⟨a4,B,h⟩:=Qb h
  refine Qa hC [.n 6,.o (.co true [.o (X.map Qe)] 1 (J.map Qe) J.length),.frz 12 (J.map Qe) [12] []] rfl ⟨⟨tt_,⟨(Qrh rfl),⟨(Qcp _ Y),Qg,.inr (QAX _)⟩⟩⟩,⟨tt_,(Qb7 Qg)⟩⟩ ?_
  rcases a4 with(v | i)
  ·replace h:QmB v=some o:=h
   refine Qa hC [.x (fun σ=>(σ.after [615,616] [(615,.arr 4 (j.map Qk)),(616,.arr 4 (v.map Qk)),(617,.lp lpl (QaP lpf) (Qd8 (.loc 618 0 0) (.loc 619 0 0) (.loc 620 0 0) (.loc 621 0 0) (.loc 622 0 0) (.loc 623 0 0) (.loc 624 0 0) (.loc 625 0 0)) 2),(618,.var (Qd l)),(619,.var (Qt m)),(620,.var (Qe p)),(621,.var (Qe s)),(622,.var [.own 616 v.length]),(623,.var (QZ t)),(624,.var (QZ u)),(625,.var [.own 616 v.length])]).put 13 (.b false)),.n 7,.K [] [615,616,617,618,619,620,621,622,623,624,625,626,627]] rfl ⟨tt_,(Stp.yieldV (b:=617) (M:=[(617,617),(618,618),(619,619),(620,620),(621,621),(622,622),(615,615),(623,623),(624,624),(625,625),(616,616)]) (N:=[(615,615),(616,616),(617,617),(618,618),(619,619),(620,620),(621,621),(622,622),(623,623),(624,624),(625,625)]) (dead:=[615,616]) (ms:=[.d,.d,.d,.d,.d,.d,.d,.d,.d,.d,.d,.d,.d,.d,.d,.d,.d,.d,.d,.d,.d,.d,.d,.d,.d,.d,.d,.d,.d,.d,.d,.d,.d,.d,.d,.d,.d,.d,.d,.d,.d,.d,.d,.d,.d,.d,.d,.d,.d,.d,.d,.d,.d,.d,.d,.d,.d,.d,.d,.d,.d,.d,.d,.d,.d,.d,.d,.d,.d,.d,.d,.d,.d,.d,.d,.d,.d,.d,.d,.d,.d,.d,.d,.d,.d,.d,.d,.d,.d,.d,.d,.d,.d,.d,.d,.d,.d,.d,.d,.d,.d,.d,.d,.d,.d,.d,.d,.d,.d]) (outs:=[(615,.arr 4 (j.map Qk)),(616,.arr 4 (v.map Qk)),(617,.lp lpl (QaP lpf) (Qd8 (.loc 618 0 0) (.loc 619 0 0) (.loc 620 0 0) (.loc 621 0 0) (.loc 622 0 0) (.loc 623 0 0) (.loc 624 0 0) (.loc 625 0 0)) 2),(618,.var (Qd l)),(619,.var (Qt m)),(620,.var (Qe p)),(621,.var (Qe s)),(622,.var [.own 616 v.length]),(623,.var (QZ t)),(624,.var (QZ u)),(625,.var [.own 616 v.length])]) (r:=.b false) rfl rfl rfl rfl rfl rfl rfl (QO hC.n rfl) hC.g rfl rfl (Qj7 _ _ _ _ _ _ _ _ _ _ _ B))⟩ ?_
   cases h
   exact Qar rfl (an_ rfl rfl)
  replace h:QfD k f X i=some o:=h
  refine Qa hC [.x (fun σ=>(σ.after [615,616] [(615,.arr 4 (j.map Qk)),(616,.arr 4 (i.map Qk)),(617,.lp lpl (QaP lpf) (Qd8 (.loc 618 0 0) (.loc 619 0 0) (.loc 620 0 0) (.loc 621 0 0) (.loc 622 0 0) (.loc 623 0 0) (.loc 624 0 0) (.loc 625 0 0)) 0),(618,.var (Qd l)),(619,.var (Qt m)),(620,.var (Qe p)),(621,.var (Qe s)),(622,.var [.own 615 j.length]),(623,.var (QZ t)),(624,.var (QZ u)),(625,.var [.own 616 i.length])]).put 13 (.b true)),.n 16,.K [0,1,2,4,5] [9,615,616,617,618,619,620,621,622,623,624,625,626,627]] rfl ⟨tt_,(Stp.yieldV (b:=617) (M:=[(617,617),(618,618),(619,619),(620,620),(621,621),(622,622),(615,615),(623,623),(624,624),(625,625),(616,616)]) (N:=[(615,615),(616,616),(617,617),(618,618),(619,619),(620,620),(621,621),(622,622),(623,623),(624,624),(625,625)]) (dead:=[615,616]) (ms:=[.d,.d,.d,.d,.d,.d,.d,.d,.d,.d,.d,.d,.d,.d,.d,.d,.d,.d,.d,.d,.d,.d,.d,.d,.d,.d,.d,.d,.d,.d,.d,.d,.d,.d,.d,.d,.d,.d,.d,.d,.d,.d,.d,.d,.d,.d,.d,.d,.d,.d,.d,.d,.d,.d,.d,.d,.d,.d,.d,.d,.d,.d,.d,.d,.d,.d,.d,.d,.d,.d,.d,.d,.d,.d,.d,.d,.d,.d,.d,.d,.d,.d,.d,.d,.d,.d,.d,.d,.d,.d,.d,.d,.d,.d,.d,.d,.d,.d,.d,.d,.d,.d,.d,.d,.d,.d,.d,.d,.d]) (outs:=[(615,.arr 4 (j.map Qk)),(616,.arr 4 (i.map Qk)),(617,.lp lpl (QaP lpf) (Qd8 (.loc 618 0 0) (.loc 619 0 0) (.loc 620 0 0) (.loc 621 0 0) (.loc 622 0 0) (.loc 623 0 0) (.loc 624 0 0) (.loc 625 0 0)) 0),(618,.var (Qd l)),(619,.var (Qt m)),(620,.var (Qe p)),(621,.var (Qe s)),(622,.var [.own 615 j.length]),(623,.var (QZ t)),(624,.var (QZ u)),(625,.var [.own 616 i.length])]) (r:=.b true) rfl rfl rfl rfl rfl rfl rfl (QO hC.n rfl) hC.g rfl rfl (Qj7 _ _ _ _ _ _ _ _ _ _ _ B))⟩ ?_
  obtain⟨a5,Z,h⟩:=Qb h
  refine AK.loop (body:=(fun st=>QdS k f st.1 st.2)) (fun st σ=>σ=⟨[(0,.clo (.yield lpl) [] []),(1,.loc 626 0 0),(2,.loc 627 0 0),(4,.own 9 st.2.length),(5,.I st.1)],[(9,.arr 1 (st.2.map Qe)),(615,.arr 4 (j.map Qk)),(616,.arr 4 (i.map Qk)),(617,.lp lpl (QaP lpf) (Qd8 (.loc 618 0 0) (.loc 619 0 0) (.loc 620 0 0) (.loc 621 0 0) (.loc 622 0 0) (.loc 623 0 0) (.loc 624 0 0) (.loc 625 0 0)) 0),(618,.var (Qd l)),(619,.var (Qt m)),(620,.var (Qe p)),(621,.var (Qe s)),(622,.var [.own 615 j.length]),(623,.var (QZ t)),(624,.var (QZ u)),(625,.var [.own 616 i.length]),(626,.var (Qh k)),(627,.var (Qd f))]⟩) (fun q e σ=>e=.exit 2∧σ=⟨[(0,.clo (.yield lpl) [] []),(1,.loc 626 0 0),(2,.loc 627 0 0),(4,.own 9 q.2.length),(5,.I q.1)],[(9,.arr 1 (q.2.map Qe)),(615,.arr 4 (j.map Qk)),(616,.arr 4 (i.map Qk)),(617,.lp lpl (QaP lpf) (Qd8 (.loc 618 0 0) (.loc 619 0 0) (.loc 620 0 0) (.loc 621 0 0) (.loc 622 0 0) (.loc 623 0 0) (.loc 624 0 0) (.loc 625 0 0)) 0),(618,.var (Qd l)),(619,.var (Qt m)),(620,.var (Qe p)),(621,.var (Qe s)),(622,.var [.own 615 j.length]),(623,.var (QZ t)),(624,.var (QZ u)),(625,.var [.own 616 i.length]),(626,.var (Qh k)),(627,.var (Qd f))]⟩) Z rfl ?_ ?_
  ·rintro ⟨at_25,w⟩ o σ rfl h
   refine tg_ hC [.n 2] rfl ?_
   obtain⟨L,a0,h⟩:=Qb h
   replace h:QfB w at_25 L=some o:=h
   refine AK.meetX (fun σ=>σ=⟨[(0,.clo (.yield lpl) [] []),(1,.loc 626 0 0),(2,.loc 627 0 0),(4,.own 9 w.length),(5,.I at_25),(36,.b L)],[(9,.arr 1 (w.map Qe)),(615,.arr 4 (j.map Qk)),(616,.arr 4 (i.map Qk)),(617,.lp lpl (QaP lpf) (Qd8 (.loc 618 0 0) (.loc 619 0 0) (.loc 620 0 0) (.loc 621 0 0) (.loc 622 0 0) (.loc 623 0 0) (.loc 624 0 0) (.loc 625 0 0)) 0),(618,.var (Qd l)),(619,.var (Qt m)),(620,.var (Qe p)),(621,.var (Qe s)),(622,.var [.own 615 j.length]),(623,.var (QZ t)),(624,.var (QZ u)),(625,.var [.own 616 i.length]),(626,.var (Qh k)),(627,.var (Qd f))]⟩) ?_ ?_
   ·replace h:=a0
    refine tg_ hC [.K [0,1,2,4,5] [9,615,616,617,618,619,620,621,622,623,624,625,626,627]] rfl ?_
    rcases Qs h with⟨y,h⟩|⟨y,h⟩
    ·obtain⟨a6,D,h⟩:=Qb h
     obtain⟨a7,a1,h⟩:=Qb h
     obtain⟨a8,a2,h⟩:=Qb h
     refine AK.draw2 Qq hC mixed [.N,.N,.a .no (some ([],.b true)) false,.N,.N,.N,.a (.row (Qe a6)) none false,.N,.N,.N,.N,.N,.N,.a (.row (QS a7)) none false,.N,.N,.a (.c false [.d,.d] (.I a8)) none false,.N,.N] [] [] [0,1,2,4,5,36] [9,615,616,617,618,619,620,621,622,623,624,625,626,627] rfl rfl rfl ⟨⟨⟨⟨(tc_ y),(Qdd D rfl)⟩,(QbX (QdK D).2)⟩,(QT a1)⟩,(Qir _ _ a2)⟩ rfl (by kernel_rfl) rfl rfl rfl ?_
     refine tg_ hC [.K [0,1,2,4,5,36] [9,615,616,617,618,619,620,621,622,623,624,625,626,627]] rfl ?_
     cases h
     exact AK.met rfl
    refine AK.draw2 Qq hC mixed [.N,.N,.a .no (some ([],.b false)) false,.N,.N,.N,.N,.N,.N,.N,.N,.N,.N,.N,.N,.N,.N,.N,.N] [] [] [0,1,2,4,5,36] [9,615,616,617,618,619,620,621,622,623,624,625,626,627] rfl rfl rfl (tc_ y) rfl (by kernel_rfl) rfl rfl rfl ?_
    refine tg_ hC [.K [0,1,2,4,5,36] [9,615,616,617,618,619,620,621,622,623,624,625,626,627]] rfl ?_
    cases h
    exact AK.met rfl
   rintro σ rfl
   replace h:QfB w at_25 L=some o:=h
   refine tg_ hC [.n 1] rfl ?_
   rcases Qs h with⟨z,h⟩|⟨z,h⟩
   ·obtain⟨a9,E,h⟩:=Qb h
    refine Qa hC [.T,.n 8,.st (Qe a9) ((w.set at_25.toNat 0).map Qe),.n 8,.S 4 (.own 9 (w.set at_25.toNat 0).length),.K [0,1,2,4,5] [9,615,616,617,618,619,620,621,622,623,624,625,626,627]] rfl ⟨⟨⟨⟨tt_,z⟩,(Qdd E rfl)⟩,⟨(QbX (QdK E).2),Qmi rfl⟩⟩,(congrArg (fun n=>V.own 9 n) (by simp))⟩ ?_
    cases h
    exact Q5 rfl rfl
   refine Qa hC [.F,.n 2,.K [0,1,2,4,5] [9,615,616,617,618,619,620,621,622,623,624,625,626,627]] rfl ⟨tt_,z⟩ ?_
   cases h
   exact Q6 rfl (an_ rfl rfl)
  obtain⟨at_29,O⟩:=a5
  replace h:QfC i at_29 O=some o:=h
  rintro e σ ⟨rfl,rfl⟩
  refine tg_ hC [.n 9] rfl ?_
  rcases Qs h with⟨A,h⟩|⟨A,h⟩
  ·refine Qa hC [.T,.n 3,.K [] [615,616,617,618,619,620,621,622,623,624,625,626,627]] rfl ⟨tt_,A⟩ ?_
   cases h
   exact Qar rfl (an_ rfl rfl)
  obtain⟨P,G,h⟩:=Qb h
  obtain⟨b0,H,h⟩:=Qb h
  refine Qa hC [.F,.n 6,.o (.row (Qe P)),.n 2,.st (Qe b0) ((O.set at_29.toNat (w64 (P+1))).map Qe),.n 2,.S 4 (.own 9 (O.set at_29.toNat (w64 (P+1))).length),.K [0,1,2,4] [9,615,616,617,618,619,620,621,622,623,624,625,626,627]] rfl ⟨⟨⟨⟨⟨⟨tt_,A⟩,(Qdd G rfl)⟩,(QbX (QdK G).2)⟩,(Qdd H rfl)⟩,⟨(QbX (QdK H).2),Qmi rfl⟩⟩,(congrArg (fun n=>V.own 9 n) (by simp))⟩ ?_
  cases h
  exact Q5 rfl rfl
 rcases a3 with(b1 | b2)
 ·replace h:QmD b1=some r:=h
  rintro e σ ⟨rfl,rfl⟩
  refine tg_ hC [.n 1,.K [] [615,616,617,618,619,620,621,622,623,624,625,626,627]] rfl ?_
  cases h
  refine AK.done ?_
  exact ex_ [] (an_ tt_ (gives ⟨rfl,rfl,rfl,rfl,rfl,rfl,rfl,rfl,rfl,rfl,rfl,rfl,rfl,tt_⟩))
 replace h:QmE b2=some r:=h
 rintro e σ ⟨rfl,rfl⟩
 refine tg_ hC [.n 1,.K [] [615,616,617,618,619,620,621,622,623,624,625,626,627]] rfl ?_
 cases h
 refine AK.done ?_
 exact ex_ [] (an_ tt_ (gives ⟨rfl,rfl,rfl,rfl,rfl,rfl,rfl,rfl,rfl,rfl,rfl,rfl,rfl,tt_⟩))
def Qqr (a:(List Qm)):Option (List Qm):=
 some a
def Qqs (a:(List Qm)):Option (List Qm):=
 some a
def QhU (e:Qj)(h:QMk)(a:Int)(b:Int):Option (List Qm):=
 bif ((decide (a<0))||((decide ((e.Tasks.length:Int)≤a))||(decide (b<1))))then
 some ([]:List Qm)
 else
 (idx e.Tasks a).bind fun c=>
 (Qch c.Join (c.Ins.length:Int)).bind fun f=>
 (Qch c.Split (c.Outs.length:Int)).bind fun g=>
 (Qqk e c).bind fun d=>
 (Qhr e h a b ([]:List Qm) f g ([]:List Qm) d.2 d.1).bind (Sum.elim (fun q=>Qqr q) (fun q=>Qqs q))
theorem Qwi (j x c e){r}(h:QhU j x c e=some r):Qc prog 65 [.agg (Qd j),.sl 1 (x.map Qi),.I c,.I e] [] (Gives (.sl 4 (r.map Qk)) []):=by
 refine Qc.walkR 109 func65 rfl ntmps65 rfl fun C hC hR=>?_
 unfold QhU at h
 refine tg_ hC [.n 11] rfl ?_
 refine AK.meetX (fun σ=>σ=⟨[(4,.loc 4 0 0),(5,.loc 5 0 0),(6,.loc 6 0 0),(7,.loc 7 0 0),(8,.loc 8 0 0),(33,.b ((decide (c<0))||((decide ((j.Tasks.length:Int)≤c))||(decide (e<1)))))],[(4,.var (Qd j)),(5,.var (Qt x)),(6,.var (Qe c)),(7,.var (Qe e)),(8,.var [.lit (.slice none 0 0)])]⟩) ?_ ?_
 ·refine tg_ hC [.n 4] rfl ?_
  rcases Q3 (decide (c<0))with f | f
  ·refine Qa hC [.S 23 (.b true),.n 11,.S 33 (.b ((decide (c<0))||((decide ((j.Tasks.length:Int)≤c))||(decide (e<1))))),.K [4,5,6,7,8,33] [4,5,6,7,8]] rfl ⟨(tc_ f),(congrArg V.b (orT f rfl))⟩ ?_
   exact AK.met rfl
  refine Qa hC [.S 23 (.b false),.n 3,.o (.ln j.Tasks.length),.n 3] rfl ⟨(tc_ f),Qg⟩ ?_
  rcases Q3 (decide ((j.Tasks.length:Int)≤c))with k | k
  ·refine Qa hC [.S 30 (.b true),.n 4,.S 33 (.b ((decide (c<0))||((decide ((j.Tasks.length:Int)≤c))||(decide (e<1))))),.K [4,5,6,7,8,33] [4,5,6,7,8]] rfl ⟨(tc_ k),(congrArg V.b (orF f (orT k rfl)))⟩ ?_
   exact AK.met rfl
  refine Qa hC [.S 30 (.b false),.n 4,.S 33 (.b ((decide (c<0))||((decide ((j.Tasks.length:Int)≤c))||(decide (e<1))))),.K [4,5,6,7,8,33] [4,5,6,7,8]] rfl ⟨(tc_ k),(congrArg V.b (orF f (orF k rfl)))⟩ ?_
  exact AK.met rfl
 rintro σ rfl
 refine tg_ hC [.n 1] rfl ?_
 rcases Qs h with⟨l,h⟩|⟨l,h⟩
 ·refine Qa hC [.T,.n 3,.O 8 (.var [.lit (.slice none 0 0)]),.n 4,.denilO 8 [some 4],.O 8 (.var (Qz4 ([]:List Qm))),.K [8] [8]] rfl ⟨⟨⟨tt_,l⟩,rfl⟩,rfl⟩ ?_
  cases h
  exact AK.done (ex_ [_] (an_ (an_ (ex_ _ (ex_ _ (an_ rfl (an_ rfl (Or.inr (an_ (Qq.ag rfl) rfl)))))) tt_) (gives tt_)))
 obtain⟨g,y,h⟩:=Qb h
 obtain⟨p,z,h⟩:=Qb h
 obtain⟨q,A,h⟩:=Qb h
 refine Qa hC [.F,.n 7,.o (.row (Qh g)),.v .no [] (.agg (Qh g)),.n 2,.O 9 (.var (Qh g)),.n 3,.K [4,5,6,7,8,9] [4,5,6,7,8,9]] rfl ⟨⟨⟨⟨tt_,l⟩,(QT y)⟩,rfl⟩,rfl⟩ ?_
 refine AK.draw2 Qq hC mixed [.N,.N,.N,.N,.a (.ln g.Ins.length) none false,.a (.cd false [.d,.d] 1 (p.map QL) p.length) none false,.N,.N,.N,.N,.a (.ln g.Outs.length) none false,.a (.cd false [.d,.d] 1 (q.map QL) q.length) none false,.N,.N,.m .s,.m .s] [] [] [4,5,6,7,8,9,10,11] [4,5,6,7,8,9,10,11] rfl rfl rfl ⟨⟨⟨⟨tt_,Qg⟩,⟨(Qk3 _ _ z),Qg⟩⟩,Qg⟩,⟨(Qk3 _ _ A),Qg⟩⟩ rfl (by kernel_rfl) rfl rfl rfl ?_
 obtain⟨i,B,h⟩:=Qb h
 refine Qa hC [.O 10 (.var (QZ p)),.O 11 (.var (QZ q)),.n 9,.v .no [] (.agg (Qd j)),.v .no [] (.agg (Qh g)),.cm (.fn) [] [(53,2),(610,3)] [] [.d,.d] [(2,.var (Qd i.1)),(3,.var (Qh i.2))] (.clo (.func 152) [] [.loc 3 0 0,.loc 2 0 0]),.n 3,.K [4,5,6,7,8,10,11,12,53] [4,5,6,7,8,10,11,12,53,610]] rfl ⟨⟨⟨⟨⟨tt_,rfl⟩,rfl⟩,rfl⟩,rfl⟩,(QtM _ _ B)⟩ ?_
 obtain⟨D,w,h⟩:=Qb h
 refine Qa hC [.adoptO 8 0 606 4,.O 606 (.arr 4 (([]:List Qm).map Qk)),.O 8 (.var [.own 606 ([]:List Qm).length]),.adoptO 12 0 607 4,.O 607 (.arr 4 (([]:List Qm).map Qk)),.O 12 (.var [.own 607 ([]:List Qm).length])] rfl ⟨⟨⟨⟨tt_,rfl⟩,rfl⟩,rfl⟩,rfl⟩ ?_
 rcases D with(t | u)
 ·replace h:Qqr t=some r:=h
  refine AK.rangeF 614 [4,5,6,7,8,10,11,12] [(617,614),(618,4),(619,5),(620,6),(621,7),(622,8),(615,606),(623,10),(624,11),(625,12),(616,607),(626,610),(627,53)] [(606,615),(607,616),(614,617),(4,618),(5,619),(6,620),(7,621),(8,622),(10,623),(11,624),(12,625),(610,626),(53,627)] [606,607] [.d,.d,.d] QaP hC hR (fun _=>rfl) rfl rfl rfl rfl fun lpl lpf=>?_
  refine ex_ [(615,.arr 4 (([]:List Qm).map Qk)),(616,.arr 4 (t.map Qk)),(617,.lp lpl (QaP lpf) (Qd8 (.loc 618 0 0) (.loc 619 0 0) (.loc 620 0 0) (.loc 621 0 0) (.loc 622 0 0) (.loc 623 0 0) (.loc 624 0 0) (.loc 625 0 0)) 0),(618,.var (Qd j)),(619,.var (Qt x)),(620,.var (Qe c)),(621,.var (Qe e)),(622,.var [.own 615 ([]:List Qm).length]),(623,.var (QZ p)),(624,.var (QZ q)),(625,.var [.own 616 t.length]),(626,.var (Qh i.2)),(627,.var (Qd i.1))] (ex_ (.tup []) (ex_ _ (ex_ _ (ex_ (Qd8 (.loc 4 0 0) (.loc 5 0 0) (.loc 6 0 0) (.loc 7 0 0) (.loc 8 0 0) (.loc 10 0 0) (.loc 11 0 0) (.loc 12 0 0)) (ex_ 0 (an_ rfl ?_))))))
  refine an_ (QmF _ _ _ _ _ _ _ _ _ _ _ _ w) (an_ rfl (an_ (bne_iff_ne.1 (show(0 != 1)=true from rfl)) ?_))
  refine QDv rfl ?_
  refine Qa hC [.n 6,.O 8 (.var [.own 607 t.length]),.n 3,.frz 607 (t.map Qk) [] [8],.K [8] [8]] rfl ⟨⟨tt_,rfl⟩,⟨tt_,⟨(Qb7 Qg),tt_⟩⟩⟩ ?_
  cases h
  exact AK.done (ex_ [_] (an_ (an_ (ex_ _ (ex_ _ (an_ rfl (an_ rfl (Or.inr (an_ (Qq.ag rfl) rfl)))))) tt_) (gives tt_)))
 replace h:Qqs u=some r:=h
 refine AK.rangeF 614 [4,5,6,7,8,10,11,12] [(617,614),(618,4),(619,5),(620,6),(621,7),(622,8),(615,606),(623,10),(624,11),(625,12),(616,607),(626,610),(627,53)] [(606,615),(607,616),(614,617),(4,618),(5,619),(6,620),(7,621),(8,622),(10,623),(11,624),(12,625),(610,626),(53,627)] [606,607] [.d,.d,.d] QaP hC hR (fun _=>rfl) rfl rfl rfl rfl fun lpl lpf=>?_
 refine ex_ [(615,.arr 4 (([]:List Qm).map Qk)),(616,.arr 4 (u.map Qk)),(617,.lp lpl (QaP lpf) (Qd8 (.loc 618 0 0) (.loc 619 0 0) (.loc 620 0 0) (.loc 621 0 0) (.loc 622 0 0) (.loc 623 0 0) (.loc 624 0 0) (.loc 625 0 0)) 2),(618,.var (Qd j)),(619,.var (Qt x)),(620,.var (Qe c)),(621,.var (Qe e)),(622,.var [.own 616 u.length]),(623,.var (QZ p)),(624,.var (QZ q)),(625,.var [.own 616 u.length]),(626,.var (Qh i.2)),(627,.var (Qd i.1))] (ex_ (.tup []) (ex_ _ (ex_ _ (ex_ (Qd8 (.loc 4 0 0) (.loc 5 0 0) (.loc 6 0 0) (.loc 7 0 0) (.loc 8 0 0) (.loc 10 0 0) (.loc 11 0 0) (.loc 12 0 0)) (ex_ 2 (an_ rfl ?_))))))
 refine an_ (QmF _ _ _ _ _ _ _ _ _ _ _ _ w) (an_ rfl (an_ (bne_iff_ne.1 (show(2 != 1)=true from rfl)) ?_))
 refine QEM rfl ?_
 refine Qa hC [.n 3,.frz 607 (u.map Qk) [] [8],.K [8] [8]] rfl ⟨tt_,⟨tt_,⟨(Qb7 Qg),tt_⟩⟩⟩ ?_
 cases h
 exact AK.done (ex_ [_] (an_ (an_ (ex_ _ (ex_ _ (an_ rfl (an_ rfl (Or.inr (an_ (Qq.ag rfl) rfl)))))) tt_) (gives tt_)))
def QlC (e:Qj)(f:QMk)(a:Int)(d:Int)(c:(List Qm)):Option ((Int×(List Qm))⊕(List Qm)):=
 bif (decide (d<(e.Tasks.length:Int)))then
 (QhU e f d (w64 (a-(c.length:Int)))).bind fun b=>
 (chk (decide (c.length+b.length≤4294967296))).bind fun _=>
 some (.inl ((w64 (d+1)),(c++b)))
 else
 some (.inr c)
def QsW (a:(List Qm)):Option (List Qm):=
 some a
def QkA (b:Qj)(c:QMk)(a:Int):Option (List Qm):=
 (QK (fun st=>QlC b c a st.1 st.2) (0,([]:List Qm))).bind (fun q=>QsW q)
theorem QsX (f l a){r}(h:QkA f l a=some r):Qc prog 36 [.agg (Qd f),.sl 1 (l.map Qi),.I a] [] (Gives (.own 600 r.length) [(600,.arr 4 (r.map Qk))]):=by
 refine Qc.walk 27 func36 rfl rfl rfl fun C hC=>?_
 refine Qa hC [.n 16,.o (.ln f.Tasks.length),.n 4,.adopt 7 15 4,.O 15 (.arr 4 (([]:List Qm).map Qk)),.S 7 (.own 15 ([]:List Qm).length),.K [1,2,3,7,11,12] [3,15]] rfl ⟨⟨⟨tt_,Qg⟩,rfl⟩,(congrArg (fun n=>V.own 15 n) (by simp))⟩ ?_
 obtain⟨m,i,h⟩:=Qb h
 refine AK.loop (body:=(fun st=>QlC f l a st.1 st.2)) (fun st σ=>σ=⟨[(1,.sl 1 (l.map Qi)),(2,.I a),(3,.loc 3 0 0),(7,.own 15 st.2.length),(11,.I (f.Tasks.length:Int)),(12,.I st.1)],[(3,.var (Qd f)),(15,.arr 4 (st.2.map Qk))]⟩) (fun q e σ=>e=.exit 0∧σ=⟨[(7,.own 15 q.length)],[(15,.arr 4 (q.map Qk))]⟩) i rfl ?_ ?_
 ·rintro ⟨s,p⟩ o σ rfl h
  refine tg_ hC [.n 6] rfl ?_
  rcases Qs h with⟨b,h⟩|⟨b,h⟩
  ·obtain⟨g,j,h⟩:=Qb h
   obtain⟨k,h⟩:=QaX h
   refine Qa hC [.T,.n 12,.v .no [] (.agg (Qd f)),.n 6,.o (.c false [.d,.d,.d,.d] (.sl 4 (g.map Qk))),.app ((p++g).map Qk) (p++g).length,.n 8,.K [1,2,3,7,11,12] [3,15]] rfl ⟨⟨⟨⟨tt_,b⟩,rfl⟩,(Qwi _ _ _ _ j)⟩,⟨Qg,QbP k Qg,QaZ,QcM Qg⟩⟩ ?_
   cases h
   exact Q5 rfl rfl
  refine Qa hC [.F,.n 2,.K [7] [15]] rfl ⟨tt_,b⟩ ?_
  cases h
  exact Q6 rfl (an_ rfl rfl)
 replace h:QsW m=some r:=h
 rintro e σ ⟨rfl,rfl⟩
 refine tg_ hC [.n 9,.K [6] [15],.ren 15 600] rfl ?_
 cases h
 exact d1_ rfl rfl ⟨rfl,tt_⟩

end Go.Proofs
