/- What functions of the program do, as functions over plain data, and the walks that show it: printed by a program. -/
import Derived.Test.YtmhljalpjhdpeaaGreatDoorM1V3
import Derived.Test.YtmhljalpjhdpeaaGreatDoorProg
set_option linter.unusedVariables false
set_option linter.unusedSimpArgs false
set_option linter.unusedSectionVars false
set_option linter.deprecated false
set_option maxRecDepth 100000
set_option maxHeartbeats 4000000
noncomputable section
namespace Go.Proofs
open Go Go.RowKit Go.Vm Go.Proofs.Tryz
structure QD where
 Name:ByteArray
 Kind:Int
 Lo:Int
 Hi:Int
 Names:(List ByteArray)
 First:Int
 Then:Int
structure Q4 where
 Name:ByteArray
 Colour:Int
 First:(List (Int×Int))
structure Qaw where
 Name:ByteArray
 Colour:Int
structure Qh where
 Kind:Int
 Num:Int
 Kids:(List Qh)
structure Qat where
 Place:Int
 Expr:Qh
structure QF where
 Name:ByteArray
 Vars:(List Qaw)
 Guard:Qh
 Join:Int
 Split:Int
 Ins:(List Qat)
 Outs:(List Qat)
 Cancel:(List Int)
 After:Int
 Many:(Int×Int×Int)
structure Qn where
 Colours:(List QD)
 Places:(List Q4)
 Tasks:(List QF)
 From:Int
 To:Int
structure Qi where
 Task:Int
 Vars:(List Int)
 Ins:(List Int)
 Outs:(List Int)
structure QM where
 net:Qn
 m:(List (List (Int×Int)))
 task:QF
 env:(List Int)
structure QaA where
 all:(List QD)
 sizes:(List Int)
 k:Int
structure Qe6 where
 Kind:Int
 At:Int
def Qcx (x:ByteArray):List V:=[.s x]
def Qe (x:Int):List V:=[.i .i64 x]
theorem QBk (l:List Int):∀r∈l.map Qe,∀v∈r,v.sca=true:=QCS (fun _=>rfl) l
def QDt (x:(List ByteArray)):List V:=[.sl 1 (x.map Qcx)]
def Qq (x:QD):List V:=[.s x.Name,.i .i64 x.Kind,.i .i64 x.Lo,.i .i64 x.Hi,.sl 1 (x.Names.map Qcx),.i .i64 x.First,.i .i64 x.Then]
def Qzc (x:(List QD)):List V:=[.sl 7 (x.map Qq)]
def Qp (x:(Int×Int)):List V:=[.i .i64 x.1,.i .i64 x.2]
def Qs (x:(List (Int×Int))):List V:=[.sl 2 (x.map Qp)]
def QC (x:Q4):List V:=[.s x.Name,.i .i64 x.Colour,.sl 2 (x.First.map Qp)]
def QzI (x:(List Q4)):List V:=[.sl 3 (x.map QC)]
def QO (x:Qaw):List V:=[.s x.Name,.i .i64 x.Colour]
def Qcm (x:(List Qaw)):List V:=[.sl 2 (x.map QO)]
mutual
def QsD : Qh->List V
 | ⟨x0,x1,x2⟩=>[.i .i64 x0,.i .i64 x1,.sl 3 (Qbg x2)]
def Qbg : List Qh->List (List V)
 | []=>[]
 | e::es=>QsD e::Qbg es
end
def Qk (x:Qh):List V:=[.i .i64 x.Kind,.i .i64 x.Num,.sl 3 (Qbg x.Kids)]
theorem Qyv : ∀x:Qh,QsD x=Qk x
 | ⟨x0,x1,x2⟩=>by rw [QsD];rfl
theorem Qkh : ∀l:List Qh,Qbg l=l.map Qk
 | []=>by rw [Qbg];rfl
 | e::es=>by rw [Qbg,Qkh es,Qyv];rfl
theorem Qfy (l:List Qh):(Qbg l).length=l.length:=by rw [Qkh,Qlm]
theorem Qbq {l:List Qh}{j:Int}{x:Qh}(h:idx l j=some x):0<=j/\(Qbg l)[j.toNat]? = some (Qk x):=by rw [Qkh];exact QJ h
def Q2 (x:Qat):List V:=[.i .i64 x.Place,.i .i64 x.Expr.Kind,.i .i64 x.Expr.Num,.sl 3 (Qbg x.Expr.Kids)]
def QBl (x:(List Qat)):List V:=[.sl 4 (x.map Q2)]
def Qu (x:(List Int)):List V:=[.sl 1 (x.map Qe)]
def QxF (x:(Int×Int×Int)):List V:=[.i .i64 x.1,.i .i64 x.2.1,.i .i64 x.2.2]
def Qj (x:QF):List V:=[.s x.Name,.sl 2 (x.Vars.map QO),.i .i64 x.Guard.Kind,.i .i64 x.Guard.Num,.sl 3 (Qbg x.Guard.Kids),.i .i64 x.Join,.i .i64 x.Split,.sl 4 (x.Ins.map Q2),.sl 4 (x.Outs.map Q2),.sl 1 (x.Cancel.map Qe),.i .i64 x.After,.i .i64 x.Many.1,.i .i64 x.Many.2.1,.i .i64 x.Many.2.2]
def QAw (x:(List QF)):List V:=[.sl 14 (x.map Qj)]
def Qd (x:Qn):List V:=[.sl 7 (x.Colours.map Qq),.sl 3 (x.Places.map QC),.sl 14 (x.Tasks.map Qj),.i .i64 x.From,.i .i64 x.To]
def Qw (x:Qi):List V:=[.i .i64 x.Task,.sl 1 (x.Vars.map Qe),.sl 1 (x.Ins.map Qe),.sl 1 (x.Outs.map Qe)]
def QA (β:Nat)(x:Qi):List V:=[.i .i64 x.Task,.sln β 1 (x.Vars.map Qe),.sln β 1 (x.Ins.map Qe),.sln β 1 (x.Outs.map Qe)]
theorem QAx (β:Nat)(x:Qi):Qzb β (QA β x):=⟨rfl,⟨rfl,fun r hr v hv=>by obtain⟨y,_,rfl⟩:=QaE.1 hr;simp only [Qe,QaK,List.not_mem_nil,or_false]at hv;subst hv;rfl⟩,⟨rfl,fun r hr v hv=>by obtain⟨y,_,rfl⟩:=QaE.1 hr;simp only [Qe,QaK,List.not_mem_nil,or_false]at hv;subst hv;rfl⟩,⟨rfl,fun r hr v hv=>by obtain⟨y,_,rfl⟩:=QaE.1 hr;simp only [Qe,QaK,List.not_mem_nil,or_false]at hv;subst hv;rfl⟩,trivial⟩
def Qao (x:(List (List (Int×Int)))):List V:=[.sl 1 (x.map Qs)]
def QV (x:(List (List Int))):List V:=[.sl 1 (x.map Qu)]
def Qx (x:QM):List V:=[.sl 7 (x.net.Colours.map Qq),.sl 3 (x.net.Places.map QC),.sl 14 (x.net.Tasks.map Qj),.i .i64 x.net.From,.i .i64 x.net.To,.sl 1 (x.m.map Qs),.s x.task.Name,.sl 2 (x.task.Vars.map QO),.i .i64 x.task.Guard.Kind,.i .i64 x.task.Guard.Num,.sl 3 (Qbg x.task.Guard.Kids),.i .i64 x.task.Join,.i .i64 x.task.Split,.sl 4 (x.task.Ins.map Q2),.sl 4 (x.task.Outs.map Q2),.sl 1 (x.task.Cancel.map Qe),.i .i64 x.task.After,.i .i64 x.task.Many.1,.i .i64 x.task.Many.2.1,.i .i64 x.task.Many.2.2,.sl 1 (x.env.map Qe)]
def Q6 (x:QaA):List V:=[.sl 7 (x.all.map Qq),.sl 1 (x.sizes.map Qe),.i .i64 x.k]
def QAy (x:(List Qi)):List V:=[.sl 4 (x.map Qw)]
def QdB (x:Qe6):List V:=[.i .i64 x.Kind,.i .i64 x.At]
def QfW (fn:Nat):QeS:=QDo Tryz.f192 0 fn
def Qbr (fn:Nat):QeS:=QDo Tryz.f9 0 fn
theorem QDR (a0 a1 a2 b0 b1 b2:Int):EqT Tryz.prog 50 [.int .i64 a0,.int .i64 a1,.int .i64 a2] [.int .i64 b0,.int .i64 b1,.int .i64 b2] ((a0==b0)&&((a1==b1)&&(a2==b2))):=by
 refine⟨by kernel_rfl,fun w=>?_⟩
 have u3:=Tryz.underlying3
 have g3:=Tryz.isAgg3
 have z3:=Tryz.sizeOf3
 show(Op.equalIn (9999+1) 50 (.agg #[.int .i64 a0,.int .i64 a1,.int .i64 a2]) (.agg #[.int .i64 b0,.int .i64 b1,.int .i64 b2])).run Tryz.prog w=_
 rw [Op.equalIn]
 simp only [Sem.run_bind,run_underlying Tryz.underlying50,Result.andThen_ok]
 simp only [Std.Legacy.Range.forIn_eq_forIn_range',Std.Legacy.Range.size,Nat.sub_zero,Nat.add_sub_cancel,Nat.div_one,List.range'_succ,List.range'_zero,List.forIn_cons,List.forIn_nil]
 go_simp
 by_cases h0:a0=b0<;>by_cases h1:a1=b1<;>by_cases h2:a2=b2<;>simp [h0,h1,h2]
theorem QDS (a0 a1 b0 b1:Int):EqT Tryz.prog 58 [.int .i64 a0,.int .i64 a1] [.int .i64 b0,.int .i64 b1] ((a0==b0)&&(a1==b1)):=by
 refine⟨by kernel_rfl,fun w=>?_⟩
 have u3:=Tryz.underlying3
 have g3:=Tryz.isAgg3
 have z3:=Tryz.sizeOf3
 show(Op.equalIn (9999+1) 58 (.agg #[.int .i64 a0,.int .i64 a1]) (.agg #[.int .i64 b0,.int .i64 b1])).run Tryz.prog w=_
 rw [Op.equalIn]
 simp only [Sem.run_bind,run_underlying Tryz.underlying58,Result.andThen_ok]
 simp only [Std.Legacy.Range.forIn_eq_forIn_range',Std.Legacy.Range.size,Nat.sub_zero,Nat.add_sub_cancel,Nat.div_one,List.range'_succ,List.range'_zero,List.forIn_cons,List.forIn_nil]
 go_simp
 by_cases h0:a0=b0<;>by_cases h1:a1=b1<;>simp [h0,h1]
theorem QCV : QtV Tryz.prog 96 1=some (1,false,1):=by kernel_rfl
theorem QCW : QtV Tryz.prog 96 2=some (2,false,1):=by kernel_rfl
def QCi : Go.Shelf.Ren:=⟨fun | 157=>219 | 199=>227 | 229=>226 | 261=>233 | 311=>236 | 312=>237 | n=>n,fun | 0=>0 | 3=>3 | 4=>4 | 5=>5 | 9=>9 | 21=>21 | 31=>94 | 40=>230 | 46=>165 | 49=>247 | 51=>197 | 119=>228 | 141=>239 | 152=>235 | 154=>237 | 193=>243 | 194=>244 | 196=>246 | 198=>249 | 201=>252 | 226=>254 | 227=>255 | n=>n,fun | 0=>0 | 6=>1 | n=>n⟩
theorem QBm : Lays.n157 Tryz.prog QCi where
 mixed:=by kernel_rfl
 f157:=Tryz.func219.trans (congrArg some (by kernel_rfl))
 f199:=Tryz.func227.trans (congrArg some (by kernel_rfl))
 f229:=Tryz.func226.trans (congrArg some (by kernel_rfl))
 f261:=Tryz.func233.trans (congrArg some (by kernel_rfl))
 f311:=Tryz.func236.trans (congrArg some (by kernel_rfl))
 f312:=Tryz.func237.trans (congrArg some (by kernel_rfl))
 t0:=Tryz.underlying0
 a0:=Tryz.isAgg0
 z0:=Tryz.sizeOf0
 v0:=Tryz.zeroValue0
 t3:=Tryz.underlying3
 a3:=Tryz.isAgg3
 z3:=Tryz.sizeOf3
 v3:=Tryz.zeroValue3
 t4:=Tryz.underlying4
 a4:=Tryz.isAgg4
 z4:=Tryz.sizeOf4
 v4:=Tryz.zeroValue4
 t5:=Tryz.underlying5
 a5:=Tryz.isAgg5
 z5:=Tryz.sizeOf5
 v5:=Tryz.zeroValue5
 t9:=Tryz.underlying9
 a9:=Tryz.isAgg9
 z9:=Tryz.sizeOf9
 v9:=Tryz.zeroValue9
 t21:=Tryz.underlying21
 a21:=Tryz.isAgg21
 z21:=Tryz.sizeOf21
 v21:=Tryz.zeroValue21
 t31:=Tryz.underlying94
 a31:=Tryz.isAgg94
 z31:=Tryz.sizeOf94
 v31:=Tryz.zeroValue94
 t40:=Tryz.underlying230
 a40:=Tryz.isAgg230
 z40:=Tryz.sizeOf230
 v40:=Tryz.zeroValue230
 t46:=Tryz.underlying165
 a46:=Tryz.isAgg165
 z46:=Tryz.sizeOf165
 v46:=Tryz.zeroValue165
 t49:=Tryz.underlying247
 a49:=Tryz.isAgg247
 z49:=Tryz.sizeOf247
 v49:=Tryz.zeroValue247
 t51:=Tryz.underlying197
 a51:=Tryz.isAgg197
 z51:=Tryz.sizeOf197
 v51:=Tryz.zeroValue197
 t119:=Tryz.underlying228
 a119:=Tryz.isAgg228
 z119:=Tryz.sizeOf228
 t141:=Tryz.underlying239
 a141:=Tryz.isAgg239
 z141:=Tryz.sizeOf239
 v141:=Tryz.zeroValue239
 t152:=Tryz.underlying235
 a152:=Tryz.isAgg235
 z152:=Tryz.sizeOf235
 v152:=Tryz.zeroValue235
 t154:=Tryz.underlying237
 a154:=Tryz.isAgg237
 z154:=Tryz.sizeOf237
 v154:=Tryz.zeroValue237
 t193:=Tryz.underlying243
 a193:=Tryz.isAgg243
 z193:=Tryz.sizeOf243
 v193:=Tryz.zeroValue243
 t194:=Tryz.underlying244
 a194:=Tryz.isAgg244
 z194:=Tryz.sizeOf244
 v194:=Tryz.zeroValue244
 t196:=Tryz.underlying246
 a196:=Tryz.isAgg246
 z196:=Tryz.sizeOf246
 v196:=Tryz.zeroValue246
 t198:=Tryz.underlying249
 a198:=Tryz.isAgg249
 z198:=Tryz.sizeOf249
 v198:=Tryz.zeroValue249
 t201:=Tryz.underlying252
 a201:=Tryz.isAgg252
 z201:=Tryz.sizeOf252
 v201:=Tryz.zeroValue252
 t226:=Tryz.underlying254
 a226:=Tryz.isAgg254
 z226:=Tryz.sizeOf254
 v226:=Tryz.zeroValue254
 t227:=Tryz.underlying255
 a227:=Tryz.isAgg255
 z227:=Tryz.sizeOf255
 v227:=Tryz.zeroValue255
 g0:=by kernel_rfl
 g6:=by kernel_rfl
theorem QtW : QxC Tryz.prog 199 .u64=true:=by kernel_rfl
theorem Qzd : QxC Tryz.prog 3 .i64=true:=by kernel_rfl
theorem QnU : QgD Tryz.prog 3 (V.i .i64) (Value.int .i64):=QgD.int (by kernel_rfl)
theorem QAz : QgD Tryz.prog 9 V.s Value.string:=QgD.str (by kernel_rfl)
theorem mixed : Tryz.prog.follows .mixedOrders=true:=by kernel_rfl
theorem QwK : Qso Tryz.prog 207=some (9,4):=by kernel_rfl
theorem Qlt : Qso Tryz.prog 88=some (3,3):=by kernel_rfl
def QCj : Go.Shelf.Ren:=⟨fun | 125=>130 | 128=>181 | 129=>182 | 189=>67 | 215=>212 | 216=>178 | 257=>129 | 294=>172 | 295=>173 | 296=>174 | 297=>175 | 298=>176 | 299=>177 | 300=>179 | 301=>180 | 328=>207 | 329=>208 | 330=>209 | 331=>210 | 332=>211 | 343=>225 | n=>n,fun | 0=>0 | 3=>3 | 4=>4 | 5=>5 | 9=>9 | 28=>35 | 46=>165 | 51=>197 | 53=>199 | 131=>132 | 182=>189 | 183=>190 | 218=>212 | 222=>216 | 228=>225 | 229=>226 | n=>n,fun n=>n⟩
theorem QBn : Lays.n189 Tryz.prog QCj where
 mixed:=by kernel_rfl
 f125:=Tryz.func130.trans (congrArg some (by kernel_rfl))
 f128:=Tryz.func181.trans (congrArg some (by kernel_rfl))
 f129:=Tryz.func182.trans (congrArg some (by kernel_rfl))
 f189:=Tryz.func67.trans (congrArg some (by kernel_rfl))
 f215:=Tryz.func212.trans (congrArg some (by kernel_rfl))
 f216:=Tryz.func178.trans (congrArg some (by kernel_rfl))
 f257:=Tryz.func129.trans (congrArg some (by kernel_rfl))
 f294:=Tryz.func172.trans (congrArg some (by kernel_rfl))
 f295:=Tryz.func173.trans (congrArg some (by kernel_rfl))
 f296:=Tryz.func174.trans (congrArg some (by kernel_rfl))
 f297:=Tryz.func175.trans (congrArg some (by kernel_rfl))
 f298:=Tryz.func176.trans (congrArg some (by kernel_rfl))
 f299:=Tryz.func177.trans (congrArg some (by kernel_rfl))
 f300:=Tryz.func179.trans (congrArg some (by kernel_rfl))
 f301:=Tryz.func180.trans (congrArg some (by kernel_rfl))
 f328:=Tryz.func207.trans (congrArg some (by kernel_rfl))
 f329:=Tryz.func208.trans (congrArg some (by kernel_rfl))
 f330:=Tryz.func209.trans (congrArg some (by kernel_rfl))
 f331:=Tryz.func210.trans (congrArg some (by kernel_rfl))
 f332:=Tryz.func211.trans (congrArg some (by kernel_rfl))
 f343:=Tryz.func225.trans (congrArg some (by kernel_rfl))
 t0:=Tryz.underlying0
 a0:=Tryz.isAgg0
 z0:=Tryz.sizeOf0
 v0:=Tryz.zeroValue0
 t3:=Tryz.underlying3
 a3:=Tryz.isAgg3
 z3:=Tryz.sizeOf3
 v3:=Tryz.zeroValue3
 t4:=Tryz.underlying4
 a4:=Tryz.isAgg4
 z4:=Tryz.sizeOf4
 v4:=Tryz.zeroValue4
 t5:=Tryz.underlying5
 a5:=Tryz.isAgg5
 z5:=Tryz.sizeOf5
 v5:=Tryz.zeroValue5
 t9:=Tryz.underlying9
 a9:=Tryz.isAgg9
 z9:=Tryz.sizeOf9
 v9:=Tryz.zeroValue9
 t28:=Tryz.underlying35
 a28:=Tryz.isAgg35
 z28:=Tryz.sizeOf35
 v28:=Tryz.zeroValue35
 t46:=Tryz.underlying165
 a46:=Tryz.isAgg165
 z46:=Tryz.sizeOf165
 v46:=Tryz.zeroValue165
 t51:=Tryz.underlying197
 a51:=Tryz.isAgg197
 z51:=Tryz.sizeOf197
 v51:=Tryz.zeroValue197
 t53:=Tryz.underlying199
 a53:=Tryz.isAgg199
 z53:=Tryz.sizeOf199
 v53:=Tryz.zeroValue199
 t131:=Tryz.underlying132
 a131:=Tryz.isAgg132
 z131:=Tryz.sizeOf132
 v131:=Tryz.zeroValue132
 t182:=Tryz.underlying189
 a182:=Tryz.isAgg189
 z182:=Tryz.sizeOf189
 v182:=Tryz.zeroValue189
 t183:=Tryz.underlying190
 a183:=Tryz.isAgg190
 z183:=Tryz.sizeOf190
 v183:=Tryz.zeroValue190
 t218:=Tryz.underlying212
 a218:=Tryz.isAgg212
 z218:=Tryz.sizeOf212
 v218:=Tryz.zeroValue212
 t222:=Tryz.underlying216
 a222:=Tryz.isAgg216
 z222:=Tryz.sizeOf216
 v222:=Tryz.zeroValue216
 t228:=Tryz.underlying225
 a228:=Tryz.isAgg225
 z228:=Tryz.sizeOf225
 v228:=Tryz.zeroValue225
 t229:=Tryz.underlying226
 a229:=Tryz.isAgg226
 z229:=Tryz.sizeOf226
 v229:=Tryz.zeroValue226
theorem QDT : Tryz.prog.underlying 35=some (.slice 3):=by kernel_rfl
theorem QDU : Tryz.prog.underlying 62=some (.slice 35):=by kernel_rfl
theorem QxG : Qmh Tryz.prog 3 ((V.i .i64) 0):=Qmh.one (v:=.int .i64 0) (by kernel_rfl)
theorem QDu : Qmh Tryz.prog 4 (V.b false):=Qmh.one (v:=.bool false) (by kernel_rfl)
theorem QEx : QaF Tryz.prog 3=some [.i .i64 0]:=by kernel_rfl
theorem QDV : QaF Tryz.prog 26=some [.lit (.slice none 0 0),.lit (.slice none 0 0),.lit (.slice none 0 0),.i .i64 0,.i .i64 0]:=by kernel_rfl
theorem QDW : QaF Tryz.prog 31=some [.lit (.slice none 0 0)]:=by kernel_rfl
theorem QCL : QaF Tryz.prog 35=some [.lit (.slice none 0 0)]:=by kernel_rfl
theorem QDX : QaF Tryz.prog 37=some [.i .i64 0,.lit (.slice none 0 0),.lit (.slice none 0 0),.lit (.slice none 0 0)]:=by kernel_rfl
theorem QDY : QaF Tryz.prog 40=some [.lit (.slice none 0 0)]:=by kernel_rfl
theorem QDZ : QaF Tryz.prog 41=some [.i .i64 0]:=by kernel_rfl
theorem QD0 : QaF Tryz.prog 48=some [.i .i64 0,.i .i64 0,.lit (.slice none 0 0)]:=by kernel_rfl
theorem QD1 : QaF Tryz.prog 50=some [.i .i64 0,.i .i64 0,.i .i64 0]:=by kernel_rfl
theorem QD2 : QaF Tryz.prog 52=some [.s (⟨#[]⟩:ByteArray),.lit (.slice none 0 0),.i .i64 0,.i .i64 0,.lit (.slice none 0 0),.i .i64 0,.i .i64 0,.lit (.slice none 0 0),.lit (.slice none 0 0),.lit (.slice none 0 0),.i .i64 0,.i .i64 0,.i .i64 0,.i .i64 0]:=by kernel_rfl
theorem QD3 : QaF Tryz.prog 58=some [.i .i64 0,.i .i64 0]:=by kernel_rfl
theorem QD4 : QaF Tryz.prog 62=some [.lit (.slice none 0 0)]:=by kernel_rfl
theorem QD5 : QaF Tryz.prog 67=some [.i .i64 0,.i .i64 0]:=by kernel_rfl
theorem QD6 : QaF Tryz.prog 75=some [.lit (.slice none 0 0),.lit (.slice none 0 0),.lit (.slice none 0 0),.i .i64 0,.i .i64 0,.lit (.slice none 0 0),.s (⟨#[]⟩:ByteArray),.lit (.slice none 0 0),.i .i64 0,.i .i64 0,.lit (.slice none 0 0),.i .i64 0,.i .i64 0,.lit (.slice none 0 0),.lit (.slice none 0 0),.lit (.slice none 0 0),.i .i64 0,.i .i64 0,.i .i64 0,.i .i64 0,.lit (.slice none 0 0)]:=by kernel_rfl
theorem QD7 : QaF Tryz.prog 86=some [.s (⟨#[]⟩:ByteArray),.i .i64 0]:=by kernel_rfl
theorem QD8 : QaF Tryz.prog 96=some [.s (⟨#[]⟩:ByteArray),.i .i64 0,.i .i64 0,.i .i64 0,.lit (.slice none 0 0),.i .i64 0,.i .i64 0]:=by kernel_rfl
theorem QD9 : QaF Tryz.prog 98=some [.s (⟨#[]⟩:ByteArray),.i .i64 0,.lit (.slice none 0 0)]:=by kernel_rfl
theorem QDv : QaF Tryz.prog 100=some [.i .i64 0,.i .i64 0,.i .i64 0,.lit (.slice none 0 0)]:=by kernel_rfl
theorem QnD : QaF Tryz.prog 108=some [.lit (.nilFunc),.i .i64 0]:=by kernel_rfl
theorem QDw : QaF Tryz.prog 142=some [.lit (.nilFunc)]:=by kernel_rfl
theorem QDx : QaF Tryz.prog 147=some [.lit (.nilFunc)]:=by kernel_rfl
theorem QDy : QaF Tryz.prog 156=some [.lit (.slice none 0 0),.lit (.slice none 0 0),.i .i64 0]:=by kernel_rfl
theorem QDz : QaF Tryz.prog 176=some [.lit (.nilFunc)]:=by kernel_rfl
def tab : Tab:={ ag:=[(3,false),(9,false),(22,false),(23,false),(24,false),(26,true),(28,false),(29,false),(31,false),(35,false),(37,true),(40,false),(41,false),(45,false),(46,false),(48,true),(49,false),(50,true),(52,true),(58,true),(62,false),(67,true),(75,true),(78,false),(86,true),(88,false),(94,false),(96,true),(98,true),(100,true),(108,true),(142,false),(147,false),(150,false),(156,true),(176,false)],sz:=[(3,1),(26,5),(31,1),(35,1),(37,4),(40,1),(41,1),(48,3),(50,3),(52,14),(58,2),(62,1),(67,2),(75,21),(86,2),(96,7),(98,3),(100,4),(108,2),(142,1),(147,1),(156,3),(176,1)],fo:=[(26,[0,1,2,3,4]),(37,[0,1,2,3]),(48,[0,1,2]),(52,[0,1,2,5,6,7,8,9,10,11]),(75,[0,5,6,20]),(86,[0,1]),(96,[0,1,2,3,4,5,6]),(98,[0,1,2]),(100,[0,1]),(108,[0,1]),(156,[0,1,2])],sp:=[(26,[(0,1),(1,1),(2,1),(3,1),(4,1)]),(37,[(0,1),(1,1),(2,1),(3,1)]),(48,[(0,1),(1,1),(2,1)]),(52,[(0,1),(1,1),(2,3),(5,1),(6,1),(7,1),(8,1),(9,1),(10,1),(11,3)]),(67,[(0,1),(1,1)]),(75,[(0,5),(5,1),(6,14),(20,1)]),(86,[(0,1),(1,1)]),(96,[(0,1),(1,1),(2,1),(3,1),(4,1),(5,1),(6,1)]),(98,[(0,1),(1,1),(2,1)]),(100,[(0,1),(1,3)]),(108,[(0,1),(1,1)]),(156,[(0,1),(1,1),(2,1)])],es:=[(22,(96,7,80)),(23,(98,3,48)),(24,(52,14,200)),(28,(40,1,24)),(31,(37,4,80)),(35,(3,1,8)),(40,(58,2,16)),(45,(86,2,24)),(46,(48,3,40)),(49,(100,4,48)),(62,(35,1,24)),(94,(9,1,16)),(136,(108,2,16)),(159,(3,1,8))],ar:=[(50,(3,1)),(58,(2,1))],zv:=[(3,[.i .i64 0]),(26,[.lit (.slice none 0 0),.lit (.slice none 0 0),.lit (.slice none 0 0),.i .i64 0,.i .i64 0]),(31,[.lit (.slice none 0 0)]),(35,[.lit (.slice none 0 0)]),(37,[.i .i64 0,.lit (.slice none 0 0),.lit (.slice none 0 0),.lit (.slice none 0 0)]),(40,[.lit (.slice none 0 0)]),(41,[.i .i64 0]),(48,[.i .i64 0,.i .i64 0,.lit (.slice none 0 0)]),(50,[.i .i64 0,.i .i64 0,.i .i64 0]),(52,[.s (⟨#[]⟩:ByteArray),.lit (.slice none 0 0),.i .i64 0,.i .i64 0,.lit (.slice none 0 0),.i .i64 0,.i .i64 0,.lit (.slice none 0 0),.lit (.slice none 0 0),.lit (.slice none 0 0),.i .i64 0,.i .i64 0,.i .i64 0,.i .i64 0]),(58,[.i .i64 0,.i .i64 0]),(62,[.lit (.slice none 0 0)]),(67,[.i .i64 0,.i .i64 0]),(75,[.lit (.slice none 0 0),.lit (.slice none 0 0),.lit (.slice none 0 0),.i .i64 0,.i .i64 0,.lit (.slice none 0 0),.s (⟨#[]⟩:ByteArray),.lit (.slice none 0 0),.i .i64 0,.i .i64 0,.lit (.slice none 0 0),.i .i64 0,.i .i64 0,.lit (.slice none 0 0),.lit (.slice none 0 0),.lit (.slice none 0 0),.i .i64 0,.i .i64 0,.i .i64 0,.i .i64 0,.lit (.slice none 0 0)]),(86,[.s (⟨#[]⟩:ByteArray),.i .i64 0]),(96,[.s (⟨#[]⟩:ByteArray),.i .i64 0,.i .i64 0,.i .i64 0,.lit (.slice none 0 0),.i .i64 0,.i .i64 0]),(98,[.s (⟨#[]⟩:ByteArray),.i .i64 0,.lit (.slice none 0 0)]),(100,[.i .i64 0,.i .i64 0,.i .i64 0,.lit (.slice none 0 0)]),(108,[.lit (.nilFunc),.i .i64 0]),(142,[.lit (.nilFunc)]),(147,[.lit (.nilFunc)]),(156,[.lit (.slice none 0 0),.lit (.slice none 0 0),.i .i64 0]),(176,[.lit (.nilFunc)])],sb:=[9],bo:=[4],cc:=[],en:=[7,8,9,10,11,12,13,14,15,17,18,19,20,21,22,23,24,25,26,27,28,29,30,31,32,33,34,35,36,37,38,39,40,41,42,43,44,45,46,47,48,49,50,51,52,53,54,55,56,57,58,59,60,61,62,63,64,65,66,67,68,69,70,71,72,73,74,75,76,77,78,79,80,81,82,83,84,85,86,87,88,89,90,91,92,93,94,95,96,97,98,99,100,101,102,103,104,105,106,107,108,109,110,111,112,113,114,115,116,117,118,119,120,121,122,123,124,125,126,127,128,131,132,133,134,135,136,137,138,139,140,141,142,143,144,145,146,147,148,149,150,151,152,153,154,155,156,157,158,159,160,161,162,163,164,165,166,167,168,169,170,171,183,184,185,186,187,188,189,190,191,192,193,194,195,196,197,198,199,200,201,202,203,204,205,206,213,214,215,216,217,218,219,220,221,222,223,224,228,229,230,231,232,234,235] }
theorem Qo : QdJ Tryz.prog tab:=Tab.ok (by kernel_rfl) (QdT.2 ⟨QEx,QdT.2 ⟨QDV,QdT.2 ⟨QDW,QdT.2 ⟨QCL,QdT.2 ⟨QDX,QdT.2 ⟨QDY,QdT.2 ⟨QDZ,QdT.2 ⟨QD0,QdT.2 ⟨QD1,QdT.2 ⟨QD2,QdT.2 ⟨QD3,QdT.2 ⟨QD4,QdT.2 ⟨QD5,QdT.2 ⟨QD6,QdT.2 ⟨QD7,QdT.2 ⟨QD8,QdT.2 ⟨QD9,QdT.2 ⟨QDv,QdT.2 ⟨QnD,QdT.2 ⟨QDw,QdT.2 ⟨QDx,QdT.2 ⟨QDy,QdT.2 ⟨QDz,fun _ h=>(by cases h)⟩⟩⟩⟩⟩⟩⟩⟩⟩⟩⟩⟩⟩⟩⟩⟩⟩⟩⟩⟩⟩⟩⟩)
theorem Qa {C:Ctx}{Q:Exit->St->Prop}{n:Nat}{pt pt1:Pt}{ks ks1:List Fr}{σ σ1:St}{φ:Prop}(hC:Qdb Tryz.prog C n)(ds:List Dir)(e:Vm.go Tryz.prog C tab n ds pt ks σ True=some ⟨pt1,ks1,σ1,φ⟩)(hφ:φ)(h:AK Tryz.prog C Q pt1 ks1 σ1):AK Tryz.prog C Q pt ks σ:=AK.go Qo hC ds e hφ h
abbrev QBg := List (Int×Int)
abbrev QMk := List QBg
abbrev QLL := List (List Int)
abbrev QSB := List (ByteArray×Bool)
theorem tt_ : True:=trivial
theorem an_ {a b:Prop}(x:a)(y:b):a/\b:=⟨x,y⟩
theorem ex_ {α:Sort _}{p:α->Prop}(w:α)(h:p w):∃x,p x:=⟨w,h⟩
end Go.Proofs
namespace Go.Vm
open Go Go.RowKit
noncomputable abbrev Dir.K (a b:List Nat):Dir:=.keep a b
noncomputable abbrev Dir.S (a:Nat)(b:V):Dir:=.say a b
noncomputable abbrev Dir.O (a:Nat)(b:Ob):Dir:=.sayO a b
noncomputable abbrev Dir.T:Dir:=.br true
noncomputable abbrev Dir.F:Dir:=.br false
noncomputable abbrev Dw.N:Dw:=.a .no none false
noncomputable abbrev V.I (n:Int):V:=.i .i64 n
noncomputable abbrev V.L (n:Nat):V:=.loc n 0 0
noncomputable abbrev Dir.A (x:List V):Dir:=.v .no [] (.agg x)
noncomputable instance dn_ (n:Nat):OfNat Dir n:=⟨.n n⟩
noncomputable abbrev Qc4.C1 (v:V):Qc4:=.c false [.d] v
noncomputable abbrev Qc4.C2 (v:V):Qc4:=.c false [.d,.d] v
noncomputable abbrev Qc4.C3 (v:V):Qc4:=.c false [.d,.d,.d] v
noncomputable abbrev Qc4.C4 (v:V):Qc4:=.c false [.d,.d,.d,.d] v
noncomputable abbrev Qc4.C5 (v:V):Qc4:=.c false [.d,.d,.d,.d,.d] v
noncomputable abbrev Qc4.C6 (v:V):Qc4:=.c false [.d,.d,.d,.d,.d,.d] v
noncomputable abbrev Qc4.C7 (v:V):Qc4:=.c false [.d,.d,.d,.d,.d,.d,.d] v
noncomputable abbrev Qc4.C8 (v:V):Qc4:=.c false [.d,.d,.d,.d,.d,.d,.d,.d] v
end Go.Vm
namespace Go.Proofs
open Go Go.RowKit Go.Vm Go.Proofs.Tryz
theorem bg_ {α:Type}{c:Bool}{x y:Option α}{r:α}{G:Prop}(h:(bif c then x else y)=some r)(f:c=true->x=some r->G)(g:c=false->y=some r->G):G:=by
 cases c
 ·exact g rfl h
 exact f rfl h
noncomputable abbrev lk_ (n:Nat):Nat×V:=(n,.loc n 0 0)
theorem a1_ {x0:Prop}(h0:x0):True/\x0:=⟨trivial,h0⟩
theorem a2_ {x0 x1:Prop}(h0:x0)(h1:x1):(True/\x0)/\x1:=⟨⟨trivial,h0⟩,h1⟩
theorem a3_ {x0 x1 x2:Prop}(h0:x0)(h1:x1)(h2:x2):((True/\x0)/\x1)/\x2:=⟨⟨⟨trivial,h0⟩,h1⟩,h2⟩
theorem a4_ {x0 x1 x2 x3:Prop}(h0:x0)(h1:x1)(h2:x2)(h3:x3):(((True/\x0)/\x1)/\x2)/\x3:=⟨⟨⟨⟨trivial,h0⟩,h1⟩,h2⟩,h3⟩
theorem a5_ {x0 x1 x2 x3 x4:Prop}(h0:x0)(h1:x1)(h2:x2)(h3:x3)(h4:x4):((((True/\x0)/\x1)/\x2)/\x3)/\x4:=⟨⟨⟨⟨⟨trivial,h0⟩,h1⟩,h2⟩,h3⟩,h4⟩
theorem a6_ {x0 x1 x2 x3 x4 x5:Prop}(h0:x0)(h1:x1)(h2:x2)(h3:x3)(h4:x4)(h5:x5):(((((True/\x0)/\x1)/\x2)/\x3)/\x4)/\x5:=⟨⟨⟨⟨⟨⟨trivial,h0⟩,h1⟩,h2⟩,h3⟩,h4⟩,h5⟩
theorem a7_ {x0 x1 x2 x3 x4 x5 x6:Prop}(h0:x0)(h1:x1)(h2:x2)(h3:x3)(h4:x4)(h5:x5)(h6:x6):((((((True/\x0)/\x1)/\x2)/\x3)/\x4)/\x5)/\x6:=⟨⟨⟨⟨⟨⟨⟨trivial,h0⟩,h1⟩,h2⟩,h3⟩,h4⟩,h5⟩,h6⟩
theorem a8_ {x0 x1 x2 x3 x4 x5 x6 x7:Prop}(h0:x0)(h1:x1)(h2:x2)(h3:x3)(h4:x4)(h5:x5)(h6:x6)(h7:x7):(((((((True/\x0)/\x1)/\x2)/\x3)/\x4)/\x5)/\x6)/\x7:=⟨⟨⟨⟨⟨⟨⟨⟨trivial,h0⟩,h1⟩,h2⟩,h3⟩,h4⟩,h5⟩,h6⟩,h7⟩
theorem a9_ {x0 x1 x2 x3 x4 x5 x6 x7 x8:Prop}(h0:x0)(h1:x1)(h2:x2)(h3:x3)(h4:x4)(h5:x5)(h6:x6)(h7:x7)(h8:x8):((((((((True/\x0)/\x1)/\x2)/\x3)/\x4)/\x5)/\x6)/\x7)/\x8:=⟨⟨⟨⟨⟨⟨⟨⟨⟨trivial,h0⟩,h1⟩,h2⟩,h3⟩,h4⟩,h5⟩,h6⟩,h7⟩,h8⟩
theorem aA_ {x0 x1 x2 x3 x4 x5 x6 x7 x8 x9:Prop}(h0:x0)(h1:x1)(h2:x2)(h3:x3)(h4:x4)(h5:x5)(h6:x6)(h7:x7)(h8:x8)(h9:x9):(((((((((True/\x0)/\x1)/\x2)/\x3)/\x4)/\x5)/\x6)/\x7)/\x8)/\x9:=⟨⟨⟨⟨⟨⟨⟨⟨⟨⟨trivial,h0⟩,h1⟩,h2⟩,h3⟩,h4⟩,h5⟩,h6⟩,h7⟩,h8⟩,h9⟩
theorem aB_ {x0 x1 x2 x3 x4 x5 x6 x7 x8 x9 x10:Prop}(h0:x0)(h1:x1)(h2:x2)(h3:x3)(h4:x4)(h5:x5)(h6:x6)(h7:x7)(h8:x8)(h9:x9)(h10:x10):((((((((((True/\x0)/\x1)/\x2)/\x3)/\x4)/\x5)/\x6)/\x7)/\x8)/\x9)/\x10:=⟨⟨⟨⟨⟨⟨⟨⟨⟨⟨⟨trivial,h0⟩,h1⟩,h2⟩,h3⟩,h4⟩,h5⟩,h6⟩,h7⟩,h8⟩,h9⟩,h10⟩
theorem aC_ {x0 x1 x2 x3 x4 x5 x6 x7 x8 x9 x10 x11:Prop}(h0:x0)(h1:x1)(h2:x2)(h3:x3)(h4:x4)(h5:x5)(h6:x6)(h7:x7)(h8:x8)(h9:x9)(h10:x10)(h11:x11):(((((((((((True/\x0)/\x1)/\x2)/\x3)/\x4)/\x5)/\x6)/\x7)/\x8)/\x9)/\x10)/\x11:=⟨⟨⟨⟨⟨⟨⟨⟨⟨⟨⟨⟨trivial,h0⟩,h1⟩,h2⟩,h3⟩,h4⟩,h5⟩,h6⟩,h7⟩,h8⟩,h9⟩,h10⟩,h11⟩
theorem r1_ {α:Type}{a0:α}:a0=a0/\True:=⟨rfl,trivial⟩
theorem r2_ {α:Type}{a0 a1:α}:a0=a0/\a1=a1/\True:=⟨rfl,rfl,trivial⟩
theorem r3_ {α:Type}{a0 a1 a2:α}:a0=a0/\a1=a1/\a2=a2/\True:=⟨rfl,rfl,rfl,trivial⟩
theorem r4_ {α:Type}{a0 a1 a2 a3:α}:a0=a0/\a1=a1/\a2=a2/\a3=a3/\True:=⟨rfl,rfl,rfl,rfl,trivial⟩
theorem r5_ {α:Type}{a0 a1 a2 a3 a4:α}:a0=a0/\a1=a1/\a2=a2/\a3=a3/\a4=a4/\True:=⟨rfl,rfl,rfl,rfl,rfl,trivial⟩
theorem r6_ {α:Type}{a0 a1 a2 a3 a4 a5:α}:a0=a0/\a1=a1/\a2=a2/\a3=a3/\a4=a4/\a5=a5/\True:=⟨rfl,rfl,rfl,rfl,rfl,rfl,trivial⟩
theorem r7_ {α:Type}{a0 a1 a2 a3 a4 a5 a6:α}:a0=a0/\a1=a1/\a2=a2/\a3=a3/\a4=a4/\a5=a5/\a6=a6/\True:=⟨rfl,rfl,rfl,rfl,rfl,rfl,rfl,trivial⟩
theorem r8_ {α:Type}{a0 a1 a2 a3 a4 a5 a6 a7:α}:a0=a0/\a1=a1/\a2=a2/\a3=a3/\a4=a4/\a5=a5/\a6=a6/\a7=a7/\True:=⟨rfl,rfl,rfl,rfl,rfl,rfl,rfl,rfl,trivial⟩
theorem r9_ {α:Type}{a0 a1 a2 a3 a4 a5 a6 a7 a8:α}:a0=a0/\a1=a1/\a2=a2/\a3=a3/\a4=a4/\a5=a5/\a6=a6/\a7=a7/\a8=a8/\True:=⟨rfl,rfl,rfl,rfl,rfl,rfl,rfl,rfl,rfl,trivial⟩
theorem rA_ {α:Type}{a0 a1 a2 a3 a4 a5 a6 a7 a8 a9:α}:a0=a0/\a1=a1/\a2=a2/\a3=a3/\a4=a4/\a5=a5/\a6=a6/\a7=a7/\a8=a8/\a9=a9/\True:=⟨rfl,rfl,rfl,rfl,rfl,rfl,rfl,rfl,rfl,rfl,trivial⟩
theorem rB_ {α:Type}{a0 a1 a2 a3 a4 a5 a6 a7 a8 a9 a10:α}:a0=a0/\a1=a1/\a2=a2/\a3=a3/\a4=a4/\a5=a5/\a6=a6/\a7=a7/\a8=a8/\a9=a9/\a10=a10/\True:=⟨rfl,rfl,rfl,rfl,rfl,rfl,rfl,rfl,rfl,rfl,rfl,trivial⟩
theorem rC_ {α:Type}{a0 a1 a2 a3 a4 a5 a6 a7 a8 a9 a10 a11:α}:a0=a0/\a1=a1/\a2=a2/\a3=a3/\a4=a4/\a5=a5/\a6=a6/\a7=a7/\a8=a8/\a9=a9/\a10=a10/\a11=a11/\True:=⟨rfl,rfl,rfl,rfl,rfl,rfl,rfl,rfl,rfl,rfl,rfl,rfl,trivial⟩
theorem rD_ {α:Type}{a0 a1 a2 a3 a4 a5 a6 a7 a8 a9 a10 a11 a12:α}:a0=a0/\a1=a1/\a2=a2/\a3=a3/\a4=a4/\a5=a5/\a6=a6/\a7=a7/\a8=a8/\a9=a9/\a10=a10/\a11=a11/\a12=a12/\True:=⟨rfl,rfl,rfl,rfl,rfl,rfl,rfl,rfl,rfl,rfl,rfl,rfl,rfl,trivial⟩
theorem rE_ {α:Type}{a0 a1 a2 a3 a4 a5 a6 a7 a8 a9 a10 a11 a12 a13:α}:a0=a0/\a1=a1/\a2=a2/\a3=a3/\a4=a4/\a5=a5/\a6=a6/\a7=a7/\a8=a8/\a9=a9/\a10=a10/\a11=a11/\a12=a12/\a13=a13/\True:=⟨rfl,rfl,rfl,rfl,rfl,rfl,rfl,rfl,rfl,rfl,rfl,rfl,rfl,rfl,trivial⟩
theorem rF_ {α:Type}{a0 a1 a2 a3 a4 a5 a6 a7 a8 a9 a10 a11 a12 a13 a14:α}:a0=a0/\a1=a1/\a2=a2/\a3=a3/\a4=a4/\a5=a5/\a6=a6/\a7=a7/\a8=a8/\a9=a9/\a10=a10/\a11=a11/\a12=a12/\a13=a13/\a14=a14/\True:=⟨rfl,rfl,rfl,rfl,rfl,rfl,rfl,rfl,rfl,rfl,rfl,rfl,rfl,rfl,rfl,trivial⟩
theorem rG_ {α:Type}{a0 a1 a2 a3 a4 a5 a6 a7 a8 a9 a10 a11 a12 a13 a14 a15:α}:a0=a0/\a1=a1/\a2=a2/\a3=a3/\a4=a4/\a5=a5/\a6=a6/\a7=a7/\a8=a8/\a9=a9/\a10=a10/\a11=a11/\a12=a12/\a13=a13/\a14=a14/\a15=a15/\True:=⟨rfl,rfl,rfl,rfl,rfl,rfl,rfl,rfl,rfl,rfl,rfl,rfl,rfl,rfl,rfl,rfl,trivial⟩
theorem rH_ {α:Type}{a0 a1 a2 a3 a4 a5 a6 a7 a8 a9 a10 a11 a12 a13 a14 a15 a16:α}:a0=a0/\a1=a1/\a2=a2/\a3=a3/\a4=a4/\a5=a5/\a6=a6/\a7=a7/\a8=a8/\a9=a9/\a10=a10/\a11=a11/\a12=a12/\a13=a13/\a14=a14/\a15=a15/\a16=a16/\True:=⟨rfl,rfl,rfl,rfl,rfl,rfl,rfl,rfl,rfl,rfl,rfl,rfl,rfl,rfl,rfl,rfl,rfl,trivial⟩
theorem rI_ {α:Type}{a0 a1 a2 a3 a4 a5 a6 a7 a8 a9 a10 a11 a12 a13 a14 a15 a16 a17:α}:a0=a0/\a1=a1/\a2=a2/\a3=a3/\a4=a4/\a5=a5/\a6=a6/\a7=a7/\a8=a8/\a9=a9/\a10=a10/\a11=a11/\a12=a12/\a13=a13/\a14=a14/\a15=a15/\a16=a16/\a17=a17/\True:=⟨rfl,rfl,rfl,rfl,rfl,rfl,rfl,rfl,rfl,rfl,rfl,rfl,rfl,rfl,rfl,rfl,rfl,rfl,trivial⟩
theorem rJ_ {α:Type}{a0 a1 a2 a3 a4 a5 a6 a7 a8 a9 a10 a11 a12 a13 a14 a15 a16 a17 a18:α}:a0=a0/\a1=a1/\a2=a2/\a3=a3/\a4=a4/\a5=a5/\a6=a6/\a7=a7/\a8=a8/\a9=a9/\a10=a10/\a11=a11/\a12=a12/\a13=a13/\a14=a14/\a15=a15/\a16=a16/\a17=a17/\a18=a18/\True:=⟨rfl,rfl,rfl,rfl,rfl,rfl,rfl,rfl,rfl,rfl,rfl,rfl,rfl,rfl,rfl,rfl,rfl,rfl,rfl,trivial⟩
theorem rK_ {α:Type}{a0 a1 a2 a3 a4 a5 a6 a7 a8 a9 a10 a11 a12 a13 a14 a15 a16 a17 a18 a19:α}:a0=a0/\a1=a1/\a2=a2/\a3=a3/\a4=a4/\a5=a5/\a6=a6/\a7=a7/\a8=a8/\a9=a9/\a10=a10/\a11=a11/\a12=a12/\a13=a13/\a14=a14/\a15=a15/\a16=a16/\a17=a17/\a18=a18/\a19=a19/\True:=⟨rfl,rfl,rfl,rfl,rfl,rfl,rfl,rfl,rfl,rfl,rfl,rfl,rfl,rfl,rfl,rfl,rfl,rfl,rfl,rfl,trivial⟩
theorem wk_ {f:FuncId}{fn:Func}{c:Code}{args:List V}{hs:List (Nat×Ob)}{post:V->List (Nat×Ob)->Prop}(n:Nat)(hf:Tryz.prog.funcs[f]? = some fn)(h:∀C:Ctx,Qdb Tryz.prog C n->AK Tryz.prog C (Qsj Tryz.prog fn.results.toList post) (.c c) [] ⟨QkR 0 args,hs⟩)(hb:fn.body=some c:=by rfl)(hn:fn.ntmps=n:=by rfl)(hle:(Nat.ble args.length n&&Nat.ble n 616)=true:=by rfl):Qc Tryz.prog f args hs post:=Qc.walk n hf hb hn hle h
theorem bq_ {C:Ctx}{Q:Exit->St->Prop}{n:Nat}{pt p1 p2:Pt}{ks k1 k2:List Fr}{σ s1 s2:St}{α:Type}{c:Bool}{x y:Option α}{r:α}(hC:Qdb Tryz.prog C n)(h:(bif c then x else y)=some r)(ds:List Dir)(e:Vm.go Tryz.prog C tab n ds pt ks σ True=some ⟨p1,k1,s1,True/\c=true⟩)(f:c=true->x=some r->AK Tryz.prog C Q p1 k1 s1)(dt:List Dir)(e2:Vm.go Tryz.prog C tab n dt pt ks σ True=some ⟨p2,k2,s2,True/\c=false⟩)(g:c=false->y=some r->AK Tryz.prog C Q p2 k2 s2):AK Tryz.prog C Q pt ks σ:=by
 cases c
 ·exact AK.go Qo hC dt e2 ⟨trivial,rfl⟩ (g rfl h)
 exact AK.go Qo hC ds e ⟨trivial,rfl⟩ (f rfl h)
theorem mt_ {C:Ctx}{Q:Exit->St->Prop}{ks:List Fr}{σ:St}:AK Tryz.prog C Q (.x .normal) (.cut (fun s=>s=σ)::ks) σ:=AK.met rfl
theorem cb_ {a b:Bool}(h:a=b):V.b a=V.b b:=congrArg V.b h
theorem tc_ {a b:Bool}(h:a=b):True/\V.b a=V.b b:=⟨trivial,congrArg V.b h⟩
def QDA : Exit->Bool
 | .normal=>true
 | .ret=>true
 | _=>false
theorem d1_ {C:Ctx}{t:Nat}{r:V}{outs:List (Nat×Ob)}{σ:St}{e:Exit}(hs:Qg9 σ.hp outs)(he:QDA e=true:=by rfl)(h:Go.Vm.look σ.fr t=some r:=by rfl):AK Tryz.prog C (Qsj Tryz.prog [.tmp t] (Gives r outs)) (.x e) [] σ:=by
 cases e<;>first | exact AK.done ⟨[r],⟨h,trivial⟩,gives hs⟩|cases he
theorem d2_ {C:Ctx}{t u:Nat}{r s:V}{outs:List (Nat×Ob)}{σ:St}{e:Exit}(hs:Qg9 σ.hp outs)(he:QDA e=true:=by rfl)(h:Go.Vm.look σ.fr t=some r:=by rfl)(k:Go.Vm.look σ.fr u=some s:=by rfl):AK Tryz.prog C (Qsj Tryz.prog [.tmp t,.tmp u] (Gives (.tup [r,s]) outs)) (.x e) [] σ:=by
 cases e<;>first | exact AK.done ⟨[r,s],⟨h,k,trivial⟩,gives hs⟩|cases he
theorem tg_ {C:Ctx}{Q:Exit->St->Prop}{n:Nat}{pt pt1:Pt}{ks ks1:List Fr}{σ σ1:St}(hC:Qdb Tryz.prog C n)(ds:List Dir)(h:AK Tryz.prog C Q pt1 ks1 σ1)(e:Vm.go Tryz.prog C tab n ds pt ks σ True=some ⟨pt1,ks1,σ1,True⟩:=by rfl):AK Tryz.prog C Q pt ks σ:=AK.go Qo hC ds e trivial h
theorem QaV {c:Bool}{β:Type}{f:Unit->Option β}{r:β}(h:(chk c).bind f=some r):c=true/\f ()=some r:=by
 obtain⟨_,k,h⟩:=Qb h
 exact⟨Qz2 k,h⟩
abbrev QEy (a0 a1:V):List V:=[.J,.J,a0,.J,.J,.J,.J,a1,.J,.J,.J,.J,.J]
abbrev Qre (a0:V):List V:=[.J,.J,a0,.J,.J,.J,.J,.J,.J,.J,.J,.J,.J]
abbrev QEz (a0 a1 a2 a3 a4 a5 a6 a7 a8:V):List V:=[.J,.J,.J,.J,a0,a1,a2,a3,a4,.J,a5,a6,a7,.J,.J,.J,.J,.J,.J,.J,.J,.J,.J,.J,.J,.J,.J,.J,.J,.J,.J,.J,.J,.J,.J,.J,.J,.J,.J,.J,.J,.J,.J,.J,.J,.J,.J,.J,.J,.J,.J,.J,.J,.J,a8,.J,.J,.J,.J,.J,.J,.J,.J,.J,.J,.J,.J,.J,.J,.J,.J,.J,.J,.J,.J,.J,.J,.J,.J,.J,.J,.J,.J,.J,.J,.J,.J,.J,.J,.J,.J,.J,.J,.J,.J,.J,.J,.J,.J,.J,.J,.J,.J,.J,.J,.J,.J,.J,.J]
abbrev Qeo (a0 a1 a2 a3 a4 a5 a6 a7:V):List V:=[.J,.J,.J,.J,a0,a1,a2,a3,a4,.J,a5,a6,a7,.J,.J,.J,.J,.J,.J,.J,.J,.J,.J,.J,.J,.J,.J,.J,.J,.J,.J,.J,.J,.J,.J,.J,.J,.J,.J,.J,.J,.J,.J,.J,.J,.J,.J,.J,.J,.J,.J,.J,.J,.J,.J,.J,.J,.J,.J,.J,.J,.J,.J,.J,.J,.J,.J,.J,.J,.J,.J,.J,.J,.J,.J,.J,.J,.J,.J,.J,.J,.J,.J,.J,.J,.J,.J,.J,.J,.J,.J,.J,.J,.J,.J,.J,.J,.J,.J,.J,.J,.J,.J,.J,.J,.J,.J,.J,.J]
def Qvv  : Option Qn:=
 some (Qn.mk ([(QD.mk (⟨#[110]⟩:ByteArray) 1 0 3 ([]:(List ByteArray)) 0 0)]:List QD) ([(Q4.mk (⟨#[97]⟩:ByteArray) 0 ([]:QBg)),(Q4.mk (⟨#[98]⟩:ByteArray) 0 ([]:QBg))]:List Q4) ([(QF.mk (⟨#[116]⟩:ByteArray) ([(Qaw.mk (⟨#[120]⟩:ByteArray) 0)]:List Qaw) (Qh.mk 1 1 ([]:(List Qh))) 1 1 ([(Qat.mk 0 (Qh.mk 2 0 ([]:(List Qh))))]:List Qat) ([(Qat.mk 1 (Qh.mk 5 1 ([(Qh.mk 2 0 ([]:(List Qh))),(Qh.mk 1 1 ([]:(List Qh)))]:List Qh)))]:List Qat) ([]:(List Int)) 0 (0,0,0))]:List QF) 0 1)
theorem QxH  {r:Qn}(h:Qvv  = some r):Qc prog 17 [] [] (Gives (.agg (Qd r)) []):=by
 refine wk_ 27 func17 fun C a=>?_
 refine Qa a [7,.v .no [none,none,some 3] (.agg (Qk (Qh.mk 2 0 ([]:(List Qh))))),2,.O 1 (.var (Qk (Qh.mk 2 0 ([]:(List Qh))))),4,.v .no [none,none,some 3] (.agg (Qk (Qh.mk 1 1 ([]:(List Qh))))),2,.O 2 (.var (Qk (Qh.mk 1 1 ([]:(List Qh))))),4,.A (Qk (Qh.mk 2 0 ([]:(List Qh)))),.A (Qk (Qh.mk 1 1 ([]:(List Qh)))),.v (.bd []) [] (.sl 3 (Qbg ([(Qh.mk 2 0 ([]:(List Qh))),(Qh.mk 1 1 ([]:(List Qh)))]:List Qh))),.A (Qk (Qh.mk 5 1 ([(Qh.mk 2 0 ([]:(List Qh))),(Qh.mk 1 1 ([]:(List Qh)))]:List Qh))),2,.O 3 (.var (Qk (Qh.mk 5 1 ([(Qh.mk 2 0 ([]:(List Qh))),(Qh.mk 1 1 ([]:(List Qh)))]:List Qh)))),4,.v .no [none,none,none,none,some 1,none,none] (.agg (Qq (QD.mk (⟨#[110]⟩:ByteArray) 1 0 3 ([]:(List ByteArray)) 0 0))),.v (.bd []) [] (.sl 7 (([(QD.mk (⟨#[110]⟩:ByteArray) 1 0 3 ([]:(List ByteArray)) 0 0)]:List QD).map Qq)),.v .no [none,none,some 2] (.agg (QC (Q4.mk (⟨#[97]⟩:ByteArray) 0 ([]:QBg)))),.v .no [none,none,some 2] (.agg (QC (Q4.mk (⟨#[98]⟩:ByteArray) 0 ([]:QBg)))),.v (.bd []) [] (.sl 3 (([(Q4.mk (⟨#[97]⟩:ByteArray) 0 ([]:QBg)),(Q4.mk (⟨#[98]⟩:ByteArray) 0 ([]:QBg))]:List Q4).map QC)),.A (QO (Qaw.mk (⟨#[120]⟩:ByteArray) 0)),.v (.bd []) [] (.sl 2 (([(Qaw.mk (⟨#[120]⟩:ByteArray) 0)]:List Qaw).map QO)),.A (Qk (Qh.mk 1 1 ([]:(List Qh)))),.A (Qk (Qh.mk 2 0 ([]:(List Qh)))),.A (Q2 (Qat.mk 0 (Qh.mk 2 0 ([]:(List Qh))))),.v (.bd []) [] (.sl 4 (([(Qat.mk 0 (Qh.mk 2 0 ([]:(List Qh))))]:List Qat).map Q2)),.A (Qk (Qh.mk 5 1 ([(Qh.mk 2 0 ([]:(List Qh))),(Qh.mk 1 1 ([]:(List Qh)))]:List Qh))),.A (Q2 (Qat.mk 1 (Qh.mk 5 1 ([(Qh.mk 2 0 ([]:(List Qh))),(Qh.mk 1 1 ([]:(List Qh)))]:List Qh)))),.v (.bd []) [] (.sl 4 (([(Qat.mk 1 (Qh.mk 5 1 ([(Qh.mk 2 0 ([]:(List Qh))),(Qh.mk 1 1 ([]:(List Qh)))]:List Qh)))]:List Qat).map Q2)),.v .no [none,none,none,none,none,none,none,none,none,some 1,none,none,none,none] (.agg (Qj (QF.mk (⟨#[116]⟩:ByteArray) ([(Qaw.mk (⟨#[120]⟩:ByteArray) 0)]:List Qaw) (Qh.mk 1 1 ([]:(List Qh))) 1 1 ([(Qat.mk 0 (Qh.mk 2 0 ([]:(List Qh))))]:List Qat) ([(Qat.mk 1 (Qh.mk 5 1 ([(Qh.mk 2 0 ([]:(List Qh))),(Qh.mk 1 1 ([]:(List Qh)))]:List Qh)))]:List Qat) ([]:(List Int)) 0 (0,0,0)))),.v (.bd []) [] (.sl 14 (([(QF.mk (⟨#[116]⟩:ByteArray) ([(Qaw.mk (⟨#[120]⟩:ByteArray) 0)]:List Qaw) (Qh.mk 1 1 ([]:(List Qh))) 1 1 ([(Qat.mk 0 (Qh.mk 2 0 ([]:(List Qh))))]:List Qat) ([(Qat.mk 1 (Qh.mk 5 1 ([(Qh.mk 2 0 ([]:(List Qh))),(Qh.mk 1 1 ([]:(List Qh)))]:List Qh)))]:List Qat) ([]:(List Int)) 0 (0,0,0))]:List QF).map Qj)),.A (Qd (Qn.mk ([(QD.mk (⟨#[110]⟩:ByteArray) 1 0 3 ([]:(List ByteArray)) 0 0)]:List QD) ([(Q4.mk (⟨#[97]⟩:ByteArray) 0 ([]:QBg)),(Q4.mk (⟨#[98]⟩:ByteArray) 0 ([]:QBg))]:List Q4) ([(QF.mk (⟨#[116]⟩:ByteArray) ([(Qaw.mk (⟨#[120]⟩:ByteArray) 0)]:List Qaw) (Qh.mk 1 1 ([]:(List Qh))) 1 1 ([(Qat.mk 0 (Qh.mk 2 0 ([]:(List Qh))))]:List Qat) ([(Qat.mk 1 (Qh.mk 5 1 ([(Qh.mk 2 0 ([]:(List Qh))),(Qh.mk 1 1 ([]:(List Qh)))]:List Qh)))]:List Qat) ([]:(List Int)) 0 (0,0,0))]:List QF) 0 1)),1,.O 0 (.var (Qd (Qn.mk ([(QD.mk (⟨#[110]⟩:ByteArray) 1 0 3 ([]:(List ByteArray)) 0 0)]:List QD) ([(Q4.mk (⟨#[97]⟩:ByteArray) 0 ([]:QBg)),(Q4.mk (⟨#[98]⟩:ByteArray) 0 ([]:QBg))]:List Q4) ([(QF.mk (⟨#[116]⟩:ByteArray) ([(Qaw.mk (⟨#[120]⟩:ByteArray) 0)]:List Qaw) (Qh.mk 1 1 ([]:(List Qh))) 1 1 ([(Qat.mk 0 (Qh.mk 2 0 ([]:(List Qh))))]:List Qat) ([(Qat.mk 1 (Qh.mk 5 1 ([(Qh.mk 2 0 ([]:(List Qh))),(Qh.mk 1 1 ([]:(List Qh)))]:List Qh)))]:List Qat) ([]:(List Int)) 0 (0,0,0))]:List QF) 0 1))),3,.K [0] [0]] rfl ⟨⟨⟨⟨⟨⟨⟨⟨⟨⟨⟨⟨⟨⟨⟨⟨⟨⟨⟨⟨⟨⟨⟨⟨⟨⟨⟨tt_,rfl⟩,rfl⟩,rfl⟩,rfl⟩,rfl⟩,rfl⟩,rfl⟩,rfl⟩,rfl⟩,rfl⟩,rfl⟩,rfl⟩,rfl⟩,rfl⟩,rfl⟩,rfl⟩,rfl⟩,rfl⟩,rfl⟩,rfl⟩,rfl⟩,rfl⟩,rfl⟩,rfl⟩,rfl⟩,rfl⟩,rfl⟩ ?_
 cases h
 exact AK.done (ex_ [_] (an_ (an_ (ex_ _ (ex_ _ (an_ rfl (an_ rfl (Or.inl (an_ (Qo.ag rfl) (an_ (Qo.sz rfl) rfl))))))) tt_) (gives tt_)))
def Qfl (a:QLL):Option QLL:=
 some a
def Qn5 (b:Int)(a:Int)(c:(List Int)):Option ((Int×(List Int))⊕(List Int)):=
 bif (decide (a<b))then
 (chk (decide (c.length+([a]:List Int).length<=4294967296))).bind fun _=>
 some (.inl ((w64 (a+1)),(c++([a]:List Int))))
 else
 some (.inr c)
def Qn6 (a:(List Int)):Option QLL:=
 some ([a]:List (List Int))
def Qn7 (b:Int)(a:Int)(c:QLL):Option ((Int×QLL)⊕QLL):=
 bif (decide (a<b))then
 (chk (decide (c.length+([([a]:List Int)]:List (List Int)).length<=4294967296))).bind fun _=>
 some (.inl ((w64 (a+1)),(c++([([a]:List Int)]:List (List Int)))))
 else
 some (.inr c)
def QkU (a:QLL):Option QLL:=
 Qfl a
def QkV (a:Int)(b:(List Int)):Option ((Int×(List Int))⊕(List Int)):=
 some (.inl ((w64 (a+1)),b))
def Qn8 (c:Int)(set_33:Int)(a:Int)(b:(List Int)):Option ((Int×(List Int))⊕(List Int)):=
 bif (decide (a<c))then
 (chk (decide (0<=a))).bind fun _=>
 bif ((QdQ .i64 (Qen .i64 set_33 a) 1)==1)then
 (chk (decide (b.length+([a]:List Int).length<=4294967296))).bind fun _=>
 QkV a (b++([a]:List Int))
 else
 QkV a b
 else
 some (.inr b)
def Qn9 (a:QLL)(set_33:Int)(b:(List Int)):Option ((Int×QLL)⊕QLL):=
 (chk (decide (a.length+([b]:List (List Int)).length<=4294967296))).bind fun _=>
 some (.inl ((w64 (set_33+1)),(a++([b]:List (List Int)))))
def Qoa (a:Int)(set_33:Int)(b:QLL):Option ((Int×QLL)⊕QLL):=
 (chk (decide (0<=a))).bind fun _=>
 bif (decide (set_33<(QAp .i64 1 a)))then
 (Qz (fun st=>Qn8 a set_33 st.1 st.2) (0,([]:List Int))).bind (fun q=>Qn9 b set_33 q)
 else
 some (.inr b)
def QjR (a:QLL):Option QLL:=
 Qfl a
def Qay (b:Int)(a:Int):Option QLL:=
 bif ((decide (a<0))||((decide (16<a))||((b==3)&&(decide (4<a)))))then
 some ([]:List (List Int))
 else
 bif (b==1)then
 (Qz (fun st=>Qn5 a st.1 st.2) (0,([]:List Int))).bind (fun q=>Qn6 q)
 else
 bif (b==2)then
 (Qz (fun st=>Qn7 a st.1 st.2) (0,([]:List (List Int)))).bind (fun q=>QkU q)
 else
 bif (b==3)then
 (Qz (fun st=>Qoa a st.1 st.2) (1,([]:List (List Int)))).bind (fun q=>QjR q)
 else
 Qfl ([]:List (List Int))
theorem Qhb (d a){r}(h:Qay d a=some r):Qc prog 20 [.I d,.I a] [] (Gives (.own 600 r.length) [(600,.arr 1 (r.map Qu))]):=by
 refine wk_ 79 func20 fun C c=>?_
 unfold Qay at h
 refine tg_ c [7] ?_
 refine AK.meetX (fun σ=>σ=⟨[(0,.I d),(1,.I a),(25,.b ((decide (a<0))||((decide (16<a))||((d==3)&&(decide (4<a))))))],[]⟩) ?_ ?_
 ·refine tg_ c [4] ?_
  rcases QE (decide (a<0))with g | g
  ·refine Qa c [.S 14 (.b true),12,.S 25 (.b ((decide (a<0))||((decide (16<a))||((d==3)&&(decide (4<a)))))),.K [0,1,25] []] rfl ⟨(tc_ g),(congrArg V.b (orT g rfl))⟩ ?_
   exact mt_
  refine Qa c [.S 14 (.b false),4] rfl (tc_ g) ?_
  rcases QE (decide (16<a))with j | j
  ·refine Qa c [.S 18 (.b true),8,.S 25 (.b ((decide (a<0))||((decide (16<a))||((d==3)&&(decide (4<a)))))),.K [0,1,25] []] rfl ⟨(tc_ j),(congrArg V.b (orF g (orT j rfl)))⟩ ?_
   exact mt_
  refine Qa c [.S 18 (.b false),3] rfl (tc_ j) ?_
  rcases QE (d==3)with k | k
  ·refine Qa c [.S 21 (.b true),5,.S 25 (.b ((decide (a<0))||((decide (16<a))||((d==3)&&(decide (4<a)))))),.K [0,1,25] []] rfl ⟨(tc_ k),(congrArg V.b (orF g (orF j (Qaq k rfl))))⟩ ?_
   exact mt_
  refine Qa c [.S 21 (.b false),5,.S 25 (.b ((decide (a<0))||((decide (16<a))||((d==3)&&(decide (4<a)))))),.K [0,1,25] []] rfl ⟨(tc_ k),(congrArg V.b (orF g (orF j (Qa4 k rfl))))⟩ ?_
  exact mt_
 rintro σ rfl
 refine tg_ c [1] ?_
 refine bg_ h (fun G h=>Qa c [.T,7,.adopt 4 600 1,.O 600 (.arr 1 (([]:List (List Int)).map Qu)),.S 4 (.own 600 ([]:List (List Int)).length),.K [4] [600]] rfl (a3_ G rfl rfl) ?_) fun G h=>Qa c [.F,7] rfl (a1_ G) ?_
 ·cases h
  exact d1_ r1_
 refine AK.meet (fun σ=>∃z:QLL,σ=⟨[(5,.own 604 z.length)],[(604,.arr 1 (z.map Qu))]⟩/\Qfl z=some r) ?_ ?_
 ·refine tg_ c [12] ?_
  refine bg_ h (fun l h=>Qa c [.T,13,.adopt 6 33 1,.O 33 (.arr 1 (([]:List Int).map Qe)),.S 6 (.own 33 ([]:List Int).length),.K [6,29,30] [33]] rfl (a3_ l rfl (congrArg (fun n=>V.own 33 n) (by simp))) ?_) fun l h=>Qa c [.F,6] rfl (a1_ l) ?_
  ·obtain⟨A,J,h⟩:=Qb h
   refine AK.loop (body:=(fun st=>Qn5 a st.1 st.2)) (fun st σ=>σ=⟨[(6,.own 33 st.2.length),(29,.I a),(30,.I st.1)],[(33,.arr 1 (st.2.map Qe))]⟩) (fun q e σ=>e=.exit 1/\σ=⟨[(6,.own 33 q.length)],[(33,.arr 1 (q.map Qe))]⟩) J rfl ?_ ?_
   ·rintro ⟨H,L⟩ o σ rfl h
    refine tg_ c [6] ?_
    rcases Qm h with⟨m,h⟩|⟨m,h⟩
    ·obtain⟨M,h⟩:=QaV h
     refine Qa c [.T,13,.v (.bd []) [] (.sl 1 (([H]:List Int).map Qe)),.app ((L++([H]:List Int)).map Qe) (L++([H]:List Int)).length,8,.K [6,29,30] [33]] rfl (a3_ m rfl ⟨Qf,Qcw M Qf,Qa2,Qdc Qf⟩) ?_
     cases h
     exact QY rfl rfl
    refine Qa c [.F,2,.K [6] [33]] rfl (a1_ m) ?_
    cases h
    exact QZ rfl (an_ rfl rfl)
   replace h:Qn6 A=some r:=h
   rintro e σ ⟨rfl,rfl⟩
   refine Qa c [5,.frz 33 (A.map Qe) [6,38] [],1,.O 39 (.arr 1 (([A]:List (List Int)).map Qu)),.S 39 (.own 39 ([A]:List (List Int)).length),6,.K [4] [39],.ren 39 600] rfl (a3_ (a2_ (QeC Qf) (QeC Qf)) rfl rfl) ?_
   cases h
   exact d1_ r1_
  refine bg_ h (fun p h=>Qa c [.T,7,.adopt 5 46 1,.O 46 (.arr 1 (([]:List (List Int)).map Qu)),.S 5 (.own 46 ([]:List (List Int)).length),.K [5,42,43] [46]] rfl (a3_ p rfl (congrArg (fun n=>V.own 46 n) (by simp))) ?_) fun p h=>Qa c [.F,6] rfl (a1_ p) ?_
  ·obtain⟨a3,N,h⟩:=Qb h
   refine AK.loop (body:=(fun st=>Qn7 a st.1 st.2)) (fun st σ=>σ=⟨[(5,.own 46 st.2.length),(42,.I a),(43,.I st.1)],[(46,.arr 1 (st.2.map Qu))]⟩) (fun q e σ=>e=.exit 3/\σ=⟨[(5,.own 46 q.length)],[(46,.arr 1 (q.map Qu))]⟩) N rfl ?_ ?_
   ·rintro ⟨B,P⟩ o σ rfl h
    refine tg_ c [6] ?_
    rcases Qm h with⟨s,h⟩|⟨s,h⟩
    ·obtain⟨U,h⟩:=QaV h
     refine Qa c [.T,13,.v (.bd []) [] (.sl 1 (([B]:List Int).map Qe)),.v (.bd []) [] (.sl 1 (([([B]:List Int)]:List (List Int)).map Qu)),.app ((P++([([B]:List Int)]:List (List Int))).map Qu) (P++([([B]:List Int)]:List (List Int))).length,8,.K [5,42,43] [46]] rfl (a4_ s rfl rfl ⟨Qf,Qcw U Qf,Qa2,Qdc Qf⟩) ?_
     cases h
     exact QY rfl rfl
    refine Qa c [.F,2,.K [5] [46]] rfl (a1_ s) ?_
    cases h
    exact QZ rfl (an_ rfl rfl)
   replace h:QkU a3=some r:=h
   unfold QkU at h
   rintro e σ ⟨rfl,rfl⟩
   refine tg_ c [2,.ren 46 604,.K [5] [604]] ?_
   exact AK.met (ex_ _ (an_ rfl h))
  refine bg_ h (fun t h=>Qa c [.T,6,.adopt 5 74 1,.O 74 (.arr 1 (([]:List (List Int)).map Qu)),.S 5 (.own 74 ([]:List (List Int)).length),.K [1,5,9] [74]] rfl (a3_ t rfl (congrArg (fun n=>V.own 74 n) (by simp))) ?_) fun t h=>Qa c [.F,2,.adopt 5 604 1,.O 604 (.arr 1 (([]:List (List Int)).map Qu)),.S 5 (.own 604 ([]:List (List Int)).length),.K [5] [604]] rfl (a3_ t rfl (congrArg (fun n=>V.own 604 n) (by simp))) ?_
  ·obtain⟨a4,W,h⟩:=Qb h
   refine AK.loop (body:=(fun st=>Qoa a st.1 st.2)) (fun st σ=>σ=⟨[(1,.I a),(5,.own 74 st.2.length),(9,.I st.1)],[(74,.arr 1 (st.2.map Qu))]⟩) (fun q e σ=>e=.exit 5/\σ=⟨[(5,.own 74 q.length)],[(74,.arr 1 (q.map Qu))]⟩) W rfl ?_ ?_
   ·rintro ⟨set_33,f⟩ o σ rfl h
    obtain⟨X,h⟩:=QaV h
    refine Qa c [5,.o (.any (.I (QAp .i64 1 a)) none),3] rfl (a1_ (fun σ E h2 _=>Stp.shl rfl rfl (QR c.n rfl) (E _ _ rfl) (E _ _ rfl) (Qap X))) ?_
    refine bg_ h (fun u h=>Qa c [.T,17,.adopt 10 69 1,.O 69 (.arr 1 (([]:List Int).map Qe)),.S 10 (.own 69 ([]:List Int).length),.K [1,5,9,10,60,61] [69,74]] rfl (a3_ u rfl (congrArg (fun n=>V.own 69 n) (by simp))) ?_) fun u h=>Qa c [.F,2,.K [5] [74]] rfl (a1_ u) ?_
    ·obtain⟨w,Y,h⟩:=Qb h
     refine AK.loop (body:=(fun st=>Qn8 a set_33 st.1 st.2)) (fun st σ=>σ=⟨[(1,.I a),(5,.own 74 f.length),(9,.I set_33),(10,.own 69 st.2.length),(60,.I a),(61,.I st.1)],[(69,.arr 1 (st.2.map Qe)),(74,.arr 1 (f.map Qu))]⟩) (fun q e σ=>e=.exit 7/\σ=⟨[(1,.I a),(5,.own 74 f.length),(9,.I set_33),(10,.own 69 q.length)],[(69,.arr 1 (q.map Qe)),(74,.arr 1 (f.map Qu))]⟩) Y rfl ?_ ?_
     ·rintro ⟨i,Z⟩ o σ rfl h
      refine tg_ c [6] ?_
      refine bq_ c h [.T,2] rfl (fun x h=>?_) [.F,2,.K [1,5,9,10] [69,74]] rfl fun x h=>?_
      ·refine AK.meet (fun σ=>∃D:(List Int),σ=⟨[(1,.I a),(5,.own 74 f.length),(9,.I set_33),(10,.own 69 D.length),(60,.I a),(61,.I i)],[(69,.arr 1 (D.map Qe)),(74,.arr 1 (f.map Qu))]⟩/\QkV i D=some o) ?_ ?_
       ·obtain⟨a0,h⟩:=QaV h
        refine Qa c [11,.o (.any (.I (Qen .i64 set_33 i)) none),.o (.any (.I (QdQ .i64 (Qen .i64 set_33 i) 1)) none),3] rfl (a2_ (fun σ E h2 _=>Stp.shr rfl rfl (QR c.n rfl) (E _ _ rfl) (E _ _ rfl) (Qap a0)) (fun σ E h2 _=>Stp.andB rfl rfl (QR c.n rfl) (E _ _ rfl) (E _ _ rfl))) ?_
        rcases Qm h with⟨y,h⟩|⟨y,h⟩
        ·obtain⟨a1,h⟩:=QaV h
         refine Qa c [.T,3,.v (.bd []) [] (.sl 1 (([i]:List Int).map Qe)),.app ((Z++([i]:List Int)).map Qe) (Z++([i]:List Int)).length,3,.K [1,5,9,10,60,61] [69,74]] rfl (a3_ y rfl ⟨Qf,Qcw a1 Qf,Qa2,Qdc Qf⟩) ?_
         exact AK.met (ex_ _ (an_ rfl h))
        refine Qa c [.F,2,.K [1,5,9,10,60,61] [69,74]] rfl (a1_ y) ?_
        exact AK.met (ex_ _ (an_ rfl h))
       rintro σ ⟨D,rfl,h⟩
       refine tg_ c [4,.K [1,5,9,10,60,61] [69,74]] ?_
       cases h
       exact QY rfl rfl
      cases h
      exact QZ rfl (an_ rfl rfl)
     replace h:Qn9 f set_33 w=some o:=h
     rintro e σ ⟨rfl,rfl⟩
     obtain⟨a2,h⟩:=QaV h
     refine Qa c [5,.frz 69 (w.map Qe) [10,75] [],.v (.bd []) [] (.sl 1 (([w]:List (List Int)).map Qu)),.app ((f++([w]:List (List Int))).map Qu) (f++([w]:List (List Int))).length,9,.K [1,5,9] [74]] rfl (a3_ (a2_ (QeC Qf) (QeC Qf)) rfl ⟨Qf,Qcw a2 Qf,Qa2,Qdc Qf⟩) ?_
     cases h
     exact QY rfl rfl
    cases h
    exact QZ rfl (an_ rfl rfl)
   replace h:QjR a4=some r:=h
   unfold QjR at h
   rintro e σ ⟨rfl,rfl⟩
   refine tg_ c [2,.ren 74 604,.K [5] [604]] ?_
   exact AK.met (ex_ _ (an_ rfl h))
  exact AK.met (ex_ _ (an_ rfl h))
 rintro σ ⟨z,rfl,h⟩
 refine tg_ c [7,.K [4] [604],.ren 604 600] ?_
 cases h
 exact d1_ r1_
def Qqt (a:Qn)(b:QF):Option (Qn×QF):=
 some (a,b)
theorem QtX (a b){r}(h:Qqt a b=some r):Qc prog 26 [.agg (Qd a),.agg (Qj b)] [] (Gives (.clo (.func 62) [] [.L 3,.L 2]) [(2,.var (Qd r.1)),(3,.var (Qj r.2))]):=by
 refine wk_ 6 func26 fun C c=>?_
 refine tg_ c [14] ?_
 cases h
 exact d1_ r2_
def QaN (a:(List Int)):Option (List Int):=
 (chk (decide ((([]:List Int).length+a.length)*8<=140737488355328))).bind fun _=>
 some (([]:List Int)++a)
theorem Qcy (b){r}(h:QaN b=some r):Qc prog 34 [.sl 1 (b.map Qe)] [] (Gives (.own 600 r.length) [(600,.arr 1 (r.map Qe))]):=by
 refine wk_ 8 func34 fun C a=>?_
 unfold QaN at h
 refine tg_ a [9] ?_
 refine AK.eqNil rfl rfl rfl (QR a.n rfl) rfl rfl QDT ?_ ?_
 ·intro c
  replace h:some ([]:List Int)=some r:=by simpa [chk,List.map_eq_nil_iff.1 c] using h
  refine Qa a [10,.adopt 2 600 1,.O 600 (.arr 1 (([]:List Int).map Qe)),.S 2 (.own 600 ([]:List Int).length)] rfl (a2_ rfl rfl) ?_
  cases h
  exact d1_ r1_
 obtain⟨d,h⟩:=QaV h
 refine Qa a [8,.O 5 (.arr 1 (([]:List Int).map Qe)),.S 5 (.own 5 ([]:List Int).length),1,.x (fun σ=>σ.app 5 1 7 (([]:List Int)++b).length ((([]:List Int)++b).map Qe)),4,.K [2] [5],.ren 5 600] rfl (a3_ rfl rfl (Stp.appSB (by_:=8) (zs:=[.I 0]) (e:=3) (e':=3) (z':=1) (by':=8) rfl rfl (QR a.n rfl) rfl rfl rfl Qf (by kernel_rfl) (by kernel_rfl) (by kernel_rfl) rfl (by decide) (by decide) (QzR d Qf) rfl Qa2 (Qdc Qf))) ?_
 cases h
 exact d1_ r1_
def Qgw (a:Int)(b:Int):Option Int:=
 bif (decide (b<a))then
 some 0
 else
 some (w64 ((w64 (min2 (IntKind.u64.wrap ((IntKind.u64.wrap b)-(IntKind.u64.wrap a))) 1024))+1))
theorem QvH (a b){r}(h:Qgw a b=some r):Qc prog 220 [.I a,.I b] [] (Gives (.I r) []):=by
 refine wk_ 16 func220 fun C d=>?_
 refine tg_ d [13] ?_
 refine bg_ h (fun c h=>Qa d [.T,7,.K [4] []] rfl (a1_ c) ?_) fun c h=>Qa d [.F,5,.o (.any (.i .u64 (IntKind.u64.wrap b)) none),1,.o (.any (.i .u64 (IntKind.u64.wrap a)) none),2,.o (.any (.I (w64 (min2 (IntKind.u64.wrap ((IntKind.u64.wrap b)-(IntKind.u64.wrap a))) 1024))) none),5,.K [4] []] rfl (a4_ c (fun σ e f _=>Stp.convI rfl rfl (QR d.n rfl) (e _ _ rfl) Qzd QtW) (fun σ e f _=>Stp.convI rfl rfl (QR d.n rfl) (e _ _ rfl) Qzd QtW) (fun σ e f _=>Stp.convI rfl rfl (QR d.n rfl) (e _ _ rfl) QtW Qzd)) ?_
 ·cases h
  exact d1_ tt_
 cases h
 exact d1_ tt_
def QdV (a:Int):Option Bool:=
 some (bif (decide (97<=a))then((decide (a<=122))||((decide (65<=a))&&(decide (a<=90))))else((decide (65<=a))&&(decide (a<=90))))
theorem QnE (a){r}(h:QdV a=some r):Qc prog 193 [.i .u8 a] [] (Gives (.b r) []):=by
 refine wk_ 17 func193 fun C e=>?_
 unfold QdV at h
 refine tg_ e [6] ?_
 refine AK.meetX (fun σ=>σ=⟨[(2,.b (bif (decide (97<=a))then((decide (a<=122))||((decide (65<=a))&&(decide (a<=90))))else((decide (65<=a))&&(decide (a<=90)))))],[]⟩) ?_ ?_
 ·refine tg_ e [4] ?_
  rcases QE (decide (97<=a))with c | c
  ·refine Qa e [.S 5 (.b true),4] rfl (tc_ c) ?_
   rcases QE (decide (a<=122))with d | d
   ·refine Qa e [.S 9 (.b true),9,.S 2 (.b (bif (decide (97<=a))then((decide (a<=122))||((decide (65<=a))&&(decide (a<=90))))else((decide (65<=a))&&(decide (a<=90))))),.K [2] []] rfl ⟨(tc_ d),(congrArg V.b (QlM c (orT d rfl)))⟩ ?_
    exact mt_
   refine Qa e [.S 9 (.b false),3] rfl (tc_ d) ?_
   rcases QE (decide (65<=a))with f | f
   ·refine Qa e [.S 12 (.b true),6,.S 2 (.b (bif (decide (97<=a))then((decide (a<=122))||((decide (65<=a))&&(decide (a<=90))))else((decide (65<=a))&&(decide (a<=90))))),.K [2] []] rfl ⟨(tc_ f),(congrArg V.b (QlM c (orF d (Qaq f rfl))))⟩ ?_
    exact mt_
   refine Qa e [.S 12 (.b false),6,.S 2 (.b (bif (decide (97<=a))then((decide (a<=122))||((decide (65<=a))&&(decide (a<=90))))else((decide (65<=a))&&(decide (a<=90))))),.K [2] []] rfl ⟨(tc_ f),(congrArg V.b (QlM c (orF d (Qa4 f rfl))))⟩ ?_
   exact mt_
  refine Qa e [.S 5 (.b false),7] rfl (tc_ c) ?_
  rcases QE (decide (65<=a))with g | g
  ·refine Qa e [.S 12 (.b true),6,.S 2 (.b (bif (decide (97<=a))then((decide (a<=122))||((decide (65<=a))&&(decide (a<=90))))else((decide (65<=a))&&(decide (a<=90))))),.K [2] []] rfl ⟨(tc_ g),(congrArg V.b (Qq9 c (Qaq g rfl)))⟩ ?_
   exact mt_
  refine Qa e [.S 12 (.b false),6,.S 2 (.b (bif (decide (97<=a))then((decide (a<=122))||((decide (65<=a))&&(decide (a<=90))))else((decide (65<=a))&&(decide (a<=90))))),.K [2] []] rfl ⟨(tc_ g),(congrArg V.b (Qq9 c (Qa4 g rfl)))⟩ ?_
  exact mt_
 rintro σ rfl
 refine tg_ e [2] ?_
 cases h
 exact d1_ tt_
def QhY (a:ByteArray):Option Bool:=
 bif (QbW a (⟨#[]⟩:ByteArray))then
 some true
 else
 bif (decide (32<(a.size:Int)))then
 some true
 else
 (sidx a 0).bind fun b=>
 (QdV b).bind fun c=>
 some (!c)
def QlP (a:Int):Option Bool:=
 (QdV a).bind fun b=>
 bif (!b)then
 bif (decide (a<48))then
 some (a != 95)
 else
 bif (decide (57<a))then
 some (a != 95)
 else
 some false
 else
 some false
def QfX (a:Int)(b:Bool):Option (Int⊕(Unit⊕Unit)):=
 bif b then
 some (.inr (.inl ()))
 else
 some (.inl (w64 (a+1)))
def Qdu (d:ByteArray)(a:Int):Option (Int⊕(Unit⊕Unit)):=
 bif (decide (a<(d.size:Int)))then
 (sidx d a).bind fun b=>
 (QlP b).bind (fun c=>QfX a c)
 else
 some (.inr (.inr ()))
def QhZ : Option Bool:=
 some false
def Qh0 : Option Bool:=
 some true
def QfY (a:ByteArray)(b:Bool):Option Bool:=
 bif b then
 some false
 else
 (Qz (fun st=>Qdu a st) 0).bind (Sum.elim (fun q=>QhZ) (fun q=>Qh0))
def Qdn (a:ByteArray):Option Bool:=
 (QhY a).bind (fun b=>QfY a b)
theorem QlQ (m){r}(h:Qdn m=some r):Qc prog 143 [.s m] [] (Gives (.b r) []):=by
 refine wk_ 42 func143 fun C a=>?_
 refine tg_ a [7] ?_
 obtain⟨A,B,h⟩:=Qb h
 replace h:QfY m A=some r:=h
 refine AK.meetX (fun σ=>σ=⟨[(0,.s m),(17,.b A)],[]⟩) ?_ ?_
 ·replace h:=B
  refine tg_ a [4] ?_
  refine bg_ h (fun p h=>Qa a [.S 7 (.b true),11,.K [0,17] []] rfl (tc_ p) ?_) fun p h=>Qa a [.S 7 (.b false),5] rfl (tc_ p) ?_
  ·cases h
   exact mt_
  rcases Qm h with⟨t,h⟩|⟨t,h⟩
  ·refine Qa a [.S 12 (.b true),6,.K [0,17] []] rfl (tc_ t) ?_
   cases h
   exact mt_
  obtain⟨L,D,h⟩:=Qb h
  obtain⟨M,E,h⟩:=Qb h
  refine Qa a [.S 12 (.b false),1,.o (.num L),.o (.C1 (.b M)),3,.K [0,17] []] rfl ⟨⟨(tc_ t),D⟩,(QnE _ E)⟩ ?_
  cases h
  exact mt_
 rintro σ rfl
 replace h:QfY m A=some r:=h
 refine tg_ a [1] ?_
 refine bq_ a h [.T,7,.K [2] []] rfl (fun f h=>?_) [.F,11,.K [0,19,20] []] rfl fun f h=>?_
 ·cases h
  exact d1_ tt_
 obtain⟨G,w,h⟩:=Qb h
 refine AK.loop (body:=(fun st=>Qdu m st)) (fun st σ=>σ=⟨[(0,.s m),(19,.I (m.size:Int)),(20,.I st)],[]⟩) (Sum.elim (fun q e σ=>e=.ret/\σ=⟨[(2,.b false)],[]⟩) (fun q e σ=>e=.exit 0/\σ=⟨[],[]⟩)) w rfl ?_ ?_
 ·rintro u o σ rfl h
  refine tg_ a [6] ?_
  rcases Qm h with⟨g,h⟩|⟨g,h⟩
  ·obtain⟨H,x,h⟩:=Qb h
   refine Qa a [.T,14,.o (.num H),4] rfl (a2_ g x) ?_
   obtain⟨v,y,h⟩:=Qb h
   replace h:QfX u v=some o:=h
   refine AK.meetX (fun σ=>σ=⟨[(0,.s m),(19,.I (m.size:Int)),(20,.I u),(40,.b v)],[]⟩) ?_ ?_
   ·replace h:=y
    obtain⟨J,z,h⟩:=Qb h
    refine Qa a [2,.o (.C1 (.b J)),2] rfl (a1_ (QnE _ z)) ?_
    refine bg_ h (fun i h=>Qa a [.S 29 (.b true),3] rfl (tc_ i) ?_) fun i h=>Qa a [.S 29 (.b false),12,.K [0,19,20,40] []] rfl (tc_ i) ?_
    ·refine bg_ h (fun j h=>Qa a [.S 32 (.b true),9,.K [0,19,20,40] []] rfl (tc_ j) ?_) fun j h=>Qa a [.S 32 (.b false),5] rfl (tc_ j) ?_
     ·cases h
      exact mt_
     refine bg_ h (fun k h=>Qa a [.S 37 (.b true),4,.K [0,19,20,40] []] rfl (tc_ k) ?_) fun k h=>Qa a [.S 37 (.b false),4,.K [0,19,20,40] []] rfl (tc_ k) ?_
     ·cases h
      exact mt_
     cases h
     exact mt_
    cases h
    exact mt_
   rintro σ rfl
   replace h:QfX u v=some o:=h
   refine tg_ a [1] ?_
   refine bq_ a h [.T,8,.K [2] []] rfl (fun l h=>?_) [.F,7,.K [0,19,20] []] rfl fun l h=>?_
   ·cases h
    exact Qah rfl (an_ rfl rfl)
   cases h
   exact QY rfl rfl
  refine Qa a [.F,2,.K [] []] rfl (a1_ g) ?_
  cases h
  exact QZ rfl (an_ rfl rfl)
 rcases G with(_ | _)
 ·replace h:QhZ=some r:=h
  rintro e σ ⟨rfl,rfl⟩
  refine tg_ a [2] ?_
  cases h
  exact d1_ tt_
 replace h:Qh0=some r:=h
 rintro e σ ⟨rfl,rfl⟩
 refine tg_ a [8] ?_
 cases h
 exact d1_ tt_
def QkW (a:ByteArray)(c:QSB):Option Bool:=
 (Qdn a).bind fun b=>
 bif (!b)then
 some true
 else
 some ((Q0 c a).getD false)
def Qfm (c:Int)(d:QSB)(a:ByteArray)(b:Bool):Option ((Int×QSB)⊕(Unit⊕Unit)):=
 bif b then
 some (.inr (.inl ()))
 else
 some (.inl ((w64 (c+1)),(QcX ltS d a true)))
def Qcn (d:(List ByteArray))(b:Int)(e:QSB):Option ((Int×QSB)⊕(Unit⊕Unit)):=
 bif (decide (b<(d.length:Int)))then
 (idx d b).bind fun a=>
 (QkW a e).bind (fun c=>Qfm b e a c)
 else
 some (.inr (.inr ()))
def Qhc : Option Bool:=
 some false
def Qhd : Option Bool:=
 some true
def QfM (a:(List ByteArray)):Option Bool:=
 (Qz (fun st=>Qcn a st.1 st.2) (0,([]:QSB))).bind (Sum.elim (fun q=>Qhc) (fun q=>Qhd))
theorem QuT (m){r}(h:QfM m=some r):Qc prog 221 [.sl 1 (m.map Qcx)] [] (Gives (.b r) []):=by
 refine wk_ 24 func221 fun C g=>?_
 refine Qa g [8,.O 6 (.map (QW V.s V.b ([]:QSB))),7,.o (.ln m.length),4,.K [3,7,8,9] [6]] rfl (a2_ rfl Qf) ?_
 obtain⟨D,w,h⟩:=Qb h
 refine AK.loop (body:=(fun st=>Qcn m st.1 st.2)) (fun st σ=>σ=⟨[(3,.map 6),(7,.sl 1 (m.map Qcx)),(8,.I (m.length:Int)),(9,.I st.1)],[(6,.map (QW V.s V.b st.2))]⟩) (Sum.elim (fun q e σ=>e=.ret/\σ=⟨[(2,.b false)],[]⟩) (fun q e σ=>e=.exit 0/\σ=⟨[],[]⟩)) w rfl ?_ ?_
 ·rintro ⟨E,p⟩ o σ rfl h
  refine tg_ g [6] ?_
  rcases Qm h with⟨t,h⟩|⟨t,h⟩
  ·obtain⟨a,y,h⟩:=Qb h
   refine Qa g [.T,6,.o (.row (Qcx a)),6] rfl (a2_ t (QJ y)) ?_
   obtain⟨u,A,h⟩:=Qb h
   replace h:Qfm E p a u=some o:=h
   refine AK.meetX (fun σ=>σ=⟨[(3,.map 6),(5,.s a),(7,.sl 1 (m.map Qcx)),(8,.I (m.length:Int)),(9,.I E),(20,.b u)],[(6,.map (QW V.s V.b p))]⟩) ?_ ?_
   ·replace h:=A
    obtain⟨G,B,h⟩:=Qb h
    refine Qa g [2,.o (.C1 (.b G)),2] rfl (a1_ (QlQ _ B)) ?_
    refine bg_ h (fun i h=>Qa g [.S 16 (.b true),5,.K [3,5,7,8,9,20] [6]] rfl (tc_ i) ?_) fun i h=>Qa g [.S 16 (.b false),2,.o (.any (.b ((Q0 p a).getD false)) none),2,.K [3,5,7,8,9,20] [6]] rfl ⟨(tc_ i),(fun σ H J _=>Stp.lookup (e:=V.s) (f:=V.b) (l:=p) (k:=a) (z:=false) rfl rfl (QR g.n rfl) (H _ _ rfl) (J _ _ rfl) (H _ _ rfl) QwK QAz QDu rfl)⟩ ?_
    ·cases h
     exact mt_
    cases h
    exact mt_
   rintro σ rfl
   replace h:Qfm E p a u=some o:=h
   refine tg_ g [1] ?_
   refine bg_ h (fun j h=>Qa g [.T,9,.K [2] []] rfl (a1_ j) ?_) fun j h=>Qa g [.F,5,.x (fun σ=>σ.set 6 (.map (QW V.s V.b (QcX ltS p a true)))),7,.K [3,7,8,9] [6]] rfl (a2_ j (Stp.mapUpdate (e:=V.s) (f:=V.b) (l:=p) (k:=a) (v:=true) ltS rfl rfl rfl rfl rfl rfl QwK QAz rfl)) ?_
   ·cases h
    exact Qah rfl (an_ rfl rfl)
   cases h
   exact QY rfl rfl
  refine Qa g [.F,2,.K [] []] rfl (a1_ t) ?_
  cases h
  exact QZ rfl (an_ rfl rfl)
 rcases D with(_ | _)
 ·replace h:Qhc=some r:=h
  rintro e σ ⟨rfl,rfl⟩
  refine tg_ g [2] ?_
  cases h
  exact d1_ tt_
 replace h:Qhd=some r:=h
 rintro e σ ⟨rfl,rfl⟩
 refine tg_ g [8] ?_
 cases h
 exact d1_ tt_
def Qdv : Option Int:=
 some 0
def Qgx (b:QD)(a:(List Int)):Option Int:=
 bif (b.Kind==1)then
 (Qgw b.Lo b.Hi).bind fun e=>
 some e
 else
 bif (b.Kind==2)then
 (QfM b.Names).bind fun f=>
 bif f then
 some (b.Names.length:Int)
 else
 Qdv
 else
 bif (b.Kind==3)then
 bif ((decide (0<=(min2 b.First b.Then)))&&(decide ((max2 b.First b.Then)<(a.length:Int))))then
 (idx a b.First).bind fun c=>
 (idx a b.Then).bind fun d=>
 some (w64 (c*d))
 else
 Qdv
 else
 Qdv
theorem QvI (g e){r}(h:Qgx g e=some r):Qc prog 196 [.agg (Qq g),.sl 1 (e.map Qe)] [] (Gives (.I r) []):=by
 refine wk_ 51 func196 fun C f=>?_
 refine tg_ f [6] ?_
 refine AK.meet (fun σ=>σ=⟨[],[]⟩/\Qdv=some r) ?_ ?_
 ·refine tg_ f [13] ?_
  rcases Qm h with⟨l,h⟩|⟨l,h⟩
  ·obtain⟨x,t,h⟩:=Qb h
   refine Qa f [.T,6,.o (.C2 (.I x)),6] rfl (a2_ l (QvH _ _ t)) ?_
   cases h
   exact d1_ tt_
  refine Qa f [.F,6] rfl (a1_ l) ?_
  rcases Qm h with⟨m,h⟩|⟨m,h⟩
  ·obtain⟨y,u,h⟩:=Qb h
   refine Qa f [.T,4,.o (.C1 (.b y)),2] rfl (a2_ m (QuT _ u)) ?_
   refine bg_ h (fun p h=>Qa f [.T,4,.o (.ln g.Names.length),6,.K [4] []] rfl (a2_ p Qf) ?_) fun p h=>Qa f [.F,2,.K [] []] rfl (a1_ p) ?_
   ·cases h
    exact d1_ tt_
   exact AK.met (an_ rfl h)
  refine Qa f [.F,6] rfl (a1_ m) ?_
  refine bq_ f h [.T,1] rfl (fun j h=>?_) [.F,2,.K [] []] rfl fun j h=>?_
  ·refine AK.meetX (fun σ=>σ=⟨[(1,.sl 1 (e.map Qe)),lk_ 2,(39,.b ((decide (0<=(min2 g.First g.Then)))&&(decide ((max2 g.First g.Then)<(e.length:Int)))))],[(2,.var (Qq g))]⟩) ?_ ?_
   ·refine tg_ f [8] ?_
    rcases QE (decide (0<=(min2 g.First g.Then)))with i | i
    ·refine Qa f [.S 30 (.b true),6,.o (.ln e.length),3,.S 39 (.b ((decide (0<=(min2 g.First g.Then)))&&(decide ((max2 g.First g.Then)<(e.length:Int))))),.K [1,2,39] [2]] rfl ⟨⟨(tc_ i),Qf⟩,(congrArg V.b (Qaq i rfl))⟩ ?_
     exact mt_
    refine Qa f [.S 30 (.b false),10,.S 39 (.b ((decide (0<=(min2 g.First g.Then)))&&(decide ((max2 g.First g.Then)<(e.length:Int))))),.K [1,2,39] [2]] rfl ⟨(tc_ i),(congrArg V.b (Qa4 i rfl))⟩ ?_
    exact mt_
   rintro σ rfl
   refine tg_ f [1] ?_
   rcases Qm h with⟨k,h⟩|⟨k,h⟩
   ·obtain⟨v,q,h⟩:=Qb h
    obtain⟨w,s,h⟩:=Qb h
    refine Qa f [.T,1,.K [1,2] [2]] rfl (a1_ k) ?_
    refine AK.draw2 Qo f mixed [.N,.N,.N,.a (.row (Qe v)) none false,.N,.N,.N,.N,.a (.row (Qe w)) none false,.N,.N,.N] [] [] [4] [] rfl rfl rfl ⟨⟨tt_,(QJ q)⟩,(QJ s)⟩ rfl (by kernel_rfl) rfl rfl rfl ?_
    refine tg_ f [4] ?_
    cases h
    exact d1_ tt_
   refine Qa f [.F,2,.K [] []] rfl (a1_ k) ?_
   exact AK.met (an_ rfl h)
  exact AK.met (an_ rfl h)
 rintro σ ⟨rfl,h⟩
 refine tg_ f [6] ?_
 cases h
 exact d1_ tt_
def QkX (a:QD)(d:QSB)(b:Int):Option Bool:=
 (Qdn a.Name).bind fun c=>
 bif (!c)then
 some true
 else
 bif ((Q0 d a.Name).getD false)then
 some true
 else
 bif (decide (b<1))then
 some true
 else
 some (decide (1024<b))
def Qfn (a:(List Int))(b:Int)(e:Int)(f:QSB)(c:QD)(d:Bool):Option ((Int×QSB×(List Int))⊕(Unit⊕(List Int))):=
 bif d then
 some (.inr (.inl ()))
 else
 (chk (decide (a.length+([b]:List Int).length<=4294967296))).bind fun _=>
 some (.inl ((w64 (e+1)),(QcX ltS f c.Name true),(a++([b]:List Int))))
def Qco (f:(List QD))(d:Int)(g:QSB)(a:(List Int)):Option ((Int×QSB×(List Int))⊕(Unit⊕(List Int))):=
 bif (decide (d<(f.length:Int)))then
 (idx f d).bind fun b=>
 (Qgx b a).bind fun c=>
 (QkX b g c).bind (fun e=>Qfn a c d g b e)
 else
 some (.inr (.inr a))
def Qob : Option ((List Int)×Bool):=
 some (([]:List Int),false)
def Qoc (a:(List Int)):Option ((List Int)×Bool):=
 some (a,true)
def QeD (a:(List QD)):Option ((List Int)×Bool):=
 bif (decide (32<(a.length:Int)))then
 some (([]:List Int),false)
 else
 (Qz (fun st=>Qco a st.1 st.2.1 st.2.2) (0,([]:QSB),([]:List Int))).bind (Sum.elim (fun q=>Qob) (fun q=>Qoc q))
theorem Qod (y){r}(h:QeD y=some r):Qc prog 146 [.sl 7 (y.map Qq)] [] (Gives (.tup [.sl 1 (r.1.map Qe),.b r.2]) []):=by
 refine wk_ 49 func146 fun C g=>?_
 refine Qa g [10,.o (.ln y.length),3] rfl (a1_ Qf) ?_
 refine bg_ h (fun A h=>Qa g [.T,8,.denil 2 [some 1],.K [2,3] []] rfl (a1_ A) ?_) fun A h=>Qa g [.F,5,.O 12 (.map (QW V.s V.b ([]:QSB))),12,.o (.ln y.length),4,.adopt 5 43 1,.O 43 (.arr 1 (([]:List Int).map Qe)),.S 5 (.own 43 ([]:List Int).length),.K [4,5,13,14,15] [12,43]] rfl (a5_ A rfl Qf rfl (congrArg (fun n=>V.own 43 n) (by simp))) ?_
 ·cases h
  exact d2_ tt_
 obtain⟨P,E,h⟩:=Qb h
 refine AK.loop (body:=(fun st=>Qco y st.1 st.2.1 st.2.2)) (fun st σ=>σ=⟨[(4,.map 12),(5,.own 43 st.2.2.length),(13,.sl 7 (y.map Qq)),(14,.I (y.length:Int)),(15,.I st.1)],[(12,.map (QW V.s V.b st.2.1)),(43,.arr 1 (st.2.2.map Qe))]⟩) (Sum.elim (fun q e σ=>e=.ret/\σ=⟨[(2,.lit (.slice none 0 0)),(3,.b false)],[]⟩) (fun q e σ=>e=.exit 0/\σ=⟨[(5,.own 43 q.length)],[(43,.arr 1 (q.map Qe))]⟩)) E rfl ?_ ?_
 ·rintro ⟨U,B,i⟩ o σ rfl h
  refine tg_ g [6] ?_
  rcases Qm h with⟨m,h⟩|⟨m,h⟩
  ·obtain⟨a,G,h⟩:=Qb h
   obtain⟨j,H,h⟩:=Qb h
   refine Qa g [.T,6,.o (.row (Qq a)),.A (Qq a),2,.O 7 (.var (Qq a)),4,.A (Qq a),1,.o (.c true [.d,.o (i.map Qe)] (.I j)),5] rfl (a6_ m (QJ G) rfl rfl rfl ⟨(QoY rfl),(QvI _ _ H)⟩) ?_
   obtain⟨D,J,h⟩:=Qb h
   replace h:Qfn i j U B a D=some o:=h
   refine AK.meetX (fun σ=>σ=⟨[(4,.map 12),(5,.own 43 i.length),lk_ 7,(8,.I j),(13,.sl 7 (y.map Qq)),(14,.I (y.length:Int)),(15,.I U),(39,.b D)],[(7,.var (Qq a)),(12,.map (QW V.s V.b B)),(43,.arr 1 (i.map Qe))]⟩) ?_ ?_
   ·replace h:=J
    obtain⟨W,L,h⟩:=Qb h
    refine Qa g [3,.o (.C1 (.b W)),2] rfl (a1_ (QlQ _ L)) ?_
    refine bg_ h (fun p h=>Qa g [.S 26 (.b true),14,.K [4,5,7,8,13,14,15,39] [7,12,43]] rfl (tc_ p) ?_) fun p h=>Qa g [.S 26 (.b false),3,.o (.any (.b ((Q0 B a.Name).getD false)) none),2] rfl ⟨(tc_ p),(fun σ X Y _=>Stp.lookup (e:=V.s) (f:=V.b) (l:=B) (k:=a.Name) (z:=false) rfl rfl (QR g.n rfl) (X _ _ rfl) (Y _ _ rfl) (X _ _ rfl) QwK QAz QDu rfl)⟩ ?_
    ·cases h
     exact mt_
    refine bg_ h (fun t h=>Qa g [.S 32 (.b true),8,.K [4,5,7,8,13,14,15,39] [7,12,43]] rfl (tc_ t) ?_) fun t h=>Qa g [.S 32 (.b false),4] rfl (tc_ t) ?_
    ·cases h
     exact mt_
    refine bg_ h (fun u h=>Qa g [.S 36 (.b true),4,.K [4,5,7,8,13,14,15,39] [7,12,43]] rfl (tc_ u) ?_) fun u h=>Qa g [.S 36 (.b false),4,.K [4,5,7,8,13,14,15,39] [7,12,43]] rfl (tc_ u) ?_
    ·cases h
     exact mt_
    cases h
    exact mt_
   rintro σ rfl
   replace h:Qfn i j U B a D=some o:=h
   refine tg_ g [1] ?_
   rcases Qm h with⟨w,h⟩|⟨w,h⟩
   ·refine Qa g [.T,10,.K [2,3] []] rfl (a1_ w) ?_
    cases h
    exact Qah rfl (an_ rfl rfl)
   obtain⟨M,h⟩:=QaV h
   refine Qa g [.F,7,.x (fun σ=>σ.set 12 (.map (QW V.s V.b (QcX ltS B a.Name true)))),5,.v (.bd []) [] (.sl 1 (([j]:List Int).map Qe)),.app ((i++([j]:List Int)).map Qe) (i++([j]:List Int)).length,8,.K [4,5,13,14,15] [12,43]] rfl (a4_ w (Stp.mapUpdate (e:=V.s) (f:=V.b) (l:=B) (k:=a.Name) (v:=true) ltS rfl rfl rfl rfl rfl rfl QwK QAz rfl) rfl ⟨Qf,Qcw M Qf,Qa2,Qdc Qf⟩) ?_
   cases h
   exact QY rfl rfl
  refine Qa g [.F,2,.K [5] [43]] rfl (a1_ m) ?_
  cases h
  exact QZ rfl (an_ rfl rfl)
 rcases P with(_ | N)
 ·replace h:Qob=some r:=h
  rintro e σ ⟨rfl,rfl⟩
  refine tg_ g [2,.denil 2 [some 1]] ?_
  cases h
  exact d2_ tt_
 replace h:Qoc N=some r:=h
 rintro e σ ⟨rfl,rfl⟩
 refine Qa g [10,.frz 43 (N.map Qe) [2] []] rfl (a1_ (a1_ (QeC Qf))) ?_
 cases h
 exact d2_ tt_
def Qdg (a:(List QD))(b:Int):Option (Bool×QaA):=
 (QeD a).bind fun c=>
 bif ((!c.2)||((decide (b<0))||(decide ((a.length:Int)<=b))))then
 some (false,(QaA.mk ([]:(List QD)) ([]:(List Int)) 0))
 else
 some (true,(QaA.mk a c.1 b))
theorem Qm1 (i e){r}(h:Qdg i e=some r):Qc prog 124 [.sl 7 (i.map Qq),.I e] [] (Gives (.tup [.agg (Q6 r.2),.b r.1]) []):=by
 refine wk_ 30 func124 fun C k=>?_
 obtain⟨j,l,h⟩:=Qb h
 refine Qa k [9,.o (.C1 (.tup [.sl 1 (j.1.map Qe),.b j.2])),9] rfl (a1_ (Qod _ l)) ?_
 refine AK.meetX (fun σ=>σ=⟨[(0,.sl 7 (i.map Qq)),(1,.I e),lk_ 4,(6,.sl 1 (j.1.map Qe)),(24,.b ((!j.2)||((decide (e<0))||(decide ((i.length:Int)<=e)))))],[(4,.var [.lit (.slice none 0 0),.lit (.slice none 0 0),.I 0])]⟩) ?_ ?_
 ·refine tg_ k [4] ?_
  rcases QE (!j.2)with f | f
  ·refine Qa k [.S 15 (.b true),10,.S 24 (.b ((!j.2)||((decide (e<0))||(decide ((i.length:Int)<=e))))),.K [0,1,4,6,24] [4]] rfl ⟨(tc_ f),(congrArg V.b (orT f rfl))⟩ ?_
   exact mt_
  refine Qa k [.S 15 (.b false),4] rfl (tc_ f) ?_
  rcases QE (decide (e<0))with a | a
  ·refine Qa k [.S 19 (.b true),6,.S 24 (.b ((!j.2)||((decide (e<0))||(decide ((i.length:Int)<=e))))),.K [0,1,4,6,24] [4]] rfl ⟨(tc_ a),(congrArg V.b (orF f (orT a rfl)))⟩ ?_
   exact mt_
  refine Qa k [.S 19 (.b false),2,.o (.ln i.length),3,.S 24 (.b ((!j.2)||((decide (e<0))||(decide ((i.length:Int)<=e))))),.K [0,1,4,6,24] [4]] rfl ⟨⟨(tc_ a),Qf⟩,(congrArg V.b (orF f (orF a rfl)))⟩ ?_
  exact mt_
 rintro σ rfl
 refine tg_ k [1] ?_
 refine bg_ h (fun g h=>Qa k [.T,2,.v .no [some 7,some 1,none] (.agg (Q6 (QaA.mk ([]:(List QD)) ([]:(List Int)) 0))),1,.O 4 (.var (Q6 (QaA.mk ([]:(List QD)) ([]:(List Int)) 0))),5,.K [4,5] [4]] rfl (a3_ g rfl rfl) ?_) fun g h=>Qa k [.F,7,.A (Q6 (QaA.mk i j.1 e)),1,.O 4 (.var (Q6 (QaA.mk i j.1 e))),4,.K [4,5] [4]] rfl (a3_ g rfl rfl) ?_
 ·cases h
  exact AK.done (ex_ [_,_] (an_ (an_ (ex_ _ (ex_ _ (an_ rfl (an_ rfl (Or.inl (an_ (Qo.ag rfl) (an_ (Qo.sz rfl) rfl))))))) (an_ rfl tt_)) (gives tt_)))
 cases h
 exact AK.done (ex_ [_,_] (an_ (an_ (ex_ _ (ex_ _ (an_ rfl (an_ rfl (Or.inl (an_ (Qo.ag rfl) (an_ (Qo.sz rfl) rfl))))))) (an_ rfl tt_)) (gives tt_)))
def Qex (a:Int)(b:QaA):Option Bool:=
 bif (decide (0<=a))then
 (idx b.sizes b.k).bind fun c=>
 some (decide (a<c))
 else
 some false
def Qgd (a:Bool):Option Bool:=
 some a
def Qb5 (a:QaA)(b:Int):Option Bool:=
 (Qex b a).bind (fun c=>Qgd c)
theorem QmR (g i){r}(h:Qb5 g i=some r):Qc prog 141 [.agg (Q6 g),.I i] [] (Gives (.b r) []):=by
 refine wk_ 17 func141 fun C c=>?_
 refine tg_ c [7] ?_
 obtain⟨d,e,h⟩:=Qb h
 replace h:Qgd d=some r:=h
 refine AK.meetX (fun σ=>σ=⟨[(4,.b d)],[]⟩) ?_ ?_
 ·replace h:=e
  refine tg_ c [4] ?_
  rcases Qm h with⟨a,h⟩|⟨a,h⟩
  ·obtain⟨j,f,h⟩:=Qb h
   refine Qa c [.S 7 (.b true),5,.o (.row (Qe j)),5,.K [4] []] rfl ⟨(tc_ a),(QJ f)⟩ ?_
   cases h
   exact mt_
  refine Qa c [.S 7 (.b false),11,.K [4] []] rfl (tc_ a) ?_
  cases h
  exact mt_
 rintro σ rfl
 replace h:Qgd d=some r:=h
 refine tg_ c [2] ?_
 cases h
 exact d1_ tt_
def QbJ (a:QaA):Option QD:=
 (idx a.all a.k).bind fun b=>
 some b
theorem QgZ (c){r}(h:QbJ c=some r):Qc prog 142 [.agg (Q6 c)] [] (Gives (.agg (Qq r)) []):=by
 refine wk_ 9 func142 fun C d=>?_
 obtain⟨a,b,h⟩:=Qb h
 refine Qa d [12,.o (.row (Qq a)),.A (Qq a),1,.O 2 (.var (Qq a)),3,.K [2] [2]] rfl (a3_ (QJ b) rfl rfl) ?_
 cases h
 exact AK.done (ex_ [_] (an_ (an_ (ex_ _ (ex_ _ (an_ rfl (an_ rfl (Or.inl (an_ (Qo.ag rfl) (an_ (Qo.sz rfl) rfl))))))) tt_) (gives tt_)))
def QgE (b:(Bool×QaA))(c:Int):Option Bool:=
 bif (!b.1)then
 some true
 else
 (Qb5 b.2 c).bind fun a=>
 some (!a)
def QdC (c:(Bool×QaA))(d:Int)(e:Bool):Option (Int×Bool):=
 bif e then
 some (0,false)
 else
 (QbJ c.2).bind fun a=>
 bif (a.Kind==1)then
 (QbJ c.2).bind fun b=>
 some ((w64 (b.Lo+d)),true)
 else
 some (d,true)
def Qdd (c:(List QD))(d:Int)(a:Int):Option (Int×Bool):=
 (Qdg c d).bind fun b=>
 (QgE b a).bind (fun e=>QdC b a e)
theorem QtY (y z j){r}(h:Qdd y z j=some r):Qc prog 84 [.sl 7 (y.map Qq),.I z,.I j] [] (Gives (.tup [.I r.1,.b r.2]) []):=by
 refine wk_ 36 func84 fun C a=>?_
 obtain⟨i,t,h⟩:=Qb h
 refine Qa a [10,.o (.C2 (.tup [.agg (Q6 i.2),.b i.1])),5,.O 8 (.var (Q6 i.2)),6] rfl (a2_ (Qm1 _ _ t) rfl) ?_
 obtain⟨u,k,h⟩:=Qb h
 replace h:QdC i j u=some r:=h
 refine AK.meetX (fun σ=>σ=⟨[(2,.I j),lk_ 8,(16,.b u)],[(8,.var (Q6 i.2))]⟩) ?_ ?_
 ·replace h:=k
  refine tg_ a [4] ?_
  rcases Qm h with⟨e,h⟩|⟨e,h⟩
  ·refine Qa a [.S 19 (.b true),7,.K [2,8,16] [8]] rfl (tc_ e) ?_
   cases h
   exact mt_
  obtain⟨w,l,h⟩:=Qb h
  refine Qa a [.S 19 (.b false),.A (Q6 i.2),1,.o (.C2 (.b w)),4,.K [2,8,16] [8]] rfl ⟨⟨(tc_ e),rfl⟩,(QmR _ _ l)⟩ ?_
  cases h
  exact mt_
 rintro σ rfl
 replace h:QdC i j u=some r:=h
 refine tg_ a [1] ?_
 rcases Qm h with⟨f,h⟩|⟨f,h⟩
 ·refine Qa a [.T,9] rfl (a1_ f) ?_
  cases h
  exact d2_ tt_
 obtain⟨m,p,h⟩:=Qb h
 refine Qa a [.F,2,.A (Q6 i.2),.o (.C1 (.agg (Qq m))),.o (.any (.I m.Kind) none),4] rfl (a4_ f rfl (QgZ _ p) (fun σ x A _=>Stp.field rfl rfl (QR a.n rfl) (x _ _ rfl) QCV rfl)) ?_
 rcases Qm h with⟨g,h⟩|⟨g,h⟩
 ·obtain⟨q,s,h⟩:=Qb h
  refine Qa a [.T,2,.A (Q6 i.2),.o (.C1 (.agg (Qq q))),.o (.any (.I q.Lo) none),9] rfl (a4_ g rfl (QgZ _ s) (fun σ x A _=>Stp.field rfl rfl (QR a.n rfl) (x _ _ rfl) QCW rfl)) ?_
  cases h
  exact d2_ tt_
 refine Qa a [.F,11] rfl (a1_ g) ?_
 cases h
 exact d2_ tt_
def QcT (d:QF)(b:(List Int))(h:Qn)(a:Int)(c:(List Int)):Option ((Int×(List Int))⊕(Unit⊕(List Int))):=
 bif (decide (a<(d.Vars.length:Int)))then
 (idx d.Vars a).bind fun f=>
 (idx b a).bind fun g=>
 (Qdd h.Colours f.Colour g).bind fun e=>
 bif (!e.2)then
 some (.inr (.inl ()))
 else
 (idx c a).bind fun i=>
 some (.inl ((w64 (a+1)),(c.set a.toNat e.1)))
 else
 some (.inr (.inr c))
def Qs4 : Option ((List Int)×Int):=
 some (([]:List Int),1)
def Qs5 (a:(List Int)):Option ((List Int)×Int):=
 some (a,0)
def QdW (d:Qn)(a:Int)(c:(List Int)):Option ((List Int)×Int):=
 bif ((decide (a<0))||(decide ((d.Tasks.length:Int)<=a)))then
 some (([]:List Int),3)
 else
 (idx d.Tasks a).bind fun b=>
 bif ((c.length:Int) != (b.Vars.length:Int))then
 some (([]:List Int),1)
 else
 (chk (decide (0<=(b.Vars.length:Int))&&decide ((b.Vars.length:Int)<=(b.Vars.length:Int))&&decide ((b.Vars.length:Int)<=4294967296))).bind fun _=>
 (Qz (fun st=>QcT b c d st.1 st.2) (0,(List.replicate (b.Vars.length:Int).toNat (0:Int)))).bind (Sum.elim (fun q=>Qs4) (fun q=>Qs5 q))
theorem Qs6 (t f g){r}(h:QdW t f g=some r):Qc prog 43 [.agg (Qd t),.I f,.sl 1 (g.map Qe)] [] (Gives (.tup [.sl 1 (r.1.map Qe),.I r.2]) []):=by
 refine wk_ 64 func43 fun C j=>?_
 refine tg_ j [9] ?_
 refine AK.meetX (fun σ=>σ=⟨[(1,.I f),(2,.sl 1 (g.map Qe)),lk_ 3,(22,.b ((decide (f<0))||(decide ((t.Tasks.length:Int)<=f))))],[(3,.var (Qd t))]⟩) ?_ ?_
 ·refine tg_ j [4] ?_
  rcases QE (decide (f<0))with k | k
  ·refine Qa j [.S 16 (.b true),7,.S 22 (.b ((decide (f<0))||(decide ((t.Tasks.length:Int)<=f)))),.K [1,2,3,22] [3]] rfl ⟨(tc_ k),(congrArg V.b (orT k rfl))⟩ ?_
   exact mt_
  refine Qa j [.S 16 (.b false),3,.o (.ln t.Tasks.length),3,.S 22 (.b ((decide (f<0))||(decide ((t.Tasks.length:Int)<=f)))),.K [1,2,3,22] [3]] rfl ⟨⟨(tc_ k),Qf⟩,(congrArg V.b (orF k rfl))⟩ ?_
  exact mt_
 rintro σ rfl
 refine tg_ j [1] ?_
 rcases Qm h with⟨l,h⟩|⟨l,h⟩
 ·refine Qa j [.T,8,.denil 6 [some 1]] rfl (a1_ l) ?_
  cases h
  exact d2_ tt_
 obtain⟨i,y,h⟩:=Qb h
 refine Qa j [.F,7,.o (.row (Qj i)),9,.o (.ln g.length),1,.o (.ln i.Vars.length),3] rfl (a4_ l (QJ y) Qf Qf) ?_
 rcases Qm h with⟨m,h⟩|⟨m,h⟩
 ·refine Qa j [.T,8,.denil 6 [some 1]] rfl (a1_ m) ?_
  cases h
  exact d2_ tt_
 obtain⟨z,h⟩:=QaV h
 refine Qa j [.F,5,.o (.ln i.Vars.length),.o (.rows ((List.replicate (i.Vars.length:Int).toNat (0:Int)).map Qe)),.S 36 (.own 36 (List.replicate (i.Vars.length:Int).toNat (0:Int)).length),7,.o (.ln i.Vars.length),4,.K [2,3,9,37,38,39] [3,36]] rfl (a5_ m Qf ⟨z,QyO rfl⟩ (by simp) Qf) ?_
 obtain⟨L,A,h⟩:=Qb h
 refine AK.loop (body:=(fun st=>QcT i g t st.1 st.2)) (fun st σ=>σ=⟨[(2,.sl 1 (g.map Qe)),lk_ 3,(9,.own 36 st.2.length),(37,.sl 2 (i.Vars.map QO)),(38,.I (i.Vars.length:Int)),(39,.I st.1)],[(3,.var (Qd t)),(36,.arr 1 (st.2.map Qe))]⟩) (Sum.elim (fun q e σ=>e=.ret/\σ=⟨[(6,.lit (.slice none 0 0)),(7,.I 1)],[]⟩) (fun q e σ=>e=.exit 0/\σ=⟨[(9,.own 36 q.length)],[(36,.arr 1 (q.map Qe))]⟩)) A rfl ?_ ?_
 ·rintro ⟨B,D⟩ o σ rfl h
  refine tg_ j [6] ?_
  rcases Qm h with⟨p,h⟩|⟨p,h⟩
  ·obtain⟨x,E,h⟩:=Qb h
   obtain⟨M,G,h⟩:=Qb h
   obtain⟨u,H,h⟩:=Qb h
   refine Qa j [.T,7,.o (.row (QO x)),.A (QO x),3,.O 11 (.var (QO x)),3,.K [2,3,9,10,11,37,38,39] [3,11,36]] rfl (a4_ p (QJ E) rfl rfl) ?_
   refine AK.draw2 Qo j mixed [.N,.N,.N,.N,.N,.N,.a (.row (Qe M)) none false,.N,.a (.C3 (.tup [.I u.1,.b u.2])) none false,.N,.N,.N,.N,.N] [] [] [2,3,9,10,12,13,37,38,39] [3,36] rfl rfl rfl ⟨⟨tt_,(QJ G)⟩,(QtY _ _ _ H)⟩ rfl (by kernel_rfl) rfl rfl rfl ?_
   refine tg_ j [8] ?_
   rcases Qm h with⟨s,h⟩|⟨s,h⟩
   ·refine Qa j [.T,10,.K [6,7] []] rfl (a1_ s) ?_
    cases h
    exact Qah rfl (an_ rfl rfl)
   obtain⟨P,w,h⟩:=Qb h
   refine Qa j [.F,7,.st (Qe P) ((D.set B.toNat u.1).map Qe),7,.S 9 (.own 36 (D.set B.toNat u.1).length),.K [2,3,9,37,38,39] [3,36]] rfl (a4_ s (QdK w rfl) ⟨(Qcb (Qcq w).2),Qnz rfl⟩ (congrArg (fun n=>V.own 36 n) (by simp))) ?_
   cases h
   exact QY rfl rfl
  refine Qa j [.F,2,.K [9] [36]] rfl (a1_ p) ?_
  cases h
  exact QZ rfl (an_ rfl rfl)
 rcases L with(_ | J)
 ·replace h:Qs4=some r:=h
  rintro e σ ⟨rfl,rfl⟩
  refine tg_ j [2,.denil 6 [some 1]] ?_
  cases h
  exact d2_ tt_
 replace h:Qs5 J=some r:=h
 rintro e σ ⟨rfl,rfl⟩
 refine Qa j [10,.frz 36 (J.map Qe) [6] []] rfl (a1_ (a1_ (QeC Qf))) ?_
 cases h
 exact d2_ tt_
def Qa1 (c:Qn)(f:QMk)(a:Int)(b:(List Int)):Option (Int×QM):=
 (QdW c a b).bind fun d=>
 bif (d.2 != 0)then
 some (d.2,(QM.mk (Qn.mk ([]:(List QD)) ([]:(List Q4)) ([]:(List QF)) 0 0) ([]:QMk) (QF.mk (⟨#[]⟩:ByteArray) ([]:(List Qaw)) (Qh.mk 0 0 ([]:(List Qh))) 0 0 ([]:(List Qat)) ([]:(List Qat)) ([]:(List Int)) 0 (0,0,0)) ([]:(List Int))))
 else
 (idx c.Tasks a).bind fun e=>
 some (0,(QM.mk c f e d.1))
theorem Qqu (i l b e){r}(h:Qa1 i l b e=some r):Qc prog 27 [.agg (Qd i),.sl 1 (l.map Qs),.I b,.sl 1 (e.map Qe)] [] (Gives (.tup [.agg (Qx r.2),.I r.1]) []):=by
 refine wk_ 32 func27 fun C j=>?_
 obtain⟨p,q,h⟩:=Qb h
 refine Qa j [9,.A (Qd i),2,.o (.C3 (.tup [.sl 1 (p.1.map Qe),.I p.2])),14] rfl (a2_ rfl (Qs6 _ _ _ q)) ?_
 rcases Qm h with⟨f,h⟩|⟨f,h⟩
 ·refine Qa j [.T,2,.v .no [some 7,some 3,some 14,none,none,some 1,none,some 2,none,none,some 3,none,none,some 4,some 4,some 1,none,none,none,none,some 1] (.agg (Qx (QM.mk (Qn.mk ([]:(List QD)) ([]:(List Q4)) ([]:(List QF)) 0 0) ([]:QMk) (QF.mk (⟨#[]⟩:ByteArray) ([]:(List Qaw)) (Qh.mk 0 0 ([]:(List Qh))) 0 0 ([]:(List Qat)) ([]:(List Qat)) ([]:(List Int)) 0 (0,0,0)) ([]:(List Int))))),2,.O 8 (.var (Qx (QM.mk (Qn.mk ([]:(List QD)) ([]:(List Q4)) ([]:(List QF)) 0 0) ([]:QMk) (QF.mk (⟨#[]⟩:ByteArray) ([]:(List Qaw)) (Qh.mk 0 0 ([]:(List Qh))) 0 0 ([]:(List Qat)) ([]:(List Qat)) ([]:(List Int)) 0 (0,0,0)) ([]:(List Int))))),5,.K [8,9] [8]] rfl (a3_ f rfl rfl) ?_
  cases h
  exact AK.done (ex_ [_,_] (an_ (an_ (ex_ _ (ex_ _ (an_ rfl (an_ rfl (Or.inl (an_ (Qo.ag rfl) (an_ (Qo.sz rfl) rfl))))))) (an_ rfl tt_)) (gives tt_)))
 obtain⟨g,k,h⟩:=Qb h
 refine Qa j [.F,3,.K [1,2,4,8,9,10] [4,8]] rfl (a1_ f) ?_
 refine AK.draw2 Qo j mixed [.a .no (some ([],.agg (Qd i))) false,.N,.N,.N,.N,.a (.row (Qj g)) none false,.a .no (some ([],.agg (Qj g))) false,.N,.a .no (some ([],.agg (Qx (QM.mk i l g p.1)))) false,.m .s,.m .s] [] [] [8,9] [8] rfl rfl rfl ⟨⟨⟨⟨tt_,rfl⟩,(QJ k)⟩,rfl⟩,rfl⟩ rfl (by kernel_rfl) rfl rfl rfl ?_
 refine Qa j [.O 8 (.var (Qx (QM.mk i l g p.1))),2,.K [8,9] [8]] rfl (a1_ rfl) ?_
 cases h
 exact AK.done (ex_ [_,_] (an_ (an_ (ex_ _ (ex_ _ (an_ rfl (an_ rfl (Or.inl (an_ (Qo.ag rfl) (an_ (Qo.sz rfl) rfl))))))) (an_ rfl tt_)) (gives tt_)))
def Qi5 (c:Qh)(rec_expr_Depth:Qh->Option Int)(d:Int)(a:Int):Option ((Int×Int)⊕Int):=
 bif (decide (a<(c.Kids.length:Int)))then
 (idx c.Kids a).bind fun e=>
 (rec_expr_Depth e).bind fun b=>
 some (.inl ((max2 d b),(w64 (a+1))))
 else
 some (.inr d)
def Qmn (a:Int):Option Int:=
 some (w64 (a+1))
def Qki (rec_expr_Depth:Qh->Option Int)(a:Qh):Option Int:=
 (Qz (fun st=>Qi5 a rec_expr_Depth st.1 st.2) (0,0)).bind (fun q=>Qmn q)
def Qck : Nat->Qh->Option Int
 | 0,_=>none
 | n+1,a=>Qki (Qck n) a
def Qmo (a:Qh):Option Int:=Qck (SizeOf.sizeOf a) a
theorem QuU (rec_expr_Depth:Qh->Option Int)(hrec_expr_Depth:∀(a:Qh) {r:Int},rec_expr_Depth a=some r->Qc prog 158 [.agg (Qk a)] [] (Gives (.I r) []))(a:Qh){r:Int}(h:Qki rec_expr_Depth a=some r):Qc prog 158 [.agg (Qk a)] [] (Gives (.I r) []):=by
 refine wk_ 20 func158 fun C f=>?_
 refine Qa f [16,.o (.ln a.Kids.length),4,.K [3,7,8,9] []] rfl (a1_ (Qfy _)) ?_
 obtain⟨m,g,h⟩:=Qb h
 refine AK.loop (body:=(fun st=>Qi5 a rec_expr_Depth st.1 st.2)) (fun st σ=>σ=⟨[(3,.I st.1),(7,.sl 3 (Qbg a.Kids)),(8,.I (a.Kids.length:Int)),(9,.I st.2)],[]⟩) (fun q e σ=>e=.exit 0/\σ=⟨[(3,.I q)],[]⟩) g rfl ?_ ?_
 ·rintro ⟨p,s⟩ o σ rfl h
  refine tg_ f [6] ?_
  rcases Qm h with⟨b,h⟩|⟨b,h⟩
  ·obtain⟨j,k,h⟩:=Qb h
   obtain⟨l,i,h⟩:=Qb h
   refine Qa f [.T,6,.o (.row (Qk j)),.A (Qk j),2,.O 5 (.var (Qk j)),4,.A (Qk j),.o (.C1 (.I l)),9,.K [3,7,8,9] []] rfl (a6_ b (Qbq k) rfl rfl rfl (hrec_expr_Depth _ i)) ?_
   cases h
   exact QY rfl rfl
  refine Qa f [.F,2,.K [3] []] rfl (a1_ b) ?_
  cases h
  exact QZ rfl (an_ rfl rfl)
 replace h:Qmn m=some r:=h
 rintro e σ ⟨rfl,rfl⟩
 refine tg_ f [10] ?_
 cases h
 exact d1_ tt_
theorem Qoe : ∀(fuel:Nat) (a:Qh) {r:Int},Qck fuel a=some r->Qc prog 158 [.agg (Qk a)] [] (Gives (.I r) [])
 | 0,_,_,h=>by cases h
 | n+1,a,_,h=>QuU (Qck n) (fun _ _ h=>Qoe n _ h) a h
theorem QwL (a){r}(h:Qmo a=some r):Qc prog 158 [.agg (Qk a)] [] (Gives (.I r) []):=Qoe _ a h
def Qkj (c:Qh)(rec_expr_Size:Qh->Option Int)(d:Int)(a:Int):Option ((Int×Int)⊕Int):=
 bif (decide (a<(c.Kids.length:Int)))then
 (idx c.Kids a).bind fun e=>
 (rec_expr_Size e).bind fun b=>
 some (.inl ((w64 (d+b)),(w64 (a+1))))
 else
 some (.inr d)
def Qm2 (a:Int):Option Int:=
 some a
def Qlu (rec_expr_Size:Qh->Option Int)(a:Qh):Option Int:=
 (Qz (fun st=>Qkj a rec_expr_Size st.1 st.2) (1,0)).bind (fun q=>Qm2 q)
def QcU : Nat->Qh->Option Int
 | 0,_=>none
 | n+1,a=>Qlu (QcU n) a
def Qnq (a:Qh):Option Int:=QcU (SizeOf.sizeOf a) a
theorem QvJ (rec_expr_Size:Qh->Option Int)(hrec_expr_Size:∀(a:Qh) {r:Int},rec_expr_Size a=some r->Qc prog 159 [.agg (Qk a)] [] (Gives (.I r) []))(a:Qh){r:Int}(h:Qlu rec_expr_Size a=some r):Qc prog 159 [.agg (Qk a)] [] (Gives (.I r) []):=by
 refine wk_ 19 func159 fun C f=>?_
 refine Qa f [16,.o (.ln a.Kids.length),4,.K [3,7,8,9] []] rfl (a1_ (Qfy _)) ?_
 obtain⟨m,g,h⟩:=Qb h
 refine AK.loop (body:=(fun st=>Qkj a rec_expr_Size st.1 st.2)) (fun st σ=>σ=⟨[(3,.I st.1),(7,.sl 3 (Qbg a.Kids)),(8,.I (a.Kids.length:Int)),(9,.I st.2)],[]⟩) (fun q e σ=>e=.exit 0/\σ=⟨[(3,.I q)],[]⟩) g rfl ?_ ?_
 ·rintro ⟨p,s⟩ o σ rfl h
  refine tg_ f [6] ?_
  rcases Qm h with⟨b,h⟩|⟨b,h⟩
  ·obtain⟨j,k,h⟩:=Qb h
   obtain⟨l,i,h⟩:=Qb h
   refine Qa f [.T,6,.o (.row (Qk j)),.A (Qk j),2,.O 5 (.var (Qk j)),4,.A (Qk j),.o (.C1 (.I l)),9,.K [3,7,8,9] []] rfl (a6_ b (Qbq k) rfl rfl rfl (hrec_expr_Size _ i)) ?_
   cases h
   exact QY rfl rfl
  refine Qa f [.F,2,.K [3] []] rfl (a1_ b) ?_
  cases h
  exact QZ rfl (an_ rfl rfl)
 replace h:Qm2 m=some r:=h
 rintro e σ ⟨rfl,rfl⟩
 refine tg_ f [9] ?_
 cases h
 exact d1_ tt_
theorem Qpg : ∀(fuel:Nat) (a:Qh) {r:Int},QcU fuel a=some r->Qc prog 159 [.agg (Qk a)] [] (Gives (.I r) [])
 | 0,_,_,h=>by cases h
 | n+1,a,_,h=>QvJ (QcU n) (fun _ _ h=>Qpg n _ h) a h
theorem QxI (a){r}(h:Qnq a=some r):Qc prog 159 [.agg (Qk a)] [] (Gives (.I r) []):=Qpg _ a h
def QfN (a:Int)(b:Bool):Option Int:=
 bif b then
 some 1
 else
 bif (a==5)then
 some 2
 else
 bif (a==6)then
 some 3
 else
 some (-1)
def QfO (a:Int)(b:Bool):Option Int:=
 bif b then
 some 0
 else
 bif (a==3)then
 QfN a (a==3)
 else
 QfN a (a==4)
def Qk5 (a:Int):Option Int:=
 bif (a==1)then
 QfO a (a==1)
 else
 QfO a (a==2)
theorem QxJ (a){r}(h:Qk5 a=some r):Qc prog 198 [.I a] [] (Gives (.I r) []):=by
 refine wk_ 14 func198 fun C c=>?_
 refine tg_ c [12] ?_
 refine AK.meet (fun σ=>∃k:Bool,σ=⟨[(3,.I a),(4,.b k)],[]⟩/\QfO a k=some r) ?_ ?_
 ·refine tg_ c [6] ?_
  refine bq_ c h [.T,1,.K [3,4] []] rfl (fun d h=>?_) [.F,4,.K [3,4] []] rfl fun d h=>?_
  ·exact AK.met (ex_ _ (an_ rfl h))
  exact AK.met (ex_ _ (an_ rfl h))
 rintro σ ⟨k,rfl,h⟩
 refine bq_ c h [.T,8,.K [2] []] rfl (fun f h=>?_) [.F] rfl fun f h=>?_
 ·cases h
  exact d1_ tt_
 refine AK.meet (fun σ=>∃l:Bool,σ=⟨[(3,.I a),(7,.b l)],[]⟩/\QfN a l=some r) ?_ ?_
 ·refine tg_ c [6] ?_
  refine bq_ c h [.T,1,.K [3,7] []] rfl (fun e h=>?_) [.F,4,.K [3,7] []] rfl fun e h=>?_
  ·exact AK.met (ex_ _ (an_ rfl h))
  exact AK.met (ex_ _ (an_ rfl h))
 rintro σ ⟨l,rfl,h⟩
 refine bq_ c h [.T,8,.K [2] []] rfl (fun g h=>?_) [.F,6] rfl fun g h=>?_
 ·cases h
  exact d1_ tt_
 refine bq_ c h [.T,8,.K [2] []] rfl (fun i h=>?_) [.F,6] rfl fun i h=>?_
 ·cases h
  exact d1_ tt_
 refine bq_ c h [.T,8,.K [2] []] rfl (fun j h=>?_) [.F,9,.K [2] []] rfl fun j h=>?_
 ·cases h
  exact d1_ tt_
 cases h
 exact d1_ tt_
def QjS (op1:Int):Option Bool:=
 some ((decide (1<=op1))&&(decide (op1<=11)))
theorem QwM (op1){r}(h:QjS op1=some r):Qc prog 199 [.I op1] [] (Gives (.b r) []):=by
 refine wk_ 9 func199 fun C c=>?_
 refine tg_ c [6] ?_
 refine AK.meetX (fun σ=>σ=⟨[(2,.b ((decide (1<=op1))&&(decide (op1<=11))))],[]⟩) ?_ ?_
 ·refine tg_ c [4] ?_
  rcases QE (decide (1<=op1))with a | a
  ·refine Qa c [.S 5 (.b true),5,.S 2 (.b ((decide (1<=op1))&&(decide (op1<=11)))),.K [2] []] rfl ⟨(tc_ a),(congrArg V.b (Qaq a rfl))⟩ ?_
   exact mt_
  refine Qa c [.S 5 (.b false),5,.S 2 (.b ((decide (1<=op1))&&(decide (op1<=11)))),.K [2] []] rfl ⟨(tc_ a),(congrArg V.b (Qa4 a rfl))⟩ ?_
  exact mt_
 rintro σ rfl
 refine tg_ c [2] ?_
 cases h
 exact d1_ tt_
def Qkk (rec_expr_parts:Qh->Int->Option Bool)(a:Qh)(b:Int):Option Bool:=
 (rec_expr_parts a b).bind fun c=>
 some (!c)
theorem QuV (rec_expr_parts:Qh->Int->Option Bool)(hrec_expr_parts:∀(i:Qh) (a:Int) {r:Bool},rec_expr_parts i a=some r->Qc prog 160 [.agg (Qk i),.I a] [] (Gives (.b r) []))(e:Qh)(f:Int){r:Bool}(h:Qkk rec_expr_parts e f=some r):Qc prog 201 [.agg (Qk e),.L 616] [(616,.var (Qe f))] (Gives (.b r) [(616,.var (Qe f))]):=by
 refine wk_ 8 func201 fun C j=>?_
 obtain⟨k,g,h⟩:=Qb h
 refine Qa j [8,.A (Qk e),1,.o (.C2 (.b k)),5] rfl (a2_ rfl (hrec_expr_parts _ _ g)) ?_
 cases h
 exact d1_ r1_
def Q1 (c:(List Qh))(rec_expr_parts:Qh->Int->Option Bool)(d:Int)(a:Int):Option (Int⊕(Int⊕Unit)):=
 bif (decide (a<(c.length:Int)))then
 (idx c a).bind fun e=>
 (Qkk rec_expr_parts e d).bind fun b=>
 bif b then
 some (.inr (.inl a))
 else
 some (.inl (w64 (a+1)))
 else
 some (.inr (.inr ()))
def Qed (a:Int):Option Int:=
 some a
def Qee : Option Int:=
 some (-1)
def Qbs (rec_expr_parts:Qh->Int->Option Bool)(a:(List Qh))(b:Int):Option Int:=
 (Qz (fun st=>Q1 a rec_expr_parts b st) 0).bind (Sum.elim (fun q=>Qed q) (fun q=>Qee))
theorem Qiw (rec_expr_parts:Qh->Int->Option Bool)(hrec_expr_parts:∀(t:Qh) (a:Int) {r:Bool},rec_expr_parts t a=some r->Qc prog 160 [.agg (Qk t),.I a] [] (Gives (.b r) []))(j:(List Qh))(f:Int){r:Int}(h:Qbs rec_expr_parts j f=some r):Qc prog 222 [.sl 3 (Qbg j),.clo (.func 201) [] [.L 616]] [(616,.var (Qe f))] (Gives (.I r) [(616,.var (Qe f))]):=by
 refine wk_ 19 func222 fun C g=>?_
 refine Qa g [9,.o (.ln j.length),4,.K [0,1,7,8] [616]] rfl (a1_ (Qfy _)) ?_
 obtain⟨m,k,h⟩:=Qb h
 refine AK.loop (body:=(fun st=>Q1 j rec_expr_parts f st)) (fun st σ=>σ=⟨[(0,.sl 3 (Qbg j)),(1,.clo (.func 201) [] [.L 616]),(7,.I (j.length:Int)),(8,.I st)],[(616,.var (Qe f))]⟩) (Sum.elim (fun q e σ=>e=.ret/\σ=⟨[(4,.I q)],[(616,.var (Qe f))]⟩) (fun q e σ=>e=.exit 0/\σ=⟨[],[(616,.var (Qe f))]⟩)) k rfl ?_ ?_
 ·rintro x o σ rfl h
  refine tg_ g [6] ?_
  rcases Qm h with⟨i,h⟩|⟨i,h⟩
  ·obtain⟨u,p,h⟩:=Qb h
   obtain⟨s,l,h⟩:=Qb h
   refine Qa g [.T,15,.o (.row (Qk u)),.A (Qk u),.cm (.clo) [(616,616)] [(616,616)] [] [.d,.d] [(616,.var (Qe f))] (.b s),2] rfl (a4_ i (Qbq p) rfl (QuV rec_expr_parts hrec_expr_parts _ _ l)) ?_
   refine bq_ g h [.T,9,.K [4] [616]] rfl (fun c h=>?_) [.F,7,.K [0,1,7,8] [616]] rfl fun c h=>?_
   ·cases h
    exact Qah rfl (an_ rfl rfl)
   cases h
   exact QY rfl rfl
  refine Qa g [.F,2,.K [] [616]] rfl (a1_ i) ?_
  cases h
  exact QZ rfl (an_ rfl rfl)
 rcases m with(w | _)
 ·replace h:Qed w=some r:=h
  rintro e σ ⟨rfl,rfl⟩
  refine tg_ g [2] ?_
  cases h
  exact d1_ r1_
 replace h:Qee=some r:=h
 rintro e σ ⟨rfl,rfl⟩
 refine tg_ g [8] ?_
 cases h
 exact d1_ r1_
def Qac (rec_expr_parts:Qh->Int->Option Bool)(a:(List Qh))(b:Int):Option Bool:=
 (Qbs rec_expr_parts a b).bind fun c=>
 some (decide (0<=c))
theorem Qhx (rec_expr_parts:Qh->Int->Option Bool)(hrec_expr_parts:∀(f:Qh) (a:Int) {r:Bool},rec_expr_parts f a=some r->Qc prog 160 [.agg (Qk f),.I a] [] (Gives (.b r) []))(g:(List Qh))(c:Int){r:Bool}(h:Qac rec_expr_parts g c=some r):Qc prog 200 [.sl 3 (Qbg g),.clo (.func 201) [] [.L 616]] [(616,.var (Qe c))] (Gives (.b r) [(616,.var (Qe c))]):=by
 refine wk_ 9 func200 fun C i=>?_
 obtain⟨j,e,h⟩:=Qb h
 refine Qa i [9,.cm (.fn) [(616,616)] [(616,616)] [] [.d,.d] [(616,.var (Qe c))] (.I j),5] rfl (a1_ (Qiw rec_expr_parts hrec_expr_parts _ _ e)) ?_
 cases h
 exact d1_ r1_
def Qmp (b:Qh):Option Bool:=
 bif (b.Kind==5)then
 (QjS b.Num).bind fun a=>
 some (!a)
 else
 some false
def QgF (rec_expr_parts:Qh->Int->Option Bool)(d:Qh)(a:Int)(b:Bool):Option Bool:=
 bif b then
 some false
 else
 (Qac rec_expr_parts d.Kids a).bind fun c=>
 some (!c)
def Qhy (rec_expr_parts:Qh->Int->Option Bool)(b:Qh)(a:Int):Option Bool:=
 (Qk5 b.Kind).bind fun d=>
 bif ((b.Kids.length:Int) != d)then
 some false
 else
 bif ((b.Kind==2)&&((decide (b.Num<0))||(decide (a<=b.Num))))then
 some false
 else
 (Qmp b).bind (fun c=>QgF rec_expr_parts b a c)
def QaR : Nat->Qh->Int->Option Bool
 | 0,_,_=>none
 | n+1,b,a=>Qhy (QaR n) b a
def Qmq (b:Qh)(a:Int):Option Bool:=QaR (SizeOf.sizeOf b) b a
theorem QuW (rec_expr_parts:Qh->Int->Option Bool)(hrec_expr_parts:∀(f:Qh) (e:Int) {r:Bool},rec_expr_parts f e=some r->Qc prog 160 [.agg (Qk f),.I e] [] (Gives (.b r) []))(f:Qh)(e:Int){r:Bool}(h:Qhy rec_expr_parts f e=some r):Qc prog 160 [.agg (Qk f),.I e] [] (Gives (.b r) []):=by
 refine wk_ 43 func160 fun C g=>?_
 obtain⟨y,v,h⟩:=Qb h
 refine tg_ g [10,.K [2,3] [2,3]] ?_
 refine AK.draw2 Qo g mixed [.N,.N,.a (.ln f.Kids.length) none false,.N,.N,.a (.C1 (.I y)) none false,.N,.N] [] [] [2,3,5] [2,3] rfl rfl rfl ⟨⟨tt_,Qfy _⟩,(QxJ _ v)⟩ rfl (by kernel_rfl) rfl rfl rfl ?_
 refine tg_ g [1] ?_
 refine bq_ g h [.T,8,.K [4] []] rfl (fun p h=>?_) [.F,1] rfl fun p h=>?_
 ·cases h
  exact d1_ tt_
 refine AK.meetX (fun σ=>σ=⟨[lk_ 2,lk_ 3,(13,.b ((f.Kind==2)&&((decide (f.Num<0))||(decide (e<=f.Num)))))],[(2,.var (Qk f)),(3,.var (Qe e))]⟩) ?_ ?_
 ·refine tg_ g [5] ?_
  rcases QE (f.Kind==2)with i | i
  ·refine Qa g [.S 17 (.b true),4] rfl (tc_ i) ?_
   rcases QE (decide (f.Num<0))with j | j
   ·refine Qa g [.S 21 (.b true),8,.S 13 (.b ((f.Kind==2)&&((decide (f.Num<0))||(decide (e<=f.Num))))),.K [2,3,13] [2,3]] rfl ⟨(tc_ j),(congrArg V.b (Qaq i (orT j rfl)))⟩ ?_
    exact mt_
   refine Qa g [.S 21 (.b false),8,.S 13 (.b ((f.Kind==2)&&((decide (f.Num<0))||(decide (e<=f.Num))))),.K [2,3,13] [2,3]] rfl ⟨(tc_ j),(congrArg V.b (Qaq i (orF j rfl)))⟩ ?_
   exact mt_
  refine Qa g [.S 17 (.b false),12,.S 13 (.b ((f.Kind==2)&&((decide (f.Num<0))||(decide (e<=f.Num))))),.K [2,3,13] [2,3]] rfl ⟨(tc_ i),(congrArg V.b (Qa4 i rfl))⟩ ?_
  exact mt_
 rintro σ rfl
 refine tg_ g [1] ?_
 refine bq_ g h [.T,8,.K [4] []] rfl (fun k h=>?_) [.F,1] rfl fun k h=>?_
 ·cases h
  exact d1_ tt_
 obtain⟨q,s,h⟩:=Qb h
 replace h:QgF rec_expr_parts f e q=some r:=h
 refine AK.meetX (fun σ=>σ=⟨[lk_ 2,lk_ 3,(28,.b q)],[(2,.var (Qk f)),(3,.var (Qe e))]⟩) ?_ ?_
 ·replace h:=s
  refine tg_ g [5] ?_
  rcases Qm h with⟨l,h⟩|⟨l,h⟩
  ·obtain⟨w,t,h⟩:=Qb h
   refine Qa g [.S 32 (.b true),2,.o (.C1 (.b w)),4,.K [2,3,28] [2,3]] rfl ⟨(tc_ l),(QwM _ t)⟩ ?_
   cases h
   exact mt_
  refine Qa g [.S 32 (.b false),7,.K [2,3,28] [2,3]] rfl (tc_ l) ?_
  cases h
  exact mt_
 rintro σ rfl
 replace h:QgF rec_expr_parts f e q=some r:=h
 refine tg_ g [1] ?_
 rcases Qm h with⟨m,h⟩|⟨m,h⟩
 ·refine Qa g [.T,8] rfl (a1_ m) ?_
  cases h
  exact d1_ tt_
 obtain⟨x,u,h⟩:=Qb h
 refine Qa g [.F,8,.cm (.fn) [(616,3)] [(3,616)] [] [.d,.d] [(616,.var (Qe e))] (.b x),5] rfl (a2_ m (Qhx rec_expr_parts hrec_expr_parts _ _ u)) ?_
 cases h
 exact d1_ tt_
theorem Qof : ∀(fuel:Nat) (c:Qh) (a:Int) {r:Bool},QaR fuel c a=some r->Qc prog 160 [.agg (Qk c),.I a] [] (Gives (.b r) [])
 | 0,_,_,_,h=>by cases h
 | n+1,c,a,_,h=>QuW (QaR n) (fun _ _ _ h=>Qof n _ _ h) c a h
theorem QwN (c a){r}(h:Qmq c a=some r):Qc prog 160 [.agg (Qk c),.I a] [] (Gives (.b r) []):=Qof _ c a h
def Qmr (b:Qh)(a:Int):Option Bool:=
 (Qmo b).bind fun d=>
 bif (decide (d<=40))then
 (Qnq b).bind fun e=>
 bif (decide (e<=400))then
 (Qmq b a).bind fun c=>
 some c
 else
 some false
 else
 some false
def Qms (a:Bool):Option Bool:=
 some a
def QeZ (b:Qh)(a:Int):Option Bool:=
 (Qmr b a).bind (fun c=>Qms c)
theorem Qmt (i a){r}(h:QeZ i a=some r):Qc prog 116 [.agg (Qk i),.I a] [] (Gives (.b r) []):=by
 refine wk_ 18 func116 fun C e=>?_
 refine tg_ e [7] ?_
 obtain⟨k,l,h⟩:=Qb h
 replace h:Qms k=some r:=h
 refine AK.meetX (fun σ=>σ=⟨[(4,.b k)],[]⟩) ?_ ?_
 ·replace h:=l
  obtain⟨s,m,h⟩:=Qb h
  refine Qa e [1,.A (Qk i),.o (.C1 (.I s)),2] rfl (a2_ rfl (QwL _ m)) ?_
  rcases Qm h with⟨f,h⟩|⟨f,h⟩
  ·obtain⟨t,p,h⟩:=Qb h
   refine Qa e [.S 8 (.b true),.A (Qk i),.o (.C1 (.I t)),3] rfl ⟨⟨(tc_ f),rfl⟩,(QxI _ p)⟩ ?_
   rcases Qm h with⟨g,h⟩|⟨g,h⟩
   ·obtain⟨q,j,h⟩:=Qb h
    refine Qa e [.S 13 (.b true),.A (Qk i),1,.o (.C2 (.b q)),3,.K [4] []] rfl ⟨⟨(tc_ g),rfl⟩,(QwN _ _ j)⟩ ?_
    cases h
    exact mt_
   refine Qa e [.S 13 (.b false),6,.K [4] []] rfl (tc_ g) ?_
   cases h
   exact mt_
  refine Qa e [.S 8 (.b false),11,.K [4] []] rfl (tc_ f) ?_
  cases h
  exact mt_
 rintro σ rfl
 replace h:Qms k=some r:=h
 refine tg_ e [2] ?_
 cases h
 exact d1_ tt_
def QbX (b:(List Int))(a:Int)(c:Bool):Option ((List Int)⊕((List Int)⊕((List Int)⊕((List Int)⊕(List Int))))):=
 bif c then
 some (.inr (.inr (.inl b)))
 else
 bif (a==5)then
 some (.inr (.inr (.inr (.inl b))))
 else
 some (.inr (.inr (.inr (.inr b))))
def Qcz (b:(List Int))(a:Int):Option ((List Int)⊕((List Int)⊕((List Int)⊕((List Int)⊕(List Int))))):=
 bif (a==1)then
 some (.inl b)
 else
 bif (a==2)then
 some (.inr (.inl b))
 else
 bif (a==3)then
 QbX b a (a==3)
 else
 QbX b a (a==4)
theorem Qe0 (k a){r}(h:Qcz k a=some r):Qc prog 170 [.sl 1 (k.map Qe),.I a] [] ((Sum.elim (fun q=>(Gives (.clo (.func 202) [.sl 1 (q.map Qe)] []) [])) (Sum.elim (fun q=>(Gives (.clo (.func 203) [.sl 1 (q.map Qe)] []) [])) (Sum.elim (fun q=>(Gives (.clo (.func 204) [.sl 1 (q.map Qe)] []) [])) (Sum.elim (fun q=>(Gives (.clo (.func 205) [.sl 1 (q.map Qe)] []) [])) (fun q=>(Gives (.clo (.func 206) [.sl 1 (q.map Qe)] []) [])))))) r):=by
 refine wk_ 25 func170 fun C c=>?_
 refine tg_ c [18] ?_
 refine bq_ c h [.T,10,.K [4] []] rfl (fun g h=>?_) [.F,6] rfl fun g h=>?_
 ·cases h
  exact AK.done (ex_ [_] (an_ (an_ rfl tt_) (gives tt_)))
 refine bq_ c h [.T,10,.K [4] []] rfl (fun i h=>?_) [.F] rfl fun i h=>?_
 ·cases h
  exact AK.done (ex_ [_] (an_ (an_ rfl tt_) (gives tt_)))
 refine AK.meet (fun σ=>∃j:Bool,σ=⟨[(0,.sl 1 (k.map Qe)),(5,.I a),(14,.b j)],[]⟩/\QbX k a j=some r) ?_ ?_
 ·refine tg_ c [6] ?_
  refine bq_ c h [.T,1,.K [0,5,14] []] rfl (fun d h=>?_) [.F,4,.K [0,5,14] []] rfl fun d h=>?_
  ·exact AK.met (ex_ _ (an_ rfl h))
  exact AK.met (ex_ _ (an_ rfl h))
 rintro σ ⟨j,rfl,h⟩
 refine bq_ c h [.T,10,.K [4] []] rfl (fun e h=>?_) [.F,6] rfl fun e h=>?_
 ·cases h
  exact AK.done (ex_ [_] (an_ (an_ rfl tt_) (gives tt_)))
 refine bq_ c h [.T,10,.K [4] []] rfl (fun f h=>?_) [.F,11,.K [4] []] rfl fun f h=>?_
 ·cases h
  exact AK.done (ex_ [_] (an_ (an_ rfl tt_) (gives tt_)))
 cases h
 exact AK.done (ex_ [_] (an_ (an_ rfl tt_) (gives tt_)))
def Qog (b:(List Int))(a:Qh):Option (Int×Int):=
 some (a.Num,0)
theorem QsE (a b){r}(h:Qog a b=some r):Qc prog 202 [.sl 1 (a.map Qe),.agg (Qk b)] [] (Gives (.tup [.I r.1,.I r.2]) []):=by
 refine wk_ 8 func202 fun C c=>?_
 refine tg_ c [16] ?_
 cases h
 exact d2_ tt_
def Qge (a:(List Int))(b:Qh):Option (Int×Int):=
 (idx a b.Num).bind fun c=>
 some (c,0)
theorem Qrf (b c){r}(h:Qge b c=some r):Qc prog 203 [.sl 1 (b.map Qe),.agg (Qk c)] [] (Gives (.tup [.I r.1,.I r.2]) []):=by
 refine wk_ 11 func203 fun C d=>?_
 obtain⟨e,a,h⟩:=Qb h
 refine Qa d [12,.o (.row (Qe e)),6] rfl (a1_ (QJ a)) ?_
 cases h
 exact d2_ tt_
def Qh1 (a:Int)(b:Int):Option (Int×Int):=
 bif (((decide (a<0))==(decide (b<0)))&&((decide ((w64 (a+b))<0)) != (decide (a<0))))then
 some (0,6)
 else
 some ((w64 (a+b)),0)
theorem Qyw (a d){r}(h:Qh1 a d=some r):Qc prog 228 [.I a,.I d] [] (Gives (.tup [.I r.1,.I r.2]) []):=by
 refine wk_ 23 func228 fun C e=>?_
 refine tg_ e [16] ?_
 refine AK.meetX (fun σ=>σ=⟨[(6,.I (w64 (a+d))),(21,.b (((decide (a<0))==(decide (d<0)))&&((decide ((w64 (a+d))<0)) != (decide (a<0)))))],[]⟩) ?_ ?_
 ·refine tg_ e [7] ?_
  rcases QE ((decide (a<0))==(decide (d<0)))with c | c
  ·refine Qa e [.S 15 (.b true),7,.S 21 (.b (((decide (a<0))==(decide (d<0)))&&((decide ((w64 (a+d))<0)) != (decide (a<0))))),.K [6,21] []] rfl ⟨(tc_ c),(congrArg V.b (Qaq c rfl))⟩ ?_
   exact mt_
  refine Qa e [.S 15 (.b false),7,.S 21 (.b (((decide (a<0))==(decide (d<0)))&&((decide ((w64 (a+d))<0)) != (decide (a<0))))),.K [6,21] []] rfl ⟨(tc_ c),(congrArg V.b (Qa4 c rfl))⟩ ?_
  exact mt_
 rintro σ rfl
 refine tg_ e [1] ?_
 refine bq_ e h [.T,8,.K [4,5] []] rfl (fun f h=>?_) [.F,10,.K [4,5] []] rfl fun f h=>?_
 ·cases h
  exact d2_ tt_
 cases h
 exact d2_ tt_
def Qc5 (a:Int)(b:Int):Option (Int×Int):=
 bif (((decide (a<0)) != (decide (b<0)))&&((decide ((w64 (a-b))<0)) != (decide (a<0))))then
 some (0,6)
 else
 some ((w64 (a-b)),0)
theorem QsF (a d){r}(h:Qc5 a d=some r):Qc prog 229 [.I a,.I d] [] (Gives (.tup [.I r.1,.I r.2]) []):=by
 refine wk_ 23 func229 fun C e=>?_
 refine tg_ e [16] ?_
 refine AK.meetX (fun σ=>σ=⟨[(6,.I (w64 (a-d))),(21,.b (((decide (a<0)) != (decide (d<0)))&&((decide ((w64 (a-d))<0)) != (decide (a<0)))))],[]⟩) ?_ ?_
 ·refine tg_ e [7] ?_
  rcases QE ((decide (a<0)) != (decide (d<0)))with c | c
  ·refine Qa e [.S 15 (.b true),7,.S 21 (.b (((decide (a<0)) != (decide (d<0)))&&((decide ((w64 (a-d))<0)) != (decide (a<0))))),.K [6,21] []] rfl ⟨(tc_ c),(congrArg V.b (Qaq c rfl))⟩ ?_
   exact mt_
  refine Qa e [.S 15 (.b false),7,.S 21 (.b (((decide (a<0)) != (decide (d<0)))&&((decide ((w64 (a-d))<0)) != (decide (a<0))))),.K [6,21] []] rfl ⟨(tc_ c),(congrArg V.b (Qa4 c rfl))⟩ ?_
  exact mt_
 rintro σ rfl
 refine tg_ e [1] ?_
 refine bq_ e h [.T,8,.K [4,5] []] rfl (fun f h=>?_) [.F,10,.K [4,5] []] rfl fun f h=>?_
 ·cases h
  exact d2_ tt_
 cases h
 exact d2_ tt_
def Qg0 (a:Int):Option Int:=
 bif (decide (a<0))then
 some (IntKind.u64.wrap (0-(IntKind.u64.wrap a)))
 else
 some (IntKind.u64.wrap a)
theorem Qrw (c){r}(h:Qg0 c=some r):Qc prog 235 [.I c] [] (Gives (.i .u64 r) []):=by
 refine wk_ 10 func235 fun C b=>?_
 refine tg_ b [12] ?_
 refine bg_ h (fun a h=>Qa b [.T,3,.o (.any (.i .u64 (IntKind.u64.wrap c)) none),6,.K [2] []] rfl (a2_ a (fun σ d e _=>Stp.convI rfl rfl (QR b.n rfl) (d _ _ rfl) Qzd QtW)) ?_) fun a h=>Qa b [.F,5,.o (.any (.i .u64 (IntKind.u64.wrap c)) none),4,.K [2] []] rfl (a2_ a (fun σ d e _=>Stp.convI rfl rfl (QR b.n rfl) (d _ _ rfl) Qzd QtW)) ?_
 ·cases h
  exact d1_ tt_
 cases h
 exact d1_ tt_
def Qd9 (a:Int)(b:Int):Option (Int×Int):=
 some ((IntKind.u64.wrap ((IntKind.u64.wrap ((IntKind.u64.wrap ((Qen .u64 a 32)*(Qen .u64 b 32)))+(Qen .u64 (IntKind.u64.wrap ((IntKind.u64.wrap ((Qen .u64 a 32)*(QdQ .u64 b 4294967295)))+(Qen .u64 (IntKind.u64.wrap ((QdQ .u64 a 4294967295)*(QdQ .u64 b 4294967295))) 32))) 32)))+(Qen .u64 (IntKind.u64.wrap ((QdQ .u64 (IntKind.u64.wrap ((IntKind.u64.wrap ((Qen .u64 a 32)*(QdQ .u64 b 4294967295)))+(Qen .u64 (IntKind.u64.wrap ((QdQ .u64 a 4294967295)*(QdQ .u64 b 4294967295))) 32))) 4294967295)+(IntKind.u64.wrap ((QdQ .u64 a 4294967295)*(Qen .u64 b 32))))) 32))),(IntKind.u64.wrap (a*b)))
theorem QsG (b c){r}(h:Qd9 b c=some r):Qc prog 234 [.i .u64 b,.i .u64 c] [] (Gives (.tup [.i .u64 r.1,.i .u64 r.2]) []):=by
 refine wk_ 51 func234 fun C d=>?_
 refine Qa d [9,.o (.any (.i .u64 (QdQ .u64 b 4294967295)) none),6,.o (.any (.i .u64 (Qen .u64 b 32)) none),6,.o (.any (.i .u64 (QdQ .u64 c 4294967295)) none),6,.o (.any (.i .u64 (Qen .u64 c 32)) none),17,.o (.any (.i .u64 (Qen .u64 (IntKind.u64.wrap ((QdQ .u64 b 4294967295)*(QdQ .u64 c 4294967295))) 32)) none),7,.o (.any (.i .u64 (QdQ .u64 (IntKind.u64.wrap ((IntKind.u64.wrap ((Qen .u64 b 32)*(QdQ .u64 c 4294967295)))+(Qen .u64 (IntKind.u64.wrap ((QdQ .u64 b 4294967295)*(QdQ .u64 c 4294967295))) 32))) 4294967295)) none),6,.o (.any (.i .u64 (Qen .u64 (IntKind.u64.wrap ((IntKind.u64.wrap ((Qen .u64 b 32)*(QdQ .u64 c 4294967295)))+(Qen .u64 (IntKind.u64.wrap ((QdQ .u64 b 4294967295)*(QdQ .u64 c 4294967295))) 32))) 32)) none),21,.o (.any (.i .u64 (Qen .u64 (IntKind.u64.wrap ((QdQ .u64 (IntKind.u64.wrap ((IntKind.u64.wrap ((Qen .u64 b 32)*(QdQ .u64 c 4294967295)))+(Qen .u64 (IntKind.u64.wrap ((QdQ .u64 b 4294967295)*(QdQ .u64 c 4294967295))) 32))) 4294967295)+(IntKind.u64.wrap ((QdQ .u64 b 4294967295)*(Qen .u64 c 32))))) 32)) none),13] rfl (a8_ (fun σ a e _=>Stp.andB rfl rfl (QR d.n rfl) (a _ _ rfl) (a _ _ rfl)) (fun σ a e _=>Stp.shr rfl rfl (QR d.n rfl) (a _ _ rfl) (a _ _ rfl) (by decide)) (fun σ a e _=>Stp.andB rfl rfl (QR d.n rfl) (a _ _ rfl) (a _ _ rfl)) (fun σ a e _=>Stp.shr rfl rfl (QR d.n rfl) (a _ _ rfl) (a _ _ rfl) (by decide)) (fun σ a e _=>Stp.shr rfl rfl (QR d.n rfl) (a _ _ rfl) (a _ _ rfl) (by decide)) (fun σ a e _=>Stp.andB rfl rfl (QR d.n rfl) (a _ _ rfl) (a _ _ rfl)) (fun σ a e _=>Stp.shr rfl rfl (QR d.n rfl) (a _ _ rfl) (a _ _ rfl) (by decide)) (fun σ a e _=>Stp.shr rfl rfl (QR d.n rfl) (a _ _ rfl) (a _ _ rfl) (by decide))) ?_
 cases h
 exact d2_ tt_
def Qc6 (b:(Int×Int))(c:Int)(d:Int)(a:Int):Option (Int×Int):=
 bif ((decide (0<b.1))||(decide (a<b.2)))then
 some (0,6)
 else
 some ((w64 (c*d)),0)
def QfP (a:Int)(b:Int):Option (Int×Int):=
 (Qg0 a).bind fun d=>
 (Qg0 b).bind fun e=>
 (Qd9 d e).bind fun c=>
 bif ((decide (a<0)) != (decide (b<0)))then
 Qc6 c a b (IntKind.u64.wrap (9223372036854775807+1))
 else
 Qc6 c a b 9223372036854775807
theorem QuX (l m){r}(h:QfP l m=some r):Qc prog 230 [.I l,.I m] [] (Gives (.tup [.I r.1,.I r.2]) []):=by
 refine wk_ 34 func230 fun C g=>?_
 obtain⟨t,p,h⟩:=Qb h
 obtain⟨u,q,h⟩:=Qb h
 obtain⟨f,s,h⟩:=Qb h
 refine Qa g [9,.o (.C1 (.i .u64 t)),1,.o (.C1 (.i .u64 u)),.o (.C2 (.tup [.i .u64 f.1,.i .u64 f.2])),12] rfl (a3_ (Qrw _ p) (Qrw _ q) (QsG _ _ s)) ?_
 refine AK.meet (fun σ=>∃a:Int,σ=⟨[(0,.I l),(1,.I m),(6,.i .u64 f.1),(7,.i .u64 f.2),(8,.i .u64 a)],[]⟩/\Qc6 f l m a=some r) ?_ ?_
 ·refine tg_ g [9] ?_
  refine bq_ g h [.T,5,.K [0,1,6,7,8] []] rfl (fun j h=>?_) [.F,1,.K [0,1,6,7,8] []] rfl fun j h=>?_
  ·exact AK.met (ex_ _ (an_ rfl h))
  exact AK.met (ex_ _ (an_ rfl h))
 rintro σ ⟨a,rfl,h⟩
 refine tg_ g [2] ?_
 refine AK.meetX (fun σ=>σ=⟨[(0,.I l),(1,.I m),(30,.b ((decide (0<f.1))||(decide (a<f.2))))],[]⟩) ?_ ?_
 ·refine tg_ g [4] ?_
  rcases QE (decide (0<f.1))with e | e
  ·refine Qa g [.S 26 (.b true),5,.S 30 (.b ((decide (0<f.1))||(decide (a<f.2)))),.K [0,1,30] []] rfl ⟨(tc_ e),(congrArg V.b (orT e rfl))⟩ ?_
   exact mt_
  refine Qa g [.S 26 (.b false),5,.S 30 (.b ((decide (0<f.1))||(decide (a<f.2)))),.K [0,1,30] []] rfl ⟨(tc_ e),(congrArg V.b (orF e rfl))⟩ ?_
  exact mt_
 rintro σ rfl
 refine tg_ g [1] ?_
 refine bq_ g h [.T,8,.K [4,5] []] rfl (fun k h=>?_) [.F,12,.K [4,5] []] rfl fun k h=>?_
 ·cases h
  exact d2_ tt_
 cases h
 exact d2_ tt_
def QcA (b:Int)(a:Int):Option (Int×Int×Int):=
 bif (a==0)then
 some (0,0,7)
 else
 bif ((b==(-9223372036854775808))&&(a==(-1)))then
 some (0,0,6)
 else
 (chk (a != 0)).bind fun _=>
 (chk (a != 0)).bind fun _=>
 some ((w64 (Int.tdiv b a)),(Int.tmod b a),0)
theorem QnF (e g){r}(h:QcA e g=some r):Qc prog 231 [.I e,.I g] [] (Gives (.tup [.I r.1,.I r.2.1,.I r.2.2]) []):=by
 refine wk_ 23 func231 fun C c=>?_
 refine tg_ c [16] ?_
 refine bq_ c h [.T,10,.K [4,5,6] []] rfl (fun f h=>?_) [.F,1] rfl fun f h=>?_
 ·cases h
  exact AK.done (ex_ [_,_,_] (an_ (an_ rfl (an_ rfl (an_ rfl tt_))) (gives tt_)))
 refine AK.meetX (fun σ=>σ=⟨[(0,.I e),(1,.I g),(10,.b ((e==(-9223372036854775808))&&(g==(-1))))],[]⟩) ?_ ?_
 ·refine tg_ c [4] ?_
  rcases QE (e==(-9223372036854775808))with a | a
  ·refine Qa c [.S 13 (.b true),5,.S 10 (.b ((e==(-9223372036854775808))&&(g==(-1)))),.K [0,1,10] []] rfl ⟨(tc_ a),(congrArg V.b (Qaq a rfl))⟩ ?_
   exact mt_
  refine Qa c [.S 13 (.b false),5,.S 10 (.b ((e==(-9223372036854775808))&&(g==(-1)))),.K [0,1,10] []] rfl ⟨(tc_ a),(congrArg V.b (Qa4 a rfl))⟩ ?_
  exact mt_
 rintro σ rfl
 refine tg_ c [1] ?_
 rcases Qm h with⟨d,h⟩|⟨d,h⟩
 ·refine Qa c [.T,10,.K [4,5,6] []] rfl (a1_ d) ?_
  cases h
  exact AK.done (ex_ [_,_,_] (an_ (an_ rfl (an_ rfl (an_ rfl tt_))) (gives tt_)))
 obtain⟨i,h⟩:=QaV h
 obtain⟨j,h⟩:=QaV h
 refine Qa c [.F,4,.K [0,1] []] rfl (a1_ d) ?_
 refine AK.draw2 Qo c mixed [.N,.N,.N,.N,.N,.N,.N,.N,.N] [] [] [4,5,6] [] rfl rfl rfl ⟨⟨tt_,(neZ i)⟩,(neZ j)⟩ rfl (by kernel_rfl) rfl rfl rfl ?_
 refine tg_ c [2,.K [4,5,6] []] ?_
 cases h
 exact AK.done (ex_ [_,_,_] (an_ (an_ rfl (an_ rfl (an_ rfl tt_))) (gives tt_)))
def QbP (a:Bool):Option (Int×Int):=
 bif a then
 some (1,0)
 else
 some (0,0)
theorem Qef (c){r}(h:QbP c=some r):Qc prog 232 [.b c] [] (Gives (.tup [.I r.1,.I r.2]) []):=by
 refine wk_ 5 func232 fun C d=>?_
 refine tg_ d [12] ?_
 refine bq_ d h [.T,8,.K [2,3] []] rfl (fun a h=>?_) [.F,9,.K [2,3] []] rfl fun a h=>?_
 ·cases h
  exact d2_ tt_
 cases h
 exact d2_ tt_
def Qmu (c:Int)(d:Int):Option (Int×Int):=
 bif (c != 0)then
 (QbP (d != 0)).bind fun a=>
 some (a.1,a.2)
 else
 (QbP false).bind fun b=>
 some (b.1,b.2)
def QjT (a:Int)(b:Int):Option (Int×Int):=
 some (a,b)
def Qmv (c:Int)(d:Int):Option (Int×Int):=
 bif (c != 0)then
 (QbP true).bind fun a=>
 some (a.1,a.2)
 else
 (QbP (d != 0)).bind fun b=>
 some (b.1,b.2)
def QjU (a:Int)(b:Int):Option (Int×Int):=
 some (a,b)
def QbK (op1:Int)(a:Int)(b:Int):Option (Int×Int):=
 bif (op1==1)then
 (Qh1 a b).bind fun k=>
 some (k.1,k.2)
 else
 bif (op1==2)then
 (Qc5 a b).bind fun c=>
 some (c.1,c.2)
 else
 bif (op1==3)then
 (QfP a b).bind fun d=>
 some (d.1,d.2)
 else
 bif (op1==4)then
 (QcA a b).bind fun e=>
 some (e.1,e.2.2)
 else
 bif (op1==5)then
 (QcA a b).bind fun f=>
 some (f.2.1,f.2.2)
 else
 bif (op1==6)then
 (QbP (a==b)).bind fun g=>
 some (g.1,g.2)
 else
 bif (op1==7)then
 (QbP (a != b)).bind fun h=>
 some (h.1,h.2)
 else
 bif (op1==8)then
 (QbP (decide (a<b))).bind fun i=>
 some (i.1,i.2)
 else
 bif (op1==9)then
 (QbP (decide (a<=b))).bind fun j=>
 some (j.1,j.2)
 else
 bif (op1==10)then
 (Qmu a b).bind (fun v=>QjT v.1 v.2)
 else
 bif (op1==11)then
 (Qmv a b).bind (fun v=>QjU v.1 v.2)
 else
 some (0,1)
theorem Qmw (op1 a2 b3){r}(h:QbK op1 a2 b3=some r):Qc prog 224 [.I op1,.I a2,.I b3] [] (Gives (.tup [.I r.1,.I r.2]) []):=by
 refine wk_ 112 func224 fun C a=>?_
 refine tg_ a [19] ?_
 rcases Qm h with⟨u,h⟩|⟨u,h⟩
 ·obtain⟨x9,a6,h⟩:=Qb h
  refine Qa a [.T,4,.o (.C2 (.tup [.I x9.1,.I x9.2])),9] rfl (a2_ u (Qyw _ _ a6)) ?_
  cases h
  exact d2_ tt_
 refine Qa a [.F,6] rfl (a1_ u) ?_
 rcases Qm h with⟨e,h⟩|⟨e,h⟩
 ·obtain⟨y,z,h⟩:=Qb h
  refine Qa a [.T,4,.o (.C2 (.tup [.I y.1,.I y.2])),9] rfl (a2_ e (QsF _ _ z)) ?_
  cases h
  exact d2_ tt_
 refine Qa a [.F,6] rfl (a1_ e) ?_
 rcases Qm h with⟨f,h⟩|⟨f,h⟩
 ·obtain⟨A,B,h⟩:=Qb h
  refine Qa a [.T,4,.o (.C2 (.tup [.I A.1,.I A.2])),9] rfl (a2_ f (QuX _ _ B)) ?_
  cases h
  exact d2_ tt_
 refine Qa a [.F,6] rfl (a1_ f) ?_
 rcases Qm h with⟨g,h⟩|⟨g,h⟩
 ·obtain⟨w,D,h⟩:=Qb h
  refine Qa a [.T,4,.o (.C2 (.tup [.I w.1,.I w.2.1,.I w.2.2])),20] rfl (a2_ g (QnF _ _ D)) ?_
  cases h
  exact d2_ tt_
 refine Qa a [.F,6] rfl (a1_ g) ?_
 rcases Qm h with⟨i,h⟩|⟨i,h⟩
 ·obtain⟨x,E,h⟩:=Qb h
  refine Qa a [.T,4,.o (.C2 (.tup [.I x.1,.I x.2.1,.I x.2.2])),20] rfl (a2_ i (QnF _ _ E)) ?_
  cases h
  exact d2_ tt_
 refine Qa a [.F,6] rfl (a1_ i) ?_
 rcases Qm h with⟨j,h⟩|⟨j,h⟩
 ·obtain⟨G,H,h⟩:=Qb h
  refine Qa a [.T,5,.o (.C1 (.tup [.I G.1,.I G.2])),9] rfl (a2_ j (Qef _ H)) ?_
  cases h
  exact d2_ tt_
 refine Qa a [.F,6] rfl (a1_ j) ?_
 rcases Qm h with⟨k,h⟩|⟨k,h⟩
 ·obtain⟨J,L,h⟩:=Qb h
  refine Qa a [.T,5,.o (.C1 (.tup [.I J.1,.I J.2])),9] rfl (a2_ k (Qef _ L)) ?_
  cases h
  exact d2_ tt_
 refine Qa a [.F,6] rfl (a1_ k) ?_
 rcases Qm h with⟨l,h⟩|⟨l,h⟩
 ·obtain⟨M,N,h⟩:=Qb h
  refine Qa a [.T,5,.o (.C1 (.tup [.I M.1,.I M.2])),9] rfl (a2_ l (Qef _ N)) ?_
  cases h
  exact d2_ tt_
 refine Qa a [.F,6] rfl (a1_ l) ?_
 rcases Qm h with⟨m,h⟩|⟨m,h⟩
 ·obtain⟨O,P,h⟩:=Qb h
  refine Qa a [.T,5,.o (.C1 (.tup [.I O.1,.I O.2])),9] rfl (a2_ m (Qef _ P)) ?_
  cases h
  exact d2_ tt_
 refine Qa a [.F,6] rfl (a1_ m) ?_
 refine bq_ a h [.T,1] rfl (fun p h=>?_) [.F,6] rfl fun p h=>?_
 ·obtain⟨v,U,h⟩:=Qb h
  replace h:QjT v.1 v.2=some r:=h
  refine AK.meetX (fun σ=>σ=⟨[(6,.I v.1),(7,.I v.2)],[]⟩) ?_ ?_
  ·replace h:=U
   refine tg_ a [4] ?_
   rcases Qm h with⟨q,h⟩|⟨q,h⟩
   ·obtain⟨W,X,h⟩:=Qb h
    refine Qa a [.S 94 (.b true),3,.o (.C1 (.tup [.I W.1,.I W.2])),5,.K [6,7] []] rfl ⟨(tc_ q),(Qef _ X)⟩ ?_
    cases h
    exact mt_
   obtain⟨Y,Z,h⟩:=Qb h
   refine Qa a [.S 94 (.b false),3,.o (.C1 (.tup [.I Y.1,.I Y.2])),5,.K [6,7] []] rfl ⟨(tc_ q),(Qef _ Z)⟩ ?_
   cases h
   exact mt_
  rintro σ rfl
  obtain⟨a7,a8⟩:=v
  replace h:QjT a7 a8=some r:=h
  refine tg_ a [4] ?_
  cases h
  exact d2_ tt_
 refine bq_ a h [.T,1] rfl (fun s h=>?_) [.F,10,.K [6,7] []] rfl fun s h=>?_
 ·obtain⟨v,a0,h⟩:=Qb h
  replace h:QjU v.1 v.2=some r:=h
  refine AK.meetX (fun σ=>σ=⟨[(6,.I v.1),(7,.I v.2)],[]⟩) ?_ ?_
  ·replace h:=a0
   refine tg_ a [4] ?_
   rcases Qm h with⟨t,h⟩|⟨t,h⟩
   ·obtain⟨a1,a3,h⟩:=Qb h
    refine Qa a [.S 105 (.b true),3,.o (.C1 (.tup [.I a1.1,.I a1.2])),5,.K [6,7] []] rfl ⟨(tc_ t),(Qef _ a3)⟩ ?_
    cases h
    exact mt_
   obtain⟨a4,a5,h⟩:=Qb h
   refine Qa a [.S 105 (.b false),3,.o (.C1 (.tup [.I a4.1,.I a4.2])),5,.K [6,7] []] rfl ⟨(tc_ t),(Qef _ a5)⟩ ?_
   cases h
   exact mt_
  rintro σ rfl
  obtain⟨a9,b0⟩:=v
  replace h:QjU a9 b0=some r:=h
  refine tg_ a [4] ?_
  cases h
  exact d2_ tt_
 cases h
 exact d2_ tt_
def Qmx (b:Int):Option (Int×Int):=
 (QbK 2 0 b).bind fun a=>
 some (a.1,a.2)
theorem Qyx (b){r}(h:Qmx b=some r):Qc prog 223 [.I b] [] (Gives (.tup [.I r.1,.I r.2]) []):=by
 refine wk_ 8 func223 fun C f=>?_
 obtain⟨e,a,h⟩:=Qb h
 refine Qa f [9,.o (.C3 (.tup [.I e.1,.I e.2])),7] rfl (a1_ (Qmw _ _ _ a)) ?_
 cases h
 exact d2_ tt_
def Qfo (rec_expr_env_eval:(List Int)->Qh->Option (Int×Int))(e:(List Int))(d:Qh):Option (Int×Int):=
 (idx d.Kids 0).bind fun f=>
 (rec_expr_env_eval e f).bind fun c=>
 bif (c.2 != 0)then
 some (0,c.2)
 else
 bif (d.Kind==3)then
 (Qmx c.1).bind fun a=>
 some (a.1,a.2)
 else
 (QbK 6 c.1 0).bind fun b=>
 some (b.1,b.2)
theorem QsH (rec_expr_env_eval:(List Int)->Qh->Option (Int×Int))(hrec_expr_env_eval:∀(e:(List Int)) (f:Qh) {r:(Int×Int)},rec_expr_env_eval e f=some r->Qc prog 125 [.sl 1 (e.map Qe),.agg (Qk f)] [] (Gives (.tup [.I r.1,.I r.2]) []))(e:(List Int))(f:Qh){r:(Int×Int)}(h:Qfo rec_expr_env_eval e f=some r):Qc prog 204 [.sl 1 (e.map Qe),.agg (Qk f)] [] (Gives (.tup [.I r.1,.I r.2]) []):=by
 refine wk_ 33 func204 fun C g=>?_
 obtain⟨q,m,h⟩:=Qb h
 obtain⟨s,p,h⟩:=Qb h
 refine Qa g [12,.o (.row (Qk q)),.A (Qk q),.o (.C2 (.tup [.I s.1,.I s.2])),16] rfl (a3_ (Qbq m) rfl (hrec_expr_env_eval _ _ p)) ?_
 refine bq_ g h [.T,10,.K [4,5] []] rfl (fun b h=>?_) [.F,8] rfl fun b h=>?_
 ·cases h
  exact d2_ tt_
 rcases Qm h with⟨a,h⟩|⟨a,h⟩
 ·obtain⟨i,j,h⟩:=Qb h
  refine Qa g [.T,3,.o (.C1 (.tup [.I i.1,.I i.2])),9] rfl (a2_ a (Qyx _ j)) ?_
  cases h
  exact d2_ tt_
 obtain⟨k,l,h⟩:=Qb h
 refine Qa g [.F,6,.o (.C3 (.tup [.I k.1,.I k.2])),7] rfl (a2_ a (Qmw _ _ _ l)) ?_
 cases h
 exact d2_ tt_
def Qc7 (f:(Int×Int))(g:Qh)(rec_expr_env_eval:(List Int)->Qh->Option (Int×Int))(h:(List Int))(d:Bool):Option (Int×Int):=
 bif d then
 (QbK 7 f.1 0).bind fun b=>
 some (b.1,b.2)
 else
 (idx g.Kids 1).bind fun e=>
 (rec_expr_env_eval h e).bind fun a=>
 bif (a.2 != 0)then
 some (0,a.2)
 else
 (QbK g.Num f.1 a.1).bind fun c=>
 some (c.1,c.2)
def Qkl (rec_expr_env_eval:(List Int)->Qh->Option (Int×Int))(c:(List Int))(b:Qh):Option (Int×Int):=
 (idx b.Kids 0).bind fun d=>
 (rec_expr_env_eval c d).bind fun a=>
 bif (a.2 != 0)then
 some (0,a.2)
 else
 bif ((b.Num==10)&&(a.1==0))then
 Qc7 a b rec_expr_env_eval c ((b.Num==10)&&(a.1==0))
 else
 bif (b.Num==11)then
 Qc7 a b rec_expr_env_eval c (a.1 != 0)
 else
 Qc7 a b rec_expr_env_eval c false
theorem QuY (rec_expr_env_eval:(List Int)->Qh->Option (Int×Int))(hrec_expr_env_eval:∀(l:(List Int)) (f:Qh) {r:(Int×Int)},rec_expr_env_eval l f=some r->Qc prog 125 [.sl 1 (l.map Qe),.agg (Qk f)] [] (Gives (.tup [.I r.1,.I r.2]) []))(l:(List Int))(f:Qh){r:(Int×Int)}(h:Qkl rec_expr_env_eval l f=some r):Qc prog 205 [.sl 1 (l.map Qe),.agg (Qk f)] [] (Gives (.tup [.I r.1,.I r.2]) []):=by
 refine wk_ 60 func205 fun C e=>?_
 obtain⟨E,B,h⟩:=Qb h
 obtain⟨m,D,h⟩:=Qb h
 refine Qa e [12,.o (.row (Qk E)),.A (Qk E),.o (.C2 (.tup [.I m.1,.I m.2])),16] rfl (a3_ (Qbq B) rfl (hrec_expr_env_eval _ _ D)) ?_
 refine bq_ e h [.T,10,.K [4,5] []] rfl (fun p h=>?_) [.F] rfl fun p h=>?_
 ·cases h
  exact d2_ tt_
 refine AK.meet (fun σ=>∃q:Bool,σ=⟨[(0,.sl 1 (l.map Qe)),lk_ 3,(6,.I m.1),(22,.b q)],[(3,.var (Qk f))]⟩/\Qc7 m f rec_expr_env_eval l q=some r) ?_ ?_
 ·refine tg_ e [1] ?_
  refine AK.meetX (fun σ=>σ=⟨[(0,.sl 1 (l.map Qe)),lk_ 3,(6,.I m.1),(22,.b ((f.Num==10)&&(m.1==0)))],[(3,.var (Qk f))]⟩) ?_ ?_
  ·refine tg_ e [5] ?_
   rcases QE (f.Num==10)with a | a
   ·refine Qa e [.S 26 (.b true),5,.S 22 (.b ((f.Num==10)&&(m.1==0))),.K [0,3,6,22] [3]] rfl ⟨(tc_ a),(congrArg V.b (Qaq a rfl))⟩ ?_
    exact mt_
   refine Qa e [.S 26 (.b false),5,.S 22 (.b ((f.Num==10)&&(m.1==0))),.K [0,3,6,22] [3]] rfl ⟨(tc_ a),(congrArg V.b (Qa4 a rfl))⟩ ?_
   exact mt_
  rintro σ rfl
  refine tg_ e [1] ?_
  refine bq_ e h [.T,1,.K [0,3,6,22] [3]] rfl (fun g h=>?_) [.F,5] rfl fun g h=>?_
  ·exact AK.met (ex_ _ (an_ rfl h))
  refine bg_ h (fun i h=>Qa e [.S 33 (.b true),5,.K [0,3,6,22] [3]] rfl (tc_ i) ?_) fun i h=>Qa e [.S 33 (.b false),5,.K [0,3,6,22] [3]] rfl (tc_ i) ?_
  ·exact AK.met (ex_ _ (an_ rfl h))
  exact AK.met (ex_ _ (an_ rfl h))
 rintro σ ⟨q,rfl,h⟩
 rcases Qm h with⟨j,h⟩|⟨j,h⟩
 ·obtain⟨s,t,h⟩:=Qb h
  refine Qa e [.T,3,.o (.C3 (.tup [.I s.1,.I s.2])),9] rfl (a2_ j (Qmw _ _ _ t)) ?_
  cases h
  exact d2_ tt_
 obtain⟨u,w,h⟩:=Qb h
 obtain⟨x,y,h⟩:=Qb h
 refine Qa e [.F,8,.o (.row (Qk u)),.A (Qk u),.o (.C2 (.tup [.I x.1,.I x.2])),14] rfl (a4_ j (Qbq w) rfl (hrec_expr_env_eval _ _ y)) ?_
 rcases Qm h with⟨k,h⟩|⟨k,h⟩
 ·refine Qa e [.T,9] rfl (a1_ k) ?_
  cases h
  exact d2_ tt_
 obtain⟨z,A,h⟩:=Qb h
 refine Qa e [.F,8,.o (.C3 (.tup [.I z.1,.I z.2])),7] rfl (a2_ k (Qmw _ _ _ A)) ?_
 cases h
 exact d2_ tt_
def Qhe (rec_expr_env_eval:(List Int)->Qh->Option (Int×Int))(c:(List Int))(d:Qh):Option (Int×Int):=
 (idx d.Kids 0).bind fun h=>
 (rec_expr_env_eval c h).bind fun e=>
 bif (e.2 != 0)then
 some (0,e.2)
 else
 bif (e.1 != 0)then
 (idx d.Kids 1).bind fun f=>
 (rec_expr_env_eval c f).bind fun a=>
 some (a.1,a.2)
 else
 (idx d.Kids 2).bind fun g=>
 (rec_expr_env_eval c g).bind fun b=>
 some (b.1,b.2)
theorem QsI (rec_expr_env_eval:(List Int)->Qh->Option (Int×Int))(hrec_expr_env_eval:∀(e:(List Int)) (f:Qh) {r:(Int×Int)},rec_expr_env_eval e f=some r->Qc prog 125 [.sl 1 (e.map Qe),.agg (Qk f)] [] (Gives (.tup [.I r.1,.I r.2]) []))(e:(List Int))(f:Qh){r:(Int×Int)}(h:Qhe rec_expr_env_eval e f=some r):Qc prog 206 [.sl 1 (e.map Qe),.agg (Qk f)] [] (Gives (.tup [.I r.1,.I r.2]) []):=by
 refine wk_ 40 func206 fun C g=>?_
 obtain⟨w,t,h⟩:=Qb h
 obtain⟨x,u,h⟩:=Qb h
 refine Qa g [12,.o (.row (Qk w)),.A (Qk w),.o (.C2 (.tup [.I x.1,.I x.2])),16] rfl (a3_ (Qbq t) rfl (hrec_expr_env_eval _ _ u)) ?_
 refine bq_ g h [.T,10,.K [4,5] []] rfl (fun b h=>?_) [.F,7] rfl fun b h=>?_
 ·cases h
  exact d2_ tt_
 rcases Qm h with⟨a,h⟩|⟨a,h⟩
 ·obtain⟨i,j,h⟩:=Qb h
  obtain⟨k,l,h⟩:=Qb h
  refine Qa g [.T,5,.o (.row (Qk i)),.A (Qk i),.o (.C2 (.tup [.I k.1,.I k.2])),9] rfl (a4_ a (Qbq j) rfl (hrec_expr_env_eval _ _ l)) ?_
  cases h
  exact d2_ tt_
 obtain⟨m,p,h⟩:=Qb h
 obtain⟨q,s,h⟩:=Qb h
 refine Qa g [.F,8,.o (.row (Qk m)),.A (Qk m),.o (.C2 (.tup [.I q.1,.I q.2])),7] rfl (a4_ a (Qbq p) rfl (hrec_expr_env_eval _ _ s)) ?_
 cases h
 exact d2_ tt_
def QnG (b:Qh)(c:(List Int)):Option (Int×Int):=
 (Qog c b).bind fun a=>
 some (a.1,a.2)
def QdD (b:Qh)(c:(List Int)):Option (Int×Int):=
 (Qge c b).bind fun a=>
 some (a.1,a.2)
def QbY (rec_expr_env_eval:(List Int)->Qh->Option (Int×Int))(c:Qh)(b:(List Int)):Option (Int×Int):=
 (Qfo rec_expr_env_eval b c).bind fun a=>
 some (a.1,a.2)
def QdE (rec_expr_env_eval:(List Int)->Qh->Option (Int×Int))(c:Qh)(b:(List Int)):Option (Int×Int):=
 (Qkl rec_expr_env_eval b c).bind fun a=>
 some (a.1,a.2)
def QdF (rec_expr_env_eval:(List Int)->Qh->Option (Int×Int))(c:Qh)(b:(List Int)):Option (Int×Int):=
 (Qhe rec_expr_env_eval b c).bind fun a=>
 some (a.1,a.2)
def Qfp (rec_expr_env_eval:(List Int)->Qh->Option (Int×Int))(b:(List Int))(a:Qh):Option (Int×Int):=
 (Qcz b a.Kind).bind fun c=>
 (Sum.elim (fun q=>QnG a q) (Sum.elim (fun q=>QdD a q) (Sum.elim (fun q=>QbY rec_expr_env_eval a q) (Sum.elim (fun q=>QdE rec_expr_env_eval a q) (fun q=>QdF rec_expr_env_eval a q))))) c
def Q9 : Nat->(List Int)->Qh->Option (Int×Int)
 | 0,_,_=>none
 | n+1,a,b=>Qfp (Q9 n) a b
def Qi6 (b:(List Int))(a:Qh):Option (Int×Int):=Q9 (SizeOf.sizeOf a) b a
theorem QsJ (rec_expr_env_eval:(List Int)->Qh->Option (Int×Int))(hrec_expr_env_eval:∀(o:(List Int)) (e:Qh) {r:(Int×Int)},rec_expr_env_eval o e=some r->Qc prog 125 [.sl 1 (o.map Qe),.agg (Qk e)] [] (Gives (.tup [.I r.1,.I r.2]) []))(o:(List Int))(e:Qh){r:(Int×Int)}(h:Qfp rec_expr_env_eval o e=some r):Qc prog 125 [.sl 1 (o.map Qe),.agg (Qk e)] [] (Gives (.tup [.I r.1,.I r.2]) []):=by
 refine wk_ 14 func125 fun C b=>?_
 refine tg_ b [8] ?_
 obtain⟨E,f,h⟩:=Qb h
 rcases E with(B | (D | (j | (k | l))))
 ·replace h:QnG e B=some r:=h
  obtain⟨p,q,h⟩:=Qb h
  refine tg_ b [.K [0,3,4,5] [3]] ?_
  refine AK.draw2 Qo b mixed [.N,.N,.N,.a (.any (.clo (.func 202) [.sl 1 (B.map Qe)] []) none) none false,.a .no (some ([],.agg (Qk e))) false,.a (.C2 (.tup [.I p.1,.I p.2])) none false,.N,.N,.m .s,.m .s] [] [] [4,5] [] rfl rfl rfl ⟨⟨⟨tt_,(fun σ g i _=>Stp.callSame (md:=.cm (.fn) [] [] [] [.d,.d] [] (.clo (.func 202) [.sl 1 (B.map Qe)] []) []) Qo b g i rfl ⟨tt_,(Qe0 _ _ f)⟩)⟩,rfl⟩,(QsE _ _ q)⟩ rfl (by kernel_rfl) rfl rfl rfl ?_
  refine tg_ b [2] ?_
  cases h
  exact d2_ tt_
 ·replace h:QdD e D=some r:=h
  obtain⟨t,u,h⟩:=Qb h
  refine tg_ b [.K [0,3,4,5] [3]] ?_
  refine AK.draw2 Qo b mixed [.N,.N,.N,.a (.any (.clo (.func 203) [.sl 1 (D.map Qe)] []) none) none false,.a .no (some ([],.agg (Qk e))) false,.a (.C2 (.tup [.I t.1,.I t.2])) none false,.N,.N,.m .s,.m .s] [] [] [4,5] [] rfl rfl rfl ⟨⟨⟨tt_,(fun σ g i _=>Stp.callSame (md:=.cm (.fn) [] [] [] [.d,.d] [] (.clo (.func 203) [.sl 1 (D.map Qe)] []) []) Qo b g i rfl ⟨tt_,(Qe0 _ _ f)⟩)⟩,rfl⟩,(Qrf _ _ u)⟩ rfl (by kernel_rfl) rfl rfl rfl ?_
  refine tg_ b [2] ?_
  cases h
  exact d2_ tt_
 ·replace h:QbY rec_expr_env_eval e j=some r:=h
  obtain⟨v,w,h⟩:=Qb h
  refine tg_ b [.K [0,3,4,5] [3]] ?_
  refine AK.draw2 Qo b mixed [.N,.N,.N,.a (.any (.clo (.func 204) [.sl 1 (j.map Qe)] []) none) none false,.a .no (some ([],.agg (Qk e))) false,.a (.C2 (.tup [.I v.1,.I v.2])) none false,.N,.N,.m .s,.m .s] [] [] [4,5] [] rfl rfl rfl ⟨⟨⟨tt_,(fun σ g i _=>Stp.callSame (md:=.cm (.fn) [] [] [] [.d,.d] [] (.clo (.func 204) [.sl 1 (j.map Qe)] []) []) Qo b g i rfl ⟨tt_,(Qe0 _ _ f)⟩)⟩,rfl⟩,(QsH rec_expr_env_eval hrec_expr_env_eval _ _ w)⟩ rfl (by kernel_rfl) rfl rfl rfl ?_
  refine tg_ b [2] ?_
  cases h
  exact d2_ tt_
 ·replace h:QdE rec_expr_env_eval e k=some r:=h
  obtain⟨x,y,h⟩:=Qb h
  refine tg_ b [.K [0,3,4,5] [3]] ?_
  refine AK.draw2 Qo b mixed [.N,.N,.N,.a (.any (.clo (.func 205) [.sl 1 (k.map Qe)] []) none) none false,.a .no (some ([],.agg (Qk e))) false,.a (.C2 (.tup [.I x.1,.I x.2])) none false,.N,.N,.m .s,.m .s] [] [] [4,5] [] rfl rfl rfl ⟨⟨⟨tt_,(fun σ g i _=>Stp.callSame (md:=.cm (.fn) [] [] [] [.d,.d] [] (.clo (.func 205) [.sl 1 (k.map Qe)] []) []) Qo b g i rfl ⟨tt_,(Qe0 _ _ f)⟩)⟩,rfl⟩,(QuY rec_expr_env_eval hrec_expr_env_eval _ _ y)⟩ rfl (by kernel_rfl) rfl rfl rfl ?_
  refine tg_ b [2] ?_
  cases h
  exact d2_ tt_
 replace h:QdF rec_expr_env_eval e l=some r:=h
 obtain⟨z,A,h⟩:=Qb h
 refine tg_ b [.K [0,3,4,5] [3]] ?_
 refine AK.draw2 Qo b mixed [.N,.N,.N,.a (.any (.clo (.func 206) [.sl 1 (l.map Qe)] []) none) none false,.a .no (some ([],.agg (Qk e))) false,.a (.C2 (.tup [.I z.1,.I z.2])) none false,.N,.N,.m .s,.m .s] [] [] [4,5] [] rfl rfl rfl ⟨⟨⟨tt_,(fun σ g i _=>Stp.callSame (md:=.cm (.fn) [] [] [] [.d,.d] [] (.clo (.func 206) [.sl 1 (l.map Qe)] []) []) Qo b g i rfl ⟨tt_,(Qe0 _ _ f)⟩)⟩,rfl⟩,(QsI rec_expr_env_eval hrec_expr_env_eval _ _ A)⟩ rfl (by kernel_rfl) rfl rfl rfl ?_
 refine tg_ b [2] ?_
 cases h
 exact d2_ tt_
theorem Qmy : ∀(fuel:Nat) (a:(List Int)) (b:Qh) {r:(Int×Int)},Q9 fuel a b=some r->Qc prog 125 [.sl 1 (a.map Qe),.agg (Qk b)] [] (Gives (.tup [.I r.1,.I r.2]) [])
 | 0,_,_,_,h=>by cases h
 | n+1,a,b,_,h=>QsJ (Q9 n) (fun _ _ _ h=>Qmy n _ _ h) a b h
theorem QtZ (a b){r}(h:Qi6 a b=some r):Qc prog 125 [.sl 1 (a.map Qe),.agg (Qk b)] [] (Gives (.tup [.I r.1,.I r.2]) []):=Qmy _ a b h
def Qg1 (b:Qh)(a:(List Int)):Option (Int×Int):=
 (QeZ b (a.length:Int)).bind fun d=>
 bif (!d)then
 some (0,1)
 else
 (Qi6 a b).bind fun c=>
 some (c.1,c.2)
theorem Qrx (f a){r}(h:Qg1 f a=some r):Qc prog 63 [.agg (Qk f),.sl 1 (a.map Qe)] [] (Gives (.tup [.I r.1,.I r.2]) []):=by
 refine wk_ 16 func63 fun C g=>?_
 obtain⟨l,i,h⟩:=Qb h
 refine Qa g [10,.A (Qk f),1,.o (.ln a.length),.o (.C2 (.b l)),3] rfl (a3_ rfl Qf (Qmt _ _ i)) ?_
 rcases Qm h with⟨e,h⟩|⟨e,h⟩
 ·refine Qa g [.T,8] rfl (a1_ e) ?_
  cases h
  exact d2_ tt_
 obtain⟨k,j,h⟩:=Qb h
 refine Qa g [.F,5,.A (Qk f),.o (.C2 (.tup [.I k.1,.I k.2])),7] rfl (a3_ e rfl (QtZ _ _ j)) ?_
 cases h
 exact d2_ tt_
def Q5 (b:QM):Option Int:=
 (Qg1 b.task.Guard b.env).bind fun a=>
 bif (a.2 != 0)then
 some a.2
 else
 bif (a.1==0)then
 some 9
 else
 some 0
theorem QjV (f){r}(h:Q5 f=some r):Qc prog 28 [.agg (Qx f)] [] (Gives (.I r) []):=by
 refine wk_ 21 func28 fun C e=>?_
 obtain⟨i,g,h⟩:=Qb h
 refine Qa e [10,.A (Qk f.task.Guard),2,.o (.C2 (.tup [.I i.1,.I i.2])),16] rfl (a2_ rfl (Qrx _ _ g)) ?_
 refine bq_ e h [.T,9,.K [2] []] rfl (fun a h=>?_) [.F,7] rfl fun a h=>?_
 ·cases h
  exact d1_ tt_
 refine bq_ e h [.T,8,.K [2] []] rfl (fun b h=>?_) [.F,9,.K [2] []] rfl fun b h=>?_
 ·cases h
  exact d1_ tt_
 cases h
 exact d1_ tt_
def QcB (a:QLL):Option QLL:=
 (chk (decide ((([]:List (List Int)).length+a.length)*24<=140737488355328))).bind fun _=>
 some (([]:List (List Int))++a)
theorem Qm3 (b){r}(h:QcB b=some r):Qc prog 30 [.sl 1 (b.map Qu)] [] (Gives (.own 600 r.length) [(600,.arr 1 (r.map Qu))]):=by
 refine wk_ 8 func30 fun C a=>?_
 unfold QcB at h
 refine tg_ a [9] ?_
 refine AK.eqNil rfl rfl rfl (QR a.n rfl) rfl rfl QDU ?_ ?_
 ·intro c
  replace h:some ([]:List (List Int))=some r:=by simpa [chk,List.map_eq_nil_iff.1 c] using h
  refine Qa a [10,.adopt 2 600 1,.O 600 (.arr 1 (([]:List (List Int)).map Qu)),.S 2 (.own 600 ([]:List (List Int)).length)] rfl (a2_ rfl rfl) ?_
  cases h
  exact d1_ r1_
 obtain⟨d,h⟩:=QaV h
 refine Qa a [8,.O 5 (.arr 1 (([]:List (List Int)).map Qu)),.S 5 (.own 5 ([]:List (List Int)).length),1,.x (fun σ=>σ.app 5 1 7 (([]:List (List Int))++b).length ((([]:List (List Int))++b).map Qu)),4,.K [2] [5],.ren 5 600] rfl (a3_ rfl rfl (Stp.appSB (by_:=24) (zs:=[.lit (.slice none 0 0)]) (e:=35) (e':=35) (z':=1) (by':=24) rfl rfl (QR a.n rfl) rfl rfl rfl Qf (by kernel_rfl) (by kernel_rfl) (by kernel_rfl) rfl (by decide) (by decide) (QzR d Qf) rfl Qa2 (Qdc Qf))) ?_
 cases h
 exact d1_ r1_
def QbZ (c:(Bool×QaA))(a:Int):Option (Int×Bool):=
 (Qb5 c.2 a).bind fun b=>
 bif (!b)then
 some (0,false)
 else
 some (a,true)
def Qde (d:(List QD))(e:Int)(b:Int):Option (Int×Bool):=
 (Qdg d e).bind fun c=>
 bif (!c.1)then
 some (0,false)
 else
 (QbJ c.2).bind fun a=>
 bif (a.Kind==1)then
 bif ((decide (b<a.Lo))||(decide (a.Hi<b)))then
 some (0,false)
 else
 QbZ c (w64 (b-a.Lo))
 else
 QbZ c b
theorem Qt0 (w x k){r}(h:Qde w x k=some r):Qc prog 85 [.sl 7 (w.map Qq),.I x,.I k] [] (Gives (.tup [.I r.1,.b r.2]) []):=by
 refine wk_ 43 func85 fun C f=>?_
 obtain⟨l,t,h⟩:=Qb h
 refine Qa f [10,.o (.C2 (.tup [.agg (Q6 l.2),.b l.1])),5,.O 8 (.var (Q6 l.2)),10] rfl (a2_ (Qm1 _ _ t) rfl) ?_
 refine bq_ f h [.T,8,.K [6,7] []] rfl (fun m h=>?_) [.F,2] rfl fun m h=>?_
 ·cases h
  exact d2_ tt_
 refine AK.meet (fun σ=>∃p:Int,σ=⟨[(2,.I p),lk_ 8],[(8,.var (Q6 l.2))]⟩/\QbZ l p=some r) ?_ ?_
 ·obtain⟨a,q,h⟩:=Qb h
  refine Qa f [2,.A (Q6 l.2),.o (.C1 (.agg (Qq a))),2,.O 10 (.var (Qq a)),9] rfl (a3_ rfl (QgZ _ q) rfl) ?_
  refine bq_ f h [.T,2] rfl (fun g h=>?_) [.F,1,.K [2,8] [8]] rfl fun g h=>?_
  ·refine AK.meetX (fun σ=>σ=⟨[(2,.I k),lk_ 8,lk_ 10,(33,.b ((decide (k<a.Lo))||(decide (a.Hi<k))))],[(8,.var (Q6 l.2)),(10,.var (Qq a))]⟩) ?_ ?_
   ·refine tg_ f [6] ?_
    rcases QE (decide (k<a.Lo))with e | e
    ·refine Qa f [.S 28 (.b true),6,.S 33 (.b ((decide (k<a.Lo))||(decide (a.Hi<k)))),.K [2,8,10,33] [8,10]] rfl ⟨(tc_ e),(congrArg V.b (orT e rfl))⟩ ?_
     exact mt_
    refine Qa f [.S 28 (.b false),6,.S 33 (.b ((decide (k<a.Lo))||(decide (a.Hi<k)))),.K [2,8,10,33] [8,10]] rfl ⟨(tc_ e),(congrArg V.b (orF e rfl))⟩ ?_
    exact mt_
   rintro σ rfl
   refine tg_ f [1] ?_
   refine bq_ f h [.T,9,.K [6,7] []] rfl (fun i h=>?_) [.F,9,.K [2,8] [8]] rfl fun i h=>?_
   ·cases h
    exact d2_ tt_
   exact AK.met (ex_ _ (an_ rfl h))
  exact AK.met (ex_ _ (an_ rfl h))
 rintro σ ⟨p,rfl,h⟩
 obtain⟨u,s,h⟩:=Qb h
 refine Qa f [3,.A (Q6 l.2),1,.o (.C2 (.b u)),3] rfl (a2_ rfl (QmR _ _ s)) ?_
 refine bq_ f h [.T,8,.K [6,7] []] rfl (fun j h=>?_) [.F,10,.K [6,7] []] rfl fun j h=>?_
 ·cases h
  exact d2_ tt_
 cases h
 exact d2_ tt_
def QdX (a:QBg):Option Unit:=
 some ()
theorem Qk6 (a){r}(h:QdX a=some r):Qc prog 81 [.map 616] [(616,.map (QW V.I V.I a))] (Gives (.clo (.func 140) [] [.L 1]) [(1,.var [.map 616]),(616,.map (QW V.I V.I a))]):=by
 refine wk_ 4 func81 fun C b=>?_
 refine tg_ b [13] ?_
 cases h
 exact d1_ r2_
def QcY (a:(List Int))(b:Int):Option (List Int):=
 (chk (decide (a.length+([b]:List Int).length<=4294967296))).bind fun _=>
 some (a++([b]:List Int))
theorem QiP (lpl lpf:Nat)(a:(List Int))(c:Int){r:(List Int)}(h:QcY a c=some r):Qrv prog lpl (QfW lpf) (QEy (.L 617) (.I c)) [(616,.lp lpl (QfW lpf) (Qre (.L 617)) 0),(617,.var [.own 614 a.length]),(614,.arr 1 (a.map Qe))] (Gives (.b true) [(614,.arr 1 (r.map Qe)),(616,.lp lpl (QfW lpf) (Qre (.L 617)) 0),(617,.var [.own 614 r.length])]):=by
 refine Qrv.walk (b:=616) 13 rfl rfl fun C e=>?_
 refine tg_ e [3] ?_
 refine AK.done (an_ rfl (ex_ _ (an_ rfl ?_)))
 obtain⟨d,h⟩:=QaV h
 refine Qa e [4,.v (.bd []) [] (.sl 1 (([c]:List Int).map Qe)),.app ((a++([c]:List Int)).map Qe) (a++([c]:List Int)).length,1,.O 617 (.var [.own 614 (a++([c]:List Int)).length]),2,.K [] [614,616,617]] rfl (a3_ rfl ⟨Qf,Qcw d Qf,Qa2,Qdc Qf⟩ rfl) ?_
 cases h
 refine AK.done ?_
 exact ex_ _ (an_ rfl (gives r3_))
theorem Qkm (lpl lpf:Nat)(c:(List Int))(i:QBg)(hlen:c.length+i.length<=4294967296):Qc prog 140 [.clo (.yield lpl) [] [],.L 618] [(616,.lp lpl (QfW lpf) (Qre (.L 617)) 0),(617,.var [.own 614 c.length]),(614,.arr 1 (c.map Qe)),(618,.var [.map 619]),(619,.map (QW V.I V.I i))] (fun v hs=>∃r:List Int,r.Perm (c++i.map Prod.fst)/\Gives (.tup []) [(614,.arr 1 (r.map Qe)),(616,.lp lpl (QfW lpf) (Qre (.L 617)) 0),(617,.var [.own 614 r.length]),(618,.var [.map 619]),(619,.map (QW V.I V.I i))] v hs):=by
 refine wk_ 14 func140 fun C a=>?_
 refine tg_ a [3] ?_
 refine AK.openMap (b:=619) QnU rfl fun k l L4 p s=>?_
 refine Qa a [.x (fun σ=>(σ.set 5 (.itr k l #[] none)).put 5 (.L 5)),3,.K [0,5] [5,614,616,617,618,619]] rfl (a1_ (Stp.range (b:=619) rfl rfl (QR a.n rfl) rfl rfl Qlt rfl)) ?_
 have hL0:QaQ L4 #[]=L4:=by simp [QaQ]
 have z:(c++(QaQ L4 #[]).map (fun q=>q.2.1)).Perm (c++i.map Prod.fst):=by
  rw [hL0]
  refine List.Perm.append_left c ?_
  have:=s.map Prod.fst
  rwa [Qmc]at this
 refine AK.range (body:=QAs) (fun (_:Nat) seen σ=>∃(cur:Option Nat) (st:List Int),(st++(QaQ L4 seen).map (fun q=>q.2.1)).Perm (c++i.map Prod.fst)/\σ=⟨[(0,.clo (.yield lpl) [] []),lk_ 5],[(5,.itr k l seen cur),(614,.arr 1 (st.map Qe)),(616,.lp lpl (QfW lpf) (Qre (.L 617)) 0),(617,.var [.own 614 st.length]),(618,.var [.map 619]),(619,.mapX k l (QkT V.I V.I L4) (QW V.I V.I i))]⟩) (fun (q:Empty) _ _=>False) (fun _ e σ=>∃st:List Int,st.Perm (c++i.map Prod.fst)/\e=.exit 0/\σ=⟨[],[(614,.arr 1 (st.map Qe)),(616,.lp lpl (QfW lpf) (Qre (.L 617)) 0),(617,.var [.own 614 st.length]),(618,.var [.map 619]),(619,.mapX k l (QkT V.I V.I L4) (QW V.I V.I i))]⟩) p s (QBj i 0) (ex_ _ (ex_ c (an_ z rfl))) ?_ ?_
 ·rintro D seen σ ⟨cur,o,hpp,rfl⟩ hex
  refine tg_ a [2] ?_
  refine AK.nextT (b:=5) (m:=619) rfl rfl rfl (QR a.n rfl) rfl rfl rfl rfl ?_ ?_
  ·intro hleft
   refine tg_ a [7,.K [] [614,616,617,618,619]] ?_
   exact AK.done (Or.inl (an_ hleft (an_ (fun h=>(by cases h)) (ex_ o (an_ (by simpa [hleft] using hpp) (an_ rfl rfl))))))
  intro A y E u
  have hpk:=(Qss p u).map (fun q=>q.2.1)
  have w:((o++[y])++(QaQ L4 (seen.push A)).map (fun q=>q.2.1)).Perm (c++i.map Prod.fst):=List.Perm.trans (by simpa using (List.Perm.append_left o hpk).symm) hpp
  have B:o.length+([y]:List Int).length<=4294967296:=by
   have:=w.length_eq
   simp at this ⊢
   omega
  have t:QcY o y=some (o++[y]):=by
   unfold QcY
   rw [QI B];rfl
  obtain⟨j,hxe⟩:∃x,x=o++[y]:=⟨_,rfl⟩
  rw [<-hxe]at t w
  refine Qa a [10,.x (fun σ=>σ.put 8 (.tup [.I y,.I E])),8,.x (fun σ=>(σ.after [614] [(614,.arr 1 (j.map Qe)),(616,.lp lpl (QfW lpf) (Qre (.L 617)) 0),(617,.var [.own 614 j.length])]).put 12 (.b true)),6,.K [0,5] [5,614,616,617,618,619]] rfl (a2_ (Stp.entryT (b:=5) (m:=619) (e:=V.I) (f:=V.I) rfl rfl (QR a.n rfl) rfl u rfl rfl) (Stp.yieldV (b:=616) (M:=[(616,616),(617,617),(614,614)]) (N:=[(614,614),(616,616),(617,617)]) (dead:=[614]) (ms:=[.d,.d,.d,.d,.d,.d,.d,.d,.d,.d,.d,.d,.d]) (outs:=[(614,.arr 1 (j.map Qe)),(616,.lp lpl (QfW lpf) (Qre (.L 617)) 0),(617,.var [.own 614 j.length])]) (r:=.b true) rfl rfl rfl rfl rfl rfl rfl (QR a.n rfl) a.g rfl rfl (QiP _ _ _ _ t))) ?_
  exact AK.done (Or.inr (ex_ _ (an_ u (Or.inl (ex_ (D+1) (an_ rfl (an_ rfl (ex_ _ (ex_ j (an_ w rfl))))))))))
 rintro e σ ⟨o,hpp,rfl,rfl⟩
 refine tg_ a [1] ?_
 refine AK.closeMap (b:=619) rfl ?_
 refine tg_ a [.K [] [614,616,617,618,619]] ?_
 refine AK.done ?_
 exact ex_ [] (an_ tt_ (ex_ o (an_ hpp (gives r5_))))
theorem QmQ (a:QBg)(hlen:a.length<=4294967296):Qc prog 192 [.lit (.slice none 0 0),.clo (.func 140) [] [.L 616]] [(616,.var [.map 617]),(617,.map (QW V.I V.I a))] (fun v hs=>∃r:List Int,r.Perm (a.map Prod.fst)/\Gives (.own 600 r.length) [(600,.arr 1 (r.map Qe)),(616,.var [.map 617]),(617,.map (QW V.I V.I a))] v hs):=by
 refine Qc.walkR 13 func192 rfl ntmps192 rfl fun C c hR=>?_
 refine tg_ c [13,.K [2,4,6] [2,616,617]] ?_
 refine Qa c [.adoptO 2 0 606 1,.O 606 (.arr 1 (([]:List Int).map Qe)),.O 2 (.var [.own 606 ([]:List Int).length])] rfl (a2_ rfl rfl) ?_
 refine AK.rangeFE (ι:=List Int) (Φ:=fun x=>x.Perm (a.map Prod.fst)) 613 [2] [(616,613),(617,2),(614,606),(618,616),(619,617)] [(606,614),(613,616),(2,617),(616,618),(617,619)] [606] [.d,.d] QfW c hR (fun _=>rfl) rfl rfl rfl rfl fun lpl lpf=>?_
 refine ex_ (fun b:List Int=>[(614,.arr 1 (b.map Qe)),(616,.lp lpl (QfW lpf) (Qre (.L 617)) 0),(617,.var [.own 614 b.length]),(618,.var [.map 619]),(619,.map (QW V.I V.I a))]) (ex_ (fun _=>.tup []) (ex_ (fun b=>_) (ex_ _ (ex_ _ (an_ rfl (an_ rfl (an_ (Qkm _ _ ([]:List Int) a (by simpa using hlen)) fun b=>ex_ _ (ex_ (Qre (.L 2)) (ex_ 0 (an_ rfl (an_ rfl (an_ (bne_iff_ne.1 (show(0 != 1)=true from rfl)) fun hpp=>?_))))))))))))
 refine QDn rfl ?_
 refine tg_ c [9,.K [4] [606,616,617],.ren 606 600,.K [4] [600,616,617]] ?_
 exact AK.done (ex_ [_] (an_ (an_ rfl tt_) (ex_ b (an_ hpp (gives r3_)))))
theorem Qqc (a:QBg)(hlen:a.length<=4294967296):Qc prog 139 [.clo (.func 140) [] [.L 616]] [(616,.var [.map 617]),(617,.map (QW V.I V.I a))] (fun v hs=>∃r:List Int,r.Perm (a.map Prod.fst)/\Gives (.own 600 r.length) [(600,.arr 1 (r.map Qe)),(616,.var [.map 617]),(617,.map (QW V.I V.I a))] v hs):=by
 refine wk_ 5 func139 fun C c=>?_
 refine tg_ c [8] ?_
 refine AK.callE (ι:=List Int) (Φ:=fun x=>x.Perm (a.map Prod.fst)) [(616,616),(617,617)] [(4,600),(616,616),(617,617)] [] [.d,.d] (fun b=>[(600,.arr 1 (b.map Qe)),(616,.var [.map 617]),(617,.map (QW V.I V.I a))]) (fun b=>(.own 600 b.length)) (fun b=>_) rfl c (Qbb.fn rfl rfl rfl) rfl (QR c.n rfl) rfl rfl (QmQ a hlen) (fun b=>ex_ _ rfl) fun b hpp=>?_
 refine tg_ c [4,.K [2] [4,616,617],.ren 4 600,.K [2] [600,616,617]] ?_
 exact AK.done (ex_ [_] (an_ (an_ rfl tt_) (ex_ b (an_ hpp (gives r3_)))))
def QcD (l:List Int):Option (List Int):=(chk (decide (l.length<4611686018427387904))).bind fun _=>some (Qep l)
theorem QjW (l){r}(h:QcD l=some r):Qc prog 67 [.own 616 l.length] [(616,.arr 1 (l.map Qe))] (Gives (.tup []) [(616,.arr 1 (r.map Qe))]):=by
 obtain⟨_,a,h⟩:=Qb h
 cases h
 exact QzG QBn l (Qap (Qz2 a))
def QiQ (a:QBg):Option (List Int):=
 (chk (decide (a.length<=4294967296))).bind fun _=>
 some (Qep (a.map Prod.fst))
theorem Qrg (a){r}(h:QiQ a=some r):Qc prog 80 [.clo (.func 140) [] [.L 616]] [(616,.var [.map 617]),(617,.map (QW V.I V.I a))] (Gives (.own 600 r.length) [(600,.arr 1 (r.map Qe)),(616,.var [.map 617]),(617,.map (QW V.I V.I a))]):=by
 refine wk_ 9 func80 fun C e=>?_
 obtain⟨_,hlen,h⟩:=Qb h
 replace hlen:=Qap (Qz2 hlen)
 cases h
 refine tg_ e [8] ?_
 refine AK.callE (ι:=List Int) (Φ:=fun x=>x.Perm (a.map Prod.fst)) [(616,616),(617,617)] [(5,600),(616,616),(617,617)] [] [.d] (fun b=>[(600,.arr 1 (b.map Qe)),(616,.var [.map 617]),(617,.map (QW V.I V.I a))]) (fun b=>(.own 600 b.length)) (fun b=>_) rfl e (Qbb.fn rfl rfl rfl) rfl (QR e.n rfl) rfl rfl (Qqc a hlen) (fun b=>ex_ _ rfl) fun b hpp=>?_
 have f:QcD b=some (Qep (a.map Prod.fst)):=by
  unfold QcD
  rw [QI (by have:=hpp.length_eq;simp at this;omega),QAt hpp];rfl
 have c:(Qep (a.map Prod.fst)).length=b.length:=by rw [QhR,hpp.length_eq]
 refine Qa e [6,.cm (.fn) [(616,5)] [(5,616)] [] [.d] [(616,.arr 1 (((Qep (a.map Prod.fst))).map Qe))] (.tup []),.S 3 (.own 5 (Qep (a.map Prod.fst)).length),.S 5 (.own 5 (Qep (a.map Prod.fst)).length),.S 6 (.own 5 (Qep (a.map Prod.fst)).length),9,.K [2] [5,616,617],.ren 5 600,.K [2] [600,616,617]] rfl (a4_ (QjW _ f) (by simp [c]) (by simp [c]) (by simp [c])) ?_
 exact d1_ r3_
def Qey (b:Int)(a:QBg):Option ((Int×QBg)⊕QBg):=
 some (.inl ((w64 (b+1)),a))
def Qcr (e:(List Int))(d:QBg)(b:Int)(c:QBg):Option ((Int×QBg)⊕QBg):=
 bif (decide (b<(e.length:Int)))then
 (idx e b).bind fun a=>
 bif (decide (0<((Q0 d a).getD 0)))then
 (chk (decide (c.length+([(a,((Q0 d a).getD 0))]:List (Int×Int)).length<=4294967296))).bind fun _=>
 Qey b (c++([(a,((Q0 d a).getD 0))]:List (Int×Int)))
 else
 Qey b c
 else
 some (.inr c)
def QmS (a:QBg):Option QBg:=
 some a
def QfZ (a:QBg):Option QBg:=
 (QdX a).bind fun c=>
 (QiQ a).bind fun b=>
 (Qz (fun st=>Qcr b a st.1 st.2) (0,([]:List (Int×Int)))).bind (fun q=>QmS q)
theorem QmT (b){r}(h:QfZ b=some r):Qc prog 40 [.map 616] [(616,.map (QW V.I V.I b))] (Gives (.own 600 r.length) [(600,.arr 2 (r.map Qp)),(616,.map (QW V.I V.I b))]):=by
 refine wk_ 28 func40 fun C c=>?_
 obtain⟨E,w,h⟩:=Qb h
 obtain⟨j,x,h⟩:=Qb h
 refine Qa c [14,.cm (.fn) [(616,616)] [(7,1),(616,616)] [] [.d] [(1,.var [.map 616]),(616,.map (QW V.I V.I b))] (.clo (.func 140) [] [.L 1]),.cm (.fn) [(616,7),(617,616)] [(8,600),(7,616),(616,617)] [] [.d] [(600,.arr 1 (j.map Qe)),(616,.var [.map 617]),(617,.map (QW V.I V.I b))] (.own 600 j.length),5,.adopt 3 18 2,.O 18 (.arr 2 (([]:List (Int×Int)).map Qp)),.S 3 (.own 18 ([]:List (Int×Int)).length),.K [0,3,8,9,10] [8,18,616]] rfl (a4_ (Qk6 _ w) (Qrg _ x) rfl (congrArg (fun n=>V.own 18 n) (by simp))) ?_
 obtain⟨y,s,h⟩:=Qb h
 refine AK.loop (body:=(fun st=>Qcr j b st.1 st.2)) (fun st σ=>σ=⟨[(0,.map 616),(3,.own 18 st.2.length),(8,.own 8 j.length),(9,.I (j.length:Int)),(10,.I st.1)],[(8,.arr 1 (j.map Qe)),(18,.arr 2 (st.2.map Qp)),(616,.map (QW V.I V.I b))]⟩) (fun q e σ=>e=.exit 0/\σ=⟨[(3,.own 18 q.length)],[(18,.arr 2 (q.map Qp)),(616,.map (QW V.I V.I b))]⟩) s rfl ?_ ?_
 ·rintro ⟨B,D⟩ o σ rfl h
  refine tg_ c [6] ?_
  refine bq_ c h [.T,2] rfl (fun g h=>?_) [.F,2,.K [3] [18,616]] rfl fun g h=>?_
  ·refine AK.meet (fun σ=>∃m:QBg,σ=⟨[(0,.map 616),(3,.own 18 m.length),(8,.own 8 j.length),(9,.I (j.length:Int)),(10,.I B)],[(8,.arr 1 (j.map Qe)),(18,.arr 2 (m.map Qp)),(616,.map (QW V.I V.I b))]⟩/\Qey B m=some o) ?_ ?_
   ·obtain⟨a,p,h⟩:=Qb h
    refine Qa c [4,.o (.row (Qe a)),7,.o (.any (.I ((Q0 b a).getD 0)) none),3] rfl (a3_ (QdK p rfl) (Qcb (Qcq p).2) (fun σ t A _=>Stp.lookup (e:=V.I) (f:=V.I) (l:=b) (k:=a) (z:=0) rfl rfl (QR c.n rfl) (t _ _ rfl) (A _ _ rfl) (t _ _ rfl) Qlt QnU QxG rfl)) ?_
    rcases Qm h with⟨i,h⟩|⟨i,h⟩
    ·obtain⟨u,h⟩:=QaV h
     refine Qa c [.T,5,.o (.any (.I ((Q0 b a).getD 0)) none),.A (Qp (a,((Q0 b a).getD 0))),.v (.bd []) [] (.sl 2 (([(a,((Q0 b a).getD 0))]:List (Int×Int)).map Qp)),.app ((D++([(a,((Q0 b a).getD 0))]:List (Int×Int))).map Qp) (D++([(a,((Q0 b a).getD 0))]:List (Int×Int))).length,3,.K [0,3,8,9,10] [8,18,616]] rfl (a5_ i (fun σ t A _=>Stp.lookup (e:=V.I) (f:=V.I) (l:=b) (k:=a) (z:=0) rfl rfl (QR c.n rfl) (t _ _ rfl) (A _ _ rfl) (t _ _ rfl) Qlt QnU QxG rfl) rfl rfl ⟨Qf,Qcw u Qf,Qa2,Qdc Qf⟩) ?_
     exact AK.met (ex_ _ (an_ rfl h))
    refine Qa c [.F,2,.K [0,3,8,9,10] [8,18,616]] rfl (a1_ i) ?_
    exact AK.met (ex_ _ (an_ rfl h))
   rintro σ ⟨m,rfl,h⟩
   refine tg_ c [4,.K [0,3,8,9,10] [8,18,616]] ?_
   cases h
   exact QY rfl rfl
  cases h
  exact QZ rfl (an_ rfl rfl)
 replace h:QmS y=some r:=h
 rintro e σ ⟨rfl,rfl⟩
 refine tg_ c [9,.K [2] [18,616],.ren 18 600] ?_
 cases h
 exact d1_ r2_
def Qnr (b:Int)(a:QBg):Option ((Int×QBg)⊕QBg):=
 some (.inl ((w64 (b+1)),a))
def QfI (d:(List Int))(b:Int)(c:QBg):Option ((Int×QBg)⊕QBg):=
 bif (decide (b<(d.length:Int)))then
 (idx d b).bind fun a=>
 bif (decide (0<=a))then
 Qnr b (QcX ltI c a (min2 (w64 (((Q0 c a).getD 0)+1)) 1048576))
 else
 Qnr b c
 else
 some (.inr c)
def Qns (b:QBg):Option QBg:=
 (QfZ b).bind fun a=>
 some a
def QsK (a:(List Int)):Option QBg:=
 (Qz (fun st=>QfI a st.1 st.2) (0,([]:QBg))).bind (fun q=>Qns q)
theorem QzJ (g){r}(h:QsK g=some r):Qc prog 86 [.sl 1 (g.map Qe)] [] (Gives (.own 600 r.length) [(600,.arr 2 (r.map Qp))]):=by
 refine wk_ 25 func86 fun C c=>?_
 refine Qa c [8,.O 6 (.map (QW V.I V.I ([]:QBg))),7,.o (.ln g.length),4,.K [3,7,8,9] [6]] rfl (a2_ rfl Qf) ?_
 obtain⟨w,p,h⟩:=Qb h
 refine AK.loop (body:=(fun st=>QfI g st.1 st.2)) (fun st σ=>σ=⟨[(3,.map 6),(7,.sl 1 (g.map Qe)),(8,.I (g.length:Int)),(9,.I st.1)],[(6,.map (QW V.I V.I st.2))]⟩) (fun q e σ=>e=.exit 0/\σ=⟨[(3,.map 6)],[(6,.map (QW V.I V.I q))]⟩) p rfl ?_ ?_
 ·rintro ⟨y,m⟩ o σ rfl h
  refine tg_ c [6] ?_
  refine bq_ c h [.T,2] rfl (fun i h=>?_) [.F,2,.K [3] [6]] rfl fun i h=>?_
  ·refine AK.meet (fun σ=>∃j:QBg,σ=⟨[(3,.map 6),(7,.sl 1 (g.map Qe)),(8,.I (g.length:Int)),(9,.I y)],[(6,.map (QW V.I V.I j))]⟩/\Qnr y j=some o) ?_ ?_
   ·obtain⟨a,s,h⟩:=Qb h
    refine Qa c [3,.o (.row (Qe a)),10] rfl (a1_ (QJ s)) ?_
    refine bg_ h (fun b h=>Qa c [.T,5,.o (.any (.I ((Q0 m a).getD 0)) none),2,.x (fun σ=>σ.set 6 (.map (QW V.I V.I (QcX ltI m a (min2 (w64 (((Q0 m a).getD 0)+1)) 1048576))))),2,.K [3,7,8,9] [6]] rfl (a3_ b (fun σ A B _=>Stp.lookup (e:=V.I) (f:=V.I) (l:=m) (k:=a) (z:=0) rfl rfl (QR c.n rfl) (A _ _ rfl) (B _ _ rfl) (A _ _ rfl) Qlt QnU QxG rfl) (Stp.mapUpdate (e:=V.I) (f:=V.I) (l:=m) (k:=a) (v:=(min2 (w64 (((Q0 m a).getD 0)+1)) 1048576)) ltI rfl rfl rfl rfl rfl rfl Qlt QnU rfl)) ?_) fun b h=>Qa c [.F,2,.K [3,7,8,9] [6]] rfl (a1_ b) ?_
    ·exact AK.met (ex_ _ (an_ rfl h))
    exact AK.met (ex_ _ (an_ rfl h))
   rintro σ ⟨j,rfl,h⟩
   refine tg_ c [4,.K [3,7,8,9] [6]] ?_
   cases h
   exact QY rfl rfl
  cases h
  exact QZ rfl (an_ rfl rfl)
 replace h:Qns w=some r:=h
 rintro e σ ⟨rfl,rfl⟩
 obtain⟨t,u,h⟩:=Qb h
 refine Qa c [5,.cm (.fn) [(616,6)] [(24,600),(6,616)] [] [.d] [(600,.arr 2 (t.map Qp)),(616,.map (QW V.I V.I w))] (.own 600 t.length),4,.K [2] [24],.ren 24 600] rfl (a1_ (QmT _ u)) ?_
 cases h
 exact d1_ r1_
def QcZ (d:QBg)(a:Int)(c:Int):Option ((Int×Int)⊕(Unit⊕Unit)):=
 bif (decide (c<(d.length:Int)))then
 (idx d c).bind fun b=>
 bif ((decide (b.1<=a))||((decide (b.2<1))||(decide (1048576<b.2))))then
 some (.inr (.inl ()))
 else
 some (.inl (b.1,(w64 (c+1))))
 else
 some (.inr (.inr ()))
def Qkn : Option Bool:=
 some false
def Qko : Option Bool:=
 some true
def QfJ (a:QBg):Option Bool:=
 (Qz (fun st=>QcZ a st.1 st.2) ((-1),0)).bind (Sum.elim (fun q=>Qkn) (fun q=>Qko))
theorem Qm4 (j){r}(h:QfJ j=some r):Qc prog 60 [.sl 2 (j.map Qp)] [] (Gives (.b r) []):=by
 refine wk_ 29 func60 fun C g=>?_
 refine Qa g [14,.o (.ln j.length),4,.K [3,6,7,8] []] rfl (a1_ Qf) ?_
 obtain⟨m,l,h⟩:=Qb h
 refine AK.loop (body:=(fun st=>QcZ j st.1 st.2)) (fun st σ=>σ=⟨[(3,.I st.1),(6,.sl 2 (j.map Qp)),(7,.I (j.length:Int)),(8,.I st.2)],[]⟩) (Sum.elim (fun q e σ=>e=.ret/\σ=⟨[(2,.b false)],[]⟩) (fun q e σ=>e=.exit 0/\σ=⟨[],[]⟩)) l rfl ?_ ?_
 ·rintro ⟨a,s⟩ o σ rfl h
  refine tg_ g [6] ?_
  rcases Qm h with⟨k,h⟩|⟨k,h⟩
  ·obtain⟨d,p,h⟩:=Qb h
   refine Qa g [.T,6,.o (.row (Qp d)),.A (Qp d),2,.O 5 (.var (Qp d)),4] rfl (a4_ k (QJ p) rfl rfl) ?_
   refine AK.meetX (fun σ=>σ=⟨[lk_ 5,(6,.sl 2 (j.map Qp)),(7,.I (j.length:Int)),(8,.I s),(25,.b ((decide (d.1<=a))||((decide (d.2<1))||(decide (1048576<d.2)))))],[(5,.var (Qp d))]⟩) ?_ ?_
   ·refine tg_ g [6] ?_
    rcases QE (decide (d.1<=a))with c | c
    ·refine Qa g [.S 16 (.b true),10,.S 25 (.b ((decide (d.1<=a))||((decide (d.2<1))||(decide (1048576<d.2))))),.K [5,6,7,8,25] [5]] rfl ⟨(tc_ c),(congrArg V.b (orT c rfl))⟩ ?_
     exact mt_
    refine Qa g [.S 16 (.b false),5] rfl (tc_ c) ?_
    rcases QE (decide (d.2<1))with f | f
    ·refine Qa g [.S 21 (.b true),5,.S 25 (.b ((decide (d.1<=a))||((decide (d.2<1))||(decide (1048576<d.2))))),.K [5,6,7,8,25] [5]] rfl ⟨(tc_ f),(congrArg V.b (orF c (orT f rfl)))⟩ ?_
     exact mt_
    refine Qa g [.S 21 (.b false),5,.S 25 (.b ((decide (d.1<=a))||((decide (d.2<1))||(decide (1048576<d.2))))),.K [5,6,7,8,25] [5]] rfl ⟨(tc_ f),(congrArg V.b (orF c (orF f rfl)))⟩ ?_
    exact mt_
   rintro σ rfl
   refine tg_ g [1] ?_
   refine bq_ g h [.T,9,.K [2] []] rfl (fun i h=>?_) [.F,13,.K [3,6,7,8] []] rfl fun i h=>?_
   ·cases h
    exact Qah rfl (an_ rfl rfl)
   cases h
   exact QY rfl rfl
  refine Qa g [.F,2,.K [] []] rfl (a1_ k) ?_
  cases h
  exact QZ rfl (an_ rfl rfl)
 rcases m with(_ | _)
 ·replace h:Qkn=some r:=h
  rintro e σ ⟨rfl,rfl⟩
  refine tg_ g [2] ?_
  cases h
  exact d1_ tt_
 replace h:Qko=some r:=h
 rintro e σ ⟨rfl,rfl⟩
 refine tg_ g [8] ?_
 cases h
 exact d1_ tt_
def Qg2 (c:QBg)(b:Int)(d:QBg):Option ((Int×QBg)⊕QBg):=
 bif (decide (b<(c.length:Int)))then
 (idx c b).bind fun a=>
 some (.inl ((w64 (b+1)),(QcX ltI d a.1 a.2)))
 else
 some (.inr d)
def Qvw (a:QBg):Option (Unit⊕QBg):=
 some (.inr a)
def Qm5 (a:QBg):Option (Unit⊕QBg):=
 (QfJ a).bind fun b=>
 bif (!b)then
 some (.inl ())
 else
 (Qz (fun st=>Qg2 a st.1 st.2) (0,([]:QBg))).bind (fun q=>Qvw q)
theorem QiI (m){r}(h:Qm5 m=some r):Qc prog 79 [.sl 2 (m.map Qp)] [] ((Sum.elim (fun q=>(Gives (.tup [.lit (.map none),.b false]) [])) (fun q=>(Gives (.tup [.map 601,.b true]) [(601,.map (QW V.I V.I q))]))) r):=by
 refine wk_ 24 func79 fun C i=>?_
 obtain⟨y,t,h⟩:=Qb h
 refine Qa i [10,.o (.C1 (.b y)),3] rfl (a1_ (Qm4 _ t)) ?_
 refine bg_ h (fun j h=>Qa i [.T,8,.K [2,3] []] rfl (a1_ j) ?_) fun j h=>Qa i [.F,5,.O 10 (.map (QW V.I V.I ([]:QBg))),7,.o (.ln m.length),4,.K [4,11,12,13] [10]] rfl (a3_ j rfl Qf) ?_
 ·cases h
  exact AK.done (ex_ [_,_] (an_ (an_ rfl (an_ rfl tt_)) (gives tt_)))
 obtain⟨u,p,h⟩:=Qb h
 refine AK.loop (body:=(fun st=>Qg2 m st.1 st.2)) (fun st σ=>σ=⟨[(4,.map 10),(11,.sl 2 (m.map Qp)),(12,.I (m.length:Int)),(13,.I st.1)],[(10,.map (QW V.I V.I st.2))]⟩) (fun q e σ=>e=.exit 0/\σ=⟨[(4,.map 10)],[(10,.map (QW V.I V.I q))]⟩) p rfl ?_ ?_
 ·rintro ⟨z,w⟩ o σ rfl h
  refine tg_ i [6] ?_
  rcases Qm h with⟨g,h⟩|⟨g,h⟩
  ·obtain⟨a,s,h⟩:=Qb h
   refine Qa i [.T,6,.o (.row (Qp a)),.A (Qp a),2,.O 6 (.var (Qp a)),8,.x (fun σ=>σ.set 10 (.map (QW V.I V.I (QcX ltI w a.1 a.2)))),7,.K [4,11,12,13] [10]] rfl (a5_ g (QJ s) rfl rfl (Stp.mapUpdate (e:=V.I) (f:=V.I) (l:=w) (k:=a.1) (v:=a.2) ltI rfl rfl rfl rfl rfl rfl Qlt QnU rfl)) ?_
   cases h
   exact QY rfl rfl
  refine Qa i [.F,2,.K [4] [10]] rfl (a1_ g) ?_
  cases h
  exact QZ rfl (an_ rfl rfl)
 replace h:Qvw u=some r:=h
 rintro e σ ⟨rfl,rfl⟩
 refine tg_ i [10,.K [2,3] [10],.ren 10 601,.K [2,3] [601]] ?_
 cases h
 exact AK.done (ex_ [_,_] (an_ (an_ rfl (an_ rfl tt_)) (gives r1_)))
def Qs7 (a:Unit):Option (Unit⊕(QBg⊕(QBg⊕(QBg×QBg)))):=
 some (.inl ())
def Qs8 (a:QBg):Option (Unit⊕(QBg⊕(QBg⊕(QBg×QBg)))):=
 some (.inr (.inl a))
def QnV (a:QBg)(b:Unit):Option (Unit⊕(QBg⊕(QBg⊕(QBg×QBg)))):=
 (Qm5 a).bind (Sum.elim (fun q=>Qs7 q) (fun q=>Qs8 q))
def Qs9 (a:QBg)(b:Unit):Option (Unit⊕(QBg⊕(QBg⊕(QBg×QBg)))):=
 some (.inr (.inr (.inl a)))
def Qta (b:QBg)(a:QBg):Option (Unit⊕(QBg⊕(QBg⊕(QBg×QBg)))):=
 some (.inr (.inr (.inr (b,a))))
def QnW (b:QBg)(a:QBg):Option (Unit⊕(QBg⊕(QBg⊕(QBg×QBg)))):=
 (Qm5 b).bind (Sum.elim (fun q=>Qs9 a q) (fun q=>Qta a q))
def Qmz (b:QBg)(a:QBg):Option (Unit⊕(QBg⊕(QBg⊕(QBg×QBg)))):=
 (Qm5 b).bind (Sum.elim (fun q=>QnV a q) (fun q=>QnW a q))
theorem Qeg (s j){r}(h:Qmz s j=some r):Qc prog 39 [.sl 2 (s.map Qp),.sl 2 (j.map Qp)] [] ((Sum.elim (fun q=>(Gives (.tup [.lit (.map none),.lit (.map none),.b false]) [])) (Sum.elim (fun q=>(Gives (.tup [.lit (.map none),.map 603,.b false]) [(603,.map (QW V.I V.I q))])) (Sum.elim (fun q=>(Gives (.tup [.map 602,.lit (.map none),.b false]) [(602,.map (QW V.I V.I q))])) (fun q=>(Gives (.tup [.map 602,.map 603,.b true]) [(602,.map (QW V.I V.I q.1)),(603,.map (QW V.I V.I q.2))]))))) r):=by
 refine wk_ 25 func39 fun C e=>?_
 obtain⟨t,f,h⟩:=Qb h
 refine tg_ e [10] ?_
 rcases t with(u | k)
 ·replace h:QnV j u=some r:=h
  obtain⟨l,a,h⟩:=Qb h
  refine Qa e [.cm (.fn) [] [] [] [.d] [] (.tup [.lit (.map none),.b false]),10] rfl (a1_ (QiI _ f)) ?_
  rcases l with(m | g)
  ·replace h:Qs7 m=some r:=h
   refine Qa e [.cm (.fn) [] [] [] [.d] [] (.tup [.lit (.map none),.b false]),21,.K [4,5,6] []] rfl (a1_ (QiI _ a)) ?_
   cases h
   exact AK.done (ex_ [_,_,_] (an_ (an_ rfl (an_ rfl (an_ rfl tt_))) (gives tt_)))
  replace h:Qs8 g=some r:=h
  refine Qa e [.cm (.fn) [] [(16,601)] [] [.d] [(601,.map (QW V.I V.I g))] (.tup [.map 601,.b true]),21,.K [4,5,6] [16],.ren 16 603,.K [4,5,6] [603]] rfl (a1_ (QiI _ a)) ?_
  cases h
  exact AK.done (ex_ [_,_,_] (an_ (an_ rfl (an_ rfl (an_ rfl tt_))) (gives r1_)))
 replace h:QnW j k=some r:=h
 obtain⟨o,c,h⟩:=Qb h
 refine Qa e [.cm (.fn) [] [(11,601)] [] [.d] [(601,.map (QW V.I V.I k))] (.tup [.map 601,.b true]),10] rfl (a1_ (QiI _ f)) ?_
 rcases o with(p | i)
 ·replace h:Qs9 k p=some r:=h
  refine Qa e [.cm (.fn) [] [] [] [.d] [] (.tup [.lit (.map none),.b false]),21,.K [4,5,6] [11],.ren 11 602,.K [4,5,6] [602]] rfl (a1_ (QiI _ c)) ?_
  cases h
  exact AK.done (ex_ [_,_,_] (an_ (an_ rfl (an_ rfl (an_ rfl tt_))) (gives r1_)))
 replace h:Qta k i=some r:=h
 refine Qa e [.cm (.fn) [] [(16,601)] [] [.d] [(601,.map (QW V.I V.I i))] (.tup [.map 601,.b true]),21,.K [4,5,6] [11,16],.ren 11 602,.K [4,5,6] [16,602],.ren 16 603,.K [4,5,6] [602,603]] rfl (a1_ (QiI _ c)) ?_
 cases h
 exact AK.done (ex_ [_,_,_] (an_ (an_ rfl (an_ rfl (an_ rfl tt_))) (gives r2_)))
def Qt1 (a:Unit):Option (QBg×Int):=
 some (([]:List (Int×Int)),1)
def Qt2 (a:QBg):Option (QBg×Int):=
 some (([]:List (Int×Int)),1)
def Qt3 (a:QBg):Option (QBg×Int):=
 some (([]:List (Int×Int)),1)
def Qhz (b:QBg)(a:Int)(c:Int):Option (QBg⊕Unit):=
 bif (decide (1048576<((Q0 (QcX ltI b a (w64 (((Q0 b a).getD 0)+c))) a).getD 0)))then
 some (.inr ())
 else
 some (.inl (QcX ltI b a (w64 (((Q0 b a).getD 0)+c))))
def Qph (a:QBg):Option (QBg×Int):=
 (QfZ a).bind fun b=>
 some (b,0)
def Qt4 : Option (QBg×Int):=
 some (([]:List (Int×Int)),2)
def Qpi (a:(QBg×QBg)):Option (QBg×Int):=
 (Qmj (fun st p=>Qhz st p.1 p.2) a.1 a.2).bind (Sum.elim (fun q=>Qph q) (fun q=>Qt4))
def QhS (a:QBg)(b:QBg):Option (QBg×Int):=
 (Qmz a b).bind (Sum.elim (fun q=>Qt1 q) (Sum.elim (fun q=>Qt2 q) (Sum.elim (fun q=>Qt3 q) (fun q=>Qpi q))))
theorem Qze (O P){r}(h:QhS O P=some r):Qc prog 14 [.sl 2 (O.map Qp),.sl 2 (P.map Qp)] [] (Gives (.tup [.sl 2 (r.1.map Qp),.I r.2]) []):=by
 refine wk_ 38 func14 fun C g=>?_
 obtain⟨W,w,h⟩:=Qb h
 refine tg_ g [10] ?_
 rcases W with(X | (S | (E | y)))
 ·replace h:Qt1 X=some r:=h
  refine Qa g [.cm (.fn) [] [] [] [.d,.d] [] (.tup [.lit (.map none),.lit (.map none),.b false]),25,.denil 4 [some 2]] rfl (a1_ (Qeg _ _ w)) ?_
  cases h
  exact d2_ tt_
 ·replace h:Qt2 S=some r:=h
  refine Qa g [.cm (.fn) [] [(14,603)] [] [.d,.d] [(603,.map (QW V.I V.I S))] (.tup [.lit (.map none),.map 603,.b false]),25,.denil 4 [some 2]] rfl (a1_ (Qeg _ _ w)) ?_
  cases h
  exact d2_ tt_
 ·replace h:Qt3 E=some r:=h
  refine Qa g [.cm (.fn) [] [(14,602)] [] [.d,.d] [(602,.map (QW V.I V.I E))] (.tup [.map 602,.lit (.map none),.b false]),25,.denil 4 [some 2]] rfl (a1_ (Qeg _ _ w)) ?_
  cases h
  exact d2_ tt_
 replace h:Qpi y=some r:=h
 refine Qa g [.cm (.fn) [] [(14,602),(609,603)] [] [.d,.d] [(602,.map (QW V.I V.I y.1)),(603,.map (QW V.I V.I y.2))] (.tup [.map 602,.map 603,.b true]),23] rfl (a1_ (Qeg _ _ w)) ?_
 refine AK.openMapK (b:=609) QnU rfl fun s t L12 A L B=>?_
 refine Qa g [.x (fun σ=>(σ.set 21 (.itr s t #[] none)).put 21 (.L 21)),3,.K [6,21] [14,21,609]] rfl (a1_ (Stp.range (b:=609) rfl rfl (QR g.n rfl) rfl rfl Qlt rfl)) ?_
 obtain⟨M,G,h⟩:=Qb h
 refine AK.range (body:=(fun st p=>Qhz st p.1 p.2)) (fun st seen σ=>∃cur:Option Nat,σ=⟨[(6,.map 14),lk_ 21],[(14,.map (QW V.I V.I st)),(21,.itr s t seen cur),(609,.mapX s t (QkT V.I V.I L12) (QW V.I V.I y.2))]⟩) (fun q e σ=>e=.ret/\σ=⟨[(4,.lit (.slice none 0 0)),(5,.I 2)],[]⟩) (fun st e σ=>e=.exit 0/\σ=⟨[(6,.map 14)],[(14,.map (QW V.I V.I st))]⟩) A B G (ex_ _ rfl) ?_ ?_
 ·rintro a seen σ ⟨cur,rfl⟩ hex
  refine tg_ g [2] ?_
  refine AK.nextT (b:=21) (m:=609) rfl rfl rfl (QR g.n rfl) rfl rfl rfl rfl ?_ ?_
  ·intro hleft
   refine tg_ g [7,.K [6] [14]] ?_
   exact AK.done (Or.inl (an_ hleft (an_ (fun h=>(by cases h)) (an_ rfl rfl))))
  intro U c j i
  obtain⟨o,h⟩:=hex _ i
  have ho:=h
  replace h:Qhz a c j=some o:=h
  refine Qa g [10,.x (fun σ=>σ.put 24 (.tup [.I c,.I j])),10,.o (.any (.I ((Q0 a c).getD 0)) none),2,.x (fun σ=>σ.set 14 (.map (QW V.I V.I (QcX ltI a c (w64 (((Q0 a c).getD 0)+j)))))),6,.o (.any (.I ((Q0 (QcX ltI a c (w64 (((Q0 a c).getD 0)+j))) c).getD 0)) none),3] rfl (a4_ (Stp.entryT (b:=21) (m:=609) (e:=V.I) (f:=V.I) rfl rfl (QR g.n rfl) rfl i rfl rfl) (fun σ H N _=>Stp.lookup (e:=V.I) (f:=V.I) (l:=a) (k:=c) (z:=0) rfl rfl (QR g.n rfl) (H _ _ rfl) (N _ _ rfl) (H _ _ rfl) Qlt QnU QxG rfl) (Stp.mapUpdate (e:=V.I) (f:=V.I) (l:=a) (k:=c) (v:=(w64 (((Q0 a c).getD 0)+j))) ltI rfl rfl rfl rfl rfl rfl Qlt QnU rfl) (fun σ H N _=>Stp.lookup (e:=V.I) (f:=V.I) (l:=(QcX ltI a c (w64 (((Q0 a c).getD 0)+j)))) (k:=c) (z:=0) rfl rfl (QR g.n rfl) (H _ _ rfl) (N _ _ rfl) (H _ _ rfl) Qlt QnU QxG rfl)) ?_
  refine bq_ g h [.T,8,.K [4,5] []] rfl (fun u h=>?_) [.F,2,.K [6,21] [14,21,609]] rfl fun u h=>?_
  ·cases h
   exact AK.done (Or.inr (ex_ _ (an_ i (Or.inr (ex_ _ (an_ ho (an_ (fun h=>(by cases h)) (an_ rfl rfl))))))))
  cases h
  exact AK.done (Or.inr (ex_ _ (an_ i (Or.inl (ex_ _ (an_ ho (an_ rfl (ex_ _ rfl))))))))
 rcases M with(a | _)
 ·replace h:Qph a=some r:=h
  rintro e σ ⟨rfl,rfl⟩
  obtain⟨D,J,h⟩:=Qb h
  refine Qa g [5,.cm (.fn) [(616,14)] [(37,600),(14,616)] [] [.d] [(600,.arr 2 (D.map Qp)),(616,.map (QW V.I V.I a))] (.own 600 D.length),5,.frz 37 (D.map Qp) [4] []] rfl (a2_ (QmT _ J) (a1_ (QeC Qf))) ?_
  cases h
  exact d2_ tt_
 replace h:Qt4=some r:=h
 rintro e σ ⟨rfl,rfl⟩
 refine tg_ g [2,.denil 4 [some 2]] ?_
 cases h
 exact d2_ tt_
def Qb6 (a:(List Int))(j:(List Qat))(h:(List Int))(k:Qn)(e:Int)(c:QMk):Option ((Int×QMk)⊕(Int⊕QMk)):=
 bif (decide (e<(a.length:Int)))then
 (idx a e).bind fun d=>
 bif ((decide (d<0))||(decide ((j.length:Int)<=d)))then
 some (.inr (.inl 11))
 else
 (idx j d).bind fun l=>
 (Qg1 l.Expr h).bind fun f=>
 bif (f.2 != 0)then
 some (.inr (.inl f.2))
 else
 (idx j d).bind fun b=>
 bif ((decide (b.Place<0))||(decide ((k.Places.length:Int)<=b.Place)))then
 some (.inr (.inl 3))
 else
 (idx k.Places b.Place).bind fun m=>
 (Qde k.Colours m.Colour f.1).bind fun i=>
 bif (!i.2)then
 some (.inr (.inl 8))
 else
 (idx c b.Place).bind fun n=>
 (QsK ([i.1]:List Int)).bind fun o=>
 (QhS n o).bind fun g=>
 (idx c b.Place).bind fun p=>
 bif (g.2 != 0)then
 some (.inr (.inl g.2))
 else
 some (.inl ((w64 (e+1)),(c.set b.Place.toNat g.1)))
 else
 some (.inr (.inr c))
def Qpj (a:Int):Option (QMk×Int):=
 some (([]:List QBg),a)
def Qpk (a:QMk):Option (QMk×Int):=
 some (a,0)
def Qaz (b:Qn)(d:(List Qat))(a:(List Int))(c:(List Int)):Option (QMk×Int):=
 (chk (decide (0<=(b.Places.length:Int))&&decide ((b.Places.length:Int)<=(b.Places.length:Int))&&decide ((b.Places.length:Int)<=4294967296))).bind fun _=>
 (Qz (fun st=>Qb6 a d c b st.1 st.2) (0,(List.replicate (b.Places.length:Int).toNat (([]:QBg):QBg)))).bind (Sum.elim (fun q=>Qpj q) (fun q=>Qpk q))
theorem Qh2 (t E g k){r}(h:Qaz t E g k=some r):Qc prog 44 [.agg (Qd t),.sl 4 (E.map Q2),.sl 1 (g.map Qe),.sl 1 (k.map Qe)] [] (Gives (.tup [.sl 1 (r.1.map Qs),.I r.2]) []):=by
 refine wk_ 97 func44 fun C i=>?_
 obtain⟨a6,h⟩:=QaV h
 refine Qa i [11,.o (.ln t.Places.length),.o (.rows (List.replicate (t.Places.length:Int).toNat [.lit (.slice none 0 0)]))] rfl (a2_ Qf ⟨a6,rfl⟩) ?_
 refine AK.denilA (b:=21) [some 2] rfl (QBh (f:=Qs) (x:=([]:QBg)) rfl) ?_
 refine Qa i [.S 21 (.own 21 (List.replicate (t.Places.length:Int).toNat (([]:QBg):QBg)).length),7,.o (.ln g.length),4,.K [1,3,4,10,22,23,24] [4,21]] rfl (a2_ (by simp) Qf) ?_
 obtain⟨a7,O,h⟩:=Qb h
 refine AK.loop (body:=(fun st=>Qb6 g E k t st.1 st.2)) (fun st σ=>σ=⟨[(1,.sl 4 (E.map Q2)),(3,.sl 1 (k.map Qe)),lk_ 4,(10,.own 21 st.2.length),(22,.sl 1 (g.map Qe)),(23,.I (g.length:Int)),(24,.I st.1)],[(4,.var (Qd t)),(21,.arr 1 (st.2.map Qs))]⟩) (Sum.elim (fun q e σ=>e=.ret/\σ=⟨[(8,.lit (.slice none 0 0)),(9,.I q)],[]⟩) (fun q e σ=>e=.exit 0/\σ=⟨[(10,.own 21 q.length)],[(21,.arr 1 (q.map Qs))]⟩)) O rfl ?_ ?_
 ·rintro ⟨P,u⟩ o σ rfl h
  refine tg_ i [6] ?_
  rcases Qm h with⟨w,h⟩|⟨w,h⟩
  ·obtain⟨l,U,h⟩:=Qb h
   refine Qa i [.T,6,.o (.row (Qe l)),6] rfl (a2_ w (QJ U)) ?_
   refine AK.meetX (fun σ=>σ=⟨[(1,.sl 4 (E.map Q2)),(3,.sl 1 (k.map Qe)),lk_ 4,(10,.own 21 u.length),(12,.I l),(22,.sl 1 (g.map Qe)),(23,.I (g.length:Int)),(24,.I P),(35,.b ((decide (l<0))||(decide ((E.length:Int)<=l))))],[(4,.var (Qd t)),(21,.arr 1 (u.map Qs))]⟩) ?_ ?_
   ·refine tg_ i [4] ?_
    rcases QE (decide (l<0))with p | p
    ·refine Qa i [.S 30 (.b true),6,.S 35 (.b ((decide (l<0))||(decide ((E.length:Int)<=l)))),.K [1,3,4,10,12,22,23,24,35] [4,21]] rfl ⟨(tc_ p),(congrArg V.b (orT p rfl))⟩ ?_
     exact mt_
    refine Qa i [.S 30 (.b false),2,.o (.ln E.length),3,.S 35 (.b ((decide (l<0))||(decide ((E.length:Int)<=l)))),.K [1,3,4,10,12,22,23,24,35] [4,21]] rfl ⟨⟨(tc_ p),Qf⟩,(congrArg V.b (orF p rfl))⟩ ?_
    exact mt_
   rintro σ rfl
   refine tg_ i [1] ?_
   rcases Qm h with⟨y,h⟩|⟨y,h⟩
   ·refine Qa i [.T,10,.K [8,9] []] rfl (a1_ y) ?_
    cases h
    exact Qah rfl (an_ rfl rfl)
   obtain⟨W,X,h⟩:=Qb h
   obtain⟨L,Y,h⟩:=Qb h
   refine Qa i [.F,6,.o (.row (Q2 W)),1,.A (Qk W.Expr),1,.o (.C2 (.tup [.I L.1,.I L.2])),14] rfl (a4_ y (QJ X) rfl (Qrx _ _ Y)) ?_
   rcases Qm h with⟨z,h⟩|⟨z,h⟩
   ·refine Qa i [.T,11,.K [8,9] []] rfl (a1_ z) ?_
    cases h
    exact Qah rfl (an_ rfl rfl)
   obtain⟨j,Z,h⟩:=Qb h
   refine Qa i [.F,6,.o (.row (Q2 j)),7] rfl (a2_ z (QJ Z)) ?_
   refine AK.meetX (fun σ=>σ=⟨[(1,.sl 4 (E.map Q2)),(3,.sl 1 (k.map Qe)),lk_ 4,(10,.own 21 u.length),(13,.I L.1),(15,.I j.Place),(22,.sl 1 (g.map Qe)),(23,.I (g.length:Int)),(24,.I P),(62,.b ((decide (j.Place<0))||(decide ((t.Places.length:Int)<=j.Place))))],[(4,.var (Qd t)),(21,.arr 1 (u.map Qs))]⟩) ?_ ?_
   ·refine tg_ i [4] ?_
    rcases QE (decide (j.Place<0))with s | s
    ·refine Qa i [.S 56 (.b true),7,.S 62 (.b ((decide (j.Place<0))||(decide ((t.Places.length:Int)<=j.Place)))),.K [1,3,4,10,13,15,22,23,24,62] [4,21]] rfl ⟨(tc_ s),(congrArg V.b (orT s rfl))⟩ ?_
     exact mt_
    refine Qa i [.S 56 (.b false),3,.o (.ln t.Places.length),3,.S 62 (.b ((decide (j.Place<0))||(decide ((t.Places.length:Int)<=j.Place)))),.K [1,3,4,10,13,15,22,23,24,62] [4,21]] rfl ⟨⟨(tc_ s),Qf⟩,(congrArg V.b (orF s rfl))⟩ ?_
    exact mt_
   rintro σ rfl
   refine tg_ i [1] ?_
   rcases Qm h with⟨A,h⟩|⟨A,h⟩
   ·refine Qa i [.T,10,.K [8,9] []] rfl (a1_ A) ?_
    cases h
    exact Qah rfl (an_ rfl rfl)
   obtain⟨a8,a0,h⟩:=Qb h
   obtain⟨M,a1,h⟩:=Qb h
   refine Qa i [.F,3,.K [1,3,4,10,13,15,22,23,24] [4,21]] rfl (a1_ A) ?_
   refine AK.draw2 Qo i mixed [.N,.N,.N,.N,.N,.a (.row (QC a8)) none false,.N,.N,.N,.a (.C3 (.tup [.I M.1,.b M.2])) none false,.N,.N,.N,.N,.N] [] [] [1,3,4,10,15,16,17,22,23,24] [4,21] rfl rfl rfl ⟨⟨tt_,(QJ a0)⟩,(Qt0 _ _ _ a1)⟩ rfl (by kernel_rfl) rfl rfl rfl ?_
   refine tg_ i [8] ?_
   rcases Qm h with⟨B,h⟩|⟨B,h⟩
   ·refine Qa i [.T,10,.K [8,9] []] rfl (a1_ B) ?_
    cases h
    exact Qah rfl (an_ rfl rfl)
   obtain⟨a9,H,h⟩:=Qb h
   obtain⟨a2,a3,h⟩:=Qb h
   obtain⟨G,a4,h⟩:=Qb h
   obtain⟨b0,J,h⟩:=Qb h
   refine Qa i [.F,3,.K [1,3,4,10,15,16,22,23,24] [4,21]] rfl (a1_ B) ?_
   refine AK.draw2 Qo i mixed [.N,.N,.N,.N,.N,.a (.row (Qs a9)) none false,.N,.a (.bd []) (some ([],.sl 1 (([M.1]:List Int).map Qe))) false,.a (.cd false [.d] 2 (a2.map Qp) a2.length) none false,.a (.C2 (.tup [.sl 2 (G.1.map Qp),.I G.2])) none false,.a .no none true true,.N,.a .no none true,.N,.m (.st (Qs b0) ((u.set j.Place.toNat G.1).map Qs)),.N] [1,3,4,10,15,16,22,23,24] [4] [1,3,4,10,14,22,23,24] [4,21] rfl rfl rfl ⟨⟨⟨⟨⟨⟨⟨tt_,(QdK H rfl)⟩,(Qcb (Qcq H).2)⟩,rfl⟩,⟨(QzJ _ a3),Qf⟩⟩,(Qze _ _ a4)⟩,(QdK J rfl)⟩,⟨(Qcb (Qcq J).2),Qnz rfl⟩⟩ rfl (by kernel_rfl) rfl rfl rfl ?_
   refine tg_ i [7] ?_
   refine bg_ h (fun D h=>Qa i [.T,10,.K [8,9] []] rfl (a1_ D) ?_) fun D h=>Qa i [.F,7,.S 10 (.own 21 (u.set j.Place.toNat G.1).length),.K [1,3,4,10,22,23,24] [4,21]] rfl (a2_ D (congrArg (fun n=>V.own 21 n) (by simp))) ?_
   ·cases h
    exact Qah rfl (an_ rfl rfl)
   cases h
   exact QY rfl rfl
  refine Qa i [.F,2,.K [10] [21]] rfl (a1_ w) ?_
  cases h
  exact QZ rfl (an_ rfl rfl)
 rcases a7 with(b1 | a5)
 ·replace h:Qpj b1=some r:=h
  rintro e σ ⟨rfl,rfl⟩
  refine tg_ i [2,.denil 8 [some 1]] ?_
  cases h
  exact d2_ tt_
 replace h:Qpk a5=some r:=h
 rintro e σ ⟨rfl,rfl⟩
 refine Qa i [10,.frz 21 (a5.map Qs) [8] []] rfl (a1_ (a1_ (QeC Qf))) ?_
 cases h
 exact d2_ tt_
def Qam (b:QM)(a:(List Int)):Option Int:=
 (Qaz b.net b.task.Outs a b.env).bind fun c=>
 some c.2
theorem Qk7 (b a){r}(h:Qam b a=some r):Qc prog 32 [.agg (Qx b),.sl 1 (a.map Qe)] [] (Gives (.I r) []):=by
 refine wk_ 20 func32 fun C g=>?_
 obtain⟨f,e,h⟩:=Qb h
 refine Qa g [9,.A (Qd b.net),6,.o (.C4 (.tup [.sl 1 (f.1.map Qs),.I f.2])),14] rfl (a2_ rfl (Qh2 _ _ _ _ e)) ?_
 cases h
 exact d1_ tt_
def QeE (a:(List Int))(b:QM):Option Bool:=
 (Qam b a).bind fun c=>
 some (c != 0)
theorem Qoh (a e){r}(h:QeE a e=some r):Qc prog 31 [.sl 1 (a.map Qe),.L 616] [(616,.var (Qx e))] (Gives (.b r) [(616,.var (Qx e))]):=by
 refine wk_ 8 func31 fun C g=>?_
 obtain⟨i,f,h⟩:=Qb h
 refine Qa g [7,.A (Qx e),1,.o (.C2 (.I i)),5] rfl (a2_ rfl (Qk7 _ _ f)) ?_
 cases h
 exact d1_ r1_
def QaI (c:QLL)(d:QM)(a:Int):Option (Int⊕(Int⊕Unit)):=
 bif (decide (a<(c.length:Int)))then
 (idx c a).bind fun e=>
 (QeE e d).bind fun b=>
 bif b then
 some (.inr (.inl a))
 else
 some (.inl (w64 (a+1)))
 else
 some (.inr (.inr ()))
def Qf0 (a:Int):Option Int:=
 some a
def Qf1 : Option Int:=
 some (-1)
def Qa3 (a:QLL)(b:QM):Option Int:=
 (Qz (fun st=>QaI a b st) 0).bind (Sum.elim (fun q=>Qf0 q) (fun q=>Qf1))
theorem QlR (c f){r}(h:Qa3 c f=some r):Qc prog 64 [.own 616 c.length,.clo (.func 31) [] [.L 617]] [(616,.arr 1 (c.map Qu)),(617,.var (Qx f))] (Gives (.I r) [(616,.arr 1 (c.map Qu)),(617,.var (Qx f))]):=by
 refine wk_ 19 func64 fun C g=>?_
 refine tg_ g [14,.K [0,1,7,8] [616,617]] ?_
 obtain⟨m,j,h⟩:=Qb h
 refine AK.loop (body:=(fun st=>QaI c f st)) (fun st σ=>σ=⟨[(0,.own 616 c.length),(1,.clo (.func 31) [] [.L 617]),(7,.I (c.length:Int)),(8,.I st)],[(616,.arr 1 (c.map Qu)),(617,.var (Qx f))]⟩) (Sum.elim (fun q e σ=>e=.ret/\σ=⟨[(4,.I q)],[(616,.arr 1 (c.map Qu)),(617,.var (Qx f))]⟩) (fun q e σ=>e=.exit 0/\σ=⟨[],[(616,.arr 1 (c.map Qu)),(617,.var (Qx f))]⟩)) j rfl ?_ ?_
 ·rintro u o σ rfl h
  refine tg_ g [6] ?_
  rcases Qm h with⟨i,h⟩|⟨i,h⟩
  ·obtain⟨s,k,h⟩:=Qb h
   obtain⟨p,l,h⟩:=Qb h
   refine Qa g [.T,16,.o (.row (Qu s)),.cm (.clo) [(616,617)] [(617,616)] [] [.d,.d] [(616,.var (Qx f))] (.b p),2] rfl (a4_ i (QdK k rfl) (Qcb (Qcq k).2) (Qoh _ _ l)) ?_
   refine bq_ g h [.T,9,.K [4] [616,617]] rfl (fun a h=>?_) [.F,7,.K [0,1,7,8] [616,617]] rfl fun a h=>?_
   ·cases h
    exact Qah rfl (an_ rfl rfl)
   cases h
   exact QY rfl rfl
  refine Qa g [.F,2,.K [] [616,617]] rfl (a1_ i) ?_
  cases h
  exact QZ rfl (an_ rfl rfl)
 rcases m with(t | _)
 ·replace h:Qf0 t=some r:=h
  rintro e σ ⟨rfl,rfl⟩
  refine tg_ g [2] ?_
  cases h
  exact d1_ r2_
 replace h:Qf1=some r:=h
 rintro e σ ⟨rfl,rfl⟩
 refine tg_ g [8] ?_
 cases h
 exact d1_ r2_
def Qdh (a:Int)(b:Int)(c:QLL):Option ((Int×Int×QLL)⊕(Int×QLL)):=
 some (.inl (b,(w64 (a+1)),c))
def QaB (f:QM)(c:Int)(b:Int)(a:QLL):Option ((Int×Int×QLL)⊕(Int×QLL)):=
 bif (decide (b<(a.length:Int)))then
 (idx a b).bind fun d=>
 (QeE d f).bind fun e=>
 bif (!e)then
 (idx a c).bind fun g=>
 Qdh b (w64 (c+1)) (a.set c.toNat d)
 else
 Qdh b c a
 else
 some (.inr (c,a))
def QaC (a:Int)(b:QLL):Option QLL:=
 (chk (decide (0<=a)&&decide (a.toNat<=b.length))).bind fun _=>
 (chk (decide (0<=a)&&decide (a.toNat<=(b.take a.toNat++List.replicate (b.length-a.toNat) (([]:(List Int)):(List Int))).length))).bind fun _=>
 some ((b.take a.toNat++List.replicate (b.length-a.toNat) (([]:(List Int)):(List Int))).take a.toNat)
def QaS (a:QLL)(c:QM):Option QLL:=
 (Qa3 a c).bind fun b=>
 bif (b==(-1))then
 some a
 else
 (Qz (fun st=>QaB c st.1 st.2.1 st.2.2) (b,(w64 (b+1)),a)).bind (fun q=>QaC q.1 q.2)
theorem Qk8 (E p){r}(h:QaS E p=some r):Qc prog 29 [.own 616 E.length,.clo (.func 31) [] [.L 617]] [(616,.arr 1 (E.map Qu)),(617,.var (Qx p))] (Gives (.own 616 r.length) [(616,.arr 1 (r.map Qu)),(617,.var (Qx p))]):=by
 refine wk_ 42 func29 fun C g=>?_
 obtain⟨O,G,h⟩:=Qb h
 refine Qa g [9,.cm (.fn) [(616,616),(617,617)] [(616,616),(617,617)] [] [.d,.d] [(616,.arr 1 (E.map Qu)),(617,.var (Qx p))] (.I O),10] rfl (a1_ (QlR _ _ G)) ?_
 refine bq_ g h [.T,8,.K [4] [616,617]] rfl (fun v h=>?_) [.F,11,.K [0,1,5,6] [616,617]] rfl fun v h=>?_
 ·cases h
  exact d1_ r2_
 obtain⟨H,z,h⟩:=Qb h
 refine AK.loop (body:=(fun st=>QaB p st.1 st.2.1 st.2.2)) (fun st σ=>σ=⟨[(0,.own 616 st.2.2.length),(1,.clo (.func 31) [] [.L 617]),(5,.I st.1),(6,.I st.2.1)],[(616,.arr 1 (st.2.2.map Qu)),(617,.var (Qx p))]⟩) (fun q e σ=>e=.exit 0/\σ=⟨[(0,.own 616 q.2.length),(5,.I q.1)],[(616,.arr 1 (q.2.map Qu)),(617,.var (Qx p))]⟩) z rfl ?_ ?_
 ·rintro ⟨M,A,B⟩ o σ rfl h
  refine tg_ g [9] ?_
  refine bq_ g h [.T,2] rfl (fun k h=>?_) [.F,2,.K [0,5] [616,617]] rfl fun k h=>?_
  ·refine AK.meet (fun σ=>∃w:Int,∃s:QLL,σ=⟨[(0,.own 616 s.length),(1,.clo (.func 31) [] [.L 617]),(5,.I w),(6,.I A)],[(616,.arr 1 (s.map Qu)),(617,.var (Qx p))]⟩/\Qdh A w s=some o) ?_ ?_
   ·obtain⟨y,t,h⟩:=Qb h
    obtain⟨J,D,h⟩:=Qb h
    refine Qa g [6,.o (.row (Qu y)),7,.cm (.clo) [(616,617)] [(617,616)] [] [.d,.d] [(616,.var (Qx p))] (.b J),3] rfl (a3_ (QdK t rfl) (Qcb (Qcq t).2) (Qoh _ _ D)) ?_
    rcases Qm h with⟨m,h⟩|⟨m,h⟩
    ·obtain⟨L,u,h⟩:=Qb h
     refine Qa g [.T,6,.st (Qu L) ((B.set M.toNat y).map Qu),8,.S 0 (.own 616 (B.set M.toNat y).length),.K [0,1,5,6] [616,617]] rfl (a4_ m (QdK u rfl) ⟨(Qcb (Qcq u).2),Qnz rfl⟩ (congrArg (fun n=>V.own 616 n) (by simp))) ?_
     exact AK.met (ex_ _ (ex_ _ (an_ rfl h)))
    refine Qa g [.F,2,.K [0,1,5,6] [616,617]] rfl (a1_ m) ?_
    exact AK.met (ex_ _ (ex_ _ (an_ rfl h)))
   rintro σ ⟨w,s,rfl,h⟩
   refine tg_ g [5,.K [0,1,5,6] [616,617]] ?_
   cases h
   exact QY rfl rfl
  cases h
  exact QZ rfl (an_ rfl rfl)
 obtain⟨a,c⟩:=H
 replace h:QaC a c=some r:=h
 rintro e σ ⟨rfl,rfl⟩
 refine tg_ g [6] ?_
 obtain⟨i,h⟩:=QaV h
 refine AK.clearTail (b:=616) (l:=a.toNat) (n:=c.length) rfl rfl rfl rfl rfl rfl (QR g.n rfl) rfl rfl Qf (Qo.es rfl) QCL rfl rfl rfl (Bnd.val rfl (Qap (QtS i)) rfl) (Qap (QnC i)) rfl ?_
 refine AK.denilA (b:=616) [some 1] rfl (QDp (f:=Qu) (x:=(([]:(List Int)):(List Int))) (fun _=>rfl) rfl) ?_
 obtain⟨j,h⟩:=QaV h
 refine Qa g [.S 0 (.own 616 (c.take a.toNat++List.replicate (c.length-a.toNat) (([]:(List Int)):(List Int))).length),.S 36 (.own 616 (c.take a.toNat++List.replicate (c.length-a.toNat) (([]:(List Int)):(List Int))).length),6] rfl (a2_ (QBi (Qap (QnC i))) (QBi (Qap (QnC i)))) ?_
 have N:a.toNat=((c.take a.toNat++List.replicate (c.length-a.toNat) (([]:(List Int)):(List Int))).take a.toNat).length:=by rw [QdI,Nat.min_eq_left (Qap (QnC j))]
 refine Qa g [.x (fun σ=>(σ.set 616 (.arr 1 (((c.take a.toNat++List.replicate (c.length-a.toNat) (([]:(List Int)):(List Int))).take a.toNat).map Qu))).put 41 (.own 616 a.toNat)),.S 41 (.own 616 ((c.take a.toNat++List.replicate (c.length-a.toNat) (([]:(List Int)):(List Int))).take a.toNat).length),4] rfl (a2_ (Stp.sliceO rfl rfl (QR g.n rfl) rfl rfl (Qo.es rfl) Bnd.no (Bnd.val rfl (Qap (QtS j)) rfl) (Qap (QnC j)) (by simp)) (QDk (Qap (QnC j)))) ?_
 cases h
 exact d1_ r2_
def Qdi (a:QBg)(b:Int)(c:Int):Option (Unit⊕Unit):=
 bif (decide (((Q0 a b).getD 0)<c))then
 some (.inr ())
 else
 some (.inl ())
def Qk9 : Option Bool:=
 some true
def Qla : Option Bool:=
 some false
def Qgf (a:QBg)(b:QBg):Option Bool:=
 (Qmj (fun st p=>Qdi b p.1 p.2) () a).bind (Sum.elim (fun q=>Qk9) (fun q=>Qla))
theorem Qrh (s g){r}(h:Qgf s g=some r):Qc prog 171 [.map 616,.map 617] [(616,.map (QW V.I V.I s)),(617,.map (QW V.I V.I g))] (Gives (.b r) [(616,.map (QW V.I V.I s)),(617,.map (QW V.I V.I g))]):=by
 refine wk_ 19 func171 fun C a=>?_
 refine tg_ a [9] ?_
 refine AK.openMap (b:=616) QnU rfl fun c d L5 t u=>?_
 refine Qa a [.x (fun σ=>(σ.set 8 (.itr c d #[] none)).put 8 (.L 8)),3,.K [1,8] [8,616,617]] rfl (a1_ (Stp.range (b:=616) rfl rfl (QR a.n rfl) rfl rfl Qlt rfl)) ?_
 obtain⟨y,v,h⟩:=Qb h
 refine AK.range (body:=(fun st p=>Qdi g p.1 p.2)) (fun st seen σ=>∃cur:Option Nat,σ=⟨[(1,.map 617),lk_ 8],[(8,.itr c d seen cur),(616,.mapX c d (QkT V.I V.I L5) (QW V.I V.I s)),(617,.map (QW V.I V.I g))]⟩) (fun q e σ=>e=.ret/\σ=⟨[(4,.b false)],[(616,.mapX c d (QkT V.I V.I L5) (QW V.I V.I s)),(617,.map (QW V.I V.I g))]⟩) (fun st e σ=>e=.exit 0/\σ=⟨[],[(616,.mapX c d (QkT V.I V.I L5) (QW V.I V.I s)),(617,.map (QW V.I V.I g))]⟩) t u v (ex_ _ rfl) ?_ ?_
 ·rintro _ seen σ ⟨cur,rfl⟩ hex
  refine tg_ a [2] ?_
  refine AK.nextT (b:=8) (m:=616) rfl rfl rfl (QR a.n rfl) rfl rfl rfl rfl ?_ ?_
  ·intro hleft
   refine tg_ a [7,.K [] [616,617]] ?_
   exact AK.done (Or.inl (an_ hleft (an_ (fun h=>(by cases h)) (an_ rfl rfl))))
  intro D w A i
  obtain⟨o,h⟩:=hex _ i
  have ho:=h
  replace h:Qdi g w A=some o:=h
  refine Qa a [10,.x (fun σ=>σ.put 11 (.tup [.I w,.I A])),11,.o (.any (.I ((Q0 g w).getD 0)) none),3] rfl (a2_ (Stp.entryT (b:=8) (m:=616) (e:=V.I) (f:=V.I) rfl rfl (QR a.n rfl) rfl i rfl rfl) (fun σ B E _=>Stp.lookup (e:=V.I) (f:=V.I) (l:=g) (k:=w) (z:=0) rfl rfl (QR a.n rfl) (B _ _ rfl) (E _ _ rfl) (B _ _ rfl) Qlt QnU QxG rfl)) ?_
  refine bq_ a h [.T,7,.K [4] [616,617]] rfl (fun j h=>?_) [.F,2,.K [1,8] [8,616,617]] rfl fun j h=>?_
  ·cases h
   exact AK.done (Or.inr (ex_ _ (an_ i (Or.inr (ex_ _ (an_ ho (an_ (fun h=>(by cases h)) (an_ rfl rfl))))))))
  cases h
  exact AK.done (Or.inr (ex_ _ (an_ i (Or.inl (ex_ _ (an_ ho (an_ rfl (ex_ _ rfl))))))))
 rcases y with(_ | _)
 ·replace h:Qk9=some r:=h
  rintro e σ ⟨rfl,rfl⟩
  refine tg_ a [8] ?_
  refine AK.closeMap (b:=616) rfl ?_
  cases h
  exact d1_ r2_
 replace h:Qla=some r:=h
 rintro e σ ⟨rfl,rfl⟩
 refine tg_ a [2] ?_
 refine AK.closeMap (b:=616) rfl ?_
 cases h
 exact d1_ r2_
def Qqv (a:Unit):Option Bool:=
 some false
def Qqw (a:QBg):Option Bool:=
 some false
def Qqx (a:QBg):Option Bool:=
 some false
def QmA (b:(QBg×QBg)):Option Bool:=
 (Qgf b.1 b.2).bind fun a=>
 some a
def QjX (a:QBg)(b:QBg):Option Bool:=
 (Qmz a b).bind (Sum.elim (fun q=>Qqv q) (Sum.elim (fun q=>Qqw q) (Sum.elim (fun q=>Qqx q) (fun q=>QmA q))))
theorem QwO (i j){r}(h:QjX i j=some r):Qc prog 127 [.sl 2 (i.map Qp),.sl 2 (j.map Qp)] [] (Gives (.b r) []):=by
 refine wk_ 21 func127 fun C c=>?_
 obtain⟨m,a,h⟩:=Qb h
 refine tg_ c [9] ?_
 rcases m with(o | (k | (l | e)))
 ·replace h:Qqv o=some r:=h
  refine Qa c [.cm (.fn) [] [] [] [.d,.d] [] (.tup [.lit (.map none),.lit (.map none),.b false]),21] rfl (a1_ (Qeg _ _ a)) ?_
  cases h
  exact d1_ tt_
 ·replace h:Qqw k=some r:=h
  refine Qa c [.cm (.fn) [] [(11,603)] [] [.d,.d] [(603,.map (QW V.I V.I k))] (.tup [.lit (.map none),.map 603,.b false]),21] rfl (a1_ (Qeg _ _ a)) ?_
  cases h
  exact d1_ tt_
 ·replace h:Qqx l=some r:=h
  refine Qa c [.cm (.fn) [] [(11,602)] [] [.d,.d] [(602,.map (QW V.I V.I l))] (.tup [.map 602,.lit (.map none),.b false]),21] rfl (a1_ (Qeg _ _ a)) ?_
  cases h
  exact d1_ tt_
 replace h:QmA e=some r:=h
 obtain⟨g,f,h⟩:=Qb h
 refine Qa c [.cm (.fn) [] [(11,602),(609,603)] [] [.d,.d] [(602,.map (QW V.I V.I e.1)),(603,.map (QW V.I V.I e.2))] (.tup [.map 602,.map 603,.b true]),15,.cm (.fn) [(616,11),(617,609)] [(11,616),(609,617)] [] [.d,.d] [(616,.map (QW V.I V.I e.1)),(617,.map (QW V.I V.I e.2))] (.b g),5] rfl (a2_ (Qeg _ _ a) (Qrh _ _ f)) ?_
 cases h
 exact d1_ tt_
def QL (d:QMk)(e:QMk)(a:Int):Option (Int⊕(Unit⊕Unit)):=
 bif (decide (a<(d.length:Int)))then
 (idx d a).bind fun f=>
 (idx e a).bind fun b=>
 (QjX f b).bind fun c=>
 bif (!c)then
 some (.inr (.inl ()))
 else
 some (.inl (w64 (a+1)))
 else
 some (.inr (.inr ()))
def Qbo : Option Bool:=
 some false
def Qbp : Option Bool:=
 some true
def Qag (a:QMk)(b:QMk):Option Bool:=
 bif ((a.length:Int) != (b.length:Int))then
 some false
 else
 (Qz (fun st=>QL a b st) 0).bind (Sum.elim (fun q=>Qbo) (fun q=>Qbp))
theorem QdR (g k){r}(h:Qag g k=some r):Qc prog 126 [.sl 1 (g.map Qs),.sl 1 (k.map Qs),.clo (.func 127) [] []] [] (Gives (.b r) []):=by
 refine wk_ 32 func126 fun C f=>?_
 refine Qa f [9,.o (.ln g.length),1,.o (.ln k.length),3] rfl (a2_ Qf Qf) ?_
 refine bg_ h (fun i h=>Qa f [.T,7,.K [6] []] rfl (a1_ i) ?_) fun i h=>Qa f [.F,6,.o (.ln g.length),4,.K [1,2,15,16,17] []] rfl (a2_ i Qf) ?_
 ·cases h
  exact d1_ tt_
 obtain⟨s,l,h⟩:=Qb h
 refine AK.loop (body:=(fun st=>QL g k st)) (fun st σ=>σ=⟨[(1,.sl 1 (k.map Qs)),(2,.clo (.func 127) [] []),(15,.sl 1 (g.map Qs)),(16,.I (g.length:Int)),(17,.I st)],[]⟩) (Sum.elim (fun q e σ=>e=.ret/\σ=⟨[(6,.b false)],[]⟩) (fun q e σ=>e=.exit 0/\σ=⟨[],[]⟩)) l rfl ?_ ?_
 ·rintro x o σ rfl h
  refine tg_ f [6] ?_
  rcases Qm h with⟨j,h⟩|⟨j,h⟩
  ·obtain⟨w,t,h⟩:=Qb h
   obtain⟨u,m,h⟩:=Qb h
   obtain⟨v,p,h⟩:=Qb h
   refine Qa f [.T,7,.o (.row (Qs w)),9,.o (.row (Qs u)),9,.o (.C2 (.b v)),3] rfl (a4_ j (QJ t) (QJ m) (QwO _ _ p)) ?_
   refine bq_ f h [.T,8,.K [6] []] rfl (fun a h=>?_) [.F,7,.K [1,2,15,16,17] []] rfl fun a h=>?_
   ·cases h
    exact Qah rfl (an_ rfl rfl)
   cases h
   exact QY rfl rfl
  refine Qa f [.F,2,.K [] []] rfl (a1_ j) ?_
  cases h
  exact QZ rfl (an_ rfl rfl)
 rcases s with(_ | _)
 ·replace h:Qbo=some r:=h
  rintro e σ ⟨rfl,rfl⟩
  refine tg_ f [2] ?_
  cases h
  exact d1_ tt_
 replace h:Qbp=some r:=h
 rintro e σ ⟨rfl,rfl⟩
 refine tg_ f [8] ?_
 cases h
 exact d1_ tt_
def Qfh (a:QMk)(b:QMk):Option Bool:=
 (Qag a b).bind fun c=>
 some c
theorem Qpl (a e){r}(h:Qfh a e=some r):Qc prog 65 [.sl 1 (a.map Qs),.sl 1 (e.map Qs)] [] (Gives (.b r) []):=by
 refine wk_ 8 func65 fun C f=>?_
 obtain⟨g,c,h⟩:=Qb h
 refine Qa f [9,.cm (.fn) [] [] [] [.d,.d,.d] [] (.b g),4] rfl (a1_ (QdR _ _ c)) ?_
 cases h
 exact d1_ tt_
def QaG (b:(List Int))(c:Int)(a:Int):Option (Int⊕(Int⊕Unit)):=
 bif (decide (a<(b.length:Int)))then
 (idx b a).bind fun d=>
 bif (c==d)then
 some (.inr (.inl a))
 else
 some (.inl (w64 (a+1)))
 else
 some (.inr (.inr ()))
def QdL (a:Int):Option Int:=
 some a
def QdM : Option Int:=
 some (-1)
def Qdj (a:(List Int))(b:Int):Option Int:=
 (Qz (fun st=>QaG a b st) 0).bind (Sum.elim (fun q=>QdL q) (fun q=>QdM))
theorem QoP (d g){r}(h:Qdj d g=some r):Qc prog 128 [.sl 1 (d.map Qe),.I g] [] (Gives (.I r) []):=by
 refine wk_ 19 func128 fun C b=>?_
 refine Qa b [9,.o (.ln d.length),4,.K [0,1,7,8] []] rfl (a1_ Qf) ?_
 obtain⟨i,f,h⟩:=Qb h
 refine AK.loop (body:=(fun st=>QaG d g st)) (fun st σ=>σ=⟨[(0,.sl 1 (d.map Qe)),(1,.I g),(7,.I (d.length:Int)),(8,.I st)],[]⟩) (Sum.elim (fun q e σ=>e=.ret/\σ=⟨[(4,.I q)],[]⟩) (fun q e σ=>e=.exit 0/\σ=⟨[],[]⟩)) f rfl ?_ ?_
 ·rintro m o σ rfl h
  refine tg_ b [6] ?_
  rcases Qm h with⟨c,h⟩|⟨c,h⟩
  ·obtain⟨k,j,h⟩:=Qb h
   refine Qa b [.T,15,.o (.row (Qe k)),4] rfl (a2_ c (QJ j)) ?_
   refine bq_ b h [.T,9,.K [4] []] rfl (fun a h=>?_) [.F,7,.K [0,1,7,8] []] rfl fun a h=>?_
   ·cases h
    exact Qah rfl (an_ rfl rfl)
   cases h
   exact QY rfl rfl
  refine Qa b [.F,2,.K [] []] rfl (a1_ c) ?_
  cases h
  exact QZ rfl (an_ rfl rfl)
 rcases i with(l | _)
 ·replace h:QdL l=some r:=h
  rintro e σ ⟨rfl,rfl⟩
  refine tg_ b [2] ?_
  cases h
  exact d1_ tt_
 replace h:QdM=some r:=h
 rintro e σ ⟨rfl,rfl⟩
 refine tg_ b [8] ?_
 cases h
 exact d1_ tt_
def QaH (a:(List Int))(b:Int):Option Bool:=
 (Qdj a b).bind fun c=>
 some (decide (0<=c))
theorem QhA (e f){r}(h:QaH e f=some r):Qc prog 66 [.sl 1 (e.map Qe),.I f] [] (Gives (.b r) []):=by
 refine wk_ 9 func66 fun C g=>?_
 obtain⟨i,a,h⟩:=Qb h
 refine Qa g [9,.o (.C2 (.I i)),5] rfl (a1_ (QoP _ _ a)) ?_
 cases h
 exact d1_ tt_
def Qcl (a:Int):Option (Int⊕(Unit⊕Unit)):=
 some (.inl (w64 (a+1)))
def Qg3 (a:(QMk×Int))(c:QM):Option Bool:=
 bif (a.2==0)then
 (Qfh a.1 c.m).bind fun b=>
 some b
 else
 some false
def Qdk (a:Int)(b:Bool):Option (Int⊕(Unit⊕Unit)):=
 bif b then
 some (.inr (.inl ()))
 else
 Qcl a
def Qan (d:QM)(b:(List Int))(a:Int):Option (Int⊕(Unit⊕Unit)):=
 bif (decide (a<(d.task.Ins.length:Int)))then
 (QaH b a).bind fun f=>
 bif f then
 Qcl a
 else
 (QaN b).bind fun c=>
 (chk (decide (c.length+([a]:List Int).length<=4294967296))).bind fun _=>
 (QcD (c++([a]:List Int))).bind fun e=>
 (chk (decide (e.length=(c++([a]:List Int)).length))).bind fun _=>
 (Qaz d.net d.task.Ins e d.env).bind fun g=>
 (Qg3 g d).bind (fun h=>Qdk a h)
 else
 some (.inr (.inr ()))
def Qlb : Option Int:=
 some 11
def Qlc : Option Int:=
 some 0
def Q3 (b:QM)(a:(List Int)):Option Int:=
 (Qaz b.net b.task.Ins a b.env).bind fun c=>
 bif (c.2 != 0)then
 some c.2
 else
 (Qfh c.1 b.m).bind fun d=>
 bif (!d)then
 some 10
 else
 bif (b.task.Join != 3)then
 some 0
 else
 (Qz (fun st=>Qan b a st) 0).bind (Sum.elim (fun q=>Qlb) (fun q=>Qlc))
theorem Qld (i f){r}(h:Q3 i f=some r):Qc prog 33 [.agg (Qx i),.sl 1 (f.map Qe)] [] (Gives (.I r) []):=by
 refine wk_ 76 func33 fun C a=>?_
 obtain⟨W,M,h⟩:=Qb h
 refine Qa a [9,.A (Qd i.net),6,.o (.C4 (.tup [.sl 1 (W.1.map Qs),.I W.2])),16] rfl (a2_ rfl (Qh2 _ _ _ _ M)) ?_
 rcases Qm h with⟨u,h⟩|⟨u,h⟩
 ·refine Qa a [.T,9] rfl (a1_ u) ?_
  cases h
  exact d1_ tt_
 obtain⟨X,N,h⟩:=Qb h
 refine Qa a [.F,5,.o (.C2 (.b X)),4] rfl (a2_ u (Qpl _ _ N)) ?_
 refine bq_ a h [.T,8,.K [4] []] rfl (fun w h=>?_) [.F,9] rfl fun w h=>?_
 ·cases h
  exact d1_ tt_
 refine bg_ h (fun x h=>Qa a [.T,8,.K [4] []] rfl (a1_ x) ?_) fun x h=>Qa a [.F,9,.o (.ln i.task.Ins.length),4,.K [1,2,41,42] [2]] rfl (a2_ x Qf) ?_
 ·cases h
  exact d1_ tt_
 obtain⟨O,z,h⟩:=Qb h
 refine AK.loop (body:=(fun st=>Qan i f st)) (fun st σ=>σ=⟨[(1,.sl 1 (f.map Qe)),lk_ 2,(41,.I (i.task.Ins.length:Int)),(42,.I st)],[(2,.var (Qx i))]⟩) (Sum.elim (fun q e σ=>e=.ret/\σ=⟨[(4,.I 11)],[]⟩) (fun q e σ=>e=.exit 1/\σ=⟨[],[]⟩)) z rfl ?_ ?_
 ·rintro g o σ rfl h
  refine tg_ a [6] ?_
  refine bq_ a h [.T,2] rfl (fun j h=>?_) [.F,2,.K [] []] rfl fun j h=>?_
  ·refine AK.meet (fun σ=>σ=⟨[(1,.sl 1 (f.map Qe)),lk_ 2,(41,.I (i.task.Ins.length:Int)),(42,.I g)],[(2,.var (Qx i))]⟩/\Qcl g=some o) ?_ ?_
   ·obtain⟨P,A,h⟩:=Qb h
    refine Qa a [12,.o (.C2 (.b P)),2] rfl (a1_ (QhA _ _ A)) ?_
    rcases Qm h with⟨k,h⟩|⟨k,h⟩
    ·refine Qa a [.T,3,.K [1,2,41,42] [2]] rfl (a1_ k) ?_
     exact AK.met (an_ rfl h)
    obtain⟨t,B,h⟩:=Qb h
    obtain⟨D,h⟩:=QaV h
    obtain⟨l,E,h⟩:=Qb h
    obtain⟨m,h⟩:=QaV h
    obtain⟨G,H,h⟩:=Qb h
    refine Qa a [.F,5,.o (.co false [.d] 1 (t.map Qe) t.length),1,.v (.bd []) [] (.sl 1 (([g]:List Int).map Qe)),.app ((t++([g]:List Int)).map Qe) (t++([g]:List Int)).length,6,.cm (.fn) [(616,49)] [(49,616)] [] [.d] [(616,.arr 1 (l.map Qe))] (.tup []),.S 8 (.own 49 l.length),.S 52 (.own 49 l.length),.S 53 (.own 49 l.length),5,.A (Qd i.net),6,.frz 49 (l.map Qe) [8,52,53,61] [],.o (.C4 (.tup [.sl 1 (G.1.map Qs),.I G.2])),8] rfl (aB_ k ⟨(Qcy _ B),Qf,.inl rfl⟩ rfl ⟨Qf,Qcw D Qf,Qa2,Qdc Qf⟩ (QjW _ E) (by simp [Qap m]) (by simp [Qap m]) (by simp [Qap m]) rfl (a4_ (QeC Qf) (QeC Qf) (QeC Qf) (QeC Qf)) (Qh2 _ _ _ _ H)) ?_
    obtain⟨y,J,h⟩:=Qb h
    replace h:Qdk g y=some o:=h
    refine AK.meetX (fun σ=>σ=⟨[(1,.sl 1 (f.map Qe)),lk_ 2,(41,.I (i.task.Ins.length:Int)),(42,.I g),(74,.b y)],[(2,.var (Qx i))]⟩) ?_ ?_
    ·replace h:=J
     refine tg_ a [4] ?_
     rcases Qm h with⟨p,h⟩|⟨p,h⟩
     ·obtain⟨U,L,h⟩:=Qb h
      refine Qa a [.S 69 (.b true),3,.o (.C2 (.b U)),2,.K [1,2,41,42,74] [2]] rfl ⟨(tc_ p),(Qpl _ _ L)⟩ ?_
      cases h
      exact mt_
     refine Qa a [.S 69 (.b false),6,.K [1,2,41,42,74] [2]] rfl (tc_ p) ?_
     cases h
     exact mt_
    rintro σ rfl
    replace h:Qdk g y=some o:=h
    refine tg_ a [1] ?_
    refine bq_ a h [.T,8,.K [4] []] rfl (fun s h=>?_) [.F,2,.K [1,2,41,42] [2]] rfl fun s h=>?_
    ·cases h
     exact Qah rfl (an_ rfl rfl)
    exact AK.met (an_ rfl h)
   rintro σ ⟨rfl,h⟩
   refine tg_ a [4,.K [1,2,41,42] [2]] ?_
   cases h
   exact QY rfl rfl
  cases h
  exact QZ rfl (an_ rfl rfl)
 rcases O with(_ | _)
 ·replace h:Qlb=some r:=h
  rintro e σ ⟨rfl,rfl⟩
  refine tg_ a [2] ?_
  cases h
  exact d1_ tt_
 replace h:Qlc=some r:=h
 rintro e σ ⟨rfl,rfl⟩
 refine tg_ a [8] ?_
 cases h
 exact d1_ tt_
def Qf2 (a:(Int×QM)):Option Bool:=
 bif (a.1 != 0)then
 some true
 else
 (Q5 a.2).bind fun b=>
 some (b != 0)
def Qbd (a:Int)(b:(List Qi)):Option ((Int×(List Qi))⊕((List Qi)⊕(List Qi))):=
 some (.inl ((w64 (a+1)),b))
def QbR (f:QLL)(j:(List Int))(h:(List Int))(g:Int)(k:Int)(e:Int)(a:(List Qi)):Option ((Int×(List Qi))⊕((List Qi)⊕(List Qi))):=
 bif (decide (e<(f.length:Int)))then
 (idx f e).bind fun i=>
 (QaN j).bind fun b=>
 (QaN h).bind fun c=>
 (QaN i).bind fun d=>
 (chk (decide (a.length+([(Qi.mk g b c d)]:List Qi).length<=4294967296))).bind fun _=>
 bif (((a++[(Qi.mk g b c d)]).length:Int)==k)then
 some (.inr (.inl (a++[(Qi.mk g b c d)])))
 else
 some (.inl ((w64 (e+1)),(a++[(Qi.mk g b c d)])))
 else
 some (.inr (.inr a))
def QjY (a:(List Qi)):Option ((Int×(List Qi))⊕((List Qi)⊕(List Qi))):=
 some (.inr (.inl a))
def Qf3 (a:Int)(b:(List Qi)):Option ((Int×(List Qi))⊕((List Qi)⊕(List Qi))):=
 Qbd a b
def QbS (g:QLL)(d:(Int×QM))(e:QLL)(h:(List Int))(i:Int)(j:Int)(a:Int)(b:(List Qi)):Option ((Int×(List Qi))⊕((List Qi)⊕(List Qi))):=
 bif (decide (a<(g.length:Int)))then
 (idx g a).bind fun c=>
 (Q3 d.2 c).bind fun f=>
 bif (f != 0)then
 Qbd a b
 else
 (Qz (fun st=>QbR e h c i j st.1 st.2) (0,b)).bind (Sum.elim (fun q=>QjY q) (fun q=>Qf3 a q))
 else
 some (.inr (.inr b))
def QjZ (a:(List Qi)):Option ((List Qi)⊕(List Qi)):=
 some (.inl a)
def Qj0 (a:(List Qi)):Option ((List Qi)⊕(List Qi)):=
 some (.inr a)
def QcM (e:(List Qi))(f:QLL)(a:(Int×QM))(g:QLL)(h:(List Int))(i:Int)(j:Int)(b:Bool):Option ((List Qi)⊕(List Qi)):=
 bif b then
 some (.inr e)
 else
 (QcB f).bind fun c=>
 (QaS c a.2).bind fun d=>
 (Qz (fun st=>QbS g a d h i j st.1 st.2) (0,e)).bind (Sum.elim (fun q=>QjZ q) (fun q=>Qj0 q))
def QcE (e:Qn)(f:QMk)(c:Int)(g:Int)(k:(List Qi))(h:QLL)(i:QLL)(j:(List Qi))(d:(List Int)):Option ((List Qi)⊕(List Qi)):=
 (Qa1 e f c d).bind fun a=>
 (Qf2 a).bind (fun b=>QcM j i a h d c g b)
theorem Qi7 (β:Nat)(lpl lpf:Nat)(y:Qn)(z:QMk)(k:Int)(w:Int)(l:(List Qi))(j:QLL)(x:QLL)(W:(List Qi))(A:(List Int)){r:((List Qi)⊕(List Qi))}(h:QcE y z k w l j x W A=some r):QoZ β prog lpl (Qbr lpf) (QEz (.L 617) (.L 618) (.L 619) (.L 620) (.L 621) (.L 622) (.L 623) (.L 624) (.sl 1 (A.map Qe))) [(616,.lp lpl (Qbr lpf) (Qeo (.L 617) (.L 618) (.L 619) (.L 620) (.L 621) (.L 622) (.L 623) (.L 624)) 0),(617,.var (Qd y)),(618,.var (Qao z)),(619,.var (Qe k)),(620,.var (Qe w)),(621,.var [.own 614 l.length]),(614,.arr 4 (l.map (QA β))),(622,.var (QV j)),(623,.var (QV x)),(624,.var [.own 615 W.length]),(615,.arr 4 (W.map (QA β)))] ((Sum.elim (fun q=>(Gives (.b false) [(614,.arr 4 (l.map (QA β))),(615,.arr 4 (q.map (QA β))),(616,.lp lpl (Qbr lpf) (Qeo (.L 617) (.L 618) (.L 619) (.L 620) (.L 621) (.L 622) (.L 623) (.L 624)) 2),(617,.var (Qd y)),(618,.var (Qao z)),(619,.var (Qe k)),(620,.var (Qe w)),(621,.var [.own 615 q.length]),(622,.var (QV j)),(623,.var (QV x)),(624,.var [.own 615 q.length])])) (fun q=>(Gives (.b true) [(614,.arr 4 (l.map (QA β))),(615,.arr 4 (q.map (QA β))),(616,.lp lpl (Qbr lpf) (Qeo (.L 617) (.L 618) (.L 619) (.L 620) (.L 621) (.L 622) (.L 623) (.L 624)) 0),(617,.var (Qd y)),(618,.var (Qao z)),(619,.var (Qe k)),(620,.var (Qe w)),(621,.var [.own 614 l.length]),(622,.var (QV j)),(623,.var (QV x)),(624,.var [.own 615 q.length])]))) r):=by
 refine QoZ.walk (b:=616) 109 rfl rfl fun C i hβ=>?_
 refine tg_ i [3] ?_
 refine AK.done (an_ rfl (ex_ _ (an_ rfl ?_)))
 obtain⟨f,Z,h⟩:=Qb h
 refine Qa i [3,.A (Qd y),3,.o (.C4 (.tup [.agg (Qx f.2),.I f.1])),5,.O 14 (.var (Qx f.2)),5] rfl (a3_ rfl (Qqu _ _ _ _ Z) rfl) ?_
 obtain⟨X,a0,h⟩:=Qb h
 replace h:QcM W x f j A k w X=some r:=h
 refine AK.meetX (fun σ=>σ=⟨[(6,.L 619),(7,.L 620),(8,.L 621),(10,.L 622),(11,.L 623),(12,.L 624),(13,.sl 1 (A.map Qe)),lk_ 14,(69,.b X)],[(14,.var (Qx f.2)),(614,.arr 4 (l.map (QA β))),(615,.arr 4 (W.map (QA β))),(616,.lp lpl (Qbr lpf) (Qeo (.L 617) (.L 618) (.L 619) (.L 620) (.L 621) (.L 622) (.L 623) (.L 624)) 1),(617,.var (Qd y)),(618,.var (Qao z)),(619,.var (Qe k)),(620,.var (Qe w)),(621,.var [.own 614 l.length]),(622,.var (QV j)),(623,.var (QV x)),(624,.var [.own 615 W.length])]⟩) ?_ ?_
 ·replace h:=a0
  refine tg_ i [4] ?_
  rcases Qm h with⟨B,h⟩|⟨B,h⟩
  ·refine Qa i [.S 65 (.b true),5,.K [6,7,8,10,11,12,13,14,69] [14,614,615,616,617,618,619,620,621,622,623,624]] rfl (tc_ B) ?_
   cases h
   exact mt_
  obtain⟨b3,a1,h⟩:=Qb h
  refine Qa i [.S 65 (.b false),.A (Qx f.2),.o (.C1 (.I b3)),3,.K [6,7,8,10,11,12,13,14,69] [14,614,615,616,617,618,619,620,621,622,623,624]] rfl ⟨⟨(tc_ B),rfl⟩,(QjV _ a1)⟩ ?_
  cases h
  exact mt_
 rintro σ rfl
 replace h:QcM W x f j A k w X=some r:=h
 refine tg_ i [1] ?_
 rcases Qm h with⟨D,h⟩|⟨D,h⟩
 ·refine Qa i [.T,3,.K [] [614,615,616,617,618,619,620,621,622,623,624]] rfl (a1_ D) ?_
  cases h
  refine AK.done ?_
  exact ex_ _ (an_ rfl (gives rB_))
 obtain⟨a2,a3,h⟩:=Qb h
 obtain⟨g,a4,h⟩:=Qb h
 refine Qa i [.F,5,.o (.co false [.d] 1 (a2.map Qu) a2.length),1,.cm (.fn) [(616,71),(617,14)] [(71,616),(14,617)] [] [.d,.d] [(616,.arr 1 (g.map Qu)),(617,.var (Qx f.2))] (.own 616 g.length),6,.o (.ln j.length),4,.K [6,7,8,12,13,14,16,74,75,76] [14,71,614,615,616,617,618,619,620,621,622,623,624]] rfl (a4_ D ⟨(Qm3 _ a3),Qf,.inl rfl⟩ (Qk8 _ _ a4) Qf) ?_
 obtain⟨b4,a5,h⟩:=Qb h
 refine AK.loop (body:=(fun st=>QbS j f g A k w st.1 st.2)) (fun st σ=>σ=⟨[(6,.L 619),(7,.L 620),(8,.L 621),(12,.L 624),(13,.sl 1 (A.map Qe)),lk_ 14,(16,.own 71 g.length),(74,.sl 1 (j.map Qu)),(75,.I (j.length:Int)),(76,.I st.1)],[(14,.var (Qx f.2)),(71,.arr 1 (g.map Qu)),(614,.arr 4 (l.map (QA β))),(615,.arr 4 (st.2.map (QA β))),(616,.lp lpl (Qbr lpf) (Qeo (.L 617) (.L 618) (.L 619) (.L 620) (.L 621) (.L 622) (.L 623) (.L 624)) 1),(617,.var (Qd y)),(618,.var (Qao z)),(619,.var (Qe k)),(620,.var (Qe w)),(621,.var [.own 614 l.length]),(622,.var (QV j)),(623,.var (QV x)),(624,.var [.own 615 st.2.length])]⟩) (Sum.elim (fun q e σ=>e=.ret/\σ=⟨[],[(614,.arr 4 (l.map (QA β))),(615,.arr 4 (q.map (QA β))),(616,.lp lpl (Qbr lpf) (Qeo (.L 617) (.L 618) (.L 619) (.L 620) (.L 621) (.L 622) (.L 623) (.L 624)) 1),(617,.var (Qd y)),(618,.var (Qao z)),(619,.var (Qe k)),(620,.var (Qe w)),(621,.var [.own 615 q.length]),(622,.var (QV j)),(623,.var (QV x)),(624,.var [.own 615 q.length])]⟩) (fun q e σ=>e=.exit 2/\σ=⟨[],[(614,.arr 4 (l.map (QA β))),(615,.arr 4 (q.map (QA β))),(616,.lp lpl (Qbr lpf) (Qeo (.L 617) (.L 618) (.L 619) (.L 620) (.L 621) (.L 622) (.L 623) (.L 624)) 1),(617,.var (Qd y)),(618,.var (Qao z)),(619,.var (Qe k)),(620,.var (Qe w)),(621,.var [.own 614 l.length]),(622,.var (QV j)),(623,.var (QV x)),(624,.var [.own 615 q.length])]⟩)) a5 rfl ?_ ?_
 ·rintro ⟨E,c2⟩ o σ rfl h
  refine tg_ i [6] ?_
  refine bq_ i h [.T,2] rfl (fun G h=>?_) [.F,2,.K [] [614,615,616,617,618,619,620,621,622,623,624]] rfl fun G h=>?_
  ·refine AK.meet (fun σ=>∃M:(List Qi),σ=⟨[(6,.L 619),(7,.L 620),(8,.L 621),(12,.L 624),(13,.sl 1 (A.map Qe)),lk_ 14,(16,.own 71 g.length),(74,.sl 1 (j.map Qu)),(75,.I (j.length:Int)),(76,.I E)],[(14,.var (Qx f.2)),(71,.arr 1 (g.map Qu)),(614,.arr 4 (l.map (QA β))),(615,.arr 4 (M.map (QA β))),(616,.lp lpl (Qbr lpf) (Qeo (.L 617) (.L 618) (.L 619) (.L 620) (.L 621) (.L 622) (.L 623) (.L 624)) 1),(617,.var (Qd y)),(618,.var (Qao z)),(619,.var (Qe k)),(620,.var (Qe w)),(621,.var [.own 614 l.length]),(622,.var (QV j)),(623,.var (QV x)),(624,.var [.own 615 M.length])]⟩/\Qbd E M=some o) ?_ ?_
   ·obtain⟨Y,a6,h⟩:=Qb h
    obtain⟨b5,a7,h⟩:=Qb h
    refine Qa i [3,.o (.row (Qu Y)),7,.A (Qx f.2),1,.o (.C2 (.I b5)),3] rfl (a3_ (QJ a6) rfl (Qld _ _ a7)) ?_
    refine bq_ i h [.T,3,.K [6,7,8,12,13,14,16,74,75,76] [14,71,614,615,616,617,618,619,620,621,622,623,624]] rfl (fun H h=>?_) [.F,10,.K [6,7,8,12,13,14,16,18,74,75,76,84,85,86] [14,71,614,615,616,617,618,619,620,621,622,623,624]] rfl fun H h=>?_
    ·exact AK.met (ex_ _ (an_ rfl h))
    obtain⟨b6,a8,h⟩:=Qb h
    refine AK.loop (body:=(fun st=>QbR g A Y k w st.1 st.2)) (fun st σ=>σ=⟨[(6,.L 619),(7,.L 620),(8,.L 621),(12,.L 624),(13,.sl 1 (A.map Qe)),lk_ 14,(16,.own 71 g.length),(18,.sl 1 (Y.map Qe)),(74,.sl 1 (j.map Qu)),(75,.I (j.length:Int)),(76,.I E),(84,.own 71 g.length),(85,.I (g.length:Int)),(86,.I st.1)],[(14,.var (Qx f.2)),(71,.arr 1 (g.map Qu)),(614,.arr 4 (l.map (QA β))),(615,.arr 4 (st.2.map (QA β))),(616,.lp lpl (Qbr lpf) (Qeo (.L 617) (.L 618) (.L 619) (.L 620) (.L 621) (.L 622) (.L 623) (.L 624)) 1),(617,.var (Qd y)),(618,.var (Qao z)),(619,.var (Qe k)),(620,.var (Qe w)),(621,.var [.own 614 l.length]),(622,.var (QV j)),(623,.var (QV x)),(624,.var [.own 615 st.2.length])]⟩) (Sum.elim (fun q e σ=>e=.ret/\σ=⟨[],[(614,.arr 4 (l.map (QA β))),(615,.arr 4 (q.map (QA β))),(616,.lp lpl (Qbr lpf) (Qeo (.L 617) (.L 618) (.L 619) (.L 620) (.L 621) (.L 622) (.L 623) (.L 624)) 1),(617,.var (Qd y)),(618,.var (Qao z)),(619,.var (Qe k)),(620,.var (Qe w)),(621,.var [.own 615 q.length]),(622,.var (QV j)),(623,.var (QV x)),(624,.var [.own 615 q.length])]⟩) (fun q e σ=>e=.exit 4/\σ=⟨[(6,.L 619),(7,.L 620),(8,.L 621),(12,.L 624),(13,.sl 1 (A.map Qe)),lk_ 14,(16,.own 71 g.length),(74,.sl 1 (j.map Qu)),(75,.I (j.length:Int)),(76,.I E)],[(14,.var (Qx f.2)),(71,.arr 1 (g.map Qu)),(614,.arr 4 (l.map (QA β))),(615,.arr 4 (q.map (QA β))),(616,.lp lpl (Qbr lpf) (Qeo (.L 617) (.L 618) (.L 619) (.L 620) (.L 621) (.L 622) (.L 623) (.L 624)) 1),(617,.var (Qd y)),(618,.var (Qao z)),(619,.var (Qe k)),(620,.var (Qe w)),(621,.var [.own 614 l.length]),(622,.var (QV j)),(623,.var (QV x)),(624,.var [.own 615 q.length])]⟩)) a8 rfl ?_ ?_
    ·rintro ⟨c3,P⟩ o σ rfl h
     refine tg_ i [6] ?_
     rcases Qm h with⟨J,h⟩|⟨J,h⟩
     ·obtain⟨b7,U,h⟩:=Qb h
      obtain⟨p,a9,h⟩:=Qb h
      obtain⟨t,b0,h⟩:=Qb h
      obtain⟨u,b1,h⟩:=Qb h
      obtain⟨b2,h⟩:=QaV h
      refine Qa i [.T,7,.o (.row (Qu b7)),4,.K [6,7,8,12,13,14,16,18,20,74,75,76,84,85,86] [14,71,614,615,616,617,618,619,620,621,622,623,624]] rfl (a3_ J (QdK U rfl) (Qcb (Qcq U).2)) ?_
      refine AK.draw2 Qo i mixed [.N,.N,.N,.a (.cdn β false [.d] 1 (p.map Qe) p.length) none false,.N,.a (.cdn β false [.d] 1 (t.map Qe) t.length) none false,.N,.a (.cdn β false [.d] 1 (u.map Qe) u.length) none false,.a .no (some ([],.agg ((QA β) (Qi.mk k p t u)))) false,.a (.bd []) (some ([],.sl 4 (([(Qi.mk k p t u)]:List Qi).map (QA β)))) false,.m (.app ((P++[(Qi.mk k p t u)]).map (QA β)) (P++[(Qi.mk k p t u)]).length),.m .s] [] [] [6,7,8,12,13,14,16,18,74,75,76,84,85,86] [14,71,614,615,616,617,618,619,620,621,622,623,624] rfl rfl rfl ⟨⟨⟨⟨⟨⟨tt_,⟨(Qcy _ a9),Qf,hβ⟩⟩,⟨(Qcy _ b0),Qf,hβ⟩⟩,⟨(Qcy _ b1),Qf,hβ⟩⟩,rfl⟩,rfl⟩,⟨Qf,Qcw b2 Qf,Qa2,Qdc Qf⟩⟩ rfl (by kernel_rfl) rfl rfl rfl ?_
      refine Qa i [.O 624 (.var [.own 615 (P++[(Qi.mk k p t u)]).length]),9] rfl (a1_ rfl) ?_
      refine bg_ h (fun L h=>Qa i [.T,4,.O 621 (.var [.own 615 (P++[(Qi.mk k p t u)]).length]),5,.K [] [614,615,616,617,618,619,620,621,622,623,624]] rfl (a2_ L rfl) ?_) fun L h=>Qa i [.F,7,.K [6,7,8,12,13,14,16,18,74,75,76,84,85,86] [14,71,614,615,616,617,618,619,620,621,622,623,624]] rfl (a1_ L) ?_
      ·cases h
       exact Qah rfl (an_ rfl rfl)
      cases h
      exact QY rfl rfl
     refine Qa i [.F,2,.K [6,7,8,12,13,14,16,74,75,76] [14,71,614,615,616,617,618,619,620,621,622,623,624]] rfl (a1_ J) ?_
     cases h
     exact QZ rfl (an_ rfl rfl)
    rcases b6 with(b8 | b9)
    ·replace h:QjY b8=some o:=h
     rintro e σ ⟨rfl,rfl⟩
     refine tg_ i [3,.K [] [614,615,616,617,618,619,620,621,622,623,624]] ?_
     cases h
     exact Qah rfl (an_ rfl rfl)
    replace h:Qf3 E b9=some o:=h
    unfold Qf3 at h
    rintro e σ ⟨rfl,rfl⟩
    refine tg_ i [2,.K [6,7,8,12,13,14,16,74,75,76] [14,71,614,615,616,617,618,619,620,621,622,623,624]] ?_
    exact AK.met (ex_ _ (an_ rfl h))
   rintro σ ⟨M,rfl,h⟩
   refine tg_ i [4,.K [6,7,8,12,13,14,16,74,75,76] [14,71,614,615,616,617,618,619,620,621,622,623,624]] ?_
   cases h
   exact QY rfl rfl
  cases h
  exact QZ rfl (an_ rfl rfl)
 rcases b4 with(c0 | c1)
 ·replace h:QjZ c0=some r:=h
  rintro e σ ⟨rfl,rfl⟩
  refine tg_ i [2,.K [] [614,615,616,617,618,619,620,621,622,623,624]] ?_
  cases h
  refine AK.done ?_
  exact ex_ _ (an_ rfl (gives rB_))
 replace h:Qj0 c1=some r:=h
 rintro e σ ⟨rfl,rfl⟩
 refine tg_ i [2,.K [] [614,615,616,617,618,619,620,621,622,623,624]] ?_
 cases h
 refine AK.done ?_
 exact ex_ _ (an_ rfl (gives rB_))
def QaJ (c:(List QD))(a:Int):Option Int:=
 (Qdg c a).bind fun b=>
 bif (!b.1)then
 some 0
 else
 (idx b.2.sizes a).bind fun d=>
 some d
theorem Qh3 (j k){r}(h:QaJ j k=some r):Qc prog 59 [.sl 7 (j.map Qq),.I k] [] (Gives (.I r) []):=by
 refine wk_ 20 func59 fun C e=>?_
 obtain⟨f,g,h⟩:=Qb h
 refine Qa e [9,.o (.C2 (.tup [.agg (Q6 f.2),.b f.1])),5,.O 5 (.var (Q6 f.2)),10] rfl (a2_ (Qm1 _ _ g) rfl) ?_
 rcases Qm h with⟨a,h⟩|⟨a,h⟩
 ·refine Qa e [.T,7] rfl (a1_ a) ?_
  cases h
  exact d1_ tt_
 obtain⟨l,i,h⟩:=Qb h
 refine Qa e [.F,7,.o (.row (Qe l)),5] rfl (a2_ a (QJ i)) ?_
 cases h
 exact d1_ tt_
def QmB (a:(List Qi)):Option (((List Int)×(List Qi))⊕((List Qi)⊕(List Qi))):=
 some (.inr (.inr a))
def Qfz (at_25:Int)(a:(List Int))(f:QF)(b:Qn):Option Bool:=
 bif (decide (0<=at_25))then
 (idx a at_25).bind fun c=>
 (idx f.Vars at_25).bind fun d=>
 (QaJ b.Colours d.Colour).bind fun e=>
 some (decide (e<=(w64 (c+1))))
 else
 some false
def QdY (a:(List Int))(at_25:Int)(b:Bool):Option ((Int×(List Int))⊕(Int×(List Int))):=
 bif b then
 (idx a at_25).bind fun c=>
 some (.inl ((w64 (at_25-1)),(a.set at_25.toNat 0)))
 else
 some (.inr (at_25,a))
def Qax (d:QF)(b:Qn)(at_25:Int)(a:(List Int)):Option ((Int×(List Int))⊕(Int×(List Int))):=
 (Qfz at_25 a d b).bind (fun c=>QdY a at_25 c)
def Qc0 (b:(List Qi))(at_29:Int)(a:(List Int)):Option (((List Int)×(List Qi))⊕((List Qi)⊕(List Qi))):=
 bif (decide (at_29<0))then
 some (.inr (.inl b))
 else
 (idx a at_29).bind fun c=>
 (idx a at_29).bind fun d=>
 some (.inl ((a.set at_29.toNat (w64 (c+1))),b))
def Qc1 (d:QF)(b:Qn)(a:(List Int))(c:(List Qi)):Option (((List Int)×(List Qi))⊕((List Qi)⊕(List Qi))):=
 (Qz (fun st=>Qax d b st.1 st.2) ((w64 ((a.length:Int)-1)),a)).bind (fun q=>Qc0 c q.1 q.2)
def Qc2 (e:Qn)(f:QMk)(g:Int)(h:Int)(i:(List Qi))(j:QLL)(k:QLL)(l:QF)(b:Qn)(a:(List Int))(c:(List Qi)):Option (((List Int)×(List Qi))⊕((List Qi)⊕(List Qi))):=
 (QaN a).bind fun d=>
 (QcE e f g h i j k c d).bind (Sum.elim (fun q=>QmB q) (fun q=>Qc1 l b a q))
def QmC (a:(List Qi)):Option ((List Qi)⊕(List Qi)):=
 some (.inl a)
def QmD (a:(List Qi)):Option ((List Qi)⊕(List Qi)):=
 some (.inr a)
def Qea (c:Qn)(d:QMk)(e:Int)(f:Int)(g:(List Qi))(h:QLL)(i:QLL)(j:(List Qi))(a:QF)(b:Qn):Option ((List Qi)⊕(List Qi)):=
 (chk (decide (0<=(a.Vars.length:Int))&&decide ((a.Vars.length:Int)<=(a.Vars.length:Int))&&decide ((a.Vars.length:Int)<=4294967296))).bind fun _=>
 (Qz (fun st=>Qc2 c d e f g h i a b st.1 st.2) ((List.replicate (a.Vars.length:Int).toNat (0:Int)),j)).bind (Sum.elim (fun q=>QmC q) (fun q=>QmD q))
theorem Ql4 (β:Nat)(lpl lpf:Nat)(m:Qn)(p:QMk)(s:Int)(t:Int)(j:(List Qi))(u:QLL)(v:QLL)(l8:(List Qi))(l:QF)(f:Qn){r:((List Qi)⊕(List Qi))}(h:Qea m p s t j u v l8 l f=some r):Qai β prog 62 [.clo (.yield lpl) [] [],.L 625,.L 626] [(616,.lp lpl (Qbr lpf) (Qeo (.L 617) (.L 618) (.L 619) (.L 620) (.L 621) (.L 622) (.L 623) (.L 624)) 0),(617,.var (Qd m)),(618,.var (Qao p)),(619,.var (Qe s)),(620,.var (Qe t)),(621,.var [.own 614 j.length]),(614,.arr 4 (j.map (QA β))),(622,.var (QV u)),(623,.var (QV v)),(624,.var [.own 615 l8.length]),(615,.arr 4 (l8.map (QA β))),(625,.var (Qj l)),(626,.var (Qd f))] ((Sum.elim (fun q=>(Gives (.tup []) [(614,.arr 4 (j.map (QA β))),(615,.arr 4 (q.map (QA β))),(616,.lp lpl (Qbr lpf) (Qeo (.L 617) (.L 618) (.L 619) (.L 620) (.L 621) (.L 622) (.L 623) (.L 624)) 0),(617,.var (Qd m)),(618,.var (Qao p)),(619,.var (Qe s)),(620,.var (Qe t)),(621,.var [.own 614 j.length]),(622,.var (QV u)),(623,.var (QV v)),(624,.var [.own 615 q.length]),(625,.var (Qj l)),(626,.var (Qd f))])) (fun q=>(Gives (.tup []) [(614,.arr 4 (j.map (QA β))),(615,.arr 4 (q.map (QA β))),(616,.lp lpl (Qbr lpf) (Qeo (.L 617) (.L 618) (.L 619) (.L 620) (.L 621) (.L 622) (.L 623) (.L 624)) 2),(617,.var (Qd m)),(618,.var (Qao p)),(619,.var (Qe s)),(620,.var (Qe t)),(621,.var [.own 615 q.length]),(622,.var (QV u)),(623,.var (QV v)),(624,.var [.own 615 q.length]),(625,.var (Qj l)),(626,.var (Qd f))]))) r):=by
 refine Qai.walk 50 func62 rfl ntmps62 rfl fun C k hβ=>?_
 obtain⟨W,h⟩:=QaV h
 refine Qa k [4,.o (.ln l.Vars.length),.o (.rows ((List.replicate (l.Vars.length:Int).toNat (0:Int)).map Qe)),.S 9 (.own 9 (List.replicate (l.Vars.length:Int).toNat (0:Int)).length),4,.K [0,1,2,4] [9,614,615,616,617,618,619,620,621,622,623,624,625,626]] rfl (a3_ Qf ⟨W,QyO rfl⟩ (by simp)) ?_
 obtain⟨a4,X,h⟩:=Qb h
 refine AK.loop (body:=(fun st=>Qc2 m p s t j u v l f st.1 st.2)) (fun st σ=>σ=⟨[(0,.clo (.yield lpl) [] []),(1,.L 625),(2,.L 626),(4,.own 9 st.1.length)],[(9,.arr 1 (st.1.map Qe)),(614,.arr 4 (j.map (QA β))),(615,.arr 4 (st.2.map (QA β))),(616,.lp lpl (Qbr lpf) (Qeo (.L 617) (.L 618) (.L 619) (.L 620) (.L 621) (.L 622) (.L 623) (.L 624)) 0),(617,.var (Qd m)),(618,.var (Qao p)),(619,.var (Qe s)),(620,.var (Qe t)),(621,.var [.own 614 j.length]),(622,.var (QV u)),(623,.var (QV v)),(624,.var [.own 615 st.2.length]),(625,.var (Qj l)),(626,.var (Qd f))]⟩) (Sum.elim (fun q e σ=>e=.ret/\σ=⟨[],[(614,.arr 4 (j.map (QA β))),(615,.arr 4 (q.map (QA β))),(616,.lp lpl (Qbr lpf) (Qeo (.L 617) (.L 618) (.L 619) (.L 620) (.L 621) (.L 622) (.L 623) (.L 624)) 0),(617,.var (Qd m)),(618,.var (Qao p)),(619,.var (Qe s)),(620,.var (Qe t)),(621,.var [.own 614 j.length]),(622,.var (QV u)),(623,.var (QV v)),(624,.var [.own 615 q.length]),(625,.var (Qj l)),(626,.var (Qd f))]⟩) (fun q e σ=>e=.ret/\σ=⟨[],[(614,.arr 4 (j.map (QA β))),(615,.arr 4 (q.map (QA β))),(616,.lp lpl (Qbr lpf) (Qeo (.L 617) (.L 618) (.L 619) (.L 620) (.L 621) (.L 622) (.L 623) (.L 624)) 2),(617,.var (Qd m)),(618,.var (Qao p)),(619,.var (Qe s)),(620,.var (Qe t)),(621,.var [.own 615 q.length]),(622,.var (QV u)),(623,.var (QV v)),(624,.var [.own 615 q.length]),(625,.var (Qj l)),(626,.var (Qd f))]⟩)) X rfl ?_ ?_
 ·rintro ⟨Y,b4⟩ o σ rfl h
  obtain⟨L,Z,h⟩:=Qb h
  obtain⟨a5,D,h⟩:=Qb h
  refine Qa k [6,.o (.co true [.o (Y.map Qe)] 1 (L.map Qe) L.length),.frz 12 (L.map Qe) [12] []] rfl (a2_ ⟨(QoY rfl),⟨(Qcy _ Z),Qf,.inr (QBk _)⟩⟩ (a1_ (QeC Qf))) ?_
  rcases a5 with(w | i)
  ·replace h:QmB w=some o:=h
   refine Qa k [.x (fun σ=>(σ.after [614,615] [(614,.arr 4 (j.map (QA β))),(615,.arr 4 (w.map (QA β))),(616,.lp lpl (Qbr lpf) (Qeo (.L 617) (.L 618) (.L 619) (.L 620) (.L 621) (.L 622) (.L 623) (.L 624)) 2),(617,.var (Qd m)),(618,.var (Qao p)),(619,.var (Qe s)),(620,.var (Qe t)),(621,.var [.own 615 w.length]),(622,.var (QV u)),(623,.var (QV v)),(624,.var [.own 615 w.length])]).put 13 (.b false)),7,.K [] [614,615,616,617,618,619,620,621,622,623,624,625,626]] rfl (a1_ (Stp.yieldVB hβ (b:=616) (M:=[(616,616),(617,617),(618,618),(619,619),(620,620),(621,621),(614,614),(622,622),(623,623),(624,624),(615,615)]) (N:=[(614,614),(615,615),(616,616),(617,617),(618,618),(619,619),(620,620),(621,621),(622,622),(623,623),(624,624)]) (dead:=[614,615]) (ms:=[.d,.d,.d,.d,.d,.d,.d,.d,.d,.d,.d,.d,.d,.d,.d,.d,.d,.d,.d,.d,.d,.d,.d,.d,.d,.d,.d,.d,.d,.d,.d,.d,.d,.d,.d,.d,.d,.d,.d,.d,.d,.d,.d,.d,.d,.d,.d,.d,.d,.d,.d,.d,.d,.d,.d,.d,.d,.d,.d,.d,.d,.d,.d,.d,.d,.d,.d,.d,.d,.d,.d,.d,.d,.d,.d,.d,.d,.d,.d,.d,.d,.d,.d,.d,.d,.d,.d,.d,.d,.d,.d,.d,.d,.d,.d,.d,.d,.d,.d,.d,.d,.d,.d,.d,.d,.d,.d,.d,.d]) (outs:=[(614,.arr 4 (j.map (QA β))),(615,.arr 4 (w.map (QA β))),(616,.lp lpl (Qbr lpf) (Qeo (.L 617) (.L 618) (.L 619) (.L 620) (.L 621) (.L 622) (.L 623) (.L 624)) 2),(617,.var (Qd m)),(618,.var (Qao p)),(619,.var (Qe s)),(620,.var (Qe t)),(621,.var [.own 615 w.length]),(622,.var (QV u)),(623,.var (QV v)),(624,.var [.own 615 w.length])]) (r:=.b false) rfl rfl rfl rfl rfl rfl rfl (QR k.n rfl) k.g rfl rfl (Qi7 _ _ _ _ _ _ _ _ _ _ _ _ D))) ?_
   cases h
   exact Qah rfl (an_ rfl rfl)
  replace h:Qc1 l f Y i=some o:=h
  refine Qa k [.x (fun σ=>(σ.after [614,615] [(614,.arr 4 (j.map (QA β))),(615,.arr 4 (i.map (QA β))),(616,.lp lpl (Qbr lpf) (Qeo (.L 617) (.L 618) (.L 619) (.L 620) (.L 621) (.L 622) (.L 623) (.L 624)) 0),(617,.var (Qd m)),(618,.var (Qao p)),(619,.var (Qe s)),(620,.var (Qe t)),(621,.var [.own 614 j.length]),(622,.var (QV u)),(623,.var (QV v)),(624,.var [.own 615 i.length])]).put 13 (.b true)),16,.K [0,1,2,4,5] [9,614,615,616,617,618,619,620,621,622,623,624,625,626]] rfl (a1_ (Stp.yieldVB hβ (b:=616) (M:=[(616,616),(617,617),(618,618),(619,619),(620,620),(621,621),(614,614),(622,622),(623,623),(624,624),(615,615)]) (N:=[(614,614),(615,615),(616,616),(617,617),(618,618),(619,619),(620,620),(621,621),(622,622),(623,623),(624,624)]) (dead:=[614,615]) (ms:=[.d,.d,.d,.d,.d,.d,.d,.d,.d,.d,.d,.d,.d,.d,.d,.d,.d,.d,.d,.d,.d,.d,.d,.d,.d,.d,.d,.d,.d,.d,.d,.d,.d,.d,.d,.d,.d,.d,.d,.d,.d,.d,.d,.d,.d,.d,.d,.d,.d,.d,.d,.d,.d,.d,.d,.d,.d,.d,.d,.d,.d,.d,.d,.d,.d,.d,.d,.d,.d,.d,.d,.d,.d,.d,.d,.d,.d,.d,.d,.d,.d,.d,.d,.d,.d,.d,.d,.d,.d,.d,.d,.d,.d,.d,.d,.d,.d,.d,.d,.d,.d,.d,.d,.d,.d,.d,.d,.d,.d]) (outs:=[(614,.arr 4 (j.map (QA β))),(615,.arr 4 (i.map (QA β))),(616,.lp lpl (Qbr lpf) (Qeo (.L 617) (.L 618) (.L 619) (.L 620) (.L 621) (.L 622) (.L 623) (.L 624)) 0),(617,.var (Qd m)),(618,.var (Qao p)),(619,.var (Qe s)),(620,.var (Qe t)),(621,.var [.own 614 j.length]),(622,.var (QV u)),(623,.var (QV v)),(624,.var [.own 615 i.length])]) (r:=.b true) rfl rfl rfl rfl rfl rfl rfl (QR k.n rfl) k.g rfl rfl (Qi7 _ _ _ _ _ _ _ _ _ _ _ _ D))) ?_
  obtain⟨a6,a0,h⟩:=Qb h
  refine AK.loop (body:=(fun st=>Qax l f st.1 st.2)) (fun st σ=>σ=⟨[(0,.clo (.yield lpl) [] []),(1,.L 625),(2,.L 626),(4,.own 9 st.2.length),(5,.I st.1)],[(9,.arr 1 (st.2.map Qe)),(614,.arr 4 (j.map (QA β))),(615,.arr 4 (i.map (QA β))),(616,.lp lpl (Qbr lpf) (Qeo (.L 617) (.L 618) (.L 619) (.L 620) (.L 621) (.L 622) (.L 623) (.L 624)) 0),(617,.var (Qd m)),(618,.var (Qao p)),(619,.var (Qe s)),(620,.var (Qe t)),(621,.var [.own 614 j.length]),(622,.var (QV u)),(623,.var (QV v)),(624,.var [.own 615 i.length]),(625,.var (Qj l)),(626,.var (Qd f))]⟩) (fun q e σ=>e=.exit 2/\σ=⟨[(0,.clo (.yield lpl) [] []),(1,.L 625),(2,.L 626),(4,.own 9 q.2.length),(5,.I q.1)],[(9,.arr 1 (q.2.map Qe)),(614,.arr 4 (j.map (QA β))),(615,.arr 4 (i.map (QA β))),(616,.lp lpl (Qbr lpf) (Qeo (.L 617) (.L 618) (.L 619) (.L 620) (.L 621) (.L 622) (.L 623) (.L 624)) 0),(617,.var (Qd m)),(618,.var (Qao p)),(619,.var (Qe s)),(620,.var (Qe t)),(621,.var [.own 614 j.length]),(622,.var (QV u)),(623,.var (QV v)),(624,.var [.own 615 i.length]),(625,.var (Qj l)),(626,.var (Qd f))]⟩) a0 rfl ?_ ?_
  ·rintro ⟨at_25,y⟩ o σ rfl h
   refine tg_ k [2] ?_
   obtain⟨O,a1,h⟩:=Qb h
   replace h:QdY y at_25 O=some o:=h
   refine AK.meetX (fun σ=>σ=⟨[(0,.clo (.yield lpl) [] []),(1,.L 625),(2,.L 626),(4,.own 9 y.length),(5,.I at_25),(36,.b O)],[(9,.arr 1 (y.map Qe)),(614,.arr 4 (j.map (QA β))),(615,.arr 4 (i.map (QA β))),(616,.lp lpl (Qbr lpf) (Qeo (.L 617) (.L 618) (.L 619) (.L 620) (.L 621) (.L 622) (.L 623) (.L 624)) 0),(617,.var (Qd m)),(618,.var (Qao p)),(619,.var (Qe s)),(620,.var (Qe t)),(621,.var [.own 614 j.length]),(622,.var (QV u)),(623,.var (QV v)),(624,.var [.own 615 i.length]),(625,.var (Qj l)),(626,.var (Qd f))]⟩) ?_ ?_
   ·replace h:=a1
    refine tg_ k [.K [0,1,2,4,5] [9,614,615,616,617,618,619,620,621,622,623,624,625,626]] ?_
    rcases Qm h with⟨z,h⟩|⟨z,h⟩
    ·obtain⟨a7,E,h⟩:=Qb h
     obtain⟨a8,a2,h⟩:=Qb h
     obtain⟨a9,a3,h⟩:=Qb h
     refine AK.draw2 Qo k mixed [.N,.N,.a .no (some ([],.b true)) false,.N,.N,.N,.a (.row (Qe a7)) none false,.N,.N,.N,.N,.N,.N,.a (.row (QO a8)) none false,.N,.N,.a (.C2 (.I a9)) none false,.N,.N] [] [] [0,1,2,4,5,36] [9,614,615,616,617,618,619,620,621,622,623,624,625,626] rfl rfl rfl ⟨⟨⟨⟨(tc_ z),(QdK E rfl)⟩,(Qcb (Qcq E).2)⟩,(QJ a2)⟩,(Qh3 _ _ a3)⟩ rfl (by kernel_rfl) rfl rfl rfl ?_
     refine tg_ k [.K [0,1,2,4,5,36] [9,614,615,616,617,618,619,620,621,622,623,624,625,626]] ?_
     cases h
     exact mt_
    refine AK.draw2 Qo k mixed [.N,.N,.a .no (some ([],.b false)) false,.N,.N,.N,.N,.N,.N,.N,.N,.N,.N,.N,.N,.N,.N,.N,.N] [] [] [0,1,2,4,5,36] [9,614,615,616,617,618,619,620,621,622,623,624,625,626] rfl rfl rfl (tc_ z) rfl (by kernel_rfl) rfl rfl rfl ?_
    refine tg_ k [.K [0,1,2,4,5,36] [9,614,615,616,617,618,619,620,621,622,623,624,625,626]] ?_
    cases h
    exact mt_
   rintro σ rfl
   replace h:QdY y at_25 O=some o:=h
   refine tg_ k [1] ?_
   rcases Qm h with⟨A,h⟩|⟨A,h⟩
   ·obtain⟨b0,G,h⟩:=Qb h
    refine Qa k [.T,8,.st (Qe b0) ((y.set at_25.toNat 0).map Qe),8,.S 4 (.own 9 (y.set at_25.toNat 0).length),.K [0,1,2,4,5] [9,614,615,616,617,618,619,620,621,622,623,624,625,626]] rfl (a4_ A (QdK G rfl) ⟨(Qcb (Qcq G).2),Qnz rfl⟩ (congrArg (fun n=>V.own 9 n) (by simp))) ?_
    cases h
    exact QY rfl rfl
   refine Qa k [.F,2,.K [0,1,2,4,5] [9,614,615,616,617,618,619,620,621,622,623,624,625,626]] rfl (a1_ A) ?_
   cases h
   exact QZ rfl (an_ rfl rfl)
  obtain⟨at_29,P⟩:=a6
  replace h:Qc0 i at_29 P=some o:=h
  rintro e σ ⟨rfl,rfl⟩
  refine tg_ k [9] ?_
  rcases Qm h with⟨B,h⟩|⟨B,h⟩
  ·refine Qa k [.T,3,.K [] [614,615,616,617,618,619,620,621,622,623,624,625,626]] rfl (a1_ B) ?_
   cases h
   exact Qah rfl (an_ rfl rfl)
  obtain⟨U,H,h⟩:=Qb h
  obtain⟨b1,J,h⟩:=Qb h
  refine Qa k [.F,6,.o (.row (Qe U)),2,.st (Qe b1) ((P.set at_29.toNat (w64 (U+1))).map Qe),2,.S 4 (.own 9 (P.set at_29.toNat (w64 (U+1))).length),.K [0,1,2,4] [9,614,615,616,617,618,619,620,621,622,623,624,625,626]] rfl (a6_ B (QdK H rfl) (Qcb (Qcq H).2) (QdK J rfl) ⟨(Qcb (Qcq J).2),Qnz rfl⟩ (congrArg (fun n=>V.own 9 n) (by simp))) ?_
  cases h
  exact QY rfl rfl
 rcases a4 with(b2 | b3)
 ·replace h:QmC b2=some r:=h
  rintro e σ ⟨rfl,rfl⟩
  refine tg_ k [1,.K [] [614,615,616,617,618,619,620,621,622,623,624,625,626]] ?_
  cases h
  refine AK.done ?_
  exact ex_ [] (an_ tt_ (gives rD_))
 replace h:QmD b3=some r:=h
 rintro e σ ⟨rfl,rfl⟩
 refine tg_ k [1,.K [] [614,615,616,617,618,619,620,621,622,623,624,625,626]] ?_
 cases h
 refine AK.done ?_
 exact ex_ [] (an_ tt_ (gives rD_))
def Qqy (a:(List Qi)):Option (List Qi):=
 some a
def Qqz (a:(List Qi)):Option (List Qi):=
 some a
def QbT (e:Qn)(h:QMk)(a:Int)(b:Int):Option (List Qi):=
 bif ((decide (a<0))||((decide ((e.Tasks.length:Int)<=a))||(decide (b<1))))then
 some ([]:List Qi)
 else
 (idx e.Tasks a).bind fun c=>
 (Qay c.Join (c.Ins.length:Int)).bind fun f=>
 (Qay c.Split (c.Outs.length:Int)).bind fun g=>
 (Qqt e c).bind fun d=>
 (Qea e h a b ([]:List Qi) f g ([]:List Qi) d.2 d.1).bind (Sum.elim (fun q=>Qqy q) (fun q=>Qqz q))
theorem Qpm (β:Nat)(k:Qn)(y:QMk)(c:Int)(e:Int){r:(List Qi)}(h:QbT k y c e=some r):Qai β prog 9 [.agg (Qd k),.sl 1 (y.map Qs),.I c,.I e] [] (Gives (.sl 4 (r.map (QA β))) []):=by
 refine Qai.walkR 109 func9 rfl ntmps9 rfl fun C f hR hβ=>?_
 unfold QbT at h
 refine tg_ f [11] ?_
 refine AK.meetX (fun σ=>σ=⟨[lk_ 4,lk_ 5,lk_ 6,lk_ 7,lk_ 8,(33,.b ((decide (c<0))||((decide ((k.Tasks.length:Int)<=c))||(decide (e<1)))))],[(4,.var (Qd k)),(5,.var (Qao y)),(6,.var (Qe c)),(7,.var (Qe e)),(8,.var [.lit (.slice none 0 0)])]⟩) ?_ ?_
 ·refine tg_ f [4] ?_
  rcases QE (decide (c<0))with g | g
  ·refine Qa f [.S 23 (.b true),11,.S 33 (.b ((decide (c<0))||((decide ((k.Tasks.length:Int)<=c))||(decide (e<1))))),.K [4,5,6,7,8,33] [4,5,6,7,8]] rfl ⟨(tc_ g),(congrArg V.b (orT g rfl))⟩ ?_
   exact mt_
  refine Qa f [.S 23 (.b false),3,.o (.ln k.Tasks.length),3] rfl ⟨(tc_ g),Qf⟩ ?_
  rcases QE (decide ((k.Tasks.length:Int)<=c))with l | l
  ·refine Qa f [.S 30 (.b true),4,.S 33 (.b ((decide (c<0))||((decide ((k.Tasks.length:Int)<=c))||(decide (e<1))))),.K [4,5,6,7,8,33] [4,5,6,7,8]] rfl ⟨(tc_ l),(congrArg V.b (orF g (orT l rfl)))⟩ ?_
   exact mt_
  refine Qa f [.S 30 (.b false),4,.S 33 (.b ((decide (c<0))||((decide ((k.Tasks.length:Int)<=c))||(decide (e<1))))),.K [4,5,6,7,8,33] [4,5,6,7,8]] rfl ⟨(tc_ l),(congrArg V.b (orF g (orF l rfl)))⟩ ?_
  exact mt_
 rintro σ rfl
 refine tg_ f [1] ?_
 rcases Qm h with⟨p,h⟩|⟨p,h⟩
 ·refine Qa f [.T,3,.O 8 (.var [.lit (.slice none 0 0)]),4,.denilO 8 [some 4],.O 8 (.var (QAy ([]:List Qi))),.K [8] [8]] rfl (a3_ p rfl rfl) ?_
  cases h
  exact AK.done (ex_ [_] (an_ (an_ (ex_ _ (ex_ _ (an_ rfl (an_ rfl (Or.inr (an_ (Qo.ag rfl) rfl)))))) tt_) (gives tt_)))
 obtain⟨i,z,h⟩:=Qb h
 obtain⟨q,A,h⟩:=Qb h
 obtain⟨t,B,h⟩:=Qb h
 refine Qa f [.F,7,.o (.row (Qj i)),.A (Qj i),2,.O 9 (.var (Qj i)),3,.K [4,5,6,7,8,9] [4,5,6,7,8,9]] rfl (a4_ p (QJ z) rfl rfl) ?_
 refine AK.draw2 Qo f mixed [.N,.N,.N,.N,.a (.ln i.Ins.length) none false,.a (.cd false [.d,.d] 1 (q.map Qu) q.length) none false,.N,.N,.N,.N,.a (.ln i.Outs.length) none false,.a (.cd false [.d,.d] 1 (t.map Qu) t.length) none false,.N,.N,.m .s,.m .s] [] [] [4,5,6,7,8,9,10,11] [4,5,6,7,8,9,10,11] rfl rfl rfl ⟨⟨⟨⟨tt_,Qf⟩,⟨(Qhb _ _ A),Qf⟩⟩,Qf⟩,⟨(Qhb _ _ B),Qf⟩⟩ rfl (by kernel_rfl) rfl rfl rfl ?_
 obtain⟨j,D,h⟩:=Qb h
 refine Qa f [.O 10 (.var (QV q)),.O 11 (.var (QV t)),9,.A (Qd k),.A (Qj i),.cm (.fn) [] [(53,2),(609,3)] [] [.d,.d] [(2,.var (Qd j.1)),(3,.var (Qj j.2))] (.clo (.func 62) [] [.L 3,.L 2]),3,.K [4,5,6,7,8,10,11,12,53] [4,5,6,7,8,10,11,12,53,609]] rfl (a5_ rfl rfl rfl rfl (QtX _ _ D)) ?_
 obtain⟨E,x,h⟩:=Qb h
 refine Qa f [.adoptO 8 0 607 4,.O 607 (.arr 4 (([]:List Qi).map (QA β))),.O 8 (.var [.own 607 ([]:List Qi).length]),.adoptO 12 0 608 4,.O 608 (.arr 4 (([]:List Qi).map (QA β))),.O 12 (.var [.own 608 ([]:List Qi).length])] rfl (a4_ rfl rfl rfl rfl) ?_
 rcases E with(u | w)
 ·replace h:Qqy u=some r:=h
  refine AK.rangeFB hβ 613 [4,5,6,7,8,10,11,12] [(616,613),(617,4),(618,5),(619,6),(620,7),(621,8),(614,607),(622,10),(623,11),(624,12),(615,608),(625,609),(626,53)] [(607,614),(608,615),(613,616),(4,617),(5,618),(6,619),(7,620),(8,621),(10,622),(11,623),(12,624),(609,625),(53,626)] [607,608] [.d,.d,.d] Qbr f hR (fun _=>rfl) rfl rfl rfl rfl fun lpl lpf=>?_
  refine ex_ [(614,.arr 4 (([]:List Qi).map (QA β))),(615,.arr 4 (u.map (QA β))),(616,.lp lpl (Qbr lpf) (Qeo (.L 617) (.L 618) (.L 619) (.L 620) (.L 621) (.L 622) (.L 623) (.L 624)) 0),(617,.var (Qd k)),(618,.var (Qao y)),(619,.var (Qe c)),(620,.var (Qe e)),(621,.var [.own 614 ([]:List Qi).length]),(622,.var (QV q)),(623,.var (QV t)),(624,.var [.own 615 u.length]),(625,.var (Qj j.2)),(626,.var (Qd j.1))] (ex_ (.tup []) (ex_ _ (ex_ _ (ex_ (Qeo (.L 4) (.L 5) (.L 6) (.L 7) (.L 8) (.L 10) (.L 11) (.L 12)) (ex_ 0 (an_ rfl ?_))))))
  refine an_ (Ql4 _ _ _ _ _ _ _ _ _ _ _ _ _ x) (an_ rfl (an_ (bne_iff_ne.1 (show(0 != 1)=true from rfl)) ?_))
  refine QDn rfl ?_
  refine Qa f [6,.O 8 (.var [.own 608 u.length]),3,.frz 608 (u.map (QA β)) [] [8],.K [8] [8]] rfl (a2_ rfl (a1_ ⟨(QeC Qf),tt_⟩)) ?_
  cases h
  exact AK.done (ex_ [_] (an_ (an_ (ex_ _ (ex_ _ (an_ rfl (an_ rfl (Or.inr (an_ (Qo.ag rfl) rfl)))))) tt_) (gives tt_)))
 replace h:Qqz w=some r:=h
 refine AK.rangeFB hβ 613 [4,5,6,7,8,10,11,12] [(616,613),(617,4),(618,5),(619,6),(620,7),(621,8),(614,607),(622,10),(623,11),(624,12),(615,608),(625,609),(626,53)] [(607,614),(608,615),(613,616),(4,617),(5,618),(6,619),(7,620),(8,621),(10,622),(11,623),(12,624),(609,625),(53,626)] [607,608] [.d,.d,.d] Qbr f hR (fun _=>rfl) rfl rfl rfl rfl fun lpl lpf=>?_
 refine ex_ [(614,.arr 4 (([]:List Qi).map (QA β))),(615,.arr 4 (w.map (QA β))),(616,.lp lpl (Qbr lpf) (Qeo (.L 617) (.L 618) (.L 619) (.L 620) (.L 621) (.L 622) (.L 623) (.L 624)) 2),(617,.var (Qd k)),(618,.var (Qao y)),(619,.var (Qe c)),(620,.var (Qe e)),(621,.var [.own 615 w.length]),(622,.var (QV q)),(623,.var (QV t)),(624,.var [.own 615 w.length]),(625,.var (Qj j.2)),(626,.var (Qd j.1))] (ex_ (.tup []) (ex_ _ (ex_ _ (ex_ (Qeo (.L 4) (.L 5) (.L 6) (.L 7) (.L 8) (.L 10) (.L 11) (.L 12)) (ex_ 2 (an_ rfl ?_))))))
 refine an_ (Ql4 _ _ _ _ _ _ _ _ _ _ _ _ _ x) (an_ rfl (an_ (bne_iff_ne.1 (show(2 != 1)=true from rfl)) ?_))
 refine QEv rfl ?_
 refine Qa f [3,.frz 608 (w.map (QA β)) [] [8],.K [8] [8]] rfl (a1_ (a1_ ⟨(QeC Qf),tt_⟩)) ?_
 cases h
 exact AK.done (ex_ [_] (an_ (an_ (ex_ _ (ex_ _ (an_ rfl (an_ rfl (Or.inr (an_ (Qo.ag rfl) rfl)))))) tt_) (gives tt_)))
theorem QqA (c d a b){r}(h:QbT c d a b=some r):Qc prog 9 [.agg (Qd c),.sl 1 (d.map Qs),.I a,.I b] [] (Gives (.sl 4 (r.map Qw)) []):=(Qpm 0 c d a b h).loD (by rw [QCK (g:=Qw) fun _=>rfl])
def Qj1 (c:Qn)(b:Qi):Option (QMk×Int):=
 (QdW c b.Task b.Vars).bind fun d=>
 bif (d.2 != 0)then
 some (([]:List QBg),d.2)
 else
 (idx c.Tasks b.Task).bind fun e=>
 (Qaz c e.Ins b.Ins d.1).bind fun a=>
 some (a.1,a.2)
theorem QwP (i l){r}(h:Qj1 i l=some r):Qc prog 18 [.agg (Qd i),.agg (Qw l)] [] (Gives (.tup [.sl 1 (r.1.map Qs),.I r.2]) []):=by
 refine wk_ 34 func18 fun C e=>?_
 obtain⟨p,j,h⟩:=Qb h
 refine Qa e [10,.A (Qd i),4,.o (.C3 (.tup [.sl 1 (p.1.map Qe),.I p.2])),14] rfl (a2_ rfl (Qs6 _ _ _ j)) ?_
 rcases Qm h with⟨b,h⟩|⟨b,h⟩
 ·refine Qa e [.T,9,.denil 4 [some 1]] rfl (a1_ b) ?_
  cases h
  exact d2_ tt_
 obtain⟨q,k,h⟩:=Qb h
 obtain⟨f,g,h⟩:=Qb h
 refine Qa e [.F,3,.K [2,3,4,5,6] [2,3]] rfl (a1_ b) ?_
 refine AK.draw2 Qo e mixed [.a .no (some ([],.agg (Qd i))) false,.N,.N,.N,.N,.a (.row (Qj q)) none false,.N,.N,.N,.N,.N,.a (.C4 (.tup [.sl 1 (f.1.map Qs),.I f.2])) none false,.N,.N,.m .s,.m .s] [] [] [4,5] [] rfl rfl rfl ⟨⟨⟨tt_,rfl⟩,(QJ k)⟩,(Qh2 _ _ _ _ g)⟩ rfl (by kernel_rfl) rfl rfl rfl ?_
 refine tg_ e [2] ?_
 cases h
 exact d2_ tt_
def QqB (c:QBg)(e:QBg)(b:Int):Option (Int⊕(Unit⊕Unit)):=
 bif (decide (b<(c.length:Int)))then
 (idx c b).bind fun d=>
 (idx e b).bind fun a=>
 bif (!((d.1==a.1)&&(d.2==a.2)))then
 some (.inr (.inl ()))
 else
 some (.inl (w64 (b+1)))
 else
 some (.inr (.inr ()))
def QqC : Option Bool:=
 some false
def QqD : Option Bool:=
 some true
def Qt5 (a:QBg)(b:QBg):Option Bool:=
 bif ((a.length:Int) != (b.length:Int))then
 some false
 else
 (Qz (fun st=>QqB a b st) 0).bind (Sum.elim (fun q=>QqC) (fun q=>QqD))
theorem QwQ (j k){r}(h:Qt5 j k=some r):Qc prog 45 [.sl 2 (j.map Qp),.sl 2 (k.map Qp)] [] (Gives (.b r) []):=by
 refine wk_ 26 func45 fun C c=>?_
 refine Qa c [9,.o (.ln j.length),1,.o (.ln k.length),3] rfl (a2_ Qf Qf) ?_
 refine bq_ c h [.T,7,.K [4] []] rfl (fun g h=>?_) [.F,9,.K [0,1,5] []] rfl fun g h=>?_
 ·cases h
  exact d1_ tt_
 obtain⟨s,l,h⟩:=Qb h
 refine AK.loop (body:=(fun st=>QqB j k st)) (fun st σ=>σ=⟨[(0,.sl 2 (j.map Qp)),(1,.sl 2 (k.map Qp)),(5,.I st)],[]⟩) (Sum.elim (fun q e σ=>e=.ret/\σ=⟨[(4,.b false)],[]⟩) (fun q e σ=>e=.exit 0/\σ=⟨[],[]⟩)) l rfl ?_ ?_
 ·rintro v o σ rfl h
  refine Qa c [5,.o (.ln j.length),3] rfl (a1_ Qf) ?_
  rcases Qm h with⟨i,h⟩|⟨i,h⟩
  ·obtain⟨p,t,h⟩:=Qb h
   obtain⟨f,m,h⟩:=Qb h
   refine Qa c [.T,5,.K [0,1,5] []] rfl (a1_ i) ?_
   refine AK.draw2 Qo c mixed [.N,.N,.a (.row (Qp p)) none false,.a .no (some ([],.agg (Qp p))) false,.N,.N,.a (.row (Qp f)) none false,.a .no (some ([],.agg (Qp f))) false,.a (.any (.b (!((p.1==f.1)&&(p.2==f.2)))) none) none false] [] [] [0,1,5,25] [] rfl rfl rfl ⟨⟨⟨⟨⟨tt_,(QJ t)⟩,rfl⟩,(QJ m)⟩,rfl⟩,(fun σ u w _=>Stp.neAgg rfl rfl (QR c.n rfl) (u _ _ rfl) (u _ _ rfl) rfl rfl (QDS _ _ _ _))⟩ rfl (by kernel_rfl) rfl rfl rfl ?_
   refine tg_ c [1] ?_
   refine bq_ c h [.T,8,.K [4] []] rfl (fun d h=>?_) [.F,8,.K [0,1,5] []] rfl fun d h=>?_
   ·cases h
    exact Qah rfl (an_ rfl rfl)
   cases h
   exact QY rfl rfl
  refine Qa c [.F,2,.K [] []] rfl (a1_ i) ?_
  cases h
  exact QZ rfl (an_ rfl rfl)
 rcases s with(_ | _)
 ·replace h:QqC=some r:=h
  rintro e σ ⟨rfl,rfl⟩
  refine tg_ c [2] ?_
  cases h
  exact d1_ tt_
 replace h:QqD=some r:=h
 rintro e σ ⟨rfl,rfl⟩
 refine tg_ c [8] ?_
 cases h
 exact d1_ tt_
def QmU (d:QMk)(e:QMk)(a:Int):Option (Int⊕(Unit⊕Unit)):=
 bif (decide (a<(d.length:Int)))then
 (idx d a).bind fun f=>
 (idx e a).bind fun b=>
 (Qt5 f b).bind fun c=>
 bif (!c)then
 some (.inr (.inl ()))
 else
 some (.inl (w64 (a+1)))
 else
 some (.inr (.inr ()))
def QmV : Option Bool:=
 some false
def QmW : Option Bool:=
 some true
def Qpn (a:QMk)(b:QMk):Option Bool:=
 bif ((a.length:Int) != (b.length:Int))then
 some false
 else
 (Qz (fun st=>QmU a b st) 0).bind (Sum.elim (fun q=>QmV) (fun q=>QmW))
theorem Qtj (k l){r}(h:Qpn k l=some r):Qc prog 19 [.sl 1 (k.map Qs),.sl 1 (l.map Qs)] [] (Gives (.b r) []):=by
 refine wk_ 27 func19 fun C f=>?_
 refine Qa f [9,.o (.ln k.length),1,.o (.ln l.length),3] rfl (a2_ Qf Qf) ?_
 refine bq_ f h [.T,7,.K [4] []] rfl (fun i h=>?_) [.F,9,.K [0,1,5] []] rfl fun i h=>?_
 ·cases h
  exact d1_ tt_
 obtain⟨t,m,h⟩:=Qb h
 refine AK.loop (body:=(fun st=>QmU k l st)) (fun st σ=>σ=⟨[(0,.sl 1 (k.map Qs)),(1,.sl 1 (l.map Qs)),(5,.I st)],[]⟩) (Sum.elim (fun q e σ=>e=.ret/\σ=⟨[(4,.b false)],[]⟩) (fun q e σ=>e=.exit 0/\σ=⟨[],[]⟩)) m rfl ?_ ?_
 ·rintro y o σ rfl h
  refine Qa f [5,.o (.ln k.length),3] rfl (a1_ Qf) ?_
  rcases Qm h with⟨j,h⟩|⟨j,h⟩
  ·obtain⟨x,u,h⟩:=Qb h
   obtain⟨v,p,h⟩:=Qb h
   obtain⟨w,s,h⟩:=Qb h
   refine Qa f [.T,5,.K [0,1,5] []] rfl (a1_ j) ?_
   refine AK.draw2 Qo f mixed [.N,.N,.a (.row (Qs x)) none false,.N,.N,.N,.a (.row (Qs v)) none false,.N,.a (.C2 (.b w)) none false,.N] [] [] [0,1,5,26] [] rfl rfl rfl ⟨⟨⟨tt_,(QJ u)⟩,(QJ p)⟩,(QwQ _ _ s)⟩ rfl (by kernel_rfl) rfl rfl rfl ?_
   refine tg_ f [1] ?_
   refine bq_ f h [.T,8,.K [4] []] rfl (fun g h=>?_) [.F,8,.K [0,1,5] []] rfl fun g h=>?_
   ·cases h
    exact Qah rfl (an_ rfl rfl)
   cases h
   exact QY rfl rfl
  refine Qa f [.F,2,.K [] []] rfl (a1_ j) ?_
  cases h
  exact QZ rfl (an_ rfl rfl)
 rcases t with(_ | _)
 ·replace h:QmV=some r:=h
  rintro e σ ⟨rfl,rfl⟩
  refine tg_ f [2] ?_
  cases h
  exact d1_ tt_
 replace h:QmW=some r:=h
 rintro e σ ⟨rfl,rfl⟩
 refine tg_ f [8] ?_
 cases h
 exact d1_ tt_
def QbA (c:(List Int))(d:(List Int))(a:Int):Option (Int⊕(Unit⊕Unit)):=
 bif (decide (a<(c.length:Int)))then
 (idx c a).bind fun e=>
 (idx d a).bind fun b=>
 bif (e != b)then
 some (.inr (.inl ()))
 else
 some (.inl (w64 (a+1)))
 else
 some (.inr (.inr ()))
def Qi8 : Option Bool:=
 some false
def Qi9 : Option Bool:=
 some true
def Qbv (a:(List Int))(b:(List Int)):Option Bool:=
 bif ((a.length:Int) != (b.length:Int))then
 some false
 else
 (Qz (fun st=>QbA a b st) 0).bind (Sum.elim (fun q=>Qi8) (fun q=>Qi9))
theorem QoQ (f j){r}(h:Qbv f j=some r):Qc prog 42 [.sl 1 (f.map Qe),.sl 1 (j.map Qe)] [] (Gives (.b r) []):=by
 refine wk_ 26 func42 fun C c=>?_
 refine Qa c [9,.o (.ln f.length),1,.o (.ln j.length),3] rfl (a2_ Qf Qf) ?_
 refine bg_ h (fun g h=>Qa c [.T,7,.K [4] []] rfl (a1_ g) ?_) fun g h=>Qa c [.F,6,.o (.ln f.length),4,.K [0,1,12,13] []] rfl (a2_ g Qf) ?_
 ·cases h
  exact d1_ tt_
 obtain⟨m,k,h⟩:=Qb h
 refine AK.loop (body:=(fun st=>QbA f j st)) (fun st σ=>σ=⟨[(0,.sl 1 (f.map Qe)),(1,.sl 1 (j.map Qe)),(12,.I (f.length:Int)),(13,.I st)],[]⟩) (Sum.elim (fun q e σ=>e=.ret/\σ=⟨[(4,.b false)],[]⟩) (fun q e σ=>e=.exit 0/\σ=⟨[],[]⟩)) k rfl ?_ ?_
 ·rintro u o σ rfl h
  refine tg_ c [6] ?_
  rcases Qm h with⟨i,h⟩|⟨i,h⟩
  ·obtain⟨t,p,h⟩:=Qb h
   obtain⟨s,l,h⟩:=Qb h
   refine Qa c [.T,11,.K [0,1,5,12,13] []] rfl (a1_ i) ?_
   refine AK.draw2 Qo c mixed [.N,.N,.a (.row (Qe t)) none false,.N,.N,.N,.a (.row (Qe s)) none false,.N,.N] [] [] [0,1,12,13,24] [] rfl rfl rfl ⟨⟨tt_,(QJ p)⟩,(QJ l)⟩ rfl (by kernel_rfl) rfl rfl rfl ?_
   refine tg_ c [1] ?_
   refine bq_ c h [.T,8,.K [4] []] rfl (fun d h=>?_) [.F,7,.K [0,1,12,13] []] rfl fun d h=>?_
   ·cases h
    exact Qah rfl (an_ rfl rfl)
   cases h
   exact QY rfl rfl
  refine Qa c [.F,2,.K [] []] rfl (a1_ i) ?_
  cases h
  exact QZ rfl (an_ rfl rfl)
 rcases m with(_ | _)
 ·replace h:Qi8=some r:=h
  rintro e σ ⟨rfl,rfl⟩
  refine tg_ c [2] ?_
  cases h
  exact d1_ tt_
 replace h:Qi9=some r:=h
 rintro e σ ⟨rfl,rfl⟩
 refine tg_ c [8] ?_
 cases h
 exact d1_ tt_
def Qja (a:(List Int))(b:(List Int)):Option Bool:=
 (Qbv a b).bind fun c=>
 some c
theorem Qt6 (f a){r}(h:Qja f a=some r):Qc prog 83 [.sl 1 (f.map Qe),.L 616] [(616,.var (Qu a))] (Gives (.b r) [(616,.var (Qu a))]):=by
 refine wk_ 7 func83 fun C g=>?_
 obtain⟨i,e,h⟩:=Qb h
 refine Qa g [9,.o (.C2 (.b i)),4] rfl (a1_ (QoQ _ _ e)) ?_
 cases h
 exact d1_ r1_
def Qar (c:QLL)(d:(List Int))(a:Int):Option (Int⊕(Int⊕Unit)):=
 bif (decide (a<(c.length:Int)))then
 (idx c a).bind fun e=>
 (Qja e d).bind fun b=>
 bif b then
 some (.inr (.inl a))
 else
 some (.inl (w64 (a+1)))
 else
 some (.inr (.inr ()))
def Qf4 (a:Int):Option Int:=
 some a
def Qf5 : Option Int:=
 some (-1)
def QcJ (a:QLL)(b:(List Int)):Option Int:=
 (Qz (fun st=>Qar a b st) 0).bind (Sum.elim (fun q=>Qf4 q) (fun q=>Qf5))
theorem QlS (i c){r}(h:QcJ i c=some r):Qc prog 64 [.sl 1 (i.map Qu),.clo (.func 83) [] [.L 616]] [(616,.var (Qu c))] (Gives (.I r) [(616,.var (Qu c))]):=by
 refine wk_ 19 func64 fun C f=>?_
 refine Qa f [9,.o (.ln i.length),4,.K [0,1,7,8] [616]] rfl (a1_ Qf) ?_
 obtain⟨l,j,h⟩:=Qb h
 refine AK.loop (body:=(fun st=>Qar i c st)) (fun st σ=>σ=⟨[(0,.sl 1 (i.map Qu)),(1,.clo (.func 83) [] [.L 616]),(7,.I (i.length:Int)),(8,.I st)],[(616,.var (Qu c))]⟩) (Sum.elim (fun q e σ=>e=.ret/\σ=⟨[(4,.I q)],[(616,.var (Qu c))]⟩) (fun q e σ=>e=.exit 0/\σ=⟨[],[(616,.var (Qu c))]⟩)) j rfl ?_ ?_
 ·rintro u o σ rfl h
  refine tg_ f [6] ?_
  rcases Qm h with⟨g,h⟩|⟨g,h⟩
  ·obtain⟨s,m,h⟩:=Qb h
   obtain⟨p,k,h⟩:=Qb h
   refine Qa f [.T,15,.o (.row (Qu s)),1,.cm (.clo) [(616,616)] [(616,616)] [] [.d,.d] [(616,.var (Qu c))] (.b p),2] rfl (a3_ g (QJ m) (Qt6 _ _ k)) ?_
   refine bq_ f h [.T,9,.K [4] [616]] rfl (fun a h=>?_) [.F,7,.K [0,1,7,8] [616]] rfl fun a h=>?_
   ·cases h
    exact Qah rfl (an_ rfl rfl)
   cases h
   exact QY rfl rfl
  refine Qa f [.F,2,.K [] [616]] rfl (a1_ g) ?_
  cases h
  exact QZ rfl (an_ rfl rfl)
 rcases l with(t | _)
 ·replace h:Qf4 t=some r:=h
  rintro e σ ⟨rfl,rfl⟩
  refine tg_ f [2] ?_
  cases h
  exact d1_ r1_
 replace h:Qf5=some r:=h
 rintro e σ ⟨rfl,rfl⟩
 refine tg_ f [8] ?_
 cases h
 exact d1_ r1_
def QcK (a:QLL)(b:(List Int)):Option Bool:=
 (QcJ a b).bind fun c=>
 some (decide (0<=c))
theorem QlT (e a){r}(h:QcK e a=some r):Qc prog 82 [.sl 1 (e.map Qu),.clo (.func 83) [] [.L 616]] [(616,.var (Qu a))] (Gives (.b r) [(616,.var (Qu a))]):=by
 refine wk_ 9 func82 fun C f=>?_
 obtain⟨g,c,h⟩:=Qb h
 refine Qa f [9,.cm (.fn) [(616,616)] [(616,616)] [] [.d,.d] [(616,.var (Qu a))] (.I g),5] rfl (a1_ (QlS _ _ c)) ?_
 cases h
 exact d1_ r1_
def Qeh (a:Int)(b:Int)(c:(List Int)):Option Bool:=
 (Qay a b).bind fun d=>
 (QcK d c).bind fun e=>
 some e
theorem Qpo (a c e){r}(h:Qeh a c e=some r):Qc prog 41 [.I a,.I c,.sl 1 (e.map Qe)] [] (Gives (.b r) []):=by
 refine wk_ 12 func41 fun C j=>?_
 obtain⟨f,g,h⟩:=Qb h
 obtain⟨k,i,h⟩:=Qb h
 refine Qa j [10,.o (.co false [.d,.d] 1 (f.map Qu) f.length),1,.frz 9 (f.map Qu) [9] [],.cm (.fn) [(616,5)] [(5,616)] [] [.d,.d] [(616,.var (Qu e))] (.b k),4] rfl (a3_ ⟨(Qhb _ _ g),Qf,.inl rfl⟩ (a1_ (QeC Qf)) (QlT _ _ i)) ?_
 cases h
 exact d1_ tt_
def QgG (a:(Int×QM))(d:Qi):Option Bool:=
 (Qeh a.2.task.Join (a.2.task.Ins.length:Int) d.Ins).bind fun b=>
 bif (!b)then
 some true
 else
 (Qeh a.2.task.Split (a.2.task.Outs.length:Int) d.Outs).bind fun c=>
 some (!c)
def QdZ (c:(Int×QM))(d:Qi)(e:Bool):Option Int:=
 bif e then
 some 11
 else
 (Q3 c.2 d.Ins).bind fun a=>
 bif (a != 0)then
 some a
 else
 (Qam c.2 d.Outs).bind fun b=>
 some b
def Qbt (b:(Int×QM))(c:Qi)(a:Int):Option Int:=
 bif (a != 0)then
 some a
 else
 (QgG b c).bind (fun d=>QdZ b c d)
def Qcc (d:Qn)(e:QMk)(b:Qi):Option Int:=
 (Qa1 d e b.Task b.Vars).bind fun a=>
 bif (a.1==0)then
 (Q5 a.2).bind fun c=>
 Qbt a b c
 else
 Qbt a b a.1
theorem QqE (x H l){r}(h:Qcc x H l=some r):Qc prog 15 [.agg (Qd x),.sl 1 (H.map Qs),.agg (Qw l)] [] (Gives (.I r) []):=by
 refine wk_ 62 func15 fun C a=>?_
 obtain⟨e,y,h⟩:=Qb h
 refine Qa a [9,.A (Qd x),5,.o (.C4 (.tup [.agg (Qx e.2),.I e.1])),5,.O 7 (.var (Qx e.2)),3] rfl (a3_ rfl (Qqu _ _ _ _ y) rfl) ?_
 refine AK.meet (fun σ=>∃f:Int,σ=⟨[lk_ 5,lk_ 7,(8,.I f)],[(5,.var (Qw l)),(7,.var (Qx e.2))]⟩/\Qbt e l f=some r) ?_ ?_
 ·refine tg_ a [6] ?_
  rcases Qm h with⟨g,h⟩|⟨g,h⟩
  ·obtain⟨z,p,h⟩:=Qb h
   refine Qa a [.T,1,.A (Qx e.2),.o (.C1 (.I z)),2,.K [5,7,8] [5,7]] rfl (a3_ g rfl (QjV _ p)) ?_
   exact AK.met (ex_ _ (an_ rfl h))
  refine Qa a [.F,1,.K [5,7,8] [5,7]] rfl (a1_ g) ?_
  exact AK.met (ex_ _ (an_ rfl h))
 rintro σ ⟨f,rfl,h⟩
 refine tg_ a [7] ?_
 refine bq_ a h [.T,8,.K [6] []] rfl (fun m h=>?_) [.F,4] rfl fun m h=>?_
 ·cases h
  exact d1_ tt_
 obtain⟨A,q,h⟩:=Qb h
 replace h:QdZ e l A=some r:=h
 refine AK.meetX (fun σ=>σ=⟨[lk_ 5,lk_ 7,(50,.b A)],[(5,.var (Qw l)),(7,.var (Qx e.2))]⟩) ?_ ?_
 ·replace h:=q
  obtain⟨B,s,h⟩:=Qb h
  refine Qa a [7,.o (.ln e.2.task.Ins.length),2,.o (.C3 (.b B)),2] rfl (a2_ Qf (Qpo _ _ _ s)) ?_
  rcases Qm h with⟨i,h⟩|⟨i,h⟩
  ·refine Qa a [.S 38 (.b true),13,.K [5,7,50] [5,7]] rfl (tc_ i) ?_
   cases h
   exact mt_
  obtain⟨D,t,h⟩:=Qb h
  refine Qa a [.S 38 (.b false),6,.o (.ln e.2.task.Outs.length),2,.o (.C3 (.b D)),3,.K [5,7,50] [5,7]] rfl ⟨⟨(tc_ i),Qf⟩,(Qpo _ _ _ t)⟩ ?_
  cases h
  exact mt_
 rintro σ rfl
 replace h:QdZ e l A=some r:=h
 refine tg_ a [1] ?_
 rcases Qm h with⟨j,h⟩|⟨j,h⟩
 ·refine Qa a [.T,7] rfl (a1_ j) ?_
  cases h
  exact d1_ tt_
 obtain⟨E,u,h⟩:=Qb h
 refine Qa a [.F,5,.A (Qx e.2),2,.o (.C2 (.I E)),9] rfl (a3_ j rfl (Qld _ _ u)) ?_
 rcases Qm h with⟨k,h⟩|⟨k,h⟩
 ·refine Qa a [.T,8] rfl (a1_ k) ?_
  cases h
  exact d1_ tt_
 obtain⟨G,w,h⟩:=Qb h
 refine Qa a [.F,4,.A (Qx e.2),2,.o (.C2 (.I G)),4] rfl (a3_ k rfl (Qk7 _ _ w)) ?_
 cases h
 exact d1_ tt_
def Qdo (e:Qn)(f:QMk)(a:Int)(d:Int)(c:(List Qi)):Option ((Int×(List Qi))⊕(List Qi)):=
 bif (decide (d<(e.Tasks.length:Int)))then
 (QbT e f d (w64 (a-(c.length:Int)))).bind fun b=>
 (chk (decide (c.length+b.length<=4294967296))).bind fun _=>
 some (.inl ((w64 (d+1)),(c++b)))
 else
 some (.inr c)
def Qtb (a:(List Qi)):Option (List Qi):=
 some a
def QfA (b:Qn)(c:QMk)(a:Int):Option (List Qi):=
 (Qz (fun st=>Qdo b c a st.1 st.2) (0,([]:List Qi))).bind (fun q=>Qtb q)
theorem Qry (β:Nat)(c:Qn)(l:QMk)(a:Int){r:(List Qi)}(h:QfA c l a=some r):Qai β prog 10 [.agg (Qd c),.sl 1 (l.map Qs),.I a] [] (Gives (.own 600 r.length) [(600,.arr 4 (r.map (QA β)))]):=by
 refine Qai.walk 27 func10 rfl ntmps10 rfl fun C g hβ=>?_
 refine Qa g [16,.o (.ln c.Tasks.length),4,.adopt 7 15 4,.O 15 (.arr 4 (([]:List Qi).map (QA β))),.S 7 (.own 15 ([]:List Qi).length),.K [1,2,3,7,11,12] [3,15]] rfl (a3_ Qf rfl (congrArg (fun n=>V.own 15 n) (by simp))) ?_
 obtain⟨m,i,h⟩:=Qb h
 refine AK.loop (body:=(fun st=>Qdo c l a st.1 st.2)) (fun st σ=>σ=⟨[(1,.sl 1 (l.map Qs)),(2,.I a),lk_ 3,(7,.own 15 st.2.length),(11,.I (c.Tasks.length:Int)),(12,.I st.1)],[(3,.var (Qd c)),(15,.arr 4 (st.2.map (QA β)))]⟩) (fun q e σ=>e=.exit 0/\σ=⟨[(7,.own 15 q.length)],[(15,.arr 4 (q.map (QA β)))]⟩) i rfl ?_ ?_
 ·rintro ⟨s,p⟩ o σ rfl h
  refine tg_ g [6] ?_
  rcases Qm h with⟨b,h⟩|⟨b,h⟩
  ·obtain⟨f,j,h⟩:=Qb h
   obtain⟨k,h⟩:=QaV h
   refine Qa g [.T,12,.A (Qd c),6,.o (.cb β false [.d,.d,.d,.d] (.sl 4 (f.map (QA β)))),.app ((p++f).map (QA β)) (p++f).length,8,.K [1,2,3,7,11,12] [3,15]] rfl (a4_ b rfl ⟨(Qpm β _ _ _ _ j),hβ⟩ ⟨Qf,Qcw k Qf,Qa2,Qdc Qf⟩) ?_
   cases h
   exact QY rfl rfl
  refine Qa g [.F,2,.K [7] [15]] rfl (a1_ b) ?_
  cases h
  exact QZ rfl (an_ rfl rfl)
 replace h:Qtb m=some r:=h
 rintro e σ ⟨rfl,rfl⟩
 refine tg_ g [9,.K [6] [15],.ren 15 600,.K [6] [600]] ?_
 cases h
 exact AK.done (ex_ [_] (an_ (an_ rfl tt_) (gives r1_)))
theorem Qtc (b c a){r}(h:QfA b c a=some r):Qc prog 10 [.agg (Qd b),.sl 1 (c.map Qs),.I a] [] (Gives (.own 600 r.length) [(600,.arr 4 (r.map Qw))]):=(Qry 0 b c a h).loO (by rw [QCK (g:=Qw) fun _=>rfl])
def QvK (a:(List Qi)):Option Bool:=
 bif ((a.length:Int) != 2)then
 some true
 else
 (idx a 0).bind fun c=>
 bif ((c.Vars.length:Int) != 1)then
 some true
 else
 (idx a 1).bind fun b=>
 some ((b.Vars.length:Int) != 1)
def QvL (l:(List Qi))(a:(QMk×Int))(b:Qn):Option Bool:=
 (idx l 0).bind fun c=>
 (idx c.Vars 0).bind fun d=>
 bif (d==0)then
 (idx l 1).bind fun e=>
 (idx e.Vars 0).bind fun f=>
 bif (f==2)then
 bif (a.2==0)then
 (Qpn a.1 ([([(2,1)]:List (Int×Int)),([]:QBg)]:List QBg)).bind fun g=>
 bif g then
 (Qcc b ([([(0,1),(2,3),(3,1)]:List (Int×Int)),([]:QBg)]:List QBg) (Qi.mk 0 ([3]:List Int) ([0]:List Int) ([0]:List Int))).bind fun h=>
 bif (h==8)then
 (Qcc b ([([(0,1),(2,3),(3,1)]:List (Int×Int)),([]:QBg)]:List QBg) (Qi.mk 0 ([1]:List Int) ([0]:List Int) ([0]:List Int))).bind fun i=>
 bif (i==10)then
 (Qay 3 3).bind fun j=>
 bif ((j.length:Int)==7)then
 (QfA b ([([(0,1),(2,3),(3,1)]:List (Int×Int)),([]:QBg)]:List QBg) 1).bind fun k=>
 some ((k.length:Int)==1)
 else
 some false
 else
 some false
 else
 some false
 else
 some false
 else
 some false
 else
 some false
 else
 some false
def QlU (a:Bool):Option Bool:=
 some a
def QlV (d:(List Qi))(e:Qn)(f:Bool):Option Bool:=
 bif f then
 some false
 else
 (idx d 1).bind fun a=>
 (Qj1 e a).bind fun b=>
 (QvL d b e).bind (fun c=>QlU c)
def QnX  : Option Bool:=
 (Qvv).bind fun a=>
 (QbT a ([([(0,1),(2,3),(3,1)]:List (Int×Int)),([]:QBg)]:List QBg) 0 100).bind fun b=>
 (QvK b).bind (fun c=>QlV b a c)
theorem QvM  {r:Bool}(h:QnX  = some r):Qc prog 7 [] [] (Gives (.b r) []):=by
 refine wk_ 105 func7 fun C e=>?_
 obtain⟨q,a0,h⟩:=Qb h
 obtain⟨w,a1,h⟩:=Qb h
 refine Qa e [7,.o (.c false [] (.agg (Qd q))),2,.O 1 (.var (Qd q)),4,.A (Qp (0,1)),.A (Qp (2,3)),.A (Qp (3,1)),.v (.bd []) [] (.sl 2 (([(0,1),(2,3),(3,1)]:List (Int×Int)).map Qp)),.v (.bd [none,some 2]) [] (.sl 1 (([([(0,1),(2,3),(3,1)]:List (Int×Int)),([]:QBg)]:List QBg).map Qs)),5,.A (Qd q),1,.o (.C4 (.sl 4 (w.map Qw))),5] rfl (a9_ (QxH  a0) rfl rfl rfl rfl rfl rfl rfl (QqA _ _ _ _ a1)) ?_
 obtain⟨x5,a2,h⟩:=Qb h
 replace h:QlV w q x5=some r:=h
 refine AK.meetX (fun σ=>σ=⟨[lk_ 1,(2,.sl 1 (([([(0,1),(2,3),(3,1)]:List (Int×Int)),([]:QBg)]:List QBg).map Qs)),(3,.sl 4 (w.map Qw)),(35,.b x5)],[(1,.var (Qd q))]⟩) ?_ ?_
 ·replace h:=a2
  refine Qa e [2,.o (.ln w.length),2] rfl (a1_ Qf) ?_
  rcases Qm h with⟨s,h⟩|⟨s,h⟩
  ·refine Qa e [.S 20 (.b true),16,.K [1,2,3,35] [1]] rfl (tc_ s) ?_
   cases h
   exact mt_
  obtain⟨e8,a3,h⟩:=Qb h
  refine Qa e [.S 20 (.b false),1,.o (.row (Qw e8)),2,.o (.ln e8.Vars.length),3] rfl ⟨⟨(tc_ s),(QJ a3)⟩,Qf⟩ ?_
  rcases Qm h with⟨t,h⟩|⟨t,h⟩
  ·refine Qa e [.S 28 (.b true),8,.K [1,2,3,35] [1]] rfl (tc_ t) ?_
   cases h
   exact mt_
  obtain⟨x,y,h⟩:=Qb h
  refine Qa e [.S 28 (.b false),1,.o (.row (Qw x)),2,.o (.ln x.Vars.length),3,.K [1,2,3,35] [1]] rfl ⟨⟨(tc_ t),(QJ y)⟩,Qf⟩ ?_
  cases h
  exact mt_
 rintro σ rfl
 replace h:QlV w q x5=some r:=h
 refine tg_ e [1] ?_
 rcases Qm h with⟨f,h⟩|⟨f,h⟩
 ·refine Qa e [.T,7] rfl (a1_ f) ?_
  cases h
  exact d1_ tt_
 obtain⟨z,A,h⟩:=Qb h
 obtain⟨B,D,h⟩:=Qb h
 refine Qa e [.F,3,.K [1,2,3] [1]] rfl (a1_ f) ?_
 refine AK.draw2 Qo e mixed [.a .no (some ([],.agg (Qd q))) false,.N,.a (.row (Qw z)) none false,.a .no (some ([],.agg (Qw z))) false,.a (.C2 (.tup [.sl 1 (B.1.map Qs),.I B.2])) none false,.N,.N,.N,.N,.N] [] [] [1,2,3,4,5] [1] rfl rfl rfl ⟨⟨⟨⟨tt_,rfl⟩,(QJ A)⟩,rfl⟩,(QwP _ _ D)⟩ rfl (by kernel_rfl) rfl rfl rfl ?_
 refine Qa e [3,.v (.bd []) [] (.sl 1 (([3]:List Int).map Qe)),.v (.bd []) [] (.sl 1 (([0]:List Int).map Qe)),.v (.bd []) [] (.sl 1 (([0]:List Int).map Qe)),.A (Qw (Qi.mk 0 ([3]:List Int) ([0]:List Int) ([0]:List Int))),2,.O 6 (.var (Qw (Qi.mk 0 ([3]:List Int) ([0]:List Int) ([0]:List Int)))),4,.v (.bd []) [] (.sl 1 (([1]:List Int).map Qe)),.v (.bd []) [] (.sl 1 (([0]:List Int).map Qe)),.v (.bd []) [] (.sl 1 (([0]:List Int).map Qe)),.A (Qw (Qi.mk 0 ([1]:List Int) ([0]:List Int) ([0]:List Int))),2,.O 7 (.var (Qw (Qi.mk 0 ([1]:List Int) ([0]:List Int) ([0]:List Int)))),3] rfl (aA_ rfl rfl rfl rfl rfl rfl rfl rfl rfl rfl) ?_
 obtain⟨u,E,h⟩:=Qb h
 replace h:QlU u=some r:=h
 refine AK.meetX (fun σ=>σ=⟨[(0,.b u)],[]⟩) ?_ ?_
 ·replace h:=E
  obtain⟨a4,G,h⟩:=Qb h
  obtain⟨a5,H,h⟩:=Qb h
  refine Qa e [2,.o (.row (Qw a4)),2,.o (.row (Qe a5)),3] rfl (a2_ (QJ G) (QJ H)) ?_
  rcases Qm h with⟨g,h⟩|⟨g,h⟩
  ·obtain⟨a6,J,h⟩:=Qb h
   obtain⟨a7,L,h⟩:=Qb h
   refine Qa e [.S 59 (.b true),1,.o (.row (Qw a6)),2,.o (.row (Qe a7)),4] rfl ⟨⟨(tc_ g),(QJ J)⟩,(QJ L)⟩ ?_
   refine bg_ h (fun i h=>Qa e [.S 68 (.b true),4] rfl (tc_ i) ?_) fun i h=>Qa e [.S 68 (.b false),38,.K [0] []] rfl (tc_ i) ?_
   ·rcases Qm h with⟨j,h⟩|⟨j,h⟩
    ·obtain⟨a8,M,h⟩:=Qb h
     refine Qa e [.S 72 (.b true),1,.A (Qp (2,1)),.v (.bd []) [] (.sl 2 (([(2,1)]:List (Int×Int)).map Qp)),.v (.bd [none,some 2]) [] (.sl 1 (([([(2,1)]:List (Int×Int)),([]:QBg)]:List QBg).map Qs)),.o (.C2 (.b a8)),2] rfl ⟨⟨⟨⟨(tc_ j),rfl⟩,rfl⟩,rfl⟩,(Qtj _ _ M)⟩ ?_
     rcases Qm h with⟨k,h⟩|⟨k,h⟩
     ·obtain⟨a9,P,h⟩:=Qb h
      refine Qa e [.S 79 (.b true),.A (Qd q),1,.A (Qw (Qi.mk 0 ([3]:List Int) ([0]:List Int) ([0]:List Int))),.o (.C3 (.I a9)),3] rfl ⟨⟨⟨(tc_ k),rfl⟩,rfl⟩,(QqE _ _ _ P)⟩ ?_
      rcases Qm h with⟨l,h⟩|⟨l,h⟩
      ·obtain⟨b0,U,h⟩:=Qb h
       refine Qa e [.S 86 (.b true),.A (Qd q),1,.A (Qw (Qi.mk 0 ([1]:List Int) ([0]:List Int) ([0]:List Int))),.o (.C3 (.I b0)),3] rfl ⟨⟨⟨(tc_ l),rfl⟩,rfl⟩,(QqE _ _ _ U)⟩ ?_
       rcases Qm h with⟨m,h⟩|⟨m,h⟩
       ·obtain⟨W,X,h⟩:=Qb h
        refine Qa e [.S 93 (.b true),.o (.co false [.d,.d] 1 (W.map Qu) W.length),4] rfl ⟨(tc_ m),⟨(Qhb _ _ X),Qf,.inl rfl⟩⟩ ?_
        rcases Qm h with⟨p,h⟩|⟨p,h⟩
        ·obtain⟨Y,Z,h⟩:=Qb h
         refine Qa e [.S 98 (.b true),.A (Qd q),1,.o (.co false [.d,.d,.d] 4 (Y.map Qw) Y.length),5,.K [0] []] rfl ⟨⟨(tc_ p),rfl⟩,⟨(Qtc _ _ _ Z),Qf,.inl rfl⟩⟩ ?_
         cases h
         exact mt_
        refine Qa e [.S 98 (.b false),8,.K [0] []] rfl (tc_ p) ?_
        cases h
        exact mt_
       refine Qa e [.S 93 (.b false),13,.K [0] []] rfl (tc_ m) ?_
       cases h
       exact mt_
      refine Qa e [.S 86 (.b false),20,.K [0] []] rfl (tc_ l) ?_
      cases h
      exact mt_
     refine Qa e [.S 79 (.b false),27,.K [0] []] rfl (tc_ k) ?_
     cases h
     exact mt_
    refine Qa e [.S 72 (.b false),34,.K [0] []] rfl (tc_ j) ?_
    cases h
    exact mt_
   cases h
   exact mt_
  refine Qa e [.S 59 (.b false),47,.K [0] []] rfl (tc_ g) ?_
  cases h
  exact mt_
 rintro σ rfl
 replace h:QlU u=some r:=h
 refine tg_ e [2] ?_
 cases h
 exact d1_ tt_
def Qkp (f:Qh)(rec_law04_few:Qh->Int->Option Int)(a:Int)(c:Int)(d:Int):Option ((Int×Int)⊕(Unit⊕Int)):=
 bif (decide (d<(f.Kids.length:Int)))then
 (idx f.Kids d).bind fun e=>
 (rec_law04_few e (w64 (a-1))).bind fun b=>
 bif (b==0)then
 some (.inr (.inl ()))
 else
 bif (decide ((w64 ((w64 (c-500))+b))<=1))then
 some (.inr (.inl ()))
 else
 some (.inl ((w64 ((w64 (c-500))+b)),(w64 (d+1))))
 else
 some (.inr (.inr c))
def Qrz : Option Int:=
 some 0
def QrA (a:Int):Option Int:=
 some (w64 (a-1))
def QnY (rec_law04_few:Qh->Int->Option Int)(b:Qh)(a:Int):Option Int:=
 bif ((decide (a<=0))||(decide (9<(b.Kids.length:Int))))then
 some 0
 else
 (Qz (fun st=>Qkp b rec_law04_few a st.1 st.2) (500,0)).bind (Sum.elim (fun q=>Qrz) (fun q=>QrA q))
def Qfi : Nat->Qh->Int->Option Int
 | 0,_,_=>none
 | n+1,b,a=>QnY (Qfi n) b a
def Qri (b:Qh)(a:Int):Option Int:=Qfi (SizeOf.sizeOf b) b a
theorem QvN (rec_law04_few:Qh->Int->Option Int)(hrec_law04_few:∀(g:Qh) (a:Int) {r:Int},rec_law04_few g a=some r->Qc prog 87 [.agg (Qk g),.I a] [] (Gives (.I r) []))(g:Qh)(a:Int){r:Int}(h:QnY rec_law04_few g a=some r):Qc prog 87 [.agg (Qk g),.I a] [] (Gives (.I r) []):=by
 refine wk_ 41 func87 fun C f=>?_
 refine tg_ f [8] ?_
 refine AK.meetX (fun σ=>σ=⟨[(1,.I a),lk_ 2,(15,.b ((decide (a<=0))||(decide (9<(g.Kids.length:Int)))))],[(2,.var (Qk g))]⟩) ?_ ?_
 ·refine tg_ f [4] ?_
  rcases QE (decide (a<=0))with i | i
  ·refine Qa f [.S 10 (.b true),6,.S 15 (.b ((decide (a<=0))||(decide (9<(g.Kids.length:Int))))),.K [1,2,15] [2]] rfl ⟨(tc_ i),(congrArg V.b (orT i rfl))⟩ ?_
   exact mt_
  refine Qa f [.S 10 (.b false),2,.o (.ln g.Kids.length),3,.S 15 (.b ((decide (a<=0))||(decide (9<(g.Kids.length:Int))))),.K [1,2,15] [2]] rfl ⟨⟨(tc_ i),Qfy _⟩,(congrArg V.b (orF i rfl))⟩ ?_
  exact mt_
 rintro σ rfl
 refine tg_ f [1] ?_
 refine bq_ f h [.T,7,.K [4] []] rfl (fun m h=>?_) [.F,14,.K [1,2,5,6] [2]] rfl fun m h=>?_
 ·cases h
  exact d1_ tt_
 obtain⟨w,p,h⟩:=Qb h
 refine AK.loop (body:=(fun st=>Qkp g rec_law04_few a st.1 st.2)) (fun st σ=>σ=⟨[(1,.I a),lk_ 2,(5,.I st.1),(6,.I st.2)],[(2,.var (Qk g))]⟩) (Sum.elim (fun q e σ=>e=.ret/\σ=⟨[(4,.I 0)],[]⟩) (fun q e σ=>e=.exit 0/\σ=⟨[(5,.I q)],[]⟩)) p rfl ?_ ?_
 ·rintro ⟨z,A⟩ o σ rfl h
  refine Qa f [6,.o (.ln g.Kids.length),3] rfl (a1_ (Qfy _)) ?_
  rcases Qm h with⟨j,h⟩|⟨j,h⟩
  ·obtain⟨s,t,h⟩:=Qb h
   obtain⟨x,u,h⟩:=Qb h
   refine Qa f [.T,9,.o (.row (Qk s)),.A (Qk s),2,.o (.C2 (.I x)),10] rfl (a4_ j (Qbq t) rfl (hrec_law04_few _ _ u)) ?_
   refine bq_ f h [.T,9,.K [4] []] rfl (fun k h=>?_) [.F,17] rfl fun k h=>?_
   ·cases h
    exact Qah rfl (an_ rfl rfl)
   refine bq_ f h [.T,8,.K [4] []] rfl (fun l h=>?_) [.F,8,.K [1,2,5,6] [2]] rfl fun l h=>?_
   ·cases h
    exact Qah rfl (an_ rfl rfl)
   cases h
   exact QY rfl rfl
  refine Qa f [.F,2,.K [5] []] rfl (a1_ j) ?_
  cases h
  exact QZ rfl (an_ rfl rfl)
 rcases w with(_ | y)
 ·replace h:Qrz=some r:=h
  rintro e σ ⟨rfl,rfl⟩
  refine tg_ f [2] ?_
  cases h
  exact d1_ tt_
 replace h:QrA y=some r:=h
 rintro e σ ⟨rfl,rfl⟩
 refine tg_ f [10] ?_
 cases h
 exact d1_ tt_
theorem Qpp : ∀(fuel:Nat) (b:Qh) (a:Int) {r:Int},Qfi fuel b a=some r->Qc prog 87 [.agg (Qk b),.I a] [] (Gives (.I r) [])
 | 0,_,_,_,h=>by cases h
 | n+1,b,a,_,h=>QvN (Qfi n) (fun _ _ _ h=>Qpp n _ _ h) b a h
theorem QxK (b a){r}(h:Qri b a=some r):Qc prog 87 [.agg (Qk b),.I a] [] (Gives (.I r) []):=Qpp _ b a h
def QiJ (a:Qh):Option Bool:=
 (Qri a 60).bind fun b=>
 some (decide (0<b))
theorem Qm6 (a){r}(h:QiJ a=some r):Qc prog 46 [.agg (Qk a)] [] (Gives (.b r) []):=by
 refine wk_ 6 func46 fun C f=>?_
 obtain⟨g,e,h⟩:=Qb h
 refine Qa f [8,.A (Qk a),.o (.C2 (.I g)),5] rfl (a2_ rfl (QxK _ _ e)) ?_
 cases h
 exact d1_ tt_

end Go.Proofs
