/- Walks through the program. -/
import Derived.Test.YtomnpnjhfpdcmaaGreatDoorT4V3
import Derived.Test.YtomnpnjhfpdcmaaGreatDoorT4V3
import Derived.Test.YtomnpnjhfpdcmaaGreatDoorProg
set_option linter.all false
set_option maxRecDepth 100000
set_option maxHeartbeats 4000000
noncomputable section
namespace Go.Proofs
open Go Go.RowKit Go.Vm Go.Proofs.Tryz
structure QD where
 Name:ByteArray
 Kind:Int
 Lo:Int
 Hi:Int
 Names:(List ByteArray)
 First:Int
 Then:Int
structure Xb where
 Name:ByteArray
 Colour:Int
 First:(List (Int×Int))
structure YS where
 Name:ByteArray
 Colour:Int
structure Qp where
 Kind:Int
 Num:Int
 Kids:(List Qp)
structure Yg where
 Place:Int
 Expr:Qp
structure QI where
 Name:ByteArray
 Vars:(List YS)
 Guard:Qp
 Join:Int
 Split:Int
 Ins:(List Yg)
 Outs:(List Yg)
 Cancel:(List Int)
 After:Int
 Many:(Int×Int×Int)
structure Qk where
 Colours:(List QD)
 Places:(List Xb)
 Tasks:(List QI)
 From:Int
 To:Int
structure Qg where
 Task:Int
 Vars:(List Int)
 Ins:(List Int)
 Outs:(List Int)
structure QY where
 From:Int
 To:Int
 Mode:Qg
structure XV where
 States:(List (List (List (Int×Int))))
 Edges:(List QY)
 Full:Bool
structure Xf where
 net:Qk
 m:(List (List (Int×Int)))
 task:QI
 env:(List Int)
structure Ys where
 all:(List QD)
 sizes:(List Int)
 k:Int
structure EG where
 Kind:Int
 At:Int
def Ky (x:ByteArray):L_ V:=[.s x]
def Qb (x:Int):L_ V:=[.i .i64 x]
def Qpc (l:L_ Int):∀r∈l.map Qb,∀v∈r,v.sca=true:=Qrj (λ_=>rfl) l
def Qpd (x:(L_ ByteArray)):L_ V:=[.sl 1 (x.map Ky)]
def Qr (x:QD):L_ V:=[.s x.Name,.i .i64 x.Kind,.i .i64 x.Lo,.i .i64 x.Hi,.sl 1 (x.Names.map Ky),.i .i64 x.First,.i .i64 x.Then]
def QdK (x:(L_ QD)):L_ V:=[.sl 7 (x.map Qr)]
def Qm (x:(Int×Int)):L_ V:=[.i .i64 x.1,.i .i64 x.2]
def Qe (x:(L_ (Int×Int))):L_ V:=[.sl 2 (x.map Qm)]
def Qw (x:Xb):L_ V:=[.s x.Name,.i .i64 x.Colour,.sl 2 (x.First.map Qm)]
def Qf9 (x:(L_ Xb)):L_ V:=[.sl 3 (x.map Qw)]
def Xg (x:YS):L_ V:=[.s x.Name,.i .i64 x.Colour]
def KC (x:(L_ YS)):L_ V:=[.sl 2 (x.map Xg)]
mutual
def Qch : Qp->L_ V
 | ⟨h,D,x2⟩=>[.i .i64 h,.i .i64 D,.sl 3 (Jp x2)]
def Jp : L_ Qp->L_ (L_ V)
 | []=>[]
 | e::es=>Qch e::Jp es
end
def Qn (x:Qp):L_ V:=[.i .i64 x.Kind,.i .i64 x.Num,.sl 3 (Jp x.Kids)]
def Qls : ∀x:Qp,Qch x=Qn x
 | ⟨h,D,x2⟩=>by rw[Qch];rfl
def LD : ∀l:L_ Qp,Jp l=l.map Qn
 | []=>by rw[Jp];rfl
 | e::es=>by rw[Jp,LD es,Qls];rfl
def Us (l:L_ Qp):(Jp l).length=l.length:=by rw[LD,Lv]
def Jq {l:L_ Qp}{j:Int}{x:Qp}(h:idx l j=some x):0<=j/\(Jp l)[j.toNat]? = some (Qn x):=by rw[LD];exact QF h
def Xm (x:Yg):L_ V:=[.i .i64 x.Place,.i .i64 x.Expr.Kind,.i .i64 x.Expr.Num,.sl 3 (Jp x.Expr.Kids)]
def Qpe (x:(L_ Yg)):L_ V:=[.sl 4 (x.map Xm)]
def QC (x:(L_ Int)):L_ V:=[.sl 1 (x.map Qb)]
def Qj0 (x:(Int×Int×Int)):L_ V:=[.i .i64 x.1,.i .i64 x.2.1,.i .i64 x.2.2]
def Qh (x:QI):L_ V:=[.s x.Name,.sl 2 (x.Vars.map Xg),.i .i64 x.Guard.Kind,.i .i64 x.Guard.Num,.sl 3 (Jp x.Guard.Kids),.i .i64 x.Join,.i .i64 x.Split,.sl 4 (x.Ins.map Xm),.sl 4 (x.Outs.map Xm),.sl 1 (x.Cancel.map Qb),.i .i64 x.After,.i .i64 x.Many.1,.i .i64 x.Many.2.1,.i .i64 x.Many.2.2]
def Qod (x:(L_ QI)):L_ V:=[.sl 14 (x.map Qh)]
def Qa (x:Qk):L_ V:=[.sl 7 (x.Colours.map Qr),.sl 3 (x.Places.map Qw),.sl 14 (x.Tasks.map Qh),.i .i64 x.From,.i .i64 x.To]
def Qo (x:(L_ (L_ (Int×Int)))):L_ V:=[.sl 1 (x.map Qe)]
def Qf (x:Qg):L_ V:=[.i .i64 x.Task,.sl 1 (x.Vars.map Qb),.sl 1 (x.Ins.map Qb),.sl 1 (x.Outs.map Qb)]
def QS (x:QY):L_ V:=[.i .i64 x.From,.i .i64 x.To,.i .i64 x.Mode.Task,.sl 1 (x.Mode.Vars.map Qb),.sl 1 (x.Mode.Ins.map Qb),.sl 1 (x.Mode.Outs.map Qb)]
def QO (x:XV):L_ V:=[.sl 1 (x.States.map Qo),.sl 6 (x.Edges.map QS),.b x.Full]
def YX (x:Int):L_ V:=[.i .u8 x]
def Xs (x:(L_ (L_ Int))):L_ V:=[.sl 1 (x.map QC)]
def QL (x:Xf):L_ V:=[.sl 7 (x.net.Colours.map Qr),.sl 3 (x.net.Places.map Qw),.sl 14 (x.net.Tasks.map Qh),.i .i64 x.net.From,.i .i64 x.net.To,.sl 1 (x.m.map Qe),.s x.task.Name,.sl 2 (x.task.Vars.map Xg),.i .i64 x.task.Guard.Kind,.i .i64 x.task.Guard.Num,.sl 3 (Jp x.task.Guard.Kids),.i .i64 x.task.Join,.i .i64 x.task.Split,.sl 4 (x.task.Ins.map Xm),.sl 4 (x.task.Outs.map Xm),.sl 1 (x.task.Cancel.map Qb),.i .i64 x.task.After,.i .i64 x.task.Many.1,.i .i64 x.task.Many.2.1,.i .i64 x.task.Many.2.2,.sl 1 (x.env.map Qb)]
def XG (x:Ys):L_ V:=[.sl 7 (x.all.map Qr),.sl 1 (x.sizes.map Qb),.i .i64 x.k]
def Qoe (x:(L_ Qg)):L_ V:=[.sl 4 (x.map Qf)]
def Dy (x:EG):L_ V:=[.i .i64 x.Kind,.i .i64 x.At]
def Yq (fn:Nat):Cg:=QrT Tryz.f161 0 fn
def UX (fn:Nat):Cg:=QrT Tryz.f209 0 fn
def Qqs : Go.Shelf.Ren:=⟨λ| 20=>30 | n=>n,λ| 0=>0 | 3=>3 | 4=>4 | 22=>46 | n=>n,λn=>n⟩
def Qpf : Lays2.n20 prog Qqs where
 mixed:=by kernel_rfl
 f20:=func30.trans (congrArg some (by kernel_rfl))
 t0:=underlying0
 a0:=isAgg0
 z0:=sizeOf0
 v0:=zeroValue0
 t3:=underlying3
 a3:=isAgg3
 z3:=sizeOf3
 v3:=zeroValue3
 t4:=underlying4
 a4:=isAgg4
 z4:=sizeOf4
 v4:=zeroValue4
 t22:=underlying46
 a22:=isAgg46
 z22:=sizeOf46
 v22:=zeroValue46
 i3:=by kernel_rfl
def Qq6 (a0 h D b1:Int):EqT prog 40 [.int .i64 a0,.int .i64 h] [.int .i64 D,.int .i64 b1] ((a0==D)&&(h==b1)):=by
 refine⟨by kernel_rfl,λw=>?_⟩
 have u3:=underlying3
 have g3:=isAgg3
 have z3:=sizeOf3
 show(Op.equalIn (9999+1) 40 (.agg #[.int .i64 a0,.int .i64 h]) (.agg #[.int .i64 D,.int .i64 b1])).run prog w=_
 rw[Op.equalIn]
 simp only[Xh,run_underlying underlying40,Xq]
 simp only[Std.Legacy.Range.forIn_eq_forIn_range',Std.Legacy.Range.size,Nat.sub_zero,Nat.add_sub_cancel,Nat.div_one,List.range'_succ,List.range'_zero,List.forIn_cons,List.forIn_nil]
 go_simp
 by_cases h0:a0=D<;>by_cases h1:h=b1<;>simp[h0,h1]
def Qsy (a0 h D b0 b1 b2:Int):EqT prog 71 [.int .i64 a0,.int .i64 h,.int .i64 D] [.int .i64 b0,.int .i64 b1,.int .i64 b2] ((a0==b0)&&((h==b1)&&(D==b2))):=by
 refine⟨by kernel_rfl,λw=>?_⟩
 have u3:=underlying3
 have g3:=isAgg3
 have z3:=sizeOf3
 show(Op.equalIn (9999+1) 71 (.agg #[.int .i64 a0,.int .i64 h,.int .i64 D]) (.agg #[.int .i64 b0,.int .i64 b1,.int .i64 b2])).run prog w=_
 rw[Op.equalIn]
 simp only[Xh,run_underlying underlying71,Xq]
 simp only[Std.Legacy.Range.forIn_eq_forIn_range',Std.Legacy.Range.size,Nat.sub_zero,Nat.add_sub_cancel,Nat.div_one,List.range'_succ,List.range'_zero,List.forIn_cons,List.forIn_nil]
 go_simp
 by_cases h0:a0=b0<;>by_cases h1:h=b1<;>by_cases h2:D=b2<;>simp[h0,h1,h2]
def Qrm : QdJ prog 64 1=some (1,false,1):=by kernel_rfl
def Qrn : QdJ prog 64 2=some (2,false,1):=by kernel_rfl
def Qqt : Go.Shelf.Ren:=⟨λ| 157=>260 | 199=>276 | 229=>275 | 261=>278 | 311=>284 | 312=>285 | n=>n,λ| 0=>0 | 3=>3 | 4=>4 | 5=>5 | 9=>9 | 21=>21 | 31=>62 | 40=>269 | 46=>108 | 49=>281 | 51=>135 | 119=>267 | 141=>276 | 152=>272 | 154=>274 | 193=>277 | 194=>278 | 196=>280 | 198=>283 | 201=>286 | 226=>289 | 227=>290 | n=>n,λ| 0=>0 | 6=>1 | n=>n⟩
def Qpg : Lays.n157 prog Qqt where
 mixed:=by kernel_rfl
 f157:=func260.trans (congrArg some (by kernel_rfl))
 f199:=func276.trans (congrArg some (by kernel_rfl))
 f229:=func275.trans (congrArg some (by kernel_rfl))
 f261:=func278.trans (congrArg some (by kernel_rfl))
 f311:=func284.trans (congrArg some (by kernel_rfl))
 f312:=func285.trans (congrArg some (by kernel_rfl))
 t0:=underlying0
 a0:=isAgg0
 z0:=sizeOf0
 v0:=zeroValue0
 t3:=underlying3
 a3:=isAgg3
 z3:=sizeOf3
 v3:=zeroValue3
 t4:=underlying4
 a4:=isAgg4
 z4:=sizeOf4
 v4:=zeroValue4
 t5:=underlying5
 a5:=isAgg5
 z5:=sizeOf5
 v5:=zeroValue5
 t9:=underlying9
 a9:=isAgg9
 z9:=sizeOf9
 v9:=zeroValue9
 t21:=underlying21
 a21:=isAgg21
 z21:=sizeOf21
 v21:=zeroValue21
 t31:=underlying62
 a31:=isAgg62
 z31:=sizeOf62
 v31:=zeroValue62
 t40:=underlying269
 a40:=isAgg269
 z40:=sizeOf269
 v40:=zeroValue269
 t46:=underlying108
 a46:=isAgg108
 z46:=sizeOf108
 v46:=zeroValue108
 t49:=underlying281
 a49:=isAgg281
 z49:=sizeOf281
 v49:=zeroValue281
 t51:=underlying135
 a51:=isAgg135
 z51:=sizeOf135
 v51:=zeroValue135
 t119:=underlying267
 a119:=isAgg267
 z119:=sizeOf267
 t141:=underlying276
 a141:=isAgg276
 z141:=sizeOf276
 v141:=zeroValue276
 t152:=underlying272
 a152:=isAgg272
 z152:=sizeOf272
 v152:=zeroValue272
 t154:=underlying274
 a154:=isAgg274
 z154:=sizeOf274
 v154:=zeroValue274
 t193:=underlying277
 a193:=isAgg277
 z193:=sizeOf277
 v193:=zeroValue277
 t194:=underlying278
 a194:=isAgg278
 z194:=sizeOf278
 v194:=zeroValue278
 t196:=underlying280
 a196:=isAgg280
 z196:=sizeOf280
 v196:=zeroValue280
 t198:=underlying283
 a198:=isAgg283
 z198:=sizeOf283
 v198:=zeroValue283
 t201:=underlying286
 a201:=isAgg286
 z201:=sizeOf286
 v201:=zeroValue286
 t226:=underlying289
 a226:=isAgg289
 z226:=sizeOf289
 v226:=zeroValue289
 t227:=underlying290
 a227:=isAgg290
 z227:=sizeOf290
 v227:=zeroValue290
 g0:=by kernel_rfl
 g6:=by kernel_rfl
def QdL : QdI prog 137 .u64=true:=by kernel_rfl
def Qgn : QdI prog 3 .i64=true:=by kernel_rfl
def Qof : QdI prog 5 .u8=true:=by kernel_rfl
def DM : Up prog 3 (V.i .i64) (Value.int .i64):=Up.int (by kernel_rfl)
def Qci : Up prog 9 V.s Value.string:=Up.str (by kernel_rfl)
def mixed : prog.follows .mixedOrders=true:=by kernel_rfl
def Qmr : NR prog 104=some (3,46):=by kernel_rfl
def Es : NR prog 116=some (3,3):=by kernel_rfl
def Vu : NR prog 248=some (9,4):=by kernel_rfl
def Pd : NR prog 74=some (3,3):=by kernel_rfl
def Qq7 : NR prog 95=some (9,3):=by kernel_rfl
def Qsz : Ql4 prog 46=true:=by kernel_rfl
def Qqu : Go.Shelf.Ren:=⟨λ| 125=>50 | 128=>83 | 129=>84 | 189=>29 | 215=>120 | 216=>80 | 257=>49 | 294=>74 | 295=>75 | 296=>76 | 297=>77 | 298=>78 | 299=>79 | 300=>81 | 301=>82 | 328=>115 | 329=>116 | 330=>117 | 331=>118 | 332=>119 | 343=>180 | n=>n,λ| 0=>0 | 3=>3 | 4=>4 | 5=>5 | 9=>9 | 28=>46 | 46=>108 | 51=>135 | 53=>137 | 131=>76 | 182=>127 | 183=>128 | 218=>167 | 222=>171 | 228=>210 | 229=>211 | n=>n,λn=>n⟩
def Qph : Lays.n189 prog Qqu where
 mixed:=by kernel_rfl
 f125:=func50.trans (congrArg some (by kernel_rfl))
 f128:=func83.trans (congrArg some (by kernel_rfl))
 f129:=func84.trans (congrArg some (by kernel_rfl))
 f189:=func29.trans (congrArg some (by kernel_rfl))
 f215:=func120.trans (congrArg some (by kernel_rfl))
 f216:=func80.trans (congrArg some (by kernel_rfl))
 f257:=func49.trans (congrArg some (by kernel_rfl))
 f294:=func74.trans (congrArg some (by kernel_rfl))
 f295:=func75.trans (congrArg some (by kernel_rfl))
 f296:=func76.trans (congrArg some (by kernel_rfl))
 f297:=func77.trans (congrArg some (by kernel_rfl))
 f298:=func78.trans (congrArg some (by kernel_rfl))
 f299:=func79.trans (congrArg some (by kernel_rfl))
 f300:=func81.trans (congrArg some (by kernel_rfl))
 f301:=func82.trans (congrArg some (by kernel_rfl))
 f328:=func115.trans (congrArg some (by kernel_rfl))
 f329:=func116.trans (congrArg some (by kernel_rfl))
 f330:=func117.trans (congrArg some (by kernel_rfl))
 f331:=func118.trans (congrArg some (by kernel_rfl))
 f332:=func119.trans (congrArg some (by kernel_rfl))
 f343:=func180.trans (congrArg some (by kernel_rfl))
 t0:=underlying0
 a0:=isAgg0
 z0:=sizeOf0
 v0:=zeroValue0
 t3:=underlying3
 a3:=isAgg3
 z3:=sizeOf3
 v3:=zeroValue3
 t4:=underlying4
 a4:=isAgg4
 z4:=sizeOf4
 v4:=zeroValue4
 t5:=underlying5
 a5:=isAgg5
 z5:=sizeOf5
 v5:=zeroValue5
 t9:=underlying9
 a9:=isAgg9
 z9:=sizeOf9
 v9:=zeroValue9
 t28:=underlying46
 a28:=isAgg46
 z28:=sizeOf46
 v28:=zeroValue46
 t46:=underlying108
 a46:=isAgg108
 z46:=sizeOf108
 v46:=zeroValue108
 t51:=underlying135
 a51:=isAgg135
 z51:=sizeOf135
 v51:=zeroValue135
 t53:=underlying137
 a53:=isAgg137
 z53:=sizeOf137
 v53:=zeroValue137
 t131:=underlying76
 a131:=isAgg76
 z131:=sizeOf76
 v131:=zeroValue76
 t182:=underlying127
 a182:=isAgg127
 z182:=sizeOf127
 v182:=zeroValue127
 t183:=underlying128
 a183:=isAgg128
 z183:=sizeOf128
 v183:=zeroValue128
 t218:=underlying167
 a218:=isAgg167
 z218:=sizeOf167
 v218:=zeroValue167
 t222:=underlying171
 a222:=isAgg171
 z222:=sizeOf171
 v222:=zeroValue171
 t228:=underlying210
 a228:=isAgg210
 z228:=sizeOf210
 v228:=zeroValue210
 t229:=underlying211
 a229:=isAgg211
 z229:=sizeOf211
 v229:=zeroValue211
def Qpi : prog.underlying 157=some (.slice 5):=by kernel_rfl
def QrZ : prog.underlying 200=some (.slice 46):=by kernel_rfl
def QsA : prog.underlying 42=some (.slice 40):=by kernel_rfl
def QsB : prog.underlying 44=some (.slice 42):=by kernel_rfl
def QsC : prog.underlying 46=some (.slice 3):=by kernel_rfl
def Mq : Hh prog 3 ((V.i .i64) 0):=Hh.one (v:=.int .i64 0) (by kernel_rfl)
def Qqv : Hh prog 4 (V.b false):=Hh.one (v:=.bool false) (by kernel_rfl)
def QsD : Hh prog 46 ((λx=>V.sl 1 (x.map Qb)) ([]:(L_ Int))):=Hh.sl (by kernel_rfl)
def Qth : Ya prog 3=some [.i .i64 0]:=by kernel_rfl
def Qti : Ya prog 5=some [.i .u8 0]:=by kernel_rfl
def Qtj : Ya prog 9=some [.s (⟨#[]⟩:ByteArray)]:=by kernel_rfl
def QsE : Ya prog 26=some [.Y,.Y,.Y,.i .i64 0,.i .i64 0]:=by kernel_rfl
def QsF : Ya prog 33=some [.Y,.Y,.b false]:=by kernel_rfl
def QsG : Ya prog 37=some [.Y]:=by kernel_rfl
def QsH : Ya prog 40=some [.i .i64 0,.i .i64 0]:=by kernel_rfl
def QsI : Ya prog 42=some [.Y]:=by kernel_rfl
def QsJ : Ya prog 44=some [.Y]:=by kernel_rfl
def Qq8 : Ya prog 46=some [.Y]:=by kernel_rfl
def QsK : Ya prog 55=some [.i .i64 0,.Y,.Y,.Y]:=by kernel_rfl
def QsL : Ya prog 57=some [.i .i64 0,.i .i64 0,.i .i64 0,.Y,.Y,.Y]:=by kernel_rfl
def QsM : Ya prog 61=some [.i .i64 0,.i .i64 0,.Y]:=by kernel_rfl
def QsN : Ya prog 64=some [.s (⟨#[]⟩:ByteArray),.i .i64 0,.i .i64 0,.i .i64 0,.Y,.i .i64 0,.i .i64 0]:=by kernel_rfl
def QsO : Ya prog 66=some [.s (⟨#[]⟩:ByteArray),.i .i64 0,.Y]:=by kernel_rfl
def QsP : Ya prog 68=some [.i .i64 0,.i .i64 0,.i .i64 0,.Y]:=by kernel_rfl
def QsQ : Ya prog 71=some [.i .i64 0,.i .i64 0,.i .i64 0]:=by kernel_rfl
def QsR : Ya prog 73=some [.s (⟨#[]⟩:ByteArray),.Y,.i .i64 0,.i .i64 0,.Y,.i .i64 0,.i .i64 0,.Y,.Y,.Y,.i .i64 0,.i .i64 0,.i .i64 0,.i .i64 0]:=by kernel_rfl
def QsS : Ya prog 74=some [.lit (.map none)]:=by kernel_rfl
def QsT : Ya prog 84=some [.s (⟨#[]⟩:ByteArray),.i .i64 0]:=by kernel_rfl
def QsU : Ya prog 89=some [.i .i64 0]:=by kernel_rfl
def QsV : Ya prog 97=some [.Y,.Y,.Y,.i .i64 0,.i .i64 0,.i .i64 0,.lit (.map none),.Y,.Y,.b false]:=by kernel_rfl
def Qr0 : Ya prog 111=some [.i .i64 0,.i .i64 0]:=by kernel_rfl
def Sw : Ya prog 140=some [.lit (.nilFunc),.i .i64 0]:=by kernel_rfl
def Qr1 : Ya prog 179=some [.lit (.nilFunc)]:=by kernel_rfl
def Qr2 : Ya prog 184=some [.lit (.nilFunc)]:=by kernel_rfl
def Qr3 : Ya prog 194=some [.Y,.Y,.i .i64 0]:=by kernel_rfl
def Qr4 : Ya prog 200=some [.Y]:=by kernel_rfl
def Qr5 : Ya prog 220=some [.lit (.nilFunc)]:=by kernel_rfl
def Qr6 : Ya prog 234=some [.Y,.Y,.Y,.i .i64 0,.i .i64 0,.Y,.s (⟨#[]⟩:ByteArray),.Y,.i .i64 0,.i .i64 0,.Y,.i .i64 0,.i .i64 0,.Y,.Y,.Y,.i .i64 0,.i .i64 0,.i .i64 0,.i .i64 0,.Y]:=by kernel_rfl
def tab : EF:={ ag:=[(3,false),(4,false),(9,false),(22,false),(23,false),(24,false),(26,true),(27,false),(30,false),(31,false),(33,true),(37,false),(40,true),(42,false),(44,false),(46,false),(55,true),(57,true),(59,false),(61,true),(62,false),(64,true),(66,true),(68,true),(69,false),(70,false),(71,true),(73,true),(74,false),(84,true),(89,false),(95,false),(111,true),(116,false),(140,true),(179,false),(184,false),(187,false),(189,false),(194,true),(200,false),(220,false),(234,true)],sz:=[(3,1),(4,1),(26,5),(30,1),(31,1),(33,3),(37,1),(40,2),(42,1),(44,1),(46,1),(55,4),(57,6),(61,3),(64,7),(66,3),(68,4),(71,3),(73,14),(74,1),(84,2),(89,1),(111,2),(140,2),(179,1),(184,1),(194,3),(200,1),(220,1),(234,21)],fo:=[(26,[0,1,2,3,4]),(33,[0,1,2]),(55,[0,1,2,3]),(57,[0,1,2]),(61,[0,1,2]),(64,[0,1,2,3,4,5,6]),(66,[0,1,2]),(68,[0,1]),(73,[0,1,2,5,6,7,8,9,10,11]),(84,[0,1]),(97,[0,5,6,7]),(140,[0,1]),(194,[0,1,2]),(234,[0,5,6,20])],sp:=[(26,[(0,1),(1,1),(2,1),(3,1),(4,1)]),(33,[(0,1),(1,1),(2,1)]),(55,[(0,1),(1,1),(2,1),(3,1)]),(57,[(0,1),(1,1),(2,4)]),(61,[(0,1),(1,1),(2,1)]),(64,[(0,1),(1,1),(2,1),(3,1),(4,1),(5,1),(6,1)]),(66,[(0,1),(1,1),(2,1)]),(68,[(0,1),(1,3)]),(73,[(0,1),(1,1),(2,3),(5,1),(6,1),(7,1),(8,1),(9,1),(10,1),(11,3)]),(97,[(0,5),(5,1),(6,1),(7,3)]),(111,[(0,1),(1,1)]),(140,[(0,1),(1,1)]),(194,[(0,1),(1,1),(2,1)]),(234,[(0,5),(5,1),(6,14),(20,1)])],es:=[(22,(64,7,80)),(23,(66,3,48)),(24,(73,14,200)),(30,(44,1,24)),(31,(57,6,96)),(37,(55,4,80)),(42,(40,2,16)),(44,(42,1,24)),(46,(3,1,8)),(59,(61,3,40)),(62,(9,1,16)),(69,(68,4,48)),(70,(84,2,24)),(157,(5,1,1)),(173,(140,2,16)),(200,(46,1,24)),(262,(3,1,8))],ar:=[(40,(2,1)),(71,(3,1))],zv:=[(3,[.i .i64 0]),(5,[.i .u8 0]),(9,[.s (⟨#[]⟩:ByteArray)]),(26,[.Y,.Y,.Y,.i .i64 0,.i .i64 0]),(33,[.Y,.Y,.b false]),(37,[.Y]),(40,[.i .i64 0,.i .i64 0]),(42,[.Y]),(44,[.Y]),(46,[.Y]),(55,[.i .i64 0,.Y,.Y,.Y]),(57,[.i .i64 0,.i .i64 0,.i .i64 0,.Y,.Y,.Y]),(61,[.i .i64 0,.i .i64 0,.Y]),(64,[.s (⟨#[]⟩:ByteArray),.i .i64 0,.i .i64 0,.i .i64 0,.Y,.i .i64 0,.i .i64 0]),(66,[.s (⟨#[]⟩:ByteArray),.i .i64 0,.Y]),(68,[.i .i64 0,.i .i64 0,.i .i64 0,.Y]),(71,[.i .i64 0,.i .i64 0,.i .i64 0]),(73,[.s (⟨#[]⟩:ByteArray),.Y,.i .i64 0,.i .i64 0,.Y,.i .i64 0,.i .i64 0,.Y,.Y,.Y,.i .i64 0,.i .i64 0,.i .i64 0,.i .i64 0]),(74,[.lit (.map none)]),(84,[.s (⟨#[]⟩:ByteArray),.i .i64 0]),(89,[.i .i64 0]),(97,[.Y,.Y,.Y,.i .i64 0,.i .i64 0,.i .i64 0,.lit (.map none),.Y,.Y,.b false]),(111,[.i .i64 0,.i .i64 0]),(140,[.lit (.nilFunc),.i .i64 0]),(179,[.lit (.nilFunc)]),(184,[.lit (.nilFunc)]),(194,[.Y,.Y,.i .i64 0]),(200,[.Y]),(220,[.lit (.nilFunc)]),(234,[.Y,.Y,.Y,.i .i64 0,.i .i64 0,.Y,.s (⟨#[]⟩:ByteArray),.Y,.i .i64 0,.i .i64 0,.Y,.i .i64 0,.i .i64 0,.Y,.Y,.Y,.i .i64 0,.i .i64 0,.i .i64 0,.i .i64 0,.Y])],sb:=[9],bo:=[4],cc:=[],en:=[4,5,6,7,8,9,10,11,12,13,14,15,16,17,18,19,20,21,22,23,24,25,26,27,28,29,30,31,32,33,34,35,36,37,38,39,40,41,42,43,44,45,46,47,48,51,52,53,54,55,56,57,58,59,60,61,62,63,64,65,66,67,68,69,70,71,72,73,85,86,87,88,89,90,91,92,93,94,95,96,97,98,99,100,101,102,103,104,105,106,107,108,109,110,111,112,113,114,121,122,123,124,125,126,127,128,129,130,131,132,133,134,135,136,137,138,139,140,141,142,143,144,145,146,147,148,149,150,151,152,153,154,155,156,157,158,159,160,161,162,163,164,165,166,167,168,169,170,171,172,173,174,175,176,177,178,179,181,182,183,184,185,186,187,188,189,190,191,192,193,194,195,196,197,198,199,200,201,202,203,204,205,206,207,208,209,210,211,212,213,214,215,216,217,218,219,220,221,222,223,224,225,226,227,228,229,230,231,232,233,234,235,236,237,238,239,240,241,242,243,244,245,246,247,248,249,250,251,252,253,254,255,256,257,258,259,260,261,262,263,264,265,266,267,268,269,270,271,272,273,274,277,279,280,281,282,283,286,287,288,289,290,291,292,293,294] }
def QG : DH prog tab:=EF.ok (by kernel_rfl) (Kx.2 ⟨Qth,Kx.2 ⟨Qti,Kx.2 ⟨Qtj,Kx.2 ⟨QsE,Kx.2 ⟨QsF,Kx.2 ⟨QsG,Kx.2 ⟨QsH,Kx.2 ⟨QsI,Kx.2 ⟨QsJ,Kx.2 ⟨Qq8,Kx.2 ⟨QsK,Kx.2 ⟨QsL,Kx.2 ⟨QsM,Kx.2 ⟨QsN,Kx.2 ⟨QsO,Kx.2 ⟨QsP,Kx.2 ⟨QsQ,Kx.2 ⟨QsR,Kx.2 ⟨QsS,Kx.2 ⟨QsT,Kx.2 ⟨QsU,Kx.2 ⟨QsV,Kx.2 ⟨Qr0,Kx.2 ⟨Sw,Kx.2 ⟨Qr1,Kx.2 ⟨Qr2,Kx.2 ⟨Qr3,Kx.2 ⟨Qr4,Kx.2 ⟨Qr5,Kx.2 ⟨Qr6,λ_ h=>(by cases h)⟩⟩⟩⟩⟩⟩⟩⟩⟩⟩⟩⟩⟩⟩⟩⟩⟩⟩⟩⟩⟩⟩⟩⟩⟩⟩⟩⟩⟩⟩)
def Qx {C:Xx}{Q:Exit->St->Prop}{n:Nat}{pt pt1:Pt}{ks D:L_ Fr}{σ σ1:St}{φ:Prop}(hC:JB prog C n)(ds:L_ Bi)(e:Vm.go prog C tab n ds pt ks σ True=some ⟨pt1,D,σ1,φ⟩)(hφ:φ)(h:AK prog C Q pt1 D σ1):AK prog C Q pt ks σ:=AK.go QG hC ds e hφ h
abbrev QBg := L_ (Int×Int)
abbrev QMk := L_ QBg
abbrev LI_ := L_ Int
abbrev QLL := L_ (L_ Int)
abbrev QSB := L_ (ByteArray×Bool)
def U : True:=trivial
def an_ {a b:Prop}(x:a)(y:b):a/\b:=⟨x,y⟩
def ex_ {α:Sort _}{p:α->Prop}(w:α)(h:p w):∃x,p x:=⟨w,h⟩
end Go.Proofs
namespace Go.Vm
open Go Go.RowKit
noncomputable abbrev Bi.K (a b:L_ Nat):Bi:=.keep a b
noncomputable abbrev Bi.S (a:Nat)(b:V):Bi:=.say a b
noncomputable abbrev Bi.O (a:Nat)(b:Ob):Bi:=.sayO a b
noncomputable abbrev Bi.T:Bi:=.br true
noncomputable abbrev Bi.F:Bi:=.br false
noncomputable abbrev Dw.N:Dw:=.a .no none false
noncomputable abbrev Dw.B (h:Wm):Dw:=.a h none false
noncomputable abbrev Dw.E (v:V):Dw:=.a .no (some ([],v)) false
noncomputable abbrev V.I (n:Int):V:=.i .i64 n
noncomputable abbrev V.L (n:Nat):V:=.loc n 0 0
noncomputable abbrev Bi.A (x:L_ V):Bi:=.v .no [] (.agg x)
noncomputable instance dn_ (n:Nat):OfNat Bi n:=⟨.n n⟩
noncomputable abbrev Wm.C1 (v:V):Wm:=.c false [.d] v
noncomputable abbrev Wm.C2 (v:V):Wm:=.c false [.d,.d] v
noncomputable abbrev Wm.C3 (v:V):Wm:=.c false [.d,.d,.d] v
noncomputable abbrev Wm.C4 (v:V):Wm:=.c false [.d,.d,.d,.d] v
end Go.Vm
namespace Go.Proofs
open Go Go.RowKit Go.Vm Go.Proofs.Tryz
def bg_ {α:Type}{c:Bool}{x y:O_ α}{r:α}{G:Prop}(h:(bif c then x else y)=some r)(f:c=true->x=some r->G)(g:c=false->y=some r->G):G:=by
 cases c
 ·exact g rfl h
 exact f rfl h
noncomputable abbrev lk_ (n:Nat):Nat×V:=(n,.loc n 0 0)
def A {h:Prop}(D:h):True/\h:=⟨trivial,D⟩
def a2_ {h D:Prop}(h0:h)(h1:D):(True/\h)/\D:=⟨⟨trivial,h0⟩,h1⟩
def a3_ {h D x2:Prop}(h0:h)(h1:D)(h2:x2):((True/\h)/\D)/\x2:=⟨⟨⟨trivial,h0⟩,h1⟩,h2⟩
def a4_ {h D x2 x3:Prop}(h0:h)(h1:D)(h2:x2)(h3:x3):(((True/\h)/\D)/\x2)/\x3:=⟨⟨⟨⟨trivial,h0⟩,h1⟩,h2⟩,h3⟩
def a5_ {h D x2 x3 x4:Prop}(h0:h)(h1:D)(h2:x2)(h3:x3)(h4:x4):((((True/\h)/\D)/\x2)/\x3)/\x4:=⟨⟨⟨⟨⟨trivial,h0⟩,h1⟩,h2⟩,h3⟩,h4⟩
def a6_ {h D x2 x3 x4 x5:Prop}(h0:h)(h1:D)(h2:x2)(h3:x3)(h4:x4)(h5:x5):(((((True/\h)/\D)/\x2)/\x3)/\x4)/\x5:=⟨⟨⟨⟨⟨⟨trivial,h0⟩,h1⟩,h2⟩,h3⟩,h4⟩,h5⟩
def a7_ {h D x2 x3 x4 x5 x6:Prop}(h0:h)(h1:D)(h2:x2)(h3:x3)(h4:x4)(h5:x5)(h6:x6):((((((True/\h)/\D)/\x2)/\x3)/\x4)/\x5)/\x6:=⟨⟨⟨⟨⟨⟨⟨trivial,h0⟩,h1⟩,h2⟩,h3⟩,h4⟩,h5⟩,h6⟩
def a8_ {h D x2 x3 x4 x5 x6 x7:Prop}(h0:h)(h1:D)(h2:x2)(h3:x3)(h4:x4)(h5:x5)(h6:x6)(h7:x7):(((((((True/\h)/\D)/\x2)/\x3)/\x4)/\x5)/\x6)/\x7:=⟨⟨⟨⟨⟨⟨⟨⟨trivial,h0⟩,h1⟩,h2⟩,h3⟩,h4⟩,h5⟩,h6⟩,h7⟩
def a9_ {h D x2 x3 x4 x5 x6 x7 x8:Prop}(h0:h)(h1:D)(h2:x2)(h3:x3)(h4:x4)(h5:x5)(h6:x6)(h7:x7)(h8:x8):((((((((True/\h)/\D)/\x2)/\x3)/\x4)/\x5)/\x6)/\x7)/\x8:=⟨⟨⟨⟨⟨⟨⟨⟨⟨trivial,h0⟩,h1⟩,h2⟩,h3⟩,h4⟩,h5⟩,h6⟩,h7⟩,h8⟩
def aB_ {x0 x1 x2 x3 x4 x5 x6 x7 x8 x9 h:Prop}(h0:x0)(h1:x1)(h2:x2)(h3:x3)(h4:x4)(h5:x5)(h6:x6)(h7:x7)(h8:x8)(h9:x9)(D:h):((((((((((True/\x0)/\x1)/\x2)/\x3)/\x4)/\x5)/\x6)/\x7)/\x8)/\x9)/\h:=⟨⟨⟨⟨⟨⟨⟨⟨⟨⟨⟨trivial,h0⟩,h1⟩,h2⟩,h3⟩,h4⟩,h5⟩,h6⟩,h7⟩,h8⟩,h9⟩,D⟩
def aC_ {x0 x1 x2 x3 x4 x5 x6 x7 x8 x9 h D:Prop}(h0:x0)(h1:x1)(h2:x2)(h3:x3)(h4:x4)(h5:x5)(h6:x6)(h7:x7)(h8:x8)(h9:x9)(h10:h)(h11:D):(((((((((((True/\x0)/\x1)/\x2)/\x3)/\x4)/\x5)/\x6)/\x7)/\x8)/\x9)/\h)/\D:=⟨⟨⟨⟨⟨⟨⟨⟨⟨⟨⟨⟨trivial,h0⟩,h1⟩,h2⟩,h3⟩,h4⟩,h5⟩,h6⟩,h7⟩,h8⟩,h9⟩,h10⟩,h11⟩
def r1_ {α:Type}{a0:α}:a0=a0/\True:=⟨rfl,trivial⟩
def r2_ {α:Type}{a0 h:α}:a0=a0/\h=h/\True:=⟨rfl,rfl,trivial⟩
def r3_ {α:Type}{a0 h D:α}:a0=a0/\h=h/\D=D/\True:=⟨rfl,rfl,rfl,trivial⟩
def r4_ {α:Type}{a0 h D a3:α}:a0=a0/\h=h/\D=D/\a3=a3/\True:=⟨rfl,rfl,rfl,rfl,trivial⟩
def r5_ {α:Type}{a0 h D a3 a4:α}:a0=a0/\h=h/\D=D/\a3=a3/\a4=a4/\True:=⟨rfl,rfl,rfl,rfl,rfl,trivial⟩
def r6_ {α:Type}{a0 h D a3 a4 a5:α}:a0=a0/\h=h/\D=D/\a3=a3/\a4=a4/\a5=a5/\True:=⟨rfl,rfl,rfl,rfl,rfl,rfl,trivial⟩
def rB_ {α:Type}{a0 D a2 a3 a4 a5 a6 a7 a8 a9 h:α}:a0=a0/\D=D/\a2=a2/\a3=a3/\a4=a4/\a5=a5/\a6=a6/\a7=a7/\a8=a8/\a9=a9/\h=h/\True:=⟨rfl,rfl,rfl,rfl,rfl,rfl,rfl,rfl,rfl,rfl,rfl,trivial⟩
def rD_ {α:Type}{a0 a1 a2 a3 a4 a5 a6 a7 a8 a9 h D a12:α}:a0=a0/\a1=a1/\a2=a2/\a3=a3/\a4=a4/\a5=a5/\a6=a6/\a7=a7/\a8=a8/\a9=a9/\h=h/\D=D/\a12=a12/\True:=⟨rfl,rfl,rfl,rfl,rfl,rfl,rfl,rfl,rfl,rfl,rfl,rfl,rfl,trivial⟩
def rF_ {α:Type}{a0 a1 a2 a3 a4 a5 a6 a7 a8 a9 h D a12 a13 a14:α}:a0=a0/\a1=a1/\a2=a2/\a3=a3/\a4=a4/\a5=a5/\a6=a6/\a7=a7/\a8=a8/\a9=a9/\h=h/\D=D/\a12=a12/\a13=a13/\a14=a14/\True:=⟨rfl,rfl,rfl,rfl,rfl,rfl,rfl,rfl,rfl,rfl,rfl,rfl,rfl,rfl,rfl,trivial⟩
def wk_ {f:FuncId}{fn:Func}{c:Code}{args:L_ V}{hs:H_}{D:V->H_->Prop}(n:Nat)(hf:prog.funcs[f]? = some fn)(h:∀C:Xx,JB prog C n->AK prog C (QaR prog fn.results.toList D) (.c c) [] ⟨NM 0 args,hs⟩)(hb:fn.body=some c:=by rfl)(hn:fn.ntmps=n:=by rfl)(hle:(Nat.ble args.length n&&Nat.ble n 620)=true:=by rfl):QU prog f args hs D:=QU.walk n hf hb hn hle h
def bq_ {C:Xx}{Q:Exit->St->Prop}{n:Nat}{pt p1 p2:Pt}{ks k1 k2:L_ Fr}{σ s1 s2:St}{α:Type}{c:Bool}{x y:O_ α}{r:α}(hC:JB prog C n)(h:(bif c then x else y)=some r)(D:L_ Bi)(e:Vm.go prog C tab n D pt ks σ True=some ⟨p1,k1,s1,True/\c=true⟩)(f:c=true->x=some r->AK prog C Q p1 k1 s1)(dt:L_ Bi)(e2:Vm.go prog C tab n dt pt ks σ True=some ⟨p2,k2,s2,True/\c=false⟩)(g:c=false->y=some r->AK prog C Q p2 k2 s2):AK prog C Q pt ks σ:=by
 cases c
 ·exact AK.go QG hC dt e2 ⟨trivial,rfl⟩ (g rfl h)
 exact AK.go QG hC D e ⟨trivial,rfl⟩ (f rfl h)
def mt_ {C:Xx}{Q:Exit->St->Prop}{ks:L_ Fr}{σ:St}:AK prog C Q (.x .normal) (.cut (λs=>s=σ)::ks) σ:=AK.met rfl
def cb_ {a b:Bool}(h:a=b):V.b a=V.b b:=congrArg V.b h
def tc_ {a b:Bool}(h:a=b):True/\V.b a=V.b b:=⟨trivial,congrArg V.b h⟩
def Qms : Exit->Bool
 | .normal=>true
 | .ret=>true
 | _=>false
def tg_ {C:Xx}{Q:Exit->St->Prop}{n:Nat}{pt pt1:Pt}{ks D:L_ Fr}{σ σ1:St}(hC:JB prog C n)(ds:L_ Bi)(h:AK prog C Q pt1 D σ1)(e:Vm.go prog C tab n ds pt ks σ True=some ⟨pt1,D,σ1,True⟩:=by rfl):AK prog C Q pt ks σ:=AK.go QG hC ds e trivial h
def Qcj {c:Bool}{β:Type}{f:Unit->O_ β}{r:β}(h:(chk c).bind f=some r):c=true/\f ()=some r:=by
 obtain⟨_,k,h⟩:=Qv h
 exact⟨QjQ k,h⟩
def Z {α:Sort _}{a:α}:a=a:=rfl
def B {α β:Type}{a:O_ α}{k:α->O_ β}{r:β}{G:Prop}(h:a.bind k=some r)(f:∀x,a=some x->k x=some r->G):G:=by
 obtain⟨x,D,h2⟩:=Qv h
 exact f x D h2
def X {c:Bool}{β:Type}{k:Unit->O_ β}{r:β}{G:Prop}(h:(chk c).bind k=some r)(f:c=true->k ()=some r->G):G:=by
 obtain⟨_,D,h2⟩:=Qv h
 exact f (QjQ D) h2
def I {α:Type}{c:Bool}{x y:O_ α}{r:α}{G:Prop}(h:(bif c then x else y)=some r)(f:c=true->x=some r->G)(g:c=false->y=some r->G):G:=by
 cases c
 ·exact g rfl h
 exact f rfl h
def bO_ (c:Bool){G:Prop}(f:c=true->G)(g:c=false->G):G:=by
 cases c
 ·exact g rfl
 exact f rfl
def toS (σ s:St):O_ St:=match Ej σ.fr (s.fr.map Prod.fst)with
 | some a=>match Ej σ.hp (s.hp.map Prod.fst)with
  | some b=>bif St.closed ⟨a,b⟩then some ⟨a,b⟩else none
  | none=>none
 | none=>none
def Qck {P:Program}{C:Xx}{Q:Exit->St->Prop}{pt:Pt}{ks:L_ Fr}{σ s:St}(e:toS σ s=some s)(k:AK P C Q pt ks s):AK P C Q pt ks σ:=by
 unfold toS at e
 split at e
 ·rename_i a ha
  split at e
  ·rename_i b hb
   replace e:=XX e
   obtain⟨hc,e⟩:=e
   cases e
   exact AK.weaken (λh w D=>R.to D (Qmm (Rv ha)) (Qmn (Rv hb)) hc) k
  cases e
 cases e
section
variable {P:Program}{C:Xx}{Q:Exit->St->Prop}{ks:L_ Fr}{σ:St}{pt:Pt}
def M {s0:St}(e:toS σ s0=some s0):AK P C Q (.x .normal) (.cut (λs=>s=s0)::ks) σ:=Qck e (AK.met rfl)
def Y {c:Code}(s0:St)(f:AK P C Q (.c c) (.cut (λs=>s=s0)::ks) σ)(g:AK P C Q (.x .normal) ks s0):AK P C Q (.c c) ks σ:=AK.meetX _ f λ_ e=>e▸g
def me_ {β:Type}{E:β->St}{K:β->Prop}{v:β}(h:K v)(e:toS σ (E v)=some (E v)):AK P C Q (.x .normal) (.cut (λs=>∃v,s=E v/\K v)::ks) σ:=Qck e (AK.met ⟨v,rfl,h⟩)
def mE_ {β:Type}{x y:Code}(E:β->St)(K:β->Prop)(f:AK P C Q (.c x) (.cut (λs=>∃v,s=E v/\K v)::ks) σ)(g:∀v,K v->AK P C Q (.c y) ks (E v)):AK P C Q (.c (.seq x y)) ks σ:=AK.meet _ f λ_ ⟨v,e,h⟩=>e▸g v h
def rS {τ ρ:Type}(E:τ->St)(X:ρ->Exit×St)(o:τ⊕ρ):Exit->St->Prop:=Qmb (λt s=>s=E t) (λq e s=>e=(X q).1/\s=(X q).2) o
def lp_ {τ ρ α:Type}{body:τ->O_ (τ⊕ρ)}{s0:τ}{k:ρ->O_ α}{r:α}{c:Code}(h:(Qu body s0).bind k=some r)(E:τ->St)(X:ρ->Exit×St)(e:toS σ (E s0)=some (E s0))
  (f:∀t o,body t=some o->AK P C (rS E X o) (.c c) [] (E t)) (g:∀q,k q=some r->AK P C Q (.x (X q).1) ks (X q).2):AK P C Q (.c (.loop c)) ks σ:=by
 obtain⟨q,h1,h2⟩:=Qv h
 refine Qck e (AK.loop (λt s=>s=E t) (λq e s=>e=(X q).1/\s=(X q).2) h1 rfl (λt o s D hb=>D▸f t o hb) λe s D=>?_)
 obtain⟨rfl,rfl⟩:=D
 exact g q h2
def lq_ {τ ρ ρ' α:Type}{body:τ->O_ (τ⊕(ρ⊕ρ'))}{s0:τ}{k:ρ⊕ρ'->O_ α}{r:α}{c:Code}(h:(Qu body s0).bind k=some r)(E:τ->St)(X:ρ->Exit×St)(Y:ρ'->Exit×St)(e:toS σ (E s0)=some (E s0))
  (f:∀t o,body t=some o->AK P C (rS E (Sum.elim X Y) o) (.c c) [] (E t)) (g:∀q,k (.inl q)=some r->AK P C Q (.x (X q).1) ks (X q).2) (D:∀q,k (.inr q)=some r->AK P C Q (.x (Y q).1) ks (Y q).2):AK P C Q (.c (.loop c)) ks σ:=
 lp_ h E (Sum.elim X Y) e f λq=>match q with
  | .inl q=>g q
  | .inr q=>D q
def rN_ {τ ρ:Type}{E:τ->St}{X:ρ->Exit×St}{o:τ⊕ρ}{t:τ}(h:some (.inl t)=some o)(e:toS σ (E t)=some (E t)):AK P C (rS E X o) (.x .normal) [] σ:=by
 cases h
 exact Qck e (AK.done ⟨t,rfl,rfl⟩)
def rX_ {τ ρ:Type}{E:τ->St}{X:ρ->Exit×St}{o:τ⊕ρ}{q:ρ}{i:Nat}(h:some (.inr q)=some o)(e:((X q).1,toS σ (X q).2)=(.exit i,some (X q).2)):AK P C (rS E X o) (.x (.exit i)) [] σ:=by
 cases h
 exact Qck (congrArg Prod.snd e) (AK.done ⟨q,rfl,(congrArg Prod.fst e).symm,rfl⟩)
def rR_ {τ ρ:Type}{E:τ->St}{X:ρ->Exit×St}{o:τ⊕ρ}{q:ρ}(h:some (.inr q)=some o)(e:((X q).1,toS σ (X q).2)=(.ret,some (X q).2)):AK P C (rS E X o) (.x .ret) [] σ:=by
 cases h
 exact Qck (congrArg Prod.snd e) (AK.done ⟨q,rfl,(congrArg Prod.fst e).symm,rfl⟩)
def mu_ {s0:St}{K:Prop}(h:K)(e:toS σ s0=some s0):AK P C Q (.x .normal) (.cut (λs=>s=s0/\K)::ks) σ:=Qck e (AK.met ⟨rfl,h⟩)
def mU_ {x y:Code}(s0:St)(K:Prop)(f:AK P C Q (.c x) (.cut (λs=>s=s0/\K)::ks) σ)(g:K->AK P C Q (.c y) ks s0):AK P C Q (.c (.seq x y)) ks σ:=AK.meet _ f λ_ ⟨e,h⟩=>e▸g h
def mf_ {β γ:Type}{E:β->γ->St}{K:β->γ->Prop}{v:β}{u:γ}(h:K v u)(e:toS σ (E v u)=some (E v u)):AK P C Q (.x .normal) (.cut (λs=>∃v u,s=E v u/\K v u)::ks) σ:=Qck e (AK.met ⟨v,u,rfl,h⟩)
def mF_ {β γ:Type}{x y:Code}(E:β->γ->St)(K:β->γ->Prop)(f:AK P C Q (.c x) (.cut (λs=>∃v u,s=E v u/\K v u)::ks) σ)(g:∀v u,K v u->AK P C Q (.c y) ks (E v u)):AK P C Q (.c (.seq x y)) ks σ:=AK.meet _ f λ_ ⟨v,u,e,h⟩=>e▸g v u h
def cS {β:Type}(E:β->St)(v:β)(s:St):Prop:=s=E v
def mq_ {β:Type}{E:β->St}{v u:β}(h:some v=some u)(e:toS σ (E v)=some (E v)):AK P C Q (.x .normal) (.cut (cS E u)::ks) σ:=by
 cases h
 exact Qck e (AK.met rfl)
def mV_ {β α:Type}{c:Code}{a:O_ β}{k:β->O_ α}{r:α}(h:a.bind k=some r)(E:β->St)(f:∀x,a=some x->AK P C Q (.c c) (.cut (cS E x)::ks) σ)(g:∀x,k x=some r->AK P C Q (.x .normal) ks (E x)):AK P C Q (.c c) ks σ:=by
 obtain⟨x,D,h2⟩:=Qv h
 exact AK.meetX _ (f x D) λs (e:s=E x)=>e▸g x h2
end
def no_ {α:Type}(_:α):H_:=[]
def CT {α:Type}(f:Nat)(us:L_ V)(h:H_)(o:O_ α)(V:α->V)(O:α->H_):Prop:=∀r,o=some r->QU prog f us h (Gives (V r) (O r))
def Qog {α:Type}(h:L_ ResultVar)(V:α->V)(O:α->H_)(r:α):Exit->St->Prop:=QaR prog h (Gives (V r) (O r))
def W {α:Type}{f:FuncId}{fn:Func}{c:Code}{args:L_ V}{hs:H_}{o:O_ α}{V:α->V}{O:α->H_}(n:Nat)(hf:prog.funcs[f]? = some fn)(D:(fn.body,fn.ntmps,Nat.ble args.length n&&Nat.ble n 620)=(some c,n,true))(h:∀C:Xx,JB prog C n->∀r,o=some r->AK prog C (Qog fn.results.toList V O r) (.c c) [] ⟨NM 0 args,hs⟩):CT f args hs o V O:=λ_ e=>QU.walk n hf (congrArg (λx=>x.1) D) (congrArg (λx=>x.2.1) D) (congrArg (λx=>x.2.2) D) λC hC=>h C hC _ e
section
variable {α:Type}{a q:α}{C:Xx}{t u x:Nat}{O:α->H_}{σ:St}{e:Exit}
def E {r:α->V}(h:some a=some q)(k:(Qms e,Go.Vm.look σ.fr t)=(true,some (r a)))(hs:Ao σ.hp (O a)):AK prog C (Qog [.tmp t] r O q) (.x e) [] σ:=by
 have he:=congrArg Prod.fst k
 have D:=congrArg Prod.snd k
 cases h
 cases e<;>first | exact AK.done ⟨[_],⟨D,trivial⟩,gives hs⟩|cases he
def F {v w:V}{r:α->V}(h:some a=some q)(k:(Qms e,Go.Vm.look σ.fr t,Go.Vm.look σ.fr u)=(true,some v,some w))(h4:r a=.tup [v,w])(hs:Ao σ.hp (O a)):AK prog C (Qog [.tmp t,.tmp u] r O q) (.x e) [] σ:=by
 have he:=congrArg (λx=>x.1) k
 have D:=congrArg (λx=>x.2.1) k
 have h3:=congrArg (λx=>x.2.2) k
 cases h
 cases e<;>first | exact AK.done ⟨[_,_],⟨D,h3,trivial⟩,h4▸gives hs⟩|cases he
def e3_ {v w z:V}{r:α->V}(h:some a=some q)(k:(Qms e,Go.Vm.look σ.fr t,Go.Vm.look σ.fr u,Go.Vm.look σ.fr x)=(true,some v,some w,some z))(h4:r a=.tup [v,w,z])(hs:Ao σ.hp (O a)):AK prog C (Qog [.tmp t,.tmp u,.tmp x] r O q) (.x e) [] σ:=by
 have he:=congrArg (λx=>x.1) k
 have D:=congrArg (λx=>x.2.1) k
 have h3:=congrArg (λx=>x.2.2.1) k
 have h5:=congrArg (λx=>x.2.2.2) k
 cases h
 cases e<;>first | exact AK.done ⟨[_,_,_],⟨D,h3,h5,trivial⟩,h4▸gives hs⟩|cases he
end
def G {C:Xx}{Q:Exit->St->Prop}{n:Nat}{pt pt1:Pt}{ks D:L_ Fr}{σ σ1:St}{φ:Prop}(hC:JB prog C n)(ds:L_ Bi)(e:Vm.go prog C tab n ds pt ks σ True=some ⟨pt1,D,σ1,φ⟩)(hφ:φ)(h:AK prog C Q pt1 D σ1):AK prog C Q pt ks σ:=AK.go QG hC ds e hφ h
def H {C:Xx}{Q:Exit->St->Prop}{n:Nat}{pt pt1:Pt}{ks D:L_ Fr}{σ σ1:St}(hC:JB prog C n)(ds:L_ Bi)(e:Vm.go prog C tab n ds pt ks σ True=some ⟨pt1,D,σ1,True⟩)(h:AK prog C Q pt1 D σ1):AK prog C Q pt ks σ:=AK.go QG hC ds e trivial h
def J {C:Xx}{Q:Exit->St->Prop}{n:Nat}{pt pt1:Pt}{ks D:L_ Fr}{σ σ1:St}{x:Prop}(hC:JB prog C n)(ds:L_ Bi)(e:Vm.go prog C tab n ds pt ks σ True=some ⟨pt1,D,σ1,True/\x⟩)(a:x)(h:AK prog C Q pt1 D σ1):AK prog C Q pt ks σ:=G hC ds e ⟨trivial,a⟩ h
def K {C:Xx}{Q:Exit->St->Prop}{n:Nat}{pt pt1:Pt}{ks D:L_ Fr}{σ σ1:St}{x y:Prop}(hC:JB prog C n)(ds:L_ Bi)(e:Vm.go prog C tab n ds pt ks σ True=some ⟨pt1,D,σ1,(True/\x)/\y⟩)(a:x)(b:y)(h:AK prog C Q pt1 D σ1):AK prog C Q pt ks σ:=G hC ds e ⟨⟨trivial,a⟩,b⟩ h
def g3_ {C:Xx}{Q:Exit->St->Prop}{n:Nat}{pt pt1:Pt}{ks D:L_ Fr}{σ σ1:St}{x y z:Prop}(hC:JB prog C n)(ds:L_ Bi)(e:Vm.go prog C tab n ds pt ks σ True=some ⟨pt1,D,σ1,((True/\x)/\y)/\z⟩)(a:x)(b:y)(c:z)(h:AK prog C Q pt1 D σ1):AK prog C Q pt ks σ:=G hC ds e ⟨⟨⟨trivial,a⟩,b⟩,c⟩ h
def g4_ {C:Xx}{Q:Exit->St->Prop}{n:Nat}{pt pt1:Pt}{ks D:L_ Fr}{σ σ1:St}{x y z u:Prop}(hC:JB prog C n)(ds:L_ Bi)(e:Vm.go prog C tab n ds pt ks σ True=some ⟨pt1,D,σ1,(((True/\x)/\y)/\z)/\u⟩)(a:x)(b:y)(c:z)(d:u)(h:AK prog C Q pt1 D σ1):AK prog C Q pt ks σ:=G hC ds e ⟨⟨⟨⟨trivial,a⟩,b⟩,c⟩,d⟩ h
def L {C:Xx}{Q:Exit->St->Prop}{n:Nat}{pt pt1:Pt}{ks D:L_ Fr}{σ σ1:St}{x y:Bool}(hC:JB prog C n)(ds:L_ Bi)(e:Vm.go prog C tab n ds pt ks σ True=some ⟨pt1,D,σ1,True/\V.b x=V.b y⟩)(a:x=y)(h:AK prog C Q pt1 D σ1):AK prog C Q pt ks σ:=G hC ds e ⟨trivial,congrArg V.b a⟩ h
def dr_ {id n:Nat}{C:Xx}{Q:Exit->St->Prop}{ops:Array Oper}{ks:L_ Fr}{base:St}{sf fr:S_}{sh hp:H_}{ri:L_ (It×Nat)}{ms:L_ Yp}{B:St}{φ:Prop}(hN:JB prog C n)(ds:L_ Dw)(D h ts os:L_ Nat)(hS:(Ej base.fr D,Ej base.hp h)=(some sf,some sh))(e:UW prog C tab n ops ⟨sf,sh⟩ ds ops.toList 0 [] [] base True=some ⟨ri,ms,B,φ⟩)(hφ:φ)(hf:(Ej (MU ms ri++B.fr) ts,Ej (IU ms ri++B.hp) os,St.closed ⟨fr,hp⟩)=(some fr,some hp,true))(k:AK prog C Q (.x .normal) ks ⟨fr,hp⟩)(hl:ds.length=ops.size:=by rfl)(hk:okV ops base ⟨sf,sh⟩ ⟨ri,ms,B,φ⟩=true:=by kernel_rfl):AK prog C Q (.c (.region id ops true)) ks base:=AK.draw2 QG hN mixed ds D h ts os (congrArg (λx=>x.1) hS) (congrArg (λx=>x.2) hS) e hφ hl hk (congrArg (λx=>x.1) hf) (congrArg (λx=>x.2.1) hf) (congrArg (λx=>x.2.2) hf) k
abbrev Qtk (a0 a1:V):L_ V:=[.J,.J,a0,.J,.J,.J,.J,a1,.J,.J,.J,.J,.J]
abbrev QaY (a0:V):L_ V:=[.J,.J,a0,.J,.J,.J,.J,.J,.J,.J,.J,.J,.J]
abbrev Qtl (a0 a1 a2 a3 a4 a5 a6 a7 a8:V):L_ V:=[.J,.J,.J,.J,a0,a1,a2,a3,a4,.J,a5,a6,a7,.J,.J,.J,.J,.J,.J,.J,.J,.J,.J,.J,.J,.J,.J,.J,.J,.J,.J,.J,.J,.J,.J,.J,.J,.J,.J,.J,.J,.J,.J,.J,.J,.J,.J,.J,.J,.J,.J,.J,.J,.J,a8,.J,.J,.J,.J,.J,.J,.J,.J,.J,.J,.J,.J,.J,.J,.J,.J,.J,.J,.J,.J,.J,.J,.J,.J,.J,.J,.J,.J,.J,.J,.J,.J,.J,.J,.J,.J,.J,.J,.J,.J,.J,.J,.J,.J,.J,.J,.J,.J,.J,.J,.J,.J,.J,.J]
abbrev GC (a0 a1 a2 a3 a4 a5 a6 a7:V):L_ V:=[.J,.J,.J,.J,a0,a1,a2,a3,a4,.J,a5,a6,a7,.J,.J,.J,.J,.J,.J,.J,.J,.J,.J,.J,.J,.J,.J,.J,.J,.J,.J,.J,.J,.J,.J,.J,.J,.J,.J,.J,.J,.J,.J,.J,.J,.J,.J,.J,.J,.J,.J,.J,.J,.J,.J,.J,.J,.J,.J,.J,.J,.J,.J,.J,.J,.J,.J,.J,.J,.J,.J,.J,.J,.J,.J,.J,.J,.J,.J,.J,.J,.J,.J,.J,.J,.J,.J,.J,.J,.J,.J,.J,.J,.J,.J,.J,.J,.J,.J,.J,.J,.J,.J,.J,.J,.J,.J,.J,.J]
def Qga  : O_ Qk:=some (Qk.mk ([(QD.mk (⟨#[110]⟩:ByteArray) 2 0 0 ([(⟨#[107]⟩:ByteArray)]:L_ ByteArray) 0 0)]:L_ QD) ([(Xb.mk (⟨#[97]⟩:ByteArray) 0 ([]:QBg)),(Xb.mk (⟨#[98]⟩:ByteArray) 0 ([]:QBg))]:L_ Xb) ([(QI.mk (⟨#[116]⟩:ByteArray) ([]:(L_ YS)) (Qp.mk 1 1 ([]:(L_ Qp))) 1 1 ([(Yg.mk 0 (Qp.mk 1 0 ([]:(L_ Qp))))]:L_ Yg) ([(Yg.mk 1 (Qp.mk 1 0 ([]:(L_ Qp))))]:L_ Yg) ([]:LI_) 0 (0,0,0))]:L_ QI) 0 1)
def Qj1  : CT 9 [] [] (Qga ) (λr=>(.agg (Qa r))) no_:=by
 refine W 21 func9 rfl λC a r h=>?_
 refine Qx a [7,.v .no [none,none,some 3] (.agg (Qn (Qp.mk 1 0 ([]:(L_ Qp))))),2,.O 1 (.var (Qn (Qp.mk 1 0 ([]:(L_ Qp))))),4,.v .no [none,none,some 3] (.agg (Qn (Qp.mk 1 1 ([]:(L_ Qp))))),2,.O 2 (.var (Qn (Qp.mk 1 1 ([]:(L_ Qp))))),4,.v (.bd []) [] (.sl 1 (([(⟨#[107]⟩:ByteArray)]:L_ ByteArray).map Ky)),.A (Qr (QD.mk (⟨#[110]⟩:ByteArray) 2 0 0 ([(⟨#[107]⟩:ByteArray)]:L_ ByteArray) 0 0)),.v (.bd []) [] (.sl 7 (([(QD.mk (⟨#[110]⟩:ByteArray) 2 0 0 ([(⟨#[107]⟩:ByteArray)]:L_ ByteArray) 0 0)]:L_ QD).map Qr)),.v .no [none,none,some 2] (.agg (Qw (Xb.mk (⟨#[97]⟩:ByteArray) 0 ([]:QBg)))),.v .no [none,none,some 2] (.agg (Qw (Xb.mk (⟨#[98]⟩:ByteArray) 0 ([]:QBg)))),.v (.bd []) [] (.sl 3 (([(Xb.mk (⟨#[97]⟩:ByteArray) 0 ([]:QBg)),(Xb.mk (⟨#[98]⟩:ByteArray) 0 ([]:QBg))]:L_ Xb).map Qw)),.A (Qn (Qp.mk 1 1 ([]:(L_ Qp)))),.A (Qn (Qp.mk 1 0 ([]:(L_ Qp)))),.A (Xm (Yg.mk 0 (Qp.mk 1 0 ([]:(L_ Qp))))),.v (.bd []) [] (.sl 4 (([(Yg.mk 0 (Qp.mk 1 0 ([]:(L_ Qp))))]:L_ Yg).map Xm)),.A (Qn (Qp.mk 1 0 ([]:(L_ Qp)))),.A (Xm (Yg.mk 1 (Qp.mk 1 0 ([]:(L_ Qp))))),.v (.bd []) [] (.sl 4 (([(Yg.mk 1 (Qp.mk 1 0 ([]:(L_ Qp))))]:L_ Yg).map Xm)),.v .no [none,some 2,none,none,none,none,none,none,none,some 1,none,none,none,none] (.agg (Qh (QI.mk (⟨#[116]⟩:ByteArray) ([]:(L_ YS)) (Qp.mk 1 1 ([]:(L_ Qp))) 1 1 ([(Yg.mk 0 (Qp.mk 1 0 ([]:(L_ Qp))))]:L_ Yg) ([(Yg.mk 1 (Qp.mk 1 0 ([]:(L_ Qp))))]:L_ Yg) ([]:LI_) 0 (0,0,0)))),.v (.bd []) [] (.sl 14 (([(QI.mk (⟨#[116]⟩:ByteArray) ([]:(L_ YS)) (Qp.mk 1 1 ([]:(L_ Qp))) 1 1 ([(Yg.mk 0 (Qp.mk 1 0 ([]:(L_ Qp))))]:L_ Yg) ([(Yg.mk 1 (Qp.mk 1 0 ([]:(L_ Qp))))]:L_ Yg) ([]:LI_) 0 (0,0,0))]:L_ QI).map Qh)),.A (Qa (Qk.mk ([(QD.mk (⟨#[110]⟩:ByteArray) 2 0 0 ([(⟨#[107]⟩:ByteArray)]:L_ ByteArray) 0 0)]:L_ QD) ([(Xb.mk (⟨#[97]⟩:ByteArray) 0 ([]:QBg)),(Xb.mk (⟨#[98]⟩:ByteArray) 0 ([]:QBg))]:L_ Xb) ([(QI.mk (⟨#[116]⟩:ByteArray) ([]:(L_ YS)) (Qp.mk 1 1 ([]:(L_ Qp))) 1 1 ([(Yg.mk 0 (Qp.mk 1 0 ([]:(L_ Qp))))]:L_ Yg) ([(Yg.mk 1 (Qp.mk 1 0 ([]:(L_ Qp))))]:L_ Yg) ([]:LI_) 0 (0,0,0))]:L_ QI) 0 1)),1,.O 0 (.var (Qa (Qk.mk ([(QD.mk (⟨#[110]⟩:ByteArray) 2 0 0 ([(⟨#[107]⟩:ByteArray)]:L_ ByteArray) 0 0)]:L_ QD) ([(Xb.mk (⟨#[97]⟩:ByteArray) 0 ([]:QBg)),(Xb.mk (⟨#[98]⟩:ByteArray) 0 ([]:QBg))]:L_ Xb) ([(QI.mk (⟨#[116]⟩:ByteArray) ([]:(L_ YS)) (Qp.mk 1 1 ([]:(L_ Qp))) 1 1 ([(Yg.mk 0 (Qp.mk 1 0 ([]:(L_ Qp))))]:L_ Yg) ([(Yg.mk 1 (Qp.mk 1 0 ([]:(L_ Qp))))]:L_ Yg) ([]:LI_) 0 (0,0,0))]:L_ QI) 0 1))),3,.K [0] [0]] Z ⟨⟨⟨⟨⟨⟨⟨⟨⟨⟨⟨⟨⟨⟨⟨⟨⟨⟨⟨⟨⟨U,Z⟩,Z⟩,Z⟩,Z⟩,Z⟩,Z⟩,Z⟩,Z⟩,Z⟩,Z⟩,Z⟩,Z⟩,Z⟩,Z⟩,Z⟩,Z⟩,Z⟩,Z⟩,Z⟩,Z⟩,Z⟩ ?_
 cases h
 exact AK.done (ex_ [_] (an_ (an_ (ex_ _ (ex_ _ (an_ Z (an_ Z (Or.inl (an_ (QG.ag Z) (an_ (QG.sz Z) Z))))))) U) (gives U)))
def Yz (a:QBg):O_ QBg:=(chk ((([]:QBg).length+a.length)*16<=140737488355328)).bind λ_=>some (([]:QBg)++a)
def Az (b):CT 34 [.sl 2 (b.map Qm)] [] (Yz b) (λr=>(.own 600 r.length)) (λr=>[(600,.arr 2 (r.map Qm))]):=by
 refine W 8 func34 rfl λC a r h=>?_
 unfold Yz at h
 refine tg_ a [9] ?_
 refine AK.eqNil rfl rfl rfl (QZ a.n rfl) rfl rfl QsA ?_ ?_
 ·intro c
  replace h:some ([]:QBg)=some r:=by simpa[chk,List.map_eq_nil_iff.1 c] using h
  exact K a [10,.adopt 2 600 2,.O 600 (.arr 2 (([]:QBg).map Qm)),.S 2 (.own 600 ([]:QBg).length)] Z Z Z<|E h Z r1_
 exact X h λd h=>g3_ a [8,.O 5 (.arr 2 (([]:QBg).map Qm)),.S 5 (.own 5 ([]:QBg).length),1,.x (λσ=>σ.app 5 2 7 (([]:QBg)++b).length ((([]:QBg)++b).map Qm)),4,.K [2] [5],.ren 5 600] Z Z Z (Ql.appSB (by_:=16) (zs:=[.I 0,.I 0]) (e:=40) (e':=40) (z':=2) (by':=16) Z Z (QZ a.n Z) Z Z Z Qc (by kernel_rfl) (by kernel_rfl) (by kernel_rfl) Z (by decide) (by decide) (QeS d Qc) Z Xu (Yc Qc))<|E h Z r1_
def DZ (a:QBg):O_ Unit:=some ()
def MW (a):CT 101 [.map 620] [(620,.map (QN V.I V.I a))] (DZ a) (λ_=>(.clo (.func 159) [] [.L 1])) (λ_=>[(1,.var [.map 620]),(620,.map (QN V.I V.I a))]):=
 W 4 func101 Z λC b r h=>H b [13] Z<|E h Z r2_
def Wn (a:LI_)(b:Int):O_ LI_:=(chk (a.length+([b]:L_ Int).length<=4294967296)).bind λ_=>some (a++([b]:L_ Int))
def HI (lpl D:Nat)(a:LI_)(c:Int){r:LI_}(h:Wn a c=some r):Sv prog lpl (UX D) (Qtk (.L 621) (.I c)) [(620,.lp lpl (UX D) (QaY (.L 621)) 0),(621,.var [.own 618 a.length]),(618,.arr 1 (a.map Qb))] (Gives (.b true) [(618,.arr 1 (r.map Qb)),(620,.lp lpl (UX D) (QaY (.L 621)) 0),(621,.var [.own 618 r.length])]):=by
 refine Sv.walk (b:=620) 13 rfl rfl λC e=>?_
 refine tg_ e [3] ?_
 refine AK.done (an_ rfl (ex_ _ (an_ rfl ?_)))
 obtain⟨d,h⟩:=Qcj h
 refine Qx e [4,.v (.bd []) [] (.sl 1 (([c]:L_ Int).map Qb)),.app ((a++([c]:L_ Int)).map Qb) (a++([c]:L_ Int)).length,1,.O 621 (.var [.own 618 (a++([c]:L_ Int)).length]),2,.K [] [618,620,621]] Z (a3_ Z ⟨Qc,XU d Qc,Xu,Yc Qc⟩ Z) ?_
 cases h
 refine AK.done ?_
 exact ex_ _ (an_ Z (gives r3_))
def LE (lpl lpf:Nat)(c:LI_)(i:QBg)(hlen:c.length+i.length<=4294967296):QU prog 159 [.clo (.yield lpl) [] [],.L 622] [(620,.lp lpl (UX lpf) (QaY (.L 621)) 0),(621,.var [.own 618 c.length]),(618,.arr 1 (c.map Qb)),(622,.var [.map 623]),(623,.map (QN V.I V.I i))] (λv hs=>∃r:L_ Int,r.Perm (c++i.map Prod.fst)/\Gives (.tup []) [(618,.arr 1 (r.map Qb)),(620,.lp lpl (UX lpf) (QaY (.L 621)) 0),(621,.var [.own 618 r.length]),(622,.var [.map 623]),(623,.map (QN V.I V.I i))] v hs):=by
 refine wk_ 14 func159 λC a=>?_
 refine tg_ a [3] ?_
 refine AK.openMap (b:=623) DM rfl λk l L4 p s=>?_
 refine Qx a [.x (λσ=>(σ.set 5 (.itr k l #[] none)).put 5 (.L 5)),3,.K [0,5] [5,618,620,621,622,623]] Z (A (Ql.range (b:=623) Z Z (QZ a.n Z) Z Z Es Z)) ?_
 have hL0:YN L4 #[]=L4:=by simp[YN]
 have z:(c++(YN L4 #[]).map (λq=>q.2.1)).Perm (c++i.map Prod.fst):=by
  rw[hL0]
  refine List.Perm.append_left c ?_
  have:=s.map Prod.fst
  rwa[TD]at this
 refine AK.range (body:=Qob) (λ(_:Nat) seen σ=>∃(cur:O_ Nat) (st:L_ Int),(st++(YN L4 seen).map (λq=>q.2.1)).Perm (c++i.map Prod.fst)/\σ=⟨[(0,.clo (.yield lpl) [] []),lk_ 5],[(5,.itr k l seen cur),(618,.arr 1 (st.map Qb)),(620,.lp lpl (UX lpf) (QaY (.L 621)) 0),(621,.var [.own 618 st.length]),(622,.var [.map 623]),(623,.mapX k l (HG V.I V.I L4) (QN V.I V.I i))]⟩) (λ(q:Empty) _ _=>False) (λ_ e σ=>∃st:L_ Int,st.Perm (c++i.map Prod.fst)/\e=.exit 0/\σ=⟨[],[(618,.arr 1 (st.map Qb)),(620,.lp lpl (UX lpf) (QaY (.L 621)) 0),(621,.var [.own 618 st.length]),(622,.var [.map 623]),(623,.mapX k l (HG V.I V.I L4) (QN V.I V.I i))]⟩) p s (Qpb i 0) (ex_ _ (ex_ c (an_ z rfl))) ?_ ?_
 ·rintro P seen σ ⟨cur,o,hpp,rfl⟩ hex
  refine tg_ a [2] ?_
  refine AK.nextT (b:=5) (m:=623) rfl rfl rfl (QZ a.n rfl) rfl rfl rfl rfl ?_ ?_
  ·intro hleft
   refine tg_ a [7,.K [] [618,620,621,622,623]] ?_
   exact AK.done (Or.inl (an_ hleft (an_ (λh=>(by cases h)) (ex_ o (an_ (by simpa[hleft] using hpp) (an_ Z Z))))))
  intro D y S u
  have hpk:=(Qb6 p u).map (λq=>q.2.1)
  have w:((o++[y])++(YN L4 (seen.push D)).map (λq=>q.2.1)).Perm (c++i.map Prod.fst):=List.Perm.trans (by simpa using (List.Perm.append_left o hpk).symm) hpp
  have O:o.length+([y]:L_ Int).length<=4294967296:=by
   have:=w.length_eq
   simp at this ⊢
   omega
  have t:Wn o y=some (o++[y]):=by
   unfold Wn
   rw[QE O];rfl
  obtain⟨j,hxe⟩:∃x,x=o++[y]:=⟨_,rfl⟩
  rw[<-hxe]at t w
  refine Qx a [10,.x (λσ=>σ.put 8 (.tup [.I y,.I S])),8,.x (λσ=>(σ.after [618] [(618,.arr 1 (j.map Qb)),(620,.lp lpl (UX lpf) (QaY (.L 621)) 0),(621,.var [.own 618 j.length])]).put 12 (.b true)),6,.K [0,5] [5,618,620,621,622,623]] Z (a2_ (Ql.entryT (b:=5) (m:=623) (e:=V.I) (f:=V.I) Z Z (QZ a.n Z) Z u Z Z) (Ql.yieldV (b:=620) (M:=[(620,620),(621,621),(618,618)]) (N:=[(618,618),(620,620),(621,621)]) (dead:=[618]) (ms:=[.d,.d,.d,.d,.d,.d,.d,.d,.d,.d,.d,.d,.d]) (outs:=[(618,.arr 1 (j.map Qb)),(620,.lp lpl (UX lpf) (QaY (.L 621)) 0),(621,.var [.own 618 j.length])]) (r:=.b true) Z Z Z Z Z Z Z (QZ a.n Z) a.g Z Z (HI _ _ _ _ t))) ?_
  exact AK.done (Or.inr (ex_ _ (an_ u (Or.inl (ex_ (P+1) (an_ Z (an_ Z (ex_ _ (ex_ j (an_ w Z))))))))))
 rintro e σ ⟨o,hpp,rfl,rfl⟩
 refine tg_ a [1] ?_
 refine AK.closeMap (b:=623) rfl ?_
 refine tg_ a [.K [] [618,620,621,622,623]] ?_
 refine AK.done ?_
 exact ex_ [] (an_ U (ex_ o (an_ hpp (gives r5_))))
def Rm (a:QBg)(h:a.length<=4294967296):QU prog 209 [.Y,.clo (.func 159) [] [.L 620]] [(620,.var [.map 621]),(621,.map (QN V.I V.I a))] (λv hs=>∃r:L_ Int,r.Perm (a.map Prod.fst)/\Gives (.own 600 r.length) [(600,.arr 1 (r.map Qb)),(620,.var [.map 621]),(621,.map (QN V.I V.I a))] v hs):=by
 refine QU.walkR 13 func209 Z ntmps209 Z λC c hR=>?_
 refine tg_ c [13,.K [2,4,6] [2,620,621]] ?_
 refine Qx c [.adoptO 2 0 607 1,.O 607 (.arr 1 (([]:L_ Int).map Qb)),.O 2 (.var [.own 607 ([]:L_ Int).length])] Z (a2_ Z Z) ?_
 refine AK.rangeFE (ι:=L_ Int) (Φ:=λx=>x.Perm (a.map Prod.fst)) 617 [2] [(620,617),(621,2),(618,607),(622,620),(623,621)] [(607,618),(617,620),(2,621),(620,622),(621,623)] [607] [.d,.d] UX c hR (λ_=>rfl) rfl rfl rfl rfl λlpl lpf=>?_
 refine ex_ (λb:L_ Int=>[(618,.arr 1 (b.map Qb)),(620,.lp lpl (UX lpf) (QaY (.L 621)) 0),(621,.var [.own 618 b.length]),(622,.var [.map 623]),(623,.map (QN V.I V.I a))]) (ex_ (λ_=>.tup []) (ex_ (λb=>_) (ex_ _ (ex_ _ (an_ rfl (an_ rfl (an_ (LE _ _ ([]:L_ Int) a (by simpa using h)) λb=>ex_ _ (ex_ (QaY (.L 2)) (ex_ 0 (an_ rfl (an_ rfl (an_ (bne_iff_ne.1 (show(0 != 1)=true from rfl)) λD=>?_))))))))))))
 refine QrS Z ?_
 refine tg_ c [9,.K [4] [607,620,621],.ren 607 600,.K [4] [600,620,621]] ?_
 exact AK.done (ex_ [_] (an_ (an_ Z U) (ex_ b (an_ D (gives r3_)))))
def ZD (a:QBg)(h:a.length<=4294967296):QU prog 158 [.clo (.func 159) [] [.L 620]] [(620,.var [.map 621]),(621,.map (QN V.I V.I a))] (λv hs=>∃r:L_ Int,r.Perm (a.map Prod.fst)/\Gives (.own 600 r.length) [(600,.arr 1 (r.map Qb)),(620,.var [.map 621]),(621,.map (QN V.I V.I a))] v hs):=by
 refine wk_ 5 func158 λC c=>?_
 refine tg_ c [8] ?_
 refine AK.callE (ι:=L_ Int) (Φ:=λx=>x.Perm (a.map Prod.fst)) [(620,620),(621,621)] [(4,600),(620,620),(621,621)] [] [.d,.d] (λb=>[(600,.arr 1 (b.map Qb)),(620,.var [.map 621]),(621,.map (QN V.I V.I a))]) (λb=>(.own 600 b.length)) (λb=>_) rfl c (Jk.fn rfl rfl rfl) rfl (QZ c.n rfl) rfl rfl (Rm a h) (λb=>ex_ _ rfl) λb D=>?_
 refine tg_ c [4,.K [2] [4,620,621],.ren 4 600,.K [2] [600,620,621]] ?_
 exact AK.done (ex_ [_] (an_ (an_ Z U) (ex_ b (an_ D (gives r3_)))))
def Jh (l:L_ Int):O_ LI_:=(chk (l.length<4611686018427387904)).bind λ_=>some (DI l)
def Ga (l){r}(h:Jh l=some r):QU prog 29 [.own 620 l.length] [(620,.arr 1 (l.map Qb))] (Gives (.tup []) [(620,.arr 1 (r.map Qb))]):=by
 obtain⟨_,a,h⟩:=Qv h
 cases h
 exact Qnb Qph l (Xo (QjQ a))
def HJ (a:QBg):O_ LI_:=(chk (a.length<=4294967296)).bind λ_=>some (DI (a.map Prod.fst))
def QaZ (a):CT 100 [.clo (.func 159) [] [.L 620]] [(620,.var [.map 621]),(621,.map (QN V.I V.I a))] (HJ a) (λr=>(.own 600 r.length)) (λr=>[(600,.arr 1 (r.map Qb)),(620,.var [.map 621]),(621,.map (QN V.I V.I a))]):=by
 refine W 9 func100 rfl λC e r h=>?_
 obtain⟨_,D,h⟩:=Qv h
 replace D:=Xo (QjQ D)
 cases h
 refine tg_ e [8] ?_
 refine AK.callE (ι:=L_ Int) (Φ:=λx=>x.Perm (a.map Prod.fst)) [(620,620),(621,621)] [(5,600),(620,620),(621,621)] [] [.d] (λb=>[(600,.arr 1 (b.map Qb)),(620,.var [.map 621]),(621,.map (QN V.I V.I a))]) (λb=>(.own 600 b.length)) (λb=>_) rfl e (Jk.fn rfl rfl rfl) rfl (QZ e.n rfl) rfl rfl (ZD a D) (λb=>ex_ _ rfl) λb hpp=>?_
 have f:Jh b=some (DI (a.map Prod.fst)):=by
  unfold Jh
  rw[QE (by have:=hpp.length_eq;simp at this;omega),Qoc hpp];rfl
 have c:(DI (a.map Prod.fst)).length=b.length:=by rw[Gv,hpp.length_eq]
 refine Qx e [6,.cm (.fn) [(620,5)] [(5,620)] [] [.d] [(620,.arr 1 (((DI (a.map Prod.fst))).map Qb))] (.tup []),.S 3 (.own 5 (DI (a.map Prod.fst)).length),.S 5 (.own 5 (DI (a.map Prod.fst)).length),.S 6 (.own 5 (DI (a.map Prod.fst)).length),9,.K [2] [5,620,621],.ren 5 600,.K [2] [600,620,621]] Z (a4_ (Ga _ f) (by simp[c]) (by simp[c]) (by simp[c])) ?_
 exact AK.done (ex_ [_] (an_ (an_ Z U) (gives r3_)))
def GJ (b:Int)(a:QBg):O_ ((Int×QBg)⊕QBg):=some (.inl ((Qi (b+1)),a))
def WL (e:LI_)(d:QBg)(b:Int)(c:QBg):O_ ((Int×QBg)⊕QBg):=bif (b<(e.length:Int))then (idx e b).bind λa=>bif (0<((QR d a).getD 0))then (chk (c.length+([(a,((QR d a).getD 0))]:QBg).length<=4294967296)).bind λ_=>GJ b (c++([(a,((QR d a).getD 0))]:QBg))else GJ b c else some (.inr c)
def Qc3 (a:QBg):O_ QBg:=some a
def GP (a:QBg):O_ QBg:=(DZ a).bind λc=>(HJ a).bind λb=>(Qu (λst=>WL b a st.1 st.2) (0,([]:QBg))).bind (λq=>Qc3 q)
def HK (b):CT 58 [.map 620] [(620,.map (QN V.I V.I b))] (GP b) (λr=>(.own 600 r.length)) (λr=>[(600,.arr 2 (r.map Qm)),(620,.map (QN V.I V.I b))]):=
 W 28 func58 Z λC c r h=>B h λP u h=>B h λm w h=>g4_ c [14,.cm (.fn) [(620,620)] [(7,1),(620,620)] [] [.d] [(1,.var [.map 620]),(620,.map (QN V.I V.I b))] (.clo (.func 159) [] [.L 1]),.cm (.fn) [(620,7),(621,620)] [(8,600),(7,620),(620,621)] [] [.d] [(600,.arr 1 (m.map Qb)),(620,.var [.map 621]),(621,.map (QN V.I V.I b))] (.own 600 m.length),5,.adopt 3 18 2,.O 18 (.arr 2 (([]:QBg).map Qm)),.S 3 (.own 18 ([]:QBg).length)] Z (MW _ _ u) (QaZ _ _ w) Z (congrArg (λn=>V.own 18 n) (by simp))<|lp_ h (λst=>⟨[(0,.map 620),(3,.own 18 st.2.length),(8,.own 8 m.length),(9,.I (m.length:Int)),(10,.I st.1)],[(8,.arr 1 (m.map Qb)),(18,.arr 2 (st.2.map Qm)),(620,.map (QN V.I V.I b))]⟩) (λq=>(.exit 0,⟨[(3,.own 18 q.length)],[(18,.arr 2 (q.map Qm)),(620,.map (QN V.I V.I b))]⟩)) Z (λ⟨y,D⟩ o h=>H c [6] Z<|I h (λg h=>J c [.T,2] Z g<|mE_ (λi:QBg=>⟨[(0,.map 620),(3,.own 18 i.length),(8,.own 8 m.length),(9,.I (m.length:Int)),(10,.I y)],[(8,.arr 1 (m.map Qb)),(18,.arr 2 (i.map Qm)),(620,.map (QN V.I V.I b))]⟩) (λi=>GJ y i=some o) (B h λa p h=>g3_ c [4,.o (.row (Qb a)),7,.o (.any (.I ((QR b a).getD 0)) none),3] Z (Yi p Z) (XP (Yl p).2) (λσ s x _=>Ql.lookup (e:=V.I) (f:=V.I) (l:=b) (k:=a) (z:=0) Z Z (QZ c.n Z) (s _ _ Z) (x _ _ Z) (s _ _ Z) Es DM Mq Z)<|I h (λj h=>X h λt h=>G c [.T,5,.o (.any (.I ((QR b a).getD 0)) none),.A (Qm (a,((QR b a).getD 0))),.v (.bd []) [] (.sl 2 (([(a,((QR b a).getD 0))]:QBg).map Qm)),.app ((D++([(a,((QR b a).getD 0))]:QBg)).map Qm) (D++([(a,((QR b a).getD 0))]:QBg)).length,3] Z (a5_ j (λσ s x _=>Ql.lookup (e:=V.I) (f:=V.I) (l:=b) (k:=a) (z:=0) Z Z (QZ c.n Z) (s _ _ Z) (x _ _ Z) (s _ _ Z) Es DM Mq Z) Z Z ⟨Qc,XU t Qc,Xu,Yc Qc⟩)<|me_ h Z) λj h=>J c [.F,2] Z j<|me_ h Z) λi h=>H c [4] Z<|rN_ h Z) λg h=>J c [.F,2] Z g<|rX_ h Z) λN h=>H c [9,.K [2] [18,620],.ren 18 600] Z<|E h Z r2_
def Se (b:Int)(a:QBg):O_ ((Int×QBg)⊕QBg):=some (.inl ((Qi (b+1)),a))
def BS (d:LI_)(b:Int)(c:QBg):O_ ((Int×QBg)⊕QBg):=bif (b<(d.length:Int))then (idx d b).bind λa=>bif (0<=a)then Se b (YI Ue c a (min2 (Qi (((QR c a).getD 0)+1)) 1048576))else Se b c else some (.inr c)
def Qa0 (b:QBg):O_ QBg:=(GP b).bind λa=>some a
def NS (a:LI_):O_ QBg:=(Qu (λst=>BS a st.1 st.2) (0,([]:QBg))).bind (λq=>Qa0 q)
def Qgb (i):CT 36 [.sl 1 (i.map Qb)] [] (NS i) (λr=>(.own 600 r.length)) (λr=>[(600,.arr 2 (r.map Qm))]):=
 W 25 func36 Z λC c r h=>K c [8,.O 6 (.map (QN V.I V.I ([]:QBg))),7,.o (.ln i.length),4] Z Z Qc<|lp_ h (λst=>⟨[(3,.map 6),(7,.sl 1 (i.map Qb)),(8,.I (i.length:Int)),(9,.I st.1)],[(6,.map (QN V.I V.I st.2))]⟩) (λq=>(.exit 0,⟨[(3,.map 6)],[(6,.map (QN V.I V.I q))]⟩)) Z (λ⟨u,m⟩ o h=>H c [6] Z<|I h (λj h=>J c [.T,2] Z j<|mE_ (λg:QBg=>⟨[(3,.map 6),(7,.sl 1 (i.map Qb)),(8,.I (i.length:Int)),(9,.I u)],[(6,.map (QN V.I V.I g))]⟩) (λg=>Se u g=some o) (B h λa p h=>J c [3,.o (.row (Qb a)),10] Z (QF p)<|I h (λb h=>g3_ c [.T,5,.o (.any (.I ((QR m a).getD 0)) none),2,.x (λσ=>σ.set 6 (.map (QN V.I V.I (YI Ue m a (min2 (Qi (((QR m a).getD 0)+1)) 1048576))))),2] Z b (λσ w y _=>Ql.lookup (e:=V.I) (f:=V.I) (l:=m) (k:=a) (z:=0) Z Z (QZ c.n Z) (w _ _ Z) (y _ _ Z) (w _ _ Z) Es DM Mq Z) (Ql.mapUpdate (e:=V.I) (f:=V.I) (l:=m) (k:=a) (v:=(min2 (Qi (((QR m a).getD 0)+1)) 1048576)) Ue Z Z Z Z Z Z Es DM Z)<|me_ h Z) λb h=>J c [.F,2] Z b<|me_ h Z) λg h=>H c [4] Z<|rN_ h Z) λj h=>J c [.F,2] Z j<|rX_ h Z) λD h=>B h λs t h=>J c [5,.cm (.fn) [(620,6)] [(24,600),(6,620)] [] [.d] [(600,.arr 2 (s.map Qm)),(620,.map (QN V.I V.I D))] (.own 600 s.length),4,.K [2] [24],.ren 24 600] Z (HK _ _ t)<|E h Z r1_
def Dz (d:QBg)(a:Int)(c:Int):O_ ((Int×Int)⊕(Unit⊕Unit)):=
 bif (c<(d.length:Int))then
 (idx d c).bind λb=>
 bif ((b.1<=a)||((b.2<1)||(1048576<b.2)))then
 some (.inr (.inl ()))
 else
 some (.inl (b.1,(Qi (c+1))))
 else
 some (.inr (.inr ()))
def Rw : O_ Bool:=some false
def Rx : O_ Bool:=some true
def WQ (a:QBg):O_ Bool:=(Qu (λst=>Dz a st.1 st.2) ((-1),0)).bind (Sum.elim (λq=>Rw) (λq=>Rx))
def UN (i):CT 72 [.sl 2 (i.map Qm)] [] (WQ i) V.b no_:=
 W 29 func72 Z λC f r h=>J f [14,.o (.ln i.length),4] Z Qc<|lq_ h (λst=>⟨[(3,.I st.1),(6,.sl 2 (i.map Qm)),(7,.I (i.length:Int)),(8,.I st.2)],[]⟩) (λq=>(.ret,⟨[(2,.b false)],[]⟩)) (λq=>(.exit 0,⟨[],[]⟩)) Z (λ⟨a,l⟩ o h=>H f [6] Z<|I h (λj h=>B h λd k h=>g4_ f [.T,6,.o (.row (Qm d)),.A (Qm d),2,.O 5 (.var (Qm d)),4] Z j (QF k) Z Z<|Y ⟨[lk_ 5,(6,.sl 2 (i.map Qm)),(7,.I (i.length:Int)),(8,.I l),(25,.b ((d.1<=a)||((d.2<1)||(1048576<d.2))))],[(5,.var (Qm d))]⟩ (H f [6] Z<|bO_ (decide (d.1<=a)) (λc=>G f [.S 16 (.b true),10,.S 25 (.b ((d.1<=a)||((d.2<1)||(1048576<d.2))))] Z ⟨(tc_ c),(cb_ (KF c Z))⟩<|M Z) λc=>L f [.S 16 (.b false),5] Z c<|bO_ (decide (d.2<1)) (λe=>G f [.S 21 (.b true),5,.S 25 (.b ((d.1<=a)||((d.2<1)||(1048576<d.2))))] Z ⟨(tc_ e),(cb_ (Yu c (KF e Z)))⟩<|M Z) λe=>G f [.S 21 (.b false),5,.S 25 (.b ((d.1<=a)||((d.2<1)||(1048576<d.2))))] Z ⟨(tc_ e),(cb_ (Yu c (Yu e Z)))⟩<|M Z)<|H f [1] Z<|I h (λg h=>J f [.T,9] Z g<|rR_ h Z) λg h=>J f [.F,13] Z g<|rN_ h Z) λj h=>J f [.F,2] Z j<|rX_ h Z) (λ_ h=>H f [2] Z<|E h Z U) (λ_ h=>H f [8] Z<|E h Z U)
def BT (c:QBg)(b:Int)(d:QBg):O_ ((Int×QBg)⊕QBg):=bif (b<(c.length:Int))then (idx c b).bind λa=>some (.inl ((Qi (b+1)),(YI Ue d a.1 a.2)))else some (.inr d)
def Qgc (a:QBg):O_ (Unit⊕QBg):=some (.inr a)
def NT (a:QBg):O_ (Unit⊕QBg):=(WQ a).bind λb=>bif (!b)then some (.inl ())else (Qu (λst=>BT a st.1 st.2) (0,([]:QBg))).bind (λq=>Qgc q)
def UJ (m){r}(h:NT m=some r):QU prog 99 [.sl 2 (m.map Qm)] [] ((Sum.elim (λq=>(Gives (.tup [.lit (.map none),.b false]) [])) (λq=>(Gives (.tup [.map 601,.b true]) [(601,.map (QN V.I V.I q))]))) r):=by
 refine wk_ 24 func99 λC i=>?_
 obtain⟨y,t,h⟩:=Qv h
 refine Qx i [10,.o (.C1 (.b y)),3] Z (A (UN _ _ t)) ?_
 refine bg_ h (λj h=>Qx i [.T,8,.K [2,3] []] rfl (A j) ?_) λj h=>Qx i [.F,5,.O 10 (.map (QN V.I V.I ([]:QBg))),7,.o (.ln m.length),4,.K [4,11,12,13] [10]] rfl (a3_ j rfl Qc) ?_
 ·cases h
  exact AK.done (ex_ [_,_] (an_ (an_ Z (an_ Z U)) (gives U)))
 obtain⟨u,p,h⟩:=Qv h
 refine AK.loop (body:=(λst=>BT m st.1 st.2)) (λst σ=>σ=⟨[(4,.map 10),(11,.sl 2 (m.map Qm)),(12,.I (m.length:Int)),(13,.I st.1)],[(10,.map (QN V.I V.I st.2))]⟩) (λq e σ=>e=.exit 0/\σ=⟨[(4,.map 10)],[(10,.map (QN V.I V.I q))]⟩) p rfl ?_ ?_
 ·rintro ⟨z,w⟩ o σ rfl h
  refine tg_ i [6] ?_
  rcases Xy h with⟨g,h⟩|⟨g,h⟩
  ·obtain⟨a,s,h⟩:=Qv h
   refine Qx i [.T,6,.o (.row (Qm a)),.A (Qm a),2,.O 6 (.var (Qm a)),8,.x (λσ=>σ.set 10 (.map (QN V.I V.I (YI Ue w a.1 a.2)))),7,.K [4,11,12,13] [10]] Z (a5_ g (QF s) Z Z (Ql.mapUpdate (e:=V.I) (f:=V.I) (l:=w) (k:=a.1) (v:=a.2) Ue Z Z Z Z Z Z Es DM Z)) ?_
   cases h
   exact Vn Z Z
  refine Qx i [.F,2,.K [4] [10]] Z (A g) ?_
  cases h
  exact QaV Z (an_ Z Z)
 replace h:Qgc u=some r:=h
 rintro e σ ⟨rfl,rfl⟩
 refine tg_ i [10,.K [2,3] [10],.ren 10 601,.K [2,3] [601]] ?_
 cases h
 exact AK.done (ex_ [_,_] (an_ (an_ Z (an_ Z U)) (gives r1_)))
def QcN (a:Unit):O_ (Unit⊕(QBg⊕(QBg⊕(QBg×QBg)))):=some (.inl ())
def QcO (a:QBg):O_ (Unit⊕(QBg⊕(QBg⊕(QBg×QBg)))):=some (.inr (.inl a))
def SL (a:QBg)(b:Unit):O_ (Unit⊕(QBg⊕(QBg⊕(QBg×QBg)))):=(NT a).bind (Sum.elim (λq=>QcN q) (λq=>QcO q))
def QcP (a:QBg)(b:Unit):O_ (Unit⊕(QBg⊕(QBg⊕(QBg×QBg)))):=some (.inr (.inr (.inl a)))
def QcQ (b:QBg)(a:QBg):O_ (Unit⊕(QBg⊕(QBg⊕(QBg×QBg)))):=some (.inr (.inr (.inr (b,a))))
def SM (b:QBg)(a:QBg):O_ (Unit⊕(QBg⊕(QBg⊕(QBg×QBg)))):=(NT b).bind (Sum.elim (λq=>QcP a q) (λq=>QcQ a q))
def LF (b:QBg)(a:QBg):O_ (Unit⊕(QBg⊕(QBg⊕(QBg×QBg)))):=(NT b).bind (Sum.elim (λq=>SL a q) (λq=>SM a q))
def JO (s j){r}(h:LF s j=some r):QU prog 57 [.sl 2 (s.map Qm),.sl 2 (j.map Qm)] [] ((Sum.elim (λq=>(Gives (.tup [.lit (.map none),.lit (.map none),.b false]) [])) (Sum.elim (λq=>(Gives (.tup [.lit (.map none),.map 603,.b false]) [(603,.map (QN V.I V.I q))])) (Sum.elim (λq=>(Gives (.tup [.map 602,.lit (.map none),.b false]) [(602,.map (QN V.I V.I q))])) (λq=>(Gives (.tup [.map 602,.map 603,.b true]) [(602,.map (QN V.I V.I q.1)),(603,.map (QN V.I V.I q.2))]))))) r):=by
 refine wk_ 25 func57 λC e=>?_
 obtain⟨t,f,h⟩:=Qv h
 refine tg_ e [10] ?_
 rcases t with(u | k)
 ·replace h:SL j u=some r:=h
  obtain⟨l,a,h⟩:=Qv h
  refine Qx e [.cm (.fn) [] [] [] [.d] [] (.tup [.lit (.map none),.b false]),10] Z (A (UJ _ f)) ?_
  rcases l with(m | g)
  ·replace h:QcN m=some r:=h
   refine Qx e [.cm (.fn) [] [] [] [.d] [] (.tup [.lit (.map none),.b false]),21,.K [4,5,6] []] Z (A (UJ _ a)) ?_
   cases h
   exact AK.done (ex_ [_,_,_] (an_ (an_ Z (an_ Z (an_ Z U))) (gives U)))
  replace h:QcO g=some r:=h
  refine Qx e [.cm (.fn) [] [(16,601)] [] [.d] [(601,.map (QN V.I V.I g))] (.tup [.map 601,.b true]),21,.K [4,5,6] [16],.ren 16 603,.K [4,5,6] [603]] Z (A (UJ _ a)) ?_
  cases h
  exact AK.done (ex_ [_,_,_] (an_ (an_ Z (an_ Z (an_ Z U))) (gives r1_)))
 replace h:SM j k=some r:=h
 obtain⟨o,c,h⟩:=Qv h
 refine Qx e [.cm (.fn) [] [(11,601)] [] [.d] [(601,.map (QN V.I V.I k))] (.tup [.map 601,.b true]),10] Z (A (UJ _ f)) ?_
 rcases o with(p | i)
 ·replace h:QcP k p=some r:=h
  refine Qx e [.cm (.fn) [] [] [] [.d] [] (.tup [.lit (.map none),.b false]),21,.K [4,5,6] [11],.ren 11 602,.K [4,5,6] [602]] Z (A (UJ _ c)) ?_
  cases h
  exact AK.done (ex_ [_,_,_] (an_ (an_ Z (an_ Z (an_ Z U))) (gives r1_)))
 replace h:QcQ k i=some r:=h
 refine Qx e [.cm (.fn) [] [(16,601)] [] [.d] [(601,.map (QN V.I V.I i))] (.tup [.map 601,.b true]),21,.K [4,5,6] [11,16],.ren 11 602,.K [4,5,6] [16,602],.ren 16 603,.K [4,5,6] [602,603]] Z (A (UJ _ c)) ?_
 cases h
 exact AK.done (ex_ [_,_,_] (an_ (an_ Z (an_ Z (an_ Z U))) (gives r2_)))
def QdM (a:Unit):O_ (QBg×Int):=some (([]:QBg),1)
def QdN (a:QBg):O_ (QBg×Int):=some (([]:QBg),1)
def QdO (a:QBg):O_ (QBg×Int):=some (([]:QBg),1)
def CB (b:QBg)(a:Int)(c:Int):O_ (QBg⊕Unit):=bif (1048576<((QR (YI Ue b a (Qi (((QR b a).getD 0)+c))) a).getD 0))then some (.inr ())else some (.inl (YI Ue b a (Qi (((QR b a).getD 0)+c))))
def Pe (a:QBg):O_ (QBg×Int):=(GP a).bind λb=>some (b,0)
def Vv : O_ (QBg×Int):=some (([]:QBg),2)
def Vx (a:(QBg×QBg)):O_ (QBg×Int):=(Hj (λst p=>CB st p.1 p.2) a.1 a.2).bind (Sum.elim (λq=>Pe q) (λq=>Vv))
def Ji (a:QBg)(b:QBg):O_ (QBg×Int):=(LF a b).bind (Sum.elim (λq=>QdM q) (Sum.elim (λq=>QdN q) (Sum.elim (λq=>QdO q) (λq=>Vx q))))
def Vy (a1 b2):CT 35 [.sl 2 (a1.map Qm),.sl 2 (b2.map Qm)] [] (Ji a1 b2) (λr=>(.tup [.sl 2 (r.1.map Qm),.I r.2])) no_:=by
 refine W 38 func35 rfl λC g r h=>?_
 obtain⟨x7,w,h⟩:=Qv h
 refine tg_ g [10] ?_
 rcases x7 with(a8 | (a9 | (P | y)))
 ·exact have h:QdM a8=some r:=h;J g [.cm (.fn) [] [] [] [.d,.d] [] (.tup [.lit (.map none),.lit (.map none),.b false]),25,.denil 4 [some 2]] Z (JO _ _ w)<|F h Z Z U
 ·exact have h:QdN a9=some r:=h;J g [.cm (.fn) [] [(14,603)] [] [.d,.d] [(603,.map (QN V.I V.I a9))] (.tup [.lit (.map none),.map 603,.b false]),25,.denil 4 [some 2]] Z (JO _ _ w)<|F h Z Z U
 ·exact have h:QdO P=some r:=h;J g [.cm (.fn) [] [(14,602)] [] [.d,.d] [(602,.map (QN V.I V.I P))] (.tup [.map 602,.lit (.map none),.b false]),25,.denil 4 [some 2]] Z (JO _ _ w)<|F h Z Z U
 replace h:Vx y=some r:=h
 refine Qx g [.cm (.fn) [] [(14,602),(613,603)] [] [.d,.d] [(602,.map (QN V.I V.I y.1)),(603,.map (QN V.I V.I y.2))] (.tup [.map 602,.map 603,.b true]),23] Z (A (JO _ _ w)) ?_
 refine AK.openMapK (b:=613) DM rfl λs t L12 D a2 N=>?_
 refine Qx g [.x (λσ=>(σ.set 21 (.itr s t #[] none)).put 21 (.L 21)),3,.K [6,21] [14,21,613]] Z (A (Ql.range (b:=613) Z Z (QZ g.n Z) Z Z Es Z)) ?_
 obtain⟨a3,S,h⟩:=Qv h
 refine AK.range (body:=(λst p=>CB st p.1 p.2)) (λst seen σ=>∃cur:O_ Nat,σ=⟨[(6,.map 14),lk_ 21],[(14,.map (QN V.I V.I st)),(21,.itr s t seen cur),(613,.mapX s t (HG V.I V.I L12) (QN V.I V.I y.2))]⟩) (λq e σ=>e=.ret/\σ=⟨[(4,.Y),(5,.I 2)],[]⟩) (λst e σ=>e=.exit 0/\σ=⟨[(6,.map 14)],[(14,.map (QN V.I V.I st))]⟩) D N S (ex_ _ rfl) ?_ ?_
 ·rintro a seen σ ⟨cur,rfl⟩ hex
  refine tg_ g [2] ?_
  refine AK.nextT (b:=21) (m:=613) rfl rfl rfl (QZ g.n rfl) rfl rfl rfl rfl ?_ ?_
  ·intro hleft
   refine tg_ g [7,.K [6] [14]] ?_
   exact AK.done (Or.inl (an_ hleft (an_ (λh=>(by cases h)) (an_ Z Z))))
  intro a4 c j i
  obtain⟨o,h⟩:=hex _ i
  have ho:=h
  replace h:CB a c j=some o:=h
  refine Qx g [10,.x (λσ=>σ.put 24 (.tup [.I c,.I j])),10,.o (.any (.I ((QR a c).getD 0)) none),2,.x (λσ=>σ.set 14 (.map (QN V.I V.I (YI Ue a c (Qi (((QR a c).getD 0)+j)))))),6,.o (.any (.I ((QR (YI Ue a c (Qi (((QR a c).getD 0)+j))) c).getD 0)) none),3] Z (a4_ (Ql.entryT (b:=21) (m:=613) (e:=V.I) (f:=V.I) Z Z (QZ g.n Z) Z i Z Z) (λσ h1 h2 _=>Ql.lookup (e:=V.I) (f:=V.I) (l:=a) (k:=c) (z:=0) Z Z (QZ g.n Z) (h1 _ _ Z) (h2 _ _ Z) (h1 _ _ Z) Es DM Mq Z) (Ql.mapUpdate (e:=V.I) (f:=V.I) (l:=a) (k:=c) (v:=(Qi (((QR a c).getD 0)+j))) Ue Z Z Z Z Z Z Es DM Z) (λσ h1 h2 _=>Ql.lookup (e:=V.I) (f:=V.I) (l:=(YI Ue a c (Qi (((QR a c).getD 0)+j)))) (k:=c) (z:=0) Z Z (QZ g.n Z) (h1 _ _ Z) (h2 _ _ Z) (h1 _ _ Z) Es DM Mq Z)) ?_
  refine bq_ g h [.T,8,.K [4,5] []] rfl (λu h=>?_) [.F,2,.K [6,21] [14,21,613]] rfl λu h=>?_
  ·cases h
   exact AK.done (Or.inr (ex_ _ (an_ i (Or.inr (ex_ _ (an_ ho (an_ (λh=>(by cases h)) (an_ Z Z))))))))
  cases h
  exact AK.done (Or.inr (ex_ _ (an_ i (Or.inl (ex_ _ (an_ ho (an_ Z (ex_ _ Z))))))))
 rcases a3 with(a | _)
 ·replace h:Pe a=some r:=h
  unfold Pe at h
  rintro e σ ⟨rfl,rfl⟩
  exact B h λO a0 h=>K g [5,.cm (.fn) [(620,14)] [(37,600),(14,620)] [] [.d] [(600,.arr 2 (O.map Qm)),(620,.map (QN V.I V.I a))] (.own 600 O.length),5,.frz 37 (O.map Qm) [4] []] Z (HK _ _ a0) (A (Ye Qc))<|F h Z Z U
 replace h:Vv=some r:=h
 unfold Vv at h
 rintro e σ ⟨rfl,rfl⟩
 exact H g [2,.denil 4 [some 2]] Z<|F h Z Z U
def WF (b:QMk)(c:Int)(a:QBg):O_ ((Int×QMk)⊕QMk):=(chk (b.length+([a]:L_ QBg).length<=4294967296)).bind λ_=>some (.inl ((Qi (c+1)),(b++([a]:L_ QBg))))
def WG (e:Qk)(b:Int)(d:QMk):O_ ((Int×QMk)⊕QMk):=bif (b<(e.Places.length:Int))then (idx e.Places b).bind λf=>(Yz f.First).bind λa=>bif (b==e.From)then (NS ([0]:L_ Int)).bind λg=>(Ji a g).bind λc=>bif (c.2==0)then WF d b c.1 else WF d b a else WF d b a else some (.inr d)
def Qik (a:QMk):O_ QMk:=some a
def Gb (a:Qk):O_ QMk:=(Qu (λst=>WG a st.1 st.2) (0,([]:L_ QBg))).bind (λq=>Qik q)
def ZW (g):CT 17 [.agg (Qa g)] [] (Gb g) (λr=>(.own 600 r.length)) (λr=>[(600,.arr 1 (r.map Qe))]):=
 W 40 func17 Z λC b r h=>g3_ b [16,.o (.ln g.Places.length),4,.adopt 3 34 1,.O 34 (.arr 1 (([]:L_ QBg).map Qe)),.S 3 (.own 34 ([]:L_ QBg).length)] Z Qc Z (congrArg (λn=>V.own 34 n) (by simp))<|lp_ h (λst=>⟨[lk_ 1,(3,.own 34 st.2.length),(10,.sl 3 (g.Places.map Qw)),(11,.I (g.Places.length:Int)),(12,.I st.1)],[(1,.var (Qa g)),(34,.arr 1 (st.2.map Qe))]⟩) (λq=>(.exit 0,⟨[(3,.own 34 q.length)],[(34,.arr 1 (q.map Qe))]⟩)) Z (λ⟨y,m⟩ o h=>H b [6] Z<|I h (λj h=>B h λk p h=>B h λi s h=>G b [.T,7,.o (.row (Qw k)),.A (Qw k),3,.O 5 (.var (Qw k)),6,.o (.co false [.d] 2 (i.map Qm) i.length),3] Z (a5_ j (QF p) Z Z ⟨(Az _ _ s),Qc,.inl Z⟩)<|mE_ (λa:QBg=>⟨[lk_ 1,(3,.own 34 m.length),(6,.sl 2 (a.map Qm)),(10,.sl 3 (g.Places.map Qw)),(11,.I (g.Places.length:Int)),(12,.I y)],[(1,.var (Qa g)),(34,.arr 1 (m.map Qe))]⟩) (λa=>WF m y a=some o) (H b [8] Z<|I h (λe h=>B h λl t h=>B h λu w h=>G b [.T,3,.v (.bd []) [] (.sl 1 (([0]:L_ Int).map Qb)),.o (.co false [.d] 2 (l.map Qm) l.length),.frz 27 (l.map Qm) [27] [],.frz 19 (i.map Qm) [6,19,25] [],.o (.C2 (.tup [.sl 2 (u.1.map Qm),.I u.2])),13] Z (a6_ e Z ⟨(Qgb _ _ t),Qc,.inl Z⟩ (A (Ye Qc)) (a3_ (Ye Qc) (Ye Qc) (Ye Qc)) (Vy _ _ _ w))<|I h (λf h=>J b [.T,4] Z f<|me_ h Z) λf h=>J b [.F,1] Z f<|me_ h Z) λe h=>K b [.F,1,.frz 19 (i.map Qm) [6] []] Z e (A (Ye Qc))<|me_ h Z) λa h=>X h λx h=>K b [3,.v (.bd []) [] (.sl 1 (([a]:L_ QBg).map Qe)),.app ((m++([a]:L_ QBg)).map Qe) (m++([a]:L_ QBg)).length,8] Z Z ⟨Qc,XU x Qc,Xu,Yc Qc⟩<|rN_ h Z) λj h=>J b [.F,2] Z j<|rX_ h Z) λz h=>H b [9,.K [2] [34],.ren 34 600] Z<|E h Z r1_
def JL (a:QMk):O_ QMk:=(chk ((([]:L_ QBg).length+a.length)*24<=140737488355328)).bind λ_=>some (([]:L_ QBg)++a)
def IJ (b):CT 60 [.sl 1 (b.map Qe)] [] (JL b) (λr=>(.own 600 r.length)) (λr=>[(600,.arr 1 (r.map Qe))]):=by
 refine W 8 func60 rfl λC a r h=>?_
 unfold JL at h
 refine tg_ a [9] ?_
 refine AK.eqNil rfl rfl rfl (QZ a.n rfl) rfl rfl QsB ?_ ?_
 ·intro c
  replace h:some ([]:L_ QBg)=some r:=by simpa[chk,List.map_eq_nil_iff.1 c] using h
  exact K a [10,.adopt 2 600 1,.O 600 (.arr 1 (([]:L_ QBg).map Qe)),.S 2 (.own 600 ([]:L_ QBg).length)] Z Z Z<|E h Z r1_
 exact X h λd h=>g3_ a [8,.O 5 (.arr 1 (([]:L_ QBg).map Qe)),.S 5 (.own 5 ([]:L_ QBg).length),1,.x (λσ=>σ.app 5 1 7 (([]:L_ QBg)++b).length ((([]:L_ QBg)++b).map Qe)),4,.K [2] [5],.ren 5 600] Z Z Z (Ql.appSB (by_:=24) (zs:=[.Y]) (e:=42) (e':=42) (z':=1) (by':=24) Z Z (QZ a.n Z) Z Z Z Qc (by kernel_rfl) (by kernel_rfl) (by kernel_rfl) Z (by decide) (by decide) (QeS d Qc) Z Xu (Yc Qc))<|E h Z r1_
def LG (e:QMk)(a:Int)(b:QMk):O_ ((Int×QMk)⊕QMk):=bif (a<(e.length:Int))then (idx b a).bind λc=>(Yz c).bind λd=>(idx b a).bind λf=>some (.inl ((Qi (a+1)),(b.set a.toNat d)))else some (.inr b)
def Qj2 (a:QMk):O_ QMk:=some a
def HA (b:QMk):O_ QMk:=(JL b).bind λa=>(Qu (λst=>LG a st.1 st.2) (0,a)).bind (λq=>Qj2 q)
def Ry (s):CT 39 [.sl 1 (s.map Qe)] [] (HA s) (λr=>(.own 600 r.length)) (λr=>[(600,.arr 1 (r.map Qe))]):=
 W 22 func39 Z λC f r h=>B h λi j h=>J f [8,.o (.co false [.d] 1 (i.map Qe) i.length),12] Z ⟨(IJ _ _ j),Qc,.inl Z⟩<|lp_ h (λst=>⟨[(3,.own 7 st.2.length),(8,.own 7 st.2.length),(9,.I (i.length:Int)),(10,.I st.1)],[(7,.arr 1 (st.2.map Qe))]⟩) (λq=>(.exit 0,⟨[(3,.own 7 q.length)],[(7,.arr 1 (q.map Qe))]⟩)) Z (λ⟨k,l⟩ o h=>H f [6] Z<|I h (λb h=>B h λm c h=>B h λa g h=>B h λp e h=>G f [.T,8,.o (.row (Qe m)),8,.o (.co false [.d] 2 (a.map Qm) a.length),1,.frz 18 (a.map Qm) [18] [],.st (Qe p) ((l.set k.toNat a).map Qe),7,.S 3 (.own 7 (l.set k.toNat a).length),.S 8 (.own 7 (l.set k.toNat a).length)] Z (a9_ b (Yi c Z) (XP (Yl c).2) ⟨(Az _ _ g),Qc,.inl Z⟩ (Yi e Z) (A (Ye Qc)) ⟨(XP (Yl e).2),Cv Z⟩ (congrArg (λn=>V.own 7 n) (by simp)) (congrArg (λn=>V.own 7 n) (by simp)))<|rN_ h Z) λb h=>J f [.F,2] Z b<|rX_ h Z) λt h=>H f [9,.K [2] [7],.ren 7 600] Z<|E h Z r1_
def Qgo (c:Int)(a:Int)(b:LI_):O_ ((Int×LI_)⊕LI_):=bif (0<=a)then (chk (0<=(Qi (8*a)))).bind λ_=>(chk (b.length+([(IntKind.u8.wrap (Jn .i64 c (Qi (8*a))))]:L_ Int).length<=4294967296)).bind λ_=>some (.inl ((Qi (a-1)),(b++([(IntKind.u8.wrap (Jn .i64 c (Qi (8*a))))]:L_ Int))))else some (.inr b)
def Qgp (b:Int)(a:LI_):O_ ((Int×LI_)⊕LI_):=some (.inl ((Qi (b+1)),a))
def Qgq (d:LI_)(a:Int)(b:Int)(e:LI_):O_ ((Int×LI_)⊕LI_):=bif (b<(d.length:Int))then (idx d b).bind λc=>(Qu (λst=>Qgo c st.1 st.2) ((Qi (a-1)),e)).bind (λq=>Qgp b q)else some (.inr e)
def Qgr (a:LI_):O_ LI_:=some a
def SN (a:Int)(b:LI_):O_ LI_:=(Qu (λst=>Qgq b a st.1 st.2) (0,([]:L_ Int))).bind (λq=>Qgr q)
def Qgs (a g):CT 160 [.Y,.I a,.sl 1 (g.map Qb)] [] (SN a g) (λr=>(.own 600 r.length)) (λr=>[(600,.arr 1 (r.map YX))]):=
 W 32 func160 Z λC c r h=>g3_ c [9,.o (.ln g.length),4,.adopt 0 22 1,.O 22 (.arr 1 (([]:L_ Int).map YX)),.S 0 (.own 22 ([]:L_ Int).length)] Z Qc Z (congrArg (λn=>V.own 22 n) (by simp))<|lp_ h (λst=>⟨[(0,.own 22 st.2.length),(1,.I a),(10,.sl 1 (g.map Qb)),(11,.I (g.length:Int)),(12,.I st.1)],[(22,.arr 1 (st.2.map YX))]⟩) (λq=>(.exit 0,⟨[(0,.own 22 q.length)],[(22,.arr 1 (q.map YX))]⟩)) Z (λ⟨s,w⟩ o h=>H c [6] Z<|I h (λd h=>B h λb j h=>K c [.T,6,.o (.row (Qb b)),12] Z d (QF j)<|lp_ h (λst=>⟨[(0,.own 22 st.2.length),(1,.I a),(8,.I b),(9,.I st.1),(10,.sl 1 (g.map Qb)),(11,.I (g.length:Int)),(12,.I s)],[(22,.arr 1 (st.2.map YX))]⟩) (λq=>(.exit 2,⟨[(0,.own 22 q.length),(1,.I a),(10,.sl 1 (g.map Qb)),(11,.I (g.length:Int)),(12,.I s)],[(22,.arr 1 (q.map YX))]⟩)) Z (λ⟨e,k⟩ o h=>H c [7] Z<|I h (λf h=>X h λl h=>X h λm h=>G c [.T,9,.o (.any (.I (Jn .i64 b (Qi (8*e)))) none),.o (.any (.i .u8 (IntKind.u8.wrap (Jn .i64 b (Qi (8*e))))) none),.v (.bd []) [] (.sl 1 (([(IntKind.u8.wrap (Jn .i64 b (Qi (8*e))))]:L_ Int).map YX)),.app ((k++([(IntKind.u8.wrap (Jn .i64 b (Qi (8*e))))]:L_ Int)).map YX) (k++([(IntKind.u8.wrap (Jn .i64 b (Qi (8*e))))]:L_ Int)).length,9] Z (a5_ f (λσ p t _=>Ql.shr Z Z (QZ c.n Z) (p _ _ Z) (p _ _ Z) (Xo l)) (λσ p t _=>Ql.convI Z Z (QZ c.n Z) (p _ _ Z) Qgn Qof) Z ⟨Qc,XU m Qc,Xu,Yc Qc⟩)<|rN_ h Z) λf h=>J c [.F,2] Z f<|rX_ h Z) λu h=>H c [7] Z<|rN_ h Z) λd h=>J c [.F,2] Z d<|rX_ h Z) λx h=>H c [9,.K [6] [22],.ren 22 600] Z<|E h Z r1_
def UY (c:Int)(a:Int)(b:LI_):O_ ((Int×LI_)⊕LI_):=bif (0<=a)then (chk (0<=(Qi (8*a)))).bind λ_=>(chk (b.length+([(IntKind.u8.wrap (Jn .i64 c (Qi (8*a))))]:L_ Int).length<=4294967296)).bind λ_=>some (.inl ((Qi (a-1)),(b++([(IntKind.u8.wrap (Jn .i64 c (Qi (8*a))))]:L_ Int))))else some (.inr b)
def Vz (b:Int)(a:LI_):O_ ((Int×LI_)⊕LI_):=some (.inl ((Qi (b+1)),a))
def Fs (d:LI_)(a:Int)(b:Int)(e:LI_):O_ ((Int×LI_)⊕LI_):=bif (b<(d.length:Int))then (idx d b).bind λc=>(Qu (λst=>UY c st.1 st.2) ((Qi (a-1)),e)).bind (λq=>Vz b q)else some (.inr e)
def Qgt (a:LI_):O_ LI_:=some a
def AQ (b:LI_)(a:Int)(c:LI_):O_ LI_:=(Qu (λst=>Fs c a st.1 st.2) (0,b)).bind (λq=>Qgt q)
def VA (s a g):CT 160 [.own 618 s.length,.I a,.sl 1 (g.map Qb)] [(618,.arr 1 (s.map YX))] (AQ s a g) (λr=>(.own 618 r.length)) (λr=>[(618,.arr 1 (r.map YX))]):=
 W 32 func160 Z λC c r h=>J c [9,.o (.ln g.length),4] Z Qc<|lp_ h (λst=>⟨[(0,.own 618 st.2.length),(1,.I a),(10,.sl 1 (g.map Qb)),(11,.I (g.length:Int)),(12,.I st.1)],[(618,.arr 1 (st.2.map YX))]⟩) (λq=>(.exit 0,⟨[(0,.own 618 q.length)],[(618,.arr 1 (q.map YX))]⟩)) Z (λ⟨t,y⟩ o h=>H c [6] Z<|I h (λd h=>B h λb j h=>K c [.T,6,.o (.row (Qb b)),12] Z d (QF j)<|lp_ h (λst=>⟨[(0,.own 618 st.2.length),(1,.I a),(8,.I b),(9,.I st.1),(10,.sl 1 (g.map Qb)),(11,.I (g.length:Int)),(12,.I t)],[(618,.arr 1 (st.2.map YX))]⟩) (λq=>(.exit 2,⟨[(0,.own 618 q.length),(1,.I a),(10,.sl 1 (g.map Qb)),(11,.I (g.length:Int)),(12,.I t)],[(618,.arr 1 (q.map YX))]⟩)) Z (λ⟨e,k⟩ o h=>H c [7] Z<|I h (λf h=>X h λl h=>X h λm h=>G c [.T,9,.o (.any (.I (Jn .i64 b (Qi (8*e)))) none),.o (.any (.i .u8 (IntKind.u8.wrap (Jn .i64 b (Qi (8*e))))) none),.v (.bd []) [] (.sl 1 (([(IntKind.u8.wrap (Jn .i64 b (Qi (8*e))))]:L_ Int).map YX)),.app ((k++([(IntKind.u8.wrap (Jn .i64 b (Qi (8*e))))]:L_ Int)).map YX) (k++([(IntKind.u8.wrap (Jn .i64 b (Qi (8*e))))]:L_ Int)).length,9] Z (a5_ f (λσ p u _=>Ql.shr Z Z (QZ c.n Z) (p _ _ Z) (p _ _ Z) (Xo l)) (λσ p u _=>Ql.convI Z Z (QZ c.n Z) (p _ _ Z) Qgn Qof) Z ⟨Qc,XU m Qc,Xu,Yc Qc⟩)<|rN_ h Z) λf h=>J c [.F,2] Z f<|rX_ h Z) λw h=>H c [7] Z<|rN_ h Z) λd h=>J c [.F,2] Z d<|rX_ h Z) λx h=>H c [9] Z<|E h Z r1_
def NU (a:QBg):O_ Bool:=(WQ a).bind λb=>bif (!b)then some true else bif (65535<(a.length:Int))then some true else bif (0<(a.length:Int))then (idx a (Qi ((a.length:Int)-1))).bind λc=>some (decide (4294967295<c.1))else some false
def Ft (b:QBg)(a:Int)(c:LI_):O_ ((Int×LI_)⊕LI_):=bif (a<(b.length:Int))then (idx b a).bind λd=>(AQ c 4 ([d.1,d.2]:L_ Int)).bind λe=>some (.inl ((Qi (a+1)),e))else some (.inr c)
def VB (b:Int)(a:LI_):O_ ((Int×LI_)⊕(Unit⊕LI_)):=some (.inl ((Qi (b+1)),a))
def VC (b:LI_)(a:QBg)(e:Int)(c:Bool):O_ ((Int×LI_)⊕(Unit⊕LI_)):=bif c then some (.inr (.inl ()))else (AQ b 2 ([(a.length:Int)]:L_ Int)).bind λd=>(Qu (λst=>Ft a st.1 st.2) (0,d)).bind (λq=>VB e q)
def Fu (e:QMk)(c:Int)(a:LI_):O_ ((Int×LI_)⊕(Unit⊕LI_)):=bif (c<(e.length:Int))then (idx e c).bind λb=>(NU b).bind (λd=>VC a b c d)else some (.inr (.inr a))
def Qgu : O_ (LI_×Int):=some (([]:L_ Int),1)
def Qgv (a:LI_):O_ (LI_×Int):=some (a,0)
def AR (a:QMk):O_ (LI_×Int):=bif (64<(a.length:Int))then some (([]:L_ Int),1)else (SN 1 ([(a.length:Int)]:L_ Int)).bind λb=>(Qu (λst=>Fu a st.1 st.2) (0,b)).bind (Sum.elim (λq=>Qgu) (λq=>Qgv q))
def VD (f):CT 102 [.sl 1 (f.map Qe)] [] (AR f) (λr=>(.tup [.sl 1 (r.1.map YX),.I r.2])) no_:=
 W 66 func102 Z λC a r h=>J a [10,.o (.ln f.length),3] Z Qc<|I h (λs h=>J a [.T,8,.denil 2 [some 1]] Z s<|F h Z Z U) λs h=>B h λx7 a1 h=>G a [.F,5,.o (.ln f.length),.v (.bd []) [] (.sl 1 (([(f.length:Int)]:L_ Int).map Qb)),.cm (.fn) [] [(15,600)] [] [.d,.d,.d] [(600,.arr 1 (x7.map YX))] (.own 600 x7.length),7,.o (.ln f.length),4] Z (a5_ s Qc Z (Qgs _ _ _ a1) Qc)<|lq_ h (λst=>⟨[(4,.own 15 st.2.length),(16,.sl 1 (f.map Qe)),(17,.I (f.length:Int)),(18,.I st.1)],[(15,.arr 1 (st.2.map YX))]⟩) (λq=>(.ret,⟨[(2,.Y),(3,.I 1)],[]⟩)) (λq=>(.exit 0,⟨[(4,.own 15 q.length)],[(15,.arr 1 (q.map YX))]⟩)) Z (λ⟨x9,u⟩ o h=>H a [6] Z<|I h (λg h=>B h λe w h=>K a [.T,6,.o (.row (Qe e)),6] Z g (QF w)<|mV_ h (λt=>⟨[(4,.own 15 u.length),(6,.sl 2 (e.map Qm)),(16,.sl 1 (f.map Qe)),(17,.I (f.length:Int)),(18,.I x9),(44,.b t)],[(15,.arr 1 (u.map YX))]⟩) (λt h=>B h λa2 x h=>J a [2,.o (.C1 (.b a2)),2] Z (UN _ _ x)<|I h (λi h=>L a [.S 25 (.b true),20] Z i<|mq_ h Z) λi h=>G a [.S 25 (.b false),1,.o (.ln e.length),3] Z ⟨(tc_ i),Qc⟩<|I h (λj h=>L a [.S 30 (.b true),15] Z j<|mq_ h Z) λj h=>G a [.S 30 (.b false),1,.o (.ln e.length),2] Z ⟨(tc_ j),Qc⟩<|I h (λk h=>B h λa3 y h=>G a [.S 34 (.b true),2,.o (.ln e.length),1,.o (.row (Qm a3)),6] Z ⟨⟨(tc_ k),Qc⟩,(QF y)⟩<|mq_ h Z) λk h=>L a [.S 34 (.b false),11] Z k<|mq_ h Z) λt h=>H a [1] Z<|I h (λl h=>J a [.T,10] Z l<|rR_ h Z) λl h=>B h λz D h=>G a [.F,6,.o (.ln e.length),.v (.bd []) [] (.sl 1 (([(e.length:Int)]:L_ Int).map Qb)),.cm (.fn) [(618,15)] [(15,618)] [15] [.d,.d,.d] [(618,.arr 1 (z.map YX))] (.own 618 z.length),6,.o (.ln e.length),4] Z (a5_ l Qc Z (VA _ _ _ _ D) Qc)<|lp_ h (λst=>⟨[(4,.own 15 st.2.length),(16,.sl 1 (f.map Qe)),(17,.I (f.length:Int)),(18,.I x9),(50,.sl 2 (e.map Qm)),(51,.I (e.length:Int)),(52,.I st.1)],[(15,.arr 1 (st.2.map YX))]⟩) (λq=>(.exit 2,⟨[(4,.own 15 q.length),(16,.sl 1 (f.map Qe)),(17,.I (f.length:Int)),(18,.I x9)],[(15,.arr 1 (q.map YX))]⟩)) Z (λ⟨a5,a6⟩ o h=>H a [6] Z<|I h (λm h=>B h λp N h=>B h λP a0 h=>G a [.T,6,.o (.row (Qm p)),.A (Qm p),2,.O 8 (.var (Qm p)),8,.v (.bd []) [] (.sl 1 (([p.1,p.2]:L_ Int).map Qb)),.cm (.fn) [(618,15)] [(15,618)] [15] [.d,.d,.d] [(618,.arr 1 (P.map YX))] (.own 618 P.length),8] Z (a6_ m (QF N) Z Z Z (VA _ _ _ _ a0))<|rN_ h Z) λm h=>J a [.F,2] Z m<|rX_ h Z) λa7 h=>H a [7] Z<|rN_ h Z) λg h=>J a [.F,2] Z g<|rX_ h Z) (λ_ h=>H a [2,.denil 2 [some 1]] Z<|F h Z Z U) (λa4 h=>J a [10,.frz 15 (a4.map YX) [2] []] Z (A (Ye Qc))<|F h Z Z U)
def Sf (a:QMk):O_ ByteArray:=(AR a).bind λb=>some (Ib b.1)
def Qbl (e):CT 59 [.sl 1 (e.map Qe)] [] (Sf e) V.s no_:=
 W 12 func59 Z λC f r h=>B h λa b h=>K f [8,.o (.C1 (.tup [.sl 1 (a.1.map YX),.I a.2])),10,.o (.any (.s (Ib a.1)) none),4] Z (VD _ _ b) (λσ g i _=>Ql.b2s Z Z (QZ f.n Z) (g _ _ Z) Z Qpi Qof (QG.sb Z))<|E h Z U
def WR (g:(L_ QD))(h:(L_ Xb))(i:(L_ QI))(j:Int)(k:Int)(f:Int)(d:(L_ (ByteArray×Int)))(b:(L_ QMk))(m:(L_ QY))(c:Bool)(a:QMk):O_ (Int×(L_ QMk)×(L_ QD)×(L_ Xb)×(L_ QI)×Int×Int×Int×Bool×(L_ (ByteArray×Int))):=(Sf a).bind λe=>bif (QR d e).isSome then some (((QR d e).getD 0),b,g,h,i,j,k,f,c,d)else bif ((min2 f 4096)<=(b.length:Int))then some ((-1),b,g,h,i,j,k,f,c,d)else (Sf a).bind λl=>(chk (b.length+([a]:L_ QMk).length<=4294967296)).bind λ_=>some ((b.length:Int),(b++([a]:L_ QMk)),g,h,i,j,k,f,c,(YI OM d l (b.length:Int)))
def Ic (v1 v2 v3 v4 v5 v6 t q x u g):CT 38 [.L 620,.sl 1 (g.map Qe)] [(620,.var [.sl 7 (v1.map Qr),.sl 3 (v2.map Qw),.sl 14 (v3.map Qh),.I v4,.I v5,.I v6,.map 621,.own 618 q.length,.own 619 x.length,.b u]),(621,.map (QN V.s V.I t)),(618,.arr 1 (q.map Qo)),(619,.arr 6 (x.map QS))] (WR v1 v2 v3 v4 v5 v6 t q x u g) (λr=>(.I r.1)) (λr=>[(618,.arr 1 (r.2.1.map Qo)),(619,.arr 6 (x.map QS)),(620,.var [.sl 7 (r.2.2.1.map Qr),.sl 3 (r.2.2.2.1.map Qw),.sl 14 (r.2.2.2.2.1.map Qh),.I r.2.2.2.2.2.1,.I r.2.2.2.2.2.2.1,.I r.2.2.2.2.2.2.2.1,.map 621,.own 618 r.2.1.length,.own 619 x.length,.b r.2.2.2.2.2.2.2.2.1]),(621,.map (QN V.s V.I r.2.2.2.2.2.2.2.2.2))]):=
 W 59 func38 Z λC i r h=>B h λp D h=>H i [6] Z <| 
  dr_ i [.N,.N,.N,.N,.N,.B (.C1 (.s p)),.B (.any (.tup [.I ((QR t p).getD 0),.b (QR t p).isSome]) none),.N,.N,.N,.N,.N] [] [] [0,1,5,6] [618,619,620,621] Z Z (a2_ (Qbl _ _ D) (λσ y h2 _=>Ql.lookupOk (e:=V.s) (f:=V.I) (l:=t) (k:=p) (z:=0) Z Z (QZ i.n Z) (y _ _ Z) (h2 _ _ Z) (y _ _ Z) Qq7 Qci Mq Z Z)) Z <|
  H i [9] Z<|I h (λj h=>J i [.T,9] Z j<|E h Z r4_) λj h=>G i [.F,1] Z (A j) <| 
  dr_ i [.N,.N,.N,.N,.N,.N,.N,.N,.N,.N,.N,.N,.N] [] [] [0,1,20] [618,619,620,621] Z Z U Z <|
  H i [1] Z<|I h (λo h=>J i [.T,8] Z o<|E h Z r4_) λo h=>B h λw P h=>G i [.F,15] Z (A o) <| 
  dr_ i [.N,.N,.N,.N,.N,.B (.C1 (.s w)),.N,.m (.any ⟨[],[(621,.map (QN V.s V.I (YI OM t w (q.length:Int))))],none⟩)] [] [] [0,1,5] [618,619,620,621] Z Z (a2_ (Qbl _ _ P) (λσ y h2=>Ql.mapUpdate (e:=V.s) (f:=V.I) (l:=t) (k:=w) (v:=(q.length:Int)) OM Z Z (y _ _ Z) (h2 _ _ Z) (y _ _ Z) (y _ _ Z) Qq7 Qci Z)) Z <|
  X h λS h=>g3_ i [10,.v (.bd []) [] (.sl 1 (([g]:L_ QMk).map Qo)),.app ((q++([g]:L_ QMk)).map Qo) (q++([g]:L_ QMk)).length,4,.O 620 (.var [.sl 7 (v1.map Qr),.sl 3 (v2.map Qw),.sl 14 (v3.map Qh),.I v4,.I v5,.I v6,.map 621,.own 618 (q++([g]:L_ QMk)).length,.own 619 x.length,.b u]),9] Z Z ⟨Qc,XU S Qc,Xu,Yc Qc⟩ Z<|E h Z r4_
def Qbm (a:Unit):O_ Int:=some 0
noncomputable def GQ (n9:Int)(D:Int)(h:Int):O_ (Int⊕Empty):=some (.inl (Qi (n9+h)))
def Rz (a:Int):O_ Int:=some a
noncomputable def LH (h:QBg):O_ Int:=(Hj (λst p=>GQ st p.1 p.2) 0 h).bind (Sum.elim (λq=>Rz q) (λq=>Empty.elim q))
def Sg (a:QBg):O_ Int:=(NT a).bind (Sum.elim (λq=>Qbm q) (λq=>LH q))
def Qj3 (z):CT 56 [.sl 2 (z.map Qm)] [] (Sg z) V.I no_:=by
 refine W 23 func56 rfl λC a r h=>?_
 obtain⟨N,j,h⟩:=Qv h
 refine tg_ a [8] ?_
 rcases N with(O | v)
 ·exact have h:Qbm O=some r:=h;K a [.cm (.fn) [] [] [] [.d] [] (.tup [.lit (.map none),.b false]),16,.x (λσ=>(σ.set 14 .itr0).put 14 (.L 14)),3] Z (UJ _ j) (Ql.range0 Z Z (QZ a.n Z) Z Es Z)<|AK.loopOnce<|J a [2,.x (λσ=>σ.put 15 (.tup [.b false])),17] Z (Ql.next0 Z Z (QZ a.n Z) Z Z)<|E h Z U
 replace h:LH v=some r:=h
 refine Qx a [.cm (.fn) [] [(10,601)] [] [.d] [(601,.map (QN V.I V.I v))] (.tup [.map 601,.b true]),16] Z (A (UJ _ j)) ?_
 refine AK.openMap (b:=10) DM rfl λc g L7 k l=>?_
 refine Qx a [.x (λσ=>(σ.set 14 (.itr c g #[] none)).put 14 (.L 14)),3,.K [5,14] [10,14]] Z (A (Ql.range (b:=10) Z Z (QZ a.n Z) Z Z Es Z)) ?_
 obtain⟨w,s,h⟩:=Qv h
 refine AK.range (body:=(λst p=>GQ st p.1 p.2)) (λst seen σ=>∃cur:O_ Nat,σ=⟨[(5,.I st),lk_ 14],[(10,.mapX c g (HG V.I V.I L7) (QN V.I V.I v)),(14,.itr c g seen cur)]⟩) (λ(q:Empty) _ _=>False) (λst e σ=>e=.exit 0/\σ=⟨[(5,.I st)],[]⟩) k l s (ex_ _ rfl) ?_ ?_
 ·rintro y seen σ ⟨cur,rfl⟩ hex
  refine tg_ a [2] ?_
  refine AK.nextT (b:=14) (m:=10) rfl rfl rfl (QZ a.n rfl) rfl rfl rfl rfl ?_ ?_
  ·intro hleft
   refine tg_ a [7,.K [5] []] ?_
   exact AK.done (Or.inl (an_ hleft (an_ (λh=>(by cases h)) (an_ Z Z))))
  intro D t u i
  obtain⟨o,h⟩:=hex _ i
  have ho:=h
  replace h:GQ y t u=some o:=h
  refine Qx a [10,.x (λσ=>σ.put 17 (.tup [.I t,.I u])),11,.K [5,14] [10,14]] Z (A (Ql.entryT (b:=14) (m:=10) (e:=V.I) (f:=V.I) Z Z (QZ a.n Z) Z i Z Z)) ?_
  cases h
  exact AK.done (Or.inr (ex_ _ (an_ i (Or.inl (ex_ _ (an_ ho (an_ Z (ex_ _ Z))))))))
 rcases w with(y | q)
 ·replace h:Rz y=some r:=h
  unfold Rz at h
  rintro e σ ⟨rfl,rfl⟩
  exact H a [9] Z<|E h Z U
 exact q.elim
def KG (c:QMk)(d:Int)(a:Int):O_ ((Int×Int)⊕Int):=bif (a<(c.length:Int))then (idx c a).bind λe=>(Sg e).bind λb=>some (.inl ((Qi (d+b)),(Qi (a+1))))else some (.inr d)
def Qil (a:Int):O_ Int:=some a
def UZ (a:QMk):O_ Int:=(Qu (λst=>KG a st.1 st.2) (0,0)).bind (λq=>Qil q)
def ZX (b):CT 33 [.sl 1 (b.map Qe)] [] (UZ b) V.I no_:=
 W 18 func33 Z λC e r h=>J e [14,.o (.ln b.length),4] Z Qc<|lp_ h (λst=>⟨[(3,.I st.1),(6,.sl 1 (b.map Qe)),(7,.I (b.length:Int)),(8,.I st.2)],[]⟩) (λq=>(.exit 0,⟨[(3,.I q)],[]⟩)) Z (λ⟨k,l⟩ o h=>H e [6] Z<|I h (λa h=>B h λj g h=>B h λi f h=>g3_ e [.T,6,.o (.row (Qe j)),7,.o (.C1 (.I i)),9] Z a (QF g) (Qj3 _ _ f)<|rN_ h Z) λa h=>J e [.F,2] Z a<|rX_ h Z) λm h=>H e [9] Z<|E h Z U
def Uf (a:QLL):O_ QLL:=some a
def Qe1 (b:Int)(a:Int)(c:LI_):O_ ((Int×LI_)⊕LI_):=bif (a<b)then (chk (c.length+([a]:L_ Int).length<=4294967296)).bind λ_=>some (.inl ((Qi (a+1)),(c++([a]:L_ Int))))else some (.inr c)
def Qe2 (a:LI_):O_ QLL:=some ([a]:QLL)
def Qe3 (b:Int)(a:Int)(c:QLL):O_ ((Int×QLL)⊕QLL):=bif (a<b)then (chk (c.length+([([a]:L_ Int)]:QLL).length<=4294967296)).bind λ_=>some (.inl ((Qi (a+1)),(c++([([a]:L_ Int)]:QLL))))else some (.inr c)
def Qe4 (a:QLL):O_ QLL:=Uf a
def Mr (a:Int)(b:LI_):O_ ((Int×LI_)⊕LI_):=some (.inl ((Qi (a+1)),b))
def Qe5 (c:Int)(h:Int)(a:Int)(b:LI_):O_ ((Int×LI_)⊕LI_):=bif (a<c)then (chk (0<=a)).bind λ_=>bif ((DL .i64 (Jn .i64 h a) 1)==1)then (chk (b.length+([a]:L_ Int).length<=4294967296)).bind λ_=>Mr a (b++([a]:L_ Int))else Mr a b else some (.inr b)
def Qe6 (a:QLL)(h:Int)(b:LI_):O_ ((Int×QLL)⊕QLL):=(chk (a.length+([b]:QLL).length<=4294967296)).bind λ_=>some (.inl ((Qi (h+1)),(a++([b]:QLL))))
def Qe7 (a:Int)(h:Int)(b:QLL):O_ ((Int×QLL)⊕QLL):=(chk (0<=a)).bind λ_=>bif (h<(Qn8 .i64 1 a))then (Qu (λst=>Qe5 a h st.1 st.2) (0,([]:L_ Int))).bind (λq=>Qe6 b h q)else some (.inr b)
def QdP (a:QLL):O_ QLL:=Uf a
def YO (b:Int)(a:Int):O_ QLL:=
 bif ((a<0)||((16<a)||((b==3)&&(4<a))))then
 some ([]:QLL)
 else
 bif (b==1)then
 (Qu (λst=>Qe1 a st.1 st.2) (0,([]:L_ Int))).bind (λq=>Qe2 q)
 else
 bif (b==2)then
 (Qu (λst=>Qe3 a st.1 st.2) (0,([]:QLL))).bind (λq=>Qe4 q)
 else
 bif (b==3)then
 (Qu (λst=>Qe7 a st.1 st.2) (1,([]:QLL))).bind (λq=>QdP q)
 else
 Uf ([]:QLL)
def Ms (d a):CT 210 [.I d,.I a] [] (YO d a) (λr=>(.own 600 r.length)) (λr=>[(600,.arr 1 (r.map QC))]):=
 W 79 func210 Z λC c r h=>H c [7] Z<|Y ⟨[(0,.I d),(1,.I a),(25,.b ((a<0)||((16<a)||((d==3)&&(4<a)))))],[]⟩ (H c [4] Z<|bO_ (decide (a<0)) (λf=>G c [.S 14 (.b true),12,.S 25 (.b ((a<0)||((16<a)||((d==3)&&(4<a)))))] Z ⟨(tc_ f),(cb_ (KF f Z))⟩<|M Z) λf=>L c [.S 14 (.b false),4] Z f<|bO_ (decide (16<a)) (λi=>G c [.S 18 (.b true),8,.S 25 (.b ((a<0)||((16<a)||((d==3)&&(4<a)))))] Z ⟨(tc_ i),(cb_ (Yu f (KF i Z)))⟩<|M Z) λi=>L c [.S 18 (.b false),3] Z i<|bO_ (d==3) (λj=>G c [.S 21 (.b true),5,.S 25 (.b ((a<0)||((16<a)||((d==3)&&(4<a)))))] Z ⟨(tc_ j),(cb_ (Yu f (Yu i (XS j Z))))⟩<|M Z) λj=>G c [.S 21 (.b false),5,.S 25 (.b ((a<0)||((16<a)||((d==3)&&(4<a)))))] Z ⟨(tc_ j),(cb_ (Yu f (Yu i (Yt j Z))))⟩<|M Z)<|H c [1] Z<|I h (λP h=>g3_ c [.T,7,.adopt 4 600 1,.O 600 (.arr 1 (([]:QLL).map QC)),.S 4 (.own 600 ([]:QLL).length)] Z P Z Z<|E h Z r1_) λP h=>J c [.F,7] Z P<|mE_ (λk:QLL=>⟨[(5,.own 604 k.length)],[(604,.arr 1 (k.map QC))]⟩) (λk=>Uf k=some r) (H c [12] Z<|I h (λl h=>g3_ c [.T,13,.adopt 6 33 1,.O 33 (.arr 1 (([]:L_ Int).map Qb)),.S 6 (.own 33 ([]:L_ Int).length)] Z l Z (congrArg (λn=>V.own 33 n) (by simp))<|lp_ h (λst=>⟨[(6,.own 33 st.2.length),(29,.I a),(30,.I st.1)],[(33,.arr 1 (st.2.map Qb))]⟩) (λq=>(.exit 1,⟨[(6,.own 33 q.length)],[(33,.arr 1 (q.map Qb))]⟩)) Z (λ⟨a0,a2⟩ o h=>H c [6] Z<|I h (λm h=>X h λa3 h=>g3_ c [.T,13,.v (.bd []) [] (.sl 1 (([a0]:L_ Int).map Qb)),.app ((a2++([a0]:L_ Int)).map Qb) (a2++([a0]:L_ Int)).length,8] Z m Z ⟨Qc,XU a3 Qc,Xu,Yc Qc⟩<|rN_ h Z) λm h=>J c [.F,2] Z m<|rX_ h Z) λa1 h=>g3_ c [5,.frz 33 (a1.map Qb) [6,38] [],1,.O 39 (.arr 1 (([a1]:QLL).map QC)),.S 39 (.own 39 ([a1]:QLL).length),6,.K [4] [39],.ren 39 600] Z (a2_ (Ye Qc) (Ye Qc)) Z Z<|E h Z r1_) λl h=>J c [.F,6] Z l<|I h (λp h=>g3_ c [.T,7,.adopt 5 46 1,.O 46 (.arr 1 (([]:QLL).map QC)),.S 5 (.own 46 ([]:QLL).length)] Z p Z (congrArg (λn=>V.own 46 n) (by simp))<|lp_ h (λst=>⟨[(5,.own 46 st.2.length),(42,.I a),(43,.I st.1)],[(46,.arr 1 (st.2.map QC))]⟩) (λq=>(.exit 3,⟨[(5,.own 46 q.length)],[(46,.arr 1 (q.map QC))]⟩)) Z (λ⟨z,a4⟩ o h=>H c [6] Z<|I h (λs h=>X h λa5 h=>g4_ c [.T,13,.v (.bd []) [] (.sl 1 (([z]:L_ Int).map Qb)),.v (.bd []) [] (.sl 1 (([([z]:L_ Int)]:QLL).map QC)),.app ((a4++([([z]:L_ Int)]:QLL)).map QC) (a4++([([z]:L_ Int)]:QLL)).length,8] Z s Z Z ⟨Qc,XU a5 Qc,Xu,Yc Qc⟩<|rN_ h Z) λs h=>J c [.F,2] Z s<|rX_ h Z) λb1 h=>H c [2,.ren 46 604] Z<|me_ h Z) λp h=>J c [.F,6] Z p<|I h (λt h=>g3_ c [.T,6,.adopt 5 74 1,.O 74 (.arr 1 (([]:QLL).map QC)),.S 5 (.own 74 ([]:QLL).length)] Z t Z (congrArg (λn=>V.own 74 n) (by simp))<|lp_ h (λst=>⟨[(1,.I a),(5,.own 74 st.2.length),(9,.I st.1)],[(74,.arr 1 (st.2.map QC))]⟩) (λq=>(.exit 5,⟨[(5,.own 74 q.length)],[(74,.arr 1 (q.map QC))]⟩)) Z (λ⟨set_33,e⟩ o h=>X h λa6 h=>J c [5,.o (.any (.I (Qn8 .i64 1 a)) none),3] Z (λσ N h2 _=>Ql.shl Z Z (QZ c.n Z) (N _ _ Z) (N _ _ Z) (Xo a6))<|I h (λu h=>g3_ c [.T,17,.adopt 10 69 1,.O 69 (.arr 1 (([]:L_ Int).map Qb)),.S 10 (.own 69 ([]:L_ Int).length)] Z u Z (congrArg (λn=>V.own 69 n) (by simp))<|lp_ h (λst=>⟨[(1,.I a),(5,.own 74 e.length),(9,.I set_33),(10,.own 69 st.2.length),(60,.I a),(61,.I st.1)],[(69,.arr 1 (st.2.map Qb)),(74,.arr 1 (e.map QC))]⟩) (λq=>(.exit 7,⟨[(1,.I a),(5,.own 74 e.length),(9,.I set_33),(10,.own 69 q.length)],[(69,.arr 1 (q.map Qb)),(74,.arr 1 (e.map QC))]⟩)) Z (λ⟨g,a7⟩ o h=>H c [6] Z<|I h (λw h=>J c [.T,2] Z w<|mE_ (λx:LI_=>⟨[(1,.I a),(5,.own 74 e.length),(9,.I set_33),(10,.own 69 x.length),(60,.I a),(61,.I g)],[(69,.arr 1 (x.map Qb)),(74,.arr 1 (e.map QC))]⟩) (λx=>Mr g x=some o) (X h λa8 h=>K c [11,.o (.any (.I (Jn .i64 set_33 g)) none),.o (.any (.I (DL .i64 (Jn .i64 set_33 g) 1)) none),3] Z (λσ N h2 _=>Ql.shr Z Z (QZ c.n Z) (N _ _ Z) (N _ _ Z) (Xo a8)) (λσ N h2 _=>Ql.andB Z Z (QZ c.n Z) (N _ _ Z) (N _ _ Z))<|I h (λy h=>X h λa9 h=>g3_ c [.T,3,.v (.bd []) [] (.sl 1 (([g]:L_ Int).map Qb)),.app ((a7++([g]:L_ Int)).map Qb) (a7++([g]:L_ Int)).length,3] Z y Z ⟨Qc,XU a9 Qc,Xu,Yc Qc⟩<|me_ h Z) λy h=>J c [.F,2] Z y<|me_ h Z) λx h=>H c [4] Z<|rN_ h Z) λw h=>J c [.F,2] Z w<|rX_ h Z) λD h=>X h λb0 h=>g3_ c [5,.frz 69 (D.map Qb) [10,75] [],.v (.bd []) [] (.sl 1 (([D]:QLL).map QC)),.app ((e++([D]:QLL)).map QC) (e++([D]:QLL)).length,9] Z (a2_ (Ye Qc) (Ye Qc)) Z ⟨Qc,XU b0 Qc,Xu,Yc Qc⟩<|rN_ h Z) λu h=>J c [.F,2] Z u<|rX_ h Z) λb2 h=>H c [2,.ren 74 604] Z<|me_ h Z) λt h=>g3_ c [.F,2,.adopt 5 604 1,.O 604 (.arr 1 (([]:QLL).map QC)),.S 5 (.own 604 ([]:QLL).length)] Z t Z (congrArg (λn=>V.own 604 n) (by simp))<|me_ h Z) λk h=>H c [7,.K [4] [604],.ren 604 600] Z<|E h Z r1_
def ZY (a:Qk)(b:QI):O_ (Qk×QI):=some (a,b)
def QdQ (a b):CT 211 [.agg (Qa a),.agg (Qh b)] [] (ZY a b) (λ_=>(.clo (.func 243) [] [.L 3,.L 2])) (λr=>[(2,.var (Qa r.1)),(3,.var (Qh r.2))]):=
 W 6 func211 Z λC c r h=>H c [14] Z<|E h Z r2_
def YG (a:LI_):O_ LI_:=(chk ((([]:L_ Int).length+a.length)*8<=140737488355328)).bind λ_=>some (([]:L_ Int)++a)
def KH (b):CT 219 [.sl 1 (b.map Qb)] [] (YG b) (λr=>(.own 600 r.length)) (λr=>[(600,.arr 1 (r.map Qb))]):=by
 refine W 8 func219 rfl λC a r h=>?_
 unfold YG at h
 refine tg_ a [9] ?_
 refine AK.eqNil rfl rfl rfl (QZ a.n rfl) rfl rfl QsC ?_ ?_
 ·intro c
  replace h:some ([]:L_ Int)=some r:=by simpa[chk,List.map_eq_nil_iff.1 c] using h
  exact K a [10,.adopt 2 600 1,.O 600 (.arr 1 (([]:L_ Int).map Qb)),.S 2 (.own 600 ([]:L_ Int).length)] Z Z Z<|E h Z r1_
 exact X h λd h=>g3_ a [8,.O 5 (.arr 1 (([]:L_ Int).map Qb)),.S 5 (.own 5 ([]:L_ Int).length),1,.x (λσ=>σ.app 5 1 7 (([]:L_ Int)++b).length ((([]:L_ Int)++b).map Qb)),4,.K [2] [5],.ren 5 600] Z Z Z (Ql.appSB (by_:=8) (zs:=[.I 0]) (e:=3) (e':=3) (z':=1) (by':=8) Z Z (QZ a.n Z) Z Z Z Qc (by kernel_rfl) (by kernel_rfl) (by kernel_rfl) Z (by decide) (by decide) (QeS d Qc) Z Xu (Yc Qc))<|E h Z r1_
def AS (a:Int)(b:Int):O_ Int:=bif (b<a)then some 0 else some (Qi ((Qi (min2 (IntKind.u64.wrap ((IntKind.u64.wrap b)-(IntKind.u64.wrap a))) 1024))+1))
def Qgw (a b):CT 261 [.I a,.I b] [] (AS a b) V.I no_:=
 W 16 func261 Z λC d r h=>H d [13] Z<|I h (λc h=>J d [.T,7] Z c<|E h Z U) λc h=>g4_ d [.F,5,.o (.any (.i .u64 (IntKind.u64.wrap b)) none),1,.o (.any (.i .u64 (IntKind.u64.wrap a)) none),2,.o (.any (.I (Qi (min2 (IntKind.u64.wrap ((IntKind.u64.wrap b)-(IntKind.u64.wrap a))) 1024))) none),5] Z c (λσ e f _=>Ql.convI Z Z (QZ d.n Z) (e _ _ Z) Qgn QdL) (λσ e f _=>Ql.convI Z Z (QZ d.n Z) (e _ _ Z) Qgn QdL) (λσ e f _=>Ql.convI Z Z (QZ d.n Z) (e _ _ Z) QdL Qgn)<|E h Z U
def EH (a:Int):O_ Bool:=
 some (bif (97<=a)then((a<=122)||((65<=a)&&(a<=90)))else((65<=a)&&(a<=90)))
def Sx (a):CT 233 [.i .u8 a] [] (EH a) V.b no_:=
 W 17 func233 Z λC e r h=>H e [6] Z<|Y ⟨[(2,.b (bif (97<=a)then((a<=122)||((65<=a)&&(a<=90)))else((65<=a)&&(a<=90))))],[]⟩ (H e [4] Z<|bO_ (decide (97<=a)) (λc=>L e [.S 5 (.b true),4] Z c<|bO_ (decide (a<=122)) (λd=>G e [.S 9 (.b true),9,.S 2 (.b (bif (97<=a)then((a<=122)||((65<=a)&&(a<=90)))else((65<=a)&&(a<=90))))] Z ⟨(tc_ d),(cb_ (NO c (KF d Z)))⟩<|M Z) λd=>L e [.S 9 (.b false),3] Z d<|bO_ (decide (65<=a)) (λf=>G e [.S 12 (.b true),6,.S 2 (.b (bif (97<=a)then((a<=122)||((65<=a)&&(a<=90)))else((65<=a)&&(a<=90))))] Z ⟨(tc_ f),(cb_ (NO c (Yu d (XS f Z))))⟩<|M Z) λf=>G e [.S 12 (.b false),6,.S 2 (.b (bif (97<=a)then((a<=122)||((65<=a)&&(a<=90)))else((65<=a)&&(a<=90))))] Z ⟨(tc_ f),(cb_ (NO c (Yu d (Yt f Z))))⟩<|M Z) λc=>L e [.S 5 (.b false),7] Z c<|bO_ (decide (65<=a)) (λg=>G e [.S 12 (.b true),6,.S 2 (.b (bif (97<=a)then((a<=122)||((65<=a)&&(a<=90)))else((65<=a)&&(a<=90))))] Z ⟨(tc_ g),(cb_ (QaT c (XS g Z)))⟩<|M Z) λg=>G e [.S 12 (.b false),6,.S 2 (.b (bif (97<=a)then((a<=122)||((65<=a)&&(a<=90)))else((65<=a)&&(a<=90))))] Z ⟨(tc_ g),(cb_ (QaT c (Yt g Z)))⟩<|M Z)<|H e [2] Z<|E h Z U
def Fv (a:ByteArray):O_ Bool:=bif (JT a (⟨#[]⟩:ByteArray))then some true else bif (32<(a.size:Int))then some true else (sidx a 0).bind λb=>(EH b).bind λc=>some (!c)
def NV (a:Int):O_ Bool:=(EH a).bind λb=>bif (!b)then bif (a<48)then some (a != 95)else bif (57<a)then some (a != 95)else some false else some false
def NW (a:Int)(b:Bool):O_ (Int⊕(Unit⊕Unit)):=bif b then some (.inr (.inl ()))else some (.inl (Qi (a+1)))
def GR (d:ByteArray)(a:Int):O_ (Int⊕(Unit⊕Unit)):=bif (a<(d.size:Int))then (sidx d a).bind λb=>(NV b).bind (λc=>NW a c)else some (.inr (.inr ()))
def NX : O_ Bool:=some false
def NY : O_ Bool:=some true
def NZ (a:ByteArray)(b:Bool):O_ Bool:=bif b then some false else (Qu (λst=>GR a st) 0).bind (Sum.elim (λq=>NX) (λq=>NY))
def Da (a:ByteArray):O_ Bool:=(Fv a).bind (λb=>NZ a b)
def Oa (l):CT 181 [.s l] [] (Da l) V.b no_:=
 W 42 func181 Z λC a r h=>H a [7] Z<|mV_ h (λw=>⟨[(0,.s l),(17,.b w)],[]⟩) (λw h=>H a [4] Z<|I h (λm h=>L a [.S 7 (.b true),11] Z m<|mq_ h Z) λm h=>L a [.S 7 (.b false),5] Z m<|I h (λp h=>L a [.S 12 (.b true),6] Z p<|mq_ h Z) λp h=>B h λO x h=>B h λP y h=>G a [.S 12 (.b false),1,.o (.num O),.o (.C1 (.b P)),3] Z ⟨⟨(tc_ p),x⟩,(Sx _ _ y)⟩<|mq_ h Z) λw h=>H a [1] Z<|I h (λe h=>J a [.T,7] Z e<|E h Z U) λe h=>J a [.F,11] Z e<|lq_ h (λst=>⟨[(0,.s l),(19,.I (l.size:Int)),(20,.I st)],[]⟩) (λq=>(.ret,⟨[(2,.b false)],[]⟩)) (λq=>(.exit 0,⟨[],[]⟩)) Z (λz o h=>H a [6] Z<|I h (λf h=>B h λD u h=>K a [.T,14,.o (.num D),4] Z f u<|mV_ h (λt=>⟨[(0,.s l),(19,.I (l.size:Int)),(20,.I z),(40,.b t)],[]⟩) (λt h=>B h λN v h=>J a [2,.o (.C1 (.b N)),2] Z (Sx _ _ v)<|I h (λg h=>L a [.S 29 (.b true),3] Z g<|I h (λi h=>L a [.S 32 (.b true),9] Z i<|mq_ h Z) λi h=>L a [.S 32 (.b false),5] Z i<|I h (λj h=>L a [.S 37 (.b true),4] Z j<|mq_ h Z) λj h=>L a [.S 37 (.b false),4] Z j<|mq_ h Z) λg h=>L a [.S 29 (.b false),12] Z g<|mq_ h Z) λt h=>H a [1] Z<|I h (λk h=>J a [.T,8] Z k<|rR_ h Z) λk h=>J a [.F,7] Z k<|rN_ h Z) λf h=>J a [.F,2] Z f<|rX_ h Z) (λ_ h=>H a [2] Z<|E h Z U) (λ_ h=>H a [8] Z<|E h Z U)
def Mt (a:ByteArray)(c:QSB):O_ Bool:=(Da a).bind λb=>bif (!b)then some true else some ((QR c a).getD false)
def Mu (c:Int)(d:QSB)(a:ByteArray)(b:Bool):O_ ((Int×QSB)⊕(Unit⊕Unit)):=bif b then some (.inr (.inl ()))else some (.inl ((Qi (c+1)),(YI OM d a true)))
def Wx (d:(L_ ByteArray))(b:Int)(e:QSB):O_ ((Int×QSB)⊕(Unit⊕Unit)):=bif (b<(d.length:Int))then (idx d b).bind λa=>(Mt a e).bind (λc=>Mu b e a c)else some (.inr (.inr ()))
def Mv : O_ Bool:=some false
def Mw : O_ Bool:=some true
def UO (a:(L_ ByteArray)):O_ Bool:=(Qu (λst=>Wx a st.1 st.2) (0,([]:QSB))).bind (Sum.elim (λq=>Mv) (λq=>Mw))
def Qe8 (m):CT 262 [.sl 1 (m.map Ky)] [] (UO m) V.b no_:=
 W 24 func262 Z λC a r h=>K a [8,.O 6 (.map (QN V.s V.b ([]:QSB))),7,.o (.ln m.length),4] Z Z Qc<|lq_ h (λst=>⟨[(3,.map 6),(7,.sl 1 (m.map Ky)),(8,.I (m.length:Int)),(9,.I st.1)],[(6,.map (QN V.s V.b st.2))]⟩) (λq=>(.ret,⟨[(2,.b false)],[]⟩)) (λq=>(.exit 0,⟨[],[]⟩)) Z (λ⟨P,u⟩ o h=>H a [6] Z<|I h (λp h=>B h λg w h=>K a [.T,6,.o (.row (Ky g)),6] Z p (QF w)<|mV_ h (λt=>⟨[(3,.map 6),(5,.s g),(7,.sl 1 (m.map Ky)),(8,.I (m.length:Int)),(9,.I P),(20,.b t)],[(6,.map (QN V.s V.b u))]⟩) (λt h=>B h λD y h=>J a [2,.o (.C1 (.b D)),2] Z (Oa _ _ y)<|I h (λi h=>L a [.S 16 (.b true),5] Z i<|mq_ h Z) λi h=>G a [.S 16 (.b false),2,.o (.any (.b ((QR u g).getD false)) none),2] Z ⟨(tc_ i),(λσ N h2 _=>Ql.lookup (e:=V.s) (f:=V.b) (l:=u) (k:=g) (z:=false) Z Z (QZ a.n Z) (N _ _ Z) (h2 _ _ Z) (N _ _ Z) Vu Qci Qqv Z)⟩<|mq_ h Z) λt h=>H a [1] Z<|I h (λj h=>J a [.T,9] Z j<|rR_ h Z) λj h=>K a [.F,5,.x (λσ=>σ.set 6 (.map (QN V.s V.b (YI OM u g true)))),7] Z j (Ql.mapUpdate (e:=V.s) (f:=V.b) (l:=u) (k:=g) (v:=true) OM Z Z Z Z Z Z Vu Qci Z)<|rN_ h Z) λp h=>J a [.F,2] Z p<|rX_ h Z) (λ_ h=>H a [2] Z<|E h Z U) (λ_ h=>H a [8] Z<|E h Z U)
def Dh : O_ Int:=some 0
def AT (b:QD)(a:LI_):O_ Int:=bif (b.Kind==1)then (AS b.Lo b.Hi).bind λe=>some e else bif (b.Kind==2)then (UO b.Names).bind λf=>bif f then some (b.Names.length:Int)else Dh else bif (b.Kind==3)then bif ((0<=(min2 b.First b.Then))&&((max2 b.First b.Then)<(a.length:Int)))then (idx a b.First).bind λc=>(idx a b.Then).bind λd=>some (Qi (c*d))else Dh else Dh
def Qgx (g e):CT 236 [.agg (Qr g),.sl 1 (e.map Qb)] [] (AT g e) V.I no_:=
 W 51 func236 Z λC f r h=>H f [6] Z<|mU_ ⟨[],[]⟩ (Dh=some r) (H f [13] Z<|I h (λl h=>B h λx t h=>K f [.T,6,.o (.C2 (.I x)),6] Z l (Qgw _ _ _ t)<|E h Z U) λl h=>J f [.F,6] Z l<|I h (λm h=>B h λy u h=>K f [.T,4,.o (.C1 (.b y)),2] Z m (Qe8 _ _ u)<|I h (λp h=>K f [.T,4,.o (.ln g.Names.length),6] Z p Qc<|E h Z U) λp h=>J f [.F,2] Z p<|mu_ h Z) λm h=>J f [.F,6] Z m<|I h (λj h=>J f [.T,1] Z j<|Y ⟨[(1,.sl 1 (e.map Qb)),lk_ 2,(39,.b ((0<=(min2 g.First g.Then))&&((max2 g.First g.Then)<(e.length:Int))))],[(2,.var (Qr g))]⟩ (H f [8] Z<|bO_ (decide (0<=(min2 g.First g.Then))) (λi=>G f [.S 30 (.b true),6,.o (.ln e.length),3,.S 39 (.b ((0<=(min2 g.First g.Then))&&((max2 g.First g.Then)<(e.length:Int))))] Z ⟨⟨(tc_ i),Qc⟩,(cb_ (XS i Z))⟩<|M Z) λi=>G f [.S 30 (.b false),10,.S 39 (.b ((0<=(min2 g.First g.Then))&&((max2 g.First g.Then)<(e.length:Int))))] Z ⟨(tc_ i),(cb_ (Yt i Z))⟩<|M Z)<|H f [1] Z<|I h (λk h=>B h λv q h=>B h λw s h=>G f [.T,1] Z (A k) <| 
  dr_ f [.N,.N,.N,.B (.row (Qb v)),.N,.N,.N,.N,.B (.row (Qb w)),.N,.N,.N] [] [] [4] [] Z Z (a2_ (QF q) (QF s)) Z <|
  H f [4] Z<|E h Z U) λk h=>J f [.F,2] Z k<|mu_ h Z) λj h=>J f [.F,2] Z j<|mu_ h Z) λh=>H f [6] Z<|E h Z U
def Mx (a:QD)(d:QSB)(b:Int):O_ Bool:=(Da a.Name).bind λc=>bif (!c)then some true else bif ((QR d a.Name).getD false)then some true else bif (b<1)then some true else some (decide (1024<b))
def My (a:LI_)(b:Int)(e:Int)(f:QSB)(c:QD)(d:Bool):O_ ((Int×QSB×LI_)⊕(Unit⊕LI_)):=bif d then some (.inr (.inl ()))else (chk (a.length+([b]:L_ Int).length<=4294967296)).bind λ_=>some (.inl ((Qi (e+1)),(YI OM f c.Name true),(a++([b]:L_ Int))))
def Wy (f:(L_ QD))(d:Int)(g:QSB)(a:LI_):O_ ((Int×QSB×LI_)⊕(Unit⊕LI_)):=bif (d<(f.length:Int))then (idx f d).bind λb=>(AT b a).bind λc=>(Mx b g c).bind (λe=>My a c d g b e)else some (.inr (.inr a))
def Qe9 : O_ (LI_×Bool):=some (([]:L_ Int),false)
def Qfa (a:LI_):O_ (LI_×Bool):=some (a,true)
def GS (a:(L_ QD)):O_ (LI_×Bool):=bif (32<(a.length:Int))then some (([]:L_ Int),false)else (Qu (λst=>Wy a st.1 st.2.1 st.2.2) (0,([]:QSB),([]:L_ Int))).bind (Sum.elim (λq=>Qe9) (λq=>Qfa q))
def SZ (y):CT 184 [.sl 7 (y.map Qr)] [] (GS y) (λr=>(.tup [.sl 1 (r.1.map Qb),.b r.2])) no_:=
 W 49 func184 Z λC a r h=>J a [10,.o (.ln y.length),3] Z Qc<|I h (λD h=>J a [.T,8,.denil 2 [some 1]] Z D<|F h Z Z U) λD h=>G a [.F,5,.O 12 (.map (QN V.s V.b ([]:QSB))),12,.o (.ln y.length),4,.adopt 5 43 1,.O 43 (.arr 1 (([]:L_ Int).map Qb)),.S 5 (.own 43 ([]:L_ Int).length)] Z (a5_ D Z Qc Z (congrArg (λn=>V.own 43 n) (by simp)))<|lq_ h (λst=>⟨[(4,.map 12),(5,.own 43 st.2.2.length),(13,.sl 7 (y.map Qr)),(14,.I (y.length:Int)),(15,.I st.1)],[(12,.map (QN V.s V.b st.2.1)),(43,.arr 1 (st.2.2.map Qb))]⟩) (λq=>(.ret,⟨[(2,.Y),(3,.b false)],[]⟩)) (λq=>(.exit 0,⟨[(5,.own 43 q.length)],[(43,.arr 1 (q.map Qb))]⟩)) Z (λ⟨x8,P,i⟩ o h=>H a [6] Z<|I h (λj h=>B h λg a0 h=>B h λm a1 h=>G a [.T,6,.o (.row (Qr g)),.A (Qr g),2,.O 7 (.var (Qr g)),4,.A (Qr g),1,.o (.c true [.d,.o (i.map Qb)] (.I m)),5] Z (a6_ j (QF a0) Z Z Z ⟨(Rr Z),(Qgx _ _ _ a1)⟩)<|mV_ h (λN=>⟨[(4,.map 12),(5,.own 43 i.length),lk_ 7,(8,.I m),(13,.sl 7 (y.map Qr)),(14,.I (y.length:Int)),(15,.I x8),(39,.b N)],[(7,.var (Qr g)),(12,.map (QN V.s V.b P)),(43,.arr 1 (i.map Qb))]⟩) (λN h=>B h λa4 a2 h=>J a [3,.o (.C1 (.b a4)),2] Z (Oa _ _ a2)<|I h (λp h=>L a [.S 26 (.b true),14] Z p<|mq_ h Z) λp h=>G a [.S 26 (.b false),3,.o (.any (.b ((QR P g.Name).getD false)) none),2] Z ⟨(tc_ p),(λσ h1 h2 _=>Ql.lookup (e:=V.s) (f:=V.b) (l:=P) (k:=g.Name) (z:=false) Z Z (QZ a.n Z) (h1 _ _ Z) (h2 _ _ Z) (h1 _ _ Z) Vu Qci Qqv Z)⟩<|I h (λt h=>L a [.S 32 (.b true),8] Z t<|mq_ h Z) λt h=>L a [.S 32 (.b false),4] Z t<|I h (λu h=>L a [.S 36 (.b true),4] Z u<|mq_ h Z) λu h=>L a [.S 36 (.b false),4] Z u<|mq_ h Z) λN h=>H a [1] Z<|I h (λw h=>J a [.T,10] Z w<|rR_ h Z) λw h=>X h λa3 h=>g4_ a [.F,7,.x (λσ=>σ.set 12 (.map (QN V.s V.b (YI OM P g.Name true)))),5,.v (.bd []) [] (.sl 1 (([m]:L_ Int).map Qb)),.app ((i++([m]:L_ Int)).map Qb) (i++([m]:L_ Int)).length,8] Z w (Ql.mapUpdate (e:=V.s) (f:=V.b) (l:=P) (k:=g.Name) (v:=true) OM Z Z Z Z Z Z Vu Qci Z) Z ⟨Qc,XU a3 Qc,Xu,Yc Qc⟩<|rN_ h Z) λj h=>J a [.F,2] Z j<|rX_ h Z) (λ_ h=>H a [2,.denil 2 [some 1]] Z<|F h Z Z U) (λa5 h=>J a [10,.frz 43 (a5.map Qb) [2] []] Z (A (Ye Qc))<|F h Z Z U)
def WS (a:(L_ QD))(b:Int):O_ (Bool×Ys):=
 (GS a).bind λc=>
 bif ((!c.2)||((b<0)||((a.length:Int)<=b)))then
 some (false,(Ys.mk ([]:(L_ QD)) ([]:LI_) 0))
 else
 some (true,(Ys.mk a c.1 b))
def RA (i e):CT 157 [.sl 7 (i.map Qr),.I e] [] (WS i e) (λr=>(.tup [.agg (XG r.2),.b r.1])) no_:=by
 refine W 30 func157 rfl λC k r h=>?_
 obtain⟨j,l,h⟩:=Qv h
 refine Qx k [9,.o (.C1 (.tup [.sl 1 (j.1.map Qb),.b j.2])),9] Z (A (SZ _ _ l)) ?_
 refine AK.meetX (λσ=>σ=⟨[(0,.sl 7 (i.map Qr)),(1,.I e),lk_ 4,(6,.sl 1 (j.1.map Qb)),(24,.b ((!j.2)||((e<0)||((i.length:Int)<=e))))],[(4,.var [.Y,.Y,.I 0])]⟩) ?_ ?_
 ·exact H k [4] Z<|bO_ (!j.2) (λf=>G k [.S 15 (.b true),10,.S 24 (.b ((!j.2)||((e<0)||((i.length:Int)<=e))))] Z ⟨(tc_ f),(cb_ (KF f Z))⟩<|M Z) λf=>L k [.S 15 (.b false),4] Z f<|bO_ (decide (e<0)) (λa=>G k [.S 19 (.b true),6,.S 24 (.b ((!j.2)||((e<0)||((i.length:Int)<=e))))] Z ⟨(tc_ a),(cb_ (Yu f (KF a Z)))⟩<|M Z) λa=>G k [.S 19 (.b false),2,.o (.ln i.length),3,.S 24 (.b ((!j.2)||((e<0)||((i.length:Int)<=e))))] Z ⟨⟨(tc_ a),Qc⟩,(cb_ (Yu f (Yu a Z)))⟩<|M Z
 rintro σ rfl
 refine tg_ k [1] ?_
 refine bg_ h (λg h=>Qx k [.T,2,.v .no [some 7,some 1,none] (.agg (XG (Ys.mk ([]:(L_ QD)) ([]:LI_) 0))),1,.O 4 (.var (XG (Ys.mk ([]:(L_ QD)) ([]:LI_) 0))),5,.K [4,5] [4]] rfl (a3_ g rfl rfl) ?_) λg h=>Qx k [.F,7,.A (XG (Ys.mk i j.1 e)),1,.O 4 (.var (XG (Ys.mk i j.1 e))),4,.K [4,5] [4]] rfl (a3_ g rfl rfl) ?_
 ·cases h
  exact AK.done (ex_ [_,_] (an_ (an_ (ex_ _ (ex_ _ (an_ Z (an_ Z (Or.inl (an_ (QG.ag Z) (an_ (QG.sz Z) Z))))))) (an_ Z U)) (gives U)))
 cases h
 exact AK.done (ex_ [_,_] (an_ (an_ (ex_ _ (ex_ _ (an_ Z (an_ Z (Or.inl (an_ (QG.ag Z) (an_ (QG.sz Z) Z))))))) (an_ Z U)) (gives U)))
def GK (a:Int)(b:Ys):O_ Bool:=bif (0<=a)then (idx b.sizes b.k).bind λc=>some (decide (a<c))else some false
def Rn (a:Bool):O_ Bool:=some a
def Kf (a:Ys)(b:Int):O_ Bool:=(GK b a).bind (λc=>Rn c)
def Ro (f g):CT 266 [.agg (XG f),.I g] [] (Kf f g) V.b no_:=
 W 17 func266 Z λC c r h=>H c [7] Z<|mV_ h (λd=>⟨[(4,.b d)],[]⟩) (λd h=>H c [4] Z<|I h (λa h=>B h λi e h=>G c [.S 7 (.b true),5,.o (.row (Qb i)),5] Z ⟨(tc_ a),(QF e)⟩<|mq_ h Z) λa h=>L c [.S 7 (.b false),11] Z a<|mq_ h Z) λd h=>H c [2] Z<|E h Z U
def JF (a:Ys):O_ QD:=(idx a.all a.k).bind λb=>some b
def BU (c):CT 267 [.agg (XG c)] [] (JF c) (λr=>(.agg (Qr r))) no_:=by
 refine W 9 func267 rfl λC d r h=>?_
 obtain⟨a,b,h⟩:=Qv h
 refine Qx d [12,.o (.row (Qr a)),.A (Qr a),1,.O 2 (.var (Qr a)),3,.K [2] [2]] Z (a3_ (QF b) Z Z) ?_
 cases h
 exact AK.done (ex_ [_] (an_ (an_ (ex_ _ (ex_ _ (an_ Z (an_ Z (Or.inl (an_ (QG.ag Z) (an_ (QG.sz Z) Z))))))) U) (gives U)))
def Bj (b:(Bool×Ys))(c:Int):O_ Bool:=bif (!b.1)then some true else (Kf b.2 c).bind λa=>some (!a)
def Bk (c:(Bool×Ys))(d:Int)(e:Bool):O_ (Int×Bool):=bif e then some (0,false)else (JF c.2).bind λa=>bif (a.Kind==1)then (JF c.2).bind λb=>some ((Qi (b.Lo+d)),true)else some (d,true)
def WH (c:(L_ QD))(d:Int)(a:Int):O_ (Int×Bool):=(WS c d).bind λb=>(Bj b a).bind (λe=>Bk b a e)
def QdR (x y q):CT 251 [.sl 7 (x.map Qr),.I y,.I q] [] (WH x y q) (λr=>(.tup [.I r.1,.b r.2])) no_:=
 W 36 func251 Z λC a r h=>B h λi s h=>K a [10,.o (.C2 (.tup [.agg (XG i.2),.b i.1])),5,.O 8 (.var (XG i.2)),6] Z (RA _ _ _ s) Z<|mV_ h (λt=>⟨[(2,.I q),lk_ 8,(16,.b t)],[(8,.var (XG i.2))]⟩) (λt h=>H a [4] Z<|I h (λe h=>L a [.S 19 (.b true),7] Z e<|mq_ h Z) λe h=>B h λu j h=>G a [.S 19 (.b false),.A (XG i.2),1,.o (.C2 (.b u)),4] Z ⟨⟨(tc_ e),Z⟩,(Ro _ _ _ j)⟩<|mq_ h Z) λt h=>H a [1] Z<|I h (λf h=>J a [.T,9] Z f<|F h Z Z U) λf h=>B h λk l h=>g4_ a [.F,2,.A (XG i.2),.o (.C1 (.agg (Qr k))),.o (.any (.I k.Kind) none),4] Z f Z (BU _ _ l) (λσ w z _=>Ql.field Z Z (QZ a.n Z) (w _ _ Z) Qrm Z)<|I h (λg h=>B h λm p h=>g4_ a [.T,2,.A (XG i.2),.o (.C1 (.agg (Qr m))),.o (.any (.I m.Lo) none),9] Z g Z (BU _ _ p) (λσ w z _=>Ql.field Z Z (QZ a.n Z) (w _ _ Z) Qrn Z)<|F h Z Z U) λg h=>J a [.F,11] Z g<|F h Z Z U
def Db (d:QI)(b:LI_)(h:Qk)(a:Int)(c:LI_):O_ ((Int×LI_)⊕(Unit⊕LI_)):=bif (a<(d.Vars.length:Int))then (idx d.Vars a).bind λf=>(idx b a).bind λg=>(WH h.Colours f.Colour g).bind λe=>bif (!e.2)then some (.inr (.inl ()))else (idx c a).bind λi=>some (.inl ((Qi (a+1)),(c.set a.toNat e.1)))else some (.inr (.inr c))
def Qlt : O_ (LI_×Int):=some (([]:L_ Int),1)
def Qlu (a:LI_):O_ (LI_×Int):=some (a,0)
def Dc (d:Qk)(a:Int)(c:LI_):O_ (LI_×Int):=
 bif ((a<0)||((d.Tasks.length:Int)<=a))then
 some (([]:L_ Int),3)
 else
 (idx d.Tasks a).bind λb=>
 bif ((c.length:Int) != (b.Vars.length:Int))then
 some (([]:L_ Int),1)
 else
 (chk (decide (0<=(b.Vars.length:Int))&&decide ((b.Vars.length:Int)<=(b.Vars.length:Int))&&decide ((b.Vars.length:Int)<=4294967296))).bind λ_=>
 (Qu (λst=>Db b c d st.1 st.2) (0,(List.replicate (b.Vars.length:Int).toNat (0:Int)))).bind (Sum.elim (λq=>Qlt) (λq=>Qlu q))
def SO (t e f):CT 225 [.agg (Qa t),.I e,.sl 1 (f.map Qb)] [] (Dc t e f) (λr=>(.tup [.sl 1 (r.1.map Qb),.I r.2])) no_:=
 W 64 func225 Z λC g r h=>H g [9] Z<|Y ⟨[(1,.I e),(2,.sl 1 (f.map Qb)),lk_ 3,(22,.b ((e<0)||((t.Tasks.length:Int)<=e)))],[(3,.var (Qa t))]⟩ (H g [4] Z<|bO_ (decide (e<0)) (λj=>G g [.S 16 (.b true),7,.S 22 (.b ((e<0)||((t.Tasks.length:Int)<=e)))] Z ⟨(tc_ j),(cb_ (KF j Z))⟩<|M Z) λj=>G g [.S 16 (.b false),3,.o (.ln t.Tasks.length),3,.S 22 (.b ((e<0)||((t.Tasks.length:Int)<=e)))] Z ⟨⟨(tc_ j),Qc⟩,(cb_ (Yu j Z))⟩<|M Z)<|H g [1] Z<|I h (λk h=>J g [.T,8,.denil 6 [some 1]] Z k<|F h Z Z U) λk h=>B h λi x h=>g4_ g [.F,7,.o (.row (Qh i)),9,.o (.ln f.length),1,.o (.ln i.Vars.length),3] Z k (QF x) Qc Qc<|I h (λl h=>J g [.T,8,.denil 6 [some 1]] Z l<|F h Z Z U) λl h=>X h λy h=>G g [.F,5,.o (.ln i.Vars.length),.o (.rows ((List.replicate (i.Vars.length:Int).toNat (0:Int)).map Qb)),.S 36 (.own 36 (List.replicate (i.Vars.length:Int).toNat (0:Int)).length),7,.o (.ln i.Vars.length),4] Z (a5_ l Qc ⟨y,QlZ Z⟩ (by simp) Qc)<|lq_ h (λst=>⟨[(2,.sl 1 (f.map Qb)),lk_ 3,(9,.own 36 st.2.length),(37,.sl 2 (i.Vars.map Xg)),(38,.I (i.Vars.length:Int)),(39,.I st.1)],[(3,.var (Qa t)),(36,.arr 1 (st.2.map Qb))]⟩) (λq=>(.ret,⟨[(6,.Y),(7,.I 1)],[]⟩)) (λq=>(.exit 0,⟨[(9,.own 36 q.length)],[(36,.arr 1 (q.map Qb))]⟩)) Z (λ⟨z,D⟩ o h=>H g [6] Z<|I h (λm h=>B h λw P h=>B h λa2 a0 h=>B h λs a1 h=>G g [.T,7,.o (.row (Xg w)),.A (Xg w),3,.O 11 (.var (Xg w)),3] Z (a4_ m (QF P) Z Z) <| 
  dr_ g [.N,.N,.N,.N,.N,.N,.B (.row (Qb a2)),.N,.B (.C3 (.tup [.I s.1,.b s.2])),.N,.N,.N,.N,.N] [] [] [2,3,9,10,12,13,37,38,39] [3,36] Z Z (a2_ (QF a0) (QdR _ _ _ _ a1)) Z <|
  H g [8] Z<|I h (λp h=>J g [.T,10] Z p<|rR_ h Z) λp h=>B h λa3 u h=>g4_ g [.F,7,.st (Qb a3) ((D.set z.toNat s.1).map Qb),7,.S 9 (.own 36 (D.set z.toNat s.1).length)] Z p (Yi u Z) ⟨(XP (Yl u).2),Cv Z⟩ (congrArg (λn=>V.own 36 n) (by simp))<|rN_ h Z) λm h=>J g [.F,2] Z m<|rX_ h Z) (λ_ h=>H g [2,.denil 6 [some 1]] Z<|F h Z Z U) (λa4 h=>J g [10,.frz 36 (a4.map Qb) [6] []] Z (A (Ye Qc))<|F h Z Z U)
def YV (c:Qk)(f:QMk)(a:Int)(b:LI_):O_ (Int×Xf):=(Dc c a b).bind λd=>bif (d.2 != 0)then some (d.2,(Xf.mk (Qk.mk ([]:(L_ QD)) ([]:(L_ Xb)) ([]:(L_ QI)) 0 0) ([]:QMk) (QI.mk (⟨#[]⟩:ByteArray) ([]:(L_ YS)) (Qp.mk 0 0 ([]:(L_ Qp))) 0 0 ([]:(L_ Yg)) ([]:(L_ Yg)) ([]:LI_) 0 (0,0,0)) ([]:LI_)))else (idx c.Tasks a).bind λe=>some (0,(Xf.mk c f e d.1))
def ZZ (i l b e):CT 212 [.agg (Qa i),.sl 1 (l.map Qe),.I b,.sl 1 (e.map Qb)] [] (YV i l b e) (λr=>(.tup [.agg (QL r.2),.I r.1])) no_:=by
 refine W 32 func212 rfl λC j r h=>?_
 obtain⟨p,q,h⟩:=Qv h
 refine Qx j [9,.A (Qa i),2,.o (.C3 (.tup [.sl 1 (p.1.map Qb),.I p.2])),14] Z (a2_ Z (SO _ _ _ _ q)) ?_
 rcases Xy h with⟨f,h⟩|⟨f,h⟩
 ·refine Qx j [.T,2,.v .no [some 7,some 3,some 14,none,none,some 1,none,some 2,none,none,some 3,none,none,some 4,some 4,some 1,none,none,none,none,some 1] (.agg (QL (Xf.mk (Qk.mk ([]:(L_ QD)) ([]:(L_ Xb)) ([]:(L_ QI)) 0 0) ([]:QMk) (QI.mk (⟨#[]⟩:ByteArray) ([]:(L_ YS)) (Qp.mk 0 0 ([]:(L_ Qp))) 0 0 ([]:(L_ Yg)) ([]:(L_ Yg)) ([]:LI_) 0 (0,0,0)) ([]:LI_)))),2,.O 8 (.var (QL (Xf.mk (Qk.mk ([]:(L_ QD)) ([]:(L_ Xb)) ([]:(L_ QI)) 0 0) ([]:QMk) (QI.mk (⟨#[]⟩:ByteArray) ([]:(L_ YS)) (Qp.mk 0 0 ([]:(L_ Qp))) 0 0 ([]:(L_ Yg)) ([]:(L_ Yg)) ([]:LI_) 0 (0,0,0)) ([]:LI_)))),5,.K [8,9] [8]] Z (a3_ f Z Z) ?_
  cases h
  exact AK.done (ex_ [_,_] (an_ (an_ (ex_ _ (ex_ _ (an_ Z (an_ Z (Or.inl (an_ (QG.ag Z) (an_ (QG.sz Z) Z))))))) (an_ Z U)) (gives U)))
 obtain⟨g,k,h⟩:=Qv h
 refine Qx j [.F,3,.K [1,2,4,8,9,10] [4,8]] Z (A f) ?_
 refine AK.draw2 QG j mixed [.E (.agg (Qa i)),.N,.N,.N,.N,.B (.row (Qh g)),.E (.agg (Qh g)),.N,.E (.agg (QL (Xf.mk i l g p.1))),.m .s,.m .s] [] [] [8,9] [8] rfl rfl rfl ⟨⟨⟨⟨U,rfl⟩,(QF k)⟩,rfl⟩,rfl⟩ rfl (by kernel_rfl) rfl rfl rfl ?_
 refine Qx j [.O 8 (.var (QL (Xf.mk i l g p.1))),2,.K [8,9] [8]] Z (A Z) ?_
 cases h
 exact AK.done (ex_ [_,_] (an_ (an_ (ex_ _ (ex_ _ (an_ Z (an_ Z (Or.inl (an_ (QG.ag Z) (an_ (QG.sz Z) Z))))))) (an_ Z U)) (gives U)))
def Pf (c:Qp)(h:Qp->O_ Int)(d:Int)(a:Int):O_ ((Int×Int)⊕Int):=bif (a<(c.Kids.length:Int))then (idx c.Kids a).bind λe=>(h e).bind λb=>some (.inl ((max2 d b),(Qi (a+1))))else some (.inr d)
def Qaa (a:Int):O_ Int:=some (Qi (a+1))
def LI (h:Qp->O_ Int)(a:Qp):O_ Int:=(Qu (λst=>Pf a h st.1 st.2) (0,0)).bind (λq=>Qaa q)
def KA : Nat->Qp->O_ Int
 | 0,_=>none
 | n+1,a=>LI (KA n) a
def Pg (a:Qp):O_ Int:=KA (SizeOf.sizeOf a) a
def Qfb (D:Qp->O_ Int)(hrec_expr_Depth:∀(a:Qp) {r:Int},D a=some r->QU prog 196 [.agg (Qn a)] [] (Gives (.I r) []))(a:Qp):CT 196 [.agg (Qn a)] [] (LI D a) V.I no_:=
 W 20 func196 Z λC e r h=>J e [16,.o (.ln a.Kids.length),4] Z (Us _)<|lp_ h (λst=>⟨[(3,.I st.1),(7,.sl 3 (Jp a.Kids)),(8,.I (a.Kids.length:Int)),(9,.I st.2)],[]⟩) (λq=>(.exit 0,⟨[(3,.I q)],[]⟩)) Z (λ⟨k,l⟩ o h=>H e [6] Z<|I h (λb h=>B h λg i h=>B h λj f h=>G e [.T,6,.o (.row (Qn g)),.A (Qn g),2,.O 5 (.var (Qn g)),4,.A (Qn g),.o (.C1 (.I j)),9] Z (a6_ b (Jq i) Z Z Z (hrec_expr_Depth _ f))<|rN_ h Z) λb h=>J e [.F,2] Z b<|rX_ h Z) λm h=>H e [10] Z<|E h Z U
def Ta : ∀(fuel:Nat) (a:Qp) {r:Int},KA fuel a=some r->QU prog 196 [.agg (Qn a)] [] (Gives (.I r) [])
 | 0,_,_,h=>by cases h
 | n+1,a,_,h=>Qfb (KA n) (λ_ _ h=>Ta n _ h) a _ h
def Qim (a){r}(h:Pg a=some r):QU prog 196 [.agg (Qn a)] [] (Gives (.I r) []):=Ta _ a h
def RB (c:Qp)(h:Qp->O_ Int)(d:Int)(a:Int):O_ ((Int×Int)⊕Int):=bif (a<(c.Kids.length:Int))then (idx c.Kids a).bind λe=>(h e).bind λb=>some (.inl ((Qi (d+b)),(Qi (a+1))))else some (.inr d)
def Qbn (a:Int):O_ Int:=some a
def Nq (h:Qp->O_ Int)(a:Qp):O_ Int:=(Qu (λst=>RB a h st.1 st.2) (1,0)).bind (λq=>Qbn q)
def Wk : Nat->Qp->O_ Int
 | 0,_=>none
 | n+1,a=>Nq (Wk n) a
def Sh (a:Qp):O_ Int:=Wk (SizeOf.sizeOf a) a
def Qgy (D:Qp->O_ Int)(hrec_expr_Size:∀(a:Qp) {r:Int},D a=some r->QU prog 197 [.agg (Qn a)] [] (Gives (.I r) []))(a:Qp):CT 197 [.agg (Qn a)] [] (Nq D a) V.I no_:=
 W 19 func197 Z λC e r h=>J e [16,.o (.ln a.Kids.length),4] Z (Us _)<|lp_ h (λst=>⟨[(3,.I st.1),(7,.sl 3 (Jp a.Kids)),(8,.I (a.Kids.length:Int)),(9,.I st.2)],[]⟩) (λq=>(.exit 0,⟨[(3,.I q)],[]⟩)) Z (λ⟨k,l⟩ o h=>H e [6] Z<|I h (λb h=>B h λg i h=>B h λj f h=>G e [.T,6,.o (.row (Qn g)),.A (Qn g),2,.O 5 (.var (Qn g)),4,.A (Qn g),.o (.C1 (.I j)),9] Z (a6_ b (Jq i) Z Z Z (hrec_expr_Size _ f))<|rN_ h Z) λb h=>J e [.F,2] Z b<|rX_ h Z) λm h=>H e [9] Z<|E h Z U
def VE : ∀(fuel:Nat) (a:Qp) {r:Int},Wk fuel a=some r->QU prog 197 [.agg (Qn a)] [] (Gives (.I r) [])
 | 0,_,_,h=>by cases h
 | n+1,a,_,h=>Qgy (Wk n) (λ_ _ h=>VE n _ h) a _ h
def Qj4 (a){r}(h:Sh a=some r):QU prog 197 [.agg (Qn a)] [] (Gives (.I r) []):=VE _ a h
def UP (a:Int)(b:Bool):O_ Int:=bif b then some 1 else bif (a==5)then some 2 else bif (a==6)then some 3 else some (-1)
def UQ (a:Int)(b:Bool):O_ Int:=bif b then some 0 else bif (a==3)then UP a (a==3)else UP a (a==4)
def MX (a:Int):O_ Int:=bif (a==1)then UQ a (a==1)else UQ a (a==2)
def Qj5 (a):CT 238 [.I a] [] (MX a) V.I no_:=
 W 14 func238 Z λC c r h=>H c [12] Z<|mE_ (λk:Bool=>⟨[(3,.I a),(4,.b k)],[]⟩) (λk=>UQ a k=some r) (H c [6] Z<|I h (λd h=>J c [.T,1] Z d<|me_ h Z) λd h=>J c [.F,4] Z d<|me_ h Z) λk h=>I h (λf h=>J c [.T,8] Z f<|E h Z U) λf h=>J c [.F] Z f<|mE_ (λl:Bool=>⟨[(3,.I a),(7,.b l)],[]⟩) (λl=>UP a l=some r) (H c [6] Z<|I h (λe h=>J c [.T,1] Z e<|me_ h Z) λe h=>J c [.F,4] Z e<|me_ h Z) λl h=>I h (λg h=>J c [.T,8] Z g<|E h Z U) λg h=>J c [.F,6] Z g<|I h (λi h=>J c [.T,8] Z i<|E h Z U) λi h=>J c [.F,6] Z i<|I h (λj h=>J c [.T,8] Z j<|E h Z U) λj h=>J c [.F,9] Z j<|E h Z U
def IV (Yx:Int):O_ Bool:=some ((1<=Yx)&&(Yx<=11))
def Qin (Yx):CT 239 [.I Yx] [] (IV Yx) V.b no_:=
 W 9 func239 Z λC c r h=>H c [6] Z<|Y ⟨[(2,.b ((1<=Yx)&&(Yx<=11)))],[]⟩ (H c [4] Z<|bO_ (decide (1<=Yx)) (λa=>G c [.S 5 (.b true),5,.S 2 (.b ((1<=Yx)&&(Yx<=11)))] Z ⟨(tc_ a),(cb_ (XS a Z))⟩<|M Z) λa=>G c [.S 5 (.b false),5,.S 2 (.b ((1<=Yx)&&(Yx<=11)))] Z ⟨(tc_ a),(cb_ (Yt a Z))⟩<|M Z)<|H c [2] Z<|E h Z U
def LJ (h:Qp->Int->O_ Bool)(a:Qp)(b:Int):O_ Bool:=(h a b).bind λc=>some (!c)
def Qfc (D:Qp->Int->O_ Bool)(hrec_expr_parts:∀(i:Qp) (a:Int) {r:Bool},D i a=some r->QU prog 198 [.agg (Qn i),.I a] [] (Gives (.b r) []))(e:Qp)(f:Int):CT 241 [.agg (Qn e),.L 620] [(620,.var (Qb f))] (LJ D e f) V.b (λ_=>[(620,.var (Qb f))]):=
 W 8 func241 Z λC j r h=>B h λk g h=>K j [8,.A (Qn e),1,.o (.C2 (.b k)),5] Z Z (hrec_expr_parts _ _ g)<|E h Z r1_
def XL (c:(L_ Qp))(h:Qp->Int->O_ Bool)(d:Int)(a:Int):O_ (Int⊕(Int⊕Unit)):=bif (a<(c.length:Int))then (idx c a).bind λe=>(LJ h e d).bind λb=>bif b then some (.inr (.inl a))else some (.inl (Qi (a+1)))else some (.inr (.inr ()))
def Hl (a:Int):O_ Int:=some a
def Hm : O_ Int:=some (-1)
def Jr (h:Qp->Int->O_ Bool)(a:(L_ Qp))(b:Int):O_ Int:=(Qu (λst=>XL a h b st) 0).bind (Sum.elim (λq=>Hl q) (λq=>Hm))
def Hn (D:Qp->Int->O_ Bool)(hrec_expr_parts:∀(m:Qp) (a:Int) {r:Bool},D m a=some r->QU prog 198 [.agg (Qn m),.I a] [] (Gives (.b r) []))(i:(L_ Qp))(f:Int):CT 263 [.sl 3 (Jp i),.clo (.func 241) [] [.L 620]] [(620,.var (Qb f))] (Jr D i f) V.I (λ_=>[(620,.var (Qb f))]):=
 W 19 func263 Z λC e r h=>J e [9,.o (.ln i.length),4] Z (Us _)<|lq_ h (λst=>⟨[(0,.sl 3 (Jp i)),(1,.clo (.func 241) [] [.L 620]),(7,.I (i.length:Int)),(8,.I st)],[(620,.var (Qb f))]⟩) (λq=>(.ret,⟨[(4,.I q)],[(620,.var (Qb f))]⟩)) (λq=>(.exit 0,⟨[],[(620,.var (Qb f))]⟩)) Z (λs o h=>H e [6] Z<|I h (λg h=>B h λp k h=>B h λl j h=>g4_ e [.T,15,.o (.row (Qn p)),.A (Qn p),.cm (.clo) [(620,620)] [(620,620)] [] [.d,.d] [(620,.var (Qb f))] (.b l),2] Z g (Jq k) Z (Qfc D hrec_expr_parts _ _ _ j)<|I h (λc h=>J e [.T,9] Z c<|rR_ h Z) λc h=>J e [.F,7] Z c<|rN_ h Z) λg h=>J e [.F,2] Z g<|rX_ h Z) (λt h=>H e [2] Z<|E h Z r1_) (λ_ h=>H e [8] Z<|E h Z r1_)
def XM (h:Qp->Int->O_ Bool)(a:(L_ Qp))(b:Int):O_ Bool:=(Jr h a b).bind λc=>some (decide (0<=c))
def CC (D:Qp->Int->O_ Bool)(hrec_expr_parts:∀(f:Qp) (a:Int) {r:Bool},D f a=some r->QU prog 198 [.agg (Qn f),.I a] [] (Gives (.b r) []))(g:(L_ Qp))(c:Int):CT 240 [.sl 3 (Jp g),.clo (.func 241) [] [.L 620]] [(620,.var (Qb c))] (XM D g c) V.b (λ_=>[(620,.var (Qb c))]):=
 W 9 func240 Z λC i r h=>B h λj e h=>J i [9,.cm (.fn) [(620,620)] [(620,620)] [] [.d,.d] [(620,.var (Qb c))] (.I j),5] Z (Hn D hrec_expr_parts _ _ _ e)<|E h Z r1_
def Ph (b:Qp):O_ Bool:=bif (b.Kind==5)then (IV b.Num).bind λa=>some (!a)else some false
def Pi (h:Qp->Int->O_ Bool)(d:Qp)(a:Int)(b:Bool):O_ Bool:=bif b then some false else (XM h d.Kids a).bind λc=>some (!c)
def CD (h:Qp->Int->O_ Bool)(b:Qp)(a:Int):O_ Bool:=
 (MX b.Kind).bind λd=>
 bif ((b.Kids.length:Int) != d)then
 some false
 else
 bif ((b.Kind==2)&&((b.Num<0)||(a<=b.Num)))then
 some false
 else
 (Ph b).bind (λc=>Pi h b a c)
def YP : Nat->Qp->Int->O_ Bool
 | 0,_,_=>none
 | n+1,b,a=>CD (YP n) b a
def Pj (b:Qp)(a:Int):O_ Bool:=YP (SizeOf.sizeOf b) b a
def Qfd (D:Qp->Int->O_ Bool)(hrec_expr_parts:∀(f:Qp) (e:Int) {r:Bool},D f e=some r->QU prog 198 [.agg (Qn f),.I e] [] (Gives (.b r) []))(f:Qp)(e:Int):CT 198 [.agg (Qn f),.I e] [] (CD D f e) V.b no_:=
 W 43 func198 Z λC g r h=>B h λx u h=>H g [10] Z <| 
  dr_ g [.N,.N,.B (.ln f.Kids.length),.N,.N,.B (.C1 (.I x)),.N,.N] [] [] [2,3,5] [2,3] Z Z (a2_ (Us _) (Qj5 _ _ u)) Z <|
  H g [1] Z<|I h (λp h=>J g [.T,8] Z p<|E h Z U) λp h=>J g [.F,1] Z p<|Y ⟨[lk_ 2,lk_ 3,(13,.b ((f.Kind==2)&&((f.Num<0)||(e<=f.Num))))],[(2,.var (Qn f)),(3,.var (Qb e))]⟩ (H g [5] Z<|bO_ (f.Kind==2) (λi=>L g [.S 17 (.b true),4] Z i<|bO_ (decide (f.Num<0)) (λj=>G g [.S 21 (.b true),8,.S 13 (.b ((f.Kind==2)&&((f.Num<0)||(e<=f.Num))))] Z ⟨(tc_ j),(cb_ (XS i (KF j Z)))⟩<|M Z) λj=>G g [.S 21 (.b false),8,.S 13 (.b ((f.Kind==2)&&((f.Num<0)||(e<=f.Num))))] Z ⟨(tc_ j),(cb_ (XS i (Yu j Z)))⟩<|M Z) λi=>G g [.S 17 (.b false),12,.S 13 (.b ((f.Kind==2)&&((f.Num<0)||(e<=f.Num))))] Z ⟨(tc_ i),(cb_ (Yt i Z))⟩<|M Z)<|H g [1] Z<|I h (λk h=>J g [.T,8] Z k<|E h Z U) λk h=>J g [.F,1] Z k<|mV_ h (λq=>⟨[lk_ 2,lk_ 3,(28,.b q)],[(2,.var (Qn f)),(3,.var (Qb e))]⟩) (λq h=>H g [5] Z<|I h (λl h=>B h λv s h=>G g [.S 32 (.b true),2,.o (.C1 (.b v)),4] Z ⟨(tc_ l),(Qin _ _ s)⟩<|mq_ h Z) λl h=>L g [.S 32 (.b false),7] Z l<|mq_ h Z) λq h=>H g [1] Z<|I h (λm h=>J g [.T,8] Z m<|E h Z U) λm h=>B h λw t h=>K g [.F,8,.cm (.fn) [(620,3)] [(3,620)] [] [.d,.d] [(620,.var (Qb e))] (.b w),5] Z m (CC D hrec_expr_parts _ _ _ t)<|E h Z U
def Tb : ∀(fuel:Nat) (c:Qp) (a:Int) {r:Bool},YP fuel c a=some r->QU prog 198 [.agg (Qn c),.I a] [] (Gives (.b r) [])
 | 0,_,_,_,h=>by cases h
 | n+1,c,a,_,h=>Qfd (YP n) (λ_ _ _ h=>Tb n _ _ h) c a _ h
def Qio (c a){r}(h:Pj c a=some r):QU prog 198 [.agg (Qn c),.I a] [] (Gives (.b r) []):=Tb _ c a h
def Pk (b:Qp)(a:Int):O_ Bool:=(Pg b).bind λd=>bif (d<=40)then (Sh b).bind λe=>bif (e<=400)then (Pj b a).bind λc=>some c else some false else some false
def Qip (a:Bool):O_ Bool:=some a
def Et (b:Qp)(a:Int):O_ Bool:=(Pk b a).bind (λc=>Qip c)
def Pm (i a):CT 149 [.agg (Qn i),.I a] [] (Et i a) V.b no_:=
 W 18 func149 Z λC e r h=>H e [7] Z<|mV_ h (λk=>⟨[(4,.b k)],[]⟩) (λk h=>B h λq l h=>K e [1,.A (Qn i),.o (.C1 (.I q)),2] Z Z (Qim _ l)<|I h (λf h=>B h λs m h=>G e [.S 8 (.b true),.A (Qn i),.o (.C1 (.I s)),3] Z ⟨⟨(tc_ f),Z⟩,(Qj4 _ m)⟩<|I h (λg h=>B h λp j h=>G e [.S 13 (.b true),.A (Qn i),1,.o (.C2 (.b p)),3] Z ⟨⟨(tc_ g),Z⟩,(Qio _ _ j)⟩<|mq_ h Z) λg h=>L e [.S 13 (.b false),6] Z g<|mq_ h Z) λf h=>L e [.S 8 (.b false),11] Z f<|mq_ h Z) λk h=>H e [2] Z<|E h Z U
def JZ (b:LI_)(a:Int)(c:Bool):O_ (LI_⊕(LI_⊕(LI_⊕(LI_⊕LI_)))):=bif c then some (.inr (.inr (.inl b)))else bif (a==5)then some (.inr (.inr (.inr (.inl b))))else some (.inr (.inr (.inr (.inr b))))
def KI (b:LI_)(a:Int):O_ (LI_⊕(LI_⊕(LI_⊕(LI_⊕LI_)))):=bif (a==1)then some (.inl b)else bif (a==2)then some (.inr (.inl b))else bif (a==3)then JZ b a (a==3)else JZ b a (a==4)
def Eu (k a){r}(h:KI k a=some r):QU prog 277 [.sl 1 (k.map Qb),.I a] [] ((Sum.elim (λq=>(Gives (.clo (.func 279) [.sl 1 (q.map Qb)] []) [])) (Sum.elim (λq=>(Gives (.clo (.func 280) [.sl 1 (q.map Qb)] []) [])) (Sum.elim (λq=>(Gives (.clo (.func 281) [.sl 1 (q.map Qb)] []) [])) (Sum.elim (λq=>(Gives (.clo (.func 282) [.sl 1 (q.map Qb)] []) [])) (λq=>(Gives (.clo (.func 283) [.sl 1 (q.map Qb)] []) [])))))) r):=by
 refine wk_ 25 func277 λC c=>?_
 refine tg_ c [18] ?_
 refine bq_ c h [.T,10,.K [4] []] rfl (λg h=>?_) [.F,6] rfl λg h=>?_
 ·cases h
  exact AK.done (ex_ [_] (an_ (an_ Z U) (gives U)))
 refine bq_ c h [.T,10,.K [4] []] rfl (λi h=>?_) [.F] rfl λi h=>?_
 ·cases h
  exact AK.done (ex_ [_] (an_ (an_ Z U) (gives U)))
 refine AK.meet (λσ=>∃j:Bool,σ=⟨[(0,.sl 1 (k.map Qb)),(5,.I a),(14,.b j)],[]⟩/\JZ k a j=some r) ?_ ?_
 ·refine tg_ c [6] ?_
  refine bq_ c h [.T,1,.K [0,5,14] []] rfl (λd h=>?_) [.F,4,.K [0,5,14] []] rfl λd h=>?_
  ·exact AK.met (ex_ _ (an_ Z h))
  exact AK.met (ex_ _ (an_ Z h))
 rintro σ ⟨j,rfl,h⟩
 refine bq_ c h [.T,10,.K [4] []] rfl (λe h=>?_) [.F,6] rfl λe h=>?_
 ·cases h
  exact AK.done (ex_ [_] (an_ (an_ Z U) (gives U)))
 refine bq_ c h [.T,10,.K [4] []] rfl (λf h=>?_) [.F,11,.K [4] []] rfl λf h=>?_
 ·cases h
  exact AK.done (ex_ [_] (an_ (an_ Z U) (gives U)))
 cases h
 exact AK.done (ex_ [_] (an_ (an_ Z U) (gives U)))
def Tc (b:LI_)(a:Qp):O_ (Int×Int):=some (a.Num,0)
def Qcl (a b):CT 279 [.sl 1 (a.map Qb),.agg (Qn b)] [] (Tc a b) (λr=>(.tup [.I r.1,.I r.2])) no_:=
 W 8 func279 Z λC c r h=>H c [16] Z<|F h Z Z U
def Ap (a:LI_)(b:Qp):O_ (Int×Int):=(idx a b.Num).bind λc=>some (c,0)
def Qa1 (b c):CT 280 [.sl 1 (b.map Qb),.agg (Qn c)] [] (Ap b c) (λr=>(.tup [.I r.1,.I r.2])) no_:=
 W 11 func280 Z λC d r h=>B h λe a h=>J d [12,.o (.row (Qb e)),6] Z (QF a)<|F h Z Z U
def Fw (a:Int)(b:Int):O_ (Int×Int):=bif (((decide (a<0))==(decide (b<0)))&&((decide ((Qi (a+b))<0)) != (decide (a<0))))then some (0,6)else some ((Qi (a+b)),0)
def Qlv (a d):CT 288 [.I a,.I d] [] (Fw a d) (λr=>(.tup [.I r.1,.I r.2])) no_:=
 W 23 func288 Z λC e r h=>H e [16] Z<|Y ⟨[(6,.I (Qi (a+d))),(21,.b (((decide (a<0))==(decide (d<0)))&&((decide ((Qi (a+d))<0)) != (decide (a<0)))))],[]⟩ (H e [7] Z<|bO_ ((decide (a<0))==(decide (d<0))) (λc=>G e [.S 15 (.b true),7,.S 21 (.b (((decide (a<0))==(decide (d<0)))&&((decide ((Qi (a+d))<0)) != (decide (a<0)))))] Z ⟨(tc_ c),(cb_ (XS c Z))⟩<|M Z) λc=>G e [.S 15 (.b false),7,.S 21 (.b (((decide (a<0))==(decide (d<0)))&&((decide ((Qi (a+d))<0)) != (decide (a<0)))))] Z ⟨(tc_ c),(cb_ (Yt c Z))⟩<|M Z)<|H e [1] Z<|I h (λf h=>J e [.T,8] Z f<|F h Z Z U) λf h=>J e [.F,10] Z f<|F h Z Z U
def Wz (a:Int)(b:Int):O_ (Int×Int):=bif (((decide (a<0)) != (decide (b<0)))&&((decide ((Qi (a-b))<0)) != (decide (a<0))))then some (0,6)else some ((Qi (a-b)),0)
def Qcm (a d):CT 289 [.I a,.I d] [] (Wz a d) (λr=>(.tup [.I r.1,.I r.2])) no_:=
 W 23 func289 Z λC e r h=>H e [16] Z<|Y ⟨[(6,.I (Qi (a-d))),(21,.b (((decide (a<0)) != (decide (d<0)))&&((decide ((Qi (a-d))<0)) != (decide (a<0)))))],[]⟩ (H e [7] Z<|bO_ ((decide (a<0)) != (decide (d<0))) (λc=>G e [.S 15 (.b true),7,.S 21 (.b (((decide (a<0)) != (decide (d<0)))&&((decide ((Qi (a-d))<0)) != (decide (a<0)))))] Z ⟨(tc_ c),(cb_ (XS c Z))⟩<|M Z) λc=>G e [.S 15 (.b false),7,.S 21 (.b (((decide (a<0)) != (decide (d<0)))&&((decide ((Qi (a-d))<0)) != (decide (a<0)))))] Z ⟨(tc_ c),(cb_ (Yt c Z))⟩<|M Z)<|H e [1] Z<|I h (λf h=>J e [.T,8] Z f<|F h Z Z U) λf h=>J e [.F,10] Z f<|F h Z Z U
def BV (a:Int):O_ Int:=bif (a<0)then some (IntKind.u64.wrap (0-(IntKind.u64.wrap a)))else some (IntKind.u64.wrap a)
def Qbo (c):CT 294 [.I c] [] (BV c) (λr=>(.i .u64 r)) no_:=
 W 10 func294 Z λC b r h=>H b [12] Z<|I h (λa h=>K b [.T,3,.o (.any (.i .u64 (IntKind.u64.wrap c)) none),6] Z a (λσ d e _=>Ql.convI Z Z (QZ b.n Z) (d _ _ Z) Qgn QdL)<|E h Z U) λa h=>K b [.F,5,.o (.any (.i .u64 (IntKind.u64.wrap c)) none),4] Z a (λσ d e _=>Ql.convI Z Z (QZ b.n Z) (d _ _ Z) Qgn QdL)<|E h Z U
def Gp (a:Int)(b:Int):O_ (Int×Int):=some ((IntKind.u64.wrap ((IntKind.u64.wrap ((IntKind.u64.wrap ((Jn .u64 a 32)*(Jn .u64 b 32)))+(Jn .u64 (IntKind.u64.wrap ((IntKind.u64.wrap ((Jn .u64 a 32)*(DL .u64 b 4294967295)))+(Jn .u64 (IntKind.u64.wrap ((DL .u64 a 4294967295)*(DL .u64 b 4294967295))) 32))) 32)))+(Jn .u64 (IntKind.u64.wrap ((DL .u64 (IntKind.u64.wrap ((IntKind.u64.wrap ((Jn .u64 a 32)*(DL .u64 b 4294967295)))+(Jn .u64 (IntKind.u64.wrap ((DL .u64 a 4294967295)*(DL .u64 b 4294967295))) 32))) 4294967295)+(IntKind.u64.wrap ((DL .u64 a 4294967295)*(Jn .u64 b 32))))) 32))),(IntKind.u64.wrap (a*b)))
def Qcn (b c):CT 293 [.i .u64 b,.i .u64 c] [] (Gp b c) (λr=>(.tup [.i .u64 r.1,.i .u64 r.2])) no_:=
 W 51 func293 Z λC d r h=>G d [9,.o (.any (.i .u64 (DL .u64 b 4294967295)) none),6,.o (.any (.i .u64 (Jn .u64 b 32)) none),6,.o (.any (.i .u64 (DL .u64 c 4294967295)) none),6,.o (.any (.i .u64 (Jn .u64 c 32)) none),17,.o (.any (.i .u64 (Jn .u64 (IntKind.u64.wrap ((DL .u64 b 4294967295)*(DL .u64 c 4294967295))) 32)) none),7,.o (.any (.i .u64 (DL .u64 (IntKind.u64.wrap ((IntKind.u64.wrap ((Jn .u64 b 32)*(DL .u64 c 4294967295)))+(Jn .u64 (IntKind.u64.wrap ((DL .u64 b 4294967295)*(DL .u64 c 4294967295))) 32))) 4294967295)) none),6,.o (.any (.i .u64 (Jn .u64 (IntKind.u64.wrap ((IntKind.u64.wrap ((Jn .u64 b 32)*(DL .u64 c 4294967295)))+(Jn .u64 (IntKind.u64.wrap ((DL .u64 b 4294967295)*(DL .u64 c 4294967295))) 32))) 32)) none),21,.o (.any (.i .u64 (Jn .u64 (IntKind.u64.wrap ((DL .u64 (IntKind.u64.wrap ((IntKind.u64.wrap ((Jn .u64 b 32)*(DL .u64 c 4294967295)))+(Jn .u64 (IntKind.u64.wrap ((DL .u64 b 4294967295)*(DL .u64 c 4294967295))) 32))) 4294967295)+(IntKind.u64.wrap ((DL .u64 b 4294967295)*(Jn .u64 c 32))))) 32)) none),13] Z (a8_ (λσ a e _=>Ql.andB Z Z (QZ d.n Z) (a _ _ Z) (a _ _ Z)) (λσ a e _=>Ql.shr Z Z (QZ d.n Z) (a _ _ Z) (a _ _ Z) (by decide)) (λσ a e _=>Ql.andB Z Z (QZ d.n Z) (a _ _ Z) (a _ _ Z)) (λσ a e _=>Ql.shr Z Z (QZ d.n Z) (a _ _ Z) (a _ _ Z) (by decide)) (λσ a e _=>Ql.shr Z Z (QZ d.n Z) (a _ _ Z) (a _ _ Z) (by decide)) (λσ a e _=>Ql.andB Z Z (QZ d.n Z) (a _ _ Z) (a _ _ Z)) (λσ a e _=>Ql.shr Z Z (QZ d.n Z) (a _ _ Z) (a _ _ Z) (by decide)) (λσ a e _=>Ql.shr Z Z (QZ d.n Z) (a _ _ Z) (a _ _ Z) (by decide)))<|F h Z Z U
def WA (b:(Int×Int))(c:Int)(d:Int)(a:Int):O_ (Int×Int):=
 bif ((0<b.1)||(a<b.2))then
 some (0,6)
 else
 some ((Qi (c*d)),0)
def UR (a:Int)(b:Int):O_ (Int×Int):=(BV a).bind λd=>(BV b).bind λe=>(Gp d e).bind λc=>bif ((decide (a<0)) != (decide (b<0)))then WA c a b (IntKind.u64.wrap (9223372036854775807+1))else WA c a b 9223372036854775807
def Qfe (l m):CT 290 [.I l,.I m] [] (UR l m) (λr=>(.tup [.I r.1,.I r.2])) no_:=
 W 34 func290 Z λC g r h=>B h λt p h=>B h λu q h=>B h λf s h=>g3_ g [9,.o (.C1 (.i .u64 t)),1,.o (.C1 (.i .u64 u)),.o (.C2 (.tup [.i .u64 f.1,.i .u64 f.2])),12] Z (Qbo _ _ p) (Qbo _ _ q) (Qcn _ _ _ s)<|mE_ (λa:Int=>⟨[(0,.I l),(1,.I m),(6,.i .u64 f.1),(7,.i .u64 f.2),(8,.i .u64 a)],[]⟩) (λa=>WA f l m a=some r) (H g [9] Z<|I h (λj h=>J g [.T,5] Z j<|me_ h Z) λj h=>J g [.F,1] Z j<|me_ h Z) λa h=>H g [2] Z<|Y ⟨[(0,.I l),(1,.I m),(30,.b ((0<f.1)||(a<f.2)))],[]⟩ (H g [4] Z<|bO_ (decide (0<f.1)) (λe=>G g [.S 26 (.b true),5,.S 30 (.b ((0<f.1)||(a<f.2)))] Z ⟨(tc_ e),(cb_ (KF e Z))⟩<|M Z) λe=>G g [.S 26 (.b false),5,.S 30 (.b ((0<f.1)||(a<f.2)))] Z ⟨(tc_ e),(cb_ (Yu e Z))⟩<|M Z)<|H g [1] Z<|I h (λk h=>J g [.T,8] Z k<|F h Z Z U) λk h=>J g [.F,12] Z k<|F h Z Z U
def KJ (b:Int)(a:Int):O_ (Int×Int×Int):=bif (a==0)then some (0,0,7)else bif ((b==(-9223372036854775808))&&(a==(-1)))then some (0,0,6)else (chk (a != 0)).bind λ_=>(chk (a != 0)).bind λ_=>some ((Qi (Int.tdiv b a)),(Int.tmod b a),0)
def Sy (e g):CT 291 [.I e,.I g] [] (KJ e g) (λr=>(.tup [.I r.1,.I r.2.1,.I r.2.2])) no_:=
 W 23 func291 Z λC c r h=>H c [16] Z<|I h (λf h=>J c [.T,10,.K [4,5,6] []] Z f<|e3_ h Z Z U) λf h=>J c [.F,1] Z f<|Y ⟨[(0,.I e),(1,.I g),(10,.b ((e==(-9223372036854775808))&&(g==(-1))))],[]⟩ (H c [4] Z<|bO_ (e==(-9223372036854775808)) (λa=>G c [.S 13 (.b true),5,.S 10 (.b ((e==(-9223372036854775808))&&(g==(-1))))] Z ⟨(tc_ a),(cb_ (XS a Z))⟩<|M Z) λa=>G c [.S 13 (.b false),5,.S 10 (.b ((e==(-9223372036854775808))&&(g==(-1))))] Z ⟨(tc_ a),(cb_ (Yt a Z))⟩<|M Z)<|H c [1] Z<|I h (λd h=>J c [.T,10,.K [4,5,6] []] Z d<|e3_ h Z Z U) λd h=>X h λi h=>X h λj h=>G c [.F,4] Z (A d) <| 
  dr_ c [.N,.N,.N,.N,.N,.N,.N,.N,.N] [] [] [4,5,6] [] Z Z (a2_ (neZ i) (neZ j)) Z <|
  H c [2,.K [4,5,6] []] Z<|e3_ h Z Z U
def JM (a:Bool):O_ (Int×Int):=bif a then some (1,0)else some (0,0)
def Gw (c):CT 292 [.b c] [] (JM c) (λr=>(.tup [.I r.1,.I r.2])) no_:=
 W 5 func292 Z λC d r h=>H d [12] Z<|I h (λa h=>J d [.T,8] Z a<|F h Z Z U) λa h=>J d [.F,9] Z a<|F h Z Z U
def Pn (c:Int)(d:Int):O_ (Int×Int):=bif (c != 0)then (JM (d != 0)).bind λa=>some (a.1,a.2)else (JM false).bind λb=>some (b.1,b.2)
def VF (a:Int)(b:Int):O_ (Int×Int):=some (a,b)
def Po (c:Int)(d:Int):O_ (Int×Int):=bif (c != 0)then (JM true).bind λa=>some (a.1,a.2)else (JM (d != 0)).bind λb=>some (b.1,b.2)
def VG (a:Int)(b:Int):O_ (Int×Int):=some (a,b)
def JG (Yx:Int)(a:Int)(b:Int):O_ (Int×Int):=bif (Yx==1)then (Fw a b).bind λk=>some (k.1,k.2)else bif (Yx==2)then (Wz a b).bind λc=>some (c.1,c.2)else bif (Yx==3)then (UR a b).bind λd=>some (d.1,d.2)else bif (Yx==4)then (KJ a b).bind λe=>some (e.1,e.2.2)else bif (Yx==5)then (KJ a b).bind λf=>some (f.2.1,f.2.2)else bif (Yx==6)then (JM (a==b)).bind λg=>some (g.1,g.2)else bif (Yx==7)then (JM (a != b)).bind λh=>some (h.1,h.2)else bif (Yx==8)then (JM (decide (a<b))).bind λi=>some (i.1,i.2)else bif (Yx==9)then (JM (decide (a<=b))).bind λj=>some (j.1,j.2)else bif (Yx==10)then (Pn a b).bind (λv=>VF v.1 v.2)else bif (Yx==11)then (Po a b).bind (λv=>VG v.1 v.2)else some (0,1)
def Pp (Yx a2 b3):CT 287 [.I Yx,.I a2,.I b3] [] (JG Yx a2 b3) (λr=>(.tup [.I r.1,.I r.2])) no_:=
 W 112 func287 Z λC a r h=>H a [19] Z<|I h (λu h=>B h λx9 b8 h=>K a [.T,4,.o (.C2 (.tup [.I x9.1,.I x9.2])),9] Z u (Qlv _ _ _ b8)<|F h Z Z U) λu h=>J a [.F,6] Z u<|I h (λe h=>B h λy z h=>K a [.T,4,.o (.C2 (.tup [.I y.1,.I y.2])),9] Z e (Qcm _ _ _ z)<|F h Z Z U) λe h=>J a [.F,6] Z e<|I h (λf h=>B h λD N h=>K a [.T,4,.o (.C2 (.tup [.I D.1,.I D.2])),9] Z f (Qfe _ _ _ N)<|F h Z Z U) λf h=>J a [.F,6] Z f<|I h (λg h=>B h λw O h=>K a [.T,4,.o (.C2 (.tup [.I w.1,.I w.2.1,.I w.2.2])),20] Z g (Sy _ _ _ O)<|F h Z Z U) λg h=>J a [.F,6] Z g<|I h (λi h=>B h λx P h=>K a [.T,4,.o (.C2 (.tup [.I x.1,.I x.2.1,.I x.2.2])),20] Z i (Sy _ _ _ P)<|F h Z Z U) λi h=>J a [.F,6] Z i<|I h (λj h=>B h λa0 a1 h=>K a [.T,5,.o (.C1 (.tup [.I a0.1,.I a0.2])),9] Z j (Gw _ _ a1)<|F h Z Z U) λj h=>J a [.F,6] Z j<|I h (λk h=>B h λa3 a4 h=>K a [.T,5,.o (.C1 (.tup [.I a3.1,.I a3.2])),9] Z k (Gw _ _ a4)<|F h Z Z U) λk h=>J a [.F,6] Z k<|I h (λl h=>B h λa5 a6 h=>K a [.T,5,.o (.C1 (.tup [.I a5.1,.I a5.2])),9] Z l (Gw _ _ a6)<|F h Z Z U) λl h=>J a [.F,6] Z l<|I h (λm h=>B h λa7 a8 h=>K a [.T,5,.o (.C1 (.tup [.I a7.1,.I a7.2])),9] Z m (Gw _ _ a8)<|F h Z Z U) λm h=>J a [.F,6] Z m<|I h (λp h=>J a [.T,1] Z p<|mV_ h (λv=>⟨[(6,.I v.1),(7,.I v.2)],[]⟩) (λv h=>H a [4] Z<|I h (λq h=>B h λa9 b0 h=>G a [.S 94 (.b true),3,.o (.C1 (.tup [.I a9.1,.I a9.2])),5] Z ⟨(tc_ q),(Gw _ _ b0)⟩<|mq_ h Z) λq h=>B h λb1 b2 h=>G a [.S 94 (.b false),3,.o (.C1 (.tup [.I b1.1,.I b1.2])),5] Z ⟨(tc_ q),(Gw _ _ b2)⟩<|mq_ h Z) λ⟨b9,c0⟩ h=>H a [4] Z<|F h Z Z U) λp h=>J a [.F,6] Z p<|I h (λs h=>J a [.T,1] Z s<|mV_ h (λv=>⟨[(6,.I v.1),(7,.I v.2)],[]⟩) (λv h=>H a [4] Z<|I h (λt h=>B h λb4 b5 h=>G a [.S 105 (.b true),3,.o (.C1 (.tup [.I b4.1,.I b4.2])),5] Z ⟨(tc_ t),(Gw _ _ b5)⟩<|mq_ h Z) λt h=>B h λb6 b7 h=>G a [.S 105 (.b false),3,.o (.C1 (.tup [.I b6.1,.I b6.2])),5] Z ⟨(tc_ t),(Gw _ _ b7)⟩<|mq_ h Z) λ⟨c1,c2⟩ h=>H a [4] Z<|F h Z Z U) λs h=>J a [.F,10] Z s<|F h Z Z U
def Pq (b:Int):O_ (Int×Int):=(JG 2 0 b).bind λa=>some (a.1,a.2)
def Qlw (b):CT 286 [.I b] [] (Pq b) (λr=>(.tup [.I r.1,.I r.2])) no_:=
 W 8 func286 Z λC f r h=>B h λe a h=>J f [9,.o (.C3 (.tup [.I e.1,.I e.2])),7] Z (Pp _ _ _ _ a)<|F h Z Z U
def Ug (h:LI_->Qp->O_ (Int×Int))(e:LI_)(d:Qp):O_ (Int×Int):=(idx d.Kids 0).bind λf=>(h e f).bind λc=>bif (c.2 != 0)then some (0,c.2)else bif (d.Kind==3)then (Pq c.1).bind λa=>some (a.1,a.2)else (JG 6 c.1 0).bind λb=>some (b.1,b.2)
def Qco (D:LI_->Qp->O_ (Int×Int))(hrec_expr_env_eval:∀(e:LI_) (f:Qp) {r:(Int×Int)},D e f=some r->QU prog 264 [.sl 1 (e.map Qb),.agg (Qn f)] [] (Gives (.tup [.I r.1,.I r.2]) []))(e:LI_)(f:Qp):CT 281 [.sl 1 (e.map Qb),.agg (Qn f)] [] (Ug D e f) (λr=>(.tup [.I r.1,.I r.2])) no_:=
 W 33 func281 Z λC g r h=>B h λq m h=>B h λs p h=>g3_ g [12,.o (.row (Qn q)),.A (Qn q),.o (.C2 (.tup [.I s.1,.I s.2])),16] Z (Jq m) Z (hrec_expr_env_eval _ _ p)<|I h (λb h=>J g [.T,10] Z b<|F h Z Z U) λb h=>J g [.F,8] Z b<|I h (λa h=>B h λi j h=>K g [.T,3,.o (.C1 (.tup [.I i.1,.I i.2])),9] Z a (Qlw _ _ j)<|F h Z Z U) λa h=>B h λk l h=>K g [.F,6,.o (.C3 (.tup [.I k.1,.I k.2])),7] Z a (Pp _ _ _ _ l)<|F h Z Z U
def WB (f:(Int×Int))(g:Qp)(D:LI_->Qp->O_ (Int×Int))(h:LI_)(d:Bool):O_ (Int×Int):=bif d then (JG 7 f.1 0).bind λb=>some (b.1,b.2)else (idx g.Kids 1).bind λe=>(D h e).bind λa=>bif (a.2 != 0)then some (0,a.2)else (JG g.Num f.1 a.1).bind λc=>some (c.1,c.2)
def LK (h:LI_->Qp->O_ (Int×Int))(c:LI_)(b:Qp):O_ (Int×Int):=(idx b.Kids 0).bind λd=>(h c d).bind λa=>bif (a.2 != 0)then some (0,a.2)else bif ((b.Num==10)&&(a.1==0))then WB a b h c ((b.Num==10)&&(a.1==0))else bif (b.Num==11)then WB a b h c (a.1 != 0)else WB a b h c false
def Qff (rec_expr_env_eval:LI_->Qp->O_ (Int×Int))(hrec_expr_env_eval:∀(m:LI_) (f:Qp) {r:(Int×Int)},rec_expr_env_eval m f=some r->QU prog 264 [.sl 1 (m.map Qb),.agg (Qn f)] [] (Gives (.tup [.I r.1,.I r.2]) []))(m:LI_)(f:Qp):CT 282 [.sl 1 (m.map Qb),.agg (Qn f)] [] (LK rec_expr_env_eval m f) (λr=>(.tup [.I r.1,.I r.2])) no_:=
 W 60 func282 Z λC e r h=>B h λP N h=>B h λp O h=>g3_ e [12,.o (.row (Qn P)),.A (Qn P),.o (.C2 (.tup [.I p.1,.I p.2])),16] Z (Jq N) Z (hrec_expr_env_eval _ _ O)<|I h (λq h=>J e [.T,10] Z q<|F h Z Z U) λq h=>J e [.F] Z q<|mE_ (λl:Bool=>⟨[(0,.sl 1 (m.map Qb)),lk_ 3,(6,.I p.1),(22,.b l)],[(3,.var (Qn f))]⟩) (λl=>WB p f rec_expr_env_eval m l=some r) (H e [1] Z<|Y ⟨[(0,.sl 1 (m.map Qb)),lk_ 3,(6,.I p.1),(22,.b ((f.Num==10)&&(p.1==0)))],[(3,.var (Qn f))]⟩ (H e [5] Z<|bO_ (f.Num==10) (λa=>G e [.S 26 (.b true),5,.S 22 (.b ((f.Num==10)&&(p.1==0)))] Z ⟨(tc_ a),(cb_ (XS a Z))⟩<|M Z) λa=>G e [.S 26 (.b false),5,.S 22 (.b ((f.Num==10)&&(p.1==0)))] Z ⟨(tc_ a),(cb_ (Yt a Z))⟩<|M Z)<|H e [1] Z<|I h (λg h=>J e [.T,1] Z g<|me_ h Z) λg h=>J e [.F,5] Z g<|I h (λi h=>L e [.S 33 (.b true),5] Z i<|me_ h Z) λi h=>L e [.S 33 (.b false),5] Z i<|me_ h Z) λl h=>I h (λj h=>B h λs t h=>K e [.T,3,.o (.C3 (.tup [.I s.1,.I s.2])),9] Z j (Pp _ _ _ _ t)<|F h Z Z U) λj h=>B h λu w h=>B h λx y h=>g4_ e [.F,8,.o (.row (Qn u)),.A (Qn u),.o (.C2 (.tup [.I x.1,.I x.2])),14] Z j (Jq w) Z (hrec_expr_env_eval _ _ y)<|I h (λk h=>J e [.T,9] Z k<|F h Z Z U) λk h=>B h λz D h=>K e [.F,8,.o (.C3 (.tup [.I z.1,.I z.2])),7] Z k (Pp _ _ _ _ D)<|F h Z Z U
def Ci (D:LI_->Qp->O_ (Int×Int))(c:LI_)(d:Qp):O_ (Int×Int):=(idx d.Kids 0).bind λh=>(D c h).bind λe=>bif (e.2 != 0)then some (0,e.2)else bif (e.1 != 0)then (idx d.Kids 1).bind λf=>(D c f).bind λa=>some (a.1,a.2)else (idx d.Kids 2).bind λg=>(D c g).bind λb=>some (b.1,b.2)
def Qcp (rec_expr_env_eval:LI_->Qp->O_ (Int×Int))(D:∀(e:LI_) (f:Qp) {r:(Int×Int)},rec_expr_env_eval e f=some r->QU prog 264 [.sl 1 (e.map Qb),.agg (Qn f)] [] (Gives (.tup [.I r.1,.I r.2]) []))(e:LI_)(f:Qp):CT 283 [.sl 1 (e.map Qb),.agg (Qn f)] [] (Ci rec_expr_env_eval e f) (λr=>(.tup [.I r.1,.I r.2])) no_:=
 W 40 func283 Z λC g r h=>B h λw t h=>B h λx u h=>g3_ g [12,.o (.row (Qn w)),.A (Qn w),.o (.C2 (.tup [.I x.1,.I x.2])),16] Z (Jq t) Z (D _ _ u)<|I h (λb h=>J g [.T,10] Z b<|F h Z Z U) λb h=>J g [.F,7] Z b<|I h (λa h=>B h λi j h=>B h λk l h=>g4_ g [.T,5,.o (.row (Qn i)),.A (Qn i),.o (.C2 (.tup [.I k.1,.I k.2])),9] Z a (Jq j) Z (D _ _ l)<|F h Z Z U) λa h=>B h λm p h=>B h λq s h=>g4_ g [.F,8,.o (.row (Qn m)),.A (Qn m),.o (.C2 (.tup [.I q.1,.I q.2])),7] Z a (Jq p) Z (D _ _ s)<|F h Z Z U
def SA (b:Qp)(c:LI_):O_ (Int×Int):=(Tc c b).bind λa=>some (a.1,a.2)
def DA (b:Qp)(c:LI_):O_ (Int×Int):=(Ap c b).bind λa=>some (a.1,a.2)
def Ka (h:LI_->Qp->O_ (Int×Int))(c:Qp)(b:LI_):O_ (Int×Int):=(Ug h b c).bind λa=>some (a.1,a.2)
def DB (h:LI_->Qp->O_ (Int×Int))(c:Qp)(b:LI_):O_ (Int×Int):=(LK h b c).bind λa=>some (a.1,a.2)
def DC (h:LI_->Qp->O_ (Int×Int))(c:Qp)(b:LI_):O_ (Int×Int):=(Ci h b c).bind λa=>some (a.1,a.2)
def Uh (h:LI_->Qp->O_ (Int×Int))(b:LI_)(a:Qp):O_ (Int×Int):=(KI b a.Kind).bind λc=>(Sum.elim (λq=>SA a q) (Sum.elim (λq=>DA a q) (Sum.elim (λq=>Ka h a q) (Sum.elim (λq=>DB h a q) (λq=>DC h a q))))) c
def XI : Nat->LI_->Qp->O_ (Int×Int)
 | 0,_,_=>none
 | n+1,a,b=>Uh (XI n) a b
def Ie (b:LI_)(a:Qp):O_ (Int×Int):=XI (SizeOf.sizeOf a) b a
def Qcq (rec_expr_env_eval:LI_->Qp->O_ (Int×Int))(hrec_expr_env_eval:∀(o:LI_) (e:Qp) {r:(Int×Int)},rec_expr_env_eval o e=some r->QU prog 264 [.sl 1 (o.map Qb),.agg (Qn e)] [] (Gives (.tup [.I r.1,.I r.2]) []))(o:LI_)(e:Qp):CT 264 [.sl 1 (o.map Qb),.agg (Qn e)] [] (Uh rec_expr_env_eval o e) (λr=>(.tup [.I r.1,.I r.2])) no_:=by
 refine W 14 func264 rfl λC b r h=>?_
 refine tg_ b [8] ?_
 obtain⟨S,f,h⟩:=Qv h
 rcases S with(O | (P | (j | (k | l))))
 ·exact have h:SA e O=some r:=h;B h λp q h=> 
    dr_ b [.N,.N,.N,.B (.any (.clo (.func 279) [.sl 1 (O.map Qb)] []) none),.E (.agg (Qn e)),.B (.C2 (.tup [.I p.1,.I p.2])),.N,.N,.m .s,.m .s] [] [] [4,5] [] Z Z (a3_ (λσ g i _=>Ql.callSame (md:=.cm (.fn) [] [] [] [.d,.d] [] (.clo (.func 279) [.sl 1 (O.map Qb)] []) []) QG b g i Z (A (Eu _ _ f))) Z (Qcl _ _ _ q)) Z <|
    H b [2] Z<|F h Z Z U
 ·exact have h:DA e P=some r:=h;B h λt u h=> 
    dr_ b [.N,.N,.N,.B (.any (.clo (.func 280) [.sl 1 (P.map Qb)] []) none),.E (.agg (Qn e)),.B (.C2 (.tup [.I t.1,.I t.2])),.N,.N,.m .s,.m .s] [] [] [4,5] [] Z Z (a3_ (λσ g i _=>Ql.callSame (md:=.cm (.fn) [] [] [] [.d,.d] [] (.clo (.func 280) [.sl 1 (P.map Qb)] []) []) QG b g i Z (A (Eu _ _ f))) Z (Qa1 _ _ _ u)) Z <|
    H b [2] Z<|F h Z Z U
 ·exact have h:Ka rec_expr_env_eval e j=some r:=h;B h λv w h=> 
    dr_ b [.N,.N,.N,.B (.any (.clo (.func 281) [.sl 1 (j.map Qb)] []) none),.E (.agg (Qn e)),.B (.C2 (.tup [.I v.1,.I v.2])),.N,.N,.m .s,.m .s] [] [] [4,5] [] Z Z (a3_ (λσ g i _=>Ql.callSame (md:=.cm (.fn) [] [] [] [.d,.d] [] (.clo (.func 281) [.sl 1 (j.map Qb)] []) []) QG b g i Z (A (Eu _ _ f))) Z (Qco rec_expr_env_eval hrec_expr_env_eval _ _ _ w)) Z <|
    H b [2] Z<|F h Z Z U
 ·exact have h:DB rec_expr_env_eval e k=some r:=h;B h λx y h=> 
    dr_ b [.N,.N,.N,.B (.any (.clo (.func 282) [.sl 1 (k.map Qb)] []) none),.E (.agg (Qn e)),.B (.C2 (.tup [.I x.1,.I x.2])),.N,.N,.m .s,.m .s] [] [] [4,5] [] Z Z (a3_ (λσ g i _=>Ql.callSame (md:=.cm (.fn) [] [] [] [.d,.d] [] (.clo (.func 282) [.sl 1 (k.map Qb)] []) []) QG b g i Z (A (Eu _ _ f))) Z (Qff rec_expr_env_eval hrec_expr_env_eval _ _ _ y)) Z <|
    H b [2] Z<|F h Z Z U
 exact have h:DC rec_expr_env_eval e l=some r:=h;B h λz D h=> 
   dr_ b [.N,.N,.N,.B (.any (.clo (.func 283) [.sl 1 (l.map Qb)] []) none),.E (.agg (Qn e)),.B (.C2 (.tup [.I z.1,.I z.2])),.N,.N,.m .s,.m .s] [] [] [4,5] [] Z Z (a3_ (λσ g i _=>Ql.callSame (md:=.cm (.fn) [] [] [] [.d,.d] [] (.clo (.func 283) [.sl 1 (l.map Qb)] []) []) QG b g i Z (A (Eu _ _ f))) Z (Qcp rec_expr_env_eval hrec_expr_env_eval _ _ _ D)) Z <|
   H b [2] Z<|F h Z Z U
def Pr : ∀(fuel:Nat) (a:LI_) (b:Qp) {r:(Int×Int)},XI fuel a b=some r->QU prog 264 [.sl 1 (a.map Qb),.agg (Qn b)] [] (Gives (.tup [.I r.1,.I r.2]) [])
 | 0,_,_,_,h=>by cases h
 | n+1,a,b,_,h=>Qcq (XI n) (λ_ _ _ h=>Pr n _ _ h) a b _ h
def QdS (a b){r}(h:Ie a b=some r):QU prog 264 [.sl 1 (a.map Qb),.agg (Qn b)] [] (Gives (.tup [.I r.1,.I r.2]) []):=Pr _ a b h
def BW (b:Qp)(a:LI_):O_ (Int×Int):=(Et b (a.length:Int)).bind λd=>bif (!d)then some (0,1)else (Ie a b).bind λc=>some (c.1,c.2)
def Qbp (f a):CT 244 [.agg (Qn f),.sl 1 (a.map Qb)] [] (BW f a) (λr=>(.tup [.I r.1,.I r.2])) no_:=
 W 16 func244 Z λC g r h=>B h λl i h=>g3_ g [10,.A (Qn f),1,.o (.ln a.length),.o (.C2 (.b l)),3] Z Z Qc (Pm _ _ _ i)<|I h (λe h=>J g [.T,8] Z e<|F h Z Z U) λe h=>B h λk j h=>g3_ g [.F,5,.A (Qn f),.o (.C2 (.tup [.I k.1,.I k.2])),7] Z e Z (QdS _ _ j)<|F h Z Z U
def XF (b:Xf):O_ Int:=(BW b.task.Guard b.env).bind λa=>bif (a.2 != 0)then some a.2 else bif (a.1==0)then some 9 else some 0
def IW (f):CT 213 [.agg (QL f)] [] (XF f) V.I no_:=
 W 21 func213 Z λC e r h=>B h λi g h=>K e [10,.A (Qn f.task.Guard),2,.o (.C2 (.tup [.I i.1,.I i.2])),16] Z Z (Qbp _ _ _ g)<|I h (λa h=>J e [.T,9] Z a<|E h Z U) λa h=>J e [.F,7] Z a<|I h (λb h=>J e [.T,8] Z b<|E h Z U) λb h=>J e [.F,9] Z b<|E h Z U
def DJ (a:QLL):O_ QLL:=(chk ((([]:QLL).length+a.length)*24<=140737488355328)).bind λ_=>some (([]:QLL)++a)
def RC (b):CT 215 [.sl 1 (b.map QC)] [] (DJ b) (λr=>(.own 600 r.length)) (λr=>[(600,.arr 1 (r.map QC))]):=by
 refine W 8 func215 rfl λC a r h=>?_
 unfold DJ at h
 refine tg_ a [9] ?_
 refine AK.eqNil rfl rfl rfl (QZ a.n rfl) rfl rfl QrZ ?_ ?_
 ·intro c
  replace h:some ([]:QLL)=some r:=by simpa[chk,List.map_eq_nil_iff.1 c] using h
  exact K a [10,.adopt 2 600 1,.O 600 (.arr 1 (([]:QLL).map QC)),.S 2 (.own 600 ([]:QLL).length)] Z Z Z<|E h Z r1_
 exact X h λd h=>g3_ a [8,.O 5 (.arr 1 (([]:QLL).map QC)),.S 5 (.own 5 ([]:QLL).length),1,.x (λσ=>σ.app 5 1 7 (([]:QLL)++b).length ((([]:QLL)++b).map QC)),4,.K [2] [5],.ren 5 600] Z Z Z (Ql.appSB (by_:=24) (zs:=[.Y]) (e:=46) (e':=46) (z':=1) (by':=24) Z Z (QZ a.n Z) Z Z Z Qc (by kernel_rfl) (by kernel_rfl) (by kernel_rfl) Z (by decide) (by decide) (QeS d Qc) Z Xu (Yc Qc))<|E h Z r1_
def Kb (c:(Bool×Ys))(a:Int):O_ (Int×Bool):=(Kf c.2 a).bind λb=>bif (!b)then some (0,false)else some (a,true)
def WI (d:(L_ QD))(e:Int)(b:Int):O_ (Int×Bool):=
 (WS d e).bind λc=>
 bif (!c.1)then
 some (0,false)
 else
 (JF c.2).bind λa=>
 bif (a.Kind==1)then
 bif ((b<a.Lo)||(a.Hi<b))then
 some (0,false)
 else
 Kb c (Qi (b-a.Lo))
 else
 Kb c b
def QdT (w x k):CT 252 [.sl 7 (w.map Qr),.I x,.I k] [] (WI w x k) (λr=>(.tup [.I r.1,.b r.2])) no_:=
 W 43 func252 Z λC f r h=>B h λm t h=>K f [10,.o (.C2 (.tup [.agg (XG m.2),.b m.1])),5,.O 8 (.var (XG m.2)),10] Z (RA _ _ _ t) Z<|I h (λp h=>J f [.T,8] Z p<|F h Z Z U) λp h=>J f [.F,2] Z p<|mE_ (λl:Int=>⟨[(2,.I l),lk_ 8],[(8,.var (XG m.2))]⟩) (λl=>Kb m l=some r) (B h λa q h=>g3_ f [2,.A (XG m.2),.o (.C1 (.agg (Qr a))),2,.O 10 (.var (Qr a)),9] Z Z (BU _ _ q) Z<|I h (λg h=>J f [.T,2] Z g<|Y ⟨[(2,.I k),lk_ 8,lk_ 10,(33,.b ((k<a.Lo)||(a.Hi<k)))],[(8,.var (XG m.2)),(10,.var (Qr a))]⟩ (H f [6] Z<|bO_ (decide (k<a.Lo)) (λe=>G f [.S 28 (.b true),6,.S 33 (.b ((k<a.Lo)||(a.Hi<k)))] Z ⟨(tc_ e),(cb_ (KF e Z))⟩<|M Z) λe=>G f [.S 28 (.b false),6,.S 33 (.b ((k<a.Lo)||(a.Hi<k)))] Z ⟨(tc_ e),(cb_ (Yu e Z))⟩<|M Z)<|H f [1] Z<|I h (λi h=>J f [.T,9] Z i<|F h Z Z U) λi h=>J f [.F,9] Z i<|me_ h Z) λg h=>J f [.F,1] Z g<|me_ h Z) λl h=>B h λu s h=>K f [3,.A (XG m.2),1,.o (.C2 (.b u)),3] Z Z (Ro _ _ _ s)<|I h (λj h=>J f [.T,8] Z j<|F h Z Z U) λj h=>J f [.F,10] Z j<|F h Z Z U
def Wb (a:LI_)(j:(L_ Yg))(h:LI_)(k:Qk)(e:Int)(c:QMk):O_ ((Int×QMk)⊕(Int⊕QMk)):=
 bif (e<(a.length:Int))then
 (idx a e).bind λd=>
 bif ((d<0)||((j.length:Int)<=d))then
 some (.inr (.inl 11))
 else
 (idx j d).bind λl=>
 (BW l.Expr h).bind λf=>
 bif (f.2 != 0)then
 some (.inr (.inl f.2))
 else
 (idx j d).bind λb=>
 bif ((b.Place<0)||((k.Places.length:Int)<=b.Place))then
 some (.inr (.inl 3))
 else
 (idx k.Places b.Place).bind λm=>
 (WI k.Colours m.Colour f.1).bind λi=>
 bif (!i.2)then
 some (.inr (.inl 8))
 else
 (idx c b.Place).bind λn=>
 (NS ([i.1]:L_ Int)).bind λo=>
 (Ji n o).bind λg=>
 (idx c b.Place).bind λp=>
 bif (g.2 != 0)then
 some (.inr (.inl g.2))
 else
 some (.inl ((Qi (e+1)),(c.set b.Place.toNat g.1)))
 else
 some (.inr (.inr c))
def Qgz (a:Int):O_ (QMk×Int):=some (([]:L_ QBg),a)
def QgA (a:QMk):O_ (QMk×Int):=some (a,0)
def Yj (b:Qk)(d:(L_ Yg))(a:LI_)(c:LI_):O_ (QMk×Int):=(chk (decide (0<=(b.Places.length:Int))&&decide ((b.Places.length:Int)<=(b.Places.length:Int))&&decide ((b.Places.length:Int)<=4294967296))).bind λ_=>(Qu (λst=>Wb a d c b st.1 st.2) (0,(List.replicate (b.Places.length:Int).toNat (([]:QBg):QBg)))).bind (Sum.elim (λq=>Qgz q) (λq=>QgA q))
def Aa (t P e k):CT 226 [.agg (Qa t),.sl 4 (P.map Xm),.sl 1 (e.map Qb),.sl 1 (k.map Qb)] [] (Yj t P e k) (λr=>(.tup [.sl 1 (r.1.map Qe),.I r.2])) no_:=
 W 97 func226 Z λC g r h=>X h λb6 h=>K g [11,.o (.ln t.Places.length),.o (.rows (List.replicate (t.Places.length:Int).toNat [.Y]))] Z Qc ⟨b6,Z⟩<|AK.denilA (b:=21) [some 2] Z (Qih (f:=Qe) (x:=([]:QBg)) Z)<|K g [.S 21 (.own 21 (List.replicate (t.Places.length:Int).toNat (([]:QBg):QBg)).length),7,.o (.ln e.length),4] Z (by simp) Qc<|lq_ h (λst=>⟨[(1,.sl 4 (P.map Xm)),(3,.sl 1 (k.map Qb)),lk_ 4,(10,.own 21 st.2.length),(22,.sl 1 (e.map Qb)),(23,.I (e.length:Int)),(24,.I st.1)],[(4,.var (Qa t)),(21,.arr 1 (st.2.map Qe))]⟩) (λq=>(.ret,⟨[(8,.Y),(9,.I q)],[]⟩)) (λq=>(.exit 0,⟨[(10,.own 21 q.length)],[(21,.arr 1 (q.map Qe))]⟩)) Z (λ⟨a5,s⟩ o h=>H g [6] Z<|I h (λu h=>B h λj a6 h=>K g [.T,6,.o (.row (Qb j)),6] Z u (QF a6)<|Y ⟨[(1,.sl 4 (P.map Xm)),(3,.sl 1 (k.map Qb)),lk_ 4,(10,.own 21 s.length),(12,.I j),(22,.sl 1 (e.map Qb)),(23,.I (e.length:Int)),(24,.I a5),(35,.b ((j<0)||((P.length:Int)<=j)))],[(4,.var (Qa t)),(21,.arr 1 (s.map Qe))]⟩ (H g [4] Z<|bO_ (decide (j<0)) (λl=>G g [.S 30 (.b true),6,.S 35 (.b ((j<0)||((P.length:Int)<=j)))] Z ⟨(tc_ l),(cb_ (KF l Z))⟩<|M Z) λl=>G g [.S 30 (.b false),2,.o (.ln P.length),3,.S 35 (.b ((j<0)||((P.length:Int)<=j)))] Z ⟨⟨(tc_ l),Qc⟩,(cb_ (Yu l Z))⟩<|M Z)<|H g [1] Z<|I h (λw h=>J g [.T,10] Z w<|rR_ h Z) λw h=>B h λa7 a8 h=>B h λa3 a9 h=>g4_ g [.F,6,.o (.row (Xm a7)),1,.A (Qn a7.Expr),1,.o (.C2 (.tup [.I a3.1,.I a3.2])),14] Z w (QF a8) Z (Qbp _ _ _ a9)<|I h (λy h=>J g [.T,11] Z y<|rR_ h Z) λy h=>B h λi b0 h=>K g [.F,6,.o (.row (Xm i)),7] Z y (QF b0)<|Y ⟨[(1,.sl 4 (P.map Xm)),(3,.sl 1 (k.map Qb)),lk_ 4,(10,.own 21 s.length),(13,.I a3.1),(15,.I i.Place),(22,.sl 1 (e.map Qb)),(23,.I (e.length:Int)),(24,.I a5),(62,.b ((i.Place<0)||((t.Places.length:Int)<=i.Place)))],[(4,.var (Qa t)),(21,.arr 1 (s.map Qe))]⟩ (H g [4] Z<|bO_ (decide (i.Place<0)) (λp=>G g [.S 56 (.b true),7,.S 62 (.b ((i.Place<0)||((t.Places.length:Int)<=i.Place)))] Z ⟨(tc_ p),(cb_ (KF p Z))⟩<|M Z) λp=>G g [.S 56 (.b false),3,.o (.ln t.Places.length),3,.S 62 (.b ((i.Place<0)||((t.Places.length:Int)<=i.Place)))] Z ⟨⟨(tc_ p),Qc⟩,(cb_ (Yu p Z))⟩<|M Z)<|H g [1] Z<|I h (λz h=>J g [.T,10] Z z<|rR_ h Z) λz h=>B h λb7 b1 h=>B h λa4 b2 h=>G g [.F,3] Z (A z) <| 
  dr_ g [.N,.N,.N,.N,.N,.B (.row (Qw b7)),.N,.N,.N,.B (.C3 (.tup [.I a4.1,.b a4.2])),.N,.N,.N,.N,.N] [] [] [1,3,4,10,15,16,17,22,23,24] [4,21] Z Z (a2_ (QF b1) (QdT _ _ _ _ b2)) Z <|
  H g [8] Z<|I h (λD h=>J g [.T,10] Z D<|rR_ h Z) λD h=>B h λb8 a1 h=>B h λb3 b4 h=>B h λa0 b5 h=>B h λb9 a2 h=>G g [.F,3] Z (A D) <| 
  dr_ g [.N,.N,.N,.N,.N,.B (.row (Qe b8)),.N,.a (.bd []) (some ([],.sl 1 (([a4.1]:L_ Int).map Qb))) false,.B (.cd false [.d] 2 (b3.map Qm) b3.length),.B (.C2 (.tup [.sl 2 (a0.1.map Qm),.I a0.2])),.a .no none true true,.N,.a .no none true,.N,.m (.st (Qe b9) ((s.set i.Place.toNat a0.1).map Qe)),.N] [1,3,4,10,15,16,22,23,24] [4] [1,3,4,10,14,22,23,24] [4,21] Z Z (a7_ (Yi a1 Z) (XP (Yl a1).2) Z ⟨(Qgb _ _ b4),Qc⟩ (Vy _ _ _ b5) (Yi a2 Z) ⟨(XP (Yl a2).2),Cv Z⟩) Z <|
  H g [7] Z<|I h (λO h=>J g [.T,10] Z O<|rR_ h Z) λO h=>K g [.F,7,.S 10 (.own 21 (s.set i.Place.toNat a0.1).length)] Z O (congrArg (λn=>V.own 21 n) (by simp))<|rN_ h Z) λu h=>J g [.F,2] Z u<|rX_ h Z) (λc1 h=>H g [2,.denil 8 [some 1]] Z<|F h Z Z U) (λc0 h=>J g [10,.frz 21 (c0.map Qe) [8] []] Z (A (Ye Qc))<|F h Z Z U)
def XZ (b:Xf)(a:LI_):O_ Int:=(Yj b.net b.task.Outs a b.env).bind λc=>some c.2
def MY (b a):CT 217 [.agg (QL b),.sl 1 (a.map Qb)] [] (XZ b a) V.I no_:=
 W 20 func217 Z λC g r h=>B h λf e h=>K g [9,.A (Qa b.net),6,.o (.C4 (.tup [.sl 1 (f.1.map Qe),.I f.2])),14] Z Z (Aa _ _ _ _ _ e)<|E h Z U
def CE (a:LI_)(b:Xf):O_ Bool:=(XZ b a).bind λc=>some (c != 0)
def Td (a e):CT 216 [.sl 1 (a.map Qb),.L 620] [(620,.var (QL e))] (CE a e) V.b (λ_=>[(620,.var (QL e))]):=
 W 8 func216 Z λC g r h=>B h λi f h=>K g [7,.A (QL e),1,.o (.C2 (.I i)),5] Z Z (MY _ _ _ f)<|E h Z r1_
def Di (c:QLL)(d:Xf)(a:Int):O_ (Int⊕(Int⊕Unit)):=bif (a<(c.length:Int))then (idx c a).bind λe=>(CE e d).bind λb=>bif b then some (.inr (.inl a))else some (.inl (Qi (a+1)))else some (.inr (.inr ()))
def Oc (a:Int):O_ Int:=some a
def Od : O_ Int:=some (-1)
def KX (a:QLL)(b:Xf):O_ Int:=(Qu (λst=>Di a b st) 0).bind (Sum.elim (λq=>Oc q) (λq=>Od))
def Oe (c f):CT 245 [.own 620 c.length,.clo (.func 216) [] [.L 621]] [(620,.arr 1 (c.map QC)),(621,.var (QL f))] (KX c f) V.I (λ_=>[(620,.arr 1 (c.map QC)),(621,.var (QL f))]):=
 W 19 func245 Z λC e r h=>H e [14] Z<|lq_ h (λst=>⟨[(0,.own 620 c.length),(1,.clo (.func 216) [] [.L 621]),(7,.I (c.length:Int)),(8,.I st)],[(620,.arr 1 (c.map QC)),(621,.var (QL f))]⟩) (λq=>(.ret,⟨[(4,.I q)],[(620,.arr 1 (c.map QC)),(621,.var (QL f))]⟩)) (λq=>(.exit 0,⟨[],[(620,.arr 1 (c.map QC)),(621,.var (QL f))]⟩)) Z (λm o h=>H e [6] Z<|I h (λg h=>B h λl i h=>B h λk j h=>g4_ e [.T,16,.o (.row (QC l)),.cm (.clo) [(620,621)] [(621,620)] [] [.d,.d] [(620,.var (QL f))] (.b k),2] Z g (Yi i Z) (XP (Yl i).2) (Td _ _ _ j)<|I h (λa h=>J e [.T,9] Z a<|rR_ h Z) λa h=>J e [.F,7] Z a<|rN_ h Z) λg h=>J e [.F,2] Z g<|rX_ h Z) (λp h=>H e [2] Z<|E h Z r2_) (λ_ h=>H e [8] Z<|E h Z r2_)
def WT (a:Int)(b:Int)(c:QLL):O_ ((Int×Int×QLL)⊕(Int×QLL)):=some (.inl (b,(Qi (a+1)),c))
def JU (f:Xf)(c:Int)(b:Int)(a:QLL):O_ ((Int×Int×QLL)⊕(Int×QLL)):=bif (b<(a.length:Int))then (idx a b).bind λd=>(CE d f).bind λe=>bif (!e)then (idx a c).bind λg=>WT b (Qi (c+1)) (a.set c.toNat d)else WT b c a else some (.inr (c,a))
def JV (a:Int)(b:QLL):O_ QLL:=(chk (decide (0<=a)&&decide (a.toNat<=b.length))).bind λ_=>(chk (decide (0<=a)&&decide (a.toNat<=(b.take a.toNat++List.replicate (b.length-a.toNat) (([]:LI_):LI_)).length))).bind λ_=>some ((b.take a.toNat++List.replicate (b.length-a.toNat) (([]:LI_):LI_)).take a.toNat)
def KK (a:QLL)(c:Xf):O_ QLL:=(KX a c).bind λb=>bif (b==(-1))then some a else (Qu (λst=>JU c st.1 st.2.1 st.2.2) (b,(Qi (b+1)),a)).bind (λq=>JV q.1 q.2)
def MZ (P p):CT 214 [.own 620 P.length,.clo (.func 216) [] [.L 621]] [(620,.arr 1 (P.map QC)),(621,.var (QL p))] (KK P p) (λr=>(.own 620 r.length)) (λr=>[(620,.arr 1 (r.map QC)),(621,.var (QL p))]):=by
 refine W 42 func214 rfl λC g r h=>?_
 obtain⟨x5,a0,h⟩:=Qv h
 refine Qx g [9,.cm (.fn) [(620,620),(621,621)] [(620,620),(621,621)] [] [.d,.d] [(620,.arr 1 (P.map QC)),(621,.var (QL p))] (.I x5),10] Z (A (Oe _ _ _ a0)) ?_
 rcases Xy h with⟨v,h⟩|⟨v,h⟩
 ·exact J g [.T,8] Z v<|E h Z r2_
 refine Qx g [.F,11,.K [0,1,5,6] [620,621]] Z (A v) ?_
 obtain⟨a1,z,h⟩:=Qv h
 refine AK.loop (body:=(λst=>JU p st.1 st.2.1 st.2.2)) (λst σ=>σ=⟨[(0,.own 620 st.2.2.length),(1,.clo (.func 216) [] [.L 621]),(5,.I st.1),(6,.I st.2.1)],[(620,.arr 1 (st.2.2.map QC)),(621,.var (QL p))]⟩) (λq e σ=>e=.exit 0/\σ=⟨[(0,.own 620 q.2.length),(5,.I q.1)],[(620,.arr 1 (q.2.map QC)),(621,.var (QL p))]⟩) z rfl ?_ ?_
 ·rintro ⟨i9,D,N⟩ o σ rfl h
  refine tg_ g [9] ?_
  refine bq_ g h [.T,2] rfl (λk h=>?_) [.F,2,.K [0,5] [620,621]] rfl λk h=>?_
  ·refine AK.meet (λσ=>∃w:Int,∃s:QLL,σ=⟨[(0,.own 620 s.length),(1,.clo (.func 216) [] [.L 621]),(5,.I w),(6,.I D)],[(620,.arr 1 (s.map QC)),(621,.var (QL p))]⟩/\WT D w s=some o) ?_ ?_
   ·obtain⟨y,t,h⟩:=Qv h
    obtain⟨a2,O,h⟩:=Qv h
    refine Qx g [6,.o (.row (QC y)),7,.cm (.clo) [(620,621)] [(621,620)] [] [.d,.d] [(620,.var (QL p))] (.b a2),3] Z (a3_ (Yi t Z) (XP (Yl t).2) (Td _ _ _ O)) ?_
    rcases Xy h with⟨m,h⟩|⟨m,h⟩
    ·obtain⟨a3,u,h⟩:=Qv h
     refine Qx g [.T,6,.st (QC a3) ((N.set i9.toNat y).map QC),8,.S 0 (.own 620 (N.set i9.toNat y).length),.K [0,1,5,6] [620,621]] Z (a4_ m (Yi u Z) ⟨(XP (Yl u).2),Cv Z⟩ (congrArg (λn=>V.own 620 n) (by simp))) ?_
     exact AK.met (ex_ _ (ex_ _ (an_ Z h)))
    refine Qx g [.F,2,.K [0,1,5,6] [620,621]] Z (A m) ?_
    exact AK.met (ex_ _ (ex_ _ (an_ Z h)))
   rintro σ ⟨w,s,rfl,h⟩
   refine tg_ g [5,.K [0,1,5,6] [620,621]] ?_
   cases h
   exact Vn Z Z
  cases h
  exact QaV Z (an_ Z Z)
 obtain⟨a,c⟩:=a1
 replace h:JV a c=some r:=h
 rintro e σ ⟨rfl,rfl⟩
 refine tg_ g [6] ?_
 obtain⟨i,h⟩:=Qcj h
 refine AK.clearTail (b:=620) (l:=a.toNat) (n:=c.length) rfl rfl rfl rfl rfl rfl (QZ g.n rfl) rfl rfl Qc (QG.es rfl) Qq8 rfl rfl rfl (EE.val rfl (Xo (Qbi i)) rfl) (Xo (Pa i)) rfl ?_
 refine AK.denilA (b:=620) [some 1] rfl (QrU (f:=QC) (x:=(([]:LI_):LI_)) (λ_=>rfl) rfl) ?_
 obtain⟨j,h⟩:=Qcj h
 refine Qx g [.S 0 (.own 620 (c.take a.toNat++List.replicate (c.length-a.toNat) (([]:LI_):LI_)).length),.S 36 (.own 620 (c.take a.toNat++List.replicate (c.length-a.toNat) (([]:LI_):LI_)).length),6] Z (a2_ (Qpa (Xo (Pa i))) (Qpa (Xo (Pa i)))) ?_
 have a4:a.toNat=((c.take a.toNat++List.replicate (c.length-a.toNat) (([]:LI_):LI_)).take a.toNat).length:=by rw[WZ,MP (Xo (Pa j))]
 exact K g [.x (λσ=>(σ.set 620 (.arr 1 (((c.take a.toNat++List.replicate (c.length-a.toNat) (([]:LI_):LI_)).take a.toNat).map QC))).put 41 (.own 620 a.toNat)),.S 41 (.own 620 ((c.take a.toNat++List.replicate (c.length-a.toNat) (([]:LI_):LI_)).take a.toNat).length),4] Z (Ql.sliceO Z Z (QZ g.n Z) Z Z (QG.es Z) EE.no (EE.val Z (Xo (Qbi j)) Z) (Xo (Pa j)) (by simp)) (QrN (Xo (Pa j)))<|E h Z r2_
def WU (a:QBg)(b:Int)(c:Int):O_ (Unit⊕Unit):=bif (((QR a b).getD 0)<c)then some (.inr ())else some (.inl ())
def BX : O_ Bool:=some true
def BY : O_ Bool:=some false
def GL (a:QBg)(b:QBg):O_ Bool:=(Hj (λst p=>WU b p.1 p.2) () a).bind (Sum.elim (λq=>BX) (λq=>BY))
def Na (s g):CT 227 [.map 620,.map 621] [(620,.map (QN V.I V.I s)),(621,.map (QN V.I V.I g))] (GL s g) V.b (λ_=>[(620,.map (QN V.I V.I s)),(621,.map (QN V.I V.I g))]):=by
 refine W 19 func227 rfl λC a r h=>?_
 refine tg_ a [9] ?_
 refine AK.openMap (b:=620) DM rfl λc d L5 t u=>?_
 refine Qx a [.x (λσ=>(σ.set 8 (.itr c d #[] none)).put 8 (.L 8)),3,.K [1,8] [8,620,621]] Z (A (Ql.range (b:=620) Z Z (QZ a.n Z) Z Z Es Z)) ?_
 obtain⟨y,v,h⟩:=Qv h
 refine AK.range (body:=(λst p=>WU g p.1 p.2)) (λst seen σ=>∃cur:O_ Nat,σ=⟨[(1,.map 621),lk_ 8],[(8,.itr c d seen cur),(620,.mapX c d (HG V.I V.I L5) (QN V.I V.I s)),(621,.map (QN V.I V.I g))]⟩) (λq e σ=>e=.ret/\σ=⟨[(4,.b false)],[(620,.mapX c d (HG V.I V.I L5) (QN V.I V.I s)),(621,.map (QN V.I V.I g))]⟩) (λst e σ=>e=.exit 0/\σ=⟨[],[(620,.mapX c d (HG V.I V.I L5) (QN V.I V.I s)),(621,.map (QN V.I V.I g))]⟩) t u v (ex_ _ rfl) ?_ ?_
 ·rintro _ seen σ ⟨cur,rfl⟩ hex
  refine tg_ a [2] ?_
  refine AK.nextT (b:=8) (m:=620) rfl rfl rfl (QZ a.n rfl) rfl rfl rfl rfl ?_ ?_
  ·intro hleft
   refine tg_ a [7,.K [] [620,621]] ?_
   exact AK.done (Or.inl (an_ hleft (an_ (λh=>(by cases h)) (an_ Z Z))))
  intro O w D i
  obtain⟨o,h⟩:=hex _ i
  have ho:=h
  replace h:WU g w D=some o:=h
  refine Qx a [10,.x (λσ=>σ.put 11 (.tup [.I w,.I D])),11,.o (.any (.I ((QR g w).getD 0)) none),3] Z (a2_ (Ql.entryT (b:=8) (m:=620) (e:=V.I) (f:=V.I) Z Z (QZ a.n Z) Z i Z Z) (λσ N P _=>Ql.lookup (e:=V.I) (f:=V.I) (l:=g) (k:=w) (z:=0) Z Z (QZ a.n Z) (N _ _ Z) (P _ _ Z) (N _ _ Z) Es DM Mq Z)) ?_
  refine bq_ a h [.T,7,.K [4] [620,621]] rfl (λj h=>?_) [.F,2,.K [1,8] [8,620,621]] rfl λj h=>?_
  ·cases h
   exact AK.done (Or.inr (ex_ _ (an_ i (Or.inr (ex_ _ (an_ ho (an_ (λh=>(by cases h)) (an_ Z Z))))))))
  cases h
  exact AK.done (Or.inr (ex_ _ (an_ i (Or.inl (ex_ _ (an_ ho (an_ Z (ex_ _ Z))))))))
 rcases y with(_ | _)
 ·replace h:BX=some r:=h
  unfold BX at h
  rintro e σ ⟨rfl,rfl⟩
  exact H a [8] Z<|AK.closeMap (b:=620) Z<|E h Z r2_
 replace h:BY=some r:=h
 unfold BY at h
 rintro e σ ⟨rfl,rfl⟩
 exact H a [2] Z<|AK.closeMap (b:=620) Z<|E h Z r2_
def Qab (a:Unit):O_ Bool:=some false
def Qac (a:QBg):O_ Bool:=some false
def Qad (a:QBg):O_ Bool:=some false
def Ps (b:(QBg×QBg)):O_ Bool:=(GL b.1 b.2).bind λa=>some a
def IX (a:QBg)(b:QBg):O_ Bool:=(LF a b).bind (Sum.elim (λq=>Qab q) (Sum.elim (λq=>Qac q) (Sum.elim (λq=>Qad q) (λq=>Ps q))))
def Qiq (i j):CT 265 [.sl 2 (i.map Qm),.sl 2 (j.map Qm)] [] (IX i j) V.b no_:=by
 refine W 21 func265 rfl λC c r h=>?_
 obtain⟨m,a,h⟩:=Qv h
 refine tg_ c [9] ?_
 rcases m with(o | (k | (l | e)))
 ·exact have h:Qab o=some r:=h;J c [.cm (.fn) [] [] [] [.d,.d] [] (.tup [.lit (.map none),.lit (.map none),.b false]),21] Z (JO _ _ a)<|E h Z U
 ·exact have h:Qac k=some r:=h;J c [.cm (.fn) [] [(11,603)] [] [.d,.d] [(603,.map (QN V.I V.I k))] (.tup [.lit (.map none),.map 603,.b false]),21] Z (JO _ _ a)<|E h Z U
 ·exact have h:Qad l=some r:=h;J c [.cm (.fn) [] [(11,602)] [] [.d,.d] [(602,.map (QN V.I V.I l))] (.tup [.map 602,.lit (.map none),.b false]),21] Z (JO _ _ a)<|E h Z U
 exact have h:Ps e=some r:=h;B h λg f h=>K c [.cm (.fn) [] [(11,602),(613,603)] [] [.d,.d] [(602,.map (QN V.I V.I e.1)),(603,.map (QN V.I V.I e.2))] (.tup [.map 602,.map 603,.b true]),15,.cm (.fn) [(620,11),(621,613)] [(11,620),(613,621)] [] [.d,.d] [(620,.map (QN V.I V.I e.1)),(621,.map (QN V.I V.I e.2))] (.b g),5] Z (JO _ _ a) (Na _ _ _ f)<|E h Z U
def Xi (d:QMk)(e:QMk)(a:Int):O_ (Int⊕(Unit⊕Unit)):=bif (a<(d.length:Int))then (idx d a).bind λf=>(idx e a).bind λb=>(IX f b).bind λc=>bif (!c)then some (.inr (.inl ()))else some (.inl (Qi (a+1)))else some (.inr (.inr ()))
def DQ : O_ Bool:=some false
def DR : O_ Bool:=some true
def XT (a:QMk)(b:QMk):O_ Bool:=bif ((a.length:Int) != (b.length:Int))then some false else (Qu (λst=>Xi a b st) 0).bind (Sum.elim (λq=>DQ) (λq=>DR))
def DS (i l):CT 47 [.sl 1 (i.map Qe),.sl 1 (l.map Qe),.clo (.func 265) [] []] [] (XT i l) V.b no_:=
 W 32 func47 Z λC e r h=>K e [9,.o (.ln i.length),1,.o (.ln l.length),3] Z Qc Qc<|I h (λf h=>J e [.T,7] Z f<|E h Z U) λf h=>K e [.F,6,.o (.ln i.length),4] Z f Qc<|lq_ h (λst=>⟨[(1,.sl 1 (l.map Qe)),(2,.clo (.func 265) [] []),(15,.sl 1 (i.map Qe)),(16,.I (i.length:Int)),(17,.I st)],[]⟩) (λq=>(.ret,⟨[(6,.b false)],[]⟩)) (λq=>(.exit 0,⟨[],[]⟩)) Z (λu o h=>H e [6] Z<|I h (λg h=>B h λt m h=>B h λp j h=>B h λs k h=>g4_ e [.T,7,.o (.row (Qe t)),9,.o (.row (Qe p)),9,.o (.C2 (.b s)),3] Z g (QF m) (QF j) (Qiq _ _ _ k)<|I h (λa h=>J e [.T,8] Z a<|rR_ h Z) λa h=>J e [.F,7] Z a<|rN_ h Z) λg h=>J e [.F,2] Z g<|rX_ h Z) (λ_ h=>H e [2] Z<|E h Z U) (λ_ h=>H e [8] Z<|E h Z U)
def EY (a:QMk)(b:QMk):O_ Bool:=(XT a b).bind λc=>some c
def VH (a e):CT 246 [.sl 1 (a.map Qe),.sl 1 (e.map Qe)] [] (EY a e) V.b no_:=
 W 8 func246 Z λC f r h=>B h λg c h=>J f [9,.cm (.fn) [] [] [] [.d,.d,.d] [] (.b g),4] Z (DS _ _ _ c)<|E h Z U
def YZ (b:LI_)(c:Int)(a:Int):O_ (Int⊕(Int⊕Unit)):=bif (a<(b.length:Int))then (idx b a).bind λd=>bif (c==d)then some (.inr (.inl a))else some (.inl (Qi (a+1)))else some (.inr (.inr ()))
def Ut (a:Int):O_ Int:=some a
def Uu : O_ Int:=some (-1)
def WV (a:LI_)(b:Int):O_ Int:=(Qu (λst=>YZ a b st) 0).bind (Sum.elim (λq=>Ut q) (λq=>Uu))
def TM (d e):CT 242 [.sl 1 (d.map Qb),.I e] [] (WV d e) V.I no_:=
 W 19 func242 Z λC b r h=>J b [9,.o (.ln d.length),4] Z Qc<|lq_ h (λst=>⟨[(0,.sl 1 (d.map Qb)),(1,.I e),(7,.I (d.length:Int)),(8,.I st)],[]⟩) (λq=>(.ret,⟨[(4,.I q)],[]⟩)) (λq=>(.exit 0,⟨[],[]⟩)) Z (λi o h=>H b [6] Z<|I h (λc h=>B h λg f h=>K b [.T,15,.o (.row (Qb g)),4] Z c (QF f)<|I h (λa h=>J b [.T,9] Z a<|rR_ h Z) λa h=>J b [.F,7] Z a<|rN_ h Z) λc h=>J b [.F,2] Z c<|rX_ h Z) (λj h=>H b [2] Z<|E h Z U) (λ_ h=>H b [8] Z<|E h Z U)
def Yy (a:LI_)(b:Int):O_ Bool:=(WV a b).bind λc=>some (decide (0<=c))
def CF (e f):CT 207 [.sl 1 (e.map Qb),.I f] [] (Yy e f) V.b no_:=
 W 9 func207 Z λC g r h=>B h λi a h=>J g [9,.o (.C2 (.I i)),5] Z (TM _ _ _ a)<|E h Z U
def KB (a:Int):O_ (Int⊕(Unit⊕Unit)):=some (.inl (Qi (a+1)))
def BZ (a:(QMk×Int))(c:Xf):O_ Bool:=bif (a.2==0)then (EY a.1 c.m).bind λb=>some b else some false
def Ca (a:Int)(b:Bool):O_ (Int⊕(Unit⊕Unit)):=bif b then some (.inr (.inl ()))else KB a
def Yn (d:Xf)(b:LI_)(a:Int):O_ (Int⊕(Unit⊕Unit)):=bif (a<(d.task.Ins.length:Int))then (Yy b a).bind λf=>bif f then KB a else (YG b).bind λc=>(chk (c.length+([a]:L_ Int).length<=4294967296)).bind λ_=>(Jh (c++([a]:L_ Int))).bind λe=>(chk (e.length=(c++([a]:L_ Int)).length)).bind λ_=>(Yj d.net d.task.Ins e d.env).bind λg=>(BZ g d).bind (λh=>Ca a h)else some (.inr (.inr ()))
def Qa2 : O_ Int:=some 11
def Qa3 : O_ Int:=some 0
def XA (b:Xf)(a:LI_):O_ Int:=(Yj b.net b.task.Ins a b.env).bind λc=>bif (c.2 != 0)then some c.2 else (EY c.1 b.m).bind λd=>bif (!d)then some 10 else bif (b.task.Join != 3)then some 0 else (Qu (λst=>Yn b a st) 0).bind (Sum.elim (λq=>Qa2) (λq=>Qa3))
def Nb (g e):CT 218 [.agg (QL g),.sl 1 (e.map Qb)] [] (XA g e) V.I no_:=
 W 76 func218 Z λC a r h=>B h λx5 a1 h=>K a [9,.A (Qa g.net),6,.o (.C4 (.tup [.sl 1 (x5.1.map Qe),.I x5.2])),16] Z Z (Aa _ _ _ _ _ a1)<|I h (λt h=>J a [.T,9] Z t<|E h Z U) λt h=>B h λx7 a2 h=>K a [.F,5,.o (.C2 (.b x7)),4] Z t (VH _ _ _ a2)<|I h (λu h=>J a [.T,8] Z u<|E h Z U) λu h=>J a [.F,9] Z u<|I h (λw h=>J a [.T,8] Z w<|E h Z U) λw h=>K a [.F,9,.o (.ln g.task.Ins.length),4] Z w Qc<|lq_ h (λst=>⟨[(1,.sl 1 (e.map Qb)),lk_ 2,(41,.I (g.task.Ins.length:Int)),(42,.I st)],[(2,.var (QL g))]⟩) (λq=>(.ret,⟨[(4,.I 11)],[]⟩)) (λq=>(.exit 1,⟨[],[]⟩)) Z (λf o h=>H a [6] Z<|I h (λi h=>J a [.T,2] Z i<|mU_ ⟨[(1,.sl 1 (e.map Qb)),lk_ 2,(41,.I (g.task.Ins.length:Int)),(42,.I f)],[(2,.var (QL g))]⟩ (KB f=some o) (B h λa3 y h=>J a [12,.o (.C2 (.b a3)),2] Z (CF _ _ _ y)<|I h (λj h=>J a [.T,3] Z j<|mu_ h Z) λj h=>B h λs z h=>X h λD h=>B h λk N h=>X h λl h=>B h λO P h=>G a [.F,5,.o (.co false [.d] 1 (s.map Qb) s.length),1,.v (.bd []) [] (.sl 1 (([f]:L_ Int).map Qb)),.app ((s++([f]:L_ Int)).map Qb) (s++([f]:L_ Int)).length,6,.cm (.fn) [(620,49)] [(49,620)] [] [.d] [(620,.arr 1 (k.map Qb))] (.tup []),.S 8 (.own 49 k.length),.S 52 (.own 49 k.length),.S 53 (.own 49 k.length),5,.A (Qa g.net),6,.frz 49 (k.map Qb) [8,52,53,61] [],.o (.C4 (.tup [.sl 1 (O.1.map Qe),.I O.2])),8] Z (aB_ j ⟨(KH _ _ z),Qc,.inl Z⟩ Z ⟨Qc,XU D Qc,Xu,Yc Qc⟩ (Ga _ N) (by simp[Xo l]) (by simp[Xo l]) (by simp[Xo l]) Z (a4_ (Ye Qc) (Ye Qc) (Ye Qc) (Ye Qc)) (Aa _ _ _ _ _ P))<|mV_ h (λx=>⟨[(1,.sl 1 (e.map Qb)),lk_ 2,(41,.I (g.task.Ins.length:Int)),(42,.I f),(74,.b x)],[(2,.var (QL g))]⟩) (λx h=>H a [4] Z<|I h (λm h=>B h λa4 a0 h=>G a [.S 69 (.b true),3,.o (.C2 (.b a4)),2] Z ⟨(tc_ m),(VH _ _ _ a0)⟩<|mq_ h Z) λm h=>L a [.S 69 (.b false),6] Z m<|mq_ h Z) λx h=>H a [1] Z<|I h (λp h=>J a [.T,8] Z p<|rR_ h Z) λp h=>J a [.F,2] Z p<|mu_ h Z) λh=>H a [4] Z<|rN_ h Z) λi h=>J a [.F,2] Z i<|rX_ h Z) (λ_ h=>H a [2] Z<|E h Z U) (λ_ h=>H a [8] Z<|E h Z U)
def IY (a:(Int×Xf)):O_ Bool:=bif (a.1 != 0)then some true else (XF a.2).bind λb=>some (b != 0)
def Wc (a:Int)(b:(L_ Qg)):O_ ((Int×(L_ Qg))⊕((L_ Qg)⊕(L_ Qg))):=some (.inl ((Qi (a+1)),b))
def Gc (f:QLL)(j:LI_)(h:LI_)(g:Int)(k:Int)(e:Int)(a:(L_ Qg)):O_ ((Int×(L_ Qg))⊕((L_ Qg)⊕(L_ Qg))):=bif (e<(f.length:Int))then (idx f e).bind λi=>(YG j).bind λb=>(YG h).bind λc=>(YG i).bind λd=>(chk (a.length+([(Qg.mk g b c d)]:L_ Qg).length<=4294967296)).bind λ_=>bif (((a++[(Qg.mk g b c d)]).length:Int)==k)then some (.inr (.inl (a++[(Qg.mk g b c d)])))else some (.inl ((Qi (e+1)),(a++[(Qg.mk g b c d)])))else some (.inr (.inr a))
def IZ (a:(L_ Qg)):O_ ((Int×(L_ Qg))⊕((L_ Qg)⊕(L_ Qg))):=some (.inr (.inl a))
def Ab (a:Int)(b:(L_ Qg)):O_ ((Int×(L_ Qg))⊕((L_ Qg)⊕(L_ Qg))):=Wc a b
def Gd (g:QLL)(d:(Int×Xf))(e:QLL)(h:LI_)(i:Int)(j:Int)(a:Int)(b:(L_ Qg)):O_ ((Int×(L_ Qg))⊕((L_ Qg)⊕(L_ Qg))):=bif (a<(g.length:Int))then (idx g a).bind λc=>(XA d.2 c).bind λf=>bif (f != 0)then Wc a b else (Qu (λst=>Gc e h c i j st.1 st.2) (0,b)).bind (Sum.elim (λq=>IZ q) (λq=>Ab a q))else some (.inr (.inr b))
def La (a:(L_ Qg)):O_ ((L_ Qg)⊕(L_ Qg)):=some (.inl a)
def Lb (a:(L_ Qg)):O_ ((L_ Qg)⊕(L_ Qg)):=some (.inr a)
def Ge (e:(L_ Qg))(f:QLL)(a:(Int×Xf))(g:QLL)(h:LI_)(i:Int)(j:Int)(b:Bool):O_ ((L_ Qg)⊕(L_ Qg)):=bif b then some (.inr e)else (DJ f).bind λc=>(KK c a.2).bind λd=>(Qu (λst=>Gd g a d h i j st.1 st.2) (0,e)).bind (Sum.elim (λq=>La q) (λq=>Lb q))
def EI (e:Qk)(f:QMk)(c:Int)(g:Int)(k:(L_ Qg))(h:QLL)(i:QLL)(j:(L_ Qg))(d:LI_):O_ ((L_ Qg)⊕(L_ Qg)):=(YV e f c d).bind λa=>(IY a).bind (λb=>Ge j i a h d c g b)
def Lc (lpl lpf:Nat)(y:Qk)(z:QMk)(k:Int)(w:Int)(l:(L_ Qg))(j:QLL)(x:QLL)(l8:(L_ Qg))(D:LI_){r:((L_ Qg)⊕(L_ Qg))}(h:EI y z k w l j x l8 D=some r):Sv prog lpl (Yq lpf) (Qtl (.L 621) (.L 622) (.L 623) (.L 624) (.L 625) (.L 626) (.L 627) (.L 628) (.sl 1 (D.map Qb))) [(620,.lp lpl (Yq lpf) (GC (.L 621) (.L 622) (.L 623) (.L 624) (.L 625) (.L 626) (.L 627) (.L 628)) 0),(621,.var (Qa y)),(622,.var (Qo z)),(623,.var (Qb k)),(624,.var (Qb w)),(625,.var [.own 618 l.length]),(618,.arr 4 (l.map Qf)),(626,.var (Xs j)),(627,.var (Xs x)),(628,.var [.own 619 l8.length]),(619,.arr 4 (l8.map Qf))] ((Sum.elim (λq=>(Gives (.b false) [(618,.arr 4 (l.map Qf)),(619,.arr 4 (q.map Qf)),(620,.lp lpl (Yq lpf) (GC (.L 621) (.L 622) (.L 623) (.L 624) (.L 625) (.L 626) (.L 627) (.L 628)) 2),(621,.var (Qa y)),(622,.var (Qo z)),(623,.var (Qb k)),(624,.var (Qb w)),(625,.var [.own 619 q.length]),(626,.var (Xs j)),(627,.var (Xs x)),(628,.var [.own 619 q.length])])) (λq=>(Gives (.b true) [(618,.arr 4 (l.map Qf)),(619,.arr 4 (q.map Qf)),(620,.lp lpl (Yq lpf) (GC (.L 621) (.L 622) (.L 623) (.L 624) (.L 625) (.L 626) (.L 627) (.L 628)) 0),(621,.var (Qa y)),(622,.var (Qo z)),(623,.var (Qb k)),(624,.var (Qb w)),(625,.var [.own 618 l.length]),(626,.var (Xs j)),(627,.var (Xs x)),(628,.var [.own 619 q.length])]))) r):=by
 refine Sv.walk (b:=620) 109 rfl rfl λC i=>?_
 refine tg_ i [3] ?_
 refine AK.done (an_ rfl (ex_ _ (an_ rfl ?_)))
 obtain⟨f,b1,h⟩:=Qv h
 refine Qx i [3,.A (Qa y),3,.o (.C4 (.tup [.agg (QL f.2),.I f.1])),5,.O 14 (.var (QL f.2)),5] Z (a3_ Z (ZZ _ _ _ _ _ b1) Z) ?_
 obtain⟨a9,b2,h⟩:=Qv h
 replace h:Ge l8 x f j D k w a9=some r:=h
 refine AK.meetX (λσ=>σ=⟨[(6,.L 623),(7,.L 624),(8,.L 625),(10,.L 626),(11,.L 627),(12,.L 628),(13,.sl 1 (D.map Qb)),lk_ 14,(69,.b a9)],[(14,.var (QL f.2)),(618,.arr 4 (l.map Qf)),(619,.arr 4 (l8.map Qf)),(620,.lp lpl (Yq lpf) (GC (.L 621) (.L 622) (.L 623) (.L 624) (.L 625) (.L 626) (.L 627) (.L 628)) 1),(621,.var (Qa y)),(622,.var (Qo z)),(623,.var (Qb k)),(624,.var (Qb w)),(625,.var [.own 618 l.length]),(626,.var (Xs j)),(627,.var (Xs x)),(628,.var [.own 619 l8.length])]⟩) ?_ ?_
 ·replace h:=b2
  refine tg_ i [4] ?_
  rcases Xy h with⟨P,h⟩|⟨P,h⟩
  ·refine Qx i [.S 65 (.b true),5,.K [6,7,8,10,11,12,13,14,69] [14,618,619,620,621,622,623,624,625,626,627,628]] Z (tc_ P) ?_
   cases h
   exact mt_
  obtain⟨c5,b3,h⟩:=Qv h
  refine Qx i [.S 65 (.b false),.A (QL f.2),.o (.C1 (.I c5)),3,.K [6,7,8,10,11,12,13,14,69] [14,618,619,620,621,622,623,624,625,626,627,628]] Z ⟨⟨(tc_ P),Z⟩,(IW _ _ b3)⟩ ?_
  cases h
  exact mt_
 rintro σ rfl
 replace h:Ge l8 x f j D k w a9=some r:=h
 refine tg_ i [1] ?_
 rcases Xy h with⟨a0,h⟩|⟨a0,h⟩
 ·refine Qx i [.T,3,.K [] [618,619,620,621,622,623,624,625,626,627,628]] Z (A a0) ?_
  cases h
  refine AK.done ?_
  exact ex_ _ (an_ Z (gives rB_))
 obtain⟨b4,b5,h⟩:=Qv h
 obtain⟨g,b6,h⟩:=Qv h
 refine Qx i [.F,5,.o (.co false [.d] 1 (b4.map QC) b4.length),1,.cm (.fn) [(620,71),(621,14)] [(71,620),(14,621)] [] [.d,.d] [(620,.arr 1 (g.map QC)),(621,.var (QL f.2))] (.own 620 g.length),6,.o (.ln j.length),4,.K [6,7,8,12,13,14,16,74,75,76] [14,71,618,619,620,621,622,623,624,625,626,627,628]] Z (a4_ a0 ⟨(RC _ _ b5),Qc,.inl Z⟩ (MZ _ _ _ b6) Qc) ?_
 obtain⟨c6,b7,h⟩:=Qv h
 refine AK.loop (body:=(λst=>Gd j f g D k w st.1 st.2)) (λst σ=>σ=⟨[(6,.L 623),(7,.L 624),(8,.L 625),(12,.L 628),(13,.sl 1 (D.map Qb)),lk_ 14,(16,.own 71 g.length),(74,.sl 1 (j.map QC)),(75,.I (j.length:Int)),(76,.I st.1)],[(14,.var (QL f.2)),(71,.arr 1 (g.map QC)),(618,.arr 4 (l.map Qf)),(619,.arr 4 (st.2.map Qf)),(620,.lp lpl (Yq lpf) (GC (.L 621) (.L 622) (.L 623) (.L 624) (.L 625) (.L 626) (.L 627) (.L 628)) 1),(621,.var (Qa y)),(622,.var (Qo z)),(623,.var (Qb k)),(624,.var (Qb w)),(625,.var [.own 618 l.length]),(626,.var (Xs j)),(627,.var (Xs x)),(628,.var [.own 619 st.2.length])]⟩) (Sum.elim (λq e σ=>e=.ret/\σ=⟨[],[(618,.arr 4 (l.map Qf)),(619,.arr 4 (q.map Qf)),(620,.lp lpl (Yq lpf) (GC (.L 621) (.L 622) (.L 623) (.L 624) (.L 625) (.L 626) (.L 627) (.L 628)) 1),(621,.var (Qa y)),(622,.var (Qo z)),(623,.var (Qb k)),(624,.var (Qb w)),(625,.var [.own 619 q.length]),(626,.var (Xs j)),(627,.var (Xs x)),(628,.var [.own 619 q.length])]⟩) (λq e σ=>e=.exit 2/\σ=⟨[],[(618,.arr 4 (l.map Qf)),(619,.arr 4 (q.map Qf)),(620,.lp lpl (Yq lpf) (GC (.L 621) (.L 622) (.L 623) (.L 624) (.L 625) (.L 626) (.L 627) (.L 628)) 1),(621,.var (Qa y)),(622,.var (Qo z)),(623,.var (Qb k)),(624,.var (Qb w)),(625,.var [.own 618 l.length]),(626,.var (Xs j)),(627,.var (Xs x)),(628,.var [.own 619 q.length])]⟩)) b7 rfl ?_ ?_
 ·rintro ⟨a1,d4⟩ o σ rfl h
  refine tg_ i [6] ?_
  refine bq_ i h [.T,2] rfl (λa2 h=>?_) [.F,2,.K [] [618,619,620,621,622,623,624,625,626,627,628]] rfl λa2 h=>?_
  ·refine AK.meet (λσ=>∃a6:(L_ Qg),σ=⟨[(6,.L 623),(7,.L 624),(8,.L 625),(12,.L 628),(13,.sl 1 (D.map Qb)),lk_ 14,(16,.own 71 g.length),(74,.sl 1 (j.map QC)),(75,.I (j.length:Int)),(76,.I a1)],[(14,.var (QL f.2)),(71,.arr 1 (g.map QC)),(618,.arr 4 (l.map Qf)),(619,.arr 4 (a6.map Qf)),(620,.lp lpl (Yq lpf) (GC (.L 621) (.L 622) (.L 623) (.L 624) (.L 625) (.L 626) (.L 627) (.L 628)) 1),(621,.var (Qa y)),(622,.var (Qo z)),(623,.var (Qb k)),(624,.var (Qb w)),(625,.var [.own 618 l.length]),(626,.var (Xs j)),(627,.var (Xs x)),(628,.var [.own 619 a6.length])]⟩/\Wc a1 a6=some o) ?_ ?_
   ·obtain⟨b0,b8,h⟩:=Qv h
    obtain⟨c7,b9,h⟩:=Qv h
    refine Qx i [3,.o (.row (QC b0)),7,.A (QL f.2),1,.o (.C2 (.I c7)),3] Z (a3_ (QF b8) Z (Nb _ _ _ b9)) ?_
    refine bq_ i h [.T,3,.K [6,7,8,12,13,14,16,74,75,76] [14,71,618,619,620,621,622,623,624,625,626,627,628]] rfl (λa3 h=>?_) [.F,10,.K [6,7,8,12,13,14,16,18,74,75,76,84,85,86] [14,71,618,619,620,621,622,623,624,625,626,627,628]] rfl λa3 h=>?_
    ·exact AK.met (ex_ _ (an_ Z h))
    obtain⟨c8,c0,h⟩:=Qv h
    refine AK.loop (body:=(λst=>Gc g D b0 k w st.1 st.2)) (λst σ=>σ=⟨[(6,.L 623),(7,.L 624),(8,.L 625),(12,.L 628),(13,.sl 1 (D.map Qb)),lk_ 14,(16,.own 71 g.length),(18,.sl 1 (b0.map Qb)),(74,.sl 1 (j.map QC)),(75,.I (j.length:Int)),(76,.I a1),(84,.own 71 g.length),(85,.I (g.length:Int)),(86,.I st.1)],[(14,.var (QL f.2)),(71,.arr 1 (g.map QC)),(618,.arr 4 (l.map Qf)),(619,.arr 4 (st.2.map Qf)),(620,.lp lpl (Yq lpf) (GC (.L 621) (.L 622) (.L 623) (.L 624) (.L 625) (.L 626) (.L 627) (.L 628)) 1),(621,.var (Qa y)),(622,.var (Qo z)),(623,.var (Qb k)),(624,.var (Qb w)),(625,.var [.own 618 l.length]),(626,.var (Xs j)),(627,.var (Xs x)),(628,.var [.own 619 st.2.length])]⟩) (Sum.elim (λq e σ=>e=.ret/\σ=⟨[],[(618,.arr 4 (l.map Qf)),(619,.arr 4 (q.map Qf)),(620,.lp lpl (Yq lpf) (GC (.L 621) (.L 622) (.L 623) (.L 624) (.L 625) (.L 626) (.L 627) (.L 628)) 1),(621,.var (Qa y)),(622,.var (Qo z)),(623,.var (Qb k)),(624,.var (Qb w)),(625,.var [.own 619 q.length]),(626,.var (Xs j)),(627,.var (Xs x)),(628,.var [.own 619 q.length])]⟩) (λq e σ=>e=.exit 4/\σ=⟨[(6,.L 623),(7,.L 624),(8,.L 625),(12,.L 628),(13,.sl 1 (D.map Qb)),lk_ 14,(16,.own 71 g.length),(74,.sl 1 (j.map QC)),(75,.I (j.length:Int)),(76,.I a1)],[(14,.var (QL f.2)),(71,.arr 1 (g.map QC)),(618,.arr 4 (l.map Qf)),(619,.arr 4 (q.map Qf)),(620,.lp lpl (Yq lpf) (GC (.L 621) (.L 622) (.L 623) (.L 624) (.L 625) (.L 626) (.L 627) (.L 628)) 1),(621,.var (Qa y)),(622,.var (Qo z)),(623,.var (Qb k)),(624,.var (Qb w)),(625,.var [.own 618 l.length]),(626,.var (Xs j)),(627,.var (Xs x)),(628,.var [.own 619 q.length])]⟩)) c0 rfl ?_ ?_
    ·rintro ⟨d5,a7⟩ o σ rfl h
     refine tg_ i [6] ?_
     rcases Xy h with⟨a4,h⟩|⟨a4,h⟩
     ·obtain⟨c9,a8,h⟩:=Qv h
      obtain⟨p,c1,h⟩:=Qv h
      obtain⟨t,c2,h⟩:=Qv h
      obtain⟨u,c3,h⟩:=Qv h
      obtain⟨c4,h⟩:=Qcj h
      refine Qx i [.T,7,.o (.row (QC c9)),4,.K [6,7,8,12,13,14,16,18,20,74,75,76,84,85,86] [14,71,618,619,620,621,622,623,624,625,626,627,628]] Z (a3_ a4 (Yi a8 Z) (XP (Yl a8).2)) ?_
      refine AK.draw2 QG i mixed [.N,.N,.N,.B (.cd false [.d] 1 (p.map Qb) p.length),.N,.B (.cd false [.d] 1 (t.map Qb) t.length),.N,.B (.cd false [.d] 1 (u.map Qb) u.length),.E (.agg (Qf (Qg.mk k p t u))),.a (.bd []) (some ([],.sl 4 (([(Qg.mk k p t u)]:L_ Qg).map Qf))) false,.m (.app ((a7++[(Qg.mk k p t u)]).map Qf) (a7++[(Qg.mk k p t u)]).length),.m .s] [] [] [6,7,8,12,13,14,16,18,74,75,76,84,85,86] [14,71,618,619,620,621,622,623,624,625,626,627,628] rfl rfl rfl ⟨⟨⟨⟨⟨⟨U,⟨(KH _ _ c1),Qc⟩⟩,⟨(KH _ _ c2),Qc⟩⟩,⟨(KH _ _ c3),Qc⟩⟩,rfl⟩,rfl⟩,⟨Qc,XU c4 Qc,Xu,Yc Qc⟩⟩ rfl (by kernel_rfl) rfl rfl rfl ?_
      refine Qx i [.O 628 (.var [.own 619 (a7++[(Qg.mk k p t u)]).length]),9] Z (A Z) ?_
      refine bg_ h (λa5 h=>Qx i [.T,4,.O 625 (.var [.own 619 (a7++[(Qg.mk k p t u)]).length]),5,.K [] [618,619,620,621,622,623,624,625,626,627,628]] rfl (a2_ a5 rfl) ?_) λa5 h=>Qx i [.F,7,.K [6,7,8,12,13,14,16,18,74,75,76,84,85,86] [14,71,618,619,620,621,622,623,624,625,626,627,628]] rfl (A a5) ?_
      ·cases h
       exact QnS Z (an_ Z Z)
      cases h
      exact Vn Z Z
     refine Qx i [.F,2,.K [6,7,8,12,13,14,16,74,75,76] [14,71,618,619,620,621,622,623,624,625,626,627,628]] Z (A a4) ?_
     cases h
     exact QaV Z (an_ Z Z)
    rcases c8 with(d0 | d1)
    ·replace h:IZ d0=some o:=h
     rintro e σ ⟨rfl,rfl⟩
     refine tg_ i [3,.K [] [618,619,620,621,622,623,624,625,626,627,628]] ?_
     cases h
     exact QnS Z (an_ Z Z)
    replace h:Ab a1 d1=some o:=h
    unfold Ab at h
    rintro e σ ⟨rfl,rfl⟩
    refine tg_ i [2,.K [6,7,8,12,13,14,16,74,75,76] [14,71,618,619,620,621,622,623,624,625,626,627,628]] ?_
    exact AK.met (ex_ _ (an_ Z h))
   rintro σ ⟨a6,rfl,h⟩
   refine tg_ i [4,.K [6,7,8,12,13,14,16,74,75,76] [14,71,618,619,620,621,622,623,624,625,626,627,628]] ?_
   cases h
   exact Vn Z Z
  cases h
  exact QaV Z (an_ Z Z)
 rcases c6 with(d2 | d3)
 ·replace h:La d2=some r:=h
  rintro e σ ⟨rfl,rfl⟩
  refine tg_ i [2,.K [] [618,619,620,621,622,623,624,625,626,627,628]] ?_
  cases h
  refine AK.done ?_
  exact ex_ _ (an_ Z (gives rB_))
 replace h:Lb d3=some r:=h
 rintro e σ ⟨rfl,rfl⟩
 refine tg_ i [2,.K [] [618,619,620,621,622,623,624,625,626,627,628]] ?_
 cases h
 refine AK.done ?_
 exact ex_ _ (an_ Z (gives rB_))
def YC (c:(L_ QD))(a:Int):O_ Int:=(WS c a).bind λb=>bif (!b.1)then some 0 else (idx b.2.sizes a).bind λd=>some d
def Fx (j k):CT 97 [.sl 7 (j.map Qr),.I k] [] (YC j k) V.I no_:=
 W 20 func97 Z λC e r h=>B h λf g h=>K e [9,.o (.C2 (.tup [.agg (XG f.2),.b f.1])),5,.O 5 (.var (XG f.2)),10] Z (RA _ _ _ g) Z<|I h (λa h=>J e [.T,7] Z a<|E h Z U) λa h=>B h λl i h=>K e [.F,7,.o (.row (Qb l)),5] Z a (QF i)<|E h Z U
def Pu (a:(L_ Qg)):O_ ((LI_×(L_ Qg))⊕((L_ Qg)⊕(L_ Qg))):=some (.inr (.inr a))
def Fy (h:Int)(a:LI_)(f:QI)(b:Qk):O_ Bool:=bif (0<=h)then (idx a h).bind λc=>(idx f.Vars h).bind λd=>(YC b.Colours d.Colour).bind λe=>some (decide (e<=(Qi (c+1))))else some false
def Uv (a:LI_)(h:Int)(b:Bool):O_ ((Int×LI_)⊕(Int×LI_)):=bif b then (idx a h).bind λc=>some (.inl ((Qi (h-1)),(a.set h.toNat 0)))else some (.inr (h,a))
def Js (d:QI)(b:Qk)(h:Int)(a:LI_):O_ ((Int×LI_)⊕(Int×LI_)):=(Fy h a d b).bind (λc=>Uv a h c)
def Uw (b:(L_ Qg))(h:Int)(a:LI_):O_ ((LI_×(L_ Qg))⊕((L_ Qg)⊕(L_ Qg))):=bif (h<0)then some (.inr (.inl b))else (idx a h).bind λc=>(idx a h).bind λd=>some (.inl ((a.set h.toNat (Qi (c+1))),b))
def Ux (d:QI)(b:Qk)(a:LI_)(c:(L_ Qg)):O_ ((LI_×(L_ Qg))⊕((L_ Qg)⊕(L_ Qg))):=(Qu (λst=>Js d b st.1 st.2) ((Qi ((a.length:Int)-1)),a)).bind (λq=>Uw c q.1 q.2)
def Uy (e:Qk)(f:QMk)(g:Int)(h:Int)(i:(L_ Qg))(j:QLL)(k:QLL)(l:QI)(b:Qk)(a:LI_)(c:(L_ Qg)):O_ ((LI_×(L_ Qg))⊕((L_ Qg)⊕(L_ Qg))):=(YG a).bind λd=>(EI e f g h i j k c d).bind (Sum.elim (λq=>Pu q) (λq=>Ux l b a q))
def Pv (a:(L_ Qg)):O_ ((L_ Qg)⊕(L_ Qg)):=some (.inl a)
def Pw (a:(L_ Qg)):O_ ((L_ Qg)⊕(L_ Qg)):=some (.inr a)
def Cj (c:Qk)(d:QMk)(e:Int)(f:Int)(g:(L_ Qg))(h:QLL)(i:QLL)(j:(L_ Qg))(a:QI)(b:Qk):O_ ((L_ Qg)⊕(L_ Qg)):=(chk (decide (0<=(a.Vars.length:Int))&&decide ((a.Vars.length:Int)<=(a.Vars.length:Int))&&decide ((a.Vars.length:Int)<=4294967296))).bind λ_=>(Qu (λst=>Uy c d e f g h i a b st.1 st.2) ((List.replicate (a.Vars.length:Int).toNat (0:Int)),j)).bind (Sum.elim (λq=>Pv q) (λq=>Pw q))
def Px (lpl lpf:Nat)(m:Qk)(p:QMk)(s:Int)(t:Int)(j:(L_ Qg))(u:QLL)(v:QLL)(l8:(L_ Qg))(l:QI)(f:Qk){r:((L_ Qg)⊕(L_ Qg))}(h:Cj m p s t j u v l8 l f=some r):QU prog 243 [.clo (.yield lpl) [] [],.L 629,.L 630] [(620,.lp lpl (Yq lpf) (GC (.L 621) (.L 622) (.L 623) (.L 624) (.L 625) (.L 626) (.L 627) (.L 628)) 0),(621,.var (Qa m)),(622,.var (Qo p)),(623,.var (Qb s)),(624,.var (Qb t)),(625,.var [.own 618 j.length]),(618,.arr 4 (j.map Qf)),(626,.var (Xs u)),(627,.var (Xs v)),(628,.var [.own 619 l8.length]),(619,.arr 4 (l8.map Qf)),(629,.var (Qh l)),(630,.var (Qa f))] ((Sum.elim (λq=>(Gives (.tup []) [(618,.arr 4 (j.map Qf)),(619,.arr 4 (q.map Qf)),(620,.lp lpl (Yq lpf) (GC (.L 621) (.L 622) (.L 623) (.L 624) (.L 625) (.L 626) (.L 627) (.L 628)) 0),(621,.var (Qa m)),(622,.var (Qo p)),(623,.var (Qb s)),(624,.var (Qb t)),(625,.var [.own 618 j.length]),(626,.var (Xs u)),(627,.var (Xs v)),(628,.var [.own 619 q.length]),(629,.var (Qh l)),(630,.var (Qa f))])) (λq=>(Gives (.tup []) [(618,.arr 4 (j.map Qf)),(619,.arr 4 (q.map Qf)),(620,.lp lpl (Yq lpf) (GC (.L 621) (.L 622) (.L 623) (.L 624) (.L 625) (.L 626) (.L 627) (.L 628)) 2),(621,.var (Qa m)),(622,.var (Qo p)),(623,.var (Qb s)),(624,.var (Qb t)),(625,.var [.own 619 q.length]),(626,.var (Xs u)),(627,.var (Xs v)),(628,.var [.own 619 q.length]),(629,.var (Qh l)),(630,.var (Qa f))]))) r):=by
 refine wk_ 50 func243 λC k=>?_
 obtain⟨a8,h⟩:=Qcj h
 refine Qx k [4,.o (.ln l.Vars.length),.o (.rows ((List.replicate (l.Vars.length:Int).toNat (0:Int)).map Qb)),.S 9 (.own 9 (List.replicate (l.Vars.length:Int).toNat (0:Int)).length),4,.K [0,1,2,4] [9,618,619,620,621,622,623,624,625,626,627,628,629,630]] Z (a3_ Qc ⟨a8,QlZ Z⟩ (by simp)) ?_
 obtain⟨b6,a9,h⟩:=Qv h
 refine AK.loop (body:=(λst=>Uy m p s t j u v l f st.1 st.2)) (λst σ=>σ=⟨[(0,.clo (.yield lpl) [] []),(1,.L 629),(2,.L 630),(4,.own 9 st.1.length)],[(9,.arr 1 (st.1.map Qb)),(618,.arr 4 (j.map Qf)),(619,.arr 4 (st.2.map Qf)),(620,.lp lpl (Yq lpf) (GC (.L 621) (.L 622) (.L 623) (.L 624) (.L 625) (.L 626) (.L 627) (.L 628)) 0),(621,.var (Qa m)),(622,.var (Qo p)),(623,.var (Qb s)),(624,.var (Qb t)),(625,.var [.own 618 j.length]),(626,.var (Xs u)),(627,.var (Xs v)),(628,.var [.own 619 st.2.length]),(629,.var (Qh l)),(630,.var (Qa f))]⟩) (Sum.elim (λq e σ=>e=.ret/\σ=⟨[],[(618,.arr 4 (j.map Qf)),(619,.arr 4 (q.map Qf)),(620,.lp lpl (Yq lpf) (GC (.L 621) (.L 622) (.L 623) (.L 624) (.L 625) (.L 626) (.L 627) (.L 628)) 0),(621,.var (Qa m)),(622,.var (Qo p)),(623,.var (Qb s)),(624,.var (Qb t)),(625,.var [.own 618 j.length]),(626,.var (Xs u)),(627,.var (Xs v)),(628,.var [.own 619 q.length]),(629,.var (Qh l)),(630,.var (Qa f))]⟩) (λq e σ=>e=.ret/\σ=⟨[],[(618,.arr 4 (j.map Qf)),(619,.arr 4 (q.map Qf)),(620,.lp lpl (Yq lpf) (GC (.L 621) (.L 622) (.L 623) (.L 624) (.L 625) (.L 626) (.L 627) (.L 628)) 2),(621,.var (Qa m)),(622,.var (Qo p)),(623,.var (Qb s)),(624,.var (Qb t)),(625,.var [.own 619 q.length]),(626,.var (Xs u)),(627,.var (Xs v)),(628,.var [.own 619 q.length]),(629,.var (Qh l)),(630,.var (Qa f))]⟩)) a9 rfl ?_ ?_
 ·rintro ⟨b0,c6⟩ o σ rfl h
  obtain⟨a4,b1,h⟩:=Qv h
  obtain⟨b7,P,h⟩:=Qv h
  refine Qx k [6,.o (.co true [.o (b0.map Qb)] 1 (a4.map Qb) a4.length),.frz 12 (a4.map Qb) [12] []] Z (a2_ ⟨(Rr Z),⟨(KH _ _ b1),Qc,.inr (Qpc _)⟩⟩ (A (Ye Qc))) ?_
  rcases b7 with(w | i)
  ·replace h:Pu w=some o:=h
   refine Qx k [.x (λσ=>(σ.after [618,619] [(618,.arr 4 (j.map Qf)),(619,.arr 4 (w.map Qf)),(620,.lp lpl (Yq lpf) (GC (.L 621) (.L 622) (.L 623) (.L 624) (.L 625) (.L 626) (.L 627) (.L 628)) 2),(621,.var (Qa m)),(622,.var (Qo p)),(623,.var (Qb s)),(624,.var (Qb t)),(625,.var [.own 619 w.length]),(626,.var (Xs u)),(627,.var (Xs v)),(628,.var [.own 619 w.length])]).put 13 (.b false)),7,.K [] [618,619,620,621,622,623,624,625,626,627,628,629,630]] Z (A (Ql.yieldV (b:=620) (M:=[(620,620),(621,621),(622,622),(623,623),(624,624),(625,625),(618,618),(626,626),(627,627),(628,628),(619,619)]) (N:=[(618,618),(619,619),(620,620),(621,621),(622,622),(623,623),(624,624),(625,625),(626,626),(627,627),(628,628)]) (dead:=[618,619]) (ms:=[.d,.d,.d,.d,.d,.d,.d,.d,.d,.d,.d,.d,.d,.d,.d,.d,.d,.d,.d,.d,.d,.d,.d,.d,.d,.d,.d,.d,.d,.d,.d,.d,.d,.d,.d,.d,.d,.d,.d,.d,.d,.d,.d,.d,.d,.d,.d,.d,.d,.d,.d,.d,.d,.d,.d,.d,.d,.d,.d,.d,.d,.d,.d,.d,.d,.d,.d,.d,.d,.d,.d,.d,.d,.d,.d,.d,.d,.d,.d,.d,.d,.d,.d,.d,.d,.d,.d,.d,.d,.d,.d,.d,.d,.d,.d,.d,.d,.d,.d,.d,.d,.d,.d,.d,.d,.d,.d,.d,.d]) (outs:=[(618,.arr 4 (j.map Qf)),(619,.arr 4 (w.map Qf)),(620,.lp lpl (Yq lpf) (GC (.L 621) (.L 622) (.L 623) (.L 624) (.L 625) (.L 626) (.L 627) (.L 628)) 2),(621,.var (Qa m)),(622,.var (Qo p)),(623,.var (Qb s)),(624,.var (Qb t)),(625,.var [.own 619 w.length]),(626,.var (Xs u)),(627,.var (Xs v)),(628,.var [.own 619 w.length])]) (r:=.b false) Z Z Z Z Z Z Z (QZ k.n Z) k.g Z Z (Lc _ _ _ _ _ _ _ _ _ _ _ P))) ?_
   cases h
   exact QnS Z (an_ Z Z)
  replace h:Ux l f b0 i=some o:=h
  refine Qx k [.x (λσ=>(σ.after [618,619] [(618,.arr 4 (j.map Qf)),(619,.arr 4 (i.map Qf)),(620,.lp lpl (Yq lpf) (GC (.L 621) (.L 622) (.L 623) (.L 624) (.L 625) (.L 626) (.L 627) (.L 628)) 0),(621,.var (Qa m)),(622,.var (Qo p)),(623,.var (Qb s)),(624,.var (Qb t)),(625,.var [.own 618 j.length]),(626,.var (Xs u)),(627,.var (Xs v)),(628,.var [.own 619 i.length])]).put 13 (.b true)),16,.K [0,1,2,4,5] [9,618,619,620,621,622,623,624,625,626,627,628,629,630]] Z (A (Ql.yieldV (b:=620) (M:=[(620,620),(621,621),(622,622),(623,623),(624,624),(625,625),(618,618),(626,626),(627,627),(628,628),(619,619)]) (N:=[(618,618),(619,619),(620,620),(621,621),(622,622),(623,623),(624,624),(625,625),(626,626),(627,627),(628,628)]) (dead:=[618,619]) (ms:=[.d,.d,.d,.d,.d,.d,.d,.d,.d,.d,.d,.d,.d,.d,.d,.d,.d,.d,.d,.d,.d,.d,.d,.d,.d,.d,.d,.d,.d,.d,.d,.d,.d,.d,.d,.d,.d,.d,.d,.d,.d,.d,.d,.d,.d,.d,.d,.d,.d,.d,.d,.d,.d,.d,.d,.d,.d,.d,.d,.d,.d,.d,.d,.d,.d,.d,.d,.d,.d,.d,.d,.d,.d,.d,.d,.d,.d,.d,.d,.d,.d,.d,.d,.d,.d,.d,.d,.d,.d,.d,.d,.d,.d,.d,.d,.d,.d,.d,.d,.d,.d,.d,.d,.d,.d,.d,.d,.d,.d]) (outs:=[(618,.arr 4 (j.map Qf)),(619,.arr 4 (i.map Qf)),(620,.lp lpl (Yq lpf) (GC (.L 621) (.L 622) (.L 623) (.L 624) (.L 625) (.L 626) (.L 627) (.L 628)) 0),(621,.var (Qa m)),(622,.var (Qo p)),(623,.var (Qb s)),(624,.var (Qb t)),(625,.var [.own 618 j.length]),(626,.var (Xs u)),(627,.var (Xs v)),(628,.var [.own 619 i.length])]) (r:=.b true) Z Z Z Z Z Z Z (QZ k.n Z) k.g Z Z (Lc _ _ _ _ _ _ _ _ _ _ _ P))) ?_
  obtain⟨b8,b2,h⟩:=Qv h
  refine AK.loop (body:=(λst=>Js l f st.1 st.2)) (λst σ=>σ=⟨[(0,.clo (.yield lpl) [] []),(1,.L 629),(2,.L 630),(4,.own 9 st.2.length),(5,.I st.1)],[(9,.arr 1 (st.2.map Qb)),(618,.arr 4 (j.map Qf)),(619,.arr 4 (i.map Qf)),(620,.lp lpl (Yq lpf) (GC (.L 621) (.L 622) (.L 623) (.L 624) (.L 625) (.L 626) (.L 627) (.L 628)) 0),(621,.var (Qa m)),(622,.var (Qo p)),(623,.var (Qb s)),(624,.var (Qb t)),(625,.var [.own 618 j.length]),(626,.var (Xs u)),(627,.var (Xs v)),(628,.var [.own 619 i.length]),(629,.var (Qh l)),(630,.var (Qa f))]⟩) (λq e σ=>e=.exit 2/\σ=⟨[(0,.clo (.yield lpl) [] []),(1,.L 629),(2,.L 630),(4,.own 9 q.2.length),(5,.I q.1)],[(9,.arr 1 (q.2.map Qb)),(618,.arr 4 (j.map Qf)),(619,.arr 4 (i.map Qf)),(620,.lp lpl (Yq lpf) (GC (.L 621) (.L 622) (.L 623) (.L 624) (.L 625) (.L 626) (.L 627) (.L 628)) 0),(621,.var (Qa m)),(622,.var (Qo p)),(623,.var (Qb s)),(624,.var (Qb t)),(625,.var [.own 618 j.length]),(626,.var (Xs u)),(627,.var (Xs v)),(628,.var [.own 619 i.length]),(629,.var (Qh l)),(630,.var (Qa f))]⟩) b2 rfl ?_ ?_
  ·rintro ⟨at_25,y⟩ o σ rfl h
   refine tg_ k [2] ?_
   obtain⟨a5,b3,h⟩:=Qv h
   replace h:Uv y at_25 a5=some o:=h
   refine AK.meetX (λσ=>σ=⟨[(0,.clo (.yield lpl) [] []),(1,.L 629),(2,.L 630),(4,.own 9 y.length),(5,.I at_25),(36,.b a5)],[(9,.arr 1 (y.map Qb)),(618,.arr 4 (j.map Qf)),(619,.arr 4 (i.map Qf)),(620,.lp lpl (Yq lpf) (GC (.L 621) (.L 622) (.L 623) (.L 624) (.L 625) (.L 626) (.L 627) (.L 628)) 0),(621,.var (Qa m)),(622,.var (Qo p)),(623,.var (Qb s)),(624,.var (Qb t)),(625,.var [.own 618 j.length]),(626,.var (Xs u)),(627,.var (Xs v)),(628,.var [.own 619 i.length]),(629,.var (Qh l)),(630,.var (Qa f))]⟩) ?_ ?_
   ·replace h:=b3
    refine tg_ k [.K [0,1,2,4,5] [9,618,619,620,621,622,623,624,625,626,627,628,629,630]] ?_
    rcases Xy h with⟨z,h⟩|⟨z,h⟩
    ·obtain⟨b9,a0,h⟩:=Qv h
     obtain⟨c0,b4,h⟩:=Qv h
     obtain⟨c1,b5,h⟩:=Qv h
     refine AK.draw2 QG k mixed [.N,.N,.E (.b true),.N,.N,.N,.B (.row (Qb b9)),.N,.N,.N,.N,.N,.N,.B (.row (Xg c0)),.N,.N,.B (.C2 (.I c1)),.N,.N] [] [] [0,1,2,4,5,36] [9,618,619,620,621,622,623,624,625,626,627,628,629,630] rfl rfl rfl ⟨⟨⟨⟨(tc_ z),(Yi a0 rfl)⟩,(XP (Yl a0).2)⟩,(QF b4)⟩,(Fx _ _ _ b5)⟩ rfl (by kernel_rfl) rfl rfl rfl ?_
     refine tg_ k [.K [0,1,2,4,5,36] [9,618,619,620,621,622,623,624,625,626,627,628,629,630]] ?_
     cases h
     exact mt_
    refine AK.draw2 QG k mixed [.N,.N,.E (.b false),.N,.N,.N,.N,.N,.N,.N,.N,.N,.N,.N,.N,.N,.N,.N,.N] [] [] [0,1,2,4,5,36] [9,618,619,620,621,622,623,624,625,626,627,628,629,630] rfl rfl rfl (tc_ z) rfl (by kernel_rfl) rfl rfl rfl ?_
    refine tg_ k [.K [0,1,2,4,5,36] [9,618,619,620,621,622,623,624,625,626,627,628,629,630]] ?_
    cases h
    exact mt_
   rintro σ rfl
   replace h:Uv y at_25 a5=some o:=h
   refine tg_ k [1] ?_
   rcases Xy h with⟨D,h⟩|⟨D,h⟩
   ·obtain⟨c2,a1,h⟩:=Qv h
    refine Qx k [.T,8,.st (Qb c2) ((y.set at_25.toNat 0).map Qb),8,.S 4 (.own 9 (y.set at_25.toNat 0).length),.K [0,1,2,4,5] [9,618,619,620,621,622,623,624,625,626,627,628,629,630]] Z (a4_ D (Yi a1 Z) ⟨(XP (Yl a1).2),Cv Z⟩ (congrArg (λn=>V.own 9 n) (by simp))) ?_
    cases h
    exact Vn Z Z
   refine Qx k [.F,2,.K [0,1,2,4,5] [9,618,619,620,621,622,623,624,625,626,627,628,629,630]] Z (A D) ?_
   cases h
   exact QaV Z (an_ Z Z)
  obtain⟨at_29,a6⟩:=b8
  replace h:Uw i at_29 a6=some o:=h
  rintro e σ ⟨rfl,rfl⟩
  refine tg_ k [9] ?_
  rcases Xy h with⟨O,h⟩|⟨O,h⟩
  ·refine Qx k [.T,3,.K [] [618,619,620,621,622,623,624,625,626,627,628,629,630]] Z (A O) ?_
   cases h
   exact QnS Z (an_ Z Z)
  obtain⟨a7,a2,h⟩:=Qv h
  obtain⟨c3,a3,h⟩:=Qv h
  refine Qx k [.F,6,.o (.row (Qb a7)),2,.st (Qb c3) ((a6.set at_29.toNat (Qi (a7+1))).map Qb),2,.S 4 (.own 9 (a6.set at_29.toNat (Qi (a7+1))).length),.K [0,1,2,4] [9,618,619,620,621,622,623,624,625,626,627,628,629,630]] Z (a6_ O (Yi a2 Z) (XP (Yl a2).2) (Yi a3 Z) ⟨(XP (Yl a3).2),Cv Z⟩ (congrArg (λn=>V.own 9 n) (by simp))) ?_
  cases h
  exact Vn Z Z
 rcases b6 with(c4 | c5)
 ·replace h:Pv c4=some r:=h
  rintro e σ ⟨rfl,rfl⟩
  refine tg_ k [1,.K [] [618,619,620,621,622,623,624,625,626,627,628,629,630]] ?_
  cases h
  refine AK.done ?_
  exact ex_ [] (an_ U (gives rD_))
 replace h:Pw c5=some r:=h
 rintro e σ ⟨rfl,rfl⟩
 refine tg_ k [1,.K [] [618,619,620,621,622,623,624,625,626,627,628,629,630]] ?_
 cases h
 refine AK.done ?_
 exact ex_ [] (an_ U (gives rD_))
def Qae (a:(L_ Qg)):O_ (L_ Qg):=some a
def Qaf (a:(L_ Qg)):O_ (L_ Qg):=some a
def CG (e:Qk)(h:QMk)(a:Int)(b:Int):O_ (L_ Qg):=
 bif ((a<0)||(((e.Tasks.length:Int)<=a)||(b<1)))then
 some ([]:L_ Qg)
 else
 (idx e.Tasks a).bind λc=>
 (YO c.Join (c.Ins.length:Int)).bind λf=>
 (YO c.Split (c.Outs.length:Int)).bind λg=>
 (ZY e c).bind λd=>
 (Cj e h a b ([]:L_ Qg) f g ([]:L_ Qg) d.2 d.1).bind (Sum.elim (λq=>Qae q) (λq=>Qaf q))
def Qir (k y c e){r}(h:CG k y c e=some r):QU prog 161 [.agg (Qa k),.sl 1 (y.map Qe),.I c,.I e] [] (Gives (.sl 4 (r.map Qf)) []):=by
 refine QU.walkR 109 func161 Z ntmps161 Z λC f hR=>?_
 refine tg_ f [11] ?_
 refine AK.meetX (λσ=>σ=⟨[lk_ 4,lk_ 5,lk_ 6,lk_ 7,lk_ 8,(33,.b ((c<0)||(((k.Tasks.length:Int)<=c)||(e<1))))],[(4,.var (Qa k)),(5,.var (Qo y)),(6,.var (Qb c)),(7,.var (Qb e)),(8,.var [.Y])]⟩) ?_ ?_
 ·exact H f [4] Z<|bO_ (decide (c<0)) (λg=>G f [.S 23 (.b true),11,.S 33 (.b ((c<0)||(((k.Tasks.length:Int)<=c)||(e<1))))] Z ⟨(tc_ g),(cb_ (KF g Z))⟩<|M Z) λg=>G f [.S 23 (.b false),3,.o (.ln k.Tasks.length),3] Z ⟨(tc_ g),Qc⟩<|bO_ (decide ((k.Tasks.length:Int)<=c)) (λl=>G f [.S 30 (.b true),4,.S 33 (.b ((c<0)||(((k.Tasks.length:Int)<=c)||(e<1))))] Z ⟨(tc_ l),(cb_ (Yu g (KF l Z)))⟩<|M Z) λl=>G f [.S 30 (.b false),4,.S 33 (.b ((c<0)||(((k.Tasks.length:Int)<=c)||(e<1))))] Z ⟨(tc_ l),(cb_ (Yu g (Yu l Z)))⟩<|M Z
 rintro σ rfl
 refine tg_ f [1] ?_
 rcases Xy h with⟨p,h⟩|⟨p,h⟩
 ·refine Qx f [.T,3,.O 8 (.var [.Y]),4,.denilO 8 [some 4],.O 8 (.var (Qoe ([]:L_ Qg))),.K [8] [8]] Z (a3_ p Z Z) ?_
  cases h
  exact AK.done (ex_ [_] (an_ (an_ (ex_ _ (ex_ _ (an_ Z (an_ Z (Or.inr (an_ (QG.ag Z) Z)))))) U) (gives U)))
 obtain⟨i,z,h⟩:=Qv h
 obtain⟨q,D,h⟩:=Qv h
 obtain⟨t,P,h⟩:=Qv h
 refine Qx f [.F,7,.o (.row (Qh i)),.A (Qh i),2,.O 9 (.var (Qh i)),3,.K [4,5,6,7,8,9] [4,5,6,7,8,9]] Z (a4_ p (QF z) Z Z) ?_
 refine AK.draw2 QG f mixed [.N,.N,.N,.N,.B (.ln i.Ins.length),.B (.cd false [.d,.d] 1 (q.map QC) q.length),.N,.N,.N,.N,.B (.ln i.Outs.length),.B (.cd false [.d,.d] 1 (t.map QC) t.length),.N,.N,.m .s,.m .s] [] [] [4,5,6,7,8,9,10,11] [4,5,6,7,8,9,10,11] rfl rfl rfl ⟨⟨⟨⟨U,Qc⟩,⟨(Ms _ _ _ D),Qc⟩⟩,Qc⟩,⟨(Ms _ _ _ P),Qc⟩⟩ rfl (by kernel_rfl) rfl rfl rfl ?_
 obtain⟨j,a0,h⟩:=Qv h
 refine Qx f [.O 10 (.var (Xs q)),.O 11 (.var (Xs t)),9,.A (Qa k),.A (Qh i),.cm (.fn) [] [(53,2),(613,3)] [] [.d,.d] [(2,.var (Qa j.1)),(3,.var (Qh j.2))] (.clo (.func 243) [] [.L 3,.L 2]),3,.K [4,5,6,7,8,10,11,12,53] [4,5,6,7,8,10,11,12,53,613]] Z (a5_ Z Z Z Z (QdQ _ _ _ a0)) ?_
 obtain⟨a1,x,h⟩:=Qv h
 refine Qx f [.adoptO 8 0 608 4,.O 608 (.arr 4 (([]:L_ Qg).map Qf)),.O 8 (.var [.own 608 ([]:L_ Qg).length]),.adoptO 12 0 610 4,.O 610 (.arr 4 (([]:L_ Qg).map Qf)),.O 12 (.var [.own 610 ([]:L_ Qg).length])] Z (a4_ Z Z Z Z) ?_
 rcases a1 with(u | w)
 ·replace h:Qae u=some r:=h
  refine AK.rangeF 617 [4,5,6,7,8,10,11,12] [(620,617),(621,4),(622,5),(623,6),(624,7),(625,8),(618,608),(626,10),(627,11),(628,12),(619,610),(629,613),(630,53)] [(608,618),(610,619),(617,620),(4,621),(5,622),(6,623),(7,624),(8,625),(10,626),(11,627),(12,628),(613,629),(53,630)] [608,610] [.d,.d,.d] Yq f hR (λ_=>rfl) rfl rfl rfl rfl λlpl lpf=>?_
  refine ex_ [(618,.arr 4 (([]:L_ Qg).map Qf)),(619,.arr 4 (u.map Qf)),(620,.lp lpl (Yq lpf) (GC (.L 621) (.L 622) (.L 623) (.L 624) (.L 625) (.L 626) (.L 627) (.L 628)) 0),(621,.var (Qa k)),(622,.var (Qo y)),(623,.var (Qb c)),(624,.var (Qb e)),(625,.var [.own 618 ([]:L_ Qg).length]),(626,.var (Xs q)),(627,.var (Xs t)),(628,.var [.own 619 u.length]),(629,.var (Qh j.2)),(630,.var (Qa j.1))] (ex_ (.tup []) (ex_ _ (ex_ _ (ex_ (GC (.L 4) (.L 5) (.L 6) (.L 7) (.L 8) (.L 10) (.L 11) (.L 12)) (ex_ 0 (an_ rfl ?_))))))
  refine an_ (Px _ _ _ _ _ _ _ _ _ _ _ _ x) (an_ rfl (an_ (bne_iff_ne.1 (show(0 != 1)=true from rfl)) ?_))
  refine QrS Z ?_
  refine Qx f [6,.O 8 (.var [.own 610 u.length]),3,.frz 610 (u.map Qf) [] [8],.K [8] [8]] Z (a2_ Z (A ⟨(Ye Qc),U⟩)) ?_
  cases h
  exact AK.done (ex_ [_] (an_ (an_ (ex_ _ (ex_ _ (an_ Z (an_ Z (Or.inr (an_ (QG.ag Z) Z)))))) U) (gives U)))
 replace h:Qaf w=some r:=h
 refine AK.rangeF 617 [4,5,6,7,8,10,11,12] [(620,617),(621,4),(622,5),(623,6),(624,7),(625,8),(618,608),(626,10),(627,11),(628,12),(619,610),(629,613),(630,53)] [(608,618),(610,619),(617,620),(4,621),(5,622),(6,623),(7,624),(8,625),(10,626),(11,627),(12,628),(613,629),(53,630)] [608,610] [.d,.d,.d] Yq f hR (λ_=>rfl) rfl rfl rfl rfl λlpl lpf=>?_
 refine ex_ [(618,.arr 4 (([]:L_ Qg).map Qf)),(619,.arr 4 (w.map Qf)),(620,.lp lpl (Yq lpf) (GC (.L 621) (.L 622) (.L 623) (.L 624) (.L 625) (.L 626) (.L 627) (.L 628)) 2),(621,.var (Qa k)),(622,.var (Qo y)),(623,.var (Qb c)),(624,.var (Qb e)),(625,.var [.own 619 w.length]),(626,.var (Xs q)),(627,.var (Xs t)),(628,.var [.own 619 w.length]),(629,.var (Qh j.2)),(630,.var (Qa j.1))] (ex_ (.tup []) (ex_ _ (ex_ _ (ex_ (GC (.L 4) (.L 5) (.L 6) (.L 7) (.L 8) (.L 10) (.L 11) (.L 12)) (ex_ 2 (an_ rfl ?_))))))
 refine an_ (Px _ _ _ _ _ _ _ _ _ _ _ _ x) (an_ rfl (an_ (bne_iff_ne.1 (show(2 != 1)=true from rfl)) ?_))
 refine Qtf Z ?_
 refine Qx f [3,.frz 610 (w.map Qf) [] [8],.K [8] [8]] Z (A (A ⟨(Ye Qc),U⟩)) ?_
 cases h
 exact AK.done (ex_ [_] (an_ (an_ (ex_ _ (ex_ _ (an_ Z (an_ Z (Or.inr (an_ (QG.ag Z) Z)))))) U) (gives U)))
def Gx (e:Qk)(f:QMk)(a:Int)(d:Int)(c:(L_ Qg)):O_ ((Int×(L_ Qg))⊕(L_ Qg)):=bif (d<(e.Tasks.length:Int))then (CG e f d (Qi (a-(c.length:Int)))).bind λb=>(chk (c.length+b.length<=4294967296)).bind λ_=>some (.inl ((Qi (d+1)),(c++b)))else some (.inr c)
def Qlx (a:(L_ Qg)):O_ (L_ Qg):=some a
def Bl (b:Qk)(c:QMk)(a:Int):O_ (L_ Qg):=(Qu (λst=>Gx b c a st.1 st.2) (0,([]:L_ Qg))).bind (λq=>Qlx q)
def QcR (f k a):CT 103 [.agg (Qa f),.sl 1 (k.map Qe),.I a] [] (Bl f k a) (λr=>(.own 600 r.length)) (λr=>[(600,.arr 4 (r.map Qf))]):=
 W 27 func103 Z λC g r h=>g3_ g [16,.o (.ln f.Tasks.length),4,.adopt 7 15 4,.O 15 (.arr 4 (([]:L_ Qg).map Qf)),.S 7 (.own 15 ([]:L_ Qg).length)] Z Qc Z (congrArg (λn=>V.own 15 n) (by simp))<|lp_ h (λst=>⟨[(1,.sl 1 (k.map Qe)),(2,.I a),lk_ 3,(7,.own 15 st.2.length),(11,.I (f.Tasks.length:Int)),(12,.I st.1)],[(3,.var (Qa f)),(15,.arr 4 (st.2.map Qf))]⟩) (λq=>(.exit 0,⟨[(7,.own 15 q.length)],[(15,.arr 4 (q.map Qf))]⟩)) Z (λ⟨p,l⟩ o h=>H g [6] Z<|I h (λb h=>B h λe i h=>X h λj h=>g4_ g [.T,12,.A (Qa f),6,.o (.C4 (.sl 4 (e.map Qf))),.app ((l++e).map Qf) (l++e).length,8] Z b Z (Qir _ _ _ _ i) ⟨Qc,XU j Qc,Xu,Yc Qc⟩<|rN_ h Z) λb h=>J g [.F,2] Z b<|rX_ h Z) λm h=>H g [9,.K [6] [15],.ren 15 600] Z<|E h Z r1_
def KL (c:LI_)(d:LI_)(a:Int):O_ (Int⊕(Unit⊕Unit)):=bif (a<(c.length:Int))then (idx c a).bind λe=>(idx d a).bind λb=>bif (e != b)then some (.inr (.inl ()))else some (.inl (Qi (a+1)))else some (.inr (.inr ()))
def TN : O_ Bool:=some false
def TO : O_ Bool:=some true
def Jw (a:LI_)(b:LI_):O_ Bool:=bif ((a.length:Int) != (b.length:Int))then some false else (Qu (λst=>KL a b st) 0).bind (Sum.elim (λq=>TN) (λq=>TO))
def TP (g j):CT 249 [.sl 1 (g.map Qb),.sl 1 (j.map Qb)] [] (Jw g j) V.b no_:=
 W 26 func249 Z λC c r h=>K c [9,.o (.ln g.length),1,.o (.ln j.length),3] Z Qc Qc<|I h (λe h=>J c [.T,7] Z e<|E h Z U) λe h=>K c [.F,6,.o (.ln g.length),4] Z e Qc<|lq_ h (λst=>⟨[(0,.sl 1 (g.map Qb)),(1,.sl 1 (j.map Qb)),(12,.I (g.length:Int)),(13,.I st)],[]⟩) (λq=>(.ret,⟨[(4,.b false)],[]⟩)) (λq=>(.exit 0,⟨[],[]⟩)) Z (λp o h=>H c [6] Z<|I h (λf h=>B h λm k h=>B h λl i h=>G c [.T,11] Z (A f) <| 
  dr_ c [.N,.N,.B (.row (Qb m)),.N,.N,.N,.B (.row (Qb l)),.N,.N] [] [] [0,1,12,13,24] [] Z Z (a2_ (QF k) (QF i)) Z <|
  H c [1] Z<|I h (λd h=>J c [.T,8] Z d<|rR_ h Z) λd h=>J c [.F,7] Z d<|rN_ h Z) λf h=>J c [.F,2] Z f<|rX_ h Z) (λ_ h=>H c [2] Z<|E h Z U) (λ_ h=>H c [8] Z<|E h Z U)
def Ig (a:LI_)(b:LI_):O_ Bool:=(Jw a b).bind λc=>some c
def QdU (f a):CT 248 [.sl 1 (f.map Qb),.L 620] [(620,.var (QC a))] (Ig f a) V.b (λ_=>[(620,.var (QC a))]):=
 W 7 func248 Z λC g r h=>B h λi e h=>J g [9,.o (.C2 (.b i)),4] Z (TP _ _ _ e)<|E h Z r1_
def YA (c:QLL)(d:LI_)(a:Int):O_ (Int⊕(Int⊕Unit)):=bif (a<(c.length:Int))then (idx c a).bind λe=>(Ig e d).bind λb=>bif b then some (.inr (.inl a))else some (.inl (Qi (a+1)))else some (.inr (.inr ()))
def Og (a:Int):O_ Int:=some a
def Oh : O_ Int:=some (-1)
def KY (a:QLL)(b:LI_):O_ Int:=(Qu (λst=>YA a b st) 0).bind (Sum.elim (λq=>Og q) (λq=>Oh))
def Oi (g e):CT 245 [.sl 1 (g.map QC),.clo (.func 248) [] [.L 620]] [(620,.var (QC e))] (KY g e) V.I (λ_=>[(620,.var (QC e))]):=
 W 19 func245 Z λC c r h=>J c [9,.o (.ln g.length),4] Z Qc<|lq_ h (λst=>⟨[(0,.sl 1 (g.map QC)),(1,.clo (.func 248) [] [.L 620]),(7,.I (g.length:Int)),(8,.I st)],[(620,.var (QC e))]⟩) (λq=>(.ret,⟨[(4,.I q)],[(620,.var (QC e))]⟩)) (λq=>(.exit 0,⟨[],[(620,.var (QC e))]⟩)) Z (λm o h=>H c [6] Z<|I h (λf h=>B h λl j h=>B h λk i h=>g3_ c [.T,15,.o (.row (QC l)),1,.cm (.clo) [(620,620)] [(620,620)] [] [.d,.d] [(620,.var (QC e))] (.b k),2] Z f (QF j) (QdU _ _ _ i)<|I h (λa h=>J c [.T,9] Z a<|rR_ h Z) λa h=>J c [.F,7] Z a<|rN_ h Z) λf h=>J c [.F,2] Z f<|rX_ h Z) (λp h=>H c [2] Z<|E h Z r1_) (λ_ h=>H c [8] Z<|E h Z r1_)
def KZ (a:QLL)(b:LI_):O_ Bool:=(KY a b).bind λc=>some (decide (0<=c))
def Oj (e a):CT 247 [.sl 1 (e.map QC),.clo (.func 248) [] [.L 620]] [(620,.var (QC a))] (KZ e a) V.b (λ_=>[(620,.var (QC a))]):=
 W 9 func247 Z λC f r h=>B h λg c h=>J f [9,.cm (.fn) [(620,620)] [(620,620)] [] [.d,.d] [(620,.var (QC a))] (.I g),5] Z (Oi _ _ _ c)<|E h Z r1_
def Gy (a:Int)(b:Int)(c:LI_):O_ Bool:=(YO a b).bind λd=>(KZ d c).bind λe=>some e
def VI (a c e):CT 220 [.I a,.I c,.sl 1 (e.map Qb)] [] (Gy a c e) V.b no_:=
 W 12 func220 Z λC j r h=>B h λf g h=>B h λk i h=>g3_ j [10,.o (.co false [.d,.d] 1 (f.map QC) f.length),1,.frz 9 (f.map QC) [9] [],.cm (.fn) [(620,5)] [(5,620)] [] [.d,.d] [(620,.var (QC e))] (.b k),4] Z ⟨(Ms _ _ _ g),Qc,.inl Z⟩ (A (Ye Qc)) (Oj _ _ _ i)<|E h Z U
def Bm (a:(Int×Xf))(d:Qg):O_ Bool:=(Gy a.2.task.Join (a.2.task.Ins.length:Int) d.Ins).bind λb=>bif (!b)then some true else (Gy a.2.task.Split (a.2.task.Outs.length:Int) d.Outs).bind λc=>some (!c)
def Bn (c:(Int×Xf))(d:Qg)(e:Bool):O_ Int:=bif e then some 11 else (XA c.2 d.Ins).bind λa=>bif (a != 0)then some a else (XZ c.2 d.Outs).bind λb=>some b
def Jt (b:(Int×Xf))(c:Qg)(a:Int):O_ Int:=bif (a != 0)then some a else (Bm b c).bind (λd=>Bn b c d)
def Yv (d:Qk)(e:QMk)(b:Qg):O_ Int:=(YV d e b.Task b.Vars).bind λa=>bif (a.1==0)then (XF a.2).bind λc=>Jt a b c else Jt a b a.1
def Qag (w m2 m):CT 162 [.agg (Qa w),.sl 1 (m2.map Qe),.agg (Qf m)] [] (Yv w m2 m) V.I no_:=
 W 62 func162 Z λC a r h=>B h λf x h=>g3_ a [9,.A (Qa w),5,.o (.C4 (.tup [.agg (QL f.2),.I f.1])),5,.O 7 (.var (QL f.2)),3] Z Z (ZZ _ _ _ _ _ x) Z<|mE_ (λe:Int=>⟨[lk_ 5,lk_ 7,(8,.I e)],[(5,.var (Qf m)),(7,.var (QL f.2))]⟩) (λe=>Jt f m e=some r) (H a [6] Z<|I h (λg h=>B h λy p h=>g3_ a [.T,1,.A (QL f.2),.o (.C1 (.I y)),2] Z g Z (IW _ _ p)<|me_ h Z) λg h=>J a [.F,1] Z g<|me_ h Z) λe h=>H a [7] Z<|I h (λl h=>J a [.T,8] Z l<|E h Z U) λl h=>J a [.F,4] Z l<|mV_ h (λz=>⟨[lk_ 5,lk_ 7,(50,.b z)],[(5,.var (Qf m)),(7,.var (QL f.2))]⟩) (λz h=>B h λD q h=>K a [7,.o (.ln f.2.task.Ins.length),2,.o (.C3 (.b D)),2] Z Qc (VI _ _ _ _ q)<|I h (λi h=>L a [.S 38 (.b true),13] Z i<|mq_ h Z) λi h=>B h λN s h=>G a [.S 38 (.b false),6,.o (.ln f.2.task.Outs.length),2,.o (.C3 (.b N)),3] Z ⟨⟨(tc_ i),Qc⟩,(VI _ _ _ _ s)⟩<|mq_ h Z) λz h=>H a [1] Z<|I h (λj h=>J a [.T,7] Z j<|E h Z U) λj h=>B h λP t h=>g3_ a [.F,5,.A (QL f.2),2,.o (.C2 (.I P)),9] Z j Z (Nb _ _ _ t)<|I h (λk h=>J a [.T,8] Z k<|E h Z U) λk h=>B h λa0 u h=>g3_ a [.F,4,.A (QL f.2),2,.o (.C2 (.I a0)),4] Z k Z (MY _ _ _ u)<|E h Z U
def Wd (l:L_ Int):O_ LI_:=(chk (l.length<4611686018427387904)).bind λ_=>some (DY l)
def Fi (l){r}(h:Wd l=some r):QU prog 30 [.own 620 l.length] [(620,.arr 1 (l.map Qb))] (Gives (.own 620 r.length) [(620,.arr 1 (r.map Qb))]):=by
 obtain⟨_,a,h⟩:=Qv h
 cases h
 exact Qnc Qpf l (Xo (QjQ a))
def Ui (a:Int)(b:LI_):O_ ((Int×LI_)⊕LI_):=some (.inl ((Qi (a+1)),b))
def Mz (a:Yg)(c:QMk):O_ Bool:=bif (0<=a.Place)then bif (a.Place<(c.length:Int))then (idx c a.Place).bind λb=>some ((b.length:Int)==0)else some false else some false
def MA (a:LI_)(b:Yg)(c:Int)(d:Bool):O_ ((Int×LI_)⊕LI_):=bif d then (chk (a.length+([b.Place]:L_ Int).length<=4294967296)).bind λ_=>Ui c (a++([b.Place]:L_ Int))else Ui c a
def Uj (e:QI)(f:QMk)(a:Int)(b:LI_):O_ ((Int×LI_)⊕LI_):=bif (a<(e.Ins.length:Int))then (idx e.Ins a).bind λc=>(Mz c f).bind (λd=>MA b c a d)else some (.inr b)
def Uk (a:LI_):O_ LI_:=(Jh a).bind λb=>(chk (b.length=a.length)).bind λ_=>(Wd b).bind λc=>some c
def Wo (b:Qk)(c:QMk)(a:Int):O_ LI_:=
 bif ((a<0)||((b.Tasks.length:Int)<=a))then
 some ([]:L_ Int)
 else
 (idx b.Tasks a).bind λd=>
 (Qu (λst=>Uj d c st.1 st.2) (0,([]:L_ Int))).bind (λq=>Uk q)
def Qfg (t u a):CT 221 [.agg (Qa t),.sl 1 (u.map Qe),.I a] [] (Wo t u a) (λr=>(.own 600 r.length)) (λr=>[(600,.arr 1 (r.map Qb))]):=
 W 59 func221 Z λC c r h=>H c [8] Z<|Y ⟨[(1,.sl 1 (u.map Qe)),(2,.I a),lk_ 3,(18,.b ((a<0)||((t.Tasks.length:Int)<=a)))],[(3,.var (Qa t))]⟩ (H c [4] Z<|bO_ (decide (a<0)) (λf=>G c [.S 12 (.b true),7,.S 18 (.b ((a<0)||((t.Tasks.length:Int)<=a)))] Z ⟨(tc_ f),(cb_ (KF f Z))⟩<|M Z) λf=>G c [.S 12 (.b false),3,.o (.ln t.Tasks.length),3,.S 18 (.b ((a<0)||((t.Tasks.length:Int)<=a)))] Z ⟨⟨(tc_ f),Qc⟩,(cb_ (Yu f Z))⟩<|M Z)<|H c [1] Z<|I h (λw h=>g3_ c [.T,7,.adopt 6 600 1,.O 600 (.arr 1 (([]:L_ Int).map Qb)),.S 6 (.own 600 ([]:L_ Int).length)] Z w Z Z<|E h Z r1_) λw h=>B h λp a4 h=>G c [.F,13,.o (.row (Qh p)),2,.o (.ln p.Ins.length),4,.adopt 7 49 1,.O 49 (.arr 1 (([]:L_ Int).map Qb)),.S 7 (.own 49 ([]:L_ Int).length)] Z (a5_ w (QF a4) Qc Z (congrArg (λn=>V.own 49 n) (by simp)))<|lp_ h (λst=>⟨[(1,.sl 1 (u.map Qe)),(7,.own 49 st.2.length),(24,.sl 4 (p.Ins.map Xm)),(25,.I (p.Ins.length:Int)),(26,.I st.1)],[(49,.arr 1 (st.2.map Qb))]⟩) (λq=>(.exit 0,⟨[(7,.own 49 q.length)],[(49,.arr 1 (q.map Qb))]⟩)) Z (λ⟨x,m⟩ o h=>H c [6] Z<|I h (λg h=>J c [.T,2] Z g<|mE_ (λi:LI_=>⟨[(1,.sl 1 (u.map Qe)),(7,.own 49 i.length),(24,.sl 4 (p.Ins.map Xm)),(25,.I (p.Ins.length:Int)),(26,.I x)],[(49,.arr 1 (i.map Qb))]⟩) (λi=>Ui x i=some o) (B h λe D h=>g3_ c [3,.o (.row (Xm e)),.A (Xm e),2,.O 9 (.var (Xm e)),3] Z (QF D) Z Z<|mV_ h (λy=>⟨[(1,.sl 1 (u.map Qe)),(7,.own 49 m.length),lk_ 9,(24,.sl 4 (p.Ins.map Xm)),(25,.I (p.Ins.length:Int)),(26,.I x),(48,.b y)],[(9,.var (Xm e)),(49,.arr 1 (m.map Qb))]⟩) (λy h=>H c [5] Z<|I h (λj h=>G c [.S 33 (.b true),3,.o (.ln u.length),3] Z ⟨(tc_ j),Qc⟩<|I h (λk h=>B h λN P h=>G c [.S 40 (.b true),3,.o (.row (Qe N)),1,.o (.ln N.length),3] Z ⟨⟨(tc_ k),(QF P)⟩,Qc⟩<|mq_ h Z) λk h=>L c [.S 40 (.b false),9] Z k<|mq_ h Z) λj h=>L c [.S 33 (.b false),16] Z j<|mq_ h Z) λy h=>H c [1] Z<|I h (λl h=>X h λa0 h=>g3_ c [.T,4,.v (.bd []) [] (.sl 1 (([e.Place]:L_ Int).map Qb)),.app ((m++([e.Place]:L_ Int)).map Qb) (m++([e.Place]:L_ Int)).length,3] Z l Z ⟨Qc,XU a0 Qc,Xu,Yc Qc⟩<|me_ h Z) λl h=>J c [.F,2] Z l<|me_ h Z) λi h=>H c [4] Z<|rN_ h Z) λg h=>J c [.F,2] Z g<|rX_ h Z) λa5 h=>B h λz a1 h=>X h λs h=>B h λa2 a3 h=>g4_ c [5,.cm (.fn) [(620,49)] [(49,620)] [] [.d] [(620,.arr 1 (z.map Qb))] (.tup []),.S 7 (.own 49 z.length),.S 55 (.own 49 z.length),5,.cm (.fn) [(620,49)] [(49,620)] [] [.d] [(620,.arr 1 (a2.map Qb))] (.own 620 a2.length),4,.K [6] [49],.ren 49 600] Z (Ga _ a1) (by simp[Xo s]) (by simp[Xo s]) (Fi _ a3)<|E h Z r1_
def CH (a:QMk):O_ ByteArray:=(AR a).bind λb=>some (Ib b.1)
def Py (e):CT 250 [.sl 1 (e.map Qe)] [] (CH e) V.s no_:=
 W 12 func250 Z λC f r h=>B h λa b h=>K f [8,.o (.C1 (.tup [.sl 1 (a.1.map YX),.I a.2])),10,.o (.any (.s (Ib a.1)) none),4] Z (VD _ _ b) (λσ g i _=>Ql.b2s Z Z (QZ f.n Z) (g _ _ Z) Z Qpi Qof (QG.sb Z))<|E h Z U
def WW (c:Qk)(b:Qg):O_ (QMk×Int):=(Dc c b.Task b.Vars).bind λd=>bif (d.2 != 0)then some (([]:L_ QBg),d.2)else (idx c.Tasks b.Task).bind λe=>(Yj c e.Ins b.Ins d.1).bind λa=>some (a.1,a.2)
def Qis (i l):CT 164 [.agg (Qa i),.agg (Qf l)] [] (WW i l) (λr=>(.tup [.sl 1 (r.1.map Qe),.I r.2])) no_:=
 W 34 func164 Z λC e r h=>B h λp j h=>K e [10,.A (Qa i),4,.o (.C3 (.tup [.sl 1 (p.1.map Qb),.I p.2])),14] Z Z (SO _ _ _ _ j)<|I h (λb h=>J e [.T,9,.denil 4 [some 1]] Z b<|F h Z Z U) λb h=>B h λq k h=>B h λf g h=>G e [.F,3] Z (A b) <| 
  dr_ e [.E (.agg (Qa i)),.N,.N,.N,.N,.B (.row (Qh q)),.N,.N,.N,.N,.N,.B (.C4 (.tup [.sl 1 (f.1.map Qe),.I f.2])),.N,.N,.m .s,.m .s] [] [] [4,5] [] Z Z (a3_ Z (QF k) (Aa _ _ _ _ _ g)) Z <|
  H e [2] Z<|F h Z Z U
def QcS (a:Unit):O_ (QBg×Int):=some (([]:QBg),1)
def QcT (a:QBg):O_ (QBg×Int):=some (([]:QBg),1)
def QcU (a:QBg):O_ (QBg×Int):=some (([]:QBg),1)
noncomputable def AU (D:QBg)(h:Int)(v19:Int):O_ (QBg⊕Empty):=some (.inl (YI Ue D h (Qi (((QR D h).getD 0)-v19))))
def Nr (a:QBg):O_ (QBg×Int):=(GP a).bind λb=>some (b,0)
noncomputable def SP (h:(QBg×QBg)):O_ (QBg×Int):=(GL h.2 h.1).bind λD=>bif (!D)then some (([]:QBg),10)else (Hj (λst p=>AU st p.1 p.2) h.1 h.2).bind (Sum.elim (λq=>Nr q) (λq=>Empty.elim q))
def Ju (a:QBg)(b:QBg):O_ (QBg×Int):=(LF a b).bind (Sum.elim (λq=>QcS q) (Sum.elim (λq=>QcT q) (Sum.elim (λq=>QcU q) (λq=>SP q))))
def Qly (a1 b2):CT 166 [.sl 2 (a1.map Qm),.sl 2 (b2.map Qm)] [] (Ju a1 b2) (λr=>(.tup [.sl 2 (r.1.map Qm),.I r.2])) no_:=by
 refine W 40 func166 rfl λC g r h=>?_
 obtain⟨x7,w,h⟩:=Qv h
 refine tg_ g [10] ?_
 rcases x7 with(a8 | (a9 | (P | i)))
 ·exact have h:QcS a8=some r:=h;J g [.cm (.fn) [] [] [] [.d,.d] [] (.tup [.lit (.map none),.lit (.map none),.b false]),28,.denil 4 [some 2]] Z (JO _ _ w)<|F h Z Z U
 ·exact have h:QcT a9=some r:=h;J g [.cm (.fn) [] [(14,603)] [] [.d,.d] [(603,.map (QN V.I V.I a9))] (.tup [.lit (.map none),.map 603,.b false]),28,.denil 4 [some 2]] Z (JO _ _ w)<|F h Z Z U
 ·exact have h:QcU P=some r:=h;J g [.cm (.fn) [] [(14,602)] [] [.d,.d] [(602,.map (QN V.I V.I P))] (.tup [.map 602,.lit (.map none),.b false]),28,.denil 4 [some 2]] Z (JO _ _ w)<|F h Z Z U
 replace h:SP i=some r:=h
 obtain⟨a3,S,h⟩:=Qv h
 refine Qx g [.cm (.fn) [] [(14,602),(613,603)] [] [.d,.d] [(602,.map (QN V.I V.I i.1)),(603,.map (QN V.I V.I i.2))] (.tup [.map 602,.map 603,.b true]),23,.cm (.fn) [(620,613),(621,14)] [(613,620),(14,621)] [] [.d,.d] [(620,.map (QN V.I V.I i.2)),(621,.map (QN V.I V.I i.1))] (.b a3),4] Z (a2_ (JO _ _ w) (Na _ _ _ S)) ?_
 rcases Xy h with⟨j,h⟩|⟨j,h⟩
 ·exact J g [.T,9,.denil 4 [some 2]] Z j<|F h Z Z U
 refine Qx g [.F,7] Z (A j) ?_
 refine AK.openMapK (b:=613) DM rfl λs t L14 D a4 N=>?_
 refine Qx g [.x (λσ=>(σ.set 27 (.itr s t #[] none)).put 27 (.L 27)),3,.K [6,27] [14,27,613]] Z (A (Ql.range (b:=613) Z Z (QZ g.n Z) Z Z Es Z)) ?_
 obtain⟨a5,a0,h⟩:=Qv h
 refine AK.range (body:=(λst p=>AU st p.1 p.2)) (λst seen σ=>∃cur:O_ Nat,σ=⟨[(6,.map 14),lk_ 27],[(14,.map (QN V.I V.I st)),(27,.itr s t seen cur),(613,.mapX s t (HG V.I V.I L14) (QN V.I V.I i.2))]⟩) (λ(q:Empty) _ _=>False) (λst e σ=>e=.exit 1/\σ=⟨[(6,.map 14)],[(14,.map (QN V.I V.I st))]⟩) D N a0 (ex_ _ rfl) ?_ ?_
 ·rintro a seen σ ⟨cur,rfl⟩ hex
  refine tg_ g [2] ?_
  refine AK.nextT (b:=27) (m:=613) rfl rfl rfl (QZ g.n rfl) rfl rfl rfl rfl ?_ ?_
  ·intro hleft
   refine tg_ g [7,.K [6] [14]] ?_
   exact AK.done (Or.inl (an_ hleft (an_ (λh=>(by cases h)) (an_ Z Z))))
  intro a6 c y u
  obtain⟨o,h⟩:=hex _ u
  have ho:=h
  replace h:AU a c y=some o:=h
  refine Qx g [10,.x (λσ=>σ.put 30 (.tup [.I c,.I y])),9,.o (.any (.I ((QR a c).getD 0)) none),2,.x (λσ=>σ.set 14 (.map (QN V.I V.I (YI Ue a c (Qi (((QR a c).getD 0)-y)))))),2,.K [6,27] [14,27,613]] Z (a3_ (Ql.entryT (b:=27) (m:=613) (e:=V.I) (f:=V.I) Z Z (QZ g.n Z) Z u Z Z) (λσ h1 h2 _=>Ql.lookup (e:=V.I) (f:=V.I) (l:=a) (k:=c) (z:=0) Z Z (QZ g.n Z) (h1 _ _ Z) (h2 _ _ Z) (h1 _ _ Z) Es DM Mq Z) (Ql.mapUpdate (e:=V.I) (f:=V.I) (l:=a) (k:=c) (v:=(Qi (((QR a c).getD 0)-y))) Ue Z Z Z Z Z Z Es DM Z)) ?_
  cases h
  exact AK.done (Or.inr (ex_ _ (an_ u (Or.inl (ex_ _ (an_ ho (an_ Z (ex_ _ Z))))))))
 rcases a5 with(a | q)
 ·replace h:Nr a=some r:=h
  unfold Nr at h
  rintro e σ ⟨rfl,rfl⟩
  exact B h λO a2 h=>K g [5,.cm (.fn) [(620,14)] [(39,600),(14,620)] [] [.d] [(600,.arr 2 (O.map Qm)),(620,.map (QN V.I V.I a))] (.own 600 O.length),5,.frz 39 (O.map Qm) [4] []] Z (HK _ _ a2) (A (Ye Qc))<|F h Z Z U
 exact q.elim
def Kg (f:QMk)(g:QMk)(c:Int)(a:QMk):O_ ((Int×QMk)⊕(Int⊕QMk)):=bif (c<((List.replicate (min2 (f.length:Int) (g.length:Int)).toNat (([]:QBg):QBg)).length:Int))then (idx f c).bind λd=>(idx g c).bind λe=>(Ju d e).bind λb=>(idx a c).bind λh=>bif (b.2 != 0)then some (.inr (.inl b.2))else some (.inl ((Qi (c+1)),(a.set c.toNat b.1)))else some (.inr (.inr a))
def QgB (a:Int):O_ (QMk×Int):=some (([]:L_ QBg),a)
def QgC (a:QMk):O_ (QMk×Int):=some (a,0)
def Dd (a:QMk)(b:QMk):O_ (QMk×Int):=(chk (decide (0<=(min2 (a.length:Int) (b.length:Int)))&&decide ((min2 (a.length:Int) (b.length:Int))<=(min2 (a.length:Int) (b.length:Int)))&&decide ((min2 (a.length:Int) (b.length:Int))<=4294967296))).bind λ_=>(Qu (λst=>Kg a b st.1 st.2) (0,(List.replicate (min2 (a.length:Int) (b.length:Int)).toNat (([]:QBg):QBg)))).bind (Sum.elim (λq=>QgB q) (λq=>QgC q))
def QgD (l p):CT 165 [.sl 1 (l.map Qe),.sl 1 (p.map Qe),.clo (.func 166) [] []] [] (Dd l p) (λr=>(.tup [.sl 1 (r.1.map Qe),.I r.2])) no_:=
 W 43 func165 Z λC e r h=>X h λy h=>g3_ e [9,.o (.ln l.length),1,.o (.ln p.length),1,.o (.rows (List.replicate (min2 (l.length:Int) (p.length:Int)).toNat [.Y]))] Z Qc Qc ⟨y,Z⟩<|AK.denilA (b:=16) [some 2] Z (Qih (f:=Qe) (x:=([]:QBg)) Z)<|J e [.S 16 (.own 16 (List.replicate (min2 (l.length:Int) (p.length:Int)).toNat (([]:QBg):QBg)).length),12] Z (by simp)<|lq_ h (λst=>⟨[(0,.sl 1 (l.map Qe)),(1,.sl 1 (p.map Qe)),(2,.clo (.func 166) [] []),(8,.own 16 st.2.length),(18,.I ((List.replicate (min2 (l.length:Int) (p.length:Int)).toNat (([]:QBg):QBg)).length:Int)),(19,.I st.1)],[(16,.arr 1 (st.2.map Qe))]⟩) (λq=>(.ret,⟨[(6,.Y),(7,.I q)],[]⟩)) (λq=>(.exit 0,⟨[(8,.own 16 q.length)],[(16,.arr 1 (q.map Qe))]⟩)) Z (λ⟨x9,t⟩ o h=>H e [6] Z<|I h (λg h=>B h λz u h=>B h λD v h=>B h λj w h=>B h λO k h=>G e [.T,16] Z (A g) <| 
  dr_ e [.N,.N,.N,.N,.N,.B (.row (Qe z)),.N,.N,.N,.B (.row (Qe D)),.N,.B (.C2 (.tup [.sl 2 (j.1.map Qm),.I j.2])),.a .no none true true,.N,.a .no none true,.N,.m (.st (Qe O) ((t.set x9.toNat j.1).map Qe)),.m .s] [0,1,2,8,9,10,18,19] [] [0,1,2,8,10,18,19] [16] Z Z (a5_ (QF u) (QF v) (Qly _ _ _ w) (Yi k Z) ⟨(XP (Yl k).2),Cv Z⟩) Z <|
  H e [7] Z<|I h (λi h=>J e [.T,10] Z i<|rR_ h Z) λi h=>K e [.F,7,.S 8 (.own 16 (t.set x9.toNat j.1).length)] Z i (congrArg (λn=>V.own 16 n) (by simp))<|rN_ h Z) λg h=>J e [.F,2] Z g<|rX_ h Z) (λa0 h=>H e [2,.denil 6 [some 1]] Z<|F h Z Z U) (λP h=>J e [10,.frz 16 (P.map Qe) [6] []] Z (A (Ye Qc))<|F h Z Z U)
def El (c:Qk)(d:QMk)(e:Qg):O_ (QMk×Int):=(Yv c d e).bind λf=>bif (f != 0)then some (([]:L_ QBg),f)else (WW c e).bind λa=>bif (a.2 != 0)then some (([]:L_ QBg),a.2)else (Dd d a.1).bind λb=>some (b.1,b.2)
def Qj6 (k p l):CT 105 [.agg (Qa k),.sl 1 (p.map Qe),.agg (Qf l)] [] (El k p l) (λr=>(.tup [.sl 1 (r.1.map Qe),.I r.2])) no_:=
 W 32 func105 Z λC e r h=>B h λq m h=>g3_ e [11,.A (Qa k),1,.A (Qf l),.o (.C3 (.I q)),9] Z Z Z (Qag _ _ _ _ m)<|I h (λb h=>J e [.T,9,.denil 6 [some 1]] Z b<|F h Z Z U) λb h=>B h λf g h=>g4_ e [.F,4,.A (Qa k),.A (Qf l),.o (.C2 (.tup [.sl 1 (f.1.map Qe),.I f.2])),14] Z b Z Z (Qis _ _ _ g)<|I h (λa h=>J e [.T,9,.denil 6 [some 1]] Z a<|F h Z Z U) λa h=>B h λi j h=>K e [.F,6,.cm (.fn) [] [] [] [.d,.d,.d] [] (.tup [.sl 1 (i.1.map Qe),.I i.2]),7] Z a (QgD _ _ _ j)<|F h Z Z U
def Ld (c:Qk)(b:Qg):O_ (QMk×Int):=(Dc c b.Task b.Vars).bind λd=>bif (d.2 != 0)then some (([]:L_ QBg),d.2)else (idx c.Tasks b.Task).bind λe=>(Yj c e.Outs b.Outs d.1).bind λa=>some (a.1,a.2)
def Qit (i l):CT 167 [.agg (Qa i),.agg (Qf l)] [] (Ld i l) (λr=>(.tup [.sl 1 (r.1.map Qe),.I r.2])) no_:=
 W 34 func167 Z λC e r h=>B h λp j h=>K e [10,.A (Qa i),4,.o (.C3 (.tup [.sl 1 (p.1.map Qb),.I p.2])),14] Z Z (SO _ _ _ _ j)<|I h (λb h=>J e [.T,9,.denil 4 [some 1]] Z b<|F h Z Z U) λb h=>B h λq k h=>B h λf g h=>G e [.F,3] Z (A b) <| 
  dr_ e [.E (.agg (Qa i)),.N,.N,.N,.N,.B (.row (Qh q)),.N,.N,.N,.N,.N,.B (.C4 (.tup [.sl 1 (f.1.map Qe),.I f.2])),.N,.N,.m .s,.m .s] [] [] [4,5] [] Z Z (a3_ Z (QF k) (Aa _ _ _ _ _ g)) Z <|
  H e [2] Z<|F h Z Z U
def Jf (f:QMk)(g:QMk)(c:Int)(a:QMk):O_ ((Int×QMk)⊕(Int⊕QMk)):=bif (c<((List.replicate (min2 (f.length:Int) (g.length:Int)).toNat (([]:QBg):QBg)).length:Int))then (idx f c).bind λd=>(idx g c).bind λe=>(Ji d e).bind λb=>(idx a c).bind λh=>bif (b.2 != 0)then some (.inr (.inl b.2))else some (.inl ((Qi (c+1)),(a.set c.toNat b.1)))else some (.inr (.inr a))
def HL (a:Int):O_ (QMk×Int):=some (([]:L_ QBg),a)
def HN (a:QMk):O_ (QMk×Int):=some (a,0)
def Kh (a:QMk)(b:QMk):O_ (QMk×Int):=(chk (decide (0<=(min2 (a.length:Int) (b.length:Int)))&&decide ((min2 (a.length:Int) (b.length:Int))<=(min2 (a.length:Int) (b.length:Int)))&&decide ((min2 (a.length:Int) (b.length:Int))<=4294967296))).bind λ_=>(Qu (λst=>Jf a b st.1 st.2) (0,(List.replicate (min2 (a.length:Int) (b.length:Int)).toNat (([]:QBg):QBg)))).bind (Sum.elim (λq=>HL q) (λq=>HN q))
def Qc4 (l p):CT 165 [.sl 1 (l.map Qe),.sl 1 (p.map Qe),.clo (.func 35) [] []] [] (Kh l p) (λr=>(.tup [.sl 1 (r.1.map Qe),.I r.2])) no_:=
 W 43 func165 Z λC e r h=>X h λy h=>g3_ e [9,.o (.ln l.length),1,.o (.ln p.length),1,.o (.rows (List.replicate (min2 (l.length:Int) (p.length:Int)).toNat [.Y]))] Z Qc Qc ⟨y,Z⟩<|AK.denilA (b:=16) [some 2] Z (Qih (f:=Qe) (x:=([]:QBg)) Z)<|J e [.S 16 (.own 16 (List.replicate (min2 (l.length:Int) (p.length:Int)).toNat (([]:QBg):QBg)).length),12] Z (by simp)<|lq_ h (λst=>⟨[(0,.sl 1 (l.map Qe)),(1,.sl 1 (p.map Qe)),(2,.clo (.func 35) [] []),(8,.own 16 st.2.length),(18,.I ((List.replicate (min2 (l.length:Int) (p.length:Int)).toNat (([]:QBg):QBg)).length:Int)),(19,.I st.1)],[(16,.arr 1 (st.2.map Qe))]⟩) (λq=>(.ret,⟨[(6,.Y),(7,.I q)],[]⟩)) (λq=>(.exit 0,⟨[(8,.own 16 q.length)],[(16,.arr 1 (q.map Qe))]⟩)) Z (λ⟨x9,t⟩ o h=>H e [6] Z<|I h (λg h=>B h λz u h=>B h λD v h=>B h λj w h=>B h λO k h=>G e [.T,16] Z (A g) <| 
  dr_ e [.N,.N,.N,.N,.N,.B (.row (Qe z)),.N,.N,.N,.B (.row (Qe D)),.N,.B (.C2 (.tup [.sl 2 (j.1.map Qm),.I j.2])),.a .no none true true,.N,.a .no none true,.N,.m (.st (Qe O) ((t.set x9.toNat j.1).map Qe)),.m .s] [0,1,2,8,9,10,18,19] [] [0,1,2,8,10,18,19] [16] Z Z (a5_ (QF u) (QF v) (Vy _ _ _ w) (Yi k Z) ⟨(XP (Yl k).2),Cv Z⟩) Z <|
  H e [7] Z<|I h (λi h=>J e [.T,10] Z i<|rR_ h Z) λi h=>K e [.F,7,.S 8 (.own 16 (t.set x9.toNat j.1).length)] Z i (congrArg (λn=>V.own 16 n) (by simp))<|rN_ h Z) λg h=>J e [.F,2] Z g<|rX_ h Z) (λa0 h=>H e [2,.denil 6 [some 1]] Z<|F h Z Z U) (λP h=>J e [10,.frz 16 (P.map Qe) [6] []] Z (A (Ye Qc))<|F h Z Z U)
def DD (a:Int)(b:QMk):O_ ((Int×QMk)⊕QMk):=some (.inl ((Qi (a+1)),b))
def Jc (d:QI)(b:Int)(a:QMk):O_ ((Int×QMk)⊕QMk):=bif (b<(d.Cancel.length:Int))then (idx d.Cancel b).bind λc=>bif ((0<=c)&&(c<(a.length:Int)))then (idx a c).bind λe=>DD b (a.set c.toNat ([]:QBg))else DD b a else some (.inr a)
def GT (c:(QMk×Int))(b:QMk):O_ (QMk×Int):=(Kh b c.1).bind λa=>some (a.1,a.2)
def DT (d:Qk)(f:QMk)(e:Qg):O_ (QMk×Int):=(Ld d e).bind λa=>bif (a.2 != 0)then some (([]:L_ QBg),a.2)else (HA f).bind λb=>(idx d.Tasks e.Task).bind λc=>(Qu (λst=>Jc c st.1 st.2) (0,b)).bind (λq=>GT a q)
def Qj7 (O m2 P):CT 106 [.agg (Qa O),.sl 1 (m2.map Qe),.agg (Qf P)] [] (DT O m2 P) (λr=>(.tup [.sl 1 (r.1.map Qe),.I r.2])) no_:=
 W 53 func106 Z λC g r h=>B h λt a0 h=>g3_ g [10,.A (Qa O),.A (Qf P),.o (.C2 (.tup [.sl 1 (t.1.map Qe),.I t.2])),14] Z Z Z (Qit _ _ _ a0)<|I h (λp h=>J g [.T,9,.denil 6 [some 1]] Z p<|F h Z Z U) λp h=>B h λu w h=>B h λe y h=>g4_ g [.F,5,.o (.co false [.d] 1 (u.map Qe) u.length),10,.o (.row (Qh e)),2,.o (.ln e.Cancel.length),4] Z p ⟨(Ry _ _ w),Qc,.inl Z⟩ (QF y) Qc<|lp_ h (λst=>⟨[(8,.sl 1 (t.1.map Qe)),(10,.own 23 st.2.length),(30,.sl 1 (e.Cancel.map Qb)),(31,.I (e.Cancel.length:Int)),(32,.I st.1)],[(23,.arr 1 (st.2.map Qe))]⟩) (λq=>(.exit 0,⟨[(8,.sl 1 (t.1.map Qe)),(10,.own 23 q.length)],[(23,.arr 1 (q.map Qe))]⟩)) Z (λ⟨s,i⟩ o h=>H g [6] Z<|I h (λj h=>J g [.T,2] Z j<|mE_ (λk:QMk=>⟨[(8,.sl 1 (t.1.map Qe)),(10,.own 23 k.length),(30,.sl 1 (e.Cancel.map Qb)),(31,.I (e.Cancel.length:Int)),(32,.I s)],[(23,.arr 1 (k.map Qe))]⟩) (λk=>DD s k=some o) (B h λa z h=>J g [3,.o (.row (Qb a)),5] Z (QF z)<|Y ⟨[(8,.sl 1 (t.1.map Qe)),(10,.own 23 i.length),(12,.I a),(30,.sl 1 (e.Cancel.map Qb)),(31,.I (e.Cancel.length:Int)),(32,.I s),(43,.b ((0<=a)&&(a<(i.length:Int))))],[(23,.arr 1 (i.map Qe))]⟩ (H g [4] Z<|bO_ (decide (0<=a)) (λf=>G g [.S 38 (.b true),6,.S 43 (.b ((0<=a)&&(a<(i.length:Int))))] Z ⟨(tc_ f),(cb_ (XS f Z))⟩<|M Z) λf=>G g [.S 38 (.b false),6,.S 43 (.b ((0<=a)&&(a<(i.length:Int))))] Z ⟨(tc_ f),(cb_ (Yt f Z))⟩<|M Z)<|H g [1] Z<|I h (λl h=>B h λa1 m h=>g4_ g [.T,4,.x (λσ=>σ.set 23 (.arr 1 ((i.set a.toNat ([]:QBg)).map Qe))),2,.S 10 (.own 23 (i.set a.toNat ([]:QBg)).length)] Z l (Yi m Z) (Ql.storeNil (zz:=2) (r:=Qe a1) Z Z Z Z (XP (Yl m).2) Z (QG.sz Z) Z (Cv Z)) (congrArg (λn=>V.own 23 n) (by simp))<|me_ h Z) λl h=>J g [.F,2] Z l<|me_ h Z) λk h=>H g [4] Z<|rN_ h Z) λj h=>J g [.F,2] Z j<|rX_ h Z) λa2 h=>B h λD N h=>K g [6,.frz 23 (a2.map Qe) [10,48] [],.cm (.fn) [] [] [] [.d,.d,.d] [] (.tup [.sl 1 (D.1.map Qe),.I D.2]),7] Z (a2_ (Ye Qc) (Ye Qc)) (Qc4 _ _ _ N)<|F h Z Z U
def Yh (c:Qk)(e:QMk)(d:Qg):O_ (QMk×Int):=(El c e d).bind λb=>bif (b.2 != 0)then some (([]:L_ QBg),b.2)else (DT c b.1 d).bind λa=>some (a.1,a.2)
def QdV (f k g):CT 62 [.agg (Qa f),.sl 1 (k.map Qe),.agg (Qf g)] [] (Yh f k g) (λr=>(.tup [.sl 1 (r.1.map Qe),.I r.2])) no_:=
 W 26 func62 Z λC i r h=>B h λl j h=>g3_ i [10,.A (Qa f),1,.A (Qf g),.o (.C3 (.tup [.sl 1 (l.1.map Qe),.I l.2])),14] Z Z Z (Qj6 _ _ _ _ j)<|I h (λa h=>J i [.T,9,.denil 6 [some 1]] Z a<|F h Z Z U) λa h=>B h λb e h=>g4_ i [.F,4,.A (Qa f),1,.A (Qf g),.o (.C3 (.tup [.sl 1 (b.1.map Qe),.I b.2])),7] Z a Z Z (Qj7 _ _ _ _ e)<|F h Z Z U
def Gq (a:Int)(b:QSB)(c:(L_ QMk)):O_ ((Int×QSB×(L_ QMk))⊕((L_ QMk)⊕(QSB×(L_ QMk)))):=some (.inl ((Qi (a+1)),b,c))
def MB (a:(QMk×Int))(b:QSB):O_ Bool:=bif (a.2 != 0)then some true else (CH a.1).bind λc=>some ((QR b c).getD false)
def MC (d:Int)(e:QSB)(a:(L_ QMk))(b:Int)(c:(QMk×Int))(f:Bool):O_ ((Int×QSB×(L_ QMk))⊕((L_ QMk)⊕(QSB×(L_ QMk)))):=bif f then Gq d e a else bif ((a.length:Int)==(min2 (max2 0 b) 4096))then some (.inr (.inl a))else (CH c.1).bind λg=>(chk (a.length+([c.1]:L_ QMk).length<=4294967296)).bind λ_=>Gq d (YI OM e g true) (a++([c.1]:L_ QMk))
def Ck (f:(L_ Qg))(a:Int)(D:Int)(k:Qk)(b:Int)(c:Int)(d:QSB)(e:(L_ QMk)):O_ ((Int×QSB×(L_ QMk))⊕((L_ QMk)⊕(QSB×(L_ QMk)))):=bif (c<(f.length:Int))then (idx f c).bind λg=>bif (g.Task==a)then Gq c d e else (idx e D).bind λi=>(Yh k i g).bind λh=>(MB h d).bind (λj=>MC c d e b h j)else some (.inr (.inr (d,e)))
def ME (a:(L_ QMk)):O_ ((Int×QSB×(L_ QMk))⊕((L_ QMk)⊕(L_ QMk))):=some (.inr (.inl a))
def MF (h:Int)(a:QSB)(b:(L_ QMk)):O_ ((Int×QSB×(L_ QMk))⊕((L_ QMk)⊕(L_ QMk))):=some (.inl ((Qi (h+1)),a,b))
def Cm (g:Qk)(a:Int)(b:Int)(h:Int)(d:QSB)(c:(L_ QMk)):O_ ((Int×QSB×(L_ QMk))⊕((L_ QMk)⊕(L_ QMk))):=bif (h<(c.length:Int))then (idx c h).bind λe=>(Bl g e 9223372036854775807).bind λf=>(Qu (λst=>Ck f a h g b st.1 st.2.1 st.2.2) (0,d,c)).bind (Sum.elim (λq=>ME q) (λq=>MF h q.1 q.2))else some (.inr (.inr c))
def Qfh (a:(L_ QMk)):O_ ((L_ QMk)×Bool):=some (a,false)
def Qfi (a:(L_ QMk)):O_ ((L_ QMk)×Bool):=some (a,true)
def LL (f:Qk)(e:QMk)(b:Int)(a:Int):O_ ((L_ QMk)×Bool):=bif ((min2 (max2 0 a) 4096)==0)then some (([]:L_ QMk),false)else (CH e).bind λc=>(HA e).bind λd=>(Qu (λst=>Cm f b a st.1 st.2.1 st.2.2) (0,(YI OM ([]:QSB) c true),([d]:L_ QMk))).bind (Sum.elim (λq=>Qfh q) (λq=>Qfi q))
def Qfj (n1 m2 g i):CT 222 [.agg (Qa n1),.sl 1 (m2.map Qe),.I g,.I i] [] (LL n1 m2 g i) (λr=>(.tup [.sl 1 (r.1.map Qo),.b r.2])) no_:=
 W 83 func222 Z λC j r h=>H j [22] Z<|I h (λa9 h=>J j [.T,8,.denil 8 [some 1]] Z a9<|F h Z Z U) λa9 h=>B h λb0 b5 h=>B h λt b6 h=>G j [.F,5,.O 23 (.map (QN V.s V.b ([]:QSB))),1,.o (.C1 (.s b0)),.x (λσ=>σ.set 23 (.map (QN V.s V.b (YI OM ([]:QSB) b0 true)))),7,.o (.co false [.d] 1 (t.map Qe) t.length),.frz 28 (t.map Qe) [28] [],1,.O 29 (.arr 1 (([t]:L_ QMk).map Qo)),.S 29 (.own 29 ([t]:L_ QMk).length),10] Z (a8_ a9 Z (Py _ _ b5) (Ql.insert (e:=V.s) (f:=V.b) (l:=([]:QSB)) (k:=b0) (v:=true) OM Z Z Z Z Z Z Vu Qci Z) ⟨(Ry _ _ b6),Qc,.inl Z⟩ (A (Ye Qc)) Z Z)<|lq_ h (λst=>⟨[(2,.I g),lk_ 4,(10,.I (min2 (max2 0 i) 4096)),(11,.map 23),(12,.own 29 st.2.2.length),(13,.I st.1)],[(4,.var (Qa n1)),(23,.map (QN V.s V.b st.2.1)),(29,.arr 1 (st.2.2.map Qo))]⟩) (λq=>(.ret,⟨[(8,.own 29 q.length),(9,.b false)],[(29,.arr 1 (q.map Qo))]⟩)) (λq=>(.exit 0,⟨[(12,.own 29 q.length)],[(29,.arr 1 (q.map Qo))]⟩)) Z (λ⟨at_13,c6,c7⟩ o h=>H j [9] Z<|I h (λu h=>B h λc2 a6 h=>B h λm b7 h=>G j [.T,5] Z (A u) <| 
  dr_ j [.E (.agg (Qa n1)),.N,.N,.N,.B (.row (Qo c2)),.B (.co false [.d,.d,.d] 4 (m.map Qf) m.length),.N,.N] [] [] [2,4,10,11,12,13,41,42,43] [4,23,29,41] Z Z (a4_ Z (Yi a6 Z) (XP (Yl a6).2) ⟨(QcR _ _ _ _ b7),Qc,.inl Z⟩) Z <|
  H j [2] Z<|lq_ h (λst=>⟨[(2,.I g),lk_ 4,(10,.I (min2 (max2 0 i) 4096)),(11,.map 23),(12,.own 29 st.2.2.length),(13,.I at_13),(41,.own 41 m.length),(42,.I (m.length:Int)),(43,.I st.1)],[(4,.var (Qa n1)),(23,.map (QN V.s V.b st.2.1)),(29,.arr 1 (st.2.2.map Qo)),(41,.arr 4 (m.map Qf))]⟩) (λq=>(.ret,⟨[(8,.own 29 q.length),(9,.b false)],[(29,.arr 1 (q.map Qo))]⟩)) (λq=>(.exit 2,⟨[(2,.I g),lk_ 4,(10,.I (min2 (max2 0 i) 4096)),(11,.map 23),(12,.own 29 q.2.length),(13,.I at_13)],[(4,.var (Qa n1)),(23,.map (QN V.s V.b q.1)),(29,.arr 1 (q.2.map Qo))]⟩)) Z (λ⟨b1,w,a3⟩ o h=>H j [6] Z<|I h (λy h=>J j [.T,2] Z y<|mF_ (λ(a4:QSB) (D:(L_ QMk))=>⟨[(2,.I g),lk_ 4,(10,.I (min2 (max2 0 i) 4096)),(11,.map 23),(12,.own 29 D.length),(13,.I at_13),(41,.own 41 m.length),(42,.I (m.length:Int)),(43,.I b1)],[(4,.var (Qa n1)),(23,.map (QN V.s V.b a4)),(29,.arr 1 (D.map Qo)),(41,.arr 4 (m.map Qf))]⟩) (λa4 D=>Gq b1 a4 D=some o) (B h λa5 a7 h=>g4_ j [4,.v (.row (Qf a5)) [] (.agg (Qf a5)),2,.O 15 (.var (Qf a5)),11] Z (Yi a7 Z) (XP (Yl a7).2) Z Z<|I h (λP h=>J j [.T,3] Z P<|mf_ h Z) λP h=>B h λc3 a8 h=>B h λp b8 h=>G j [.F,3] Z (A P) <| 
  dr_ j [.E (.agg (Qa n1)),.N,.N,.N,.B (.row (Qo c3)),.E (.agg (Qf a5)),.B (.C3 (.tup [.sl 1 (p.1.map Qe),.I p.2])),.N,.N,.N,.N,.N] [] [] [2,4,10,11,12,13,16,17,41,42,43] [4,23,29,41] Z Z (a5_ Z (Yi a8 Z) (XP (Yl a8).2) Z (QdV _ _ _ _ b8)) Z <|
  H j [3] Z<|mV_ h (λb2=>⟨[(2,.I g),lk_ 4,(10,.I (min2 (max2 0 i) 4096)),(11,.map 23),(12,.own 29 a3.length),(13,.I at_13),(16,.sl 1 (p.1.map Qe)),(41,.own 41 m.length),(42,.I (m.length:Int)),(43,.I b1),(68,.b b2)],[(4,.var (Qa n1)),(23,.map (QN V.s V.b w)),(29,.arr 1 (a3.map Qo)),(41,.arr 4 (m.map Qf))]⟩) (λb2 h=>H j [4] Z<|I h (λa0 h=>L j [.S 63 (.b true),6] Z a0<|mq_ h Z) λa0 h=>B h λb3 b9 h=>G j [.S 63 (.b false),2,.o (.C1 (.s b3)),.o (.any (.b ((QR w b3).getD false)) none),2] Z ⟨⟨(tc_ a0),(Py _ _ b9)⟩,(λσ h1 h2 _=>Ql.lookup (e:=V.s) (f:=V.b) (l:=w) (k:=b3) (z:=false) Z Z (QZ j.n Z) (h1 _ _ Z) (h2 _ _ Z) (h1 _ _ Z) Vu Qci Qqv Z)⟩<|mq_ h Z) λb2 h=>H j [1] Z<|I h (λa1 h=>J j [.T,3] Z a1<|mf_ h Z) λa1 h=>J j [.F,11] Z a1<|I h (λa2 h=>J j [.T,11] Z a2<|rR_ h Z) λa2 h=>B h λb4 c0 h=>X h λc1 h=>G j [.F,6,.o (.C1 (.s b4)),.x (λσ=>σ.set 23 (.map (QN V.s V.b (YI OM w b4 true)))),5,.v (.bd []) [] (.sl 1 (([p.1]:L_ QMk).map Qo)),.app ((a3++([p.1]:L_ QMk)).map Qo) (a3++([p.1]:L_ QMk)).length,3] Z (a5_ a2 (Py _ _ c0) (Ql.mapUpdate (e:=V.s) (f:=V.b) (l:=w) (k:=b4) (v:=true) OM Z Z Z Z Z Z Vu Qci Z) Z ⟨Qc,XU c1 Qc,Xu,Yc Qc⟩)<|mf_ h Z) λa4 D h=>H j [4] Z<|rN_ h Z) λy h=>J j [.F,2] Z y<|rX_ h Z) (λc8 h=>H j [3] Z<|rR_ h Z) (λ⟨c9,d0⟩ h=>H j [8] Z<|rN_ h Z)) λu h=>J j [.F,2] Z u<|rX_ h Z) (λc4 h=>J j [2,.frz 29 (c4.map Qo) [8] []] Z (A (Ye Qc))<|F h Z Z U) (λc5 h=>J j [10,.frz 29 (c5.map Qo) [8] []] Z (A (Ye Qc))<|F h Z Z U)
def Ok (a:Int)(b:QMk):O_ Bool:=(idx b a).bind λc=>some (decide (0<(c.length:Int)))
def Qc5 (d a):CT 224 [.I d,.L 620] [(620,.var (Qo a))] (Ok d a) V.b (λ_=>[(620,.var (Qo a))]):=
 W 10 func224 Z λC f r h=>B h λe c h=>K f [9,.o (.row (Qe e)),1,.o (.ln e.length),5] Z (QF c) Qc<|E h Z r1_
def Ki (c:LI_)(d:QMk)(a:Int):O_ (Int⊕(Int⊕Unit)):=bif (a<(c.length:Int))then (idx c a).bind λe=>(Ok e d).bind λb=>bif b then some (.inr (.inl a))else some (.inl (Qi (a+1)))else some (.inr (.inr ()))
def Ac (a:Int):O_ Int:=some a
def Ol : O_ Int:=some (-1)
def GD (a:LI_)(b:QMk):O_ Int:=(Qu (λst=>Ki a b st) 0).bind (Sum.elim (λq=>Ac q) (λq=>Ol))
def Om (g e):CT 25 [.sl 1 (g.map Qb),.clo (.func 224) [] [.L 620]] [(620,.var (Qo e))] (GD g e) V.I (λ_=>[(620,.var (Qo e))]):=
 W 19 func25 Z λC c r h=>J c [9,.o (.ln g.length),4] Z Qc<|lq_ h (λst=>⟨[(0,.sl 1 (g.map Qb)),(1,.clo (.func 224) [] [.L 620]),(7,.I (g.length:Int)),(8,.I st)],[(620,.var (Qo e))]⟩) (λq=>(.ret,⟨[(4,.I q)],[(620,.var (Qo e))]⟩)) (λq=>(.exit 0,⟨[],[(620,.var (Qo e))]⟩)) Z (λm o h=>H c [6] Z<|I h (λf h=>B h λl j h=>B h λk i h=>g3_ c [.T,15,.o (.row (Qb l)),1,.cm (.clo) [(620,620)] [(620,620)] [] [.d,.d] [(620,.var (Qo e))] (.b k),2] Z f (QF j) (Qc5 _ _ _ i)<|I h (λa h=>J c [.T,9] Z a<|rR_ h Z) λa h=>J c [.F,7] Z a<|rN_ h Z) λf h=>J c [.F,2] Z f<|rX_ h Z) (λp h=>H c [2] Z<|E h Z r1_) (λ_ h=>H c [8] Z<|E h Z r1_)
def Kj (a:LI_)(b:QMk):O_ Bool:=(GD a b).bind λc=>some (decide (0<=c))
def LM (e a):CT 223 [.sl 1 (e.map Qb),.clo (.func 224) [] [.L 620]] [(620,.var (Qo a))] (Kj e a) V.b (λ_=>[(620,.var (Qo a))]):=
 W 9 func223 Z λC f r h=>B h λg c h=>J f [9,.cm (.fn) [(620,620)] [(620,620)] [] [.d,.d] [(620,.var (Qo a))] (.I g),5] Z (Om _ _ _ c)<|E h Z r1_
def Cn (e:((L_ QMk)×Bool))(a:LI_)(b:Int):O_ ((LI_×Int)⊕(Unit⊕Unit)):=bif (b<(e.1.length:Int))then (idx e.1 b).bind λc=>(Kj a c).bind λd=>bif d then some (.inr (.inl ()))else some (.inl (a,(Qi (b+1))))else some (.inr (.inr ()))
def Qfk : O_ Int:=some 0
def MG (a:((L_ QMk)×Bool)):O_ Int:=bif (!a.2)then some 2 else some 1
def LN (c:Qk)(d:QMk)(a:Int)(b:Int):O_ Int:=(Wo c d a).bind λf=>(LL c d a b).bind λe=>(Qu (λst=>Cn e st.1 st.2) (f,0)).bind (Sum.elim (λq=>Qfk) (λq=>MG e))
def Qfl (t z e a):CT 163 [.agg (Qa t),.sl 1 (z.map Qe),.I e,.I a] [] (LN t z e a) V.I no_:=
 W 38 func163 Z λC j r h=>B h λu w h=>B h λk x h=>G j [8,.A (Qa t),2,.o (.co false [.d,.d,.d] 1 (u.map Qb) u.length),5,.A (Qa t),3,.o (.C4 (.tup [.sl 1 (k.1.map Qo),.b k.2])),11,.o (.ln k.1.length),4,.frz 17 (u.map Qb) [9] []] Z (a6_ Z ⟨(Qfg _ _ _ _ w),Qc,.inl Z⟩ Z (Qfj _ _ _ _ _ x) Qc (A (Ye Qc)))<|lq_ h (λst=>⟨[(9,.sl 1 (st.1.map Qb)),(11,.b k.2),(26,.sl 1 (k.1.map Qo)),(27,.I (k.1.length:Int)),(28,.I st.2)],[]⟩) (λq=>(.ret,⟨[(8,.I 0)],[]⟩)) (λq=>(.exit 0,⟨[(11,.b k.2)],[]⟩)) Z (λ⟨m,D⟩ o h=>H j [6] Z<|I h (λf h=>B h λl p h=>B h λy s h=>g4_ j [.T,6,.o (.row (Qo l)),3,.O 13 (.var (Qo l)),6,.cm (.fn) [(620,13)] [(13,620)] [] [.d,.d] [(620,.var (Qo l))] (.b y),2] Z f (QF p) Z (LM _ _ _ s)<|I h (λg h=>J j [.T,8] Z g<|rR_ h Z) λg h=>J j [.F,7] Z g<|rN_ h Z) λf h=>J j [.F,2] Z f<|rX_ h Z) (λ_ h=>H j [2] Z<|E h Z U) (λ_ h=>H j [9] Z<|I h (λi h=>J j [.T,7] Z i<|E h Z U) λi h=>J j [.F,8] Z i<|E h Z U)
def LO (b:Qk)(e:QMk)(c:Qg)(a:Int):O_ Int:=(Yv b e c).bind λf=>bif (f != 0)then some 0 else (idx b.Tasks c.Task).bind λg=>bif (g.Join != 3)then some 1 else (LN b e c.Task a).bind λd=>some d
def Qfm (i p j a):CT 104 [.agg (Qa i),.sl 1 (p.map Qe),.agg (Qf j),.I a] [] (LO i p j a) V.I no_:=
 W 30 func104 Z λC f r h=>B h λq k h=>g3_ f [11,.A (Qa i),1,.A (Qf j),.o (.C3 (.I q)),4] Z Z Z (Qag _ _ _ _ k)<|I h (λe h=>J f [.T,8] Z e<|E h Z U) λe h=>B h λs l h=>K f [.F,6,.o (.row (Qh s)),6] Z e (QF l)<|I h (λb h=>J f [.T,8] Z b<|E h Z U) λb h=>B h λm g h=>g3_ f [.F,5,.A (Qa i),4,.o (.C4 (.I m)),4] Z b Z (Qfl _ _ _ _ _ g)<|E h Z U
def Dj (b:Int)(a:Bool)(c:(L_ Qg))(d:QBg):O_ ((Bool×Int×(L_ Qg)×QBg)⊕(Bool×(L_ Qg))):=some (.inl (a,(Qi (b+1)),c,d))
def Dk (c:Qg)(d:(L_ Qg))(e:Int)(a:Bool)(b:QBg):O_ ((Bool×Int×(L_ Qg)×QBg)⊕(Bool×(L_ Qg))):=bif (((QR b c.Task).getD 0)==1)then (chk (d.length+([c]:L_ Qg).length<=4294967296)).bind λ_=>Dj e a (d++([c]:L_ Qg)) b else bif (((QR b c.Task).getD 0)==2)then Dj e false d b else Dj e a d b
def Kk (h:(L_ Qg))(i:Qk)(j:QMk)(b:Int)(a:Bool)(d:Int)(e:(L_ Qg))(f:QBg):O_ ((Bool×Int×(L_ Qg)×QBg)⊕(Bool×(L_ Qg))):=bif (d<(h.length:Int))then (idx h d).bind λc=>bif (!(QR f c.Task).isSome)then (LO i j c b).bind λg=>Dk c e d a (YI Ue f c.Task g)else Dk c e d a f else some (.inr (a,e))
def On (a:Bool)(b:(L_ Qg)):O_ ((L_ Qg)×Bool):=some (b,a)
def Gz (c:Qk)(d:QMk)(a:Int)(b:Int):O_ ((L_ Qg)×Bool):=(Bl c d b).bind λe=>(Qu (λst=>Kk e c d a st.1 st.2.1 st.2.2.1 st.2.2.2) (true,0,([]:L_ Qg),([]:QBg))).bind (λq=>On q.1 q.2)
def QgE (n1 m2 g u):CT 61 [.agg (Qa n1),.sl 1 (m2.map Qe),.I g,.I u] [] (Gz n1 m2 g u) (λr=>(.tup [.sl 4 (r.1.map Qf),.b r.2])) no_:=by
 refine W 59 func61 rfl λC p r h=>?_
 obtain⟨t,b2,h⟩:=Qv h
 refine Qx p [20,.O 17 (.map (QN V.I V.I ([]:QBg))),6,.A (Qa n1),2,.o (.co false [.d,.d,.d] 4 (t.map Qf) t.length),5,.adopt 10 50 4,.O 50 (.arr 4 (([]:L_ Qg).map Qf)),.S 10 (.own 50 ([]:L_ Qg).length),.K [1,2,4,10,11,12,21,22,23] [4,17,21,50]] Z (a5_ Z Z ⟨(QcR _ _ _ _ b2),Qc,.inl Z⟩ Z (congrArg (λn=>V.own 50 n) (by simp))) ?_
 obtain⟨b3,a8,h⟩:=Qv h
 refine AK.loop (body:=(λst=>Kk t n1 m2 g st.1 st.2.1 st.2.2.1 st.2.2.2)) (λst σ=>σ=⟨[(1,.sl 1 (m2.map Qe)),(2,.I g),lk_ 4,(10,.own 50 st.2.2.1.length),(11,.b st.1),(12,.map 17),(21,.own 21 t.length),(22,.I (t.length:Int)),(23,.I st.2.1)],[(4,.var (Qa n1)),(17,.map (QN V.I V.I st.2.2.2)),(21,.arr 4 (t.map Qf)),(50,.arr 4 (st.2.2.1.map Qf))]⟩) (λq e σ=>e=.exit 0/\σ=⟨[(10,.own 50 q.2.length),(11,.b q.1)],[(50,.arr 4 (q.2.map Qf))]⟩) a8 rfl ?_ ?_
 ·rintro ⟨s,a3,w,x⟩ o σ rfl h
  refine tg_ p [6] ?_
  refine bq_ p h [.T,2] rfl (λy h=>?_) [.F,2,.K [10,11] [50]] rfl λy h=>?_
  ·refine AK.meet (λσ=>∃j:Bool,∃a4:(L_ Qg),∃a6:QBg,σ=⟨[(1,.sl 1 (m2.map Qe)),(2,.I g),lk_ 4,(10,.own 50 a4.length),(11,.b j),(12,.map 17),(21,.own 21 t.length),(22,.I (t.length:Int)),(23,.I a3)],[(4,.var (Qa n1)),(17,.map (QN V.I V.I a6)),(21,.arr 4 (t.map Qf)),(50,.arr 4 (a4.map Qf))]⟩/\Dj a3 j a4 a6=some o) ?_ ?_
   ·obtain⟨i,a5,h⟩:=Qv h
    refine Qx p [4,.v (.row (Qf i)) [] (.agg (Qf i)),2,.O 14 (.var (Qf i)),2] Z (a4_ (Yi a5 Z) (XP (Yl a5).2) Z Z) ?_
    refine AK.meet (λσ=>∃D:QBg,σ=⟨[(1,.sl 1 (m2.map Qe)),(2,.I g),lk_ 4,(10,.own 50 w.length),(11,.b s),(12,.map 17),lk_ 14,(21,.own 21 t.length),(22,.I (t.length:Int)),(23,.I a3)],[(4,.var (Qa n1)),(14,.var (Qf i)),(17,.map (QN V.I V.I D)),(21,.arr 4 (t.map Qf)),(50,.arr 4 (w.map Qf))]⟩/\Dk i w a3 s D=some o) ?_ ?_
    ·refine Qx p [5,.o (.any (.tup [.I ((QR x i.Task).getD 0),.b (QR x i.Task).isSome]) none),13] Z (A (λσ h1 h2 _=>Ql.lookupOk (e:=V.I) (f:=V.I) (l:=x) (k:=i.Task) (z:=0) Z Z (QZ p.n Z) (h1 _ _ Z) (h2 _ _ Z) (h1 _ _ Z) Pd DM Mq Z Z)) ?_
     rcases Xy h with⟨P,h⟩|⟨P,h⟩
     ·obtain⟨a7,a9,h⟩:=Qv h
      refine Qx p [.T,.K [1,2,4,10,11,12,14,21,22,23] [4,14,17,21,50]] Z (A P) ?_
      refine AK.draw2 QG p mixed [.N,.N,.N,.E (.agg (Qa n1)),.N,.E (.agg (Qf i)),.N,.B (.C4 (.I a7)),.m (.any ⟨[],[(17,.map (QN V.I V.I (YI Ue x i.Task a7)))],none⟩)] [] [] [1,2,4,10,11,12,14,21,22,23] [4,14,17,21,50] rfl rfl rfl ⟨⟨⟨⟨U,rfl⟩,rfl⟩,(Qfm _ _ _ _ _ a9)⟩,(λσ h1 h2=>Ql.mapUpdate (e:=V.I) (f:=V.I) (l:=x) (k:=i.Task) (v:=a7) Ue rfl rfl (h1 _ _ rfl) (h2 _ _ rfl) (h1 _ _ rfl) (h1 _ _ rfl) Pd DM rfl)⟩ rfl (by kernel_rfl) rfl rfl rfl ?_
      refine tg_ p [.K [1,2,4,10,11,12,14,21,22,23] [4,14,17,21,50]] ?_
      exact AK.met (ex_ _ (an_ Z h))
     refine Qx p [.F,1,.K [1,2,4,10,11,12,14,21,22,23] [4,14,17,21,50]] Z (A P) ?_
     exact AK.met (ex_ _ (an_ Z h))
    rintro σ ⟨D,rfl,h⟩
    refine Qx p [5,.o (.any (.I ((QR D i.Task).getD 0)) none),9] Z (A (λσ h1 h2 _=>Ql.lookup (e:=V.I) (f:=V.I) (l:=D) (k:=i.Task) (z:=0) Z Z (QZ p.n Z) (h1 _ _ Z) (h2 _ _ Z) (h1 _ _ Z) Pd DM Mq Z)) ?_
    rcases Xy h with⟨a0,h⟩|⟨a0,h⟩
    ·obtain⟨b0,h⟩:=Qcj h
     refine Qx p [.T,2,.A (Qf i),.v (.bd []) [] (.sl 4 (([i]:L_ Qg).map Qf)),.app ((w++([i]:L_ Qg)).map Qf) (w++([i]:L_ Qg)).length,4,.K [1,2,4,10,11,12,21,22,23] [4,17,21,50]] Z (a4_ a0 Z Z ⟨Qc,XU b0 Qc,Xu,Yc Qc⟩) ?_
     exact AK.met (ex_ _ (ex_ _ (ex_ _ (an_ Z h))))
    refine Qx p [.F,6] Z (A a0) ?_
    refine bq_ p h [.T,5,.K [1,2,4,10,11,12,21,22,23] [4,17,21,50]] rfl (λa1 h=>?_) [.F,3,.K [1,2,4,10,11,12,21,22,23] [4,17,21,50]] rfl λa1 h=>?_
    ·exact AK.met (ex_ _ (ex_ _ (ex_ _ (an_ Z h))))
    exact AK.met (ex_ _ (ex_ _ (ex_ _ (an_ Z h))))
   rintro σ ⟨j,a4,a6,rfl,h⟩
   refine tg_ p [4,.K [1,2,4,10,11,12,21,22,23] [4,17,21,50]] ?_
   cases h
   exact Vn Z Z
  cases h
  exact QaV Z (an_ Z Z)
 obtain⟨a2,b1⟩:=b3
 replace h:On a2 b1=some r:=h
 unfold On at h
 rintro e σ ⟨rfl,rfl⟩
 exact J p [11,.frz 50 (b1.map Qf) [8] []] Z (A (Ye Qc))<|F h Z Z U
def Uz (a:Bool)(b:((L_ Qg)×Bool)):O_ Bool:=bif a then some b.2 else some false
def KM (a:Int)(b:(L_ QD))(c:(L_ Xb))(d:(L_ QI))(e:Int)(f:Int)(g:Int)(h:Bool)(i:(L_ (ByteArray×Int)))(j:(L_ QY))(k:(L_ QMk)):O_ ((Int×(L_ QD)×(L_ Xb)×(L_ QI)×Int×Int×Int×Bool×(L_ (ByteArray×Int))×(L_ QY)×(L_ QMk))⊕((L_ QD)×(L_ Xb)×(L_ QI)×Int×Int×Int×Bool×(L_ (ByteArray×Int))×(L_ QY)×(L_ QMk))):=some (.inl ((Qi (a+1)),b,c,d,e,f,g,h,i,j,k))
def KN (c:Int)(a:(L_ QY))(D:Int)(d:Qg)(b:Int)(e:(L_ QD))(f:(L_ Xb))(g:(L_ QI))(h:Int)(i:Int)(j:Int)(m:Bool)(k:(L_ (ByteArray×Int)))(l:(L_ QMk)):O_ ((Int×(L_ QD)×(L_ Xb)×(L_ QI)×Int×Int×Int×Bool×(L_ (ByteArray×Int))×(L_ QY)×(L_ QMk))⊕((L_ QD)×(L_ Xb)×(L_ QI)×Int×Int×Int×Bool×(L_ (ByteArray×Int))×(L_ QY)×(L_ QMk))):=bif (b<0)then KM c e f g h i j false k a l else (chk (a.length+([(QY.mk D b d)]:L_ QY).length<=4294967296)).bind λ_=>KM c e f g h i j m k (a++[(QY.mk D b d)]) l
def KO (n:((L_ Qg)×Bool))(p:QMk)(D:Int)(b:Int)(c:(L_ QD))(d:(L_ Xb))(e:(L_ QI))(f:Int)(g:Int)(i:Int)(j:Bool)(k:(L_ (ByteArray×Int)))(h:(L_ QY))(l:(L_ QMk)):O_ ((Int×(L_ QD)×(L_ Xb)×(L_ QI)×Int×Int×Int×Bool×(L_ (ByteArray×Int))×(L_ QY)×(L_ QMk))⊕((L_ QD)×(L_ Xb)×(L_ QI)×Int×Int×Int×Bool×(L_ (ByteArray×Int))×(L_ QY)×(L_ QMk))):=bif (b<(n.1.length:Int))then (idx n.1 b).bind λm=>(Yh (Qk.mk c d e f g) p m).bind λo=>bif (o.2==0)then (WR c d e f g i k l h j o.1).bind λa=>KN b h D m a.1 a.2.2.1 a.2.2.2.1 a.2.2.2.2.1 a.2.2.2.2.2.1 a.2.2.2.2.2.2.1 a.2.2.2.2.2.2.2.1 a.2.2.2.2.2.2.2.2.1 a.2.2.2.2.2.2.2.2.2 a.2.1 else KN b h D m (-1) c d e f g i j k l else some (.inr (c,d,e,f,g,i,j,k,h,l))
def Ih (a:(L_ QD))(b:(L_ Xb))(c:(L_ QI))(d:Int)(e:Int)(f:Int)(g:Bool)(h:(L_ (ByteArray×Int)))(i:(L_ QY))(j:(L_ QMk)):O_ ((L_ QMk)×(L_ QY)×(L_ QD)×(L_ Xb)×(L_ QI)×Int×Int×Int×Bool×(L_ (ByteArray×Int))):=some (j,i,a,b,c,d,e,f,g,h)
def DK (a:((L_ Qg)×Bool))(b:QMk)(D:Int)(d:(L_ QD))(e:(L_ Xb))(f:(L_ QI))(g:Int)(h:Int)(i:Int)(j:(L_ (ByteArray×Int)))(k:(L_ QY))(l:(L_ QMk))(c:Bool):O_ ((L_ QMk)×(L_ QY)×(L_ QD)×(L_ Xb)×(L_ QI)×Int×Int×Int×Bool×(L_ (ByteArray×Int))):=(Qu (λst=>KO a b D st.1 st.2.1 st.2.2.1 st.2.2.2.1 st.2.2.2.2.1 st.2.2.2.2.2.1 st.2.2.2.2.2.2.1 st.2.2.2.2.2.2.2.1 st.2.2.2.2.2.2.2.2.1 st.2.2.2.2.2.2.2.2.2.1 st.2.2.2.2.2.2.2.2.2.2) (0,d,e,f,g,h,i,c,j,k,l)).bind (λq=>Ih q.1 q.2.1 q.2.2.1 q.2.2.2.1 q.2.2.2.2.1 q.2.2.2.2.2.1 q.2.2.2.2.2.2.1 q.2.2.2.2.2.2.2.1 q.2.2.2.2.2.2.2.2.1 q.2.2.2.2.2.2.2.2.2)
def Em (e:(L_ QD))(f:(L_ Xb))(g:(L_ QI))(h:Int)(i:Int)(j:Int)(l:(L_ (ByteArray×Int)))(k:(L_ QMk))(m:(L_ QY))(c:Bool)(D:Int):O_ ((L_ QMk)×(L_ QY)×(L_ QD)×(L_ Xb)×(L_ QI)×Int×Int×Int×Bool×(L_ (ByteArray×Int))):=(idx k D).bind λa=>(Gz (Qk.mk e f g h i) a j 9223372036854775807).bind λb=>(Uz c b).bind (λd=>DK b a D e f g h i j l m k d)
def TQ (v1 v2 v3 v4 v5 v6 m7 l8 l9 b8 at_11):CT 40 [.L 620,.I at_11] [(620,.var [.sl 7 (v1.map Qr),.sl 3 (v2.map Qw),.sl 14 (v3.map Qh),.I v4,.I v5,.I v6,.map 621,.own 618 l8.length,.own 619 l9.length,.b b8]),(621,.map (QN V.s V.I m7)),(618,.arr 1 (l8.map Qo)),(619,.arr 6 (l9.map QS))] (Em v1 v2 v3 v4 v5 v6 m7 l8 l9 b8 at_11) (λ_=>(.tup [])) (λr=>[(618,.arr 1 (r.1.map Qo)),(619,.arr 6 (r.2.1.map QS)),(620,.var [.sl 7 (r.2.2.1.map Qr),.sl 3 (r.2.2.2.1.map Qw),.sl 14 (r.2.2.2.2.1.map Qh),.I r.2.2.2.2.2.1,.I r.2.2.2.2.2.2.1,.I r.2.2.2.2.2.2.2.1,.map 621,.own 618 r.1.length,.own 619 r.2.1.length,.b r.2.2.2.2.2.2.2.2.1]),(621,.map (QN V.s V.I r.2.2.2.2.2.2.2.2.2))]):=by
 refine W 88 func40 rfl λC i r h=>?_
 obtain⟨l,a7,h⟩:=Qv h
 obtain⟨f,b9,h⟩:=Qv h
 refine Qx i [9,.o (.row (Qo l)),4,.K [0,1,4] [618,619,620,621]] Z (a2_ (Yi a7 Z) (XP (Yl a7).2)) ?_
 refine AK.draw2 QG i mixed [.N,.N,.N,.E (.agg (Qa (Qk.mk v1 v2 v3 v4 v5))),.N,.N,.N,.N,.N,.B (.C4 (.tup [.sl 4 (f.1.map Qf),.b f.2])),.N,.N,.N,.N,.N] [] [] [0,1,4,5,6] [618,619,620,621] rfl rfl rfl ⟨⟨U,rfl⟩,(QgE _ _ _ _ _ b9)⟩ rfl (by kernel_rfl) rfl rfl rfl ?_
 refine tg_ i [2] ?_
 obtain⟨a8,c0,h⟩:=Qv h
 replace h:DK f l at_11 v1 v2 v3 v4 v5 v6 m7 l9 l8 a8=some r:=h
 refine AK.meetX (λσ=>σ=⟨[(0,.L 620),(1,.I at_11),(4,.sl 1 (l.map Qe)),(5,.sl 4 (f.1.map Qf))],[(618,.arr 1 (l8.map Qo)),(619,.arr 6 (l9.map QS)),(620,.var [.sl 7 (v1.map Qr),.sl 3 (v2.map Qw),.sl 14 (v3.map Qh),.I v4,.I v5,.I v6,.map 621,.own 618 l8.length,.own 619 l9.length,.b a8]),(621,.map (QN V.s V.I m7))]⟩) ?_ ?_
 ·replace h:=c0
  refine tg_ i [8] ?_
  refine bg_ h (λu h=>Qx i [.S 39 (.b true),6,.O 620 (.var [.sl 7 (v1.map Qr),.sl 3 (v2.map Qw),.sl 14 (v3.map Qh),.I v4,.I v5,.I v6,.map 621,.own 618 l8.length,.own 619 l9.length,.b f.2]),1,.K [0,1,4,5] [618,619,620,621]] rfl ⟨(tc_ u),rfl⟩ ?_) λu h=>Qx i [.S 39 (.b false),6,.O 620 (.var [.sl 7 (v1.map Qr),.sl 3 (v2.map Qw),.sl 14 (v3.map Qh),.I v4,.I v5,.I v6,.map 621,.own 618 l8.length,.own 619 l9.length,.b false]),1,.K [0,1,4,5] [618,619,620,621]] rfl ⟨(tc_ u),rfl⟩ ?_
  ·cases h
   exact mt_
  cases h
  exact mt_
 rintro σ rfl
 replace h:DK f l at_11 v1 v2 v3 v4 v5 v6 m7 l9 l8 a8=some r:=h
 refine Qx i [4,.o (.ln f.1.length),4,.K [0,1,4,45,46,47] [618,619,620,621]] Z (A Qc) ?_
 obtain⟨c7,c1,h⟩:=Qv h
 refine AK.loop (body:=(λst=>KO f l at_11 st.1 st.2.1 st.2.2.1 st.2.2.2.1 st.2.2.2.2.1 st.2.2.2.2.2.1 st.2.2.2.2.2.2.1 st.2.2.2.2.2.2.2.1 st.2.2.2.2.2.2.2.2.1 st.2.2.2.2.2.2.2.2.2.1 st.2.2.2.2.2.2.2.2.2.2)) (λst σ=>σ=⟨[(0,.L 620),(1,.I at_11),(4,.sl 1 (l.map Qe)),(45,.sl 4 (f.1.map Qf)),(46,.I (f.1.length:Int)),(47,.I st.1)],[(618,.arr 1 (st.2.2.2.2.2.2.2.2.2.2.map Qo)),(619,.arr 6 (st.2.2.2.2.2.2.2.2.2.1.map QS)),(620,.var [.sl 7 (st.2.1.map Qr),.sl 3 (st.2.2.1.map Qw),.sl 14 (st.2.2.2.1.map Qh),.I st.2.2.2.2.1,.I st.2.2.2.2.2.1,.I st.2.2.2.2.2.2.1,.map 621,.own 618 st.2.2.2.2.2.2.2.2.2.2.length,.own 619 st.2.2.2.2.2.2.2.2.2.1.length,.b st.2.2.2.2.2.2.2.1]),(621,.map (QN V.s V.I st.2.2.2.2.2.2.2.2.1))]⟩) (λq e σ=>e=.exit 0/\σ=⟨[],[(618,.arr 1 (q.2.2.2.2.2.2.2.2.2.map Qo)),(619,.arr 6 (q.2.2.2.2.2.2.2.2.1.map QS)),(620,.var [.sl 7 (q.1.map Qr),.sl 3 (q.2.1.map Qw),.sl 14 (q.2.2.1.map Qh),.I q.2.2.2.1,.I q.2.2.2.2.1,.I q.2.2.2.2.2.1,.map 621,.own 618 q.2.2.2.2.2.2.2.2.2.length,.own 619 q.2.2.2.2.2.2.2.2.1.length,.b q.2.2.2.2.2.2.1]),(621,.map (QN V.s V.I q.2.2.2.2.2.2.2.1))]⟩) c1 rfl ?_ ?_
 ·rintro ⟨a3,c8,c9,d0,d1,d2,e3,e4,e5,k,e6⟩ o σ rfl h
  refine tg_ i [6] ?_
  refine bq_ i h [.T,2] rfl (λw h=>?_) [.F,2,.K [] [618,619,620,621]] rfl λw h=>?_
  ·refine AK.meet (λσ=>∃a9:(L_ QD),∃b0:(L_ Xb),∃b1:(L_ QI),∃b2:Int,∃b3:Int,∃b4:Int,∃b5:Bool,∃b6:(L_ (ByteArray×Int)),∃a4:(L_ QY),∃a5:(L_ QMk),σ=⟨[(0,.L 620),(1,.I at_11),(4,.sl 1 (l.map Qe)),(45,.sl 4 (f.1.map Qf)),(46,.I (f.1.length:Int)),(47,.I a3)],[(618,.arr 1 (a5.map Qo)),(619,.arr 6 (a4.map QS)),(620,.var [.sl 7 (a9.map Qr),.sl 3 (b0.map Qw),.sl 14 (b1.map Qh),.I b2,.I b3,.I b4,.map 621,.own 618 a5.length,.own 619 a4.length,.b b5]),(621,.map (QN V.s V.I b6))]⟩/\KM a3 a9 b0 b1 b2 b3 b4 b5 b6 a4 a5=some o) ?_ ?_
   ·obtain⟨g,c2,h⟩:=Qv h
    obtain⟨c3,c4,h⟩:=Qv h
    refine Qx i [3,.o (.row (Qf g)),.A (Qf g),2,.O 8 (.var (Qf g)),3,.K [0,1,4,8,45,46,47] [8,618,619,620,621]] Z (a3_ (QF c2) Z Z) ?_
    refine AK.draw2 QG i mixed [.N,.N,.N,.E (.agg (Qa (Qk.mk c8 c9 d0 d1 d2))),.N,.E (.agg (Qf g)),.B (.C3 (.tup [.sl 1 (c3.1.map Qe),.I c3.2])),.N,.N,.N,.N,.N] [] [] [0,1,4,8,9,10,45,46,47] [8,618,619,620,621] rfl rfl rfl ⟨⟨⟨U,rfl⟩,rfl⟩,(QdV _ _ _ _ c4)⟩ rfl (by kernel_rfl) rfl rfl rfl ?_
    refine tg_ i [6] ?_
    refine AK.meet (λσ=>∃p:Int,∃x:(L_ QD),∃y:(L_ Xb),∃z:(L_ QI),∃D:Int,∃P:Int,∃a0:Int,∃a6:Bool,∃b7:(L_ (ByteArray×Int)),∃t:(L_ QMk),σ=⟨[(0,.L 620),(1,.I at_11),(4,.sl 1 (l.map Qe)),lk_ 8,(11,.I p),(45,.sl 4 (f.1.map Qf)),(46,.I (f.1.length:Int)),(47,.I a3)],[(8,.var (Qf g)),(618,.arr 1 (t.map Qo)),(619,.arr 6 (k.map QS)),(620,.var [.sl 7 (x.map Qr),.sl 3 (y.map Qw),.sl 14 (z.map Qh),.I D,.I P,.I a0,.map 621,.own 618 t.length,.own 619 k.length,.b a6]),(621,.map (QN V.s V.I b7))]⟩/\KN a3 k at_11 g p x y z D P a0 a6 b7 t=some o) ?_ ?_
    ·refine tg_ i [6] ?_
     rcases Xy h with⟨a1,h⟩|⟨a1,h⟩
     ·obtain⟨j,c5,h⟩:=Qv h
      refine Qx i [.T,3,.cm (.fn) [(620,620),(621,621),(618,618),(619,619)] [(618,618),(619,619),(620,620),(621,621)] [618,619] [.d,.d] [(618,.arr 1 (j.2.1.map Qo)),(619,.arr 6 (k.map QS)),(620,.var [.sl 7 (j.2.2.1.map Qr),.sl 3 (j.2.2.2.1.map Qw),.sl 14 (j.2.2.2.2.1.map Qh),.I j.2.2.2.2.2.1,.I j.2.2.2.2.2.2.1,.I j.2.2.2.2.2.2.2.1,.map 621,.own 618 j.2.1.length,.own 619 k.length,.b j.2.2.2.2.2.2.2.2.1]),(621,.map (QN V.s V.I j.2.2.2.2.2.2.2.2.2))] (.I j.1),2,.K [0,1,4,8,11,45,46,47] [8,618,619,620,621]] Z (a2_ a1 (Ic _ _ _ _ _ _ _ _ _ _ _ _ c5)) ?_
      exact AK.met (ex_ _ (ex_ _ (ex_ _ (ex_ _ (ex_ _ (ex_ _ (ex_ _ (ex_ _ (ex_ _ (ex_ _ (an_ Z h)))))))))))
     refine Qx i [.F,1,.K [0,1,4,8,11,45,46,47] [8,618,619,620,621]] Z (A a1) ?_
     exact AK.met (ex_ _ (ex_ _ (ex_ _ (ex_ _ (ex_ _ (ex_ _ (ex_ _ (ex_ _ (ex_ _ (ex_ _ (an_ Z h)))))))))))
    rintro σ ⟨p,x,y,z,D,P,a0,a6,b7,t,rfl,h⟩
    refine tg_ i [7] ?_
    rcases Xy h with⟨a2,h⟩|⟨a2,h⟩
    ·refine Qx i [.T,7,.O 620 (.var [.sl 7 (x.map Qr),.sl 3 (y.map Qw),.sl 14 (z.map Qh),.I D,.I P,.I a0,.map 621,.own 618 t.length,.own 619 k.length,.b false]),5,.K [0,1,4,45,46,47] [618,619,620,621]] Z (a2_ a2 Z) ?_
     exact AK.met (ex_ _ (ex_ _ (ex_ _ (ex_ _ (ex_ _ (ex_ _ (ex_ _ (ex_ _ (ex_ _ (ex_ _ (an_ Z h)))))))))))
    obtain⟨c6,h⟩:=Qcj h
    refine Qx i [.F,2,.K [0,1,4,8,11,45,46,47] [8,618,619,620,621]] Z (A a2) ?_
    refine AK.draw2 QG i mixed [.a .no none true,.N,.N,.N,.N,.N,.N,.N,.E (.agg (Qf g)),.E (.agg (QS (QY.mk at_11 p g))),.a (.bd []) (some ([],.sl 6 (([(QY.mk at_11 p g)]:L_ QY).map QS))) false,.m (.app ((k++[(QY.mk at_11 p g)]).map QS) (k++[(QY.mk at_11 p g)]).length),.N,.N,.N,.m .s] [0,1,4,8,11,45,46,47] [8,618,621] [0,1,4,45,46,47] [618,619,620,621] rfl rfl rfl ⟨⟨⟨⟨U,rfl⟩,rfl⟩,rfl⟩,⟨Qc,XU c6 Qc,Xu,Yc Qc⟩⟩ rfl (by kernel_rfl) rfl rfl rfl ?_
    refine Qx i [.O 620 (.var [.sl 7 (x.map Qr),.sl 3 (y.map Qw),.sl 14 (z.map Qh),.I D,.I P,.I a0,.map 621,.own 618 t.length,.own 619 (k++[(QY.mk at_11 p g)]).length,.b a6]),1,.K [0,1,4,45,46,47] [618,619,620,621]] Z (A Z) ?_
    exact AK.met (ex_ _ (ex_ _ (ex_ _ (ex_ _ (ex_ _ (ex_ _ (ex_ _ (ex_ _ (ex_ _ (ex_ _ (an_ Z h)))))))))))
   rintro σ ⟨a9,b0,b1,b2,b3,b4,b5,b6,a4,a5,rfl,h⟩
   refine tg_ i [4,.K [0,1,4,45,46,47] [618,619,620,621]] ?_
   cases h
   exact Vn Z Z
  cases h
  exact QaV Z (an_ Z Z)
 obtain⟨d3,d4,d5,d6,d7,d8,d9,e0,e1,e2⟩:=c7
 replace h:Ih d3 d4 d5 d6 d7 d8 d9 e0 e1 e2=some r:=h
 rintro e σ ⟨rfl,rfl⟩
 refine tg_ i [1,.K [] [618,619,620,621]] ?_
 cases h
 refine AK.done ?_
 exact ex_ [] (an_ U (gives r4_))
end Go.Proofs
