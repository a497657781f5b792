/- Walks through the program. -/
import Derived.Test.YtdogcfnkpfekmaaGreatDoorN3V3
import Derived.Test.YtdogcfnkpfekmaaGreatDoorN3V3
import Derived.Test.YtdogcfnkpfekmaaGreatDoorProg
set_option linter.all false
set_option maxRecDepth 100000
set_option maxHeartbeats 4000000
noncomputable section
namespace Go.Proofs
open Go Go.RowKit Go.Vm Go.Proofs.Tryz
structure QD where
 Name:ByteArray
 Kind:Int
 Lo:Int
 Hi:Int
 Names:(List ByteArray)
 First:Int
 Then:Int
structure Xb where
 Name:ByteArray
 Colour:Int
 First:(List (Int×Int))
structure Ju where
 Name:ByteArray
 Colour:Int
structure Qm where
 Kind:Int
 Num:Int
 Kids:(List Qm)
structure XT where
 Place:Int
 Expr:Qm
structure QF where
 Name:ByteArray
 Vars:(List Ju)
 Guard:Qm
 Join:Int
 Split:Int
 Ins:(List XT)
 Outs:(List XT)
 Cancel:(List Int)
 After:Int
 Many:(Int×Int×Int)
structure Qd where
 Colours:(List QD)
 Places:(List Xb)
 Tasks:(List QF)
 From:Int
 To:Int
structure Qc where
 Task:Int
 Vars:(List Int)
 Ins:(List Int)
 Outs:(List Int)
structure Xe where
 Told:Int
 Clause:Int
 Task:Int
 Trace:(List Qc)
structure QC where
 From:Int
 To:Int
 Mode:Qc
structure Qu where
 States:(List (List (List (Int×Int))))
 Edges:(List QC)
 Full:Bool
structure Xl where
 net:Qd
 m:(List (List (Int×Int)))
 task:QF
 env:(List Int)
structure Jd where
 all:(List QD)
 sizes:(List Int)
 k:Int
structure QV where
 net:Qd
 space:Qu
structure QA where
 state:Int
 far:Int
structure ZC where
 Kind:Int
 At:Int
def HR (x:ByteArray):L_ V:=[.s x]
def Qb (x:Int):L_ V:=[.i .i64 x]
def Quo (l:L_ Int):∀r∈l.map Qb,∀v∈r,v.sca=true:=Qw3 (λ_=>rfl) l
def Qup (x:(L_ ByteArray)):L_ V:=[.sl 1 (x.map HR)]
def Xf (x:QD):L_ V:=[.s x.Name,.i .i64 x.Kind,.i .i64 x.Lo,.i .i64 x.Hi,.sl 1 (x.Names.map HR),.i .i64 x.First,.i .i64 x.Then]
def Qhz (x:(L_ QD)):L_ V:=[.sl 7 (x.map Xf)]
def QI (x:(Int×Int)):L_ V:=[.i .i64 x.1,.i .i64 x.2]
def Qk (x:(L_ (Int×Int))):L_ V:=[.sl 2 (x.map QI)]
def QW (x:Xb):L_ V:=[.s x.Name,.i .i64 x.Colour,.sl 2 (x.First.map QI)]
def Qj2 (x:(L_ Xb)):L_ V:=[.sl 3 (x.map QW)]
def Yw (x:Ju):L_ V:=[.s x.Name,.i .i64 x.Colour]
def Cw (x:(L_ Ju)):L_ V:=[.sl 2 (x.map Yw)]
mutual
def Qf1 : Qm->L_ V
 | ⟨h,O,x2⟩=>[.i .i64 h,.i .i64 O,.sl 3 (Ke x2)]
def Ke : L_ Qm->L_ (L_ V)
 | []=>[]
 | e::es=>Qf1 e::Ke es
end
def QO (x:Qm):L_ V:=[.i .i64 x.Kind,.i .i64 x.Num,.sl 3 (Ke x.Kids)]
def QpP : ∀x:Qm,Qf1 x=QO x
 | ⟨h,O,x2⟩=>by rw[Qf1];rfl
def NK : ∀l:L_ Qm,Ke l=l.map QO
 | []=>by rw[Ke];rfl
 | e::es=>by rw[Ke,NK es,QpP];rfl
def Aw (l:L_ Qm):(Ke l).length=l.length:=by rw[NK,EY]
def JI {l:L_ Qm}{j:Int}{x:Qm}(h:idx l j=some x):0<=j/\(Ke l)[j.toNat]? = some (QO x):=by rw[NK];exact XY h
def Yz (x:XT):L_ V:=[.i .i64 x.Place,.i .i64 x.Expr.Kind,.i .i64 x.Expr.Num,.sl 3 (Ke x.Expr.Kids)]
def Quq (x:(L_ XT)):L_ V:=[.sl 4 (x.map Yz)]
def Xy (x:(L_ Int)):L_ V:=[.sl 1 (x.map Qb)]
def Qw6 (x:(Int×Int×Int)):L_ V:=[.i .i64 x.1,.i .i64 x.2.1,.i .i64 x.2.2]
def Qy (x:QF):L_ V:=[.s x.Name,.sl 2 (x.Vars.map Yw),.i .i64 x.Guard.Kind,.i .i64 x.Guard.Num,.sl 3 (Ke x.Guard.Kids),.i .i64 x.Join,.i .i64 x.Split,.sl 4 (x.Ins.map Yz),.sl 4 (x.Outs.map Yz),.sl 1 (x.Cancel.map Qb),.i .i64 x.After,.i .i64 x.Many.1,.i .i64 x.Many.2.1,.i .i64 x.Many.2.2]
def Qs5 (x:(L_ QF)):L_ V:=[.sl 14 (x.map Qy)]
def Qf (x:Qd):L_ V:=[.sl 7 (x.Colours.map Xf),.sl 3 (x.Places.map QW),.sl 14 (x.Tasks.map Qy),.i .i64 x.From,.i .i64 x.To]
def Qo (x:Qc):L_ V:=[.i .i64 x.Task,.sl 1 (x.Vars.map Qb),.sl 1 (x.Ins.map Qb),.sl 1 (x.Outs.map Qb)]
def Qs6 (x:(L_ Qc)):L_ V:=[.sl 4 (x.map Qo)]
def XO (x:Xe):L_ V:=[.i .i64 x.Told,.i .i64 x.Clause,.i .i64 x.Task,.sl 4 (x.Trace.map Qo)]
def QE (x:(L_ (L_ (Int×Int)))):L_ V:=[.sl 1 (x.map Qk)]
def XM (x:QC):L_ V:=[.i .i64 x.From,.i .i64 x.To,.i .i64 x.Mode.Task,.sl 1 (x.Mode.Vars.map Qb),.sl 1 (x.Mode.Ins.map Qb),.sl 1 (x.Mode.Outs.map Qb)]
def Xc (x:Qu):L_ V:=[.sl 1 (x.States.map QE),.sl 6 (x.Edges.map XM),.b x.Full]
def DI (x:Int):L_ V:=[.i .u8 x]
def JU (x:(L_ (L_ Int))):L_ V:=[.sl 1 (x.map Xy)]
def Jm (x:Xl):L_ V:=[.sl 7 (x.net.Colours.map Xf),.sl 3 (x.net.Places.map QW),.sl 14 (x.net.Tasks.map Qy),.i .i64 x.net.From,.i .i64 x.net.To,.sl 1 (x.m.map Qk),.s x.task.Name,.sl 2 (x.task.Vars.map Yw),.i .i64 x.task.Guard.Kind,.i .i64 x.task.Guard.Num,.sl 3 (Ke x.task.Guard.Kids),.i .i64 x.task.Join,.i .i64 x.task.Split,.sl 4 (x.task.Ins.map Yz),.sl 4 (x.task.Outs.map Yz),.sl 1 (x.task.Cancel.map Qb),.i .i64 x.task.After,.i .i64 x.task.Many.1,.i .i64 x.task.Many.2.1,.i .i64 x.task.Many.2.2,.sl 1 (x.env.map Qb)]
def LZ (x:Jd):L_ V:=[.sl 7 (x.all.map Xf),.sl 1 (x.sizes.map Qb),.i .i64 x.k]
def YW (x:QV):L_ V:=[.sl 7 (x.net.Colours.map Xf),.sl 3 (x.net.Places.map QW),.sl 14 (x.net.Tasks.map Qy),.i .i64 x.net.From,.i .i64 x.net.To,.sl 1 (x.space.States.map QE),.sl 6 (x.space.Edges.map XM),.b x.space.Full]
def Qv (x:QA):L_ V:=[.i .i64 x.state,.i .i64 x.far]
def Qur (x:ZC):L_ V:=[.i .i64 x.Kind,.i .i64 x.At]
def Dm (fn:Nat):FC:=QxK Tryz.f229 0 fn
def AZ (fn:Nat):FC:=QxK Tryz.f231 0 fn
def QvS : Go.Shelf.Ren:=⟨λ| 20=>44 | n=>n,λ| 0=>0 | 3=>3 | 4=>4 | 22=>37 | n=>n,λn=>n⟩
def Qus : Lays2.n20 prog QvS where
 mixed:=by kernel_rfl
 f20:=func44.trans (congrArg some (by kernel_rfl))
 t0:=underlying0
 a0:=isAgg0
 z0:=sizeOf0
 v0:=zeroValue0
 t3:=underlying3
 a3:=isAgg3
 z3:=sizeOf3
 v3:=zeroValue3
 t4:=underlying4
 a4:=isAgg4
 z4:=sizeOf4
 v4:=zeroValue4
 t22:=underlying37
 a22:=isAgg37
 z22:=sizeOf37
 v22:=zeroValue37
 i3:=by kernel_rfl
def QyB (a0 h O b0 b1 b2:Int):EqT prog 95 [.int .i64 a0,.int .i64 h,.int .i64 O] [.int .i64 b0,.int .i64 b1,.int .i64 b2] ((a0==b0)&&((h==b1)&&(O==b2))):=by
 refine⟨by kernel_rfl,λw=>?_⟩;have u3:=underlying3;have g3:=isAgg3;have z3:=sizeOf3;show(Op.equalIn (9999+1) 95 (.agg #[.int .i64 a0,.int .i64 h,.int .i64 O]) (.agg #[.int .i64 b0,.int .i64 b1,.int .i64 b2])).run prog w=_;rw[Op.equalIn];simp only[Xj,run_underlying underlying95,Xu];simp only[Std.Legacy.Range.forIn_eq_forIn_range',Std.Legacy.Range.size,Nat.sub_zero,Nat.add_sub_cancel,Nat.div_one,List.range'_succ,List.range'_zero,List.forIn_cons,List.forIn_nil]
 go_simp
 by_cases h0:a0=b0<;>by_cases h1:h=b1<;>by_cases h2:O=b2<;>simp[h0,h1,h2]
def Qw7 : Qhy prog 90 1=some (1,false,1):=by kernel_rfl
def Qw8 : Qhy prog 90 2=some (2,false,1):=by kernel_rfl
def QvT : Go.Shelf.Ren:=⟨λ| 157=>308 | 199=>321 | 229=>320 | 261=>334 | 311=>337 | 312=>338 | n=>n,λ| 0=>0 | 3=>3 | 4=>4 | 5=>5 | 9=>9 | 21=>21 | 31=>88 | 40=>310 | 46=>136 | 49=>329 | 51=>182 | 119=>308 | 141=>321 | 152=>317 | 154=>319 | 193=>325 | 194=>326 | 196=>328 | 198=>331 | 201=>334 | 226=>336 | 227=>337 | n=>n,λ| 0=>0 | 6=>1 | n=>n⟩
def Qut : Lays.n157 prog QvT where
 mixed:=by kernel_rfl
 f157:=func308.trans (congrArg some (by kernel_rfl))
 f199:=func321.trans (congrArg some (by kernel_rfl))
 f229:=func320.trans (congrArg some (by kernel_rfl))
 f261:=func334.trans (congrArg some (by kernel_rfl))
 f311:=func337.trans (congrArg some (by kernel_rfl))
 f312:=func338.trans (congrArg some (by kernel_rfl))
 t0:=underlying0
 a0:=isAgg0
 z0:=sizeOf0
 v0:=zeroValue0
 t3:=underlying3
 a3:=isAgg3
 z3:=sizeOf3
 v3:=zeroValue3
 t4:=underlying4
 a4:=isAgg4
 z4:=sizeOf4
 v4:=zeroValue4
 t5:=underlying5
 a5:=isAgg5
 z5:=sizeOf5
 v5:=zeroValue5
 t9:=underlying9
 a9:=isAgg9
 z9:=sizeOf9
 v9:=zeroValue9
 t21:=underlying21
 a21:=isAgg21
 z21:=sizeOf21
 v21:=zeroValue21
 t31:=underlying88
 a31:=isAgg88
 z31:=sizeOf88
 v31:=zeroValue88
 t40:=underlying310
 a40:=isAgg310
 z40:=sizeOf310
 v40:=zeroValue310
 t46:=underlying136
 a46:=isAgg136
 z46:=sizeOf136
 v46:=zeroValue136
 t49:=underlying329
 a49:=isAgg329
 z49:=sizeOf329
 v49:=zeroValue329
 t51:=underlying182
 a51:=isAgg182
 z51:=sizeOf182
 v51:=zeroValue182
 t119:=underlying308
 a119:=isAgg308
 z119:=sizeOf308
 t141:=underlying321
 a141:=isAgg321
 z141:=sizeOf321
 v141:=zeroValue321
 t152:=underlying317
 a152:=isAgg317
 z152:=sizeOf317
 v152:=zeroValue317
 t154:=underlying319
 a154:=isAgg319
 z154:=sizeOf319
 v154:=zeroValue319
 t193:=underlying325
 a193:=isAgg325
 z193:=sizeOf325
 v193:=zeroValue325
 t194:=underlying326
 a194:=isAgg326
 z194:=sizeOf326
 v194:=zeroValue326
 t196:=underlying328
 a196:=isAgg328
 z196:=sizeOf328
 v196:=zeroValue328
 t198:=underlying331
 a198:=isAgg331
 z198:=sizeOf331
 v198:=zeroValue331
 t201:=underlying334
 a201:=isAgg334
 z201:=sizeOf334
 v201:=zeroValue334
 t226:=underlying336
 a226:=isAgg336
 z226:=sizeOf336
 v226:=zeroValue336
 t227:=underlying337
 a227:=isAgg337
 z227:=sizeOf337
 v227:=zeroValue337
 g0:=by kernel_rfl
 g6:=by kernel_rfl
def QhA : Qhx prog 184 .u64=true:=by kernel_rfl
def Qkd : Qhx prog 3 .i64=true:=by kernel_rfl
def Qs7 : Qhx prog 5 .u8=true:=by kernel_rfl
def WK : DX prog 3 (V.i .i64) (Value.int .i64):=DX.int (by kernel_rfl)
def Qf2 : DX prog 9 V.s Value.string:=DX.str (by kernel_rfl)
def Qs8 : (BA prog 158 "Pop" = some (358,true)∧Qj8 prog 158=true)∨(BA prog 158 "Pop" = some (358,false)∧QbA prog 158=true):=.inl ⟨by kernel_rfl,by kernel_rfl⟩
def QrX : (BA prog 158 "Push" = some (359,true)∧Qj8 prog 158=true)∨(BA prog 158 "Push" = some (359,false)∧QbA prog 158=true):=.inl ⟨by kernel_rfl,by kernel_rfl⟩
def mixed : prog.follows .mixedOrders=true:=by kernel_rfl
def Quu : LD prog 113=some (9,3):=by kernel_rfl
def Nd : LD prog 117=some (3,3):=by kernel_rfl
def Un : LD prog 118=some (3,3):=by kernel_rfl
def QeP : LD prog 154=some (3,37):=by kernel_rfl
def QbI : LD prog 295=some (9,4):=by kernel_rfl
def Qmj : BA prog 158 "Len" = some (111,false)∧Qdg prog 158 156=true∧Ap prog 156=some false:=⟨by kernel_rfl,by kernel_rfl,by kernel_rfl⟩
def Qep : BA prog 158 "Less" = some (356,false)∧Qdg prog 158 156=true∧Ap prog 156=some false:=⟨by kernel_rfl,by kernel_rfl,by kernel_rfl⟩
def Qeq : BA prog 158 "Swap" = some (357,false)∧Qdg prog 158 156=true∧Ap prog 156=some false:=⟨by kernel_rfl,by kernel_rfl,by kernel_rfl⟩
def QwP : Qn9 prog 37=true:=by kernel_rfl
def QvU : Go.Shelf.Ren:=⟨λ| 125=>80 | 128=>130 | 129=>131 | 189=>43 | 215=>181 | 216=>127 | 257=>79 | 294=>121 | 295=>122 | 296=>123 | 297=>124 | 298=>125 | 299=>126 | 300=>128 | 301=>129 | 328=>176 | 329=>177 | 330=>178 | 331=>179 | 332=>180 | 343=>237 | n=>n,λ| 0=>0 | 3=>3 | 4=>4 | 5=>5 | 9=>9 | 28=>37 | 46=>136 | 51=>182 | 53=>184 | 131=>147 | 182=>174 | 183=>175 | 218=>222 | 222=>226 | 228=>263 | 229=>264 | n=>n,λn=>n⟩
def Quv : Lays.n189 prog QvU where
 mixed:=by kernel_rfl
 f125:=func80.trans (congrArg some (by kernel_rfl))
 f128:=func130.trans (congrArg some (by kernel_rfl))
 f129:=func131.trans (congrArg some (by kernel_rfl))
 f189:=func43.trans (congrArg some (by kernel_rfl))
 f215:=func181.trans (congrArg some (by kernel_rfl))
 f216:=func127.trans (congrArg some (by kernel_rfl))
 f257:=func79.trans (congrArg some (by kernel_rfl))
 f294:=func121.trans (congrArg some (by kernel_rfl))
 f295:=func122.trans (congrArg some (by kernel_rfl))
 f296:=func123.trans (congrArg some (by kernel_rfl))
 f297:=func124.trans (congrArg some (by kernel_rfl))
 f298:=func125.trans (congrArg some (by kernel_rfl))
 f299:=func126.trans (congrArg some (by kernel_rfl))
 f300:=func128.trans (congrArg some (by kernel_rfl))
 f301:=func129.trans (congrArg some (by kernel_rfl))
 f328:=func176.trans (congrArg some (by kernel_rfl))
 f329:=func177.trans (congrArg some (by kernel_rfl))
 f330:=func178.trans (congrArg some (by kernel_rfl))
 f331:=func179.trans (congrArg some (by kernel_rfl))
 f332:=func180.trans (congrArg some (by kernel_rfl))
 f343:=func237.trans (congrArg some (by kernel_rfl))
 t0:=underlying0
 a0:=isAgg0
 z0:=sizeOf0
 v0:=zeroValue0
 t3:=underlying3
 a3:=isAgg3
 z3:=sizeOf3
 v3:=zeroValue3
 t4:=underlying4
 a4:=isAgg4
 z4:=sizeOf4
 v4:=zeroValue4
 t5:=underlying5
 a5:=isAgg5
 z5:=sizeOf5
 v5:=zeroValue5
 t9:=underlying9
 a9:=isAgg9
 z9:=sizeOf9
 v9:=zeroValue9
 t28:=underlying37
 a28:=isAgg37
 z28:=sizeOf37
 v28:=zeroValue37
 t46:=underlying136
 a46:=isAgg136
 z46:=sizeOf136
 v46:=zeroValue136
 t51:=underlying182
 a51:=isAgg182
 z51:=sizeOf182
 v51:=zeroValue182
 t53:=underlying184
 a53:=isAgg184
 z53:=sizeOf184
 v53:=zeroValue184
 t131:=underlying147
 a131:=isAgg147
 z131:=sizeOf147
 v131:=zeroValue147
 t182:=underlying174
 a182:=isAgg174
 z182:=sizeOf174
 v182:=zeroValue174
 t183:=underlying175
 a183:=isAgg175
 z183:=sizeOf175
 v183:=zeroValue175
 t218:=underlying222
 a218:=isAgg222
 z218:=sizeOf222
 v218:=zeroValue222
 t222:=underlying226
 a222:=isAgg226
 z222:=sizeOf226
 v222:=zeroValue226
 t228:=underlying263
 a228:=isAgg263
 z228:=sizeOf263
 v228:=zeroValue263
 t229:=underlying264
 a229:=isAgg264
 z229:=sizeOf264
 v229:=zeroValue264
def Quw : prog.underlying 206=some (.slice 5):=by kernel_rfl
def QxP : prog.underlying 218=some (.slice 37):=by kernel_rfl
def QyC : prog.underlying 37=some (.slice 3):=by kernel_rfl
def QyD : prog.underlying 44=some (.slice 70):=by kernel_rfl
def QyE : prog.underlying 70=some (.slice 74):=by kernel_rfl
def Pa : IY prog 3 ((V.i .i64) 0):=IY.one (v:=.int .i64 0) (by kernel_rfl)
def QwQ : IY prog 37 ((λx=>V.sl 1 (x.map Qb)) ([]:(L_ Int))):=IY.sl (by kernel_rfl)
def QvV : IY prog 4 (V.b false):=IY.one (v:=.bool false) (by kernel_rfl)
def Qzh : Yc prog 3=some [.i .i64 0]:=by kernel_rfl
def Qzi : Yc prog 5=some [.i .u8 0]:=by kernel_rfl
def Qzj : Yc prog 9=some [.s (⟨#[]⟩:ByteArray)]:=by kernel_rfl
def QyF : Yc prog 26=some [.Y,.Y,.Y,.i .i64 0,.i .i64 0]:=by kernel_rfl
def QyG : Yc prog 29=some [.Y]:=by kernel_rfl
def QyH : Yc prog 31=some [.i .i64 0,.i .i64 0,.i .i64 0,.Y]:=by kernel_rfl
def QwR : Yc prog 37=some [.Y]:=by kernel_rfl
def QyI : Yc prog 41=some [.Y,.Y,.b false]:=by kernel_rfl
def QyJ : Yc prog 44=some [.Y]:=by kernel_rfl
def QyK : Yc prog 49=some [.i .i64 0]:=by kernel_rfl
def QyL : Yc prog 53=some [.i .i64 0,.Y,.Y,.Y]:=by kernel_rfl
def QyM : Yc prog 55=some [.i .i64 0,.i .i64 0,.i .i64 0,.Y,.Y,.Y]:=by kernel_rfl
def QyN : Yc prog 70=some [.Y]:=by kernel_rfl
def QyO : Yc prog 72=some [.s (⟨#[]⟩:ByteArray),.i .i64 0,.Y]:=by kernel_rfl
def QyP : Yc prog 74=some [.i .i64 0,.i .i64 0]:=by kernel_rfl
def QyQ : Yc prog 87=some [.i .i64 0,.i .i64 0,.Y]:=by kernel_rfl
def QyR : Yc prog 90=some [.s (⟨#[]⟩:ByteArray),.i .i64 0,.i .i64 0,.i .i64 0,.Y,.i .i64 0,.i .i64 0]:=by kernel_rfl
def QyS : Yc prog 92=some [.i .i64 0,.i .i64 0,.i .i64 0,.Y]:=by kernel_rfl
def QyT : Yc prog 95=some [.i .i64 0,.i .i64 0,.i .i64 0]:=by kernel_rfl
def QwS : Yc prog 97=some [.s (⟨#[]⟩:ByteArray),.Y,.i .i64 0,.i .i64 0,.Y,.i .i64 0,.i .i64 0,.Y,.Y,.Y,.i .i64 0,.i .i64 0,.i .i64 0,.i .i64 0]:=by kernel_rfl
def QyU : Yc prog 99=some [.Y,.Y,.Y,.i .i64 0,.i .i64 0,.Y,.Y,.b false]:=by kernel_rfl
def QxQ : Yc prog 103=some [.s (⟨#[]⟩:ByteArray),.i .i64 0]:=by kernel_rfl
def Qux : Yc prog 106=some [.lit (.nilFunc)]:=by kernel_rfl
def QxR : Yc prog 115=some [.Y,.Y,.Y,.i .i64 0,.i .i64 0,.i .i64 0,.lit (.map none),.Y,.Y,.b false]:=by kernel_rfl
def QxS : Yc prog 117=some [.lit (.map none)]:=by kernel_rfl
def QxT : Yc prog 140=some [.i .i64 0,.i .i64 0]:=by kernel_rfl
def QxU : Yc prog 156=some [.Y]:=by kernel_rfl
def QxV : Yc prog 160=some [.i .i64 0,.i .i64 0]:=by kernel_rfl
def QxW : Yc prog 163=some [.Y,.Y,.Y,.i .i64 0,.i .i64 0,.Y,.s (⟨#[]⟩:ByteArray),.Y,.i .i64 0,.i .i64 0,.Y,.i .i64 0,.i .i64 0,.Y,.Y,.Y,.i .i64 0,.i .i64 0,.i .i64 0,.i .i64 0,.Y]:=by kernel_rfl
def ZZ : Yc prog 188=some [.lit (.nilFunc),.i .i64 0]:=by kernel_rfl
def QxX : Yc prog 218=some [.Y]:=by kernel_rfl
def QxY : Yc prog 234=some [.lit (.nilFunc)]:=by kernel_rfl
def QxZ : Yc prog 239=some [.lit (.nilFunc)]:=by kernel_rfl
def Qx0 : Yc prog 248=some [.Y,.Y,.i .i64 0]:=by kernel_rfl
def Qx1 : Yc prog 273=some [.lit (.nilFunc)]:=by kernel_rfl
def Uo : UI:={ ag:=[(3,false),(4,false),(9,false),(22,false),(23,false),(24,false),(26,true),(27,false),(29,false),(31,true),(37,false),(38,false),(39,false),(41,true),(44,false),(49,false),(53,true),(55,true),(70,false),(72,true),(74,true),(85,false),(87,true),(88,false),(90,true),(92,true),(93,false),(94,false),(95,true),(97,true),(99,true),(103,true),(106,false),(113,false),(117,false),(118,false),(140,true),(156,false),(160,true),(163,true),(166,false),(188,true),(218,false),(234,false),(239,false),(242,false),(248,true),(273,false)],sz:=[(3,1),(4,1),(24,1),(26,5),(29,1),(31,4),(37,1),(38,1),(39,1),(41,3),(44,1),(49,1),(53,4),(55,6),(70,1),(72,3),(74,2),(87,3),(90,7),(92,4),(93,1),(95,3),(97,14),(99,8),(103,2),(117,1),(140,2),(156,1),(160,2),(163,21),(188,2),(218,1),(234,1),(239,1),(248,3),(273,1)],fo:=[(26,[0,1,2,3,4]),(31,[0,1,2,3]),(41,[0,1,2]),(53,[0,1,2,3]),(55,[0,1,2]),(72,[0,1,2]),(87,[0,1,2]),(90,[0,1,2,3,4,5,6]),(92,[0,1]),(97,[0,1,2,5,6,7,8,9,10,11]),(99,[0,5]),(103,[0,1]),(115,[0,5,6,7]),(160,[0,1]),(163,[0,5,6,20]),(188,[0,1]),(248,[0,1,2])],sp:=[(26,[(0,1),(1,1),(2,1),(3,1),(4,1)]),(31,[(0,1),(1,1),(2,1),(3,1)]),(41,[(0,1),(1,1),(2,1)]),(53,[(0,1),(1,1),(2,1),(3,1)]),(55,[(0,1),(1,1),(2,4)]),(72,[(0,1),(1,1),(2,1)]),(87,[(0,1),(1,1),(2,1)]),(90,[(0,1),(1,1),(2,1),(3,1),(4,1),(5,1),(6,1)]),(92,[(0,1),(1,3)]),(97,[(0,1),(1,1),(2,3),(5,1),(6,1),(7,1),(8,1),(9,1),(10,1),(11,3)]),(99,[(0,5),(5,3)]),(115,[(0,5),(5,1),(6,1),(7,3)]),(140,[(0,1),(1,1)]),(160,[(0,1),(1,1)]),(163,[(0,5),(5,1),(6,14),(20,1)]),(188,[(0,1),(1,1)]),(248,[(0,1),(1,1),(2,1)])],es:=[(22,(90,7,80)),(23,(72,3,48)),(24,(97,14,200)),(29,(53,4,80)),(37,(3,1,8)),(38,(44,1,24)),(39,(55,6,96)),(44,(70,1,24)),(70,(74,2,16)),(85,(87,3,40)),(88,(9,1,16)),(93,(92,4,48)),(94,(103,2,24)),(107,(106,1,8)),(156,(160,2,16)),(206,(5,1,1)),(218,(37,1,24)),(228,(188,2,16)),(259,(3,1,8))],ar:=[(74,(2,1)),(95,(3,1))],zv:=[(3,[.i .i64 0]),(5,[.i .u8 0]),(9,[.s (⟨#[]⟩:ByteArray)]),(26,[.Y,.Y,.Y,.i .i64 0,.i .i64 0]),(29,[.Y]),(31,[.i .i64 0,.i .i64 0,.i .i64 0,.Y]),(37,[.Y]),(41,[.Y,.Y,.b false]),(44,[.Y]),(49,[.i .i64 0]),(53,[.i .i64 0,.Y,.Y,.Y]),(55,[.i .i64 0,.i .i64 0,.i .i64 0,.Y,.Y,.Y]),(70,[.Y]),(72,[.s (⟨#[]⟩:ByteArray),.i .i64 0,.Y]),(74,[.i .i64 0,.i .i64 0]),(87,[.i .i64 0,.i .i64 0,.Y]),(90,[.s (⟨#[]⟩:ByteArray),.i .i64 0,.i .i64 0,.i .i64 0,.Y,.i .i64 0,.i .i64 0]),(92,[.i .i64 0,.i .i64 0,.i .i64 0,.Y]),(95,[.i .i64 0,.i .i64 0,.i .i64 0]),(97,[.s (⟨#[]⟩:ByteArray),.Y,.i .i64 0,.i .i64 0,.Y,.i .i64 0,.i .i64 0,.Y,.Y,.Y,.i .i64 0,.i .i64 0,.i .i64 0,.i .i64 0]),(99,[.Y,.Y,.Y,.i .i64 0,.i .i64 0,.Y,.Y,.b false]),(103,[.s (⟨#[]⟩:ByteArray),.i .i64 0]),(106,[.lit (.nilFunc)]),(115,[.Y,.Y,.Y,.i .i64 0,.i .i64 0,.i .i64 0,.lit (.map none),.Y,.Y,.b false]),(117,[.lit (.map none)]),(140,[.i .i64 0,.i .i64 0]),(156,[.Y]),(160,[.i .i64 0,.i .i64 0]),(163,[.Y,.Y,.Y,.i .i64 0,.i .i64 0,.Y,.s (⟨#[]⟩:ByteArray),.Y,.i .i64 0,.i .i64 0,.Y,.i .i64 0,.i .i64 0,.Y,.Y,.Y,.i .i64 0,.i .i64 0,.i .i64 0,.i .i64 0,.Y]),(188,[.lit (.nilFunc),.i .i64 0]),(218,[.Y]),(234,[.lit (.nilFunc)]),(239,[.lit (.nilFunc)]),(248,[.Y,.Y,.i .i64 0]),(273,[.lit (.nilFunc)])],sb:=[9],bo:=[4],cc:=[158,160],en:=[6,7,8,9,10,11,12,13,15,16,18,19,20,21,22,23,24,25,26,27,28,29,30,31,32,33,34,35,38,39,41,42,43,44,45,46,47,48,49,50,51,52,53,54,55,56,57,58,59,60,61,62,63,64,65,67,68,69,70,73,74,75,76,77,78,81,82,83,84,85,86,87,88,89,90,91,92,93,94,95,96,97,98,99,100,101,102,103,104,105,106,107,108,110,111,112,113,114,115,116,117,118,119,120,132,133,134,135,136,137,138,139,140,141,142,143,144,145,146,147,148,149,150,151,152,153,154,155,156,157,158,159,160,161,162,163,164,165,166,167,168,169,170,171,172,173,174,175,182,183,184,185,186,187,188,189,190,191,192,193,194,195,196,197,198,199,200,201,202,203,204,205,206,207,208,209,210,211,212,213,214,215,216,217,218,219,220,221,222,223,224,225,226,227,228,229,230,231,232,233,234,235,236,238,239,240,241,242,243,244,245,246,247,248,249,250,251,252,253,254,255,256,257,258,259,260,261,262,263,264,265,266,267,268,269,270,271,272,273,274,275,276,277,278,279,280,281,282,283,284,285,286,287,288,289,290,291,292,293,294,295,296,297,298,299,300,301,302,303,304,305,306,307,308,309,310,311,312,313,314,315,316,317,318,319,322,323,324,325,326,327,328,329,330,331,332,333,335,336,356,357,358,359] }
def Xg : Gw prog Uo:=UI.ok (by kernel_rfl) (JA.2 ⟨Qzh,JA.2 ⟨Qzi,JA.2 ⟨Qzj,JA.2 ⟨QyF,JA.2 ⟨QyG,JA.2 ⟨QyH,JA.2 ⟨QwR,JA.2 ⟨QyI,JA.2 ⟨QyJ,JA.2 ⟨QyK,JA.2 ⟨QyL,JA.2 ⟨QyM,JA.2 ⟨QyN,JA.2 ⟨QyO,JA.2 ⟨QyP,JA.2 ⟨QyQ,JA.2 ⟨QyR,JA.2 ⟨QyS,JA.2 ⟨QyT,JA.2 ⟨QwS,JA.2 ⟨QyU,JA.2 ⟨QxQ,JA.2 ⟨Qux,JA.2 ⟨QxR,JA.2 ⟨QxS,JA.2 ⟨QxT,JA.2 ⟨QxU,JA.2 ⟨QxV,JA.2 ⟨QxW,JA.2 ⟨ZZ,JA.2 ⟨QxX,JA.2 ⟨QxY,JA.2 ⟨QxZ,JA.2 ⟨Qx0,JA.2 ⟨Qx1,λ_ h=>(by cases h)⟩⟩⟩⟩⟩⟩⟩⟩⟩⟩⟩⟩⟩⟩⟩⟩⟩⟩⟩⟩⟩⟩⟩⟩⟩⟩⟩⟩⟩⟩⟩⟩⟩⟩⟩)
def Jn {C:Xr}{Q:Exit->St->Prop}{n:Nat}{pt pt1:Pt}{ks ks1:L_ Fr}{σ σ1:St}{φ:Prop}(hC:JF prog C n)(O:L_ Fw)(e:Vm.go prog C Uo n O pt ks σ True=some ⟨pt1,ks1,σ1,φ⟩)(hφ:φ)(h:AK prog C Q pt1 ks1 σ1):AK prog C Q pt ks σ:=AK.go Xg hC O e hφ h
abbrev QBg := L_ (Int×Int)
abbrev QMk := L_ QBg
abbrev LI_ := L_ Int
abbrev QLL := L_ (L_ Int)
abbrev QSB := L_ (ByteArray×Bool)
def U : True:=trivial
def an_ {a b:Prop}(x:a)(y:b):a/\b:=⟨x,y⟩
def ex_ {α:Sort _}{p:α->Prop}(w:α)(h:p w):∃x,p x:=⟨w,h⟩
end Go.Proofs
namespace Go.Vm
open Go Go.RowKit
noncomputable abbrev Fw.K (a b:L_ Nat):Fw:=.keep a b
noncomputable abbrev Fw.S (a:Nat)(b:V):Fw:=.say a b
noncomputable abbrev Fw.O (a:Nat)(b:Ob):Fw:=.sayO a b
noncomputable abbrev Fw.T:Fw:=.br true
noncomputable abbrev Fw.F:Fw:=.br false
noncomputable abbrev Dw.N:Dw:=.a .no none false
noncomputable abbrev Dw.B (h:Db):Dw:=.a h none false
noncomputable abbrev Dw.E (v:V):Dw:=.a .no (some ([],v)) false
noncomputable abbrev V.I (n:Int):V:=.i .i64 n
noncomputable abbrev V.L (n:Nat):V:=.loc n 0 0
noncomputable abbrev Fw.A (x:L_ V):Fw:=.v .no [] (.agg x)
noncomputable instance dn_ (n:Nat):OfNat Fw n:=⟨.n n⟩
noncomputable abbrev Db.C1 (v:V):Db:=.c false [.d] v
noncomputable abbrev Db.C2 (v:V):Db:=.c false [.d,.d] v
noncomputable abbrev Db.C3 (v:V):Db:=.c false [.d,.d,.d] v
noncomputable abbrev Db.C4 (v:V):Db:=.c false [.d,.d,.d,.d] v
end Go.Vm
namespace Go.Proofs
open Go Go.RowKit Go.Vm Go.Proofs.Tryz
def bg_ {α:Type}{c:Bool}{x y:O_ α}{r:α}{G:Prop}(h:(bif c then x else y)=some r)(f:c=true->x=some r->G)(g:c=false->y=some r->G):G:=by
 cases c
 ·exact g rfl h
 exact f rfl h
noncomputable abbrev lk_ (n:Nat):Nat×V:=(n,.loc n 0 0)
def a1_ {h:Prop}(O:h):True/\h:=⟨trivial,O⟩
def a2_ {h O:Prop}(h0:h)(h1:O):(True/\h)/\O:=⟨⟨trivial,h0⟩,h1⟩
def a3_ {h O x2:Prop}(h0:h)(h1:O)(h2:x2):((True/\h)/\O)/\x2:=⟨⟨⟨trivial,h0⟩,h1⟩,h2⟩
def a4_ {h O x2 x3:Prop}(h0:h)(h1:O)(h2:x2)(h3:x3):(((True/\h)/\O)/\x2)/\x3:=⟨⟨⟨⟨trivial,h0⟩,h1⟩,h2⟩,h3⟩
def a5_ {h O x2 x3 x4:Prop}(h0:h)(h1:O)(h2:x2)(h3:x3)(h4:x4):((((True/\h)/\O)/\x2)/\x3)/\x4:=⟨⟨⟨⟨⟨trivial,h0⟩,h1⟩,h2⟩,h3⟩,h4⟩
def a6_ {h O x2 x3 x4 x5:Prop}(h0:h)(h1:O)(h2:x2)(h3:x3)(h4:x4)(h5:x5):(((((True/\h)/\O)/\x2)/\x3)/\x4)/\x5:=⟨⟨⟨⟨⟨⟨trivial,h0⟩,h1⟩,h2⟩,h3⟩,h4⟩,h5⟩
def a7_ {h O x2 x3 x4 x5 x6:Prop}(h0:h)(h1:O)(h2:x2)(h3:x3)(h4:x4)(h5:x5)(h6:x6):((((((True/\h)/\O)/\x2)/\x3)/\x4)/\x5)/\x6:=⟨⟨⟨⟨⟨⟨⟨trivial,h0⟩,h1⟩,h2⟩,h3⟩,h4⟩,h5⟩,h6⟩
def a8_ {h O x2 x3 x4 x5 x6 x7:Prop}(h0:h)(h1:O)(h2:x2)(h3:x3)(h4:x4)(h5:x5)(h6:x6)(h7:x7):(((((((True/\h)/\O)/\x2)/\x3)/\x4)/\x5)/\x6)/\x7:=⟨⟨⟨⟨⟨⟨⟨⟨trivial,h0⟩,h1⟩,h2⟩,h3⟩,h4⟩,h5⟩,h6⟩,h7⟩
def a9_ {h O x2 x3 x4 x5 x6 x7 x8:Prop}(h0:h)(h1:O)(h2:x2)(h3:x3)(h4:x4)(h5:x5)(h6:x6)(h7:x7)(h8:x8):((((((((True/\h)/\O)/\x2)/\x3)/\x4)/\x5)/\x6)/\x7)/\x8:=⟨⟨⟨⟨⟨⟨⟨⟨⟨trivial,h0⟩,h1⟩,h2⟩,h3⟩,h4⟩,h5⟩,h6⟩,h7⟩,h8⟩
def aA_ {h O x2 x3 x4 x5 x6 x7 x8 x9:Prop}(h0:h)(h1:O)(h2:x2)(h3:x3)(h4:x4)(h5:x5)(h6:x6)(h7:x7)(h8:x8)(h9:x9):(((((((((True/\h)/\O)/\x2)/\x3)/\x4)/\x5)/\x6)/\x7)/\x8)/\x9:=⟨⟨⟨⟨⟨⟨⟨⟨⟨⟨trivial,h0⟩,h1⟩,h2⟩,h3⟩,h4⟩,h5⟩,h6⟩,h7⟩,h8⟩,h9⟩
def aB_ {x0 x1 x2 x3 x4 x5 x6 x7 x8 x9 h:Prop}(h0:x0)(h1:x1)(h2:x2)(h3:x3)(h4:x4)(h5:x5)(h6:x6)(h7:x7)(h8:x8)(h9:x9)(O:h):((((((((((True/\x0)/\x1)/\x2)/\x3)/\x4)/\x5)/\x6)/\x7)/\x8)/\x9)/\h:=⟨⟨⟨⟨⟨⟨⟨⟨⟨⟨⟨trivial,h0⟩,h1⟩,h2⟩,h3⟩,h4⟩,h5⟩,h6⟩,h7⟩,h8⟩,h9⟩,O⟩
def r1_ {α:Type}{a0:α}:a0=a0/\True:=⟨rfl,trivial⟩
def r2_ {α:Type}{a0 h:α}:a0=a0/\h=h/\True:=⟨rfl,rfl,trivial⟩
def r3_ {α:Type}{a0 h O:α}:a0=a0/\h=h/\O=O/\True:=⟨rfl,rfl,rfl,trivial⟩
def r4_ {α:Type}{a0 h O a3:α}:a0=a0/\h=h/\O=O/\a3=a3/\True:=⟨rfl,rfl,rfl,rfl,trivial⟩
def r5_ {α:Type}{a0 h O a3 a4:α}:a0=a0/\h=h/\O=O/\a3=a3/\a4=a4/\True:=⟨rfl,rfl,rfl,rfl,rfl,trivial⟩
def rB_ {α:Type}{a0 O a2 a3 a4 a5 a6 a7 a8 a9 h:α}:a0=a0/\O=O/\a2=a2/\a3=a3/\a4=a4/\a5=a5/\a6=a6/\a7=a7/\a8=a8/\a9=a9/\h=h/\True:=⟨rfl,rfl,rfl,rfl,rfl,rfl,rfl,rfl,rfl,rfl,rfl,trivial⟩
def wk_ {f:FuncId}{fn:Func}{c:Code}{args:L_ V}{hs:H_}{O:V->H_->Prop}(n:Nat)(hf:prog.funcs[f]? = some fn)(h:∀C:Xr,JF prog C n->AK prog C (Qek prog fn.results.toList O) (.c c) [] ⟨OV 0 args,hs⟩)(hb:fn.body=some c:=by rfl)(hn:fn.ntmps=n:=by rfl)(hle:(Nat.ble args.length n&&Nat.ble n 621)=true:=by rfl):QN prog f args hs O:=QN.walk n hf hb hn hle h
def mt_ {C:Xr}{Q:Exit->St->Prop}{ks:L_ Fr}{σ:St}:AK prog C Q (.x .normal) (.cut (λs=>s=σ)::ks) σ:=AK.met rfl
def cb_ {a b:Bool}(h:a=b):V.b a=V.b b:=congrArg V.b h
def tc_ {a b:Bool}(h:a=b):True/\V.b a=V.b b:=⟨trivial,congrArg V.b h⟩
def QvW : Exit->Bool
 | .normal=>true
 | .ret=>true
 | _=>false
def tg_ {C:Xr}{Q:Exit->St->Prop}{n:Nat}{pt pt1:Pt}{ks ks1:L_ Fr}{σ σ1:St}(hC:JF prog C n)(O:L_ Fw)(h:AK prog C Q pt1 ks1 σ1)(e:Vm.go prog C Uo n O pt ks σ True=some ⟨pt1,ks1,σ1,True⟩:=by rfl):AK prog C Q pt ks σ:=AK.go Xg hC O e trivial h
def Qzk {c:Bool}{β:Type}{f:Unit->O_ β}{r:β}(h:(chk c).bind f=some r):c=true/\f ()=some r:=by
 obtain⟨_,k,h⟩:=QU h;exact⟨Qn5 k,h⟩
def Z {α:Sort _}{a:α}:a=a:=rfl
def bE_ {α β:Type}{a:O_ α}{k:α->O_ β}{r:β}{G:Prop}(h:a.bind k=some r)(f:∀x,a=some x->k x=some r->G):G:=by
 obtain⟨x,O,h2⟩:=QU h;exact f x O h2
def cB_ {c:Bool}{β:Type}{k:Unit->O_ β}{r:β}{G:Prop}(h:(chk c).bind k=some r)(f:c=true->k ()=some r->G):G:=by
 obtain⟨_,O,h2⟩:=QU h;exact f (Qn5 O) h2
def bf_ {α:Type}{c:Bool}{x y:O_ α}{r:α}{G:Prop}(h:(bif c then x else y)=some r)(f:c=true->x=some r->G)(g:c=false->y=some r->G):G:=by
 cases c
 ·exact g rfl h
 exact f rfl h
def OU (σ s:St):O_ St:=match XA σ.fr (s.fr.map Prod.fst)with
 | some a=>match XA σ.hp (s.hp.map Prod.fst)with
  | some b=>bif St.closed ⟨a,b⟩then some ⟨a,b⟩else none
  | none=>none
 | none=>none
def LH {P:Program}{C:Xr}{Q:Exit->St->Prop}{pt:Pt}{ks:L_ Fr}{σ s:St}(e:OU σ s=some s)(k:AK P C Q pt ks s):AK P C Q pt ks σ:=by
 unfold OU at e;split at e
 ·rename_i a ha;split at e
  ·rename_i b hb;replace e:=Yd e;obtain⟨hc,e⟩:=e;cases e;exact AK.weaken (λh w O=>R.to O (QqW (RL ha)) (Qkb (RL hb)) hc) k
  cases e
 cases e
def rS {τ ρ:Type}(E:τ->St)(X:ρ->Exit×St)(o:τ⊕ρ):Exit->St->Prop:=QqL (λt s=>s=E t) (λq e s=>e=(X q).1/\s=(X q).2) o
def cS {β:Type}(E:β->St)(v:β)(s:St):Prop:=s=E v
def no_ {α:Type}(_:α):H_:=[]
def CP {α:Type}(f:Nat)(us:L_ V)(O:H_)(o:O_ α)(h:α->V->H_->Prop):Prop:=∀r,o=some r->QN prog f us O (h r)
def CT {α:Type}(f:Nat)(us:L_ V)(h:H_)(o:O_ α)(V:α->V)(O:α->H_):Prop:=CP f us h o λr=>Gives (V r) (O r)
def QvX {α:Type}(O:L_ ResultVar)(h:α->V->H_->Prop)(r:α):Exit->St->Prop:=Qek prog O (h r)
def AF {α:Type}(C:Xr)(n:Nat)(o:O_ α)(r:α)(Q:Exit->St->Prop)(pt:Pt)(ks:L_ Fr)(σ:St):Prop:=JF prog C n->o=some r->AK prog C Q pt ks σ
def pl_ (C:Xr)(n k:Nat)(pt:Pt)(ks:L_ Fr)(σ:St):O_ Cfg:=plain prog C Uo n k pt ks σ True
def YF {C:Xr}{n k:Nat}{pt pt1:Pt}{ks ks1:L_ Fr}{σ σ1:St}{φ:Prop}{Q:Exit->St->Prop}(O:JF prog C n)(e:pl_ C n k pt ks σ=some ⟨pt1,ks1,σ1,φ⟩)(hφ:φ)(h:AK prog C Q pt1 ks1 σ1):AK prog C Q pt ks σ:=by
 refine AK.go Xg O [.n k] ?_ hφ h;unfold pl_ at e;simp only[Vm.go,e]
def brA (C:Xr)(n k:Nat)(pt:Pt)(ks:L_ Fr)(σ:St):O_ (Bool×L_ Fr×Pt×St×Pt×St×Prop):=match pl_ C n k pt ks σ with
 | some ⟨.c (.cond p x y),ks1,s,φ⟩=>match s.opd p with
  | some (.b c)=>some (c,ks1,.c x,s,.c y,s,φ)
  | _=>none
 | some ⟨.o ops (o::l),ks1,s,φ⟩=>match o.guard with
  | some (j,_)=>match ops[j]? with
   | some h=>match h.dst with
    | some d=>match Go.Vm.look s.fr d with
     | some (.b c)=>some (c,ks1,.o ops (o::l),s.put d (.b true),.o ops (o::l),s.put d (.b false),φ)
     | _=>none
    | none=>none
   | none=>none
  | none=>none
 | _=>none
def Qmk {C:Xr}{n k:Nat}{pt p q:Pt}{ks ks1:L_ Fr}{σ s t:St}{c:Bool}{Q:Exit->St->Prop}(hC:JF prog C n)(e:brA C n k pt ks σ=some (c,ks1,p,s,q,t,True))(f:c=true->AK prog C Q p ks1 s)(g:c=false->AK prog C Q q ks1 t):AK prog C Q pt ks σ:=by
 unfold brA at e;split at e
 ·rename_i p x y ks1 s φ hp;split at e
  ·rename_i c h;cases e;refine YF hC hp trivial ?_;cases c
   ·exact YC.cond_false h (g rfl)
   exact YC.cond_true h (f rfl)
  cases e
 ·rename_i ops o l ks1 s φ hp;split at e
  ·split at e
   ·split at e
    ·split at e
     ·rename_i d _ c h;cases e;refine YF hC hp trivial ?_;cases c
      ·exact AK.weaken (λa w O=>R.say ⟨_,h,rfl⟩ O) (g rfl)
      exact AK.weaken (λa w O=>R.say ⟨_,h,rfl⟩ O) (f rfl)
     cases e
    cases e
   cases e
  cases e
 cases e
def enA (C:Xr)(n k:Nat)(pt:Pt)(ks:L_ Fr)(σ s:St):O_ (Exit×L_ Fr×St×Prop):=match pl_ C n k pt ks σ with
 | some ⟨.x e,ks1,t,φ⟩=>match OU t s with
  | some h=>some (e,ks1,h,φ)
  | none=>none
 | _=>none
def Qs9 {C:Xr}{n k:Nat}{pt:Pt}{ks ks1:L_ Fr}{σ s:St}{x:Exit}{Q:Exit->St->Prop}(O:JF prog C n)(e:enA C n k pt ks σ s=some (x,ks1,s,True))(h:AK prog C Q (.x x) ks1 s):AK prog C Q pt ks σ:=by
 unfold enA at e;split at e
 ·rename_i hp;split at e
  ·rename_i hs;cases e;exact YF O hp trivial (LH hs h)
  cases e
 cases e
def enP {C:Xr}{n k:Nat}{pt p:Pt}{ks ks1:L_ Fr}{σ σ1 s:St}{Q:Exit->St->Prop}(O:JF prog C n)(e:(pl_ C n k pt ks σ,OU σ1 s)=(some ⟨p,ks1,σ1,True⟩,some s))(h:AK prog C Q p ks1 s):AK prog C Q pt ks σ:=YF O (congrArg Prod.fst e) trivial (LH (congrArg Prod.snd e) h)
def jn (d:S_×H_)(a:S_)(b:H_):St:=⟨d.1++a,d.2++b⟩
def wP_ {α:Type}{f:FuncId}{fn:Func}{c:Code}{args:L_ V}{hs:H_}{o:O_ α}{O:α->V->H_->Prop}(n:Nat)(hf:prog.funcs[f]? = some fn)(hb:(fn.body,fn.ntmps,Nat.ble args.length n&&Nat.ble n 621)=(some c,n,true))(h:∀{C:Xr} {r:α},AF C n o r (QvX fn.results.toList O r) (.c c) [] ⟨OV 0 args,hs⟩):CP f args hs o O:=λ_ e=>QN.walk n hf (congrArg (λx=>x.1) hb) (congrArg (λx=>x.2.1) hb) (congrArg (λx=>x.2.2) hb) λ_ hC=>h hC e
def W {α:Type}{f:FuncId}{fn:Func}{c:Code}{args:L_ V}{hs:H_}{o:O_ α}{V:α->V}{O:α->H_}(n:Nat)(hf:prog.funcs[f]? = some fn)(hb:(fn.body,fn.ntmps,Nat.ble args.length n&&Nat.ble n 621)=(some c,n,true))(h:∀{C:Xr} {r:α},AF C n o r (QvX fn.results.toList (λr=>Gives (V r) (O r)) r) (.c c) [] ⟨OV 0 args,hs⟩):CT f args hs o V O:=wP_ n hf hb h
section
variable {α β:Type}{C:Xr}{n:Nat}{Q:Exit->St->Prop}{r:α}{o:O_ α}{pt pt1:Pt}{ks ks1:L_ Fr}{σ σ1:St}{φ:Prop}
def gA_ (O:L_ Fw)(e:Vm.go prog C Uo n O pt ks σ True=some ⟨pt1,ks1,σ1,φ⟩)(hφ:φ)(h:AF C n o r Q pt1 ks1 σ1):AF C n o r Q pt ks σ:=λhC a=>AK.go Xg hC O e hφ (h hC a)
def K (ds:L_ Fw)(e:Vm.go prog C Uo n ds pt ks σ True=some ⟨pt1,ks1,σ1,φ⟩)(hφ:JF prog C n->φ)(h:AF C n o r Q pt1 ks1 σ1):AF C n o r Q pt ks σ:=λO a=>AK.go Xg O ds e (hφ O) (h O a)
def gT_ (O:L_ Fw)(e:Vm.go prog C Uo n O pt ks σ True=some ⟨pt1,ks1,σ1,True⟩)(h:AF C n o r Q pt1 ks1 σ1):AF C n o r Q pt ks σ:=gA_ O e trivial h
def G {x:Prop}(O:L_ Fw)(e:Vm.go prog C Uo n O pt ks σ True=some ⟨pt1,ks1,σ1,True/\x⟩)(a:x)(h:AF C n o r Q pt1 ks1 σ1):AF C n o r Q pt ks σ:=gA_ O e ⟨trivial,a⟩ h
def g2_ {x y:Prop}(O:L_ Fw)(e:Vm.go prog C Uo n O pt ks σ True=some ⟨pt1,ks1,σ1,(True/\x)/\y⟩)(a:x)(b:y)(h:AF C n o r Q pt1 ks1 σ1):AF C n o r Q pt ks σ:=gA_ O e ⟨⟨trivial,a⟩,b⟩ h
def g3_ {x y z:Prop}(O:L_ Fw)(e:Vm.go prog C Uo n O pt ks σ True=some ⟨pt1,ks1,σ1,((True/\x)/\y)/\z⟩)(a:x)(b:y)(c:z)(h:AF C n o r Q pt1 ks1 σ1):AF C n o r Q pt ks σ:=gA_ O e ⟨⟨⟨trivial,a⟩,b⟩,c⟩ h
def gP_ (k:Nat)(e:pl_ C n k pt ks σ=some ⟨pt1,ks1,σ1,True⟩)(h:AF C n o r Q pt1 ks1 σ1):AF C n o r Q pt ks σ:=λO a=>YF O e trivial (h O a)
def B {a:O_ β}{f:β->O_ α}(h:∀v,a=some v->AF C n (f v) r Q pt ks σ):AF C n (a.bind f) r Q pt ks σ:=λhC e=>bE_ e λx O h2=>h x O hC h2
def kA_ {c:Bool}{f:Unit->O_ α}(h:c=true->AF C n (f ()) r Q pt ks σ):AF C n ((chk c).bind f) r Q pt ks σ:=λhC e=>cB_ e λO h2=>h O hC h2
def I {c:Bool}{x y:O_ α}{p q:Pt}{s t:St}(k:Nat)(e:brA C n k pt ks σ=some (c,ks1,p,s,q,t,True))(f:AF C n x r Q p ks1 s)(g:AF C n y r Q q ks1 t):AF C n (bif c then x else y) r Q pt ks σ:=λO a=>bf_ a (λh b=>Qmk O e (λ_=>f O b) λu=>Bool.noConfusion (h.symm.trans u)) λh b=>Qmk O e (λu=>Bool.noConfusion (h.symm.trans u)) λ_=>g O b
def H {c:Bool}{p q:Pt}{s t:St}(k:Nat)(e:brA C n k pt ks σ=some (c,ks1,p,s,q,t,True))(f:c=true->AF C n o r Q p ks1 s)(g:c=false->AF C n o r Q q ks1 t):AF C n o r Q pt ks σ:=λO a=>Qmk O e (λh=>f h O a) λh=>g h O a
def J {row:β->L_ V}{l:L_ β}{j:Int}{f:β->O_ α}{σ1:β->St}(k:Nat)(e:(λd=>Vm.go prog C Uo n [.n k,.o (.row (row d))] pt ks σ True)=λd=>some ⟨pt1,ks1,σ1 d,True/\(0<=j/\(l.map row)[j.toNat]? = some (row d))⟩)(h:∀d,AF C n (f d) r Q pt1 ks1 (σ1 d)):AF C n ((idx l j).bind f) r Q pt ks σ:=λO a=>bE_ a λd h1 h2=>AK.go Xg O _ (congrFun e d) ⟨trivial,XY h1⟩ (h d O h2)
def N {row:β->L_ V}{l:L_ β}(k:Nat)(e:Vm.go prog C Uo n [.n k,.o (.ln l.length)] pt ks σ True=some ⟨pt1,ks1,σ1,True/\(l.map row).length=l.length⟩)(h:AF C n o r Q pt1 ks1 σ1):AF C n o r Q pt ks σ:=gA_ _ e ⟨trivial,Qq⟩ h
def xR_ {rw:L_ β->L_ (L_ V)}{row:β->L_ V}{l:L_ β}{j:Int}{f:β->O_ α}{σ1:β->St}(k:Nat)(p:∀{l:L_ β} {j:Int} {d:β},idx l j=some d->0<=j/\(rw l)[j.toNat]? = some (row d))(e:(λd=>Vm.go prog C Uo n [.n k,.o (.row (row d))] pt ks σ True)=λd=>some ⟨pt1,ks1,σ1 d,True/\(0<=j/\(rw l)[j.toNat]? = some (row d))⟩)(h:∀d,idx l j=some d->AF C n (f d) r Q pt1 ks1 (σ1 d)):AF C n ((idx l j).bind f) r Q pt ks σ:=λhC a=>bE_ a λd O h2=>AK.go Xg hC _ (congrFun e d) ⟨trivial,p O⟩ (h d O hC h2)
def nR_ {rw:L_ β->L_ (L_ V)}{l:L_ β}(k:Nat)(p:∀l,(rw l).length=l.length)(e:Vm.go prog C Uo n [.n k,.o (.ln l.length)] pt ks σ True=some ⟨pt1,ks1,σ1,True/\(rw l).length=l.length⟩)(h:AF C n o r Q pt1 ks1 σ1):AF C n o r Q pt ks σ:=gA_ _ e ⟨trivial,p _⟩ h
def dM_ : L_ V->L_ Vm.Mode
 | []=>[]
 | _::l=>.d::dM_ l
def A {a:O_ β}{f:β->O_ α}{fn:Nat}{us:L_ V}{W:β->V}{σ1:β->St}(k:Nat)(c:CT fn us [] a W no_)(e:(λv=>Vm.go prog C Uo n [.n k,.o (.c false (dM_ us) (W v))] pt ks σ True)=λv=>some ⟨pt1,ks1,σ1 v,True/\QN prog fn us [] (Gives (W v) [])⟩)(h:∀v,AF C n (f v) r Q pt1 ks1 (σ1 v)):AF C n (a.bind f) r Q pt ks σ:=λO b=>bE_ b λd h1 h2=>AK.go Xg O _ (congrFun e d) ⟨trivial,c _ h1⟩ (h d O h2)
def oC_ {a:O_ (L_ β)}{f:L_ β->O_ α}{fn:Nat}{us:L_ V}{z:Nat}{row:β->L_ V}{σ1:L_ β->St}(k:Nat)(ms:L_ Vm.Mode)(c:CT fn us [] a (λv=>.own 600 v.length) λv=>[(600,.arr z (v.map row))])(e:(λv=>Vm.go prog C Uo n [.n k,.o (.co false ms z (v.map row) v.length)] pt ks σ True)=λv=>some ⟨pt1,ks1,σ1 v,True/\(QN prog fn us [] (Gives (.own 600 v.length) [(600,.arr z (v.map row))])/\(v.map row).length=v.length/\(false=false\/∀r∈v.map row,∀v∈r,v.sca=true))⟩)(h:∀v,AF C n (f v) r Q pt1 ks1 (σ1 v)):AF C n (a.bind f) r Q pt ks σ:=λO b=>bE_ b λd h1 h2=>AK.go Xg O _ (congrFun e d) ⟨trivial,c _ h1,Qq,.inl rfl⟩ (h d O h2)
def zA_ {a:O_ β}{f:β->O_ α}{fn:Nat}{us:L_ V}{hs:H_}{W:β->V}{O:β->H_}{σ1:β->St}(k:Nat)(en:Ent)(M N:L_ (Nat×Nat))(dead:L_ Nat)(c:CT fn us hs a W O)(e:(λv=>Vm.go prog C Uo n [.n k,.cm en M N dead (dM_ us) (O v) (W v)] pt ks σ True)=λv=>some ⟨pt1,ks1,σ1 v,True/\QN prog fn us hs (Gives (W v) (O v))⟩)(h:∀v,AF C n (f v) r Q pt1 ks1 (σ1 v)):AF C n (a.bind f) r Q pt ks σ:=λhC b=>bE_ b λd h1 h2=>AK.go Xg hC _ (congrFun e d) ⟨trivial,c _ h1⟩ (h d hC h2)
def sw_ : L_ (Nat×Nat)->L_ (Nat×Nat)
 | []=>[]
 | (a,b)::l=>(b,a)::sw_ l
def S {a:O_ β}{f:β->O_ α}{fn:Nat}{us:L_ V}{hs:H_}{W:β->V}{O:β->H_}{σ1:β->St}(k:Nat)(en:Ent)(M:L_ (Nat×Nat))(c:CT fn us hs a W O)(e:(λv=>Vm.go prog C Uo n [.n k,.cm en M (sw_ M) [] (dM_ us) (O v) (W v)] pt ks σ True)=λv=>some ⟨pt1,ks1,σ1 v,True/\QN prog fn us hs (Gives (W v) (O v))⟩)(h:∀v,AF C n (f v) r Q pt1 ks1 (σ1 v)):AF C n (a.bind f) r Q pt ks σ:=zA_ k en M _ _ c e h
def M {v:α}{E:α->St}{O:L_ Fr}(k:Nat)(e:(pl_ C n k pt ks σ,OU σ1 (E v))=(some ⟨.x .normal,.cut (cS E r)::O,σ1,True⟩,some (E v))):AF C n (some v) r Q pt ks σ:=λhC h=>enP hC e (by cases h;exact mt_)
def tA_ {s0:St}{h:L_ Fr}(k:Nat)(e:(pl_ C n k pt ks σ,OU σ1 s0)=(some ⟨.x .normal,.cut (λs=>s=s0)::h,σ1,True⟩,some s0)):AF C n o r Q pt ks σ:=λO _=>enP O e (AK.met rfl)
def Y {s0:St}{O:L_ Fr}{b b':Bool}(k x:Nat)(e:(pl_ C n k pt ks σ,Go.Vm.look σ1.fr x,Go.Vm.look s0.fr x,OU (σ1.put x (.b b)) s0)=(some ⟨.x .normal,.cut (λs=>s=s0)::O,σ1,True⟩,some (.b b'),some (.b b),some s0))(h:b'=b):AF C n o r Q pt ks σ:=λhC _=>by
 simp only[Prod.mk.injEq]at e;obtain⟨e1,e2,-,e4⟩:=e;subst h;exact YF hC e1 trivial (AK.weaken (λa w hR=>R.say ⟨_,e2,rfl⟩ hR) (LH e4 (AK.met rfl)))
def P {E:β->St}{K:β->O_ α}{v:β}{O:L_ Fr}(k:Nat)(e:pl_ C n k pt ks σ=some ⟨.x .normal,.cut (λs=>∃v,s=E v/\K v=some r)::O,σ1,True⟩){o:O_ α}(a:(K v,OU σ1 (E v))=(o,some (E v))):AF C n o r Q pt ks σ:=λhC h=>YF hC e trivial (LH (congrArg Prod.snd a) (AK.met ⟨v,rfl,(congrArg Prod.fst a).trans h⟩))
def uA_ {s0:St}{O:L_ Fr}(k:Nat){o':O_ α}(e:pl_ C n k pt ks σ=some ⟨.x .normal,.cut (λs=>s=s0/\o'=some r)::O,σ1,True⟩)(a:(o',OU σ1 s0)=(o,some s0)):AF C n o r Q pt ks σ:=λhC h=>YF hC e trivial (LH (congrArg Prod.snd a) (AK.met ⟨rfl,(congrArg Prod.fst a).trans h⟩))
def fA_ {γ:Type}{E:β->γ->St}{K:β->γ->O_ α}{v:β}{u:γ}{O:L_ Fr}(k:Nat)(e:pl_ C n k pt ks σ=some ⟨.x .normal,.cut (λs=>∃v u,s=E v u/\K v u=some r)::O,σ1,True⟩){o:O_ α}(a:(K v u,OU σ1 (E v u))=(o,some (E v u))):AF C n o r Q pt ks σ:=λhC h=>YF hC e trivial (LH (congrArg Prod.snd a) (AK.met ⟨v,u,rfl,(congrArg Prod.fst a).trans h⟩))
def mV_ {a:O_ β}{f:β->O_ α}{c:Code}{fr:S_}{hp:H_}(k:Nat)(ts os:L_ Nat)(E:β->S_×H_)(e:(pl_ C n k pt ks σ,XA σ1.fr ts,XA σ1.hp os)=(some ⟨.c c,ks1,σ1,True⟩,some fr,some hp))(g:∀{x},AF C n a x Q (.c c) (.cut (cS (λx=>jn (E x) fr hp) x)::ks1) σ1)(h:∀x,AF C n (f x) r Q (.x .normal) ks1 (jn (E x) fr hp)):AF C n (a.bind f) r Q pt ks σ:=λO b=>bE_ b λx h1 h2=>YF O (congrArg Prod.fst e) trivial (AK.meetX _ (g O h1) λs (e:s=jn (E x) fr hp)=>e▸h x O h2)
def T {c:Code}{fr:S_}{hp:H_}(k:Nat)(ts os:L_ Nat)(s0:S_×H_)(e:(pl_ C n k pt ks σ,XA σ1.fr ts,XA σ1.hp os)=(some ⟨.c c,ks1,σ1,True⟩,some fr,some hp))(g:AF C n o r Q (.c c) (.cut (λs=>s=jn s0 fr hp)::ks1) σ1)(h:AF C n o r Q (.x .normal) ks1 (jn s0 fr hp)):AF C n o r Q pt ks σ:=λO b=>YF O (congrArg Prod.fst e) trivial (AK.meetX _ (g O b) λ_ e=>e▸h O b)
def mE_ {c d:Code}{fr:S_}{hp:H_}(k:Nat)(ts os:L_ Nat)(E:β->S_×H_)(K:β->O_ α)(e:(pl_ C n k pt ks σ,XA σ1.fr ts,XA σ1.hp os)=(some ⟨.c (.seq c d),ks1,σ1,True⟩,some fr,some hp))(g:AF C n o r Q (.c c) (.cut (λs=>∃v,s=jn (E v) fr hp/\K v=some r)::ks1) σ1)(h:∀x,AF C n (K x) r Q (.c d) ks1 (jn (E x) fr hp)):AF C n o r Q pt ks σ:=λO b=>YF O (congrArg Prod.fst e) trivial (AK.meet _ (g O b) λ_ ⟨v,e,a⟩=>e▸h v O a)
def mU_ {c d:Code}{fr:S_}{hp:H_}(k:Nat)(ts os:L_ Nat)(s0:S_×H_)(o':O_ α)(e:(pl_ C n k pt ks σ,XA σ1.fr ts,XA σ1.hp os)=(some ⟨.c (.seq c d),ks1,σ1,True⟩,some fr,some hp))(g:AF C n o r Q (.c c) (.cut (λs=>s=jn s0 fr hp/\o'=some r)::ks1) σ1)(h:AF C n o' r Q (.c d) ks1 (jn s0 fr hp)):AF C n o r Q pt ks σ:=λO b=>YF O (congrArg Prod.fst e) trivial (AK.meet _ (g O b) λ_ ⟨e,a⟩=>e▸h O a)
def mF_ {γ:Type}{c d:Code}{fr:S_}{hp:H_}(k:Nat)(ts os:L_ Nat)(E:β->γ->S_×H_)(K:β->γ->O_ α)(e:(pl_ C n k pt ks σ,XA σ1.fr ts,XA σ1.hp os)=(some ⟨.c (.seq c d),ks1,σ1,True⟩,some fr,some hp))(g:AF C n o r Q (.c c) (.cut (λs=>∃v u,s=jn (E v u) fr hp/\K v u=some r)::ks1) σ1)(h:∀x y,AF C n (K x y) r Q (.c d) ks1 (jn (E x y) fr hp)):AF C n o r Q pt ks σ:=λO b=>YF O (congrArg Prod.fst e) trivial (AK.meet _ (g O b) λ_ ⟨v,u,e,a⟩=>e▸h v u O a)
def lA_ {τ ρ:Type}{body:τ->O_ (τ⊕ρ)}{s0:τ}{f:ρ->O_ α}{c:Code}{fr:S_}{hp:H_}{fs:S_}{O:H_}(k:Nat)(ts os:L_ Nat)(E:τ->S_×H_)(us vs:L_ Nat)(X:ρ->Exit×S_×H_)(e:(pl_ C n k pt ks σ,XA σ1.fr ts,XA σ1.hp os,XA σ1.fr us,XA σ1.hp vs,OU σ1 (jn (E s0) fr hp))=(some ⟨.c (.loop c),ks1,σ1,True⟩,some fr,some hp,some fs,some O,some (jn (E s0) fr hp)))(g:∀t {o},AF C n (body t) o (rS (λt=>jn (E t) fr hp) (λq=>((X q).1,jn (X q).2 fs O)) o) (.c c) [] (jn (E t) fr hp))(h:∀q,AF C n (f q) r Q (.x (X q).1) ks1 (jn (X q).2 fs O)):AF C n ((Qh body s0).bind f) r Q pt ks σ:=λhC b=>bE_ b λq h1 h2=>YF hC (congrArg Prod.fst e) trivial (LH (congrArg (λx=>x.2.2.2.2.2) e) (AK.loop (λt s=>s=jn (E t) fr hp) (λq e s=>e=(X q).1/\s=jn (X q).2 fs O) h1 rfl (λt o s O hb=>O▸g t hC hb) λe s O=>by obtain⟨rfl,rfl⟩:=O;exact h q hC h2))
def F {τ ρ ρ':Type}{body:τ->O_ (τ⊕(ρ⊕ρ'))}{s0:τ}{f:ρ->O_ α}{f':ρ'->O_ α}{c:Code}{fr:S_}{hp:H_}{fs fu:S_}{O hu:H_}(k:Nat)(ts os:L_ Nat)(E:τ->S_×H_)(us vs:L_ Nat)(X:ρ->Exit×S_×H_)(xs ys:L_ Nat)(Y:ρ'->Exit×S_×H_)(e:(pl_ C n k pt ks σ,XA σ1.fr ts,XA σ1.hp os,XA σ1.fr us,XA σ1.hp vs,XA σ1.fr xs,XA σ1.hp ys,OU σ1 (jn (E s0) fr hp))=(some ⟨.c (.loop c),ks1,σ1,True⟩,some fr,some hp,some fs,some O,some fu,some hu,some (jn (E s0) fr hp)))(g:∀t {o},AF C n (body t) o (rS (λt=>jn (E t) fr hp) (Sum.elim (λq=>((X q).1,jn (X q).2 fs O)) λq=>((Y q).1,jn (Y q).2 fu hu)) o) (.c c) [] (jn (E t) fr hp))(h:∀q,AF C n (f q) r Q (.x (X q).1) ks1 (jn (X q).2 fs O))(h':∀q,AF C n (f' q) r Q (.x (Y q).1) ks1 (jn (Y q).2 fu hu)):AF C n ((Qh body s0).bind (Sum.elim f f')) r Q pt ks σ:=λhC b=>bE_ b λq h1 h2=>YF hC (congrArg Prod.fst e) trivial (LH (congrArg (λx=>x.2.2.2.2.2.2.2) e) (AK.loop (λt s=>s=jn (E t) fr hp) (λq e s=>e=(Sum.elim (λq=>((X q).1,jn (X q).2 fs O)) (λq=>((Y q).1,jn (Y q).2 fu hu)) q).1/\s=(Sum.elim (λq=>((X q).1,jn (X q).2 fs O)) (λq=>((Y q).1,jn (Y q).2 fu hu)) q).2) h1 rfl (λt o s O hb=>O▸g t hC hb) λe s O=>match q,O,h2 with
 | .inl q,O,h2=>by obtain⟨rfl,rfl⟩:=O;exact h q hC h2
 | .inr q,O,h2=>by obtain⟨rfl,rfl⟩:=O;exact h' q hC h2))
end
section
variable {C:Xr}{n:Nat}{pt:Pt}{ks:L_ Fr}{σ:St}{τ ρ:Type}{ee:τ->St}{xx:ρ->Exit×St}{o:τ⊕ρ}
def R {t:τ}(k:Nat)(e:enA C n k pt ks σ (ee t)=some (.normal,[],ee t,True)):AF C n (some (.inl t)) o (rS ee xx o) pt ks σ:=λO h=>Qs9 O e (by cases h;exact AK.done ⟨t,rfl,rfl⟩)
def X {q:ρ}{i:Nat}(k:Nat)(e:(enA C n k pt ks σ (xx q).2,(xx q).1)=(some (.exit i,[],(xx q).2,True),.exit i)):AF C n (some (.inr q)) o (rS ee xx o) pt ks σ:=λO h=>Qs9 O (congrArg Prod.fst e) (by cases h;exact AK.done ⟨q,rfl,(congrArg Prod.snd e).symm,rfl⟩)
def L {q:ρ}(k:Nat)(e:(enA C n k pt ks σ (xx q).2,(xx q).1)=(some (.ret,[],(xx q).2,True),.ret)):AF C n (some (.inr q)) o (rS ee xx o) pt ks σ:=λO h=>Qs9 O (congrArg Prod.fst e) (by cases h;exact AK.done ⟨q,rfl,(congrArg Prod.snd e).symm,rfl⟩)
end
def Qx2 (s:St):ResultVar->O_ V
 | .tmp t=>Go.Vm.look s.fr t
 | .cell p T=>match Go.Vm.look s.fr p with
  | some (.loc b 0 0)=>match Go.Vm.look s.hp b with
   | some (.var h)=>match Go.Vm.look Uo.ag T with
    | some true=>match Go.Vm.look Uo.sz T with
     | some k=>bif Nat.beq k h.length then some (.agg h)else none
     | none=>none
    | some false=>match h with
     | [v]=>some v
     | _=>none
    | none=>none
   | _=>none
  | _=>none
def Qta (s:St):L_ ResultVar->O_ (L_ V)
 | []=>some []
 | x::l=>match Qx2 s x with
  | some v=>match Qta s l with
   | some vs=>some (v::vs)
   | none=>none
  | none=>none
def Qx3 {s:St}:∀{l:L_ ResultVar} {vs:L_ V},Qta s l=some vs->Res prog s l vs:=by
 intro l
 induction l with
 | nil=>intro vs h;cases h;trivial
 | cons x l ih=>
  intro vs h;rw[Qta]at h;split at h
  ·rename_i v O;split at h
   ·rename_i us hu;cases h;cases x with
    | tmp t=>exact⟨O,ih hu⟩
    | cell p T=>
     refine⟨?_,ih hu⟩;dsimp only[Qx2]at O;split at O
     ·rename_i b h1;split at O
      ·rename_i cs h2;split at O
       ·rename_i h3;split at O
        ·rename_i k h4;replace O:=Yd O;cases O.2;exact⟨b,cs,h1,h2,.inl ⟨Xg.ag h3,(Xg.sz h4).trans (congrArg some (Yj O.1)),rfl⟩⟩
        cases O
       ·rename_i h3;split at O
        ·cases O;exact⟨b,_,h1,h2,.inr ⟨Xg.ag h3,rfl⟩⟩
        cases O
       cases O
      cases O
     cases O
   cases h
  cases h
section
variable {α:Type}{a q:α}{C:Xr}{n:Nat}{pt:Pt}{ks ks1:L_ Fr}{σ s:St}
def E {p:α->V->H_->Prop}{O:L_ ResultVar}{v:V}{vs:L_ V}{out:H_}{x:Exit}(k:Nat)(e:(pl_ C n k pt ks σ,QvW x,Qta s O,Qhn vs,p a,XA s.hp (keys out))=(some ⟨.x x,[],s,True⟩,true,some vs,v,Gives v out,some out)):AF C n (some a) q (QvX O p q) pt ks σ:=λhC h=>by
 simp only[Prod.mk.injEq]at e;obtain⟨e1,e2,e3,rfl,e5,e6⟩:=e;refine YF hC e1 trivial (AK.done ?_);cases h;have:p a (Qhn vs) s.hp:=e5▸gives (Qkb (RL e6));cases x<;>first | exact⟨vs,Qx3 e3,this⟩|cases e2
end
section
variable {α β γ δ ε ζ:Type}{C:Xr}{n:Nat}{r:α}{o:O_ α}{Q:Exit->St->Prop}{pt pt1:Pt}{ks ks1:L_ Fr}{σ σ1:St}
def Qat (O:JF prog C n)(h:o=some r)(t:AF C n o r Q pt ks σ):AK prog C Q pt ks σ:=t O h
def Qq0 (f:AK prog C Q pt1 ks1 σ1->AK prog C Q pt ks σ)(h:AF C n o r Q pt1 ks1 σ1):AF C n o r Q pt ks σ:=λO a=>f (h O a)
def pA_ {l y:L_ β}{f:Unit->O_ α}(k z:Nat)(row:β->L_ V)(e:Vm.go prog C Uo n [.n k,.v (.bd []) [] (.sl z (y.map row)),.app ((l++y).map row) (l++y).length] pt ks σ True=some ⟨pt1,ks1,σ1,(True/\V.sl z (y.map row)=.sl z (y.map row))/\((l.map row).length=l.length/\decide (l.length+(y.map row).length<=4294967296)=true/\l.map row++y.map row=(l++y).map row/\l.length+(y.map row).length=(l++y).length)⟩)(h:AF C n (f ()) r Q pt1 ks1 σ1):AF C n ((chk (l.length+y.length<=4294967296)).bind f) r Q pt ks σ:=λO a=>cB_ a λh1 h2=>AK.go Xg O _ e ⟨⟨trivial,rfl⟩,Qq,Af h1 Qq,Kz,UJ Qq⟩ (h O h2)
def pB_ {l y:L_ β}{f:Unit->O_ α}(k:Nat)(row:β->L_ V)(e:Vm.go prog C Uo n [.n k,.app ((l++y).map row) (l++y).length] pt ks σ True=some ⟨pt1,ks1,σ1,True/\((l.map row).length=l.length/\decide (l.length+(y.map row).length<=4294967296)=true/\l.map row++y.map row=(l++y).map row/\l.length+(y.map row).length=(l++y).length)⟩)(h:AF C n (f ()) r Q pt1 ks1 σ1):AF C n ((chk (l.length+y.length<=4294967296)).bind f) r Q pt ks σ:=λO a=>cB_ a λh1 h2=>AK.go Xg O _ e ⟨trivial,Qq,Af h1 Qq,Kz,UJ Qq⟩ (h O h2)
def aD_ (k t b z:Nat)(e:Vm.go prog C Uo n [.n k,.adopt t b z] pt ks σ True=some ⟨pt1,ks1,σ1,True⟩)(h:AF C n o r Q pt1 ks1 σ1):AF C n o r Q pt ks σ:=gT_ _ e h
def zF_ {row:β->L_ V}{l:L_ β}(k b:Nat)(O os:L_ Nat)(e:Vm.go prog C Uo n [.n k,.frz b (l.map row) O os] pt ks σ True=some ⟨pt1,ks1,σ1,True/\(True/\(l.length<=(l.map row).length/\(l.map row).take l.length=l.map row))⟩)(h:AF C n o r Q pt1 ks1 σ1):AF C n o r Q pt ks σ:=gA_ _ e ⟨trivial,trivial,Kj Qq⟩ h
def cV_ {γ:Type}{row:γ->L_ V}{l:L_ γ}{a:O_ β}{f:β->O_ α}{fn:Nat}{us:L_ V}{W:β->V}{σ1:β->St}(k:Nat)(ms:L_ Vm.Mode)(c:CT fn us [] a W no_)(e:(λv=>Vm.go prog C Uo n [.n k,.o (.c true ms (W v))] pt ks σ True)=λv=>some ⟨pt1,ks1,σ1 v,True/\((l.length<=(l.map row).length/\(l.map row).take l.length=l.map row)/\QN prog fn us [] (Gives (W v) []))⟩)(h:∀v,AF C n (f v) r Q pt1 ks1 (σ1 v)):AF C n (a.bind f) r Q pt ks σ:=λO b=>bE_ b λd h1 h2=>AK.go Xg O _ (congrFun e d) ⟨trivial,Qoa rfl,c _ h1⟩ (h d O h2)
def vI_ {φ:Prop}(k b d:Nat)(e:Vm.go prog C Uo n [.n k,.o (.any (.loc b 0 d) none)] pt ks σ True=some ⟨pt1,ks1,σ1,True/\φ⟩)(h:AF C n o r Q pt1 ks1 σ1)(p:JF prog C n->φ:=by exact λO σ h1 h2 _=>Stp.idxV rfl rfl (Xk O.n rfl) (h1 _ _ rfl) (h1 _ _ rfl) (Xg.es rfl) (h2 _ _ rfl) (by decide)):AF C n o r Q pt ks σ:=λO a=>AK.go Xg O _ e ⟨trivial,p O⟩ (h O a)
def zN_ {row:β->L_ V}{l:L_ β}{ops:Array Oper}{op:Oper}{rest:L_ Oper}{x y:Operand}{T U d z t:Nat}(k:Nat)(hT:prog.underlying T=some (.slice t))(o':O_ α)(e:(pl_ C n k pt ks σ,op.guard,op.op,op.dst,Nat.ble (d+1) n,σ1.opd x,σ1.opd y)=(some ⟨.o ops (op::rest),ks1,σ1,True⟩,none,.binOp .eql T x y U,some d,true,some (.sl z (l.map row)),some (.Y)))(h1:AF C n o' r Q (.o ops rest) ks1 (σ1.put d (.b true)))(h2:AF C n o r Q (.o ops rest) ks1 (σ1.put d (.b false)))(h0:l=[]->o=o':=by intro h;subst h;rfl):AF C n o r Q pt ks σ:=λO a=>by
 simp only[Prod.mk.injEq]at e;obtain⟨e1,e2,e3,e4,e5,e6,e7⟩:=e;exact YF O e1 trivial (AK.eqNil e2 e3 e4 (Xk O.n e5) e6 e7 hT (λh=>h1 O ((h0 (List.map_eq_nil_iff.1 h)).symm.trans a)) (h2 O a))
def QvY {γ1 γ2:Type}{c d:Code}{fr:S_}{hp:H_}(k:Nat)(ts os:L_ Nat)(E:β->γ1->γ2->S_×H_)(K:β->γ1->γ2->O_ α)(e:(pl_ C n k pt ks σ,XA σ1.fr ts,XA σ1.hp os)=(some ⟨.c (.seq c d),ks1,σ1,True⟩,some fr,some hp))(g:AF C n o r Q (.c c) (.cut (λs=>∃v0 O v2,s=jn (E v0 O v2) fr hp/\K v0 O v2=some r)::ks1) σ1)(h:∀v0 O v2,AF C n (K v0 O v2) r Q (.c d) ks1 (jn (E v0 O v2) fr hp)):AF C n o r Q pt ks σ:=λhC b=>YF hC (congrArg Prod.fst e) trivial (AK.meet _ (g hC b) λ_ ⟨v0,O,v2,e,a⟩=>e▸h v0 O v2 hC a)
def QhB {γ1 γ2:Type}{E:β->γ1->γ2->St}{K:β->γ1->γ2->O_ α}{v0:β}{O:γ1}{v2:γ2}{ks0:L_ Fr}(k:Nat)(e:pl_ C n k pt ks σ=some ⟨.x .normal,.cut (λs=>∃v0 O v2,s=E v0 O v2/\K v0 O v2=some r)::ks0,σ1,True⟩){o:O_ α}(a:(K v0 O v2,OU σ1 (E v0 O v2))=(o,some (E v0 O v2))):AF C n o r Q pt ks σ:=λhC h=>YF hC e trivial (LH (congrArg Prod.snd a) (AK.met ⟨v0,O,v2,rfl,(congrArg Prod.fst a).trans h⟩))
def Qtb {γ1 γ2 γ3 γ4 γ5 γ6 γ7 γ8 γ9:Type}{c d:Code}{fr:S_}{hp:H_}(k:Nat)(ts os:L_ Nat)(E:β->γ1->γ2->γ3->γ4->γ5->γ6->γ7->γ8->γ9->S_×H_)(K:β->γ1->γ2->γ3->γ4->γ5->γ6->γ7->γ8->γ9->O_ α)(e:(pl_ C n k pt ks σ,XA σ1.fr ts,XA σ1.hp os)=(some ⟨.c (.seq c d),ks1,σ1,True⟩,some fr,some hp))(g:AF C n o r Q (.c c) (.cut (λs=>∃v0 O v2 v3 v4 v5 v6 v7 v8 v9,s=jn (E v0 O v2 v3 v4 v5 v6 v7 v8 v9) fr hp/\K v0 O v2 v3 v4 v5 v6 v7 v8 v9=some r)::ks1) σ1)(h:∀v0 O v2 v3 v4 v5 v6 v7 v8 v9,AF C n (K v0 O v2 v3 v4 v5 v6 v7 v8 v9) r Q (.c d) ks1 (jn (E v0 O v2 v3 v4 v5 v6 v7 v8 v9) fr hp)):AF C n o r Q pt ks σ:=λhC b=>YF hC (congrArg Prod.fst e) trivial (AK.meet _ (g hC b) λ_ ⟨v0,O,v2,v3,v4,v5,v6,v7,v8,v9,e,a⟩=>e▸h v0 O v2 v3 v4 v5 v6 v7 v8 v9 hC a)
def QiM {γ1 γ2 γ3 γ4 γ5 γ6 γ7 γ8 γ9:Type}{E:β->γ1->γ2->γ3->γ4->γ5->γ6->γ7->γ8->γ9->St}{K:β->γ1->γ2->γ3->γ4->γ5->γ6->γ7->γ8->γ9->O_ α}{v0:β}{O:γ1}{v2:γ2}{v3:γ3}{v4:γ4}{v5:γ5}{v6:γ6}{v7:γ7}{v8:γ8}{v9:γ9}{ks0:L_ Fr}(k:Nat)(e:pl_ C n k pt ks σ=some ⟨.x .normal,.cut (λs=>∃v0 O v2 v3 v4 v5 v6 v7 v8 v9,s=E v0 O v2 v3 v4 v5 v6 v7 v8 v9/\K v0 O v2 v3 v4 v5 v6 v7 v8 v9=some r)::ks0,σ1,True⟩){o:O_ α}(a:(K v0 O v2 v3 v4 v5 v6 v7 v8 v9,OU σ1 (E v0 O v2 v3 v4 v5 v6 v7 v8 v9))=(o,some (E v0 O v2 v3 v4 v5 v6 v7 v8 v9))):AF C n o r Q pt ks σ:=λhC h=>YF hC e trivial (LH (congrArg Prod.snd a) (AK.met ⟨v0,O,v2,v3,v4,v5,v6,v7,v8,v9,rfl,(congrArg Prod.fst a).trans h⟩))
def jF_ {c:Bool}{x y:O_ α}(f:c=true->AF C n x r Q pt ks σ)(g:c=false->AF C n y r Q pt ks σ):AF C n (bif c then x else y) r Q pt ks σ:=λO a=>bf_ a (λh b=>f h O b) λh b=>g h O b
def s2_ {a:O_ (β⊕γ)}{f:β->O_ α}{g:γ->O_ α}(h1:∀v,a=some (.inl v)->AF C n (f v) r Q pt ks σ)(h2:∀v,a=some (.inr v)->AF C n (g v) r Q pt ks σ):AF C n (a.bind (Sum.elim f g)) r Q pt ks σ:=λO b=>bE_ b λx h a=>match x,h,a with
 | .inl v,h,a=>h1 v h O a
 | .inr v,h,a=>h2 v h O a
def s3_ {a:O_ (β⊕(γ⊕δ))}{f:β->O_ α}{g:γ->O_ α}{k:δ->O_ α}(O:∀v,a=some (.inl v)->AF C n (f v) r Q pt ks σ)(h2:∀v,a=some (.inr (.inl v))->AF C n (g v) r Q pt ks σ)(h3:∀v,a=some (.inr (.inr v))->AF C n (k v) r Q pt ks σ):AF C n (a.bind (Sum.elim f (Sum.elim g k))) r Q pt ks σ:=s2_ O λv h=>match v,h with
 | .inl v,h=>h2 v h
 | .inr v,h=>h3 v h
def s4_ {a:O_ (β⊕(γ⊕(δ⊕ε)))}{f:β->O_ α}{g:γ->O_ α}{k:δ->O_ α}{l:ε->O_ α}(O:∀v,a=some (.inl v)->AF C n (f v) r Q pt ks σ)(h2:∀v,a=some (.inr (.inl v))->AF C n (g v) r Q pt ks σ)(h3:∀v,a=some (.inr (.inr (.inl v)))->AF C n (k v) r Q pt ks σ)(h4:∀v,a=some (.inr (.inr (.inr v)))->AF C n (l v) r Q pt ks σ):AF C n (a.bind (Sum.elim f (Sum.elim g (Sum.elim k l)))) r Q pt ks σ:=s3_ O h2 λv h=>match v,h with
 | .inl v,h=>h3 v h
 | .inr v,h=>h4 v h
def s5_ {a:O_ (β⊕(γ⊕(δ⊕(ε⊕ζ))))}{f:β->O_ α}{g:γ->O_ α}{k:δ->O_ α}{l:ε->O_ α}{m:ζ->O_ α}(O:∀v,a=some (.inl v)->AF C n (f v) r Q pt ks σ)(h2:∀v,a=some (.inr (.inl v))->AF C n (g v) r Q pt ks σ)(h3:∀v,a=some (.inr (.inr (.inl v)))->AF C n (k v) r Q pt ks σ)(h4:∀v,a=some (.inr (.inr (.inr (.inl v))))->AF C n (l v) r Q pt ks σ)(h5:∀v,a=some (.inr (.inr (.inr (.inr v))))->AF C n (m v) r Q pt ks σ):AF C n (a.bind (Sum.elim f (Sum.elim g (Sum.elim k (Sum.elim l m))))) r Q pt ks σ:=s4_ O h2 h3 λv h=>match v,h with
 | .inl v,h=>h4 v h
 | .inr v,h=>h5 v h
def lN_ {c:Code}(k m:Nat)(e:pl_ C n k pt ks σ=some ⟨.c (.loop c),ks1,σ1,True⟩)(h:AF C n o r Q (.c c) (.cut (Rnd prog C Q ks1 c (m-1))::ks1) σ1)(hm:(m-1)+1=m:=by rfl):AF C n o r Q pt ks σ:=λO a=>YF O e trivial (AK.loopN m (hm▸AK.rnd (h O a)))
def rd_ {c:Code}{O:L_ Fr}{m:Nat}(k:Nat)(e:pl_ C n k pt ks σ=some ⟨.x .normal,.cut (Rnd prog C Q O c (m+1))::O,σ1,True⟩)(h:AF C n o r Q (.c c) (.cut (Rnd prog C Q O c m)::O) σ1):AF C n o r Q pt ks σ:=λhC a=>YF hC e trivial (AK.met (AK.rnd (h hC a)))
def vA_ {l:L_ β}{j:Int}{f:β->O_ α}{σ1:β->St}(k:Nat)(row:β->L_ V)(e:(λd=>Vm.go prog C Uo n [.n k,.o (.row (row d))] pt ks σ True)=λd=>some ⟨pt1,ks1,σ1 d,(True/\(0<=j/\j<(l.length:Int)))/\(l.map row)[j.toNat]? = some (row d)⟩)(h:∀d,AF C n (f d) r Q pt1 ks1 (σ1 d)):AF C n ((idx l j).bind f) r Q pt ks σ:=λhC a=>bE_ a λd O h2=>AK.go Xg hC _ (congrFun e d) ⟨⟨trivial,Ym O rfl⟩,XN (Yo O).2⟩ (h d hC h2)
end
def dz_ : L_ (Nat×Dw)->L_ Dw
 | []=>[]
 | (k,d)::l=>List.replicate k (.a .no none false)++d::dz_ l
def BM {α:Type}{o:O_ α}{r:α}{id n:Nat}{C:Xr}{Q:Exit->St->Prop}{ops:Array Oper}{ks ks1:L_ Fr}{pt:Pt}{σ base:St}{sf fr:S_}{sh hp:H_}{ri:L_ (It×Nat)}{ms:L_ Yr}{B:St}{φ:Prop}(k:Nat)(e0:pl_ C n k pt ks σ=some ⟨.c (.region id ops true),ks1,base,True⟩)(ds:L_ Dw)(sts O ts os:L_ Nat)(hS:(XA base.fr sts,XA base.hp O)=(some sf,some sh))(e:UY prog C Uo n ops ⟨sf,sh⟩ ds ops.toList 0 [] [] base True=some ⟨ri,ms,B,φ⟩)(hφ:JF prog C n->φ)(hf:(XA (Nb ms ri++B.fr) ts,XA (La ms ri++B.hp) os,St.closed ⟨fr,hp⟩)=(some fr,some hp,true))(h:AF C n o r Q (.x .normal) ks1 ⟨fr,hp⟩)(hl:ds.length=ops.size:=by rfl)(hk:okV ops base ⟨sf,sh⟩ ⟨ri,ms,B,φ⟩=true:=by kernel_rfl):AF C n o r Q pt ks σ:=λhN a=>YF hN e0 trivial (AK.draw2 Xg hN mixed ds sts O ts os (congrArg (λx=>x.1) hS) (congrArg (λx=>x.2) hS) e (hφ hN) hl hk (congrArg (λx=>x.1) hf) (congrArg (λx=>x.2.1) hf) (congrArg (λx=>x.2.2) hf) (h hN a))
def D {α:Type}{o:O_ α}{r:α}{id n:Nat}{C:Xr}{Q:Exit->St->Prop}{ops:Array Oper}{ks ks1:L_ Fr}{pt:Pt}{σ base:St}{sf fr:S_}{sh hp:H_}{ri:L_ (It×Nat)}{ms:L_ Yr}{B:St}{φ:Prop}(k:Nat)(e0:pl_ C n k pt ks σ=some ⟨.c (.region id ops true),ks1,base,True⟩)(ds:L_ Dw)(sts O ts os:L_ Nat)(hS:(XA base.fr sts,XA base.hp O)=(some sf,some sh))(e:UY prog C Uo n ops ⟨sf,sh⟩ ds ops.toList 0 [] [] base True=some ⟨ri,ms,B,φ⟩)(hφ:φ)(hf:(XA (Nb ms ri++B.fr) ts,XA (La ms ri++B.hp) os,St.closed ⟨fr,hp⟩)=(some fr,some hp,true))(h:AF C n o r Q (.x .normal) ks1 ⟨fr,hp⟩)(hl:ds.length=ops.size:=by rfl)(hk:okV ops base ⟨sf,sh⟩ ⟨ri,ms,B,φ⟩=true:=by kernel_rfl):AF C n o r Q pt ks σ:=λhN a=>YF hN e0 trivial (AK.draw2 Xg hN mixed ds sts O ts os (congrArg (λx=>x.1) hS) (congrArg (λx=>x.2) hS) e hφ hl hk (congrArg (λx=>x.1) hf) (congrArg (λx=>x.2.1) hf) (congrArg (λx=>x.2.2) hf) (h hN a))
end Go.Proofs
namespace Go.Vm
noncomputable abbrev V.G{α:Type}(f:α->L_ V)(x:α):V:=.agg (f x)
noncomputable abbrev V.M{α:Type}(z:Nat)(f:α->L_ V)(l:L_ α):V:=.sl z (l.map f)
noncomputable abbrev V.P{α:Type}(o:Nat)(l:L_ α):V:=.own o l.length
noncomputable abbrev Ob.W{α:Type}(f:α->L_ V)(x:α):Ob:=.var (f x)
noncomputable abbrev Ob.R{α:Type}(z:Nat)(f:α->L_ V)(l:L_ α):Ob:=.arr z (l.map f)
end Go.Vm
namespace Go.Proofs
open Go Go.RowKit Go.Vm Go.Proofs.Tryz
open Option renaming some→Q,bind→j_
open Sum renaming inl→y_,inr→i_
variable (a g:Int)(d:LI_)(n:Bool)(f l0:QBg)(c:Qd)(h:Qu)(b i:Int)(e:QMk)(o i0:Int)(g1:ByteArray)(r:Qc)(q:Qm)(l1:Int)(j0:QMk)(j:LI_)(f3:QV)(m1:(L_ ByteArray))(s:(L_ QD))(m j1:Int)(m3:Qm->O_ Int)(f4:Qm)(g3:LI_->Qm->O_ (Int×Int))(e3:LI_)(e2:Qm)(t:(L_ QA))(m0 i3:Int)(l:QF)(f1:Int)(e4:(QBg×QBg))(k0:QLL)(i2:Qm->Int->O_ Bool)(j2:Qm)(f2:Int)(p:Bool)(k1:LI_)(d2:QMk)(k3:(QMk×Int))(j4:QMk)(f0:Qd)(k:Int)(i1:(L_ (Int×LI_)))(g0:QC)(d1:(L_ QMk))(l3:(L_ QC))(e1:QBg)(g4:(Bool×Jd))(h0:Int)(e0:LI_)(i4:(L_ Qm))(g2:Int)(h3:(L_ XT))(h4:LI_)(d4:Qd)(j3:Int)(d3:QMk)
abbrev Qzl (a0 a1:V):L_ V:=[.J,.J,a0,.J,.J,.J,.J,a1,.J,.J,.J,.J,.J]
abbrev Qer (a0:V):L_ V:=[.J,.J,a0,.J,.J,.J,.J,.J,.J,.J,.J,.J,.J]
abbrev Qzm (a0 a1 a2 a3 a4 a5 a6 a7 a8:V):L_ V:=[.J,.J,.J,.J,a0,a1,a2,a3,a4,.J,a5,a6,a7,.J,.J,.J,.J,.J,.J,.J,.J,.J,.J,.J,.J,.J,.J,.J,.J,.J,.J,.J,.J,.J,.J,.J,.J,.J,.J,.J,.J,.J,.J,.J,.J,.J,.J,.J,.J,.J,.J,.J,.J,.J,a8,.J,.J,.J,.J,.J,.J,.J,.J,.J,.J,.J,.J,.J,.J,.J,.J,.J,.J,.J,.J,.J,.J,.J,.J,.J,.J,.J,.J,.J,.J,.J,.J,.J,.J,.J,.J,.J,.J,.J,.J,.J,.J,.J,.J,.J,.J,.J,.J,.J,.J,.J,.J,.J,.J]
abbrev RM (a0 a1 a2 a3 a4 a5 a6 a7:V):L_ V:=[.J,.J,.J,.J,a0,a1,a2,a3,a4,.J,a5,a6,a7,.J,.J,.J,.J,.J,.J,.J,.J,.J,.J,.J,.J,.J,.J,.J,.J,.J,.J,.J,.J,.J,.J,.J,.J,.J,.J,.J,.J,.J,.J,.J,.J,.J,.J,.J,.J,.J,.J,.J,.J,.J,.J,.J,.J,.J,.J,.J,.J,.J,.J,.J,.J,.J,.J,.J,.J,.J,.J,.J,.J,.J,.J,.J,.J,.J,.J,.J,.J,.J,.J,.J,.J,.J,.J,.J,.J,.J,.J,.J,.J,.J,.J,.J,.J,.J,.J,.J,.J,.J,.J,.J,.J,.J,.J,.J,.J]
def VO (a:(L_ XT)):O_ Qd:=Q (Qd.mk ([(QD.mk (⟨#[110]⟩:ByteArray) 2 0 0 ([(⟨#[107]⟩:ByteArray)]:L_ ByteArray) 0 0)]:L_ QD) ([(Xb.mk (⟨#[97]⟩:ByteArray) 0 ([]:QBg)),(Xb.mk (⟨#[98]⟩:ByteArray) 0 ([]:QBg)),(Xb.mk (⟨#[99]⟩:ByteArray) 0 ([]:QBg))]:L_ Xb) ([(QF.mk (⟨#[116]⟩:ByteArray) ([]:(L_ Ju)) (Qm.mk 1 1 ([]:(L_ Qm))) 1 1 ([(XT.mk 0 (Qm.mk 1 0 ([]:(L_ Qm))))]:L_ XT) a ([]:LI_) 0 (0,0,0))]:L_ QF) 0 1)
def AO:O_ Qd:=bif n then j_ (chk (([(XT.mk 1 (Qm.mk 1 0 ([]:(L_ Qm))))]:L_ XT).length+([(XT.mk 2 (Qm.mk 1 0 ([]:(L_ Qm))))]:L_ XT).length<=4294967296)) λ_=>VO (([(XT.mk 1 (Qm.mk 1 0 ([]:(L_ Qm))))]:L_ XT)++[(XT.mk 2 (Qm.mk 1 0 ([]:(L_ Qm))))])else VO ([(XT.mk 1 (Qm.mk 1 0 ([]:(L_ Qm))))]:L_ XT)
def YG {c}:CT 21 [.b c] [] (AO c) (λr=>(.G Qf r)) no_:=
 W 40 func21 Z<|K [7,.v .no [none,none,Q 3] (.agg (QO (Qm.mk 1 0 ([]:(L_ Qm))))),6,.v .no [none,none,Q 3] (.agg (QO (Qm.mk 1 1 ([]:(L_ Qm))))),6,.v (.bd []) [] (.sl 1 (([(⟨#[107]⟩:ByteArray)]:L_ ByteArray).map HR)),1,.v (.bd []) [] (.sl 7 (([(QD.mk (⟨#[110]⟩:ByteArray) 2 0 0 ([(⟨#[107]⟩:ByteArray)]:L_ ByteArray) 0 0)]:L_ QD).map Xf)),.v .no [none,none,Q 2] (.agg (QW (Xb.mk (⟨#[97]⟩:ByteArray) 0 ([]:QBg)))),.v .no [none,none,Q 2] (.agg (QW (Xb.mk (⟨#[98]⟩:ByteArray) 0 ([]:QBg)))),.v .no [none,none,Q 2] (.agg (QW (Xb.mk (⟨#[99]⟩:ByteArray) 0 ([]:QBg)))),.v (.bd []) [] (.sl 3 (([(Xb.mk (⟨#[97]⟩:ByteArray) 0 ([]:QBg)),(Xb.mk (⟨#[98]⟩:ByteArray) 0 ([]:QBg)),(Xb.mk (⟨#[99]⟩:ByteArray) 0 ([]:QBg))]:L_ Xb).map QW)),4,.O 18 (.arr 4 (([(XT.mk 0 (Qm.mk 1 0 ([]:(L_ Qm))))]:L_ XT).map Yz)),3,.O 21 (.arr 4 (([(XT.mk 1 (Qm.mk 1 0 ([]:(L_ Qm))))]:L_ XT).map Yz)),1,.o (.any (.own 23 1) (Q (.var [.s (⟨#[116]⟩:ByteArray),.Y,.I 1,.I 1,.sl 3 (Ke ([]:(L_ Qm))),.I 1,.I 1,.own 18 ([(XT.mk 0 (Qm.mk 1 0 ([]:(L_ Qm))))]:L_ XT).length,.own 21 ([(XT.mk 1 (Qm.mk 1 0 ([]:(L_ Qm))))]:L_ XT).length,.Y,.I 0,.I 0,.I 0,.I 0]))),5] Z (λe=>(aB_ Z Z Z Z Z Z Z Z Z Z (λσ d j hf=>Stp.buildAny Z Z (Xk e.n Z) (Xg.es Z) QwS Z (by decide) (by decide) (EB d Z) Z Z (hf Z))))<|mE_ 0 [2,5] [2,5,18] (λg:(L_ XT)=>([],[(21,.R 4 Yz g),(23,.var [.s (⟨#[116]⟩:ByteArray),.Y,.I 1,.I 1,.sl 3 (Ke ([]:(L_ Qm))),.I 1,.I 1,.own 18 ([(XT.mk 0 (Qm.mk 1 0 ([]:(L_ Qm))))]:L_ XT).length,.P 21 g,.Y,.I 0,.I 0,.I 0,.I 0])])) (λg=>VO g) Z (I 5 Z (kA_ λk=>BM 0 Z [.a .no none true,.a .no none true,.N,.N,.B (.any (.L 23) none),.N,.N,.E (.agg (QO (Qm.mk 1 0 ([]:(L_ Qm))))),.E (.agg (Yz (XT.mk 2 (Qm.mk 1 0 ([]:(L_ Qm)))))),.a (.bd []) (Q ([],.sl 4 (([(XT.mk 2 (Qm.mk 1 0 ([]:(L_ Qm))))]:L_ XT).map Yz))) false,.m (.app ((([(XT.mk 1 (Qm.mk 1 0 ([]:(L_ Qm))))]:L_ XT)++[(XT.mk 2 (Qm.mk 1 0 ([]:(L_ Qm))))]).map Yz) (([(XT.mk 1 (Qm.mk 1 0 ([]:(L_ Qm))))]:L_ XT)++[(XT.mk 2 (Qm.mk 1 0 ([]:(L_ Qm))))]).length),.B (.any (.L 23) none),.N,.m .s] [2,3,5] [2,3,5,18] [2,5] [2,5,18,21,23] Z Z (λe=>(a6_ (λσ d j _=>Stp.idxV Z Z (Xk e.n Z) (d _ _ Z) (d _ _ Z) (Xg.es Z) (j _ _ Z) (by decide)) Z Z Z ⟨(Qq (f:=Yz) (l:=([(XT.mk 1 (Qm.mk 1 0 ([]:(L_ Qm))))]:L_ XT))),Af k Qq,(Kz (f:=Yz) (l:=([(XT.mk 1 (Qm.mk 1 0 ([]:(L_ Qm))))]:L_ XT)) (m:=([(XT.mk 2 (Qm.mk 1 0 ([]:(L_ Qm))))]:L_ XT))),UJ (l:=([(XT.mk 1 (Qm.mk 1 0 ([]:(L_ Qm))))]:L_ XT)) Qq⟩ (λσ d j _=>Stp.idxV Z Z (Xk e.n Z) (d _ _ Z) (d _ _ Z) (Xg.es Z) (j _ _ Z) (by decide)))) Z<|P 0 Z Z)<|P 1 Z Z) λg=>g2_ [7,.frz 18 (([(XT.mk 0 (Qm.mk 1 0 ([]:(L_ Qm))))]:L_ XT).map Yz) [] [23],.frz 21 (g.map Yz) [] [23],.denilO 23 [none,Q 2,none,none,none,none,none,none,none,Q 1,none,none,none,none]] Z (a1_ ⟨(Kj Qq),(a1_ U)⟩) (a1_ ⟨(Kj Qq),U⟩)<|λe h=>AK.frzVar (p:=2) (i:=2) (b:=23) Z Z Z Z Z Z Z<|Qat e h<|E 0 Z
def Jh:O_ QBg:=j_ (chk ((([]:QBg).length+f.length)*16<=140737488355328)) λ_=>Q (([]:QBg)++f)
def BK {a}:CT 32 [.M 2 QI a] [] (Jh a) (λr=>(.P 600 r)) (λr=>[(600,.R 2 QI r)]):=
 W 8 func32 Z<|zN_ 9 QyE (Q ([]:QBg)) Z (aD_ 10 2 600 2 Z<|E 0 Z)<|kA_ λb=>K [8,.O 5 (.arr 2 (([]:QBg).map QI)),.S 5 (.own 5 ([]:QBg).length),1,.x (λσ=>σ.app 5 2 7 (([]:QBg)++a).length ((([]:QBg)++a).map QI)),4,.ren 5 600] Z (λc=>(a3_ Z Z (Stp.appSB (by_:=16) (zs:=[.I 0,.I 0]) (e:=74) (e':=74) (z':=2) (by':=16) Z Z (Xk c.n Z) Z Z Z Qq (by kernel_rfl) (by kernel_rfl) (by kernel_rfl) Z (by decide) (by decide) (QiL b Qq) Z Kz (UJ Qq))))<|E 0 Z
def GL (a:QBg):O_ Unit:=Q ()
def PH {a}:CT 107 [.map 621] [(621,.map (QR V.I V.I a))] (GL a) (λ_=>(.clo (.func 164) [] [.L 1])) (λ_=>[(1,.var [.map 621]),(621,.map (QR V.I V.I a))]):=
 W 4 func107 Z<|E 13 Z
def Dc:O_ LI_:=j_ (chk (d.length+([b]:L_ Int).length<=4294967296)) λ_=>Q (d++([b]:L_ Int))
def LI (lpl lpf:Nat)(a:LI_)(c:Int){r:LI_}(h:Dc a c=Q r):ZY prog lpl (AZ lpf) (Qzl (.L 622) (.I c)) [(621,.lp lpl (AZ lpf) (Qer (.L 622)) 0),(622,.var [.P 619 a]),(619,.R 1 Qb a)] (Gives (.b true) [(619,.R 1 Qb r),(621,.lp lpl (AZ lpf) (Qer (.L 622)) 0),(622,.var [.P 619 r])]):=by
 refine ZY.walk (b:=621) 13 rfl rfl λC d=>?_;refine tg_ d [3] ?_;refine AK.done (an_ rfl (ex_ _ (an_ rfl ?_)));exact Qat d h<|pA_ 4 1 Qb Z<|G [1,.O 622 (.var [.own 619 (a++([c]:L_ Int)).length]),2,.K [] [619,621,622]] Z Z<|(λd h=>by
   cases h;refine AK.done ?_;exact ex_ _ (an_ Z (gives r3_)))
def NL (lpl lpf:Nat)(c:LI_)(i:QBg)(hlen:c.length+i.length<=4294967296):QN prog 164 [.clo (.yield lpl) [] [],.L 623] [(621,.lp lpl (AZ lpf) (Qer (.L 622)) 0),(622,.var [.P 619 c]),(619,.R 1 Qb c),(623,.var [.map 624]),(624,.map (QR V.I V.I i))] (λv hs=>∃r:L_ Int,r.Perm (c++i.map Prod.fst)/\Gives (.tup []) [(619,.R 1 Qb r),(621,.lp lpl (AZ lpf) (Qer (.L 622)) 0),(622,.var [.P 619 r]),(623,.var [.map 624]),(624,.map (QR V.I V.I i))] v hs):=by
 refine wk_ 14 func164 λC a=>?_;refine tg_ a [3] ?_;refine AK.openMap (b:=624) WK rfl λk l L4 p s=>?_;refine Jn a [.x (λσ=>(σ.set 5 (.itr k l #[] none)).put 5 (.L 5)),3,.K [0,5] [5,619,621,622,623,624]] rfl (a1_ (Stp.range (b:=624) rfl rfl (Xk a.n rfl) rfl rfl Un rfl)) ?_;have hL0:Jc L4 #[]=L4:=by simp[Jc]
 have z:(c++(Jc L4 #[]).map (λq=>q.2.1)).Perm (c++i.map Prod.fst):=by
  rw[hL0];refine List.Perm.append_left c ?_;have:=s.map Prod.fst;rwa[Qa5]at this
 refine AK.range (body:=Qs3) (λ(_:Nat) seen σ=>∃(cur:O_ Nat) (st:L_ Int),(st++(Jc L4 seen).map (λq=>q.2.1)).Perm (c++i.map Prod.fst)/\σ=⟨[(0,.clo (.yield lpl) [] []),lk_ 5],[(5,.itr k l seen cur),(619,.R 1 Qb st),(621,.lp lpl (AZ lpf) (Qer (.L 622)) 0),(622,.var [.P 619 st]),(623,.var [.map 624]),(624,.mapX k l (LF V.I V.I L4) (QR V.I V.I i))]⟩) (λ(q:Empty) _ _=>False) (λ_ e σ=>∃st:L_ Int,st.Perm (c++i.map Prod.fst)/\e=.exit 0/\σ=⟨[],[(619,.R 1 Qb st),(621,.lp lpl (AZ lpf) (Qer (.L 622)) 0),(622,.var [.P 619 st]),(623,.var [.map 624]),(624,.mapX k l (LF V.I V.I L4) (QR V.I V.I i))]⟩) p s (Qun i 0) (ex_ _ (ex_ c (an_ z rfl))) ?_ ?_
 ·rintro n0 seen σ ⟨cur,o,hpp,rfl⟩ hex;refine tg_ a [2] ?_;refine AK.nextT (b:=5) (m:=624) rfl rfl rfl (Xk a.n rfl) rfl rfl rfl rfl ?_ ?_
  ·intro hleft;refine tg_ a [7,.K [] [619,621,622,623,624]] ?_;exact AK.done (Or.inl (an_ hleft (an_ (λh=>(by cases h)) (ex_ o (an_ (by simpa[hleft] using hpp) (an_ Z Z))))))
  intro O y v9 u;have hpk:=(QfR p u).map (λq=>q.2.1);have w:((o++[y])++(Jc L4 (seen.push O)).map (λq=>q.2.1)).Perm (c++i.map Prod.fst):=List.Perm.trans (by simpa using (List.Perm.append_left o hpk).symm) hpp;have a0:o.length+([y]:L_ Int).length<=4294967296:=by
   have:=w.length_eq;simp at this ⊢;omega
  have t:Dc o y=Q (o++[y]):=by
   unfold Dc;rw[Qt a0];rfl
  obtain⟨j,hxe⟩:∃x,x=o++[y]:=⟨_,rfl⟩;rw[<-hxe]at t w;refine Jn a [10,.x (λσ=>σ.put 8 (.tup [.I y,.I v9])),8,.x (λσ=>(σ.after [619] [(619,.R 1 Qb j),(621,.lp lpl (AZ lpf) (Qer (.L 622)) 0),(622,.var [.P 619 j])]).put 12 (.b true)),6,.K [0,5] [5,619,621,622,623,624]] rfl (a2_ (Stp.entryT (b:=5) (m:=624) (e:=V.I) (f:=V.I) rfl rfl (Xk a.n rfl) rfl u rfl rfl) (Stp.yieldV (b:=621) (M:=[(621,621),(622,622),(619,619)]) (N:=[(619,619),(621,621),(622,622)]) (dead:=[619]) (ms:=(List.replicate 13 .d)) (outs:=[(619,.R 1 Qb j),(621,.lp lpl (AZ lpf) (Qer (.L 622)) 0),(622,.var [.P 619 j])]) (r:=.b true) rfl rfl rfl rfl rfl rfl rfl (Xk a.n rfl) a.g rfl rfl (LI _ _ _ _ t))) ?_;exact AK.done (Or.inr (ex_ _ (an_ u (Or.inl (ex_ (n0+1) (an_ Z (an_ Z (ex_ _ (ex_ j (an_ w Z))))))))))
 rintro e σ ⟨o,hpp,rfl,rfl⟩;refine tg_ a [1] ?_;refine AK.closeMap (b:=624) rfl ?_;refine tg_ a [.K [] [619,621,622,623,624]] ?_;refine AK.done ?_;exact ex_ [] (an_ U (ex_ o (an_ hpp (gives r5_))))
def VG (a:QBg)(h:a.length<=4294967296):QN prog 231 [.Y,.clo (.func 164) [] [.L 621]] [(621,.var [.map 622]),(622,.map (QR V.I V.I a))] (λv hs=>∃r:L_ Int,r.Perm (a.map Prod.fst)/\Gives (.P 600 r) [(600,.R 1 Qb r),(621,.var [.map 622]),(622,.map (QR V.I V.I a))] v hs):=by
 refine QN.walkR 13 func231 Z ntmps231 Z λC c hR=>?_;refine tg_ c [13,.K [2,4,6] [2,621,622]] ?_;refine Jn c [.adoptO 2 0 607 1,.O 607 (.arr 1 (([]:L_ Int).map Qb)),.O 2 (.var [.own 607 ([]:L_ Int).length])] rfl (a2_ rfl rfl) ?_;refine AK.rangeFE (ι:=L_ Int) (Φ:=λx=>x.Perm (a.map Prod.fst)) 618 [2] [(621,618),(622,2),(619,607),(623,621),(624,622)] [(607,619),(618,621),(2,622),(621,623),(622,624)] [607] [.d,.d] AZ c hR (λ_=>rfl) rfl rfl rfl rfl λlpl lpf=>?_;refine ex_ (λb:L_ Int=>[(619,.R 1 Qb b),(621,.lp lpl (AZ lpf) (Qer (.L 622)) 0),(622,.var [.P 619 b]),(623,.var [.map 624]),(624,.map (QR V.I V.I a))]) (ex_ (λ_=>.tup []) (ex_ (λb=>_) (ex_ _ (ex_ _ (an_ rfl (an_ rfl (an_ (NL _ _ ([]:L_ Int) a (by simpa using h)) λb=>ex_ _ (ex_ (Qer (.L 2)) (ex_ 0 (an_ rfl (an_ rfl (an_ (bne_iff_ne.1 (show(0 != 1)=true from rfl)) λhpp=>?_))))))))))));refine QxJ Z ?_;refine tg_ c [9,.K [4] [607,621,622],.ren 607 600,.K [4] [600,621,622]] ?_;refine AK.done ?_;exact ex_ [_] (an_ (an_ Z U) (ex_ b (an_ hpp (gives r3_))))
def QcY (a:QBg)(h:a.length<=4294967296):QN prog 163 [.clo (.func 164) [] [.L 621]] [(621,.var [.map 622]),(622,.map (QR V.I V.I a))] (λv hs=>∃r:L_ Int,r.Perm (a.map Prod.fst)/\Gives (.P 600 r) [(600,.R 1 Qb r),(621,.var [.map 622]),(622,.map (QR V.I V.I a))] v hs):=by
 refine wk_ 5 func163 λC c=>?_;refine tg_ c [8] ?_;refine AK.callE (ι:=L_ Int) (Φ:=λx=>x.Perm (a.map Prod.fst)) [(621,621),(622,622)] [(4,600),(621,621),(622,622)] [] [.d,.d] (λb=>[(600,.R 1 Qb b),(621,.var [.map 622]),(622,.map (QR V.I V.I a))]) (λb=>(.P 600 b)) (λb=>_) rfl c (JG.fn rfl rfl rfl) rfl (Xk c.n rfl) rfl rfl (VG a h) (λb=>ex_ _ rfl) λb O=>?_;refine tg_ c [4,.K [2] [4,621,622],.ren 4 600,.K [2] [600,621,622]] ?_;refine AK.done ?_;exact ex_ [_] (an_ (an_ Z U) (ex_ b (an_ O (gives r3_))))
def YS (l:L_ Int):O_ LI_:=j_ (chk (l.length<4611686018427387904)) λ_=>Q (Kq l)
def GM (l){r}(h:YS l=Q r):QN prog 43 [.P 621 l] [(621,.R 1 Qb l)] (Gives (.tup []) [(621,.R 1 Qb r)]):=by
 obtain⟨_,a,h⟩:=QU h;cases h;exact QrU Quv l (Xd (Qn5 a))
def LJ:O_ LI_:=j_ (chk (f.length<=4294967296)) λ_=>Q (Kq (f.map Prod.fst))
def Qes {a}:CT 106 [.clo (.func 164) [] [.L 621]] [(621,.var [.map 622]),(622,.map (QR V.I V.I a))] (LJ a) (λr=>(.P 600 r)) (λr=>[(600,.R 1 Qb r),(621,.var [.map 622]),(622,.map (QR V.I V.I a))]):=
 W 9 func106 Z<|B λ_ O=>(λe h=>by
   replace O:=Xd (Qn5 O);cases h;refine tg_ e [8] ?_;refine AK.callE (ι:=L_ Int) (Φ:=λx=>x.Perm (a.map Prod.fst)) [(621,621),(622,622)] [(5,600),(621,621),(622,622)] [] [.d] (λb=>[(600,.R 1 Qb b),(621,.var [.map 622]),(622,.map (QR V.I V.I a))]) (λb=>(.P 600 b)) (λb=>_) rfl e (JG.fn rfl rfl rfl) rfl (Xk e.n rfl) rfl rfl (QcY a O) (λb=>ex_ _ rfl) λb hpp=>?_;have f:YS b=Q (Kq (a.map Prod.fst)):=by
    unfold YS;rw[Qt (by have:=hpp.length_eq;simp at this;omega),Qs4 hpp];rfl
   have c:(Kq (a.map Prod.fst)).length=b.length:=by rw[WJ,hpp.length_eq]
   refine Jn e [6,.cm (.fn) [(621,5)] [(5,621)] [] [.d] [(621,.arr 1 (((Kq (a.map Prod.fst))).map Qb))] (.tup []),.S 3 (.own 5 (Kq (a.map Prod.fst)).length),.S 5 (.own 5 (Kq (a.map Prod.fst)).length),.S 6 (.own 5 (Kq (a.map Prod.fst)).length),9,.K [2] [5,621,622],.ren 5 600,.K [2] [600,621,622]] rfl (a4_ (GM _ f) (by simp[c]) (by simp[c]) (by simp[c])) ?_;refine AK.done ?_;exact ex_ [_] (an_ (an_ Z U) (gives r3_)))
def Et:O_ ((Int×QBg)⊕QBg):=Q (y_ ((Qe (a+1)),f))
def DJ:O_ ((Int×QBg)⊕QBg):=bif (b<(d.length:Int))then j_ (idx d b) λa=>bif (0<((Qr f a).getD 0))then j_ (chk (e1.length+([(a,((Qr f a).getD 0))]:QBg).length<=4294967296)) λ_=>Et b (e1++([(a,((Qr f a).getD 0))]:QBg))else Et b e1 else Q (i_ e1)
def EC:O_ QBg:=j_ (GL f) λc=>j_ (LJ f) λb=>j_ (Qh (λst=>DJ b f st.1 st.2) (0,([]:QBg))) (λq=>Q q)
def LK {b}:CT 64 [.map 621] [(621,.map (QR V.I V.I b))] (EC b) (λr=>(.P 600 r)) (λr=>[(600,.R 2 QI r),(621,.map (QR V.I V.I b))]):=
 W 28 func64 Z<|zA_ 14 .fn [(621,621)] [(7,1),(621,621)] [] PH Z λi=>zA_ 0 .fn [(621,7),(622,621)] [(8,600),(7,621),(621,622)] [] Qes Z λj=>aD_ 5 3 18 2 Z<|lA_ 0 [0,8,9] [8,621] (λst=>([(3,.P 18 st.2),(10,.I st.1)],[(18,.R 2 QI st.2)])) [] [621] (λq=>(.exit 0,([(3,.P 18 q)],[(18,.R 2 QI q)]))) Z (λ⟨g,k⟩=>I 6 Z (mE_ 2 [0,8,9,10] [8,621] (λa:QBg=>([(3,.P 18 a)],[(18,.R 2 QI a)])) (λa=>Et g a) Z (vA_ 4 Qb Z λc=>K [7,.o (.any (.I ((Qr b c).getD 0)) none),3] Z (λe=>(a1_ (λσ d f _=>Stp.lookup (z:=0) Z Z (Xk e.n Z) (d _ _ Z) (f _ _ Z) (d _ _ Z) Un WK Pa Z)))<|I 0 Z (K [5,.o (.any (.I ((Qr b c).getD 0)) none),1] Z (λe=>(a1_ (λσ d f _=>Stp.lookup (z:=0) Z Z (Xk e.n Z) (d _ _ Z) (f _ _ Z) (d _ _ Z) Un WK Pa Z)))<|pA_ 0 2 QI Z<|P 3 Z Z)<|P 2 Z Z) λa=>R 4 Z)<|X 2 Z) λh=>gT_ [9,.ren 18 600] Z<|E 0 Z
def ZD:O_ ((Int×QBg)⊕QBg):=Q (y_ ((Qe (a+1)),f))
def Ff:O_ ((Int×QBg)⊕QBg):=bif (b<(d.length:Int))then j_ (idx d b) λa=>bif (0<=a)then ZD b (XL WI e1 a (min2 (Qe (((Qr e1 a).getD 0)+1)) 1048576))else ZD b e1 else Q (i_ e1)
def Qet:O_ QBg:=j_ (EC f) λa=>Q a
def RO:O_ QBg:=j_ (Qh (λst=>Ff d st.1 st.2) (0,([]:QBg))) (λq=>Qet q)
def Qj3 {d}:CT 34 [.M 1 Qb d] [] (RO d) (λr=>(.P 600 r)) (λr=>[(600,.R 2 QI r)]):=
 W 25 func34 Z<|N 15 Z<|lA_ 4 [3,7,8] [] (λst=>([(9,.I st.1)],[(6,.map (QR V.I V.I st.2))])) [3] [] (λq=>(.exit 0,([],[(6,.map (QR V.I V.I q))]))) Z (λ⟨h,c⟩=>I 6 Z (mE_ 2 [3,7,8,9] [] (λb:QBg=>([],[(6,.map (QR V.I V.I b))])) (λb=>ZD h b) Z (J 3 Z λa=>I 10 Z (K [5,.o (.any (.I ((Qr c a).getD 0)) none),2,.x (λσ=>σ.set 6 (.map (QR V.I V.I (XL WI c a (min2 (Qe (((Qr c a).getD 0)+1)) 1048576))))),2] Z (λi=>(a2_ (λσ g j _=>Stp.lookup (z:=0) Z Z (Xk i.n Z) (g _ _ Z) (j _ _ Z) (g _ _ Z) Un WK Pa Z) (Stp.mapUpdate (e:=V.I) (f:=V.I) (l:=c) (k:=a) (v:=(min2 (Qe (((Qr c a).getD 0)+1)) 1048576)) WI Z Z Z Z Z Z Un WK Z)))<|P 0 Z Z)<|P 2 Z Z) λb=>R 4 Z)<|X 2 Z) λp=>zA_ 5 .fn [(621,6)] [(24,600),(6,621)] [] LK Z λm=>gT_ [4,.ren 24 600] Z<|E 0 Z
def KZ:O_ ((Int×Int)⊕(Unit⊕Unit)):=
 bif (i<(f.length:Int))then
 j_ (idx f i) λa=>
 bif ((a.1<=b)||((a.2<1)||(1048576<a.2)))then
 Q (i_ (y_ ()))
 else
 Q (y_ (a.1,(Qe (i+1))))
 else
 Q (i_ (i_ ()))
def NM : O_ Bool:=Q false
def NN : O_ Bool:=Q true
def DL:O_ Bool:=j_ (Qh (λst=>KZ f st.1 st.2) ((-1),0)) (Sum.elim (λq=>NM) (λq=>NN))
def NO {f}:CT 108 [.M 2 QI f] [] (DL f) V.b no_:=
 W 29 func108 Z<|N 14 Z<|F 4 [6,7] [] (λst=>([(3,.I st.1),(8,.I st.2)],[])) [] [] (λq=>(.ret,([(2,.b false)],[]))) [] [] (λq=>(.exit 0,([],[]))) Z (λ⟨d,g⟩=>I 6 Z (J 6 Z λe=>T 7 [5,6,7,8] [5] ([(25,.b ((e.1<=d)||((e.2<1)||(1048576<e.2))))],[]) Z (H 6 Z (λa=>Y 10 25 Z (KO a Z)) λa=>H 5 Z (λc=>Y 5 25 Z (Yv a (KO c Z))) λc=>Y 5 25 Z (Yv a (Yv c Z)))<|I 1 Z (L 9 Z)<|R 13 Z)<|X 2 Z) (λ_=>E 2 Z) (λ_=>E 8 Z)
def Uc:O_ ((Int×QBg)⊕QBg):=bif (b<(f.length:Int))then j_ (idx f b) λa=>Q (y_ ((Qe (b+1)),(XL WI e1 a.1 a.2)))else Q (i_ e1)
def HS:O_ (Unit⊕QBg):=j_ (DL f) λb=>bif (!b)then Q (y_ ())else j_ (Qh (λst=>Uc f st.1 st.2) (0,([]:QBg))) (λq=>Q (i_ q))
def AP {c}:CP 67 [.M 2 QI c] [] (HS c) ((Sum.elim (λq=>(Gives (.tup [.lit (.map none),.b false]) [])) (λq=>(Gives (.tup [.map 601,.b true]) [(601,.map (QR V.I V.I q))])))):=
 wP_ 24 func67 Z<|A 10 NO Z λh=>I 3 Z (E 8 Z)<|N 12 Z<|lA_ 4 [4,11,12] [] (λst=>([(13,.I st.1)],[(10,.map (QR V.I V.I st.2))])) [4] [] (λq=>(.exit 0,([],[(10,.map (QR V.I V.I q))]))) Z (λ⟨i,d⟩=>I 6 Z (J 6 Z λa=>G [11,.x (λσ=>σ.set 10 (.map (QR V.I V.I (XL WI d a.1 a.2)))),7] Z (Stp.mapUpdate (e:=V.I) (f:=V.I) (l:=d) (k:=a.1) (v:=a.2) WI Z Z Z Z Z Z Un WK Z)<|R 0 Z)<|X 2 Z) λg=>gT_ [10,.ren 10 601] Z<|E 0 Z
def QgE (b:Unit):O_ (Unit⊕(QBg⊕(QBg⊕(QBg×QBg)))):=j_ (HS f) (Sum.elim (λq=>Q (y_ ())) (λq=>Q (i_ (y_ q))))
def QgF:O_ (Unit⊕(QBg⊕(QBg⊕(QBg×QBg)))):=j_ (HS f) (Sum.elim (λq=>Q (i_ (i_ (y_ l0)))) (λq=>Q (i_ (i_ (i_ (l0,q))))))
def NP:O_ (Unit⊕(QBg⊕(QBg⊕(QBg×QBg)))):=j_ (HS f) (Sum.elim (λq=>QgE l0 q) (λq=>QgF l0 q))
def Kh {h i}:CP 63 [.M 2 QI h,.M 2 QI i] [] (NP h i) ((Sum.elim (λq=>(Gives (.tup [.lit (.map none),.lit (.map none),.b false]) [])) (Sum.elim (λq=>(Gives (.tup [.lit (.map none),.map 603,.b false]) [(603,.map (QR V.I V.I q))])) (Sum.elim (λq=>(Gives (.tup [.map 602,.lit (.map none),.b false]) [(602,.map (QR V.I V.I q))])) (λq=>(Gives (.tup [.map 602,.map 603,.b true]) [(602,.map (QR V.I V.I q.1)),(603,.map (QR V.I V.I q.2))])))))):=
 wP_ 25 func63 Z<|gP_ 10 Z<|s2_ (λm e=>G [.cm (.fn) [] [] [] [.d] [] (.tup [.lit (.map none),.b false]),10] Z (AP _ e)<|s2_ (λj a=>G [.cm (.fn) [] [] [] [.d] [] (.tup [.lit (.map none),.b false]),21] Z (AP _ a)<|E 0 Z) λf a=>G [.cm (.fn) [] [(16,601)] [] [.d] [(601,.map (QR V.I V.I f))] (.tup [.map 601,.b true]),21,.ren 16 603] Z (AP _ a)<|E 0 Z) λk e=>G [.cm (.fn) [] [(11,601)] [] [.d] [(601,.map (QR V.I V.I k))] (.tup [.map 601,.b true]),10] Z (AP _ e)<|s2_ (λl c=>G [.cm (.fn) [] [] [] [.d] [] (.tup [.lit (.map none),.b false]),21,.ren 11 602] Z (AP _ c)<|E 0 Z) λg c=>G [.cm (.fn) [] [(16,601)] [] [.d] [(601,.map (QR V.I V.I g))] (.tup [.map 601,.b true]),21,.ren 11 602,.ren 16 603] Z (AP _ c)<|E 0 Z
def FX:O_ (QBg⊕Unit):=bif (1048576<((Qr (XL WI f b (Qe (((Qr f b).getD 0)+i))) b).getD 0))then Q (i_ ())else Q (y_ (XL WI f b (Qe (((Qr f b).getD 0)+i))))
def QbJ:O_ (QBg×Int):=j_ (EC f) λb=>Q (b,0)
def QbK : O_ (QBg×Int):=Q (([]:QBg),2)
def QhC:O_ (QBg×Int):=j_ (IZ (λst p=>FX st p.1 p.2) e4.1 e4.2) (Sum.elim (λq=>QbJ q) (λq=>QbK))
def Jt:O_ (QBg×Int):=j_ (NP f l0) (Sum.elim (λq=>Q (([]:QBg),1)) (Sum.elim (λq=>Q (([]:QBg),1)) (Sum.elim (λq=>Q (([]:QBg),1)) (λq=>QhC q))))
def QbL {a1 b2}:CT 33 [.M 2 QI a1,.M 2 QI b2] [] (Jt a1 b2) (λr=>(.tup [.M 2 QI r.1,.I r.2])) no_:=
 W 38 func33 Z<|@λC r=>gP_ 10 Z<|s4_ (λa8 i=>G [.cm (.fn) [] [] [] [.d,.d] [] (.tup [.lit (.map none),.lit (.map none),.b false]),25,.denil 4 [Q 2]] Z (Kh _ i)<|E 0 Z) (λa9 i=>G [.cm (.fn) [] [(14,603)] [] [.d,.d] [(603,.map (QR V.I V.I a9))] (.tup [.lit (.map none),.map 603,.b false]),25,.denil 4 [Q 2]] Z (Kh _ i)<|E 0 Z) (λa5 i=>G [.cm (.fn) [] [(14,602)] [] [.d,.d] [(602,.map (QR V.I V.I a5))] (.tup [.map 602,.lit (.map none),.b false]),25,.denil 4 [Q 2]] Z (Kh _ i)<|E 0 Z) λy i=>G [.cm (.fn) [] [(14,602),(614,603)] [] [.d,.d] [(602,.map (QR V.I V.I y.1)),(603,.map (QR V.I V.I y.2))] (.tup [.map 602,.map 603,.b true]),23] Z (Kh _ i)<|λg h=>AK.openMapK (b:=614) WK Z λt u L12 O a6 a0=>Qat g h<|K [.x (λσ=>(σ.set 21 (.itr t u #[] none)).put 21 (.L 21)),3,.K [6,21] [14,21,614]] Z (λg=>(a1_ (Stp.range (b:=614) Z Z (Xk g.n Z) Z Z Un Z)))<|B λa7 a3=>(λg h=>by
   refine AK.range (body:=(λst p=>FX st p.1 p.2)) (λst seen σ=>∃cur:O_ Nat,σ=⟨[(6,.map 14),lk_ 21],[(14,.map (QR V.I V.I st)),(21,.itr t u seen cur),(614,.mapX t u (LF V.I V.I L12) (QR V.I V.I y.2))]⟩) (λq e σ=>e=.ret/\σ=⟨[(4,.Y),(5,.I 2)],[]⟩) (λst e σ=>e=.exit 0/\σ=⟨[(6,.map 14)],[(14,.map (QR V.I V.I st))]⟩) O a0 a3 (ex_ _ rfl) ?_ ?_
   ·rintro a seen σ ⟨cur,rfl⟩ hex;refine tg_ g [2] ?_;refine AK.nextT (b:=21) (m:=614) rfl rfl rfl (Xk g.n rfl) rfl rfl rfl rfl ?_ ?_
    ·intro hleft;refine tg_ g [7,.K [6] [14]] ?_;exact AK.done (Or.inl (an_ hleft (an_ (λh=>(by cases h)) (an_ Z Z))))
    intro b0 c s j;obtain⟨o,h⟩:=hex _ j;have ho:=h;replace h:FX a c s=Q o:=h;refine Jn g [10,.x (λσ=>σ.put 24 (.tup [.I c,.I s])),10,.o (.any (.I ((Qr a c).getD 0)) none),2,.x (λσ=>σ.set 14 (.map (QR V.I V.I (XL WI a c (Qe (((Qr a c).getD 0)+s)))))),6,.o (.any (.I ((Qr (XL WI a c (Qe (((Qr a c).getD 0)+s))) c).getD 0)) none),3] rfl (a4_ (Stp.entryT (b:=21) (m:=614) (e:=V.I) (f:=V.I) rfl rfl (Xk g.n rfl) rfl j rfl rfl) (λσ h1 h2 _=>Stp.lookup (z:=0) rfl rfl (Xk g.n rfl) (h1 _ _ rfl) (h2 _ _ rfl) (h1 _ _ rfl) Un WK Pa rfl) (Stp.mapUpdate (e:=V.I) (f:=V.I) (l:=a) (k:=c) (v:=(Qe (((Qr a c).getD 0)+s))) WI rfl rfl rfl rfl rfl rfl Un WK rfl) (λσ h1 h2 _=>Stp.lookup (e:=V.I) (f:=V.I) (l:=(XL WI a c (Qe (((Qr a c).getD 0)+s)))) (k:=c) (z:=0) rfl rfl (Xk g.n rfl) (h1 _ _ rfl) (h2 _ _ rfl) (h1 _ _ rfl) Un WK Pa rfl)) ?_;refine bg_ h (λw h=>Jn g [.T,8,.K [4,5] []] rfl (a1_ w) ?_) λw h=>Jn g [.F,2,.K [6,21] [14,21,614]] rfl (a1_ w) ?_
    ·cases h;exact AK.done (Or.inr (ex_ _ (an_ j (Or.inr (ex_ _ (an_ ho (an_ (λh=>(by cases h)) (an_ Z Z))))))))
    cases h;exact AK.done (Or.inr (ex_ _ (an_ j (Or.inl (ex_ _ (an_ ho (an_ Z (ex_ _ Z))))))))
   rcases a7 with(a | _)
   ·replace h:QbJ a=Q r:=h;rintro e σ ⟨rfl,rfl⟩;obtain⟨a2,a4,h⟩:=QU h;refine Jn g [5,.cm (.fn) [(621,14)] [(37,600),(14,621)] [] [.d] [(600,.R 2 QI a2),(621,.map (QR V.I V.I a))] (.P 600 a2),5,.frz 37 (a2.map QI) [4] [],.K [4,5] []] rfl (a2_ (LK _ a4) (a1_ (Kj Qq))) ?_;exact E 0 Z g h
   replace h:QbK=Q r:=h;unfold QbK at h;rintro e σ ⟨rfl,rfl⟩;refine tg_ g [2,.denil 4 [Q 2],.K [4,5] []] ?_;exact E 0 Z g h)
def DA:O_ ((Int×QMk)⊕QMk):=j_ (chk (e.length+([e1]:L_ QBg).length<=4294967296)) λ_=>Q (y_ ((Qe (o+1)),(e++([e1]:L_ QBg))))
def DB:O_ ((Int×QMk)⊕QMk):=bif (b<(c.Places.length:Int))then j_ (idx c.Places b) λf=>j_ (Jh f.First) λa=>bif (b==c.From)then j_ (RO ([0]:L_ Int)) λg=>j_ (Jt a g) λd=>bif (d.2==0)then DA e b d.1 else DA e b a else DA e b a else Q (i_ e)
def DM:O_ QMk:=j_ (Qh (λst=>DB c st.1 st.2) (0,([]:L_ QBg))) (λq=>Q q)
def Tr {c}:CT 13 [.G Qf c] [] (DM c) (λr=>(.P 600 r)) (λr=>[(600,.R 1 Qk r)]):=
 W 40 func13 Z<|N 16 Z<|aD_ 4 3 34 1 Z<|lA_ 0 [1,10,11] [1] (λst=>([(3,.P 34 st.2),(12,.I st.1)],[(34,.R 1 Qk st.2)])) [] [] (λq=>(.exit 0,([(3,.P 34 q)],[(34,.R 1 Qk q)]))) Z (λ⟨e,f⟩=>I 6 Z (J 7 Z λg=>oC_ 10 [.d] BK Z λb=>mE_ 3 [1,3,10,11,12] [1,34] (λa:QBg=>([(6,.M 2 QI a)],[])) (λa=>DA f e a) Z (I 8 Z (G [3,.v (.bd []) [] (.sl 1 (([0]:L_ Int).map Qb))] Z Z<|oC_ 0 [.d] Qj3 Z λh=>zF_ 0 27 [27] [] Z<|G [.frz 19 (b.map QI) [6,19,25] []] Z (a3_ (Kj Qq) (Kj Qq) (Kj Qq))<|A 0 QbL Z λi=>I 13 Z (P 4 Z Z)<|P 1 Z Z)<|zF_ 1 19 [6] [] Z<|P 0 Z Z) λa=>pA_ 3 1 Qk Z<|R 8 Z)<|X 2 Z) λj=>gT_ [9,.ren 34 600] Z<|E 0 Z
def Dn:O_ QMk:=j_ (chk ((([]:L_ QBg).length+e.length)*24<=140737488355328)) λ_=>Q (([]:L_ QBg)++e)
def MO {a}:CT 103 [.M 1 Qk a] [] (Dn a) (λr=>(.P 600 r)) (λr=>[(600,.R 1 Qk r)]):=
 W 8 func103 Z<|zN_ 9 QyD (Q ([]:L_ QBg)) Z (aD_ 10 2 600 1 Z<|E 0 Z)<|kA_ λb=>K [8,.O 5 (.arr 1 (([]:L_ QBg).map Qk)),.S 5 (.own 5 ([]:L_ QBg).length),1,.x (λσ=>σ.app 5 1 7 (([]:L_ QBg)++a).length ((([]:L_ QBg)++a).map Qk)),4,.ren 5 600] Z (λc=>(a3_ Z Z (Stp.appSB (by_:=24) (zs:=[.Y]) (e:=70) (e':=70) (z':=1) (by':=24) Z Z (Xk c.n Z) Z Z Z Qq (by kernel_rfl) (by kernel_rfl) (by kernel_rfl) Z (by decide) (by decide) (QiL b Qq) Z Kz (UJ Qq))))<|E 0 Z
def NQ:O_ ((Int×QMk)⊕QMk):=bif (o<(e.length:Int))then j_ (idx j0 o) λc=>j_ (Jh c) λd=>j_ (idx j0 o) λf=>Q (y_ ((Qe (o+1)),(j0.set o.toNat d)))else Q (i_ j0)
def Fg:O_ QMk:=j_ (Dn e) λa=>j_ (Qh (λst=>NQ a st.1 st.2) (0,a)) (λq=>Q q)
def NR {g}:CT 60 [.M 1 Qk g] [] (Fg g) (λr=>(.P 600 r)) (λr=>[(600,.R 1 Qk r)]):=
 W 22 func60 Z<|oC_ 8 [.d] MO Z λi=>lA_ 12 [9] [] (λst=>([(3,.P 7 st.2),(8,.P 7 st.2),(10,.I st.1)],[(7,.R 1 Qk st.2)])) [] [] (λq=>(.exit 0,([(3,.P 7 q)],[(7,.R 1 Qk q)]))) Z (λ⟨c,e⟩=>I 6 Z (vA_ 8 Qk Z λh=>oC_ 8 [.d] BK Z λb=>B λf a=>G [1] Z (Ym a Z)<|zF_ 0 18 [18] [] Z<|g3_ [.st (Qk f) ((e.set c.toNat b).map Qk),7,.S 3 (.own 7 (e.set c.toNat b).length),.S 8 (.own 7 (e.set c.toNat b).length)] Z ⟨(XN (Yo a).2),WG Z⟩ (congrArg (λn=>V.own 7 n) (by simp)) (congrArg (λn=>V.own 7 n) (by simp))<|R 0 Z)<|X 2 Z) λj=>gT_ [9,.ren 7 600] Z<|E 0 Z
def Qau:O_ LI_:=j_ (Qh (λst=>bif (st.1<(d.length:Int))then j_ (idx d st.1) λg=>j_ (Qh (λh=>bif (0<=h.1)then j_ (chk (0<=(Qe (8*h.1)))) λi=>j_ (chk (h.2.length+([(IntKind.u8.wrap (KB .i64 g (Qe (8*h.1))))]:L_ Int).length<=4294967296)) λi=>Q (y_ ((Qe (h.1-1)),(h.2++([(IntKind.u8.wrap (KB .i64 g (Qe (8*h.1))))]:L_ Int))))else Q (i_ h.2)) ((Qe (a-1)),st.2)) (λj=>Q (y_ ((Qe (st.1+1)),j)))else Q (i_ st.2)) (0,([]:L_ Int))) (λq=>Q q)
def Qki {a f}:CT 228 [.Y,.I a,.M 1 Qb f] [] (Qau a f) (λr=>(.P 600 r)) (λr=>[(600,.R 1 DI r)]):=
 W 32 func228 Z<|N 9 Z<|aD_ 4 0 22 1 Z<|lA_ 0 [1,10,11] [] (λst=>([(0,.P 22 st.2),(12,.I st.1)],[(22,.R 1 DI st.2)])) [] [] (λq=>(.exit 0,([(0,.P 22 q)],[(22,.R 1 DI q)]))) Z (λ⟨l,m⟩=>I 6 Z (J 6 Z λb=>lA_ 12 [1,8,10,11,12] [] (λst=>([(0,.P 22 st.2),(9,.I st.1)],[(22,.R 1 DI st.2)])) [1,10,11,12] [] (λq=>(.exit 2,([(0,.P 22 q)],[(22,.R 1 DI q)]))) Z (λ⟨c,h⟩=>I 7 Z (kA_ λd=>K [9,.o (.any (.I (KB .i64 b (Qe (8*c)))) none),.o (.any (.i .u8 (IntKind.u8.wrap (KB .i64 b (Qe (8*c))))) none)] Z (λg=>(a2_ (λσ e j _=>Stp.shr Z Z (Xk g.n Z) (e _ _ Z) (e _ _ Z) (Xd d)) (λσ e j _=>Stp.convI Z Z (Xk g.n Z) (e _ _ Z) Qkd Qs7)))<|pA_ 0 1 DI Z<|R 9 Z)<|X 2 Z) λk=>R 7 Z)<|X 2 Z) λp=>gT_ [9,.ren 22 600] Z<|E 0 Z
def Ba:O_ ((Int×LI_)⊕LI_):=bif (0<=g)then j_ (chk (0<=(Qe (8*g)))) λ_=>j_ (chk (d.length+([(IntKind.u8.wrap (KB .i64 a (Qe (8*g))))]:L_ Int).length<=4294967296)) λ_=>Q (y_ ((Qe (g-1)),(d++([(IntKind.u8.wrap (KB .i64 a (Qe (8*g))))]:L_ Int))))else Q (i_ d)
def QbM:O_ ((Int×LI_)⊕LI_):=Q (y_ ((Qe (a+1)),d))
def HT:O_ ((Int×LI_)⊕LI_):=bif (i<(d.length:Int))then j_ (idx d i) λc=>j_ (Qh (λst=>Ba c st.1 st.2) ((Qe (b-1)),j)) (λq=>QbM i q)else Q (i_ j)
def Cb:O_ LI_:=j_ (Qh (λst=>HT j b st.1 st.2) (0,d)) (λq=>Q q)
def QbN {f a g}:CT 228 [.P 619 f,.I a,.M 1 Qb g] [(619,.R 1 DI f)] (Cb f a g) (λr=>(.P 619 r)) (λr=>[(619,.R 1 DI r)]):=
 W 32 func228 Z<|N 9 Z<|lA_ 4 [1,10,11] [] (λst=>([(0,.P 619 st.2),(12,.I st.1)],[(619,.R 1 DI st.2)])) [] [] (λq=>(.exit 0,([(0,.P 619 q)],[(619,.R 1 DI q)]))) Z (λ⟨p,s⟩=>I 6 Z (J 6 Z λb=>lA_ 12 [1,8,10,11,12] [] (λst=>([(0,.P 619 st.2),(9,.I st.1)],[(619,.R 1 DI st.2)])) [1,10,11,12] [] (λq=>(.exit 2,([(0,.P 619 q)],[(619,.R 1 DI q)]))) Z (λ⟨c,j⟩=>I 7 Z (kA_ λd=>K [9,.o (.any (.I (KB .i64 b (Qe (8*c)))) none),.o (.any (.i .u8 (IntKind.u8.wrap (KB .i64 b (Qe (8*c))))) none)] Z (λh=>(a2_ (λσ e k _=>Stp.shr Z Z (Xk h.n Z) (e _ _ Z) (e _ _ Z) (Xd d)) (λσ e k _=>Stp.convI Z Z (Xk h.n Z) (e _ _ Z) Qkd Qs7)))<|pA_ 0 1 DI Z<|R 9 Z)<|X 2 Z) λl=>R 7 Z)<|X 2 Z) λm=>E 9 Z
def RP:O_ Bool:=j_ (DL f) λb=>bif (!b)then Q true else bif (65535<(f.length:Int))then Q true else bif (0<(f.length:Int))then j_ (idx f (Qe ((f.length:Int)-1))) λc=>Q (decide (4294967295<c.1))else Q false
def HU:O_ ((Int×LI_)⊕LI_):=bif (b<(f.length:Int))then j_ (idx f b) λd=>j_ (Cb j 4 ([d.1,d.2]:L_ Int)) λe=>Q (y_ ((Qe (b+1)),e))else Q (i_ j)
def QbO:O_ ((Int×LI_)⊕(Unit⊕LI_)):=Q (y_ ((Qe (a+1)),d))
def QbP:O_ ((Int×LI_)⊕(Unit⊕LI_)):=bif p then Q (i_ (y_ ()))else j_ (Cb d 2 ([(f.length:Int)]:L_ Int)) λa=>j_ (Qh (λst=>HU f st.1 st.2) (0,a)) (λq=>QbO b q)
def HV:O_ ((Int×LI_)⊕(Unit⊕LI_)):=bif (o<(e.length:Int))then j_ (idx e o) λb=>j_ (RP b) (λd=>QbP j b o d)else Q (i_ (i_ j))
def Cc:O_ (LI_×Int):=bif (64<(e.length:Int))then Q (([]:L_ Int),1)else j_ (Qau 1 ([(e.length:Int)]:L_ Int)) λb=>j_ (Qh (λst=>HV e st.1 st.2) (0,b)) (Sum.elim (λq=>Q (([]:L_ Int),1)) (λq=>Q (q,0)))
def QbQ {d}:CT 160 [.M 1 Qk d] [] (Cc d) (λr=>(.tup [.M 1 DI r.1,.I r.2])) no_:=
 W 66 func160 Z<|N 10 Z<|I 3 Z (gT_ [8,.denil 2 [Q 1]] Z<|E 0 Z)<|N 5 Z<|G [.v (.bd []) [] (.sl 1 (([(d.length:Int)]:L_ Int).map Qb))] Z Z<|zA_ 0 .fn [] [(15,600)] [] Qki Z λp=>N 7 Z<|F 4 [16,17] [] (λst=>([(4,.P 15 st.2),(18,.I st.1)],[(15,.R 1 DI st.2)])) [] [] (λq=>(.ret,([(2,.Y),(3,.I 1)],[]))) [] [] (λq=>(.exit 0,([(4,.P 15 q)],[(15,.R 1 DI q)]))) Z (λ⟨s,f⟩=>I 6 Z (J 6 Z λe=>mV_ 6 [4,6,16,17,18] [15] (λa=>([(44,.b a)],[])) Z (A 2 NO Z λg=>I 2 Z (M 20 Z)<|N 1 Z<|I 3 Z (M 15 Z)<|N 1 Z<|I 2 Z (N 2 Z<|J 1 Z λh=>M 6 Z)<|M 11 Z) λa=>I 1 Z (L 10 Z)<|N 6 Z<|G [.v (.bd []) [] (.sl 1 (([(e.length:Int)]:L_ Int).map Qb))] Z Z<|zA_ 0 .fn [(619,15)] [(15,619)] [15] QbN Z λi=>N 6 Z<|lA_ 4 [16,17,18,50,51] [] (λst=>([(4,.P 15 st.2),(52,.I st.1)],[(15,.R 1 DI st.2)])) [16,17,18] [] (λq=>(.exit 2,([(4,.P 15 q)],[(15,.R 1 DI q)]))) Z (λ⟨j,k⟩=>I 6 Z (J 6 Z λc=>G [11,.v (.bd []) [] (.sl 1 (([c.1,c.2]:L_ Int).map Qb))] Z Z<|zA_ 0 .fn [(619,15)] [(15,619)] [15] QbN Z λl=>R 8 Z)<|X 2 Z) λm=>R 7 Z)<|X 2 Z) (λ_=>gT_ [2,.denil 2 [Q 1]] Z<|E 0 Z) (λo=>zF_ 10 15 [2] [] Z<|E 0 Z)
def ZE:O_ ByteArray:=j_ (Cc e) λb=>Q (LY b.1)
def QeQ {a}:CT 104 [.M 1 Qk a] [] (ZE a) V.s no_:=
 W 12 func104 Z<|A 8 QbQ Z λb=>K [10,.o (.any (.s (LY b.1)) none),4] Z (λc=>(a1_ (λσ d e _=>Stp.b2s Z Z (Xk c.n Z) (d _ _ Z) Z Quw Qs7 (Xg.sb Z))))<|E 0 Z
def DN (h:(L_ Xb))(i:(L_ QF))(j:Int)(k:Int)(f:Int)(d:(L_ (ByteArray×Int)))(b:(L_ QMk))(m:(L_ QC))(c:Bool)(a:QMk):O_ (Int×(L_ QMk)×(L_ QD)×(L_ Xb)×(L_ QF)×Int×Int×Int×Bool×(L_ (ByteArray×Int))):=j_ (ZE a) λe=>bif (Qr d e).isSome then Q (((Qr d e).getD 0),b,s,h,i,j,k,f,c,d)else bif ((min2 f 4096)<=(b.length:Int))then Q ((-1),b,s,h,i,j,k,f,c,d)else j_ (ZE a) λl=>j_ (chk (b.length+([a]:L_ QMk).length<=4294967296)) λ_=>Q ((b.length:Int),(b++([a]:L_ QMk)),s,h,i,j,k,f,c,(XL SO d l (b.length:Int)))
def Ma {y C O v4 v5 v6 h o p q t}:CT 61 [.L 621,.M 1 Qk t] [(621,.var [.M 7 Xf y,.M 3 QW C,.M 14 Qy O,.I v4,.I v5,.I v6,.map 622,.P 619 o,.P 620 p,.b q]),(622,.map (QR V.s V.I h)),(619,.R 1 QE o),(620,.R 6 XM p)] (DN y C O v4 v5 v6 h o p q t) (λr=>(.I r.1)) (λr=>[(619,.R 1 QE r.2.1),(620,.R 6 XM p),(621,.var [.M 7 Xf r.2.2.1,.M 3 QW r.2.2.2.1,.M 14 Qy r.2.2.2.2.1,.I r.2.2.2.2.2.1,.I r.2.2.2.2.2.2.1,.I r.2.2.2.2.2.2.2.1,.map 622,.P 619 r.2.1,.P 620 p,.b r.2.2.2.2.2.2.2.2.1]),(622,.map (QR V.s V.I r.2.2.2.2.2.2.2.2.2))]):=
 W 59 func61 Z<|B λg u=>BM 6 Z (dz_ [(5,.B (.C1 (.s g))),(0,.B (.any (.tup [.I ((Qr h g).getD 0),.b (Qr h g).isSome]) none)),(4,.N)]) [] [] [0,1,5,6] [619,620,621,622] Z Z (λhC=>(a2_ (QeQ _ u) (λσ j x _=>Stp.lookupOk (e:=V.s) (f:=V.I) (l:=h) (k:=g) (z:=0) Z Z (Xk hC.n Z) (j _ _ Z) (x _ _ Z) (j _ _ Z) Quu Qf2 Pa Z Z))) Z<|I 9 Z (E 9 Z)<|D 1 Z (dz_ [(12,.N)]) [] [] [0,1,20] [619,620,621,622] Z Z U Z<|I 1 Z (E 8 Z)<|B λi w=>D 15 Z [.N,.N,.N,.N,.N,.B (.C1 (.s i)),.N,.m (.any ⟨[],[(622,.map (QR V.s V.I (XL SO h i (o.length:Int))))],none⟩)] [] [] [0,1,5] [619,620,621,622] Z Z (a2_ (QeQ _ w) (λσ j x=>Stp.mapUpdate (e:=V.s) (f:=V.I) (l:=h) (k:=i) (v:=(o.length:Int)) SO Z Z (j _ _ Z) (x _ _ Z) (j _ _ Z) (j _ _ Z) Quu Qf2 Z)) Z<|pA_ 10 1 QE Z<|E 13 Z
noncomputable def Wa (O:Int)(h:Int):O_ (Int⊕Empty):=Q (y_ (Qe (a+h)))
def VP:O_ Int:=Q a
noncomputable def NS:O_ Int:=j_ (IZ (λst p=>Wa st p.1 p.2) 0 f) (Sum.elim (λq=>VP q) (λq=>Empty.elim q))
def AQ:O_ Int:=j_ (HS f) (Sum.elim (λq=>Q 0) (λq=>NS q))
def VQ {y}:CT 38 [.M 2 QI y] [] (AQ y) V.I no_:=
 W 23 func38 Z<|@λC r=>gP_ 8 Z<|s2_ (λa5 c=>K [.cm (.fn) [] [] [] [.d] [] (.tup [.lit (.map none),.b false]),16,.x (λσ=>(σ.set 14 .itr0).put 14 (.L 14)),3] Z (λa=>(a2_ (AP _ c) (Stp.range0 Z Z (Xk a.n Z) Z Un Z)))<|λa h=>AK.loopOnce<|Qat a h<|K [2,.x (λσ=>σ.put 15 (.tup [.b false])),17] Z (λa=>(a1_ (Stp.next0 Z Z (Xk a.n Z) Z Z)))<|E 0 Z) λz c=>G [.cm (.fn) [] [(10,601)] [] [.d] [(601,.map (QR V.I V.I z))] (.tup [.map 601,.b true]),16] Z (AP _ c)<|λa h=>AK.openMap (b:=10) WK Z λg i L7 k l=>Qat a h<|K [.x (λσ=>(σ.set 14 (.itr g i #[] none)).put 14 (.L 14)),3,.K [5,14] [10,14]] Z (λa=>(a1_ (Stp.range (b:=10) Z Z (Xk a.n Z) Z Z Un Z)))<|B λv s=>(λa h=>by
   refine AK.range (body:=(λst p=>Wa st p.1 p.2)) (λst seen σ=>∃cur:O_ Nat,σ=⟨[(5,.I st),lk_ 14],[(10,.mapX g i (LF V.I V.I L7) (QR V.I V.I z)),(14,.itr g i seen cur)]⟩) (λ(q:Empty) _ _=>False) (λst e σ=>e=.exit 0/\σ=⟨[(5,.I st)],[]⟩) k l s (ex_ _ rfl) ?_ ?_
   ·rintro w seen σ ⟨cur,rfl⟩ hex;refine tg_ a [2] ?_;refine AK.nextT (b:=14) (m:=10) rfl rfl rfl (Xk a.n rfl) rfl rfl rfl rfl ?_ ?_
    ·intro hleft;refine tg_ a [7,.K [5] []] ?_;exact AK.done (Or.inl (an_ hleft (an_ (λh=>(by cases h)) (an_ Z Z))))
    intro O t u j;obtain⟨o,h⟩:=hex _ j;have ho:=h;replace h:Wa w t u=Q o:=h;refine Jn a [10,.x (λσ=>σ.put 17 (.tup [.I t,.I u])),11,.K [5,14] [10,14]] rfl (a1_ (Stp.entryT (b:=14) (m:=10) (e:=V.I) (f:=V.I) rfl rfl (Xk a.n rfl) rfl j rfl rfl)) ?_;cases h;exact AK.done (Or.inr (ex_ _ (an_ j (Or.inl (ex_ _ (an_ ho (an_ Z (ex_ _ Z))))))))
   rcases v with(w | q)
   ·replace h:VP w=Q r:=h;unfold VP at h;rintro e σ ⟨rfl,rfl⟩;refine tg_ a [9,.K [2] []] ?_;exact E 0 Z a h
   exact q.elim)
def Wi:O_ ((Int×Int)⊕Int):=bif (i0<(e.length:Int))then j_ (idx e i0) λa=>j_ (AQ a) λb=>Q (y_ ((Qe (o+b)),(Qe (i0+1))))else Q (i_ o)
def Bc:O_ Int:=j_ (Qh (λst=>Wi e st.1 st.2) (0,0)) (λq=>Q q)
def Qdh {a}:CT 49 [.M 1 Qk a] [] (Bc a) V.I no_:=
 W 18 func49 Z<|N 14 Z<|lA_ 4 [6,7] [] (λst=>([(3,.I st.1),(8,.I st.2)],[])) [] [] (λq=>(.exit 0,([(3,.I q)],[]))) Z (λ⟨c,d⟩=>I 6 Z (J 6 Z λe=>A 7 VQ Z λb=>R 9 Z)<|X 2 Z) λf=>E 9 Z
def Ag:O_ QLL:=Q k0
def Pb:O_ ((Int×LI_)⊕LI_):=Q (y_ ((Qe (a+1)),d))
def YT:O_ QLL:=
 bif ((g<0)||((16<g)||((a==3)&&(4<g))))then
 Q ([]:QLL)
 else
 bif (a==1)then
 j_ (Qh (λst=>bif (st.1<g)then j_ (chk (st.2.length+([st.1]:L_ Int).length<=4294967296)) λd=>Q (y_ ((Qe (st.1+1)),(st.2++([st.1]:L_ Int))))else Q (i_ st.2)) (0,([]:L_ Int))) (λq=>Q ([q]:QLL))
 else
 bif (a==2)then
 j_ (Qh (λst=>bif (st.1<g)then j_ (chk (st.2.length+([([st.1]:L_ Int)]:QLL).length<=4294967296)) λe=>Q (y_ ((Qe (st.1+1)),(st.2++([([st.1]:L_ Int)]:QLL))))else Q (i_ st.2)) (0,([]:QLL))) (λq=>Ag q)
 else
 bif (a==3)then
 j_ (Qh (λst=>j_ (chk (0<=g)) λf=>bif (st.1<(Qs0 .i64 1 g))then j_ (Qh (λb=>bif (b.1<g)then j_ (chk (0<=b.1)) λi=>bif ((Gy .i64 (KB .i64 st.1 b.1) 1)==1)then j_ (chk (b.2.length+([b.1]:L_ Int).length<=4294967296)) λi=>Pb b.1 (b.2++([b.1]:L_ Int))else Pb b.1 b.2 else Q (i_ b.2)) (0,([]:L_ Int))) (λj=>j_ (chk (st.2.length+([j]:QLL).length<=4294967296)) λk=>Q (y_ ((Qe (st.1+1)),(st.2++([j]:QLL)))))else Q (i_ st.2)) (1,([]:QLL))) (λq=>Ag q)
 else
 Ag ([]:QLL)
def Pc {c a}:CT 169 [.I c,.I a] [] (YT c a) (λr=>(.P 600 r)) (λr=>[(600,.R 1 Xy r)]):=
 W 79 func169 Z<|T 7 [0,1] [] ([(25,.b ((a<0)||((16<a)||((c==3)&&(4<a)))))],[]) Z (H 4 Z (λd=>Y 12 25 Z (KO d Z)) λd=>H 4 Z (λg=>Y 8 25 Z (Yv d (KO g Z))) λg=>H 3 Z (λi=>Y 5 25 Z (Yv d (Yv g (XB i Z)))) λi=>Y 5 25 Z (Yv d (Yv g (Yh i Z))))<|I 1 Z (aD_ 7 4 600 1 Z<|E 0 Z)<|mE_ 7 [] [] (λe:QLL=>([(5,.P 604 e)],[(604,.R 1 Xy e)])) (λe=>Ag e) Z (I 12 Z (aD_ 13 6 33 1 Z<|lA_ 0 [29] [] (λst=>([(6,.P 33 st.2),(30,.I st.1)],[(33,.R 1 Qb st.2)])) [] [] (λq=>(.exit 1,([(6,.P 33 q)],[(33,.R 1 Qb q)]))) Z (λ⟨w,x⟩=>I 6 Z (pA_ 13 1 Qb Z<|R 8 Z)<|X 2 Z) λk=>g2_ [5,.frz 33 (k.map Qb) [6,38] [],1,.O 39 (.arr 1 (([k]:QLL).map Xy)),6,.ren 39 600] Z (a2_ (Kj Qq) (Kj Qq)) Z<|E 0 Z)<|I 6 Z (aD_ 7 5 46 1 Z<|lA_ 0 [42] [] (λst=>([(5,.P 46 st.2),(43,.I st.1)],[(46,.R 1 Xy st.2)])) [] [] (λq=>(.exit 3,([(5,.P 46 q)],[(46,.R 1 Xy q)]))) Z (λ⟨s,y⟩=>I 6 Z (G [13,.v (.bd []) [] (.sl 1 (([s]:L_ Int).map Qb))] Z Z<|pA_ 0 1 Xy Z<|R 8 Z)<|X 2 Z) λz=>gT_ [2,.ren 46 604] Z<|P 0 Z Z)<|I 6 Z (aD_ 6 5 74 1 Z<|lA_ 0 [1] [] (λst=>([(5,.P 74 st.2),(9,.I st.1)],[(74,.R 1 Xy st.2)])) [] [] (λq=>(.exit 5,([(5,.P 74 q)],[(74,.R 1 Xy q)]))) Z (λ⟨set_33,C⟩=>kA_ λl=>K [5,.o (.any (.I (Qs0 .i64 1 a)) none),3] Z (λp=>(a1_ (λσ h u _=>Stp.shl Z Z (Xk p.n Z) (h _ _ Z) (h _ _ Z) (Xd l))))<|I 0 Z (aD_ 17 10 69 1 Z<|lA_ 0 [1,5,9,60] [74] (λst=>([(10,.P 69 st.2),(61,.I st.1)],[(69,.R 1 Qb st.2)])) [1,5,9] [74] (λq=>(.exit 7,([(10,.P 69 q)],[(69,.R 1 Qb q)]))) Z (λ⟨j,a0⟩=>I 6 Z (mE_ 2 [1,5,9,60,61] [74] (λf:LI_=>([(10,.P 69 f)],[(69,.R 1 Qb f)])) (λf=>Pb j f) Z (kA_ λm=>K [11,.o (.any (.I (KB .i64 set_33 j)) none),.o (.any (.I (Gy .i64 (KB .i64 set_33 j) 1)) none),3] Z (λp=>(a2_ (λσ h u _=>Stp.shr Z Z (Xk p.n Z) (h _ _ Z) (h _ _ Z) (Xd m)) (λσ h u _=>Stp.andB Z Z (Xk p.n Z) (h _ _ Z) (h _ _ Z))))<|I 0 Z (pA_ 3 1 Qb Z<|P 3 Z Z)<|P 2 Z Z) λf=>R 4 Z)<|X 2 Z) λt=>G [5,.frz 69 (t.map Qb) [10,75] []] Z (a2_ (Kj Qq) (Kj Qq))<|pA_ 0 1 Xy Z<|R 9 Z)<|X 2 Z) λa1=>gT_ [2,.ren 74 604] Z<|P 0 Z Z)<|aD_ 2 5 604 1 Z<|P 0 Z Z) λe=>gT_ [7,.ren 604 600] Z<|E 0 Z
def Qdi:O_ (Qd×QF):=Q (c,l)
def QhE {a b}:CT 277 [.G Qf a,.G Qy b] [] (Qdi a b) (λ_=>(.clo (.func 300) [] [.L 3,.L 2])) (λr=>[(2,.W Qf r.1),(3,.W Qy r.2)]):=
 W 6 func277 Z<|E 14 Z
def Je:O_ LI_:=j_ (chk ((([]:L_ Int).length+d.length)*8<=140737488355328)) λ_=>Q (([]:L_ Int)++d)
def Wj {a}:CT 173 [.M 1 Qb a] [] (Je a) (λr=>(.P 600 r)) (λr=>[(600,.R 1 Qb r)]):=
 W 8 func173 Z<|zN_ 9 QyC (Q ([]:L_ Int)) Z (aD_ 10 2 600 1 Z<|E 0 Z)<|kA_ λb=>K [8,.O 5 (.arr 1 (([]:L_ Int).map Qb)),.S 5 (.own 5 ([]:L_ Int).length),1,.x (λσ=>σ.app 5 1 7 (([]:L_ Int)++a).length ((([]:L_ Int)++a).map Qb)),4,.ren 5 600] Z (λc=>(a3_ Z Z (Stp.appSB (by_:=8) (zs:=[.I 0]) (e:=3) (e':=3) (z':=1) (by':=8) Z Z (Xk c.n Z) Z Z Z Qq (by kernel_rfl) (by kernel_rfl) (by kernel_rfl) Z (by decide) (by decide) (QiL b Qq) Z Kz (UJ Qq))))<|E 0 Z
def Cd:O_ Int:=bif (g<a)then Q 0 else Q (Qe ((Qe (min2 (IntKind.u64.wrap ((IntKind.u64.wrap g)-(IntKind.u64.wrap a))) 1024))+1))
def Qkm {a b}:CT 309 [.I a,.I b] [] (Cd a b) V.I no_:=
 W 16 func309 Z<|I 13 Z (E 7 Z)<|K [5,.o (.any (.i .u64 (IntKind.u64.wrap b)) none),1,.o (.any (.i .u64 (IntKind.u64.wrap a)) none),2,.o (.any (.I (Qe (min2 (IntKind.u64.wrap ((IntKind.u64.wrap b)-(IntKind.u64.wrap a))) 1024))) none),5] Z (λd=>(a3_ (λσ c e _=>Stp.convI Z Z (Xk d.n Z) (c _ _ Z) Qkd QhA) (λσ c e _=>Stp.convI Z Z (Xk d.n Z) (c _ _ Z) Qkd QhA) (λσ c e _=>Stp.convI Z Z (Xk d.n Z) (c _ _ Z) QhA Qkd)))<|E 0 Z
def UK:O_ Bool:=
 Q (bif (97<=a)then((a<=122)||((65<=a)&&(a<=90)))else((65<=a)&&(a<=90)))
def Qaa {d}:CT 286 [.i .u8 d] [] (UK d) V.b no_:=
 W 17 func286 Z<|T 6 [] [] ([(2,.b (bif (97<=d)then((d<=122)||((65<=d)&&(d<=90)))else((65<=d)&&(d<=90))))],[]) Z (H 4 Z (λa=>H 4 Z (λc=>Y 9 2 Z (LC a (KO c Z))) λc=>H 3 Z (λe=>Y 6 2 Z (LC a (Yv c (XB e Z)))) λe=>Y 6 2 Z (LC a (Yv c (Yh e Z)))) λa=>H 7 Z (λf=>Y 6 2 Z (Qar a (XB f Z))) λf=>Y 6 2 Z (Qar a (Yh f Z)))<|E 2 Z
def HW (a:ByteArray):O_ Bool:=bif (Ko a (⟨#[]⟩:ByteArray))then Q true else bif (32<(a.size:Int))then Q true else (sidx a 0).bind λb=>(UK b).bind λc=>Q (!c)
def RQ:O_ Bool:=j_ (UK a) λb=>bif (!b)then bif (a<48)then Q (a != 95)else bif (57<a)then Q (a != 95)else Q false else Q false
def RS:O_ (Int⊕(Unit⊕Unit)):=bif n then Q (i_ (y_ ()))else Q (y_ (Qe (a+1)))
def ED:O_ (Int⊕(Unit⊕Unit)):=bif (l1<(g1.size:Int))then j_ (sidx g1 l1) λb=>j_ (RQ b) (λc=>RS l1 c)else Q (i_ (i_ ()))
def RT : O_ Bool:=Q false
def RU : O_ Bool:=Q true
def RV:O_ Bool:=bif p then Q false else j_ (Qh (λst=>ED g1 st) 0) (Sum.elim (λq=>RT) (λq=>RU))
def DY:O_ Bool:=j_ (HW g1) (λb=>RV g1 b)
def RW {f}:CT 238 [.s f] [] (DY f) V.b no_:=
 W 42 func238 Z<|mV_ 7 [0] [] (λg=>([(17,.b g)],[])) Z (I 4 Z (M 11 Z)<|I 5 Z (M 6 Z)<|B λh d=>G [1,.o (.num h)] Z d<|A 0 Qaa Z λk=>M 3 Z) λg=>I 1 Z (E 7 Z)<|F 11 [0,19] [] (λst=>([(20,.I st)],[])) [] [] (λq=>(.ret,([(2,.b false)],[]))) [] [] (λq=>(.exit 0,([],[]))) Z (λi=>I 6 Z (B λe a=>G [14,.o (.num e),4] Z a<|mV_ 0 [0,19,20] [] (λc=>([(40,.b c)],[])) Z (A 2 Qaa Z λj=>I 2 Z (I 3 Z (M 9 Z)<|I 5 Z (M 4 Z)<|M 4 Z)<|M 12 Z) λc=>I 1 Z (L 8 Z)<|R 7 Z)<|X 2 Z) (λ_=>E 2 Z) (λ_=>E 8 Z)
def Pd (c:QSB):O_ Bool:=j_ (DY g1) λb=>bif (!b)then Q true else Q ((Qr c g1).getD false)
def Pe (d:QSB)(c:ByteArray)(b:Bool):O_ ((Int×QSB)⊕(Unit⊕Unit)):=bif b then Q (i_ (y_ ()))else Q (y_ ((Qe (a+1)),(XL SO d c true)))
def Dp (e:QSB):O_ ((Int×QSB)⊕(Unit⊕Unit)):=bif (m<(m1.length:Int))then j_ (idx m1 m) λa=>j_ (Pd a e) (λc=>Pe m e a c)else Q (i_ (i_ ()))
def Pf : O_ Bool:=Q false
def Pg : O_ Bool:=Q true
def AT:O_ Bool:=j_ (Qh (λst=>Dp m1 st.1 st.2) (0,([]:QSB))) (Sum.elim (λq=>Pf) (λq=>Pg))
def Qi1 {g}:CT 310 [.M 1 HR g] [] (AT g) V.b no_:=
 W 24 func310 Z<|N 15 Z<|F 4 [3,7,8] [] (λst=>([(9,.I st.1)],[(6,.map (QR V.s V.b st.2))])) [] [] (λq=>(.ret,([(2,.b false)],[]))) [] [] (λq=>(.exit 0,([],[]))) Z (λ⟨p,d⟩=>I 6 Z (J 6 Z λa=>mV_ 6 [3,5,7,8,9] [6] (λc=>([(20,.b c)],[])) Z (A 2 RW Z λi=>I 2 Z (M 5 Z)<|K [2,.o (.any (.b ((Qr d a).getD false)) none),2] Z (λj=>(a1_ (λσ h m _=>Stp.lookup (z:=false) Z Z (Xk j.n Z) (h _ _ Z) (m _ _ Z) (h _ _ Z) QbI Qf2 QvV Z)))<|M 0 Z) λc=>I 1 Z (L 9 Z)<|G [5,.x (λσ=>σ.set 6 (.map (QR V.s V.b (XL SO d a true)))),7] Z (Stp.mapUpdate (e:=V.s) (f:=V.b) (l:=d) (k:=a) (v:=true) SO Z Z Z Z Z Z QbI Qf2 Z)<|R 0 Z)<|X 2 Z) (λ_=>E 2 Z) (λ_=>E 8 Z)
def Gf : O_ Int:=Q 0
def Ce (b:QD)(a:LI_):O_ Int:=bif (b.Kind==1)then j_ (Cd b.Lo b.Hi) λe=>Q e else bif (b.Kind==2)then j_ (AT b.Names) λf=>bif f then Q (b.Names.length:Int)else Gf else bif (b.Kind==3)then bif ((0<=(min2 b.First b.Then))&&((max2 b.First b.Then)<(a.length:Int)))then j_ (idx a b.First) λc=>j_ (idx a b.Then) λd=>Q (Qe (c*d))else Gf else Gf
def Qkn {e c}:CT 289 [.G Xf e,.M 1 Qb c] [] (Ce e c) V.I no_:=
 W 51 func289 Z<|mU_ 6 [] [] ([],[]) (Gf) Z (I 13 Z (A 6 Qkm Z λj=>E 6 Z)<|I 6 Z (A 4 Qi1 Z λk=>I 2 Z (N 4 Z<|E 6 Z)<|uA_ 2 Z Z)<|I 6 Z (T 1 [1,2] [2] ([(39,.b ((0<=(min2 e.First e.Then))&&((max2 e.First e.Then)<(c.length:Int))))],[]) Z (H 8 Z (λd=>N 6 Z<|Y 3 39 Z (XB d Z)) λd=>Y 10 39 Z (Yh d Z))<|I 1 Z (B λh f=>B λi g=>D 1 Z (dz_ [(3,.B (.row (Qb h))),(4,.B (.row (Qb i))),(2,.N)]) [] [] [4] [] Z Z (a2_ (XY f) (XY g)) Z<|E 4 Z)<|uA_ 2 Z Z)<|uA_ 2 Z Z)<|E 6 Z
def Ph (a:QD)(d:QSB)(b:Int):O_ Bool:=j_ (DY a.Name) λc=>bif (!c)then Q true else bif ((Qr d a.Name).getD false)then Q true else bif (b<1)then Q true else Q (decide (1024<b))
def Pi (f:QSB)(c:QD)(a:Bool):O_ ((Int×QSB×LI_)⊕(Unit⊕LI_)):=bif a then Q (i_ (y_ ()))else j_ (chk (d.length+([b]:L_ Int).length<=4294967296)) λ_=>Q (y_ ((Qe (i+1)),(XL SO f c.Name true),(d++([b]:L_ Int))))
def Dq (g:QSB)(a:LI_):O_ ((Int×QSB×LI_)⊕(Unit⊕LI_)):=bif (m<(s.length:Int))then j_ (idx s m) λb=>j_ (Ce b a) λc=>j_ (Ph b g c) (λe=>Pi a c m g b e)else Q (i_ (i_ a))
def EE:O_ (LI_×Bool):=bif (32<(s.length:Int))then Q (([]:L_ Int),false)else j_ (Qh (λst=>Dq s st.1 st.2.1 st.2.2) (0,([]:QSB),([]:L_ Int))) (Sum.elim (λq=>Q (([]:L_ Int),false)) (λq=>Q (q,true)))
def QaF {h}:CT 241 [.M 7 Xf h] [] (EE h) (λr=>(.tup [.M 1 Qb r.1,.b r.2])) no_:=
 W 49 func241 Z<|N 10 Z<|I 3 Z (gT_ [8,.denil 2 [Q 1]] Z<|E 0 Z)<|N 17 Z<|aD_ 4 5 43 1 Z<|F 0 [4,13,14] [] (λst=>([(5,.P 43 st.2.2),(15,.I st.1)],[(12,.map (QR V.s V.b st.2.1)),(43,.R 1 Qb st.2.2)])) [] [] (λq=>(.ret,([(2,.Y),(3,.b false)],[]))) [] [] (λq=>(.exit 0,([(5,.P 43 q)],[(43,.R 1 Qb q)]))) Z (λ⟨y,g,j⟩=>I 6 Z (J 6 Z λa=>cV_ 9 [.d,.o _] Qkn Z λm=>mV_ 5 [4,5,7,8,13,14,15] [7,12,43] (λc=>([(39,.b c)],[])) Z (A 3 RW Z λp=>I 2 Z (M 14 Z)<|K [3,.o (.any (.b ((Qr g a.Name).getD false)) none),2] Z (λt=>(a1_ (λσ i u _=>Stp.lookup (z:=false) Z Z (Xk t.n Z) (i _ _ Z) (u _ _ Z) (i _ _ Z) QbI Qf2 QvV Z)))<|I 0 Z (M 8 Z)<|I 4 Z (M 4 Z)<|M 4 Z) λc=>I 1 Z (L 10 Z)<|G [7,.x (λσ=>σ.set 12 (.map (QR V.s V.b (XL SO g a.Name true)))),5] Z (Stp.mapUpdate (e:=V.s) (f:=V.b) (l:=g) (k:=a.Name) (v:=true) SO Z Z Z Z Z Z QbI Qf2 Z)<|pA_ 0 1 Qb Z<|R 8 Z)<|X 2 Z) (λ_=>gT_ [2,.denil 2 [Q 1]] Z<|E 0 Z) (λw=>zF_ 10 43 [2] [] Z<|E 0 Z)
def DO:O_ (Bool×Jd):=
 j_ (EE s) λc=>
 bif ((!c.2)||((m<0)||((s.length:Int)<=m)))then
 Q (false,(Jd.mk ([]:(L_ QD)) ([]:LI_) 0))
 else
 Q (true,(Jd.mk s c.1 m))
def VR {e d}:CT 218 [.M 7 Xf e,.I d] [] (DO e d) (λr=>(.tup [.G LZ r.2,.b r.1])) no_:=
 W 30 func218 Z<|A 9 QaF Z λf=>T 9 [0,1,4,6] [4] ([(24,.b ((!f.2)||((d<0)||((e.length:Int)<=d))))],[]) Z (H 4 Z (λc=>Y 10 24 Z (KO c Z)) λc=>H 4 Z (λa=>Y 6 24 Z (Yv c (KO a Z))) λa=>N 2 Z<|Y 3 24 Z (Yv c (Yv a Z)))<|I 1 Z (G [2,.v .no [Q 7,Q 1,none] (.agg (LZ (Jd.mk ([]:(L_ QD)) ([]:LI_) 0))),6] Z Z<|E 0 Z)<|E 13 Z
def Eu (b:Jd):O_ Bool:=bif (0<=a)then j_ (idx b.sizes b.k) λc=>Q (decide (a<c))else Q false
def VH:O_ Bool:=Q n
def KC (a:Jd)(b:Int):O_ Bool:=j_ (Eu b a) (λc=>VH c)
def VI {a c}:CT 235 [.G LZ a,.I c] [] (KC a c) V.b no_:=
 W 17 func235 Z<|mV_ 7 [] [] (λd=>([(4,.b d)],[])) Z (I 4 Z (J 5 Z λe=>M 5 Z)<|M 11 Z) λd=>E 2 Z
def JZ (a:Jd):O_ QD:=j_ (idx a.all a.k) λb=>Q b
def Fh {a}:CT 236 [.G LZ a] [] (JZ a) (λr=>(.G Xf r)) no_:=
 W 9 func236 Z<|J 12 Z λb=>E 5 Z
def Cx:O_ Bool:=bif (!g4.1)then Q true else j_ (KC g4.2 h0) λa=>Q (!a)
def Cy (e:Bool):O_ (Int×Bool):=bif e then Q (0,false)else j_ (JZ g4.2) λa=>bif (a.Kind==1)then j_ (JZ g4.2) λb=>Q ((Qe (b.Lo+h0)),true)else Q (h0,true)
def DC:O_ (Int×Bool):=j_ (DO s m) λb=>j_ (Cx b j1) (λe=>Cy b j1 e)
def QhF {f g h}:CT 174 [.M 7 Xf f,.I g,.I h] [] (DC f g h) (λr=>(.tup [.I r.1,.b r.2])) no_:=
 W 36 func174 Z<|A 10 VR Z λl=>mV_ 11 [2,8] [8] (λi=>([(16,.b i)],[])) Z (I 4 Z (M 7 Z)<|A 2 VI Z λj=>M 4 Z) λi=>I 1 Z (E 9 Z)<|A 3 Fh Z λa=>K [.o (.any (.I a.Kind) none),4] Z (λc=>(a1_ (λσ d k _=>Stp.field Z Z (Xk c.n Z) (d _ _ Z) Qw7 Z)))<|I 0 Z (A 3 Fh Z λe=>K [.o (.any (.I e.Lo) none),9] Z (λc=>(a1_ (λσ d k _=>Stp.field Z Z (Xk c.n Z) (d _ _ Z) Qw8 Z)))<|E 0 Z)<|E 11 Z
def DZ:O_ ((Int×LI_)⊕(Unit⊕LI_)):=bif (k<(l.Vars.length:Int))then j_ (idx l.Vars k) λf=>j_ (idx k1 k) λg=>j_ (DC f0.Colours f.Colour g) λe=>bif (!e.2)then Q (i_ (y_ ()))else j_ (idx e0 k) λi=>Q (y_ ((Qe (k+1)),(e0.set k.toNat e.1)))else Q (i_ (i_ e0))
def Ga:O_ (LI_×Int):=
 bif ((b<0)||((c.Tasks.length:Int)<=b))then
 Q (([]:L_ Int),3)
 else
 j_ (idx c.Tasks b) λa=>
 bif ((j.length:Int) != (a.Vars.length:Int))then
 Q (([]:L_ Int),1)
 else
 j_ (chk (decide (0<=(a.Vars.length:Int))&&decide ((a.Vars.length:Int)<=(a.Vars.length:Int))&&decide ((a.Vars.length:Int)<=4294967296))) λ_=>
 j_ (Qh (λst=>DZ a j c st.1 st.2) (0,(List.replicate (a.Vars.length:Int).toNat (0:Int)))) (Sum.elim (λq=>Q (([]:L_ Int),1)) (λq=>Q (q,0)))
def Qav {t e f}:CT 118 [.G Qf t,.I e,.M 1 Qb f] [] (Ga t e f) (λr=>(.tup [.M 1 Qb r.1,.I r.2])) no_:=
 W 64 func118 Z<|T 9 [1,2,3] [3] ([(22,.b ((e<0)||((t.Tasks.length:Int)<=e)))],[]) Z (H 4 Z (λi=>Y 7 22 Z (KO i Z)) λi=>N 3 Z<|Y 3 22 Z (Yv i Z))<|I 1 Z (gT_ [8,.denil 6 [Q 1]] Z<|E 0 Z)<|J 7 Z λj=>N 9 Z<|N 1 Z<|I 3 Z (gT_ [8,.denil 6 [Q 1]] Z<|E 0 Z)<|N 5 Z<|kA_ λk=>g2_ [.o (.rows ((List.replicate (j.Vars.length:Int).toNat (0:Int)).map Qb)),.S 36 (.own 36 (List.replicate (j.Vars.length:Int).toNat (0:Int)).length),7] Z ⟨k,QeM Z⟩ (by simp)<|N 0 Z<|F 4 [2,3,37,38] [3] (λst=>([(9,.P 36 st.2),(39,.I st.1)],[(36,.R 1 Qb st.2)])) [] [] (λq=>(.ret,([(6,.Y),(7,.I 1)],[]))) [] [] (λq=>(.exit 0,([(9,.P 36 q)],[(36,.R 1 Qb q)]))) Z (λ⟨l,m⟩=>I 6 Z (J 7 Z λw=>B λu p=>B λg s=>D 7 Z (dz_ [(6,.B (.row (Qb u))),(1,.B (.C3 (.tup [.I g.1,.b g.2]))),(4,.N)]) [] [] [2,3,9,10,12,13,37,38,39] [3,36] Z Z (a2_ (XY p) (QhF _ s)) Z<|I 8 Z (L 10 Z)<|B λv h=>g3_ [7,.st (Qb v) ((m.set l.toNat g.1).map Qb),7,.S 9 (.own 36 (m.set l.toNat g.1).length)] Z (Ym h Z) ⟨(XN (Yo h).2),WG Z⟩ (congrArg (λn=>V.own 36 n) (by simp))<|R 0 Z)<|X 2 Z) (λ_=>gT_ [2,.denil 6 [Q 1]] Z<|E 0 Z) (λx=>zF_ 10 36 [6] [] Z<|E 0 Z)
def YZ (c:Qd)(f:QMk)(a:Int)(b:LI_):O_ (Int×Xl):=(Ga c a b).bind λd=>bif (d.2 != 0)then Q (d.2,(Xl.mk (Qd.mk ([]:(L_ QD)) ([]:(L_ Xb)) ([]:(L_ QF)) 0 0) ([]:QMk) (QF.mk (⟨#[]⟩:ByteArray) ([]:(L_ Ju)) (Qm.mk 0 0 ([]:(L_ Qm))) 0 0 ([]:(L_ XT)) ([]:(L_ XT)) ([]:LI_) 0 (0,0,0)) ([]:LI_)))else (idx c.Tasks a).bind λe=>Q (0,(Xl.mk c f e d.1))
def Qdj {f g b c}:CT 113 [.G Qf f,.M 1 Qk g,.I b,.M 1 Qb c] [] (YZ f g b c) (λr=>(.tup [.G Jm r.2,.I r.1])) no_:=
 W 32 func113 Z<|A 12 Qav Z λh=>I 14 Z (G [2,.v .no [Q 7,Q 3,Q 14,none,none,Q 1,none,Q 2,none,none,Q 3,none,none,Q 4,Q 4,Q 1,none,none,none,none,Q 1] (.agg (Jm (Xl.mk (Qd.mk ([]:(L_ QD)) ([]:(L_ Xb)) ([]:(L_ QF)) 0 0) ([]:QMk) (QF.mk (⟨#[]⟩:ByteArray) ([]:(L_ Ju)) (Qm.mk 0 0 ([]:(L_ Qm))) 0 0 ([]:(L_ XT)) ([]:(L_ XT)) ([]:LI_) 0 (0,0,0)) ([]:LI_)))),7] Z Z<|E 0 Z)<|B λe d=>D 3 Z (dz_ [(5,.B (.row (Qy e))),(3,.m .s),(0,.m .s)]) [] [] [8,9] [8] Z Z (a1_ (XY d)) Z<|E 2 Z
def Ts:O_ ((Int×Int)⊕Int):=bif (i3<(q.Kids.length:Int))then j_ (idx q.Kids i3) λe=>j_ (m3 e) λb=>Q (y_ ((max2 m0 b),(Qe (i3+1))))else Q (i_ m0)
def Qdk:O_ Int:=Q (Qe (a+1))
def NT:O_ Int:=j_ (Qh (λst=>Ts f4 m3 st.1 st.2) (0,0)) (λq=>Qdk q)
def Wb : Nat->Qm->O_ Int
 | 0,_=>none
 | n+1,a=>NT (Wb n) a
def Tt:O_ Int:=Wb (SizeOf.sizeOf q) q
def Qi4 {O:Qm->O_ Int}{hrec_expr_Depth:∀(a:Qm) {r:Int},O a=Q r->QN prog 253 [.G QO a] [] (Gives (.I r) [])}{a:Qm}:CT 253 [.G QO a] [] (NT O a) V.I no_:=
 W 20 func253 Z<|nR_ 16 Aw Z<|lA_ 4 [7,8] [] (λst=>([(3,.I st.1),(9,.I st.2)],[])) [] [] (λq=>(.exit 0,([(3,.I q)],[]))) Z (λ⟨g,h⟩=>I 6 Z (xR_ 6 JI Z λi f=>B λe b=>G [8,.o (.C1 (.I e)),9] Z (hrec_expr_Depth _ b)<|R 0 Z)<|X 2 Z) λj=>E 10 Z
def QaG : ∀(fuel:Nat) (a:Qm) {r:Int},Wb fuel a=Q r->QN prog 253 [.G QO a] [] (Gives (.I r) [])
 | 0,_,_,h=>by cases h
 | n+1,a,_,h=>@Qi4 (Wb n) (λ_ _ h=>QaG n _ h) a _ h
def Qmn (a){r}(h:Tt a=Q r):QN prog 253 [.G QO a] [] (Gives (.I r) []):=QaG _ a h
def VS:O_ ((Int×Int)⊕Int):=bif (i3<(q.Kids.length:Int))then j_ (idx q.Kids i3) λe=>j_ (m3 e) λb=>Q (y_ ((Qe (m0+b)),(Qe (i3+1))))else Q (i_ m0)
def QeR:O_ Int:=Q a
def Ra:O_ Int:=j_ (Qh (λst=>VS f4 m3 st.1 st.2) (1,0)) (λq=>QeR q)
def WZ : Nat->Qm->O_ Int
 | 0,_=>none
 | n+1,a=>Ra (WZ n) a
def ZF:O_ Int:=WZ (SizeOf.sizeOf q) q
def Qko {O:Qm->O_ Int}{hrec_expr_Size:∀(a:Qm) {r:Int},O a=Q r->QN prog 254 [.G QO a] [] (Gives (.I r) [])}{a:Qm}:CT 254 [.G QO a] [] (Ra O a) V.I no_:=
 W 19 func254 Z<|nR_ 16 Aw Z<|lA_ 4 [7,8] [] (λst=>([(3,.I st.1),(9,.I st.2)],[])) [] [] (λq=>(.exit 0,([(3,.I q)],[]))) Z (λ⟨g,h⟩=>I 6 Z (xR_ 6 JI Z λi f=>B λe b=>G [8,.o (.C1 (.I e)),9] Z (hrec_expr_Size _ b)<|R 0 Z)<|X 2 Z) λj=>E 9 Z
def QbR : ∀(fuel:Nat) (a:Qm) {r:Int},WZ fuel a=Q r->QN prog 254 [.G QO a] [] (Gives (.I r) [])
 | 0,_,_,h=>by cases h
 | n+1,a,_,h=>@Qko (WZ n) (λ_ _ h=>QbR n _ h) a _ h
def Qoj (a){r}(h:ZF a=Q r):QN prog 254 [.G QO a] [] (Gives (.I r) []):=QbR _ a h
def AU:O_ Int:=bif n then Q 1 else bif (a==5)then Q 2 else bif (a==6)then Q 3 else Q (-1)
def AV:O_ Int:=bif n then Q 0 else bif (a==3)then AU a (a==3)else AU a (a==4)
def PI:O_ Int:=bif (a==1)then AV a (a==1)else AV a (a==2)
def Qok {a}:CT 291 [.I a] [] (PI a) V.I no_:=
 W 14 func291 Z<|mE_ 12 [3] [] (λc:Bool=>([(4,.b c)],[])) (λc=>AV a c) Z (I 6 Z (P 1 Z Z)<|P 4 Z Z) λc=>I 0 Z (E 8 Z)<|mE_ 0 [3] [] (λd:Bool=>([(7,.b d)],[])) (λd=>AU a d) Z (I 6 Z (P 1 Z Z)<|P 4 Z Z) λd=>I 0 Z (E 8 Z)<|I 6 Z (E 8 Z)<|I 6 Z (E 8 Z)<|E 9 Z
def Nf:O_ Bool:=Q ((1<=a)&&(a<=11))
def Qmo {Jy}:CT 292 [.I Jy] [] (Nf Jy) V.b no_:=
 W 9 func292 Z<|T 6 [] [] ([(2,.b ((1<=Jy)&&(Jy<=11)))],[]) Z (H 4 Z (λa=>Y 5 2 Z (XB a Z)) λa=>Y 5 2 Z (Yh a Z))<|E 2 Z
def NU:O_ Bool:=j_ (i2 j2 f2) λc=>Q (!c)
def Qi5 {O:Qm->Int->O_ Bool}{hrec_expr_parts:∀(g:Qm) (a:Int) {r:Bool},O g a=Q r->QN prog 255 [.G QO g,.I a] [] (Gives (.b r) [])}{h:Qm}{e:Int}:CT 294 [.G QO h,.L 621] [(621,.W Qb e)] (NU O h e) V.b (λ_=>[(621,.W Qb e)]):=
 W 8 func294 Z<|B λi f=>G [10,.o (.C2 (.b i)),5] Z (hrec_expr_parts _ _ f)<|E 0 Z
def XP (h:Qm->Int->O_ Bool)(d:Int)(a:Int):O_ (Int⊕(Int⊕Unit)):=bif (a<(i4.length:Int))then j_ (idx i4 a) λe=>j_ (NU h e d) λb=>bif b then Q (i_ (y_ a))else Q (y_ (Qe (a+1)))else Q (i_ (i_ ()))
def JJ:O_ Int:=j_ (Qh (λst=>XP i4 i2 g2 st) 0) (Sum.elim (λq=>Q q) (λq=>Q (-1)))
def Le {O:Qm->Int->O_ Bool}{hrec_expr_parts:∀(g:Qm) (a:Int) {r:Bool},O g a=Q r->QN prog 255 [.G QO g,.I a] [] (Gives (.b r) [])}{h:(L_ Qm)}{e:Int}:CT 311 [.sl 3 (Ke h),.clo (.func 294) [] [.L 621]] [(621,.W Qb e)] (JJ O h e) V.I (λ_=>[(621,.W Qb e)]):=
 W 19 func311 Z<|nR_ 9 Aw Z<|F 4 [0,1,7] [621] (λst=>([(8,.I st)],[])) [] [621] (λq=>(.ret,([(4,.I q)],[]))) [] [621] (λq=>(.exit 0,([],[]))) Z (λj=>I 6 Z (xR_ 15 JI Z λk i=>B λf c=>G [1,.cm (.clo) [(621,621)] [(621,621)] [] [.d,.d] [(621,.W Qb e)] (.b f),2] Z (@Qi5 O hrec_expr_parts _ _ _ c)<|I 0 Z (L 9 Z)<|R 7 Z)<|X 2 Z) (λl=>E 2 Z) (λ_=>E 8 Z)
def XQ:O_ Bool:=j_ (JJ i2 i4 g2) λc=>Q (decide (0<=c))
def FY {O:Qm->Int->O_ Bool}{hrec_expr_parts:∀(f:Qm) (a:Int) {r:Bool},O f a=Q r->QN prog 255 [.G QO f,.I a] [] (Gives (.b r) [])}{g:(L_ Qm)}{c:Int}:CT 293 [.sl 3 (Ke g),.clo (.func 294) [] [.L 621]] [(621,.W Qb c)] (XQ O g c) V.b (λ_=>[(621,.W Qb c)]):=
 W 9 func293 Z<|B λh e=>G [9,.cm (.fn) [(621,621)] [(621,621)] [] [.d,.d] [(621,.W Qb c)] (.I h),5] Z (@Le O hrec_expr_parts _ _ _ e)<|E 0 Z
def Tu:O_ Bool:=bif (q.Kind==5)then j_ (Nf q.Num) λa=>Q (!a)else Q false
def Tv:O_ Bool:=bif p then Q false else j_ (XQ i2 j2.Kids f2) λc=>Q (!c)
def FZ:O_ Bool:=
 j_ (PI j2.Kind) λd=>
 bif ((j2.Kids.length:Int) != d)then
 Q false
 else
 bif ((j2.Kind==2)&&((j2.Num<0)||(f2<=j2.Num)))then
 Q false
 else
 j_ (Tu j2) (λc=>Tv i2 j2 f2 c)
def YU : Nat->Qm->Int->O_ Bool
 | 0,_,_=>none
 | n+1,b,a=>FZ (YU n) b a
def Tw:O_ Bool:=YU (SizeOf.sizeOf q) q l1
def Qi6 {O:Qm->Int->O_ Bool}{hrec_expr_parts:∀(f:Qm) (e:Int) {r:Bool},O f e=Q r->QN prog 255 [.G QO f,.I e] [] (Gives (.b r) [])}{f:Qm}{e:Int}:CT 255 [.G QO f,.I e] [] (FZ O f e) V.b no_:=
 W 43 func255 Z<|B λm k=>D 10 Z [.N,.N,.B (.ln f.Kids.length),.N,.N,.B (.C1 (.I m)),.N,.N] [] [] [2,3,5] [2,3] Z Z (a2_ (Aw _) (Qok _ k)) Z<|I 1 Z (E 8 Z)<|T 1 [2,3] [2,3] ([(13,.b ((f.Kind==2)&&((f.Num<0)||(e<=f.Num))))],[]) Z (H 5 Z (λg=>H 4 Z (λh=>Y 8 13 Z (XB g (KO h Z))) λh=>Y 8 13 Z (XB g (Yv h Z))) λg=>Y 12 13 Z (Yh g Z))<|I 1 Z (E 8 Z)<|mV_ 1 [2,3] [2,3] (λi=>([(28,.b i)],[])) Z (I 5 Z (A 2 Qmo Z λo=>M 4 Z)<|M 7 Z) λi=>I 1 Z (E 8 Z)<|B λl j=>G [8,.cm (.fn) [(621,3)] [(3,621)] [] [.d,.d] [(621,.W Qb e)] (.b l),5] Z (@FY O hrec_expr_parts _ _ _ j)<|E 0 Z
def QaH : ∀(fuel:Nat) (c:Qm) (a:Int) {r:Bool},YU fuel c a=Q r->QN prog 255 [.G QO c,.I a] [] (Gives (.b r) [])
 | 0,_,_,_,h=>by cases h
 | n+1,c,a,_,h=>@Qi6 (YU n) (λ_ _ _ h=>QaH n _ _ h) c a _ h
def Qmp (c a){r}(h:Tw c a=Q r):QN prog 255 [.G QO c,.I a] [] (Gives (.b r) []):=QaH _ c a h
def Tz:O_ Bool:=j_ (Tt q) λd=>bif (d<=40)then j_ (ZF q) λe=>bif (e<=400)then j_ (Tw q l1) λc=>Q c else Q false else Q false
def Up:O_ Bool:=j_ (Tz q l1) (λc=>Q c)
def TA {i a}:CT 210 [.G QO i,.I a] [] (Up i a) V.b no_:=
 W 18 func210 Z<|mV_ 7 [] [] (λj=>([(4,.b j)],[])) Z (B λk f=>G [2,.o (.C1 (.I k)),2] Z (Qmn _ f)<|I 0 Z (B λl g=>G [1,.o (.C1 (.I l)),3] Z (Qoj _ g)<|I 0 Z (B λh e=>G [2,.o (.C2 (.b h)),3] Z (Qmp _ _ e)<|M 0 Z)<|M 6 Z)<|M 11 Z) λj=>E 2 Z
def Kw:O_ (LI_⊕(LI_⊕(LI_⊕(LI_⊕LI_)))):=bif p then Q (i_ (i_ (y_ d)))else bif (b==5)then Q (i_ (i_ (i_ (y_ d))))else Q (i_ (i_ (i_ (i_ d))))
def Wk:O_ (LI_⊕(LI_⊕(LI_⊕(LI_⊕LI_)))):=bif (b==1)then Q (y_ d)else bif (b==2)then Q (i_ (y_ d))else bif (b==3)then Kw d b (b==3)else Kw d b (b==4)
def Uq {d a}:CP 285 [.M 1 Qb d,.I a] [] (Wk d a) ((Sum.elim (λq=>(Gives (.clo (.func 302) [.M 1 Qb q] []) [])) (Sum.elim (λq=>(Gives (.clo (.func 303) [.M 1 Qb q] []) [])) (Sum.elim (λq=>(Gives (.clo (.func 304) [.M 1 Qb q] []) [])) (Sum.elim (λq=>(Gives (.clo (.func 305) [.M 1 Qb q] []) [])) (λq=>(Gives (.clo (.func 306) [.M 1 Qb q] []) []))))))):=
 wP_ 25 func285 Z<|I 18 Z (E 10 Z)<|I 6 Z (E 10 Z)<|mE_ 0 [0,5] [] (λc:Bool=>([(14,.b c)],[])) (λc=>Kw d a c) Z (I 6 Z (P 1 Z Z)<|P 4 Z Z) λc=>I 0 Z (E 10 Z)<|I 6 Z (E 10 Z)<|E 11 Z
def QaI (b:LI_)(a:Qm):O_ (Int×Int):=Q (a.Num,0)
def Qf3 {a b}:CT 302 [.M 1 Qb a,.G QO b] [] (QaI a b) (λr=>(.tup [.I r.1,.I r.2])) no_:=
 W 8 func302 Z<|E 16 Z
def BB:O_ (Int×Int):=j_ (idx d q.Num) λc=>Q (c,0)
def Qeu {a b}:CT 303 [.M 1 Qb a,.G QO b] [] (BB a b) (λr=>(.tup [.I r.1,.I r.2])) no_:=
 W 11 func303 Z<|J 12 Z λc=>E 6 Z
def HX:O_ (Int×Int):=bif (((decide (a<0))==(decide (g<0)))&&((decide ((Qe (a+g))<0)) != (decide (a<0))))then Q (0,6)else Q ((Qe (a+g)),0)
def QpW {c d}:CT 329 [.I c,.I d] [] (HX c d) (λr=>(.tup [.I r.1,.I r.2])) no_:=
 W 23 func329 Z<|T 16 [6] [] ([(21,.b (((decide (c<0))==(decide (d<0)))&&((decide ((Qe (c+d))<0)) != (decide (c<0)))))],[]) Z (H 7 Z (λa=>Y 7 21 Z (XB a Z)) λa=>Y 7 21 Z (Yh a Z))<|I 1 Z (E 8 Z)<|E 10 Z
def Dt:O_ (Int×Int):=bif (((decide (a<0)) != (decide (g<0)))&&((decide ((Qe (a-g))<0)) != (decide (a<0))))then Q (0,6)else Q ((Qe (a-g)),0)
def Qf4 {c d}:CT 330 [.I c,.I d] [] (Dt c d) (λr=>(.tup [.I r.1,.I r.2])) no_:=
 W 23 func330 Z<|T 16 [6] [] ([(21,.b (((decide (c<0)) != (decide (d<0)))&&((decide ((Qe (c-d))<0)) != (decide (c<0)))))],[]) Z (H 7 Z (λa=>Y 7 21 Z (XB a Z)) λa=>Y 7 21 Z (Yh a Z))<|I 1 Z (E 8 Z)<|E 10 Z
def Fi:O_ Int:=bif (a<0)then Q (IntKind.u64.wrap (0-(IntKind.u64.wrap a)))else Q (IntKind.u64.wrap a)
def QeS {a}:CT 336 [.I a] [] (Fi a) (λr=>(.i .u64 r)) no_:=
 W 10 func336 Z<|I 12 Z (K [3,.o (.any (.i .u64 (IntKind.u64.wrap a)) none),6] Z (λb=>(a1_ (λσ c d _=>Stp.convI Z Z (Xk b.n Z) (c _ _ Z) Qkd QhA)))<|E 0 Z)<|K [5,.o (.any (.i .u64 (IntKind.u64.wrap a)) none),4] Z (λb=>(a1_ (λσ c d _=>Stp.convI Z Z (Xk b.n Z) (c _ _ Z) Qkd QhA)))<|E 0 Z
def GX:O_ (Int×Int):=Q ((IntKind.u64.wrap ((IntKind.u64.wrap ((IntKind.u64.wrap ((KB .u64 a 32)*(KB .u64 g 32)))+(KB .u64 (IntKind.u64.wrap ((IntKind.u64.wrap ((KB .u64 a 32)*(Gy .u64 g 4294967295)))+(KB .u64 (IntKind.u64.wrap ((Gy .u64 a 4294967295)*(Gy .u64 g 4294967295))) 32))) 32)))+(KB .u64 (IntKind.u64.wrap ((Gy .u64 (IntKind.u64.wrap ((IntKind.u64.wrap ((KB .u64 a 32)*(Gy .u64 g 4294967295)))+(KB .u64 (IntKind.u64.wrap ((Gy .u64 a 4294967295)*(Gy .u64 g 4294967295))) 32))) 4294967295)+(IntKind.u64.wrap ((Gy .u64 a 4294967295)*(KB .u64 g 32))))) 32))),(IntKind.u64.wrap (a*g)))
def Qf5 {b c}:CT 335 [.i .u64 b,.i .u64 c] [] (GX b c) (λr=>(.tup [.i .u64 r.1,.i .u64 r.2])) no_:=
 W 51 func335 Z<|K [9,.o (.any (.i .u64 (Gy .u64 b 4294967295)) none),6,.o (.any (.i .u64 (KB .u64 b 32)) none),6,.o (.any (.i .u64 (Gy .u64 c 4294967295)) none),6,.o (.any (.i .u64 (KB .u64 c 32)) none),17,.o (.any (.i .u64 (KB .u64 (IntKind.u64.wrap ((Gy .u64 b 4294967295)*(Gy .u64 c 4294967295))) 32)) none),7,.o (.any (.i .u64 (Gy .u64 (IntKind.u64.wrap ((IntKind.u64.wrap ((KB .u64 b 32)*(Gy .u64 c 4294967295)))+(KB .u64 (IntKind.u64.wrap ((Gy .u64 b 4294967295)*(Gy .u64 c 4294967295))) 32))) 4294967295)) none),6,.o (.any (.i .u64 (KB .u64 (IntKind.u64.wrap ((IntKind.u64.wrap ((KB .u64 b 32)*(Gy .u64 c 4294967295)))+(KB .u64 (IntKind.u64.wrap ((Gy .u64 b 4294967295)*(Gy .u64 c 4294967295))) 32))) 32)) none),21,.o (.any (.i .u64 (KB .u64 (IntKind.u64.wrap ((Gy .u64 (IntKind.u64.wrap ((IntKind.u64.wrap ((KB .u64 b 32)*(Gy .u64 c 4294967295)))+(KB .u64 (IntKind.u64.wrap ((Gy .u64 b 4294967295)*(Gy .u64 c 4294967295))) 32))) 4294967295)+(IntKind.u64.wrap ((Gy .u64 b 4294967295)*(KB .u64 c 32))))) 32)) none),13] Z (λd=>(a8_ (λσ a e _=>Stp.andB Z Z (Xk d.n Z) (a _ _ Z) (a _ _ Z)) (λσ a e _=>Stp.shr Z Z (Xk d.n Z) (a _ _ Z) (a _ _ Z) (by decide)) (λσ a e _=>Stp.andB Z Z (Xk d.n Z) (a _ _ Z) (a _ _ Z)) (λσ a e _=>Stp.shr Z Z (Xk d.n Z) (a _ _ Z) (a _ _ Z) (by decide)) (λσ a e _=>Stp.shr Z Z (Xk d.n Z) (a _ _ Z) (a _ _ Z) (by decide)) (λσ a e _=>Stp.andB Z Z (Xk d.n Z) (a _ _ Z) (a _ _ Z)) (λσ a e _=>Stp.shr Z Z (Xk d.n Z) (a _ _ Z) (a _ _ Z) (by decide)) (λσ a e _=>Stp.shr Z Z (Xk d.n Z) (a _ _ Z) (a _ _ Z) (by decide))))<|E 0 Z
def Du (b:(Int×Int))(c:Int)(d:Int)(a:Int):O_ (Int×Int):=
 bif ((0<b.1)||(a<b.2))then
 Q (0,6)
 else
 Q ((Qe (c*d)),0)
def AW:O_ (Int×Int):=j_ (Fi a) λd=>j_ (Fi g) λe=>j_ (GX d e) λc=>bif ((decide (a<0)) != (decide (g<0)))then Du c a g (IntKind.u64.wrap (9223372036854775807+1))else Du c a g 9223372036854775807
def Qi7 {d e}:CT 331 [.I d,.I e] [] (AW d e) (λr=>(.tup [.I r.1,.I r.2])) no_:=
 W 34 func331 Z<|A 9 QeS Z λg=>A 1 QeS Z λh=>A 0 Qf5 Z λf=>mE_ 12 [0,1,6,7] [] (λa:Int=>([(8,.i .u64 a)],[])) (λa=>Du f d e a) Z (I 9 Z (P 5 Z Z)<|P 1 Z Z) λa=>T 2 [0,1] [] ([(30,.b ((0<f.1)||(a<f.2)))],[]) Z (H 4 Z (λc=>Y 5 30 Z (KO c Z)) λc=>Y 5 30 Z (Yv c Z))<|I 1 Z (E 8 Z)<|E 12 Z
def Wl:O_ (Int×Int×Int):=bif (g==0)then Q (0,0,7)else bif ((a==(-9223372036854775808))&&(g==(-1)))then Q (0,0,6)else j_ (chk (g != 0)) λ_=>j_ (chk (g != 0)) λ_=>Q ((Qe (Int.tdiv a g)),(Int.tmod a g),0)
def Qab {e f}:CT 332 [.I e,.I f] [] (Wl e f) (λr=>(.tup [.I r.1,.I r.2.1,.I r.2.2])) no_:=
 W 23 func332 Z<|I 16 Z (E 10 Z)<|T 1 [0,1] [] ([(10,.b ((e==(-9223372036854775808))&&(f==(-1))))],[]) Z (H 4 Z (λa=>Y 5 10 Z (XB a Z)) λa=>Y 5 10 Z (Yh a Z))<|I 1 Z (E 10 Z)<|kA_ λc=>kA_ λd=>D 4 Z [.N,.N,.N,.N,.N,.N,.N,.N,.N] [] [] [4,5,6] [] Z Z (a2_ (neZ c) (neZ d)) Z<|E 2 Z
def Kf:O_ (Int×Int):=bif n then Q (1,0)else Q (0,0)
def Ef {a}:CT 333 [.b a] [] (Kf a) (λr=>(.tup [.I r.1,.I r.2])) no_:=
 W 5 func333 Z<|I 12 Z (E 8 Z)<|E 9 Z
def TB:O_ (Int×Int):=bif (a != 0)then j_ (Kf (g != 0)) λc=>Q (c.1,c.2)else j_ (Kf false) λb=>Q (b.1,b.2)
def QbS:O_ (Int×Int):=Q (a,g)
def TC:O_ (Int×Int):=bif (a != 0)then j_ (Kf true) λc=>Q (c.1,c.2)else j_ (Kf (g != 0)) λb=>Q (b.1,b.2)
def QbT:O_ (Int×Int):=Q (a,g)
def Ka:O_ (Int×Int):=bif (a==1)then j_ (HX g b) λk=>Q (k.1,k.2)else bif (a==2)then j_ (Dt g b) λc=>Q (c.1,c.2)else bif (a==3)then j_ (AW g b) λd=>Q (d.1,d.2)else bif (a==4)then j_ (Wl g b) λe=>Q (e.1,e.2.2)else bif (a==5)then j_ (Wl g b) λf=>Q (f.2.1,f.2.2)else bif (a==6)then j_ (Kf (g==b)) λl=>Q (l.1,l.2)else bif (a==7)then j_ (Kf (g != b)) λh=>Q (h.1,h.2)else bif (a==8)then j_ (Kf (decide (g<b))) λi=>Q (i.1,i.2)else bif (a==9)then j_ (Kf (decide (g<=b))) λj=>Q (j.1,j.2)else bif (a==10)then j_ (TB g b) (λv=>QbS v.1 v.2)else bif (a==11)then j_ (TC g b) (λv=>QbT v.1 v.2)else Q (0,1)
def TD {Jy a b}:CT 319 [.I Jy,.I a,.I b] [] (Ka Jy a b) (λr=>(.tup [.I r.1,.I r.2])) no_:=
 W 112 func319 Z<|I 19 Z (A 4 QpW Z λt=>E 9 Z)<|I 6 Z (A 4 Qf4 Z λc=>E 9 Z)<|I 6 Z (A 4 Qi7 Z λd=>E 9 Z)<|I 6 Z (A 4 Qab Z λe=>E 20 Z)<|I 6 Z (A 4 Qab Z λf=>E 20 Z)<|I 6 Z (A 5 Ef Z λg=>E 9 Z)<|I 6 Z (A 5 Ef Z λh=>E 9 Z)<|I 6 Z (A 5 Ef Z λi=>E 9 Z)<|I 6 Z (A 5 Ef Z λj=>E 9 Z)<|I 6 Z (mV_ 1 [] [] (λv=>([(6,.I v.1),(7,.I v.2)],[])) Z (I 4 Z (A 3 Ef Z λk=>M 5 Z)<|A 3 Ef Z λl=>M 5 Z) λ⟨m,n⟩=>E 4 Z)<|I 6 Z (mV_ 1 [] [] (λv=>([(6,.I v.1),(7,.I v.2)],[])) Z (I 4 Z (A 3 Ef Z λo=>M 5 Z)<|A 3 Ef Z λp=>M 5 Z) λ⟨q,s⟩=>E 4 Z)<|E 10 Z
def TE:O_ (Int×Int):=j_ (Ka 2 0 a) λb=>Q (b.1,b.2)
def QpX {a}:CT 318 [.I a] [] (TE a) (λr=>(.tup [.I r.1,.I r.2])) no_:=
 W 8 func318 Z<|A 9 TD Z λb=>E 7 Z
def Ah:O_ (Int×Int):=j_ (idx e2.Kids 0) λf=>j_ (g3 e3 f) λc=>bif (c.2 != 0)then Q (0,c.2)else bif (e2.Kind==3)then j_ (TE c.1) λa=>Q (a.1,a.2)else j_ (Ka 6 c.1 0) λb=>Q (b.1,b.2)
def Qf6 {O:LI_->Qm->O_ (Int×Int)}{hrec_expr_env_eval:∀(a:LI_) (b:Qm) {r:(Int×Int)},O a b=Q r->QN prog 232 [.M 1 Qb a,.G QO b] [] (Gives (.tup [.I r.1,.I r.2]) [])}{a:LI_}{b:Qm}:CT 304 [.M 1 Qb a,.G QO b] [] (Ah O a b) (λr=>(.tup [.I r.1,.I r.2])) no_:=
 W 33 func304 Z<|xR_ 12 JI Z λj g=>B λf e=>G [1,.o (.C2 (.tup [.I f.1,.I f.2])),16] Z (hrec_expr_env_eval _ _ e)<|I 0 Z (E 10 Z)<|I 8 Z (A 3 QpX Z λh=>E 9 Z)<|A 6 TD Z λi=>E 7 Z
def Dv (f:(Int×Int))(g:Qm)(O:LI_->Qm->O_ (Int×Int))(h:LI_)(d:Bool):O_ (Int×Int):=bif d then j_ (Ka 7 f.1 0) λb=>Q (b.1,b.2)else j_ (idx g.Kids 1) λe=>j_ (O h e) λa=>bif (a.2 != 0)then Q (0,a.2)else j_ (Ka g.Num f.1 a.1) λc=>Q (c.1,c.2)
def NV:O_ (Int×Int):=j_ (idx e2.Kids 0) λd=>j_ (g3 e3 d) λa=>bif (a.2 != 0)then Q (0,a.2)else bif ((e2.Num==10)&&(a.1==0))then Dv a e2 g3 e3 ((e2.Num==10)&&(a.1==0))else bif (e2.Num==11)then Dv a e2 g3 e3 (a.1 != 0)else Dv a e2 g3 e3 false
def Qi8 {O:LI_->Qm->O_ (Int×Int)}{hrec_expr_env_eval:∀(g:LI_) (f:Qm) {r:(Int×Int)},O g f=Q r->QN prog 232 [.M 1 Qb g,.G QO f] [] (Gives (.tup [.I r.1,.I r.2]) [])}{g:LI_}{f:Qm}:CT 305 [.M 1 Qb g,.G QO f] [] (NV O g f) (λr=>(.tup [.I r.1,.I r.2])) no_:=
 W 60 func305 Z<|xR_ 12 JI Z λt m=>B λj k=>G [1,.o (.C2 (.tup [.I j.1,.I j.2])),16] Z (hrec_expr_env_eval _ _ k)<|I 0 Z (E 10 Z)<|mE_ 0 [0,3,6] [3] (λe:Bool=>([(22,.b e)],[])) (λe=>Dv j f O g e) Z (T 1 [0,3,6] [3] ([(22,.b ((f.Num==10)&&(j.1==0)))],[]) Z (H 5 Z (λa=>Y 5 22 Z (XB a Z)) λa=>Y 5 22 Z (Yh a Z))<|I 1 Z (P 1 Z Z)<|I 5 Z (P 5 Z Z)<|P 5 Z Z) λe=>I 0 Z (A 3 TD Z λp=>E 9 Z)<|xR_ 8 JI Z λq l=>B λh i=>G [1,.o (.C2 (.tup [.I h.1,.I h.2])),14] Z (hrec_expr_env_eval _ _ i)<|I 0 Z (E 9 Z)<|A 8 TD Z λs=>E 7 Z
def FE:O_ (Int×Int):=j_ (idx e2.Kids 0) λh=>j_ (g3 e3 h) λe=>bif (e.2 != 0)then Q (0,e.2)else bif (e.1 != 0)then j_ (idx e2.Kids 1) λf=>j_ (g3 e3 f) λa=>Q (a.1,a.2)else j_ (idx e2.Kids 2) λg=>j_ (g3 e3 g) λb=>Q (b.1,b.2)
def Qf7 {rec_expr_env_eval:LI_->Qm->O_ (Int×Int)}{O:∀(a:LI_) (b:Qm) {r:(Int×Int)},rec_expr_env_eval a b=Q r->QN prog 232 [.M 1 Qb a,.G QO b] [] (Gives (.tup [.I r.1,.I r.2]) [])}{a:LI_}{b:Qm}:CT 306 [.M 1 Qb a,.G QO b] [] (FE rec_expr_env_eval a b) (λr=>(.tup [.I r.1,.I r.2])) no_:=
 W 40 func306 Z<|xR_ 12 JI Z λs m=>B λj i=>G [1,.o (.C2 (.tup [.I j.1,.I j.2])),16] Z (O _ _ i)<|I 0 Z (E 10 Z)<|I 7 Z (xR_ 5 JI Z λp k=>B λe f=>G [1,.o (.C2 (.tup [.I e.1,.I e.2])),9] Z (O _ _ f)<|E 0 Z)<|xR_ 8 JI Z λq l=>B λg h=>G [1,.o (.C2 (.tup [.I g.1,.I g.2])),7] Z (O _ _ h)<|E 0 Z
def Ur:O_ (Int×Int):=j_ (BB j q) λa=>Q (a.1,a.2)
def WL:O_ (Int×Int):=j_ (Ah g3 k1 e2) λa=>Q (a.1,a.2)
def Us:O_ (Int×Int):=j_ (NV g3 k1 e2) λa=>Q (a.1,a.2)
def Ut:O_ (Int×Int):=j_ (FE g3 k1 e2) λa=>Q (a.1,a.2)
def Ai:O_ (Int×Int):=j_ (Wk e3 e2.Kind) λc=>(Sum.elim (λq=>j_ (QaI q e2) λd=>Q (d.1,d.2)) (Sum.elim (λq=>Ur e2 q) (Sum.elim (λq=>WL g3 e2 q) (Sum.elim (λq=>Us g3 e2 q) (λq=>Ut g3 e2 q))))) c
def XG : Nat->LI_->Qm->O_ (Int×Int)
 | 0,_,_=>none
 | n+1,a,b=>Ai (XG n) a b
def Mb:O_ (Int×Int):=XG (SizeOf.sizeOf q) d q
def Qf8 {O:LI_->Qm->O_ (Int×Int)}{hrec_expr_env_eval:∀(h:LI_) (i:Qm) {r:(Int×Int)},O h i=Q r->QN prog 232 [.M 1 Qb h,.G QO i] [] (Gives (.tup [.I r.1,.I r.2]) [])}{h:LI_}{i:Qm}:CT 232 [.M 1 Qb h,.G QO i] [] (Ai O h i) (λr=>(.tup [.I r.1,.I r.2])) no_:=
 W 14 func232 Z<|gP_ 8 Z<|s5_ (λz b=>B λj k=>BM 0 Z [.N,.N,.N,.B (.any (.clo (.func 302) [.M 1 Qb z] []) none),.N,.B (.C2 (.tup [.I j.1,.I j.2])),.N,.N,.m .s,.m .s] [] [] [4,5] [] Z Z (λe=>(a2_ (λσ f g _=>Stp.callSame (md:=.cm (.fn) [] [] [] [.d,.d] [] (.clo (.func 302) [.M 1 Qb z] []) []) Xg e f g Z (a1_ (Uq _ b))) (Qf3 _ k))) Z<|E 2 Z) (λC b=>B λl n=>BM 0 Z [.N,.N,.N,.B (.any (.clo (.func 303) [.M 1 Qb C] []) none),.N,.B (.C2 (.tup [.I l.1,.I l.2])),.N,.N,.m .s,.m .s] [] [] [4,5] [] Z Z (λe=>(a2_ (λσ f g _=>Stp.callSame (md:=.cm (.fn) [] [] [] [.d,.d] [] (.clo (.func 303) [.M 1 Qb C] []) []) Xg e f g Z (a1_ (Uq _ b))) (Qeu _ n))) Z<|E 2 Z) (λo b=>B λp q=>BM 0 Z [.N,.N,.N,.B (.any (.clo (.func 304) [.M 1 Qb o] []) none),.N,.B (.C2 (.tup [.I p.1,.I p.2])),.N,.N,.m .s,.m .s] [] [] [4,5] [] Z Z (λe=>(a2_ (λσ f g _=>Stp.callSame (md:=.cm (.fn) [] [] [] [.d,.d] [] (.clo (.func 304) [.M 1 Qb o] []) []) Xg e f g Z (a1_ (Uq _ b))) (@Qf6 O hrec_expr_env_eval _ _ _ q))) Z<|E 2 Z) (λt b=>B λu v=>BM 0 Z [.N,.N,.N,.B (.any (.clo (.func 305) [.M 1 Qb t] []) none),.N,.B (.C2 (.tup [.I u.1,.I u.2])),.N,.N,.m .s,.m .s] [] [] [4,5] [] Z Z (λe=>(a2_ (λσ f g _=>Stp.callSame (md:=.cm (.fn) [] [] [] [.d,.d] [] (.clo (.func 305) [.M 1 Qb t] []) []) Xg e f g Z (a1_ (Uq _ b))) (@Qi8 O hrec_expr_env_eval _ _ _ v))) Z<|E 2 Z) λw b=>B λx y=>BM 0 Z [.N,.N,.N,.B (.any (.clo (.func 306) [.M 1 Qb w] []) none),.N,.B (.C2 (.tup [.I x.1,.I x.2])),.N,.N,.m .s,.m .s] [] [] [4,5] [] Z Z (λe=>(a2_ (λσ f g _=>Stp.callSame (md:=.cm (.fn) [] [] [] [.d,.d] [] (.clo (.func 306) [.M 1 Qb w] []) []) Xg e f g Z (a1_ (Uq _ b))) (@Qf7 O hrec_expr_env_eval _ _ _ y))) Z<|E 2 Z
def TF : ∀(fuel:Nat) (a:LI_) (b:Qm) {r:(Int×Int)},XG fuel a b=Q r->QN prog 232 [.M 1 Qb a,.G QO b] [] (Gives (.tup [.I r.1,.I r.2]) [])
 | 0,_,_,_,h=>by cases h
 | n+1,a,b,_,h=>@Qf8 (XG n) (λ_ _ _ h=>TF n _ _ h) a b _ h
def QhH (a b){r}(h:Mb a b=Q r):QN prog 232 [.M 1 Qb a,.G QO b] [] (Gives (.tup [.I r.1,.I r.2]) []):=TF _ a b h
def Fj:O_ (Int×Int):=j_ (Up q (j.length:Int)) λd=>bif (!d)then Q (0,1)else j_ (Mb j q) λc=>Q (c.1,c.2)
def QeT {e a}:CT 167 [.G QO e,.M 1 Qb a] [] (Fj e a) (λr=>(.tup [.I r.1,.I r.2])) no_:=
 W 16 func167 Z<|N 12 Z<|A 0 TA Z λg=>I 3 Z (E 8 Z)<|B λf b=>G [6,.o (.C2 (.tup [.I f.1,.I f.2])),7] Z (QhH _ _ b)<|E 0 Z
def XC (b:Xl):O_ Int:=j_ (Fj b.task.Guard b.env) λa=>bif (a.2 != 0)then Q a.2 else bif (a.1==0)then Q 9 else Q 0
def Ng {a}:CT 114 [.G Jm a] [] (XC a) V.I no_:=
 W 21 func114 Z<|A 13 QeT Z λb=>I 16 Z (E 9 Z)<|I 7 Z (E 8 Z)<|E 9 Z
def Ax:O_ QLL:=j_ (chk ((([]:QLL).length+k0.length)*24<=140737488355328)) λ_=>Q (([]:QLL)++k0)
def VT {a}:CT 279 [.M 1 Xy a] [] (Ax a) (λr=>(.P 600 r)) (λr=>[(600,.R 1 Xy r)]):=
 W 8 func279 Z<|zN_ 9 QxP (Q ([]:QLL)) Z (aD_ 10 2 600 1 Z<|E 0 Z)<|kA_ λb=>K [8,.O 5 (.arr 1 (([]:QLL).map Xy)),.S 5 (.own 5 ([]:QLL).length),1,.x (λσ=>σ.app 5 1 7 (([]:QLL)++a).length ((([]:QLL)++a).map Xy)),4,.ren 5 600] Z (λc=>(a3_ Z Z (Stp.appSB (by_:=24) (zs:=[.Y]) (e:=37) (e':=37) (z':=1) (by':=24) Z Z (Xk c.n Z) Z Z Z Qq (by kernel_rfl) (by kernel_rfl) (by kernel_rfl) Z (by decide) (by decide) (QiL b Qq) Z Kz (UJ Qq))))<|E 0 Z
def Kx:O_ (Int×Bool):=j_ (KC g4.2 h0) λb=>bif (!b)then Q (0,false)else Q (h0,true)
def DD:O_ (Int×Bool):=
 j_ (DO s m) λc=>
 bif (!c.1)then
 Q (0,false)
 else
 j_ (JZ c.2) λa=>
 bif (a.Kind==1)then
 bif ((j1<a.Lo)||(a.Hi<j1))then
 Q (0,false)
 else
 Kx c (Qe (j1-a.Lo))
 else
 Kx c j1
def QhI {f g e}:CT 175 [.M 7 Xf f,.I g,.I e] [] (DD f g e) (λr=>(.tup [.I r.1,.b r.2])) no_:=
 W 43 func175 Z<|A 10 VR Z λh=>I 15 Z (E 8 Z)<|mE_ 2 [8] [8] (λc:Int=>([(2,.I c)],[])) (λc=>Kx h c) Z (A 3 Fh Z λd=>I 11 Z (T 2 [2,8,10] [8,10] ([(33,.b ((e<d.Lo)||(d.Hi<e)))],[]) Z (H 6 Z (λa=>Y 6 33 Z (KO a Z)) λa=>Y 6 33 Z (Yv a Z))<|I 1 Z (E 9 Z)<|P 9 Z Z)<|P 1 Z Z) λc=>A 5 VI Z λi=>I 3 Z (E 8 Z)<|E 10 Z
def WM:O_ ((Int×QMk)⊕(Int⊕QMk)):=
 bif (j3<(d.length:Int))then
 j_ (idx d j3) λa=>
 bif ((a<0)||((h3.length:Int)<=a))then
 Q (i_ (y_ 11))
 else
 j_ (idx h3 a) λl=>
 j_ (Fj l.Expr h4) λf=>
 bif (f.2 != 0)then
 Q (i_ (y_ f.2))
 else
 j_ (idx h3 a) λb=>
 bif ((b.Place<0)||((d4.Places.length:Int)<=b.Place))then
 Q (i_ (y_ 3))
 else
 j_ (idx d4.Places b.Place) λm=>
 j_ (DD d4.Colours m.Colour f.1) λi=>
 bif (!i.2)then
 Q (i_ (y_ 8))
 else
 j_ (idx d3 b.Place) λn=>
 j_ (RO ([i.1]:L_ Int)) λo=>
 j_ (Jt n o) λg=>
 j_ (idx d3 b.Place) λp=>
 bif (g.2 != 0)then
 Q (i_ (y_ g.2))
 else
 Q (y_ ((Qe (j3+1)),(d3.set b.Place.toNat g.1)))
 else
 Q (i_ (i_ d3))
def Yp (a:LI_):O_ (QMk×Int):=j_ (chk (decide (0<=(c.Places.length:Int))&&decide ((c.Places.length:Int)<=(c.Places.length:Int))&&decide ((c.Places.length:Int)<=4294967296))) λ_=>j_ (Qh (λst=>WM h4 h3 a c st.1 st.2) (0,(List.replicate (c.Places.length:Int).toNat (([]:QBg):QBg)))) (Sum.elim (λq=>Q (([]:L_ QBg),q)) (λq=>Q (q,0)))
def Be {t l2 e k}:CT 119 [.G Qf t,.M 4 Yz l2,.M 1 Qb e,.M 1 Qb k] [] (Yp t l2 e k) (λr=>(.tup [.M 1 Qk r.1,.I r.2])) no_:=
 W 97 func119 Z<|N 11 Z<|kA_ λa0=>G [.o (.rows (List.replicate (t.Places.length:Int).toNat [.Y]))] Z ⟨a0,Z⟩<|Qq0 (AK.denilA (b:=21) [Q 2] Z (Qmh (f:=Qk) (x:=([]:QBg)) Z))<|G [.S 21 (.own 21 (List.replicate (t.Places.length:Int).toNat (([]:QBg):QBg)).length),7] Z (by simp)<|N 0 Z<|F 4 [1,3,4,22,23] [4] (λst=>([(10,.P 21 st.2),(24,.I st.1)],[(21,.R 1 Qk st.2)])) [] [] (λq=>(.ret,([(8,.Y),(9,.I q)],[]))) [] [] (λq=>(.exit 0,([(10,.P 21 q)],[(21,.R 1 Qk q)]))) Z (λ⟨a4,u⟩=>I 6 Z (J 6 Z λv=>T 6 [1,3,4,10,12,22,23,24] [4,21] ([(35,.b ((v<0)||((l2.length:Int)<=v)))],[]) Z (H 4 Z (λg=>Y 6 35 Z (KO g Z)) λg=>N 2 Z<|Y 3 35 Z (Yv g Z))<|I 1 Z (L 10 Z)<|J 6 Z λa5=>A 3 QeT Z λa6=>I 14 Z (L 11 Z)<|J 6 Z λi=>T 7 [1,3,4,10,13,15,22,23,24] [4,21] ([(62,.b ((i.Place<0)||((t.Places.length:Int)<=i.Place)))],[]) Z (H 4 Z (λh=>Y 7 62 Z (KO h Z)) λh=>N 3 Z<|Y 3 62 Z (Yv h Z))<|I 1 Z (L 10 Z)<|B λa1 w=>B λs y=>D 3 Z (dz_ [(5,.B (.row (QW a1))),(3,.B (.C3 (.tup [.I s.1,.b s.2]))),(4,.N)]) [] [] [1,3,4,10,15,16,17,22,23,24] [4,21] Z Z (a2_ (XY w) (QhI _ y)) Z<|I 8 Z (L 10 Z)<|B λa2 l=>B λz C=>B λj O=>B λa3 p=>D 3 Z [.N,.N,.N,.N,.N,.B (.row (Qk a2)),.N,.a (.bd []) (Q ([],.sl 1 (([s.1]:L_ Int).map Qb))) false,.B (.cd false [.d] 2 (z.map QI) z.length),.B (.C2 (.tup [.M 2 QI j.1,.I j.2])),.a .no none true true,.N,.a .no none true,.N,.m (.st (Qk a3) ((u.set i.Place.toNat j.1).map Qk)),.N] [1,3,4,10,15,16,22,23,24] [4] [1,3,4,10,14,22,23,24] [4,21] Z Z (a7_ (Ym l Z) (XN (Yo l).2) Z ⟨(Qj3 _ C),Qq⟩ (QbL _ O) (Ym p Z) ⟨(XN (Yo p).2),WG Z⟩) Z<|I 7 Z (L 10 Z)<|G [7,.S 10 (.own 21 (u.set i.Place.toNat j.1).length)] Z (congrArg (λn=>V.own 21 n) (by simp))<|R 0 Z)<|X 2 Z) (λa7=>gT_ [2,.denil 8 [Q 1]] Z<|E 0 Z) (λa8=>zF_ 10 21 [8] [] Z<|E 0 Z)
def Yi (b:Xl)(a:LI_):O_ Int:=j_ (Yp b.net b.task.Outs a b.env) λc=>Q c.2
def PJ {b a}:CT 117 [.G Jm b,.M 1 Qb a] [] (Yi b a) V.I no_:=
 W 20 func117 Z<|A 16 Be Z λc=>E 14 Z
def Ha (b:Xl):O_ Bool:=j_ (Yi b d) λc=>Q (c != 0)
def QaJ {a c}:CT 280 [.M 1 Qb a,.L 621] [(621,.W Jm c)] (Ha a c) V.b (λ_=>[(621,.W Jm c)]):=
 W 8 func280 Z<|A 9 PJ Z λd=>E 5 Z
def Gg (d:Xl)(a:Int):O_ (Int⊕(Int⊕Unit)):=bif (a<(k0.length:Int))then j_ (idx k0 a) λe=>j_ (Ha e d) λb=>bif b then Q (i_ (y_ a))else Q (y_ (Qe (a+1)))else Q (i_ (i_ ()))
def WB (b:Xl):O_ Int:=j_ (Qh (λst=>Gg k0 b st) 0) (Sum.elim (λq=>Q q) (λq=>Q (-1)))
def RZ {a b}:CT 233 [.P 621 a,.clo (.func 280) [] [.L 622]] [(621,.R 1 Xy a),(622,.W Jm b)] (WB a b) V.I (λ_=>[(621,.R 1 Xy a),(622,.W Jm b)]):=
 W 19 func233 Z<|F 14 [0,1,7] [621,622] (λst=>([(8,.I st)],[])) [] [621,622] (λq=>(.ret,([(4,.I q)],[]))) [] [621,622] (λq=>(.exit 0,([],[]))) Z (λd=>I 6 Z (vA_ 16 Xy Z λe=>S 0 .clo [(621,622)] QaJ Z λc=>I 2 Z (L 9 Z)<|R 7 Z)<|X 2 Z) (λf=>E 2 Z) (λ_=>E 8 Z)
def DP:O_ ((Int×Int×QLL)⊕(Int×QLL)):=Q (y_ (g,(Qe (a+1)),k0))
def DQ (f:Xl)(c:Int)(b:Int)(a:QLL):O_ ((Int×Int×QLL)⊕(Int×QLL)):=bif (b<(a.length:Int))then j_ (idx a b) λd=>j_ (Ha d f) λe=>bif (!e)then j_ (idx a c) λg=>DP b (Qe (c+1)) (a.set c.toNat d)else DP b c a else Q (i_ (c,a))
def DR:O_ QLL:=j_ (chk (decide (0<=a)&&decide (a.toNat<=k0.length))) λ_=>j_ (chk (decide (0<=a)&&decide (a.toNat<=(k0.take a.toNat++List.replicate (k0.length-a.toNat) (([]:LI_):LI_)).length))) λ_=>Q ((k0.take a.toNat++List.replicate (k0.length-a.toNat) (([]:LI_):LI_)).take a.toNat)
def Wm (c:Xl):O_ QLL:=j_ (WB k0 c) λb=>bif (b==(-1))then Q k0 else j_ (Qh (λst=>DQ c st.1 st.2.1 st.2.2) (b,(Qe (b+1)),k0)) (λq=>DR q.1 q.2)
def PK {p s}:CT 278 [.P 621 p,.clo (.func 280) [] [.L 622]] [(621,.R 1 Xy p),(622,.W Jm s)] (Wm p s) (λr=>(.P 621 r)) (λr=>[(621,.R 1 Xy r),(622,.W Jm s)]):=
 W 42 func278 Z<|S 9 .fn [(621,621),(622,622)] RZ Z λz=>I 10 Z (E 8 Z)<|lA_ 11 [1] [622] (λst=>([(0,.P 621 st.2.2),(5,.I st.1),(6,.I st.2.1)],[(621,.R 1 Xy st.2.2)])) [] [622] (λq=>(.exit 0,([(0,.P 621 q.2),(5,.I q.1)],[(621,.R 1 Xy q.2)]))) Z (λ⟨v,t,m⟩=>I 9 Z (mF_ 2 [1,6] [622] (λ(i:Int) (g:QLL)=>([(0,.P 621 g),(5,.I i)],[(621,.R 1 Xy g)])) (λi g=>DP t i g) Z (vA_ 6 Xy Z λo=>S 7 .clo [(621,622)] QaJ Z λy=>I 3 Z (B λu j=>g3_ [6,.st (Xy u) ((m.set v.toNat o).map Xy),8,.S 0 (.own 621 (m.set v.toNat o).length)] Z (Ym j Z) ⟨(XN (Yo j).2),WG Z⟩ (congrArg (λn=>V.own 621 n) (by simp))<|fA_ 0 Z Z)<|fA_ 2 Z Z) λi g=>R 5 Z)<|X 2 Z) λ⟨a,c⟩=>kA_ λd=>gP_ 6 Z<|λk h=>AK.clearTail (b:=621) (l:=a.toNat) (n:=c.length) Z Z Z Z Z Z (Xk k.n Z) Z Z Qq (Xg.es Z) QwR Z Z Z (GC.val Z (Xd (QbE d)) Z) (Xd (MY d)) Z<|Qat k h<|Qq0 (AK.denilA (b:=621) [Q 1] Z (QxL (f:=Xy) (x:=(([]:LI_):LI_)) (λ_=>rfl) Z))<|g2_ [.S 0 (.own 621 (c.take a.toNat++List.replicate (c.length-a.toNat) (([]:LI_):LI_)).length),.S 36 (.own 621 (c.take a.toNat++List.replicate (c.length-a.toNat) (([]:LI_):LI_)).length),6] Z (Qum (Xd (MY d))) (Qum (Xd (MY d)))<|kA_ λe=>(λk h=>by
   have w:a.toNat=((c.take a.toNat++List.replicate (c.length-a.toNat) (([]:LI_):LI_)).take a.toNat).length:=by rw[KX,IU (Xd (MY e))]
   refine Jn k [.x (λσ=>(σ.set 621 (.arr 1 (((c.take a.toNat++List.replicate (c.length-a.toNat) (([]:LI_):LI_)).take a.toNat).map Xy))).put 41 (.own 621 a.toNat)),.S 41 (.own 621 ((c.take a.toNat++List.replicate (c.length-a.toNat) (([]:LI_):LI_)).take a.toNat).length),4,.K [4] [621,622]] rfl (a2_ (Stp.sliceO rfl rfl (Xk k.n rfl) rfl rfl (Xg.es rfl) GC.no (GC.val rfl (Xd (QbE e)) rfl) (Xd (MY e)) (by simp)) (QxF (Xd (MY e)))) ?_;exact E 0 Z k h)
def DS:O_ (Unit⊕Unit):=bif (((Qr f b).getD 0)<i)then Q (i_ ())else Q (y_ ())
def Fk : O_ Bool:=Q true
def Fl : O_ Bool:=Q false
def Ev:O_ Bool:=j_ (IZ (λst p=>DS l0 p.1 p.2) () f) (Sum.elim (λq=>Fk) (λq=>Fl))
def PL {k g}:CT 120 [.map 621,.map 622] [(621,.map (QR V.I V.I k)),(622,.map (QR V.I V.I g))] (Ev k g) V.b (λ_=>[(621,.map (QR V.I V.I k)),(622,.map (QR V.I V.I g))]):=
 W 19 func120 Z<|@λC r=>gP_ 9 Z<|λa h=>AK.openMap (b:=621) WK Z λc d L5 l s=>Qat a h<|K [.x (λσ=>(σ.set 8 (.itr c d #[] none)).put 8 (.L 8)),3,.K [1,8] [8,621,622]] Z (λa=>(a1_ (Stp.range (b:=621) Z Z (Xk a.n Z) Z Z Un Z)))<|B λu t=>(λa h=>by
   refine AK.range (body:=(λst p=>DS g p.1 p.2)) (λst seen σ=>∃cur:O_ Nat,σ=⟨[(1,.map 622),lk_ 8],[(8,.itr c d seen cur),(621,.mapX c d (LF V.I V.I L5) (QR V.I V.I k)),(622,.map (QR V.I V.I g))]⟩) (λq e σ=>e=.ret/\σ=⟨[(4,.b false)],[(621,.mapX c d (LF V.I V.I L5) (QR V.I V.I k)),(622,.map (QR V.I V.I g))]⟩) (λst e σ=>e=.exit 0/\σ=⟨[],[(621,.mapX c d (LF V.I V.I L5) (QR V.I V.I k)),(622,.map (QR V.I V.I g))]⟩) l s t (ex_ _ rfl) ?_ ?_
   ·rintro _ seen σ ⟨cur,rfl⟩ hex;refine tg_ a [2] ?_;refine AK.nextT (b:=8) (m:=621) rfl rfl rfl (Xk a.n rfl) rfl rfl rfl rfl ?_ ?_
    ·intro hleft;refine tg_ a [7,.K [] [621,622]] ?_;exact AK.done (Or.inl (an_ hleft (an_ (λh=>(by cases h)) (an_ Z Z))))
    intro O v w i;obtain⟨o,h⟩:=hex _ i;have ho:=h;replace h:DS g v w=Q o:=h;refine Jn a [10,.x (λσ=>σ.put 11 (.tup [.I v,.I w])),11,.o (.any (.I ((Qr g v).getD 0)) none),3] rfl (a2_ (Stp.entryT (b:=8) (m:=621) (e:=V.I) (f:=V.I) rfl rfl (Xk a.n rfl) rfl i rfl rfl) (λσ y h2 _=>Stp.lookup (z:=0) rfl rfl (Xk a.n rfl) (y _ _ rfl) (h2 _ _ rfl) (y _ _ rfl) Un WK Pa rfl)) ?_;refine bg_ h (λj h=>Jn a [.T,7,.K [4] [621,622]] rfl (a1_ j) ?_) λj h=>Jn a [.F,2,.K [1,8] [8,621,622]] rfl (a1_ j) ?_
    ·cases h;exact AK.done (Or.inr (ex_ _ (an_ i (Or.inr (ex_ _ (an_ ho (an_ (λh=>(by cases h)) (an_ Z Z))))))))
    cases h;exact AK.done (Or.inr (ex_ _ (an_ i (Or.inl (ex_ _ (an_ ho (an_ Z (ex_ _ Z))))))))
   rcases u with(_ | _)
   ·replace h:Fk=Q r:=h;unfold Fk at h;rintro e σ ⟨rfl,rfl⟩;refine tg_ a [8] ?_;refine AK.closeMap (b:=621) rfl ?_;refine tg_ a [.K [4] [621,622]] ?_;exact E 0 Z a h
   replace h:Fl=Q r:=h;unfold Fl at h;rintro e σ ⟨rfl,rfl⟩;refine tg_ a [2] ?_;refine AK.closeMap (b:=621) rfl ?_;refine tg_ a [.K [4] [621,622]] ?_;exact E 0 Z a h)
def Qdl:O_ Bool:=j_ (Ev e4.1 e4.2) λa=>Q a
def Nh:O_ Bool:=j_ (NP f l0) (Sum.elim (λq=>Q false) (Sum.elim (λq=>Q false) (Sum.elim (λq=>Q false) (λq=>Qdl q))))
def Qmu {c e}:CT 234 [.M 2 QI c,.M 2 QI e] [] (Nh c e) V.b no_:=
 W 21 func234 Z<|gP_ 9 Z<|s4_ (λj a=>G [.cm (.fn) [] [] [] [.d,.d] [] (.tup [.lit (.map none),.lit (.map none),.b false]),21] Z (Kh _ a)<|E 0 Z) (λg a=>G [.cm (.fn) [] [(11,603)] [] [.d,.d] [(603,.map (QR V.I V.I g))] (.tup [.lit (.map none),.map 603,.b false]),21] Z (Kh _ a)<|E 0 Z) (λh a=>G [.cm (.fn) [] [(11,602)] [] [.d,.d] [(602,.map (QR V.I V.I h))] (.tup [.map 602,.lit (.map none),.b false]),21] Z (Kh _ a)<|E 0 Z) λf a=>G [.cm (.fn) [] [(11,602),(614,603)] [] [.d,.d] [(602,.map (QR V.I V.I f.1)),(603,.map (QR V.I V.I f.2))] (.tup [.map 602,.map 603,.b true]),15] Z (Kh _ a)<|S 0 .fn [(621,11),(622,614)] PL Z λi=>E 5 Z
def Xi:O_ (Int⊕(Unit⊕Unit)):=bif (m<(e.length:Int))then j_ (idx e m) λf=>j_ (idx j0 m) λb=>j_ (Nh f b) λc=>bif (!c)then Q (i_ (y_ ()))else Q (y_ (Qe (m+1)))else Q (i_ (i_ ()))
def Ya:O_ Bool:=bif ((e.length:Int) != (j0.length:Int))then Q false else j_ (Qh (λst=>Xi e j0 st) 0) (Sum.elim (λq=>Q false) (λq=>Q true))
def GF {a c}:CT 65 [.M 1 Qk a,.M 1 Qk c,.clo (.func 234) [] []] [] (Ya a c) V.b no_:=
 W 32 func65 Z<|N 9 Z<|N 1 Z<|I 3 Z (E 7 Z)<|N 6 Z<|F 4 [1,2,15,16] [] (λst=>([(17,.I st)],[])) [] [] (λq=>(.ret,([(6,.b false)],[]))) [] [] (λq=>(.exit 0,([],[]))) Z (λf=>I 6 Z (J 7 Z λg=>J 9 Z λd=>A 9 Qmu Z λe=>I 3 Z (L 8 Z)<|R 7 Z)<|X 2 Z) (λ_=>E 2 Z) (λ_=>E 8 Z)
def UZ:O_ Bool:=j_ (Ya e j0) λc=>Q c
def QbU {a c}:CT 172 [.M 1 Qk a,.M 1 Qk c] [] (UZ a c) V.b no_:=
 W 8 func172 Z<|S 9 .fn [] GF Z λd=>E 4 Z
def XE:O_ (Int⊕(Int⊕Unit)):=bif (i<(d.length:Int))then j_ (idx d i) λa=>bif (b==a)then Q (i_ (y_ i))else Q (y_ (Qe (i+1)))else Q (i_ (i_ ()))
def Ay:O_ Int:=Q a
def Az : O_ Int:=Q (-1)
def Wc:O_ Int:=j_ (Qh (λst=>XE d b st) 0) (Sum.elim (λq=>Ay q) (λq=>Az))
def Qbc {a b}:CT 132 [.M 1 Qb a,.I b] [] (Wc a b) V.I no_:=
 W 19 func132 Z<|N 9 Z<|F 4 [0,1,7] [] (λst=>([(8,.I st)],[])) [] [] (λq=>(.ret,([(4,.I q)],[]))) [] [] (λq=>(.exit 0,([],[]))) Z (λc=>I 6 Z (J 15 Z λd=>I 4 Z (L 9 Z)<|R 7 Z)<|X 2 Z) (λe=>E 2 Z) (λ_=>E 8 Z)
def XW:O_ Bool:=j_ (Wc d b) λc=>Q (decide (0<=c))
def EF {a c}:CT 82 [.M 1 Qb a,.I c] [] (XW a c) V.b no_:=
 W 9 func82 Z<|A 9 Qbc Z λd=>E 5 Z
def Wd:O_ (Int⊕(Unit⊕Unit)):=Q (y_ (Qe (a+1)))
def Fm (c:Xl):O_ Bool:=bif (k3.2==0)then j_ (UZ k3.1 c.m) λb=>Q b else Q false
def Fo:O_ (Int⊕(Unit⊕Unit)):=bif n then Q (i_ (y_ ()))else Wd a
def Yu (d:Xl)(b:LI_)(a:Int):O_ (Int⊕(Unit⊕Unit)):=bif (a<(d.task.Ins.length:Int))then j_ (XW b a) λf=>bif f then Wd a else j_ (Je b) λc=>j_ (chk (c.length+([a]:L_ Int).length<=4294967296)) λ_=>j_ (YS (c++([a]:L_ Int))) λe=>j_ (chk (e.length=(c++([a]:L_ Int)).length)) λ_=>j_ (Yp d.net d.task.Ins e d.env) λg=>j_ (Fm g d) (λh=>Fo a h)else Q (i_ (i_ ()))
def Xx (b:Xl)(a:LI_):O_ Int:=j_ (Yp b.net b.task.Ins a b.env) λc=>bif (c.2 != 0)then Q c.2 else j_ (UZ c.1 b.m) λd=>bif (!d)then Q 10 else bif (b.task.Join != 3)then Q 0 else j_ (Qh (λst=>Yu b a st) 0) (Sum.elim (λq=>Q 11) (λq=>Q 0))
def PM {i e}:CT 116 [.G Jm i,.M 1 Qb e] [] (Xx i e) V.I no_:=
 W 76 func116 Z<|A 16 Be Z λo=>I 16 Z (E 9 Z)<|A 5 QbU Z λp=>I 4 Z (E 8 Z)<|I 9 Z (E 8 Z)<|N 9 Z<|F 4 [1,2,41] [2] (λst=>([(42,.I st)],[])) [] [] (λq=>(.ret,([(4,.I 11)],[]))) [] [] (λq=>(.exit 1,([],[]))) Z (λh=>I 6 Z (mU_ 2 [1,2,41,42] [2] ([],[]) (Wd h) Z (A 12 EF Z λj=>I 2 Z (uA_ 3 Z Z)<|oC_ 5 [.d] Wj Z λk=>pA_ 1 1 Qb Z<|B λa f=>kA_ λc=>gA_ [6,.cm (.fn) [(621,49)] [(49,621)] [] [.d] [(621,.R 1 Qb a)] (.tup []),.S 8 (.P 49 a),.S 52 (.P 49 a),.S 53 (.P 49 a),12,.frz 49 (a.map Qb) [8,52,53,61] []] Z (a5_ (GM _ f) (by simp[Xd c]) (by simp[Xd c]) (by simp[Xd c]) (a4_ (Kj Qq) (Kj Qq) (Kj Qq) (Kj Qq)))<|A 0 Be Z λl=>mV_ 8 [1,2,41,42] [2] (λg=>([(74,.b g)],[])) Z (I 4 Z (A 3 QbU Z λm=>M 2 Z)<|M 6 Z) λg=>I 1 Z (L 8 Z)<|uA_ 2 Z Z)<|R 4 Z)<|X 2 Z) (λ_=>E 2 Z) (λ_=>E 8 Z)
def Ni (a:(Int×Xl)):O_ Bool:=bif (a.1 != 0)then Q true else j_ (XC a.2) λb=>Q (b != 0)
def WN (b:(L_ Qc)):O_ ((Int×(L_ Qc))⊕((L_ Qc)⊕(L_ Qc))):=Q (y_ ((Qe (a+1)),b))
def Bf (e:Int)(a:(L_ Qc)):O_ ((Int×(L_ Qc))⊕((L_ Qc)⊕(L_ Qc))):=bif (e<(k0.length:Int))then j_ (idx k0 e) λi=>j_ (Je k1) λb=>j_ (Je e0) λc=>j_ (Je i) λd=>j_ (chk (a.length+([(Qc.mk g2 b c d)]:L_ Qc).length<=4294967296)) λ_=>bif (((a++[(Qc.mk g2 b c d)]).length:Int)==j3)then Q (i_ (y_ (a++[(Qc.mk g2 b c d)])))else Q (y_ ((Qe (e+1)),(a++[(Qc.mk g2 b c d)])))else Q (i_ (i_ a))
def Bg (d:(Int×Xl))(e:QLL)(h:LI_)(i:Int)(j:Int)(a:Int)(b:(L_ Qc)):O_ ((Int×(L_ Qc))⊕((L_ Qc)⊕(L_ Qc))):=bif (a<(k0.length:Int))then j_ (idx k0 a) λc=>j_ (Xx d.2 c) λf=>bif (f != 0)then WN a b else j_ (Qh (λst=>Bf e h c i j st.1 st.2) (0,b)) (Sum.elim (λq=>Q (i_ (y_ q))) (λq=>WN a q))else Q (i_ (i_ b))
def Nj (e:(L_ Qc))(f:QLL)(a:(Int×Xl))(g:QLL)(h:LI_)(i:Int)(j:Int)(b:Bool):O_ ((L_ Qc)⊕(L_ Qc)):=bif b then Q (i_ e)else j_ (Ax f) λc=>j_ (Wm c a.2) λd=>j_ (Qh (λst=>Bg g a d h i j st.1 st.2) (0,e)) (Sum.elim (λq=>Q (y_ q)) (λq=>Q (i_ q)))
def UL (k:(L_ Qc))(h:QLL)(i:QLL)(j:(L_ Qc))(d:LI_):O_ ((L_ Qc)⊕(L_ Qc)):=j_ (YZ c e o d) λa=>j_ (Ni a) (λb=>Nj j i a h d o i0 b)
def Nk (lpl lpf:Nat)(w:Qd)(x:QMk)(i:Int)(y:Int)(j:(L_ Qc))(z:QLL)(O:QLL)(l8:(L_ Qc))(p9:LI_){r:((L_ Qc)⊕(L_ Qc))}(h:UL w x i y j z O l8 p9=Q r):ZY prog lpl (Dm lpf) (Qzm (.L 622) (.L 623) (.L 624) (.L 625) (.L 626) (.L 627) (.L 628) (.L 629) (.M 1 Qb p9)) [(621,.lp lpl (Dm lpf) (RM (.L 622) (.L 623) (.L 624) (.L 625) (.L 626) (.L 627) (.L 628) (.L 629)) 0),(622,.W Qf w),(623,.W QE x),(624,.W Qb i),(625,.W Qb y),(626,.var [.P 619 j]),(619,.R 4 Qo j),(627,.W JU z),(628,.W JU O),(629,.var [.P 620 l8]),(620,.R 4 Qo l8)] ((Sum.elim (λq=>(Gives (.b false) [(619,.R 4 Qo j),(620,.R 4 Qo q),(621,.lp lpl (Dm lpf) (RM (.L 622) (.L 623) (.L 624) (.L 625) (.L 626) (.L 627) (.L 628) (.L 629)) 2),(622,.W Qf w),(623,.W QE x),(624,.W Qb i),(625,.W Qb y),(626,.var [.P 620 q]),(627,.W JU z),(628,.W JU O),(629,.var [.P 620 q])])) (λq=>(Gives (.b true) [(619,.R 4 Qo j),(620,.R 4 Qo q),(621,.lp lpl (Dm lpf) (RM (.L 622) (.L 623) (.L 624) (.L 625) (.L 626) (.L 627) (.L 628) (.L 629)) 0),(622,.W Qf w),(623,.W QE x),(624,.W Qb i),(625,.W Qb y),(626,.var [.P 619 j]),(627,.W JU z),(628,.W JU O),(629,.var [.P 620 q])]))) r):=by
 refine ZY.walk (b:=621) 109 rfl rfl λC k=>?_;refine tg_ k [3] ?_;refine AK.done (an_ rfl (ex_ _ (an_ rfl ?_)));exact Qat k h<|A 7 Qdj Z λa1=>mV_ 10 [6,7,8,10,11,12,13,14] [14,619,620,621,622,623,624,625,626,627,628,629] (λl=>([(69,.b l)],[])) Z (I 4 Z (M 5 Z)<|A 1 Ng Z λa2=>M 3 Z) λl=>I 1 Z (gT_ [3,.K [] [619,620,621,622,623,624,625,626,627,628,629]] Z<|(λk h=>by
   cases h;refine AK.done ?_;exact ex_ _ (an_ Z (gives rB_))))<|oC_ 5 [.d] VT Z λa3=>S 1 .fn [(621,71),(622,14)] PK Z λa4=>N 6 Z<|F 4 [6,7,8,12,13,14,16,74,75] [14,71,619,621,622,623,624,625,626,627,628] (λst=>([(76,.I st.1)],[(620,.R 4 Qo st.2),(629,.var [.P 620 st.2])])) [] [619,621,622,623,624,625,627,628] (λq=>(.ret,([],[(620,.R 4 Qo q),(626,.var [.P 620 q]),(629,.var [.P 620 q])]))) [] [619,621,622,623,624,625,626,627,628] (λq=>(.exit 2,([],[(620,.R 4 Qo q),(629,.var [.P 620 q])]))) Z (λ⟨a0,a5⟩=>I 6 Z (mE_ 2 [6,7,8,12,13,14,16,74,75,76] [14,71,619,621,622,623,624,625,626,627,628] (λg:(L_ Qc)=>([],[(620,.R 4 Qo g),(629,.var [.P 620 g])])) (λg=>WN a0 g) Z (J 3 Z λa6=>A 9 PM Z λa7=>I 3 Z (P 3 Z Z)<|F 10 [6,7,8,12,13,14,16,18,74,75,76,84,85] [14,71,619,621,622,623,624,625,626,627,628] (λst=>([(86,.I st.1)],[(620,.R 4 Qo st.2),(629,.var [.P 620 st.2])])) [] [619,621,622,623,624,625,627,628] (λq=>(.ret,([],[(620,.R 4 Qo q),(626,.var [.P 620 q]),(629,.var [.P 620 q])]))) [6,7,8,12,13,14,16,74,75,76] [14,71,619,621,622,623,624,625,626,627,628] (λq=>(.exit 4,([],[(620,.R 4 Qo q),(629,.var [.P 620 q])]))) Z (λ⟨a8,o⟩=>I 6 Z (vA_ 7 Xy Z λa9=>B λc p=>B λe t=>B λf u=>kA_ λv=>D 4 Z [.N,.N,.N,.B (.cd false [.d] 1 (c.map Qb) c.length),.N,.B (.cd false [.d] 1 (e.map Qb) e.length),.N,.B (.cd false [.d] 1 (f.map Qb) f.length),.E (.agg (Qo (Qc.mk i c e f))),.a (.bd []) (Q ([],.sl 4 (([(Qc.mk i c e f)]:L_ Qc).map Qo))) false,.m (.app ((o++[(Qc.mk i c e f)]).map Qo) (o++[(Qc.mk i c e f)]).length),.m .s] [] [] [6,7,8,12,13,14,16,18,74,75,76,84,85,86] [14,71,619,620,621,622,623,624,625,626,627,628,629] Z Z (a6_ ⟨(Wj _ p),Qq⟩ ⟨(Wj _ t),Qq⟩ ⟨(Wj _ u),Qq⟩ Z Z ⟨Qq,Af v Qq,Kz,UJ Qq⟩) Z<|I 9 Z (L 9 Z)<|R 7 Z)<|X 2 Z) (λb0=>L 3 Z) (λb1=>P 2 Z Z)) λg=>R 4 Z)<|X 2 Z) (λb2=>gT_ [2,.K [] [619,620,621,622,623,624,625,626,627,628,629]] Z<|(λk h=>by
   cases h;refine AK.done ?_;exact ex_ _ (an_ Z (gives rB_)))) (λb3=>gT_ [2,.K [] [619,620,621,622,623,624,625,626,627,628,629]] Z<|(λk h=>by
   cases h;refine AK.done ?_;exact ex_ _ (an_ Z (gives rB_))))
def YK:O_ Int:=j_ (DO s m) λb=>bif (!b.1)then Q 0 else j_ (idx b.2.sizes m) λd=>Q d
def HY {a b}:CT 145 [.M 7 Xf a,.I b] [] (YK a b) V.I no_:=
 W 20 func145 Z<|A 9 VR Z λc=>I 15 Z (E 7 Z)<|J 7 Z λd=>E 5 Z
def HZ:O_ Bool:=bif (0<=a)then j_ (idx d a) λc=>j_ (idx l.Vars a) λb=>j_ (YK f0.Colours b.Colour) λe=>Q (decide (e<=(Qe (c+1))))else Q false
def TG:O_ ((Int×LI_)⊕(Int×LI_)):=bif p then j_ (idx d b) λc=>Q (y_ ((Qe (b-1)),(d.set b.toNat 0)))else Q (i_ (b,d))
def KD:O_ ((Int×LI_)⊕(Int×LI_)):=j_ (HZ k e0 l f0) (λc=>TG e0 k c)
def Ia (b:(L_ Qc))(h:Int)(a:LI_):O_ ((LI_×(L_ Qc))⊕((L_ Qc)⊕(L_ Qc))):=bif (h<0)then Q (i_ (y_ b))else j_ (idx a h) λc=>j_ (idx a h) λd=>Q (y_ ((a.set h.toNat (Qe (c+1))),b))
def Ib (c:(L_ Qc)):O_ ((LI_×(L_ Qc))⊕((L_ Qc)⊕(L_ Qc))):=j_ (Qh (λst=>KD l f0 st.1 st.2) ((Qe ((e0.length:Int)-1)),e0)) (λq=>Ia c q.1 q.2)
def Ic (i:(L_ Qc))(j:QLL)(k:QLL)(l:QF)(b:Qd)(a:LI_)(f:(L_ Qc)):O_ ((LI_×(L_ Qc))⊕((L_ Qc)⊕(L_ Qc))):=j_ (Je a) λd=>j_ (UL c e o i0 i j k f d) (Sum.elim (λq=>Q (i_ (i_ q))) (λq=>Ib l b a q))
def FF (g:(L_ Qc))(h:QLL)(i:QLL)(j:(L_ Qc))(a:QF)(b:Qd):O_ ((L_ Qc)⊕(L_ Qc)):=j_ (chk (decide (0<=(a.Vars.length:Int))&&decide ((a.Vars.length:Int)<=(a.Vars.length:Int))&&decide ((a.Vars.length:Int)<=4294967296))) λ_=>j_ (Qh (λst=>Ic c e o i0 g h i a b st.1 st.2) ((List.replicate (a.Vars.length:Int).toNat (0:Int)),j)) (Sum.elim (λq=>Q (y_ q)) (λq=>Q (i_ q)))
def TH {lpl lpf:Nat}{l:Qd}{m:QMk}{p:Int}{s:Int}{f:(L_ Qc)}{t:QLL}{u:QLL}{l8:(L_ Qc)}{z:QF}{j:Qd}:CP 300 [.clo (.yield lpl) [] [],.L 630,.L 631] [(621,.lp lpl (Dm lpf) (RM (.L 622) (.L 623) (.L 624) (.L 625) (.L 626) (.L 627) (.L 628) (.L 629)) 0),(622,.W Qf l),(623,.W QE m),(624,.W Qb p),(625,.W Qb s),(626,.var [.P 619 f]),(619,.R 4 Qo f),(627,.W JU t),(628,.W JU u),(629,.var [.P 620 l8]),(620,.R 4 Qo l8),(630,.W Qy z),(631,.W Qf j)] (FF l m p s f t u l8 z j) ((Sum.elim (λq=>(Gives (.tup []) [(619,.R 4 Qo f),(620,.R 4 Qo q),(621,.lp lpl (Dm lpf) (RM (.L 622) (.L 623) (.L 624) (.L 625) (.L 626) (.L 627) (.L 628) (.L 629)) 0),(622,.W Qf l),(623,.W QE m),(624,.W Qb p),(625,.W Qb s),(626,.var [.P 619 f]),(627,.W JU t),(628,.W JU u),(629,.var [.P 620 q]),(630,.W Qy z),(631,.W Qf j)])) (λq=>(Gives (.tup []) [(619,.R 4 Qo f),(620,.R 4 Qo q),(621,.lp lpl (Dm lpf) (RM (.L 622) (.L 623) (.L 624) (.L 625) (.L 626) (.L 627) (.L 628) (.L 629)) 2),(622,.W Qf l),(623,.W QE m),(624,.W Qb p),(625,.W Qb s),(626,.var [.P 620 q]),(627,.W JU t),(628,.W JU u),(629,.var [.P 620 q]),(630,.W Qy z),(631,.W Qf j)])))):=
 wP_ 50 func300 Z<|N 4 Z<|kA_ λC=>g2_ [.o (.rows ((List.replicate (z.Vars.length:Int).toNat (0:Int)).map Qb)),.S 9 (.own 9 (List.replicate (z.Vars.length:Int).toNat (0:Int)).length),4] Z ⟨C,QeM Z⟩ (by simp)<|F 0 [0,1,2] [619,621,622,623,624,625,626,627,628,630,631] (λst=>([(4,.P 9 st.1)],[(9,.R 1 Qb st.1),(620,.R 4 Qo st.2),(629,.var [.P 620 st.2])])) [] [619,621,622,623,624,625,626,627,628,630,631] (λq=>(.ret,([],[(620,.R 4 Qo q),(629,.var [.P 620 q])]))) [] [619,622,623,624,625,627,628,630,631] (λq=>(.ret,([],[(620,.R 4 Qo q),(621,.lp lpl (Dm lpf) (RM (.L 622) (.L 623) (.L 624) (.L 625) (.L 626) (.L 627) (.L 628) (.L 629)) 2),(626,.var [.P 620 q]),(629,.var [.P 620 q])]))) Z (λ⟨a7,b3⟩=>B λO a0=>G [6,.o (.co true [.o (a7.map Qb)] 1 (O.map Qb) O.length)] Z ⟨(Qoa Z),⟨(Wj _ a0),Qq,.inr (Quo _)⟩⟩<|zF_ 0 12 [12] [] Z<|s2_ (λe h=>K [.x (λσ=>(σ.after [619,620] [(619,.R 4 Qo f),(620,.R 4 Qo e),(621,.lp lpl (Dm lpf) (RM (.L 622) (.L 623) (.L 624) (.L 625) (.L 626) (.L 627) (.L 628) (.L 629)) 2),(622,.W Qf l),(623,.W QE m),(624,.W Qb p),(625,.W Qb s),(626,.var [.P 620 e]),(627,.W JU t),(628,.W JU u),(629,.var [.P 620 e])]).put 13 (.b false)),7] Z (λhC=>(a1_ (Stp.yieldV (b:=621) (M:=[(621,621),(622,622),(623,623),(624,624),(625,625),(626,626),(619,619),(627,627),(628,628),(629,629),(620,620)]) (N:=[(619,619),(620,620),(621,621),(622,622),(623,623),(624,624),(625,625),(626,626),(627,627),(628,628),(629,629)]) (dead:=[619,620]) (ms:=(List.replicate 109 .d)) (outs:=[(619,.R 4 Qo f),(620,.R 4 Qo e),(621,.lp lpl (Dm lpf) (RM (.L 622) (.L 623) (.L 624) (.L 625) (.L 626) (.L 627) (.L 628) (.L 629)) 2),(622,.W Qf l),(623,.W QE m),(624,.W Qb p),(625,.W Qb s),(626,.var [.P 620 e]),(627,.W JU t),(628,.W JU u),(629,.var [.P 620 e])]) (r:=.b false) Z Z Z Z Z Z Z (Xk hC.n Z) hC.g Z Z (Nk _ _ _ _ _ _ _ _ _ _ _ h))))<|L 0 Z) λk h=>K [.x (λσ=>(σ.after [619,620] [(619,.R 4 Qo f),(620,.R 4 Qo k),(621,.lp lpl (Dm lpf) (RM (.L 622) (.L 623) (.L 624) (.L 625) (.L 626) (.L 627) (.L 628) (.L 629)) 0),(622,.W Qf l),(623,.W QE m),(624,.W Qb p),(625,.W Qb s),(626,.var [.P 619 f]),(627,.W JU t),(628,.W JU u),(629,.var [.P 620 k])]).put 13 (.b true)),16] Z (λhC=>(a1_ (Stp.yieldV (b:=621) (M:=[(621,621),(622,622),(623,623),(624,624),(625,625),(626,626),(619,619),(627,627),(628,628),(629,629),(620,620)]) (N:=[(619,619),(620,620),(621,621),(622,622),(623,623),(624,624),(625,625),(626,626),(627,627),(628,628),(629,629)]) (dead:=[619,620]) (ms:=(List.replicate 109 .d)) (outs:=[(619,.R 4 Qo f),(620,.R 4 Qo k),(621,.lp lpl (Dm lpf) (RM (.L 622) (.L 623) (.L 624) (.L 625) (.L 626) (.L 627) (.L 628) (.L 629)) 0),(622,.W Qf l),(623,.W QE m),(624,.W Qb p),(625,.W Qb s),(626,.var [.P 619 f]),(627,.W JU t),(628,.W JU u),(629,.var [.P 620 k])]) (r:=.b true) Z Z Z Z Z Z Z (Xk hC.n Z) hC.g Z Z (Nk _ _ _ _ _ _ _ _ _ _ _ h))))<|lA_ 0 [0,1,2] [619,620,621,622,623,624,625,626,627,628,629,630,631] (λst=>([(4,.P 9 st.2),(5,.I st.1)],[(9,.R 1 Qb st.2)])) [0,1,2] [619,620,621,622,623,624,625,626,627,628,629,630,631] (λq=>(.exit 2,([(4,.P 9 q.2),(5,.I q.1)],[(9,.R 1 Qb q.2)]))) Z (λ⟨at_25,a1⟩=>mV_ 2 [0,1,2,4,5] [9,619,620,621,622,623,624,625,626,627,628,629,630,631] (λa2=>([(36,.b a2)],[])) Z (jF_ (λi=>B λa8 v=>B λa9 a3=>B λb0 a4=>D 0 Z [.N,.N,.E (.b true),.N,.N,.N,.B (.row (Qb a8)),.N,.N,.N,.N,.N,.N,.B (.row (Yw a9)),.N,.N,.B (.C2 (.I b0)),.N,.N] [] [] [0,1,2,4,5,36] [9,619,620,621,622,623,624,625,626,627,628,629,630,631] Z Z ⟨⟨⟨⟨(tc_ i),(Ym v Z)⟩,(XN (Yo v).2)⟩,(XY a3)⟩,(HY _ a4)⟩ Z<|M 0 Z) λi=>D 0 Z (dz_ [(2,.E (.b false)),(15,.N)]) [] [] [0,1,2,4,5,36] [9,619,620,621,622,623,624,625,626,627,628,629,630,631] Z Z (tc_ i) Z<|M 0 Z) λa2=>I 1 Z (B λb1 w=>g3_ [8,.st (Qb b1) ((a1.set at_25.toNat 0).map Qb),8,.S 4 (.own 9 (a1.set at_25.toNat 0).length)] Z (Ym w Z) ⟨(XN (Yo w).2),WG Z⟩ (congrArg (λn=>V.own 9 n) (by simp))<|R 0 Z)<|X 2 Z) λ⟨at_29,a5⟩=>I 9 Z (L 3 Z)<|vA_ 6 Qb Z λa6=>B λb2 y=>g3_ [2,.st (Qb b2) ((a5.set at_29.toNat (Qe (a6+1))).map Qb),2,.S 4 (.own 9 (a5.set at_29.toNat (Qe (a6+1))).length)] Z (Ym y Z) ⟨(XN (Yo y).2),WG Z⟩ (congrArg (λn=>V.own 9 n) (by simp))<|R 0 Z) (λb4=>E 1 Z) (λb5=>E 1 Z)
def Qdm (a:(L_ Qc)):O_ (L_ Qc):=Q a
def Qdn (a:(L_ Qc)):O_ (L_ Qc):=Q a
def Hb:O_ (L_ Qc):=
 bif ((o<0)||(((c.Tasks.length:Int)<=o)||(i0<1)))then
 Q ([]:L_ Qc)
 else
 j_ (idx c.Tasks o) λa=>
 j_ (YT a.Join (a.Ins.length:Int)) λf=>
 j_ (YT a.Split (a.Outs.length:Int)) λg=>
 j_ (Qdi c a) λd=>
 j_ (FF c e o i0 ([]:L_ Qc) f g ([]:L_ Qc) d.2 d.1) (Sum.elim (λq=>Qdm q) (λq=>Qdn q))
def Qmv (t x c e){r}(h:Hb t x c e=Q r):QN prog 229 [.G Qf t,.M 1 Qk x,.I c,.I e] [] (Gives (.M 4 Qo r) []):=by
 refine QN.walkR 109 func229 Z ntmps229 Z λC p hR=>?_;exact Qat p h<|T 11 [4,5,6,7,8] [4,5,6,7,8] ([(33,.b ((c<0)||(((t.Tasks.length:Int)<=c)||(e<1))))],[]) Z (H 4 Z (λj=>Y 11 33 Z (KO j Z)) λj=>N 3 Z<|H 3 Z (λq=>Y 4 33 Z (Yv j (KO q Z))) λq=>Y 4 33 Z (Yv j (Yv q Z)))<|I 1 Z (g2_ [3,.O 8 (.var [.Y]),4,.denilO 8 [Q 4],.O 8 (.var (Qs6 ([]:L_ Qc))),.K [8] [8]] Z Z Z<|(λp h=>by
   cases h;refine AK.done ?_;exact ex_ [_] (an_ (an_ (ex_ _ (ex_ _ (an_ Z (an_ Z (Or.inr (an_ (Xg.ag Z) Z)))))) U) (gives U))))<|J 7 Z λu=>B λk v=>B λl w=>D 6 Z [.N,.N,.N,.N,.B (.ln u.Ins.length),.B (.cd false [.d,.d] 1 (k.map Xy) k.length),.N,.N,.N,.N,.B (.ln u.Outs.length),.B (.cd false [.d,.d] 1 (l.map Xy) l.length),.N,.N,.m .s,.m .s] [] [] [4,5,6,7,8,9,10,11] [4,5,6,7,8,9,10,11] Z Z (a4_ Qq ⟨(Pc _ v),Qq⟩ Qq ⟨(Pc _ w),Qq⟩) Z<|zA_ 11 .fn [] [(53,2),(614,3)] [] QhE Z λo=>gT_ [3,.adoptO 8 0 608 4,.adoptO 12 0 611 4] Z<|s2_ (λf g=>(λp h=>by
   replace h:Qdm f=Q r:=h;refine AK.rangeF 618 [4,5,6,7,8,10,11,12] [(621,618),(622,4),(623,5),(624,6),(625,7),(626,8),(619,608),(627,10),(628,11),(629,12),(620,611),(630,614),(631,53)] [(608,619),(611,620),(618,621),(4,622),(5,623),(6,624),(7,625),(8,626),(10,627),(11,628),(12,629),(614,630),(53,631)] [608,611] [.d,.d,.d] Dm p hR (λ_=>rfl) rfl rfl rfl rfl λlpl lpf=>?_;refine ex_ [(619,.arr 4 (([]:L_ Qc).map Qo)),(620,.R 4 Qo f),(621,.lp lpl (Dm lpf) (RM (.L 622) (.L 623) (.L 624) (.L 625) (.L 626) (.L 627) (.L 628) (.L 629)) 0),(622,.W Qf t),(623,.W QE x),(624,.W Qb c),(625,.W Qb e),(626,.var [.own 619 ([]:L_ Qc).length]),(627,.W JU k),(628,.W JU l),(629,.var [.P 620 f]),(630,.W Qy o.2),(631,.W Qf o.1)] (ex_ (.tup []) (ex_ _ (ex_ _ (ex_ (RM (.L 4) (.L 5) (.L 6) (.L 7) (.L 8) (.L 10) (.L 11) (.L 12)) (ex_ 0 (an_ rfl ?_))))));refine an_ (TH _ g) (an_ rfl (an_ (bne_iff_ne.1 (show(0 != 1)=true from rfl)) ?_));refine QxJ Z ?_;refine Jn p [6,.O 8 (.var [.P 611 f]),3,.frz 611 (f.map Qo) [] [8],.K [8] [8]] rfl (a2_ rfl (a1_ ⟨(Kj Qq),U⟩)) ?_;cases h;refine AK.done ?_;exact ex_ [_] (an_ (an_ (ex_ _ (ex_ _ (an_ Z (an_ Z (Or.inr (an_ (Xg.ag Z) Z)))))) U) (gives U)))) λi g=>(λp h=>by
   replace h:Qdn i=Q r:=h;refine AK.rangeF 618 [4,5,6,7,8,10,11,12] [(621,618),(622,4),(623,5),(624,6),(625,7),(626,8),(619,608),(627,10),(628,11),(629,12),(620,611),(630,614),(631,53)] [(608,619),(611,620),(618,621),(4,622),(5,623),(6,624),(7,625),(8,626),(10,627),(11,628),(12,629),(614,630),(53,631)] [608,611] [.d,.d,.d] Dm p hR (λ_=>rfl) rfl rfl rfl rfl λlpl lpf=>?_;refine ex_ [(619,.arr 4 (([]:L_ Qc).map Qo)),(620,.R 4 Qo i),(621,.lp lpl (Dm lpf) (RM (.L 622) (.L 623) (.L 624) (.L 625) (.L 626) (.L 627) (.L 628) (.L 629)) 2),(622,.W Qf t),(623,.W QE x),(624,.W Qb c),(625,.W Qb e),(626,.var [.P 620 i]),(627,.W JU k),(628,.W JU l),(629,.var [.P 620 i]),(630,.W Qy o.2),(631,.W Qf o.1)] (ex_ (.tup []) (ex_ _ (ex_ _ (ex_ (RM (.L 4) (.L 5) (.L 6) (.L 7) (.L 8) (.L 10) (.L 11) (.L 12)) (ex_ 2 (an_ rfl ?_))))));refine an_ (TH _ g) (an_ rfl (an_ (bne_iff_ne.1 (show(2 != 1)=true from rfl)) ?_));refine Qzf Z ?_;refine Jn p [3,.frz 611 (i.map Qo) [] [8],.K [8] [8]] rfl (a1_ (a1_ ⟨(Kj Qq),U⟩)) ?_;cases h;refine AK.done ?_;exact ex_ [_] (an_ (an_ (ex_ _ (ex_ _ (an_ Z (an_ Z (Or.inr (an_ (Xg.ag Z) Z)))))) U) (gives U)))
def Eg (a:(L_ Qc)):O_ ((Int×(L_ Qc))⊕(L_ Qc)):=bif (i0<(c.Tasks.length:Int))then j_ (Hb c e i0 (Qe (o-(a.length:Int)))) λb=>j_ (chk (a.length+b.length<=4294967296)) λ_=>Q (y_ ((Qe (i0+1)),(a++b)))else Q (i_ a)
def Cz:O_ (L_ Qc):=j_ (Qh (λst=>Eg c e o st.1 st.2) (0,([]:L_ Qc))) (λq=>Q q)
def QgG {f g a}:CT 161 [.G Qf f,.M 1 Qk g,.I a] [] (Cz f g a) (λr=>(.P 600 r)) (λr=>[(600,.R 4 Qo r)]):=
 W 27 func161 Z<|N 16 Z<|aD_ 4 7 15 4 Z<|lA_ 0 [1,2,3,11] [3] (λst=>([(7,.P 15 st.2),(12,.I st.1)],[(15,.R 4 Qo st.2)])) [] [] (λq=>(.exit 0,([(7,.P 15 q)],[(15,.R 4 Qo q)]))) Z (λ⟨i,j⟩=>I 6 Z (B λe b=>G [19,.o (.C4 (.M 4 Qo e))] Z (Qmv _ _ _ _ b)<|pB_ 0 Qo Z<|R 8 Z)<|X 2 Z) λh=>gT_ [9,.ren 15 600] Z<|E 0 Z
def Wn:O_ (Int⊕(Unit⊕Unit)):=bif (m<(d.length:Int))then j_ (idx d m) λe=>j_ (idx j m) λb=>bif (e != b)then Q (i_ (y_ ()))else Q (y_ (Qe (m+1)))else Q (i_ (i_ ()))
def JQ:O_ Bool:=bif ((d.length:Int) != (j.length:Int))then Q false else j_ (Qh (λst=>Wn d j st) 0) (Sum.elim (λq=>Q false) (λq=>Q true))
def Qbf {f g}:CT 171 [.M 1 Qb f,.M 1 Qb g] [] (JQ f g) V.b no_:=
 W 26 func171 Z<|N 9 Z<|N 1 Z<|I 3 Z (E 7 Z)<|N 6 Z<|F 4 [0,1,12] [] (λst=>([(13,.I st)],[])) [] [] (λq=>(.ret,([(4,.b false)],[]))) [] [] (λq=>(.exit 0,([],[]))) Z (λi=>I 6 Z (B λh d=>B λe c=>D 11 Z (dz_ [(2,.B (.row (Qb h))),(3,.B (.row (Qb e))),(1,.N)]) [] [] [0,1,12,13,24] [] Z Z (a2_ (XY d) (XY c)) Z<|I 1 Z (L 8 Z)<|R 7 Z)<|X 2 Z) (λ_=>E 2 Z) (λ_=>E 8 Z)
def Mc:O_ Bool:=j_ (JQ d j) λc=>Q c
def QhJ {c a}:CT 170 [.M 1 Qb c,.L 621] [(621,.W Xy a)] (Mc c a) V.b (λ_=>[(621,.W Xy a)]):=
 W 7 func170 Z<|A 9 Qbf Z λd=>E 4 Z
def YH:O_ (Int⊕(Int⊕Unit)):=bif (k<(k0.length:Int))then j_ (idx k0 k) λe=>j_ (Mc e k1) λb=>bif b then Q (i_ (y_ k))else Q (y_ (Qe (k+1)))else Q (i_ (i_ ()))
def WC:O_ Int:=j_ (Qh (λst=>YH k0 k1 st) 0) (Sum.elim (λq=>Q q) (λq=>Q (-1)))
def Sc {b a}:CT 233 [.M 1 Xy b,.clo (.func 170) [] [.L 621]] [(621,.W Xy a)] (WC b a) V.I (λ_=>[(621,.W Xy a)]):=
 W 19 func233 Z<|N 9 Z<|F 4 [0,1,7] [621] (λst=>([(8,.I st)],[])) [] [621] (λq=>(.ret,([(4,.I q)],[]))) [] [621] (λq=>(.exit 0,([],[]))) Z (λd=>I 6 Z (J 15 Z λe=>S 1 .clo [(621,621)] QhJ Z λc=>I 2 Z (L 9 Z)<|R 7 Z)<|X 2 Z) (λf=>E 2 Z) (λ_=>E 8 Z)
def WD:O_ Bool:=j_ (WC k0 k1) λc=>Q (decide (0<=c))
def Sd {c a}:CT 168 [.M 1 Xy c,.clo (.func 170) [] [.L 621]] [(621,.W Xy a)] (WD c a) V.b (λ_=>[(621,.W Xy a)]):=
 W 9 func168 Z<|S 9 .fn [(621,621)] Sc Z λd=>E 5 Z
def Eh:O_ Bool:=j_ (YT a g) λb=>j_ (WD b d) λe=>Q e
def QbZ {a c e}:CT 115 [.I a,.I c,.M 1 Qb e] [] (Eh a c e) V.b no_:=
 W 12 func115 Z<|oC_ 10 [.d,.d] Pc Z λf=>zF_ 1 9 [9] [] Z<|S 0 .fn [(621,5)] Sd Z λg=>E 4 Z
def CA (a:(Int×Xl))(d:Qc):O_ Bool:=j_ (Eh a.2.task.Join (a.2.task.Ins.length:Int) d.Ins) λb=>bif (!b)then Q true else j_ (Eh a.2.task.Split (a.2.task.Outs.length:Int) d.Outs) λc=>Q (!c)
def CB (c:(Int×Xl))(d:Qc)(e:Bool):O_ Int:=bif e then Q 11 else j_ (Xx c.2 d.Ins) λa=>bif (a != 0)then Q a else j_ (Yi c.2 d.Outs) λb=>Q b
def JK (b:(Int×Xl))(c:Qc)(a:Int):O_ Int:=bif (a != 0)then Q a else j_ (CA b c) (λd=>CB b c d)
def YD:O_ Int:=j_ (YZ c e r.Task r.Vars) λa=>bif (a.1==0)then j_ (XC a.2) λb=>JK a r b else JK a r a.1
def Qdo {d e c}:CT 74 [.G Qf d,.M 1 Qk e,.G Qo c] [] (YD d e c) V.I no_:=
 W 62 func74 Z<|A 15 Qdj Z λg=>mE_ 8 [5,7] [5,7] (λa:Int=>([(8,.I a)],[])) (λa=>JK g c a) Z (I 6 Z (A 2 Ng Z λh=>P 2 Z Z)<|P 1 Z Z) λa=>I 7 Z (E 8 Z)<|mV_ 4 [5,7] [5,7] (λf=>([(50,.b f)],[])) Z (N 7 Z<|A 2 QbZ Z λi=>I 2 Z (M 13 Z)<|N 6 Z<|A 2 QbZ Z λj=>M 3 Z) λf=>I 1 Z (E 7 Z)<|A 8 PM Z λk=>I 9 Z (E 8 Z)<|A 7 PJ Z λl=>E 4 Z
def Kk (l:L_ Int):O_ LI_:=j_ (chk (l.length<4611686018427387904)) λ_=>Q (JH l)
def HG (l){r}(h:Kk l=Q r):QN prog 44 [.P 621 l] [(621,.R 1 Qb l)] (Gives (.P 621 r) [(621,.R 1 Qb r)]):=by
 obtain⟨_,a,h⟩:=QU h;cases h;exact QrV Qus l (Xd (Qn5 a))
def Aj:O_ ((Int×LI_)⊕LI_):=Q (y_ ((Qe (a+1)),d))
def Pj (a:XT)(c:QMk):O_ Bool:=bif (0<=a.Place)then bif (a.Place<(c.length:Int))then j_ (idx c a.Place) λb=>Q ((b.length:Int)==0)else Q false else Q false
def Pk (b:XT)(c:Int)(a:Bool):O_ ((Int×LI_)⊕LI_):=bif a then j_ (chk (d.length+([b.Place]:L_ Int).length<=4294967296)) λ_=>Aj c (d++([b.Place]:L_ Int))else Aj c d
def Ak:O_ ((Int×LI_)⊕LI_):=bif (k<(l.Ins.length:Int))then j_ (idx l.Ins k) λc=>j_ (Pj c d2) (λd=>Pk e0 c k d)else Q (i_ e0)
def Al:O_ LI_:=j_ (YS d) λb=>j_ (chk (b.length=d.length)) λ_=>j_ (Kk b) λc=>Q c
def Dd:O_ LI_:=
 bif ((o<0)||((c.Tasks.length:Int)<=o))then
 Q ([]:L_ Int)
 else
 j_ (idx c.Tasks o) λd=>
 j_ (Qh (λst=>Ak d e st.1 st.2) (0,([]:L_ Int))) (λq=>Al q)
def Qi9 {l o a}:CT 281 [.G Qf l,.M 1 Qk o,.I a] [] (Dd l o a) (λr=>(.P 600 r)) (λr=>[(600,.R 1 Qb r)]):=
 W 59 func281 Z<|T 8 [1,2,3] [3] ([(18,.b ((a<0)||((l.Tasks.length:Int)<=a)))],[]) Z (H 4 Z (λf=>Y 7 18 Z (KO f Z)) λf=>N 3 Z<|Y 3 18 Z (Yv f Z))<|I 1 Z (aD_ 7 6 600 1 Z<|E 0 Z)<|J 13 Z λv=>N 2 Z<|aD_ 4 7 49 1 Z<|lA_ 0 [1,24,25] [] (λst=>([(7,.P 49 st.2),(26,.I st.1)],[(49,.R 1 Qb st.2)])) [] [] (λq=>(.exit 0,([(7,.P 49 q)],[(49,.R 1 Qb q)]))) Z (λ⟨m,p⟩=>I 6 Z (mE_ 2 [1,24,25,26] [] (λc:LI_=>([(7,.P 49 c)],[(49,.R 1 Qb c)])) (λc=>Aj m c) Z (J 3 Z λs=>mV_ 6 [1,7,9,24,25,26] [9,49] (λh=>([(48,.b h)],[])) Z (I 5 Z (N 3 Z<|I 3 Z (J 3 Z λt=>N 1 Z<|M 3 Z)<|M 9 Z)<|M 16 Z) λh=>I 1 Z (pA_ 4 1 Qb Z<|P 3 Z Z)<|P 2 Z Z) λc=>R 4 Z)<|X 2 Z) λu=>B λg i=>kA_ λe=>B λj k=>gA_ [5,.cm (.fn) [(621,49)] [(49,621)] [] [.d] [(621,.R 1 Qb g)] (.tup []),.S 7 (.P 49 g),.S 55 (.P 49 g),5,.cm (.fn) [(621,49)] [(49,621)] [] [.d] [(621,.R 1 Qb j)] (.P 621 j),4,.ren 49 600] Z (a4_ (GM _ i) (by simp[Xd e]) (by simp[Xd e]) (HG _ k))<|E 0 Z
def Hc:O_ ByteArray:=j_ (Cc e) λb=>Q (LY b.1)
def TI {a}:CT 301 [.M 1 Qk a] [] (Hc a) V.s no_:=
 W 12 func301 Z<|A 8 QbQ Z λb=>K [10,.o (.any (.s (LY b.1)) none),4] Z (λc=>(a1_ (λσ d e _=>Stp.b2s Z Z (Xk c.n Z) (d _ _ Z) Z Quw Qs7 (Xg.sb Z))))<|E 0 Z
def DT:O_ (QMk×Int):=j_ (Ga c r.Task r.Vars) λd=>bif (d.2 != 0)then Q (([]:L_ QBg),d.2)else j_ (idx c.Tasks r.Task) λe=>j_ (Yp c e.Ins r.Ins d.1) λa=>Q (a.1,a.2)
def Qmw {g h}:CT 75 [.G Qf g,.G Qo h] [] (DT g h) (λr=>(.tup [.M 1 Qk r.1,.I r.2])) no_:=
 W 34 func75 Z<|A 15 Qav Z λj=>I 14 Z (gT_ [9,.denil 4 [Q 1]] Z<|E 0 Z)<|B λi f=>B λb e=>D 3 Z (dz_ [(5,.B (.row (Qy i))),(5,.B (.C4 (.tup [.M 1 Qk b.1,.I b.2]))),(2,.m .s),(0,.m .s)]) [] [] [4,5] [] Z Z (a2_ (XY f) (Be _ e)) Z<|E 2 Z
noncomputable def Cf:O_ (QBg⊕Empty):=Q (y_ (XL WI f b (Qe (((Qr f b).getD 0)-i))))
def Qaw:O_ (QBg×Int):=j_ (EC f) λb=>Q (b,0)
noncomputable def QgH:O_ (QBg×Int):=j_ (Ev e4.2 e4.1) λO=>bif (!O)then Q (([]:QBg),10)else j_ (IZ (λst p=>Cf st p.1 p.2) e4.1 e4.2) (Sum.elim (λq=>Qaw q) (λq=>Empty.elim q))
def JL:O_ (QBg×Int):=j_ (NP f l0) (Sum.elim (λq=>Q (([]:QBg),1)) (Sum.elim (λq=>Q (([]:QBg),1)) (Sum.elim (λq=>Q (([]:QBg),1)) (λq=>QgH q))))
def Qp2 {a1 b2}:CT 77 [.M 2 QI a1,.M 2 QI b2] [] (JL a1 b2) (λr=>(.tup [.M 2 QI r.1,.I r.2])) no_:=
 W 40 func77 Z<|@λC r=>gP_ 10 Z<|s4_ (λa8 c=>G [.cm (.fn) [] [] [] [.d,.d] [] (.tup [.lit (.map none),.lit (.map none),.b false]),28,.denil 4 [Q 2]] Z (Kh _ c)<|E 0 Z) (λa9 c=>G [.cm (.fn) [] [(14,603)] [] [.d,.d] [(603,.map (QR V.I V.I a9))] (.tup [.lit (.map none),.map 603,.b false]),28,.denil 4 [Q 2]] Z (Kh _ c)<|E 0 Z) (λa4 c=>G [.cm (.fn) [] [(14,602)] [] [.d,.d] [(602,.map (QR V.I V.I a4))] (.tup [.map 602,.lit (.map none),.b false]),28,.denil 4 [Q 2]] Z (Kh _ c)<|E 0 Z) λw c=>G [.cm (.fn) [] [(14,602),(614,603)] [] [.d,.d] [(602,.map (QR V.I V.I w.1)),(603,.map (QR V.I V.I w.2))] (.tup [.map 602,.map 603,.b true]),23] Z (Kh _ c)<|S 0 .fn [(621,614),(622,14)] PL Z λb0=>I 4 Z (gT_ [9,.denil 4 [Q 2]] Z<|E 0 Z)<|gP_ 7 Z<|λi h=>AK.openMapK (b:=614) WK Z λj s L14 y a5 O=>Qat i h<|K [.x (λσ=>(σ.set 27 (.itr j s #[] none)).put 27 (.L 27)),3,.K [6,27] [14,27,614]] Z (λi=>(a1_ (Stp.range (b:=614) Z Z (Xk i.n Z) Z Z Un Z)))<|B λa6 a2=>(λi h=>by
   refine AK.range (body:=(λst p=>Cf st p.1 p.2)) (λst seen σ=>∃cur:O_ Nat,σ=⟨[(6,.map 14),lk_ 27],[(14,.map (QR V.I V.I st)),(27,.itr j s seen cur),(614,.mapX j s (LF V.I V.I L14) (QR V.I V.I w.2))]⟩) (λ(q:Empty) _ _=>False) (λst e σ=>e=.exit 1/\σ=⟨[(6,.map 14)],[(14,.map (QR V.I V.I st))]⟩) y O a2 (ex_ _ rfl) ?_ ?_
   ·rintro a seen σ ⟨cur,rfl⟩ hex;refine tg_ i [2] ?_;refine AK.nextT (b:=27) (m:=614) rfl rfl rfl (Xk i.n rfl) rfl rfl rfl rfl ?_ ?_
    ·intro hleft;refine tg_ i [7,.K [6] [14]] ?_;exact AK.done (Or.inl (an_ hleft (an_ (λh=>(by cases h)) (an_ Z Z))))
    intro a7 g u t;obtain⟨o,h⟩:=hex _ t;have ho:=h;replace h:Cf a g u=Q o:=h;refine Jn i [10,.x (λσ=>σ.put 30 (.tup [.I g,.I u])),9,.o (.any (.I ((Qr a g).getD 0)) none),2,.x (λσ=>σ.set 14 (.map (QR V.I V.I (XL WI a g (Qe (((Qr a g).getD 0)-u)))))),2,.K [6,27] [14,27,614]] rfl (a3_ (Stp.entryT (b:=27) (m:=614) (e:=V.I) (f:=V.I) rfl rfl (Xk i.n rfl) rfl t rfl rfl) (λσ h1 h2 _=>Stp.lookup (z:=0) rfl rfl (Xk i.n rfl) (h1 _ _ rfl) (h2 _ _ rfl) (h1 _ _ rfl) Un WK Pa rfl) (Stp.mapUpdate (e:=V.I) (f:=V.I) (l:=a) (k:=g) (v:=(Qe (((Qr a g).getD 0)-u))) WI rfl rfl rfl rfl rfl rfl Un WK rfl)) ?_;cases h;exact AK.done (Or.inr (ex_ _ (an_ t (Or.inl (ex_ _ (an_ ho (an_ Z (ex_ _ Z))))))))
   rcases a6 with(a | q)
   ·replace h:Qaw a=Q r:=h;rintro e σ ⟨rfl,rfl⟩;obtain⟨a0,a3,h⟩:=QU h;refine Jn i [5,.cm (.fn) [(621,14)] [(39,600),(14,621)] [] [.d] [(600,.R 2 QI a0),(621,.map (QR V.I V.I a))] (.P 600 a0),5,.frz 39 (a0.map QI) [4] [],.K [4,5] []] rfl (a2_ (LK _ a3) (a1_ (Kj Qq))) ?_;exact E 0 Z i h
   exact q.elim)
def KE:O_ ((Int×QMk)⊕(Int⊕QMk)):=bif (m<((List.replicate (min2 (e.length:Int) (j0.length:Int)).toNat (([]:QBg):QBg)).length:Int))then j_ (idx e m) λd=>j_ (idx j0 m) λa=>j_ (JL d a) λb=>j_ (idx d2 m) λh=>bif (b.2 != 0)then Q (i_ (y_ b.2))else Q (y_ ((Qe (m+1)),(d2.set m.toNat b.1)))else Q (i_ (i_ d2))
def Gb:O_ (QMk×Int):=j_ (chk (decide (0<=(min2 (e.length:Int) (j0.length:Int)))&&decide ((min2 (e.length:Int) (j0.length:Int))<=(min2 (e.length:Int) (j0.length:Int)))&&decide ((min2 (e.length:Int) (j0.length:Int))<=4294967296))) λ_=>j_ (Qh (λst=>KE e j0 st.1 st.2) (0,(List.replicate (min2 (e.length:Int) (j0.length:Int)).toNat (([]:QBg):QBg)))) (Sum.elim (λq=>Q (([]:L_ QBg),q)) (λq=>Q (q,0)))
def Qkt {l p}:CT 76 [.M 1 Qk l,.M 1 Qk p,.clo (.func 77) [] []] [] (Gb l p) (λr=>(.tup [.M 1 Qk r.1,.I r.2])) no_:=
 W 43 func76 Z<|N 9 Z<|N 1 Z<|kA_ λt=>G [1,.o (.rows (List.replicate (min2 (l.length:Int) (p.length:Int)).toNat [.Y]))] Z ⟨t,Z⟩<|Qq0 (AK.denilA (b:=16) [Q 2] Z (Qmh (f:=Qk) (x:=([]:QBg)) Z))<|G [.S 16 (.own 16 (List.replicate (min2 (l.length:Int) (p.length:Int)).toNat (([]:QBg):QBg)).length),12] Z (by simp)<|F 0 [0,1,2,18] [] (λst=>([(8,.P 16 st.2),(19,.I st.1)],[(16,.R 1 Qk st.2)])) [] [] (λq=>(.ret,([(6,.Y),(7,.I q)],[]))) [] [] (λq=>(.exit 0,([(8,.P 16 q)],[(16,.R 1 Qk q)]))) Z (λ⟨y,h⟩=>I 6 Z (B λu i=>B λv j=>B λe k=>B λw g=>D 16 Z [.N,.N,.N,.N,.N,.B (.row (Qk u)),.N,.N,.N,.B (.row (Qk v)),.N,.B (.C2 (.tup [.M 2 QI e.1,.I e.2])),.a .no none true true,.N,.a .no none true,.N,.m (.st (Qk w) ((h.set y.toNat e.1).map Qk)),.m .s] [0,1,2,8,9,10,18,19] [] [0,1,2,8,10,18,19] [16] Z Z (a5_ (XY i) (XY j) (Qp2 _ k) (Ym g Z) ⟨(XN (Yo g).2),WG Z⟩) Z<|I 7 Z (L 10 Z)<|G [7,.S 8 (.own 16 (h.set y.toNat e.1).length)] Z (congrArg (λn=>V.own 16 n) (by simp))<|R 0 Z)<|X 2 Z) (λz=>gT_ [2,.denil 6 [Q 1]] Z<|E 0 Z) (λC=>zF_ 10 16 [6] [] Z<|E 0 Z)
def Ud:O_ (QMk×Int):=j_ (YD c e r) λf=>bif (f != 0)then Q (([]:L_ QBg),f)else j_ (DT c r) λa=>bif (a.2 != 0)then Q (([]:L_ QBg),a.2)else j_ (Gb e a.1) λb=>Q (b.1,b.2)
def Qol {a b c}:CT 41 [.G Qf a,.M 1 Qk b,.G Qo c] [] (Ud a b c) (λr=>(.tup [.M 1 Qk r.1,.I r.2])) no_:=
 W 32 func41 Z<|A 14 Qdo Z λf=>I 9 Z (gT_ [9,.denil 6 [Q 1]] Z<|E 0 Z)<|A 6 Qmw Z λd=>I 14 Z (gT_ [9,.denil 6 [Q 1]] Z<|E 0 Z)<|S 6 .fn [] Qkt Z λe=>E 7 Z
def Nl:O_ (QMk×Int):=j_ (Ga c r.Task r.Vars) λd=>bif (d.2 != 0)then Q (([]:L_ QBg),d.2)else j_ (idx c.Tasks r.Task) λe=>j_ (Yp c e.Outs r.Outs d.1) λa=>Q (a.1,a.2)
def Qmx {g h}:CT 78 [.G Qf g,.G Qo h] [] (Nl g h) (λr=>(.tup [.M 1 Qk r.1,.I r.2])) no_:=
 W 34 func78 Z<|A 15 Qav Z λj=>I 14 Z (gT_ [9,.denil 4 [Q 1]] Z<|E 0 Z)<|B λi f=>B λb e=>D 3 Z (dz_ [(5,.B (.row (Qy i))),(5,.B (.C4 (.tup [.M 1 Qk b.1,.I b.2]))),(2,.m .s),(0,.m .s)]) [] [] [4,5] [] Z Z (a2_ (XY f) (Be _ e)) Z<|E 2 Z
def Jq:O_ ((Int×QMk)⊕(Int⊕QMk)):=bif (m<((List.replicate (min2 (e.length:Int) (j0.length:Int)).toNat (([]:QBg):QBg)).length:Int))then j_ (idx e m) λd=>j_ (idx j0 m) λa=>j_ (Jt d a) λb=>j_ (idx d2 m) λh=>bif (b.2 != 0)then Q (i_ (y_ b.2))else Q (y_ ((Qe (m+1)),(d2.set m.toNat b.1)))else Q (i_ (i_ d2))
def LL:O_ (QMk×Int):=Q (([]:L_ QBg),a)
def LM:O_ (QMk×Int):=Q (e,0)
def KF:O_ (QMk×Int):=j_ (chk (decide (0<=(min2 (e.length:Int) (j0.length:Int)))&&decide ((min2 (e.length:Int) (j0.length:Int))<=(min2 (e.length:Int) (j0.length:Int)))&&decide ((min2 (e.length:Int) (j0.length:Int))<=4294967296))) λ_=>j_ (Qh (λst=>Jq e j0 st.1 st.2) (0,(List.replicate (min2 (e.length:Int) (j0.length:Int)).toNat (([]:QBg):QBg)))) (Sum.elim (λq=>LL q) (λq=>LM q))
def QgW {l p}:CT 76 [.M 1 Qk l,.M 1 Qk p,.clo (.func 33) [] []] [] (KF l p) (λr=>(.tup [.M 1 Qk r.1,.I r.2])) no_:=
 W 43 func76 Z<|N 9 Z<|N 1 Z<|kA_ λt=>G [1,.o (.rows (List.replicate (min2 (l.length:Int) (p.length:Int)).toNat [.Y]))] Z ⟨t,Z⟩<|Qq0 (AK.denilA (b:=16) [Q 2] Z (Qmh (f:=Qk) (x:=([]:QBg)) Z))<|G [.S 16 (.own 16 (List.replicate (min2 (l.length:Int) (p.length:Int)).toNat (([]:QBg):QBg)).length),12] Z (by simp)<|F 0 [0,1,2,18] [] (λst=>([(8,.P 16 st.2),(19,.I st.1)],[(16,.R 1 Qk st.2)])) [] [] (λq=>(.ret,([(6,.Y),(7,.I q)],[]))) [] [] (λq=>(.exit 0,([(8,.P 16 q)],[(16,.R 1 Qk q)]))) Z (λ⟨y,h⟩=>I 6 Z (B λu i=>B λv j=>B λe k=>B λw g=>D 16 Z [.N,.N,.N,.N,.N,.B (.row (Qk u)),.N,.N,.N,.B (.row (Qk v)),.N,.B (.C2 (.tup [.M 2 QI e.1,.I e.2])),.a .no none true true,.N,.a .no none true,.N,.m (.st (Qk w) ((h.set y.toNat e.1).map Qk)),.m .s] [0,1,2,8,9,10,18,19] [] [0,1,2,8,10,18,19] [16] Z Z (a5_ (XY i) (XY j) (QbL _ k) (Ym g Z) ⟨(XN (Yo g).2),WG Z⟩) Z<|I 7 Z (L 10 Z)<|G [7,.S 8 (.own 16 (h.set y.toNat e.1).length)] Z (congrArg (λn=>V.own 16 n) (by simp))<|R 0 Z)<|X 2 Z) (λz=>gT_ [2,.denil 6 [Q 1]] Z<|E 0 Z) (λC=>zF_ 10 16 [6] [] Z<|E 0 Z)
def Gr:O_ ((Int×QMk)⊕QMk):=Q (y_ ((Qe (a+1)),e))
def Ji:O_ ((Int×QMk)⊕QMk):=bif (f1<(l.Cancel.length:Int))then j_ (idx l.Cancel f1) λc=>bif ((0<=c)&&(c<(d2.length:Int)))then j_ (idx d2 c) λe=>Gr f1 (d2.set c.toNat ([]:QBg))else Gr f1 d2 else Q (i_ d2)
def EG:O_ (QMk×Int):=j_ (KF j4 k3.1) λa=>Q (a.1,a.2)
def GG:O_ (QMk×Int):=j_ (Nl c r) λa=>bif (a.2 != 0)then Q (([]:L_ QBg),a.2)else j_ (Fg e) λb=>j_ (idx c.Tasks r.Task) λd=>j_ (Qh (λst=>Ji d st.1 st.2) (0,b)) (λq=>EG a q)
def Qom {k l m}:CT 42 [.G Qf k,.M 1 Qk l,.G Qo m] [] (GG k l m) (λr=>(.tup [.M 1 Qk r.1,.I r.2])) no_:=
 W 53 func42 Z<|A 12 Qmx Z λt=>I 14 Z (gT_ [9,.denil 6 [Q 1]] Z<|E 0 Z)<|oC_ 5 [.d] NR Z λo=>J 10 Z λp=>N 2 Z<|lA_ 4 [8,30,31] [] (λst=>([(10,.P 23 st.2),(32,.I st.1)],[(23,.R 1 Qk st.2)])) [8] [] (λq=>(.exit 0,([(10,.P 23 q)],[(23,.R 1 Qk q)]))) Z (λ⟨h,g⟩=>I 6 Z (mE_ 2 [8,30,31,32] [] (λa:QMk=>([(10,.P 23 a)],[(23,.R 1 Qk a)])) (λa=>Gr h a) Z (J 3 Z λe=>T 5 [8,10,12,30,31,32] [23] ([(43,.b ((0<=e)&&(e<(g.length:Int))))],[]) Z (H 4 Z (λc=>Y 6 43 Z (XB c Z)) λc=>Y 6 43 Z (Yh c Z))<|I 1 Z (B λi f=>g3_ [4,.x (λσ=>σ.set 23 (.arr 1 ((g.set e.toNat ([]:QBg)).map Qk))),2,.S 10 (.own 23 (g.set e.toNat ([]:QBg)).length)] Z (Ym f Z) (Stp.storeNil (zz:=2) (r:=Qk i) Z Z Z Z (XN (Yo f).2) Z (Xg.sz Z) Z (WG Z)) (congrArg (λn=>V.own 23 n) (by simp))<|P 0 Z Z)<|P 2 Z Z) λa=>R 4 Z)<|X 2 Z) λj=>G [6,.frz 23 (j.map Qk) [10,48] []] Z (a2_ (Kj Qq) (Kj Qq))<|S 0 .fn [] QgW Z λs=>E 7 Z
def Yg:O_ (QMk×Int):=j_ (Ud c e r) λb=>bif (b.2 != 0)then Q (([]:L_ QBg),b.2)else j_ (GG c b.1 r) λa=>Q (a.1,a.2)
def Qb0 {a b c}:CT 18 [.G Qf a,.M 1 Qk b,.G Qo c] [] (Yg a b c) (λr=>(.tup [.M 1 Qk r.1,.I r.2])) no_:=
 W 26 func18 Z<|A 13 Qol Z λe=>I 14 Z (gT_ [9,.denil 6 [Q 1]] Z<|E 0 Z)<|A 7 Qom Z λd=>E 7 Z
def GY (b:QSB)(c:(L_ QMk)):O_ ((Int×QSB×(L_ QMk))⊕((L_ QMk)⊕(QSB×(L_ QMk)))):=Q (y_ ((Qe (a+1)),b,c))
def Pl (b:QSB):O_ Bool:=bif (k3.2 != 0)then Q true else j_ (Hc k3.1) λc=>Q ((Qr b c).getD false)
def Pm (e:QSB)(d:(L_ QMk))(b:Int)(c:(QMk×Int))(f:Bool):O_ ((Int×QSB×(L_ QMk))⊕((L_ QMk)⊕(QSB×(L_ QMk)))):=bif f then GY a e d else bif ((d.length:Int)==(min2 (max2 0 b) 4096))then Q (i_ (y_ d))else j_ (Hc c.1) λg=>j_ (chk (d.length+([c.1]:L_ QMk).length<=4294967296)) λ_=>GY a (XL SO e g true) (d++([c.1]:L_ QMk))
def FG (f:(L_ Qc))(a:Int)(O:Int)(k:Qd)(b:Int)(c:Int)(d:QSB)(e:(L_ QMk)):O_ ((Int×QSB×(L_ QMk))⊕((L_ QMk)⊕(QSB×(L_ QMk)))):=bif (c<(f.length:Int))then j_ (idx f c) λg=>bif (g.Task==a)then GY c d e else j_ (idx e O) λi=>j_ (Yg k i g) λh=>j_ (Pl h d) (λj=>Pm c d e b h j)else Q (i_ (i_ (d,e)))
def Pn:O_ ((Int×QSB×(L_ QMk))⊕((L_ QMk)⊕(L_ QMk))):=Q (i_ (y_ d1))
def Po (c:QSB)(b:(L_ QMk)):O_ ((Int×QSB×(L_ QMk))⊕((L_ QMk)⊕(L_ QMk))):=Q (y_ ((Qe (a+1)),c,b))
def FH (d:QSB)(a:(L_ QMk)):O_ ((Int×QSB×(L_ QMk))⊕((L_ QMk)⊕(L_ QMk))):=bif (o<(a.length:Int))then j_ (idx a o) λe=>j_ (Cz c e 9223372036854775807) λf=>j_ (Qh (λst=>FG f b o c i st.1 st.2.1 st.2.2) (0,d,a)) (Sum.elim (λq=>Pn q) (λq=>Po o q.1 q.2))else Q (i_ (i_ a))
def NW:O_ ((L_ QMk)×Bool):=bif ((min2 (max2 0 i0) 4096)==0)then Q (([]:L_ QMk),false)else j_ (Hc e) λa=>j_ (Fg e) λd=>j_ (Qh (λst=>FH c o i0 st.1 st.2.1 st.2.2) (0,(XL SO ([]:QSB) a true),([d]:L_ QMk))) (Sum.elim (λq=>Q (q,false)) (λq=>Q (q,true)))
def Qjc {n1 m2 g h}:CT 282 [.G Qf n1,.M 1 Qk m2,.I g,.I h] [] (NW n1 m2 g h) (λr=>(.tup [.M 1 QE r.1,.b r.2])) no_:=
 W 83 func282 Z<|I 22 Z (gT_ [8,.denil 8 [Q 1]] Z<|E 0 Z)<|A 6 TI Z λu=>G [.x (λσ=>σ.set 23 (.map (QR V.s V.b (XL SO ([]:QSB) u true)))),7] Z (Stp.insert (e:=V.s) (f:=V.b) (l:=([]:QSB)) (k:=u) (v:=true) SO Z Z Z Z Z Z QbI Qf2 Z)<|oC_ 0 [.d] NR Z λa3=>zF_ 0 28 [28] [] Z<|G [1,.O 29 (.arr 1 (([a3]:L_ QMk).map QE)),10] Z Z<|F 0 [2,4,10,11] [4] (λst=>([(12,.P 29 st.2.2),(13,.I st.1)],[(23,.map (QR V.s V.b st.2.1)),(29,.R 1 QE st.2.2)])) [] [] (λq=>(.ret,([(8,.P 29 q),(9,.b false)],[(29,.R 1 QE q)]))) [] [] (λq=>(.exit 0,([(12,.P 29 q)],[(29,.R 1 QE q)]))) Z (λ⟨at_13,a9,b0⟩=>I 9 Z (B λa4 m=>B λw y=>D 5 Z [.E (.G Qf n1),.N,.N,.N,.B (.row (QE a4)),.B (.co false [.d,.d,.d] 4 (w.map Qo) w.length),.N,.N] [] [] [2,4,10,11,12,13,41,42,43] [4,23,29,41] Z Z (a4_ Z (Ym m Z) (XN (Yo m).2) ⟨(QgG _ y),Qq,.inl Z⟩) Z<|F 2 [2,4,10,11,13,41,42] [4,41] (λst=>([(12,.P 29 st.2.2),(43,.I st.1)],[(23,.map (QR V.s V.b st.2.1)),(29,.R 1 QE st.2.2)])) [] [] (λq=>(.ret,([(8,.P 29 q),(9,.b false)],[(29,.R 1 QE q)]))) [2,4,10,11,13] [4] (λq=>(.exit 2,([(12,.P 29 q.2)],[(23,.map (QR V.s V.b q.1)),(29,.R 1 QE q.2)]))) Z (λ⟨a5,t,b1⟩=>I 6 Z (mF_ 2 [2,4,10,11,13,41,42,43] [4,41] (λ(j:QSB) (i:(L_ QMk))=>([(12,.P 29 i)],[(23,.map (QR V.s V.b j)),(29,.R 1 QE i)])) (λj i=>GY a5 j i) Z (vA_ 4 Qo Z λa6=>I 13 Z (fA_ 3 Z Z)<|B λa7 p=>B λC a0=>D 3 Z [.E (.G Qf n1),.N,.N,.N,.B (.row (QE a7)),.E (.G Qo a6),.B (.C3 (.tup [.M 1 Qk C.1,.I C.2])),.N,.N,.N,.N,.N] [] [] [2,4,10,11,12,13,16,17,41,42,43] [4,23,29,41] Z Z (a5_ Z (Ym p Z) (XN (Yo p).2) Z (Qb0 _ a0)) Z<|mV_ 3 [2,4,10,11,12,13,16,41,42,43] [4,23,29,41] (λa1=>([(68,.b a1)],[])) Z (I 4 Z (M 6 Z)<|A 2 TI Z λa8=>K [.o (.any (.b ((Qr t a8).getD false)) none),2] Z (λhC=>(a1_ (λσ h1 h2 _=>Stp.lookup (z:=false) Z Z (Xk hC.n Z) (h1 _ _ Z) (h2 _ _ Z) (h1 _ _ Z) QbI Qf2 QvV Z)))<|M 0 Z) λa1=>I 1 Z (fA_ 3 Z Z)<|I 11 Z (L 11 Z)<|A 6 TI Z λa2=>G [.x (λσ=>σ.set 23 (.map (QR V.s V.b (XL SO t a2 true)))),5] Z (Stp.mapUpdate (e:=V.s) (f:=V.b) (l:=t) (k:=a2) (v:=true) SO Z Z Z Z Z Z QbI Qf2 Z)<|pA_ 0 1 QE Z<|fA_ 3 Z Z) λj i=>R 4 Z)<|X 2 Z) (λb2=>L 3 Z) (λ⟨b3,b4⟩=>R 8 Z))<|X 2 Z) (λb5=>zF_ 2 29 [8] [] Z<|E 0 Z) (λb6=>zF_ 10 29 [8] [] Z<|E 0 Z)
def Se:O_ Bool:=j_ (idx e a) λc=>Q (decide (0<(c.length:Int)))
def QgX {c a}:CT 284 [.I c,.L 621] [(621,.W QE a)] (Se c a) V.b (λ_=>[(621,.W QE a)]):=
 W 10 func284 Z<|J 9 Z λd=>N 1 Z<|E 5 Z
def KG:O_ (Int⊕(Int⊕Unit)):=bif (o<(d.length:Int))then j_ (idx d o) λa=>j_ (Se a e) λb=>bif b then Q (i_ (y_ o))else Q (y_ (Qe (o+1)))else Q (i_ (i_ ()))
def Bh:O_ Int:=Q a
def Em:O_ Int:=j_ (Qh (λst=>KG d e st) 0) (Sum.elim (λq=>Bh q) (λq=>Q (-1)))
def Sg {b a}:CT 149 [.M 1 Qb b,.clo (.func 284) [] [.L 621]] [(621,.W QE a)] (Em b a) V.I (λ_=>[(621,.W QE a)]):=
 W 19 func149 Z<|N 9 Z<|F 4 [0,1,7] [621] (λst=>([(8,.I st)],[])) [] [621] (λq=>(.ret,([(4,.I q)],[]))) [] [621] (λq=>(.exit 0,([],[]))) Z (λd=>I 6 Z (J 15 Z λe=>S 1 .clo [(621,621)] QgX Z λc=>I 2 Z (L 9 Z)<|R 7 Z)<|X 2 Z) (λf=>E 2 Z) (λ_=>E 8 Z)
def KH:O_ Bool:=j_ (Em d e) λc=>Q (decide (0<=c))
def NX {c a}:CT 283 [.M 1 Qb c,.clo (.func 284) [] [.L 621]] [(621,.W QE a)] (KH c a) V.b (λ_=>[(621,.W QE a)]):=
 W 9 func283 Z<|S 9 .fn [(621,621)] Sg Z λd=>E 5 Z
def FJ (e:((L_ QMk)×Bool))(a:LI_)(b:Int):O_ ((LI_×Int)⊕(Unit⊕Unit)):=bif (b<(e.1.length:Int))then j_ (idx e.1 b) λc=>j_ (KH a c) λd=>bif d then Q (i_ (y_ ()))else Q (y_ (a,(Qe (b+1))))else Q (i_ (i_ ()))
def Pp (a:((L_ QMk)×Bool)):O_ Int:=bif (!a.2)then Q 2 else Q 1
def NY:O_ Int:=j_ (Dd c e o) λf=>j_ (NW c e o i0) λa=>j_ (Qh (λst=>FJ a st.1 st.2) (f,0)) (Sum.elim (λq=>Q 0) (λq=>Pp a))
def Qje {e f b a}:CT 230 [.G Qf e,.M 1 Qk f,.I b,.I a] [] (NY e f b a) V.I no_:=
 W 38 func230 Z<|oC_ 11 [.d,.d,.d] Qi9 Z λj=>A 9 Qjc Z λk=>N 11 Z<|zF_ 4 17 [9] [] Z<|F 0 [11,26,27] [] (λst=>([(9,.M 1 Qb st.1),(28,.I st.2)],[])) [] [] (λq=>(.ret,([(8,.I 0)],[]))) [11] [] (λq=>(.exit 0,([],[]))) Z (λ⟨c,g⟩=>I 6 Z (J 6 Z λh=>S 9 .fn [(621,13)] NX Z λi=>I 2 Z (L 8 Z)<|R 7 Z)<|X 2 Z) (λ_=>E 2 Z) (λ_=>I 9 Z (E 7 Z)<|E 8 Z)
def NZ:O_ Int:=j_ (YD c e r) λf=>bif (f != 0)then Q 0 else j_ (idx c.Tasks r.Task) λg=>bif (g.Join != 3)then Q 1 else j_ (NY c e r.Task l1) λd=>Q d
def Qjf {b c d a}:CT 162 [.G Qf b,.M 1 Qk c,.G Qo d,.I a] [] (NZ b c d a) V.I no_:=
 W 30 func162 Z<|A 14 Qdo Z λf=>I 4 Z (E 8 Z)<|J 6 Z λg=>I 6 Z (E 8 Z)<|A 10 Qje Z λe=>E 4 Z
def Gh (c:(L_ Qc))(d:QBg):O_ ((Bool×Int×(L_ Qc)×QBg)⊕(Bool×(L_ Qc))):=Q (y_ (n,(Qe (a+1)),c,d))
def Gi (d:(L_ Qc))(e:Int)(a:Bool)(b:QBg):O_ ((Bool×Int×(L_ Qc)×QBg)⊕(Bool×(L_ Qc))):=bif (((Qr b r.Task).getD 0)==1)then j_ (chk (d.length+([r]:L_ Qc).length<=4294967296)) λ_=>Gh e a (d++([r]:L_ Qc)) b else bif (((Qr b r.Task).getD 0)==2)then Gh e false d b else Gh e a d b
def WO (h:(L_ Qc))(i:Qd)(j:QMk)(b:Int)(a:Bool)(d:Int)(e:(L_ Qc))(f:QBg):O_ ((Bool×Int×(L_ Qc)×QBg)⊕(Bool×(L_ Qc))):=bif (d<(h.length:Int))then j_ (idx h d) λc=>bif (!(Qr f c.Task).isSome)then j_ (NZ i j c b) λg=>Gi c e d a (XL WI f c.Task g)else Gi c e d a f else Q (i_ (a,e))
def Ei:O_ ((L_ Qc)×Bool):=j_ (Cz c e i0) λa=>j_ (Qh (λst=>WO a c e o st.1 st.2.1 st.2.2.1 st.2.2.2) (true,0,([]:L_ Qc),([]:QBg))) (λq=>Q (q.2,q.1))
def Qkv {n1 m2 h j}:CT 105 [.G Qf n1,.M 1 Qk m2,.I h,.I j] [] (Ei n1 m2 h j) (λr=>(.tup [.M 4 Qo r.1,.b r.2])) no_:=
 W 59 func105 Z<|oC_ 29 [.d,.d,.d] QgG Z λx7=>aD_ 5 10 50 4 Z<|lA_ 0 [1,2,4,12,21,22] [4,21] (λst=>([(10,.P 50 st.2.2.1),(11,.b st.1),(23,.I st.2.1)],[(17,.map (QR V.I V.I st.2.2.2)),(50,.R 4 Qo st.2.2.1)])) [] [] (λq=>(.exit 0,([(10,.P 50 q.2),(11,.b q.1)],[(50,.R 4 Qo q.2)]))) Z (λ⟨p,C,a2,s⟩=>I 6 Z (QvY 2 [1,2,4,12,21,22,23] [4,21] (λ(g:Bool) (t:(L_ Qc)) (w:QBg)=>([(10,.P 50 t),(11,.b g)],[(17,.map (QR V.I V.I w)),(50,.R 4 Qo t)])) (λg t w=>Gh C g t w) Z (vA_ 4 Qo Z λi=>mE_ 4 [1,2,4,10,11,12,14,21,22,23] [4,14,21,50] (λu:QBg=>([],[(17,.map (QR V.I V.I u))])) (λu=>Gi i a2 C p u) Z (K [5,.o (.any (.tup [.I ((Qr s i.Task).getD 0),.b (Qr s i.Task).isSome]) none),13] Z (λhC=>(a1_ (λσ x O _=>Stp.lookupOk (e:=V.I) (f:=V.I) (l:=s) (k:=i.Task) (z:=0) Z Z (Xk hC.n Z) (x _ _ Z) (O _ _ Z) (x _ _ Z) Nd WK Pa Z Z)))<|I 0 Z (B λy a0=>D 0 Z [.N,.N,.N,.E (.G Qf n1),.N,.E (.G Qo i),.N,.B (.C4 (.I y)),.m (.any ⟨[],[(17,.map (QR V.I V.I (XL WI s i.Task y)))],none⟩)] [] [] [1,2,4,10,11,12,14,21,22,23] [4,14,17,21,50] Z Z (a4_ Z Z (Qjf _ a0) (λσ x O=>Stp.mapUpdate (e:=V.I) (f:=V.I) (l:=s) (k:=i.Task) (v:=y) WI Z Z (x _ _ Z) (O _ _ Z) (x _ _ Z) (x _ _ Z) Nd WK Z)) Z<|P 0 Z Z)<|P 1 Z Z) λu=>K [5,.o (.any (.I ((Qr u i.Task).getD 0)) none),9] Z (λhC=>(a1_ (λσ x O _=>Stp.lookup (z:=0) Z Z (Xk hC.n Z) (x _ _ Z) (O _ _ Z) (x _ _ Z) Nd WK Pa Z)))<|I 0 Z (pA_ 3 4 Qo Z<|QhB 4 Z Z)<|I 6 Z (QhB 5 Z Z)<|QhB 3 Z Z) λg t w=>R 4 Z)<|X 2 Z) λ⟨a1,a3⟩=>zF_ 11 50 [8] [] Z<|E 0 Z
def AA (b:((L_ Qc)×Bool)):O_ Bool:=bif n then Q b.2 else Q false
def Wo (c:(L_ Xb))(d:(L_ QF))(e:Int)(f:Int)(g:Int)(h:Bool)(i:(L_ (ByteArray×Int)))(j:(L_ QC))(k:(L_ QMk)):O_ ((Int×(L_ QD)×(L_ Xb)×(L_ QF)×Int×Int×Int×Bool×(L_ (ByteArray×Int))×(L_ QC)×(L_ QMk))⊕((L_ QD)×(L_ Xb)×(L_ QF)×Int×Int×Int×Bool×(L_ (ByteArray×Int))×(L_ QC)×(L_ QMk))):=Q (y_ ((Qe (a+1)),s,c,d,e,f,g,h,i,j,k))
def Wp (d:Qc)(b:Int)(e:(L_ QD))(f:(L_ Xb))(g:(L_ QF))(h:Int)(i:Int)(j:Int)(m:Bool)(k:(L_ (ByteArray×Int)))(l:(L_ QMk)):O_ ((Int×(L_ QD)×(L_ Xb)×(L_ QF)×Int×Int×Int×Bool×(L_ (ByteArray×Int))×(L_ QC)×(L_ QMk))⊕((L_ QD)×(L_ Xb)×(L_ QF)×Int×Int×Int×Bool×(L_ (ByteArray×Int))×(L_ QC)×(L_ QMk))):=bif (b<0)then Wo a e f g h i j false k l3 l else j_ (chk (l3.length+([(QC.mk h0 b d)]:L_ QC).length<=4294967296)) λ_=>Wo a e f g h i j m k (l3++[(QC.mk h0 b d)]) l
def Gx (n:((L_ Qc)×Bool))(p:QMk)(O:Int)(b:Int)(c:(L_ QD))(d:(L_ Xb))(e:(L_ QF))(f:Int)(g:Int)(i:Int)(j:Bool)(k:(L_ (ByteArray×Int)))(h:(L_ QC))(l:(L_ QMk)):O_ ((Int×(L_ QD)×(L_ Xb)×(L_ QF)×Int×Int×Int×Bool×(L_ (ByteArray×Int))×(L_ QC)×(L_ QMk))⊕((L_ QD)×(L_ Xb)×(L_ QF)×Int×Int×Int×Bool×(L_ (ByteArray×Int))×(L_ QC)×(L_ QMk))):=bif (b<(n.1.length:Int))then j_ (idx n.1 b) λm=>j_ (Yg (Qd.mk c d e f g) p m) λo=>bif (o.2==0)then j_ (DN c d e f g i k l h j o.1) λa=>Wp b h O m a.1 a.2.2.1 a.2.2.2.1 a.2.2.2.2.1 a.2.2.2.2.2.1 a.2.2.2.2.2.2.1 a.2.2.2.2.2.2.2.1 a.2.2.2.2.2.2.2.2.1 a.2.2.2.2.2.2.2.2.2 a.2.1 else Wp b h O m (-1) c d e f g i j k l else Q (i_ (c,d,e,f,g,i,j,k,h,l))
def Md (a:((L_ Qc)×Bool))(b:QMk)(O:Int)(d:(L_ QD))(e:(L_ Xb))(f:(L_ QF))(g:Int)(h:Int)(i:Int)(j:(L_ (ByteArray×Int)))(k:(L_ QC))(l:(L_ QMk))(c:Bool):O_ ((L_ QMk)×(L_ QC)×(L_ QD)×(L_ Xb)×(L_ QF)×Int×Int×Int×Bool×(L_ (ByteArray×Int))):=j_ (Qh (λst=>Gx a b O st.1 st.2.1 st.2.2.1 st.2.2.2.1 st.2.2.2.2.1 st.2.2.2.2.2.1 st.2.2.2.2.2.2.1 st.2.2.2.2.2.2.2.1 st.2.2.2.2.2.2.2.2.1 st.2.2.2.2.2.2.2.2.2.1 st.2.2.2.2.2.2.2.2.2.2) (0,d,e,f,g,h,i,c,j,k,l)) (λq=>Q (q.2.2.2.2.2.2.2.2.2,q.2.2.2.2.2.2.2.2.1,q.1,q.2.1,q.2.2.1,q.2.2.2.1,q.2.2.2.2.1,q.2.2.2.2.2.1,q.2.2.2.2.2.2.1,q.2.2.2.2.2.2.2.1))
def Ue (f:(L_ Xb))(g:(L_ QF))(h:Int)(i:Int)(j:Int)(l:(L_ (ByteArray×Int)))(k:(L_ QMk))(m:(L_ QC))(c:Bool)(O:Int):O_ ((L_ QMk)×(L_ QC)×(L_ QD)×(L_ Xb)×(L_ QF)×Int×Int×Int×Bool×(L_ (ByteArray×Int))):=j_ (idx k O) λa=>j_ (Ei (Qd.mk s f g h i) a j 9223372036854775807) λb=>j_ (AA c b) (λd=>Md b a O s f g h i j l m k d)
def Qbh {v1 v2 v3 v4 v5 v6 m7 l8 l9 a2 at_11}:CT 62 [.L 621,.I at_11] [(621,.var [.M 7 Xf v1,.M 3 QW v2,.M 14 Qy v3,.I v4,.I v5,.I v6,.map 622,.P 619 l8,.P 620 l9,.b a2]),(622,.map (QR V.s V.I m7)),(619,.R 1 QE l8),(620,.R 6 XM l9)] (Ue v1 v2 v3 v4 v5 v6 m7 l8 l9 a2 at_11) (λ_=>(.tup [])) (λr=>[(619,.R 1 QE r.1),(620,.R 6 XM r.2.1),(621,.var [.M 7 Xf r.2.2.1,.M 3 QW r.2.2.2.1,.M 14 Qy r.2.2.2.2.1,.I r.2.2.2.2.2.1,.I r.2.2.2.2.2.2.1,.I r.2.2.2.2.2.2.2.1,.map 622,.P 619 r.1,.P 620 r.2.1,.b r.2.2.2.2.2.2.2.2.1]),(622,.map (QR V.s V.I r.2.2.2.2.2.2.2.2.2))]):=
 W 88 func62 Z<|vA_ 9 QE Z λb0=>B λa3 a4=>D 4 Z (dz_ [(9,.B (.C4 (.tup [.M 4 Qo a3.1,.b a3.2]))),(4,.N)]) [] [] [0,1,4,5,6] [619,620,621,622] Z Z (a1_ (Qkv _ a4)) Z<|mV_ 2 [0,1,4,5] [619,620,622] (λa5=>([],[(621,.var [.M 7 Xf v1,.M 3 QW v2,.M 14 Qy v3,.I v4,.I v5,.I v6,.map 622,.P 619 l8,.P 620 l9,.b a5])])) Z (I 8 Z (M 7 Z)<|M 7 Z) λa5=>N 4 Z<|lA_ 4 [0,1,4,45,46] [] (λst=>([(47,.I st.1)],[(619,.R 1 QE st.2.2.2.2.2.2.2.2.2.2),(620,.R 6 XM st.2.2.2.2.2.2.2.2.2.1),(621,.var [.M 7 Xf st.2.1,.M 3 QW st.2.2.1,.M 14 Qy st.2.2.2.1,.I st.2.2.2.2.1,.I st.2.2.2.2.2.1,.I st.2.2.2.2.2.2.1,.map 622,.P 619 st.2.2.2.2.2.2.2.2.2.2,.P 620 st.2.2.2.2.2.2.2.2.2.1,.b st.2.2.2.2.2.2.2.1]),(622,.map (QR V.s V.I st.2.2.2.2.2.2.2.2.1))])) [] [] (λq=>(.exit 0,([],[(619,.R 1 QE q.2.2.2.2.2.2.2.2.2),(620,.R 6 XM q.2.2.2.2.2.2.2.2.1),(621,.var [.M 7 Xf q.1,.M 3 QW q.2.1,.M 14 Qy q.2.2.1,.I q.2.2.2.1,.I q.2.2.2.2.1,.I q.2.2.2.2.2.1,.map 622,.P 619 q.2.2.2.2.2.2.2.2.2,.P 620 q.2.2.2.2.2.2.2.2.1,.b q.2.2.2.2.2.2.1]),(622,.map (QR V.s V.I q.2.2.2.2.2.2.2.1))]))) Z (λ⟨a6,b1,b2,b3,b4,b5,b6,b7,b8,j,b9⟩=>I 6 Z (Qtb 2 [0,1,4,45,46,47] [] (λ(k:(L_ QD)) (l:(L_ Xb)) (n:(L_ QF)) (o:Int) (p:Int) (t:Int) (u:Bool) (v:(L_ (ByteArray×Int))) (g:(L_ QC)) (h:(L_ QMk))=>([],[(619,.R 1 QE h),(620,.R 6 XM g),(621,.var [.M 7 Xf k,.M 3 QW l,.M 14 Qy n,.I o,.I p,.I t,.map 622,.P 619 h,.P 620 g,.b u]),(622,.map (QR V.s V.I v))])) (λk l n o p t u v g h=>Wo a6 k l n o p t u v g h) Z (J 3 Z λf=>B λa7 a8=>D 6 Z (dz_ [(6,.B (.C3 (.tup [.M 1 Qk a7.1,.I a7.2]))),(4,.N)]) [] [] [0,1,4,8,9,10,45,46,47] [8,619,620,621,622] Z Z (a1_ (Qb0 _ a8)) Z<|Qtb 6 [0,1,4,8,45,46,47] [8,620] (λ(e:Int) (w:(L_ QD)) (x:(L_ Xb)) (y:(L_ QF)) (z:Int) (C:Int) (O:Int) (a0:Bool) (a1:(L_ (ByteArray×Int))) (i:(L_ QMk))=>([(11,.I e)],[(619,.R 1 QE i),(621,.var [.M 7 Xf w,.M 3 QW x,.M 14 Qy y,.I z,.I C,.I O,.map 622,.P 619 i,.P 620 j,.b a0]),(622,.map (QR V.s V.I a1))])) (λe w x y z C O a0 a1 i=>Wp a6 j at_11 f e w x y z C O a0 a1 i) Z (I 6 Z (zA_ 3 .fn [(621,621),(622,622),(619,619),(620,620)] [(619,619),(620,620),(621,621),(622,622)] [619,620] Ma Z λc0=>QiM 2 Z Z)<|QiM 1 Z Z) λe w x y z C O a0 a1 i=>I 7 Z (QiM 12 Z Z)<|kA_ λa9=>D 2 Z [.a .no none true,.N,.N,.N,.N,.N,.N,.N,.E (.G Qo f),.E (.agg (XM (QC.mk at_11 e f))),.a (.bd []) (Q ([],.sl 6 (([(QC.mk at_11 e f)]:L_ QC).map XM))) false,.m (.app ((j++[(QC.mk at_11 e f)]).map XM) (j++[(QC.mk at_11 e f)]).length),.N,.N,.N,.m .s] [0,1,4,8,11,45,46,47] [8,619,622] [0,1,4,45,46,47] [619,620,621,622] Z Z (a4_ Z Z Z ⟨Qq,Af a9 Qq,Kz,UJ Qq⟩) Z<|QiM 1 Z Z) λk l n o p t u v g h=>R 4 Z)<|X 2 Z) λ⟨c1,c2,c3,c4,c5,c6,c7,c8,c9,d0⟩=>E 1 Z
def CC (b:(L_ Xb))(c:(L_ QF))(d:Int)(e:Int)(f:Int)(g:Bool)(h:(L_ (ByteArray×Int)))(i:(L_ QMk))(j:(L_ QC)):O_ ((Int×(L_ QD)×(L_ Xb)×(L_ QF)×Int×Int×Int×Bool×(L_ (ByteArray×Int))×(L_ QMk)×(L_ QC))⊕((L_ QD)×(L_ Xb)×(L_ QF)×Int×Int×Int×Bool×(L_ (ByteArray×Int))×(L_ QMk)×(L_ QC))):=Q (y_ ((Qe (a+1)),s,b,c,d,e,f,g,h,i,j))
def Me (e:(L_ Xb))(f:(L_ QF))(b:Int)(h:Int)(i:Int)(l:Bool)(j:(L_ (ByteArray×Int)))(c:(L_ QMk))(k:(L_ QC)):O_ ((Int×(L_ QD)×(L_ Xb)×(L_ QF)×Int×Int×Int×Bool×(L_ (ByteArray×Int))×(L_ QMk)×(L_ QC))⊕((L_ QD)×(L_ Xb)×(L_ QF)×Int×Int×Int×Bool×(L_ (ByteArray×Int))×(L_ QMk)×(L_ QC))):=bif (g<(c.length:Int))then j_ (idx c g) λm=>j_ (Bc m) λn=>bif (a<n)then CC g s e f b h i false j c k else j_ (Ue s e f b h i j c k l g) λd=>CC g d.2.2.1 d.2.2.2.1 d.2.2.2.2.1 d.2.2.2.2.2.1 d.2.2.2.2.2.2.1 d.2.2.2.2.2.2.2.1 d.2.2.2.2.2.2.2.2.1 d.2.2.2.2.2.2.2.2.2 d.1 d.2.1 else Q (i_ (s,e,f,b,h,i,l,j,c,k))
def Hd:O_ Qu:=bif (o<=0)then Q (Qu.mk ([]:(L_ QMk)) ([]:(L_ QC)) false)else j_ (Fg e) λf=>j_ (DN c.Colours c.Places c.Tasks c.From c.To o ([]:(L_ (ByteArray×Int))) ([]:L_ QMk) ([]:L_ QC) true f) λa=>j_ (Qh (λst=>Me i0 st.1 st.2.1 st.2.2.1 st.2.2.2.1 st.2.2.2.2.1 st.2.2.2.2.2.1 st.2.2.2.2.2.2.1 st.2.2.2.2.2.2.2.1 st.2.2.2.2.2.2.2.2.1 st.2.2.2.2.2.2.2.2.2.1 st.2.2.2.2.2.2.2.2.2.2) (0,a.2.2.1,a.2.2.2.1,a.2.2.2.2.1,a.2.2.2.2.2.1,a.2.2.2.2.2.2.1,a.2.2.2.2.2.2.2.1,a.2.2.2.2.2.2.2.2.1,a.2.2.2.2.2.2.2.2.2,a.2.1,([]:L_ QC))) (λq=>Q (Qu.mk q.2.2.2.2.2.2.2.2.1 q.2.2.2.2.2.2.2.2.2 q.2.2.2.2.2.2.1))
def Qmz {u w a c}:CT 31 [.G Qf u,.M 1 Qk w,.I a,.I c] [] (Hd u w a c) (λr=>(.G Xc r)) no_:=
 W 59 func31 Z<|I 13 Z (G [2,.v .no [Q 1,Q 6,none] (.agg (Xc (Qu.mk ([]:(L_ QMk)) ([]:(L_ QC)) false))),5] Z Z<|E 0 Z)<|oC_ 25 [.d] NR Z λx8=>zF_ 0 25 [25] [] Z<|gT_ [.adoptO 18 7 612 1,.adoptO 18 8 613 6] Z<|zA_ 0 .fn [(621,18),(622,16),(619,612),(620,613)] [(612,619),(613,620),(18,621),(16,622)] [612,613] Ma Z λx9=>lA_ 9 [3,8,9] [8] (λst=>([(10,.I st.1)],[(16,.map (QR V.s V.I st.2.2.2.2.2.2.2.2.1)),(18,.var [.M 7 Xf st.2.1,.M 3 QW st.2.2.1,.M 14 Qy st.2.2.2.1,.I st.2.2.2.2.1,.I st.2.2.2.2.2.1,.I st.2.2.2.2.2.2.1,.map 16,.P 612 st.2.2.2.2.2.2.2.2.2.1,.P 613 st.2.2.2.2.2.2.2.2.2.2,.b st.2.2.2.2.2.2.2.1]),(612,.R 1 QE st.2.2.2.2.2.2.2.2.2.1),(613,.R 6 XM st.2.2.2.2.2.2.2.2.2.2)])) [8,9] [8] (λq=>(.exit 0,([],[(16,.map (QR V.s V.I q.2.2.2.2.2.2.2.1)),(18,.var [.M 7 Xf q.1,.M 3 QW q.2.1,.M 14 Qy q.2.2.1,.I q.2.2.2.1,.I q.2.2.2.2.1,.I q.2.2.2.2.2.1,.map 16,.P 612 q.2.2.2.2.2.2.2.2.1,.P 613 q.2.2.2.2.2.2.2.2.2,.b q.2.2.2.2.2.2.1]),(612,.R 1 QE q.2.2.2.2.2.2.2.2.1),(613,.R 6 XM q.2.2.2.2.2.2.2.2.2)]))) Z (λ⟨at_11,x,y,z,C,O,a0,a1,a2,a3,a4⟩=>I 13 Z (Qtb 2 [3,8,9,10] [8] (λ(g:(L_ QD)) (h:(L_ Xb)) (i:(L_ QF)) (j:Int) (k:Int) (l:Int) (m:Bool) (o:(L_ (ByteArray×Int))) (e:(L_ QMk)) (f:(L_ QC))=>([],[(16,.map (QR V.s V.I o)),(18,.var [.M 7 Xf g,.M 3 QW h,.M 14 Qy i,.I j,.I k,.I l,.map 16,.P 612 e,.P 613 f,.b m]),(612,.R 1 QE e),(613,.R 6 XM f)])) (λg h i j k l m o e f=>CC at_11 g h i j k l m o e f) Z (vA_ 11 QE Z λa5=>A 0 Qdh Z λa6=>I 4 Z (QiM 12 Z Z)<|zA_ 5 .fn [(621,18),(622,16),(619,612),(620,613)] [(612,619),(613,620),(18,621),(16,622)] [612,613] Qbh Z λa7=>QiM 2 Z Z) λg h i j k l m o e f=>R 5 Z)<|X 2 Z) λ⟨a8,a9,b0,b1,b2,b3,b4,b5,p,t⟩=>g2_ [12,.frz 612 (p.map QE) [] [8],.frz 613 (t.map XM) [] [8]] Z (a1_ ⟨(Kj Qq),(a1_ U)⟩) (a1_ ⟨(Kj Qq),U⟩)<|E 0 Z
def Mf:O_ Qu:=j_ (DM c) λd=>j_ (Hd c d b i) λe=>Q e
def QhK {h b e}:CT 12 [.G Qf h,.I b,.I e] [] (Mf h b e) (λr=>(.G Xc r)) no_:=
 W 13 func12 Z<|B λi f=>B λj g=>D 7 Z [.N,.N,.B (.cd false [.d] 1 (i.map Qk) i.length),.N,.N,.B (.C4 (.G Xc j)),.m .s] [] [] [6] [6] Z Z (a2_ ⟨(Tr _ f),Qq⟩ (Qmz _ g)) Z<|E 2 Z
def Qdp:O_ Bool:=bif (0<=c.To)then bif (c.To<(e.length:Int))then j_ (idx e c.To) λa=>j_ (AQ a) λd=>Q (decide (0<d))else Q false else Q false
def Qdq:O_ Bool:=Q n
def Uu:O_ Bool:=j_ (Qdp c e) (λa=>Qdq a)
def TJ {a c}:CT 15 [.G Qf a,.M 1 Qk c] [] (Uu a c) V.b no_:=
 W 24 func15 Z<|mV_ 7 [] [] (λd=>([(4,.b d)],[])) Z (I 5 Z (N 3 Z<|I 3 Z (J 3 Z λe=>A 1 VQ Z λf=>M 4 Z)<|M 10 Z)<|M 17 Z) λd=>E 2 Z
def Qdr:O_ Bool:=bif ((e.length:Int) != (f0.Places.length:Int))then Q true else j_ (Uu f0 e) λc=>Q (!c)
def Mg:O_ (Int⊕(Unit⊕Unit)):=j_ (AQ f) λd=>bif (d != i)then Q (i_ (y_ ()))else Q (y_ (Qe (b+1)))
def Mh:O_ (Int⊕(Unit⊕Unit)):=bif (k<(e.length:Int))then j_ (idx e k) λb=>bif (k==f0.To)then Mg b k 1 else Mg b k 0 else Q (i_ (i_ ()))
def CD (c:Bool):O_ Bool:=bif c then Q false else j_ (Qh (λst=>Mh e f0 st) 0) (Sum.elim (λq=>Q false) (λq=>Q true))
def Bi:O_ Bool:=j_ (Qdr e c) (λa=>CD e c a)
def TK {e f}:CT 16 [.G Qf e,.M 1 Qk f] [] (Bi e f) V.b no_:=
 W 36 func16 Z<|mV_ 8 [1,2] [2] (λg=>([(19,.b g)],[])) Z (N 2 Z<|N 2 Z<|I 2 Z (M 6 Z)<|A 2 TJ Z λi=>M 3 Z) λg=>I 1 Z (E 7 Z)<|N 6 Z<|F 4 [2,20,21] [2] (λst=>([(22,.I st)],[])) [] [] (λq=>(.ret,([(4,.b false)],[]))) [] [] (λq=>(.exit 0,([],[]))) Z (λc=>I 6 Z (J 7 Z λd=>mE_ 10 [2,6,20,21,22] [2] (λa:Int=>([(7,.I a)],[])) (λa=>Mg d c a) Z (I 8 Z (P 3 Z Z)<|P 1 Z Z) λa=>A 3 VQ Z λh=>I 4 Z (L 8 Z)<|R 7 Z)<|X 2 Z) (λ_=>E 2 Z) (λ_=>E 8 Z)
def HH:O_ Bool:=j_ (Uu f3.net d2) λc=>bif c then j_ (Bi f3.net d2) λd=>Q (!d)else Q false
def GN:O_ Bool:=j_ (HH f3 e) (λc=>Q c)
def Qad {c a}:CT 81 [.M 1 Qk c,.L 621] [(621,.W YW a)] (GN c a) V.b (λ_=>[(621,.W YW a)]):=
 W 15 func81 Z<|mV_ 6 [] [621] (λd=>([(3,.b d)],[])) Z (A 4 TJ Z λe=>I 1 Z (A 3 TK Z λf=>M 4 Z)<|M 8 Z) λd=>E 2 Z
def Xz (d:QV)(a:Int):O_ (Int⊕(Int⊕Unit)):=bif (a<(d1.length:Int))then j_ (idx d1 a) λe=>j_ (GN e d) λb=>bif b then Q (i_ (y_ a))else Q (y_ (Qe (a+1)))else Q (i_ (i_ ()))
def Kl (b:QV):O_ Int:=j_ (Qh (λst=>Xz d1 b st) 0) (Sum.elim (λq=>Q q) (λq=>Q (-1)))
def CG {b a}:CT 35 [.M 1 QE b,.clo (.func 81) [] [.L 621]] [(621,.W YW a)] (Kl b a) V.I (λ_=>[(621,.W YW a)]):=
 W 19 func35 Z<|N 9 Z<|F 4 [0,1,7] [621] (λst=>([(8,.I st)],[])) [] [621] (λq=>(.ret,([(4,.I q)],[]))) [] [621] (λq=>(.exit 0,([],[]))) Z (λd=>I 6 Z (J 15 Z λe=>S 1 .clo [(621,621)] Qad Z λc=>I 2 Z (L 9 Z)<|R 7 Z)<|X 2 Z) (λf=>E 2 Z) (λ_=>E 8 Z)
def DU:O_ Int:=j_ (Kl f3.space.States f3) λb=>Q b
def Mi {a}:CT 45 [.G YW a] [] (DU a) V.I no_:=
 W 8 func45 Z<|S 12 .fn [(621,1)] CG Z λb=>E 4 Z
def Cg:O_ Bool:=Q ((0<=a)&&(a<(h.States.length:Int)))
def Sh {c d}:CT 219 [.I c,.L 621] [(621,.W Xc d)] (Cg c d) V.b (λ_=>[(621,.W Xc d)]):=
 W 13 func219 Z<|T 6 [] [621] ([(3,.b ((0<=c)&&(c<(d.States.length:Int))))],[]) Z (H 4 Z (λa=>N 3 Z<|Y 4 3 Z (XB a Z)) λa=>Y 8 3 Z (Yh a Z))<|E 2 Z
def Oa:O_ ((Int×(L_ (Int×LI_)))⊕(L_ (Int×LI_))):=Q (y_ ((Qe (a+1)),i1))
def VU (d:Qu):O_ Bool:=j_ (Cg g0.From d) λb=>bif b then j_ (Cg g0.To d) λc=>Q c else Q false
def QeU (c:Bool):O_ ((Int×(L_ (Int×LI_)))⊕(L_ (Int×LI_))):=bif c then j_ (chk (((Qr i1 g0.To).getD []).length+([g0.From]:L_ Int).length<=4294967296)) λ_=>Oa h0 (XL WI i1 g0.To (((Qr i1 g0.To).getD [])++[g0.From]))else Oa h0 i1
def Oc:O_ ((Int×(L_ (Int×LI_)))⊕(L_ (Int×LI_))):=bif (b<(h.Edges.length:Int))then j_ (idx h.Edges b) λa=>j_ (VU a h) (λd=>QeU i1 a b d)else Q (i_ i1)
def Od:O_ ((Int×QBg×LI_)⊕(QBg×LI_)):=Q (y_ ((Qe (a+1)),f,j))
def Oe (a:QBg)(b:LI_):O_ ((Int×QBg×LI_)⊕(QBg×LI_)):=bif (g2<(((Qr i1 h0).getD ([]:LI_)).length:Int))then j_ (idx ((Qr i1 h0).getD ([]:LI_)) g2) λd=>bif (!(Qr a d).isSome)then j_ (idx b 0) λg=>j_ (chk (b.length+([d]:L_ Int).length<=4294967296)) λ_=>Od g2 (XL WI a d (Qe (((Qr a g).getD 0)+1))) (b++([d]:L_ Int))else Od g2 a b else Q (i_ (a,b))
def QeV:O_ ((QBg×LI_)⊕QBg):=j_ (chk (decide (0<=1)&&decide (1<=j.length))) λ_=>Q (y_ (f,(j.drop 1)))
def Og:O_ ((QBg×LI_)⊕QBg):=bif (0<(e0.length:Int))then j_ (idx e0 0) λd=>j_ (Qh (λst=>Oe i1 d st.1 st.2.1 st.2.2) (0,e1,e0)) (λq=>QeV q.1 q.2)else Q (i_ e1)
def Qds:O_ QBg:=j_ (Qh (λst=>Og i1 st.1 st.2) ((XL WI ([]:QBg) a 0),([a]:L_ Int))) (λq=>Q q)
def PN:O_ QBg:=j_ (Cg b h) λc=>bif (!c)then Q ([]:QBg)else j_ (Qh (λst=>Oc h st.1 st.2) (0,([]:(L_ (Int×LI_))))) (λq=>Qds b q)
def Qoo {s1 k2}:CT 147 [.G Xc s1,.I k2] [] (PN s1 k2) (λ_=>(.map 602)) (λr=>[(602,.map (QR V.I V.I r))]):=
 W 93 func147 Z<|S 23 .clo [(621,2)] Sh Z λx5=>I 3 Z (gT_ [8,.ren 16 602] Z<|E 0 Z)<|K [4,.x (λσ=>(σ.set 22 (.grp 1 [] none)).put 22 (.map 22)),8] Z (λi=>(a1_ (Stp.makeGrp 1 Z Z (Xk i.n Z) Z)))<|N 0 Z<|lA_ 4 [1,5,6,7,24,25] [2,16] (λst=>([(26,.I st.1)],[(22,.grp 1 (OZ V.I Qb st.2) none)])) [1,6,7] [16] (λq=>(.exit 0,([],[(22,.grp 1 (OZ V.I Qb q) none)]))) Z (λ⟨x8,s⟩=>I 6 Z (mE_ 2 [1,5,6,7,24,25,26] [2,16] (λu:(L_ (Int×LI_))=>([],[(22,.grp 1 (OZ V.I Qb u) none)])) (λu=>Oa x8 u) Z (J 3 Z λc=>mV_ 6 [1,5,6,7,9,24,25,26] [2,9,16,22] (λa0=>([(39,.b a0)],[])) Z (S 4 .clo [(621,2)] Sh Z λa6=>I 1 Z (S 3 .clo [(621,2)] Sh Z λa7=>M 2 Z)<|M 6 Z) λa0=>I 1 Z (kA_ λa1=>BM 0 Z [.a .no none true,.a .no none true,.a .no none true,.N,.N,.N,.m (.any ⟨[46],[(46,.arr 1 (((Qr s c.To).getD []).map Qb)),(22,.grp 1 (OZ V.I Qb s) (Q (V.I c.To)))],Q (46,.own 46 ((Qr s c.To).getD []).length)⟩),.a .no none true,.a .no none true,.a (.bd []) (Q ([],.sl 1 (([c.From]:L_ Int).map Qb))) true,.m (.app ((((Qr s c.To).getD [])++[c.From]).map Qb) (((Qr s c.To).getD [])++[c.From]).length),.m (.any ⟨[46],[(22,.grp 1 (OZ V.I Qb (XL WI s c.To (((Qr s c.To).getD [])++[c.From]))) none)],none⟩)] [1,5,6,7,9,24,25,26] [2,9,16] [1,5,6,7,24,25,26] [2,16,22] Z Z (λi=>(a4_ (λσ g t=>Stp.lookupOutT (e:=V.I) (f:=Qb) (l:=s) (k:=c.To) Z Z (Xk i.n Z) (g _ _ Z) (t _ _ Z) (g _ _ Z) QeP WK QwP Z Z Z Z Z) Z ⟨Qq,Af a1 Qq,Kz,UJ Qq⟩ (λσ g t=>Stp.updateBackT (e:=V.I) (f:=Qb) (l:=s) (k:=c.To) (((Qr s c.To).getD [])++[c.From]) WI Z Z (g _ _ Z) (t _ _ Z) (g _ _ Z) (g _ _ Z) (t _ _ Z) QeP WK Z Z Z Z Z (by simp)))) Z<|P 1 Z Z)<|P 2 Z Z) λu=>R 4 Z)<|X 2 Z) λa2=>g2_ [6,.x (λσ=>σ.set 16 (.map (QR V.I V.I (XL WI ([]:QBg) k2 0)))),7,.O 55 (.arr 1 (([k2]:L_ Int).map Qb)),4] Z (Stp.mapUpdate (e:=V.I) (f:=V.I) (l:=([]:QBg)) (k:=k2) (v:=0) WI Z Z Z Z Z Z Nd WK Z) Z<|λi h=>AK.grpMap (b:=22) (e:=V.I) (f:=Qb) (l:=a2) WK Z Z<|Qat i h<|lA_ 0 [6,7] [22] (λst=>([(10,.P 55 st.2)],[(16,.map (QR V.I V.I st.1)),(55,.R 1 Qb st.2)])) [6] [] (λq=>(.exit 2,([],[(16,.map (QR V.I V.I q))]))) Z (λ⟨a8,a9⟩=>I 8 Z (vA_ 9 Qb Z λa4=>K [.o (.any (.sl 1 (((Qr a2 a4).getD ([]:LI_)).map Qb)) none)] Z (λi=>(a1_ (λσ g t _=>Stp.lookup (z:=([]:LI_)) Z Z (Xk i.n Z) (g _ _ Z) (t _ _ Z) (g _ _ Z) QeP WK QwQ Z)))<|N 0 Z<|lA_ 4 [6,7,65,66] [22] (λst=>([(10,.P 55 st.2.2),(67,.I st.1)],[(16,.map (QR V.I V.I st.2.1)),(55,.R 1 Qb st.2.2)])) [6,7] [22] (λq=>(.exit 4,([(10,.P 55 q.2)],[(16,.map (QR V.I V.I q.1)),(55,.R 1 Qb q.2)]))) Z (λ⟨a5,d,b0⟩=>I 6 Z (mF_ 2 [6,7,65,66,67] [22] (λ(w:QBg) (j:LI_)=>([(10,.P 55 j)],[(16,.map (QR V.I V.I w)),(55,.R 1 Qb j)])) (λw j=>Od a5 w j) Z (J 3 Z λp=>K [8,.o (.any (.tup [.I ((Qr d p).getD 0),.b (Qr d p).isSome]) none),13] Z (λi=>(a1_ (λσ g t _=>Stp.lookupOk (e:=V.I) (f:=V.I) (l:=d) (k:=p) (z:=0) Z Z (Xk i.n Z) (g _ _ Z) (t _ _ Z) (g _ _ Z) Nd WK Pa Z Z)))<|I 0 Z (vA_ 7 Qb Z λC=>K [.o (.any (.I ((Qr d C).getD 0)) none),1,.x (λσ=>σ.set 16 (.map (QR V.I V.I (XL WI d p (Qe (((Qr d C).getD 0)+1)))))),5] Z (λi=>(a2_ (λσ g t _=>Stp.lookup (z:=0) Z Z (Xk i.n Z) (g _ _ Z) (t _ _ Z) (g _ _ Z) Nd WK Pa Z) (Stp.mapUpdate (e:=V.I) (f:=V.I) (l:=d) (k:=p) (v:=(Qe (((Qr d C).getD 0)+1))) WI Z Z Z Z Z Z Nd WK Z)))<|pA_ 0 1 Qb Z<|fA_ 3 Z Z)<|fA_ 2 Z Z) λw j=>R 4 Z)<|X 2 Z) λ⟨b1,a3⟩=>kA_ λy=>K [5,.x (λσ=>σ.app 55 1 60 (a3.drop 1).length ((a3.drop 1).map Qb)),2] Z (λi=>(a1_ (Stp.sliceT Z Z (Xk i.n Z) Z Z Z (Xg.es Z) (GC.val Z (Xd (QbE y)) Z) (GC.none_ Z) (Qui (MY y)) (Yx _) Qyz QyA)))<|R 0 Z)<|X 2 Z) λb2=>gT_ [9,.ren 16 602] Z<|E 0 Z
def Oh:O_ ((Int×LI_)⊕LI_):=Q (y_ ((Qe (a+1)),d))
def VV:O_ ((Int×LI_)⊕LI_):=bif (i<(h.Edges.length:Int))then j_ (idx h.Edges i) λc=>bif (c.From==b)then j_ (chk (j.length+([i]:L_ Int).length<=4294967296)) λ_=>Oh i (j++([i]:L_ Int))else Oh i j else Q (i_ j)
def ZG:O_ LI_:=j_ (Qh (λst=>VV h b st.1 st.2) (0,([]:L_ Int))) (λq=>Q q)
def Qoq {b c}:CT 19 [.G Xc b,.I c] [] (ZG b c) (λr=>(.P 600 r)) (λr=>[(600,.R 1 Qb r)]):=
 W 26 func19 Z<|N 16 Z<|aD_ 4 5 20 1 Z<|lA_ 0 [1,9,10] [] (λst=>([(5,.P 20 st.2),(11,.I st.1)],[(20,.R 1 Qb st.2)])) [] [] (λq=>(.exit 0,([(5,.P 20 q)],[(20,.R 1 Qb q)]))) Z (λ⟨d,f⟩=>I 6 Z (mE_ 2 [1,9,10,11] [] (λa:LI_=>([(5,.P 20 a)],[(20,.R 1 Qb a)])) (λa=>Oh d a) Z (J 4 Z λe=>I 14 Z (pA_ 3 1 Qb Z<|P 3 Z Z)<|P 2 Z Z) λa=>R 4 Z)<|X 2 Z) λg=>gT_ [9,.ren 20 600] Z<|E 0 Z
def VW:O_ Bool:=j_ (idx h.Edges a) λc=>Q ((Qr f c.To).isSome&&(((Qr f c.To).getD 0)==(Qe (((Qr f b).getD 0)-1))))
def Qjg {s c p i}:CT 148 [.I s,.L 621,.L 623,.L 624] [(621,.var [.map 622]),(622,.map (QR V.I V.I c)),(623,.W Xc p),(624,.W Qb i)] (VW s c p i) V.b (λ_=>[(621,.var [.map 622]),(622,.map (QR V.I V.I c)),(623,.W Xc p),(624,.W Qb i)]):=
 W 28 func148 Z<|B λd q=>BM 6 Z (dz_ [(4,.B (.row (XM d))),(2,.B (.any (.tup [.I ((Qr c d.To).getD 0),.b (Qr c d.To).isSome]) none)),(4,.N)]) [] [] [1,3,6,7] [621,622,623,624] Z Z (λj=>(a2_ (XY q) (λσ m r _=>Stp.lookupOk (e:=V.I) (f:=V.I) (l:=c) (k:=d.To) (z:=0) Z Z (Xk j.n Z) (m _ _ Z) (r _ _ Z) (m _ _ Z) Nd WK Pa Z Z))) Z<|T 2 [] [621,622,623,624] ([(5,.b ((Qr c d.To).isSome&&(((Qr c d.To).getD 0)==(Qe (((Qr c i).getD 0)-1)))))],[]) Z (gP_ 3 Z<|(λj h=>by
   rcases QxC (Qr c d.To).isSome with g | g
   ·refine Jn j [.S 20 (.b true),3,.o (.any (.I ((Qr c i).getD 0)) none),5,.S 5 (.b ((Qr c d.To).isSome&&(((Qr c d.To).getD 0)==(Qe (((Qr c i).getD 0)-1))))),.K [5] [621,622,623,624]] rfl ⟨⟨(tc_ g),(λσ m r _=>Stp.lookup (z:=0) rfl rfl (Xk j.n rfl) (m _ _ rfl) (r _ _ rfl) (m _ _ rfl) Nd WK Pa rfl)⟩,(cb_ (XB g rfl))⟩ ?_;exact tA_ 0 Z j h
   refine Jn j [.S 20 (.b false),9,.S 5 (.b ((Qr c d.To).isSome&&(((Qr c d.To).getD 0)==(Qe (((Qr c i).getD 0)-1))))),.K [5] [621,622,623,624]] rfl ⟨(tc_ g),(cb_ (Yh g rfl))⟩ ?_;exact tA_ 0 Z j h))<|E 2 Z
def Gj:O_ (Int⊕(Int⊕Unit)):=bif (i<(d.length:Int))then j_ (idx d i) λa=>j_ (VW a f h b) λc=>bif c then Q (i_ (y_ i))else Q (y_ (Qe (i+1)))else Q (i_ (i_ ()))
def WE:O_ Int:=j_ (Qh (λst=>Gj d f h b st) 0) (Sum.elim (λq=>Q q) (λq=>Q (-1)))
def Sk {d a b c}:CT 149 [.M 1 Qb d,.clo (.func 148) [] [.L 621,.L 623,.L 624]] [(621,.var [.map 622]),(622,.map (QR V.I V.I a)),(623,.W Xc b),(624,.W Qb c)] (WE d a b c) V.I (λ_=>[(621,.var [.map 622]),(622,.map (QR V.I V.I a)),(623,.W Xc b),(624,.W Qb c)]):=
 W 19 func149 Z<|N 9 Z<|F 4 [0,1,7] [621,622,623,624] (λst=>([(8,.I st)],[])) [] [621,622,623,624] (λq=>(.ret,([(4,.I q)],[]))) [] [621,622,623,624] (λq=>(.exit 0,([],[]))) Z (λg=>I 6 Z (J 15 Z λe=>S 1 .clo [(621,621),(622,622),(623,623),(624,624)] Qjg Z λf=>I 2 Z (L 9 Z)<|R 7 Z)<|X 2 Z) (λh=>E 2 Z) (λ_=>E 8 Z)
def TL (a:(L_ Qc))(d:Int):O_ (((L_ Qc)×Int)⊕(L_ Qc)):=bif (0<((Qr f d).getD 0))then j_ (ZG h d) λc=>j_ (WE c f h d) λe=>j_ (idx c e) λg=>j_ (idx h.Edges g) λb=>j_ (chk (a.length+([b.Mode]:L_ Qc).length<=4294967296)) λ_=>Q (y_ ((a++[b.Mode]),b.To))else Q (i_ a)
def YE:O_ (L_ Qc):=j_ (PN h b) λa=>bif (!(Qr a 0).isSome)then Q ([]:L_ Qc)else j_ (Qh (λst=>TL a h st.1 st.2) (([]:L_ Qc),0)) (λq=>Q q)
def Qdt {y k2}:CT 88 [.G Xc y,.I k2] [] (YE y k2) (λr=>(.P 600 r)) (λr=>[(600,.R 4 Qo r)]):=
 W 50 func88 Z<|zA_ 10 .fn [] [(15,602)] [] Qoo Z λi=>K [8,.o (.any (.tup [.I ((Qr i 0).getD 0),.b (Qr i 0).isSome]) none),13] Z (λj=>(a1_ (λσ h p _=>Stp.lookupOk (e:=V.I) (f:=V.I) (l:=i) (k:=0) (z:=0) Z Z (Xk j.n Z) (h _ _ Z) (p _ _ Z) (h _ _ Z) Nd WK Pa Z Z)))<|I 0 Z (aD_ 7 4 600 4 Z<|E 0 Z)<|aD_ 15 8 8 4 Z<|lA_ 0 [2,5,9] [2,5,15] (λst=>([(8,.P 8 st.1)],[(8,.R 4 Qo st.1),(9,.W Qb st.2)])) [] [] (λq=>(.exit 0,([(8,.P 8 q)],[(8,.R 4 Qo q)]))) Z (λ⟨g,at_8⟩=>K [5,.o (.any (.I ((Qr i at_8).getD 0)) none),3] Z (λj=>(a1_ (λσ h p _=>Stp.lookup (z:=0) Z Z (Xk j.n Z) (h _ _ Z) (p _ _ Z) (h _ _ Z) Nd WK Pa Z)))<|I 0 Z (oC_ 14 [.d,.d] Qoq Z λC=>G [4,.frz 30 (C.map Qb) [11,30] []] Z (a2_ (Kj Qq) (Kj Qq))<|B λt u=>B λO v=>B λc w=>BM 0 Z (dz_ [(5,.B (.any (.I t) none)),(0,.B (.row (Qb O))),(1,.B (.row (XM c))),(2,.m .s)]) [] [] [2,5,8,9,12] [2,5,8,9,12,15] Z Z (λj=>(a3_ (λσ h p _=>Stp.callSame (md:=.cm (.fn) [(621,5),(622,15),(623,2),(624,9)] [(5,621),(15,622),(2,623),(9,624)] [] [.d,.d] [(621,.var [.map 622]),(622,.map (QR V.I V.I i)),(623,.W Xc y),(624,.W Qb at_8)] (.I t) [5,15,2,9]) Xg j h p Z (a2_ (Sk _ u) r4_)) (XY v) (XY w))) Z<|kA_ λx=>D 1 Z [.N,.N,.E (.G Qo c.Mode),.a (.bd []) (Q ([],.sl 4 (([c.Mode]:L_ Qc).map Qo))) false,.m (.app ((g++[c.Mode]).map Qo) (g++[c.Mode]).length),.a .no none true,.a .no none true,.m .s,.m .s] [2,5,9,12] [2,5,9,12,15] [2,5,8,9] [2,5,8,9,15] Z Z (a3_ Z Z ⟨Qq,Af x Qq,Kz,UJ Qq⟩) Z<|gT_ [8,.kill 9,3] Z<|R 0 Z)<|X 2 Z) λa0=>gT_ [9,.ren 8 600] Z<|E 0 Z
def Uv:O_ (Bool×Xe):=j_ (DU f3) λb=>bif (b<0)then Q (true,(Xe.mk 0 0 0 ([]:(L_ Qc))))else j_ (YE f3.space b) λc=>Q (false,(Xe.mk 2 1 0 c))
def QeW {a}:CT 50 [.G YW a] [] (Uv a) (λr=>(.tup [.G XO r.2,.b r.1])) no_:=
 W 15 func50 Z<|A 10 Mi Z λe=>I 10 Z (G [2,.v .no [none,none,none,Q 4] (.agg (XO (Xe.mk 0 0 0 ([]:(L_ Qc))))),6] Z Z<|E 0 Z)<|oC_ 7 [.d,.d] Qdt Z λc=>G [6,.frz 13 (c.map Qo) [] [2]] Z (a1_ ⟨(Kj Qq),U⟩)<|E 0 Z
def Mj:O_ ((Int×LI_)⊕LI_):=Q (y_ ((Qe (a+1)),d))
def TM:O_ ((Int×LI_)⊕LI_):=bif (k<(h.States.length:Int))then j_ (idx h.States k) λc=>j_ (Bi f0 c) λd=>bif d then j_ (chk (e0.length+([k]:L_ Int).length<=4294967296)) λ_=>Mj k (e0++([k]:L_ Int))else Mj k e0 else Q (i_ e0)
def TN:O_ LI_:=j_ (Qh (λst=>TM h c st.1 st.2) (0,([]:L_ Int))) (λq=>Q q)
def QmE {b c}:CT 69 [.G Qf b,.G Xc c] [] (TN b c) (λr=>(.P 600 r)) (λr=>[(600,.R 1 Qb r)]):=
 W 25 func69 Z<|N 17 Z<|aD_ 4 5 19 1 Z<|lA_ 0 [2,9,10] [2] (λst=>([(5,.P 19 st.2),(11,.I st.1)],[(19,.R 1 Qb st.2)])) [] [] (λq=>(.exit 0,([(5,.P 19 q)],[(19,.R 1 Qb q)]))) Z (λ⟨d,g⟩=>I 6 Z (mE_ 2 [2,9,10,11] [2] (λa:LI_=>([(5,.P 19 a)],[(19,.R 1 Qb a)])) (λa=>Mj d a) Z (J 4 Z λe=>A 9 TK Z λf=>I 2 Z (pA_ 3 1 Qb Z<|P 3 Z Z)<|P 2 Z Z) λa=>R 4 Z)<|X 2 Z) λh=>gT_ [9,.ren 19 600] Z<|E 0 Z
def Nm:O_ Bool:=Q ((0<=b)&&(b<(h.States.length:Int)))
def Qb1 {d c}:CT 70 [.G Xc d,.I c] [] (Nm d c) V.b no_:=
 W 14 func70 Z<|T 7 [] [] ([(4,.b ((0<=c)&&(c<(d.States.length:Int))))],[]) Z (H 4 Z (λa=>N 3 Z<|Y 4 4 Z (XB a Z)) λa=>Y 8 4 Z (Yh a Z))<|E 2 Z
def Qb2:O_ Bool:=j_ (Nm h g0.From) λc=>bif c then j_ (Nm h g0.To) λd=>Q d else Q false
def Qb3:O_ Bool:=Q n
def Rb:O_ Bool:=j_ (Qb2 h g0) (λc=>Qb3 c)
def Qkw {a c}:CT 73 [.G Xc a,.G XM c] [] (Rb a c) V.b no_:=
 W 15 func73 Z<|mV_ 8 [] [] (λd=>([(4,.b d)],[])) Z (A 4 Qb1 Z λe=>I 1 Z (A 3 Qb1 Z λf=>M 3 Z)<|M 7 Z) λd=>E 2 Z
def Pq (b:QA):O_ (L_ QA):=j_ (chk (t.length+([b]:L_ QA).length<=4294967296)) λ_=>Q (t++[b])
def Qgc {b c}:CT 359 [.L 621,.ifc 160 (.G Qv c)] [(621,.var [.P 619 b]),(619,.R 2 Qv b)] (Pq b c) (λ_=>(.tup [])) (λr=>[(619,.R 2 Qv r),(621,.var [.P 619 r])]):=
 W 13 func359 Z<|kA_ λd=>D 0 Z [.a .no none true,.N,.N,.N,.N,.N,.a (.bd []) (Q ([],.sl 2 (([c]:L_ QA).map Qv))) false,.m (.app ((b++[c]).map Qv) (b++[c]).length),.N,.m .s] [0,1] [] [] [619,621] Z Z (a2_ Z ⟨Qq,Af d Qq,Kz,UJ Qq⟩) Z<|E 0 Z
def Bj:O_ Int:=Q (t.length:Int)
def VJ {a}:CT 111 [.P 621 a] [(621,.R 2 Qv a)] (Bj a) V.I (λ_=>[(621,.R 2 Qv a)]):=
 W 5 func111 Z<|E 13 Z
def GZ:O_ Bool:=j_ (idx t m0) λd=>j_ (idx t i3) λe=>Q (decide (d.far<e.far))
def Ie {e f g}:CT 356 [.P 621 e,.I f,.I g] [(621,.R 2 Qv e)] (GZ e f g) V.b (λ_=>[(621,.R 2 Qv e)]):=
 W 18 func356 Z<|B λh c=>B λi d=>D 6 Z [.N,.N,.N,.N,.B (.row (Qv h)),.N,.N,.N,.N,.B (.row (Qv i)),.N,.m .s] [] [] [6] [621] Z Z (a4_ (Ym c Z) (XN (Yo c).2) (Ym d Z) (XN (Yo d).2)) Z<|E 2 Z
def Ea:O_ (L_ QA):=j_ (idx t i3) λd=>j_ (idx t m0) λe=>j_ (idx t m0) λf=>j_ (idx (t.set m0.toNat d) i3) λg=>Q ((t.set m0.toNat d).set i3.toNat e)
def Ig {b g i}:CT 357 [.P 621 b,.I g,.I i] [(621,.R 2 Qv b)] (Ea b g i) (λ_=>(.tup [])) (λr=>[(621,.R 2 Qv r)]):=
 W 20 func357 Z<|B λh c=>B λj d=>B λk e=>B λl f=>D 0 Z [.N,.N,.a .no none true,.a .no none true,.N,.N,.N,.a (.row (Qv h)) (Q ([],.G Qv h)) false,.N,.N,.N,.a (.row (Qv j)) (Q ([],.G Qv j)) false,.N,.m (.st (Qv k) ((b.set g.toNat h).map Qv)),.N,.m (.st (Qv l) (((b.set g.toNat h).set i.toNat j).map Qv))] [0,1,2] [] [] [621] Z Z (aA_ (Ym c Z) (XN (Yo c).2) Z (Ym d Z) (XN (Yo d).2) Z (Ym e Z) ⟨(XN (Yo e).2),WG Z⟩ (Ym f (by simp)) ⟨(XN (Yo f).2),WG Z⟩) Z<|E 0 Z
def PO:O_ Bool:=bif ((Qe (Int.tdiv (Qe (a-1)) 2))==a)then Q true else j_ (GZ t a (Qe (Int.tdiv (Qe (a-1)) 2))) λb=>Q (!b)
def PP:O_ ((Int×(L_ QA))⊕(L_ QA)):=bif p then Q (i_ t)else j_ (Ea t (Qe (Int.tdiv (Qe (m0-1)) 2)) m0) λa=>j_ (chk (a.length=t.length)) λ_=>Q (y_ ((Qe (Int.tdiv (Qe (m0-1)) 2)),a))
def Fp:O_ ((Int×(L_ QA))⊕(L_ QA)):=j_ (PO a t) (λb=>PP t a b)
def BC:O_ (L_ QA):=j_ (Qh (λst=>Fp st.1 st.2) (m0,t)) (λq=>Q q)
def Qey {h j}:CT 165 [.ifc 158 (.L 621),.I j] [(621,.var [.P 619 h]),(619,.R 2 Qv h)] (BC h j) (λ_=>(.tup [])) (λr=>[(619,.R 2 Qv r),(621,.var [.P 619 r])]):=
 W 23 func165 Z<|lA_ 1 [0] [] (λst=>([(1,.I st.1)],[(619,.R 2 Qv st.2),(621,.var [.P 619 st.2])])) [] [] (λq=>(.exit 0,([],[(619,.R 2 Qv q),(621,.var [.P 619 q])]))) Z (λ⟨l,k⟩=>G [11] Z (by decide)<|mV_ 0 [0,1,4] [619,621] (λa=>([(17,.b a)],[])) Z (I 5 Z (M 7 Z)<|B λi c=>g2_ [3,.cm (.mv 356 156) [(621,619)] [(619,621)] [] [.d,.d,.d] [(621,.R 2 Qv k)] (.b i),3] Z Qep (Ie _ c)<|M 0 Z) λa=>I 1 Z (X 3 Z)<|B λe f=>kA_ λg=>g3_ [7,.cm (.mv 357 156) [(621,619)] [(619,621)] [] [.d,.d,.d] [(621,.R 2 Qv e)] (.tup []),.O 621 (.var [.P 619 e]),7] Z Qeq (Ig _ f) (by simp[Xd g])<|R 0 Z) λm=>E 1 Z
def Gs (c:QA):O_ (L_ QA):=j_ (Pq t c) λa=>j_ (Bj a) λd=>j_ (BC a (Qe (d-1))) λe=>Q e
def Nn {a f}:CT 110 [.ifc 158 (.L 621),.ifc 160 (.G Qv f)] [(621,.var [.P 619 a]),(619,.R 2 Qv a)] (Gs a f) (λ_=>(.tup [])) (λr=>[(619,.R 2 Qv r),(621,.var [.P 619 r])]):=
 W 12 func110 Z<|B λb c=>B λg e=>gA_ [4,.cm (.me 359) [(621,621),(619,619)] [(619,619),(621,621)] [619] [.d,.d] [(619,.R 2 Qv b),(621,.var [.P 619 b])] (.tup []),5,.cm (.mv 111 156) [(621,619)] [(619,621)] [] [.d] [(621,.R 2 Qv b)] (.I g),1] Z (a4_ QrX (Qgc _ c) Qmj (VJ _ e))<|zA_ 0 .fn [(621,621),(619,619)] [(619,619),(621,621)] [619] Qey Z λh=>E 1 Z
def LN:O_ Int:=Q (t.length:Int)
def Qez {a}:CT 111 [.M 2 Qv a] [] (LN a) V.I no_:=
 W 5 func111 Z<|N 8 Z<|E 4 Z
def WP:O_ ((Int×(L_ QA))⊕(Int×(L_ QA))):=j_ (GZ t i3 m0) λe=>bif (!e)then Q (i_ (m0,t))else j_ (Ea t m0 i3) λb=>j_ (chk (b.length=t.length)) λ_=>Q (y_ (i3,b))
def Bk:O_ Bool:=bif ((Qe ((Qe ((Qe (2*a))+1))+1))<g)then j_ (GZ t (Qe ((Qe ((Qe (2*a))+1))+1)) (Qe ((Qe (2*a))+1))) λb=>Q b else Q false
def WQ:O_ ((Int×(L_ QA))⊕(Int×(L_ QA))):=bif p then WP t m0 (Qe ((Qe ((Qe (2*m0))+1))+1))else WP t m0 (Qe ((Qe (2*m0))+1))
def Bl:O_ ((Int×(L_ QA))⊕(Int×(L_ QA))):=
 bif ((a<=(Qe ((Qe (2*g))+1)))||((Qe ((Qe (2*g))+1))<0))then
 Q (i_ (g,t))
 else
 j_ (Bk g a t) (λc=>WQ t g c)
def Gt:O_ (Bool×(L_ QA)):=j_ (Qh (λst=>Bl i3 st.1 st.2) (m0,t)) (λq=>Q ((decide (m0<q.1)),q.2))
def Qb5 {k t l}:CT 166 [.ifc 158 (.L 621),.I t,.I l] [(621,.var [.P 619 k]),(619,.R 2 Qv k)] (Gt k t l) (λr=>(.b r.1)) (λr=>[(619,.R 2 Qv r.2),(621,.var [.P 619 r.2])]):=
 W 48 func166 Z<|lA_ 13 [0,1,2] [] (λst=>([(7,.I st.1)],[(619,.R 2 Qv st.2),(621,.var [.P 619 st.2])])) [1] [] (λq=>(.exit 0,([(7,.I q.1)],[(619,.R 2 Qv q.2),(621,.var [.P 619 q.2])]))) Z (λ⟨m,o⟩=>T 11 [0,1,2,7,8] [619,621] ([(21,.b ((l<=(Qe ((Qe (2*m))+1)))||((Qe ((Qe (2*m))+1))<0)))],[]) Z (H 5 Z (λa=>Y 4 21 Z (KO a Z)) λa=>Y 4 21 Z (Yv a Z))<|I 1 Z (X 3 Z)<|mE_ 8 [0,1,2,7] [619,621] (λc:Int=>([(9,.I c)],[])) (λc=>WP o m c) Z (mV_ 8 [0,1,2,7,9,10] [619,621] (λe=>([(33,.b e)],[])) Z (I 5 Z (B λp f=>g2_ [3,.cm (.mv 356 156) [(621,619)] [(619,621)] [] [.d,.d,.d] [(621,.R 2 Qv o)] (.b p),2] Z Qep (Ie _ f)<|M 0 Z)<|M 6 Z) λe=>I 1 Z (P 4 Z Z)<|P 1 Z Z) λc=>B λs g=>g2_ [6,.cm (.mv 356 156) [(621,619)] [(619,621)] [] [.d,.d,.d] [(621,.R 2 Qv o)] (.b s),3] Z Qep (Ie _ g)<|I 0 Z (X 3 Z)<|B λh i=>kA_ λj=>g3_ [7,.cm (.mv 357 156) [(621,619)] [(619,621)] [] [.d,.d,.d] [(621,.R 2 Qv h)] (.tup []),.O 621 (.var [.P 619 h]),7] Z Qeq (Ig _ i) (by simp[Xd j])<|R 0 Z) λ⟨u,v⟩=>E 11 Z
def Sl:O_ (QA×(L_ QA)):=j_ (idx t (Qe ((t.length:Int)-1))) λb=>j_ (chk (decide (0<=(Qe ((t.length:Int)-1)))&&decide ((Qe ((t.length:Int)-1)).toNat<=t.length))) λ_=>Q (b,(t.take (Qe ((t.length:Int)-1)).toNat))
def QgY {b}:CT 358 [.L 621] [(621,.var [.P 619 b]),(619,.R 2 Qv b)] (Sl b) (λr=>(.ifc 160 (.G Qv r.1))) (λr=>[(619,.R 2 Qv r.2),(621,.var [.P 619 r.2])]):=
 W 27 func358 Z<|B λe d=>D 6 Z [.N,.N,.N,.N,.N,.N,.N,.N,.N,.a (.row (Qv e)) (Q ([],.G Qv e)) false,.N,.m .s] [] [] [0,3] [3,619,621] Z Z (a3_ (Ym d Z) (XN (Yo d).2) Z) Z<|G [.O 3 (.W Qv e),2,.K [0,3] [3,619,621]] Z Z<|kA_ λc=>(λf h=>by
   have g:(Qe ((b.length:Int)-1)).toNat=(b.take (Qe ((b.length:Int)-1)).toNat).length:=by rw[KX,IU (Xd (MY c))]
   refine AK.draw2 Xg f mixed [.a .no none true,.N,.N,.N,.N,.N,.N,.N,.N,.m (.any ⟨[],[(619,.arr 2 ((b.take (Qe ((b.length:Int)-1)).toNat).map Qv))],Q (23,.own 619 (Qe ((b.length:Int)-1)).toNat)⟩),.N,.m .s] [0,3] [3,621] [3] [3,619,621] rfl rfl rfl ⟨U,(λσ i j=>Stp.sliceO rfl rfl (Xk f.n rfl) (i _ _ rfl) (j _ _ rfl) (Xg.es rfl) GC.no (GC.val (i _ _ rfl) (Xd (QbE c)) rfl) (Xd (MY c)) (by simp))⟩ rfl (by kernel_rfl) rfl rfl rfl ?_;refine Jn f [.O 621 (.var [.own 619 (Qe ((b.length:Int)-1)).toNat]),3,.A (Qv e),5,.O 621 (.var [.own 619 (b.take (Qe ((b.length:Int)-1)).toNat).length]),.K [2] [619,621]] rfl (a3_ rfl rfl (congrArg (λn=>Ob.var [.own 619 n]) (by rw[<-g]))) ?_;exact E 0 Z f h)
def AB:O_ (QA×(L_ QA)):=j_ (Bj t) λb=>j_ (Ea t 0 (Qe (b-1))) λc=>j_ (chk (c.length=t.length)) λ_=>j_ (Gt c 0 (Qe (b-1))) λe=>j_ (Sl e.2) λd=>Q (d.1,d.2)
def QcZ {a}:CT 112 [.ifc 158 (.L 621)] [(621,.var [.P 619 a]),(619,.R 2 Qv a)] (AB a) (λr=>(.ifc 160 (.G Qv r.1))) (λr=>[(619,.R 2 Qv r.2),(621,.var [.P 619 r.2])]):=
 W 15 func112 Z<|B λi b=>B λh c=>kA_ λe=>gA_ [8,.cm (.mv 111 156) [(621,619)] [(619,621)] [] [.d] [(621,.R 2 Qv a)] (.I i),8,.cm (.mv 357 156) [(621,619)] [(619,621)] [] [.d,.d,.d] [(621,.R 2 Qv h)] (.tup []),.O 621 (.var [.P 619 h]),6] Z (a5_ Qmj (VJ _ b) Qeq (Ig _ c) (by simp[Xd e]))<|zA_ 0 .fn [(621,621),(619,619)] [(619,619),(621,621)] [619] Qb5 Z λj=>B λf g=>g2_ [5,.cm (.me 358) [(621,621),(619,619)] [(619,619),(621,621)] [619] [.d] [(619,.R 2 Qv f.2),(621,.var [.P 619 f.2])] (.ifc 160 (.G Qv f.1)),4] Z Qs8 (QgY _ g)<|E 0 Z
def Rc:O_ ((Int×(L_ (Int×LI_)))⊕(L_ (Int×LI_))):=Q (y_ ((Qe (a+1)),i1))
def Re:O_ ((Int×(L_ (Int×LI_)))⊕(L_ (Int×LI_))):=bif (b<(h.Edges.length:Int))then j_ (idx h.Edges b) λa=>j_ (Rb h a) λe=>bif e then j_ (chk (((Qr i1 a.To).getD []).length+([a.From]:L_ Int).length<=4294967296)) λ_=>Rc b (XL WI i1 a.To (((Qr i1 a.To).getD [])++[a.From]))else Rc b i1 else Q (i_ i1)
def Lf:O_ ((Int×LI_)⊕LI_):=bif (b<((List.replicate (h.States.length:Int).toNat (0:Int)).length:Int))then j_ (idx j b) λd=>Q (y_ ((Qe (b+1)),(j.set b.toNat (-1))))else Q (i_ j)
def Rf:O_ ((Int×(L_ QA))⊕(L_ QA)):=Q (y_ ((Qe (a+1)),t))
def Rg:O_ ((Int×(L_ QA))⊕(L_ QA)):=bif (b<(d.length:Int))then j_ (idx d b) λa=>j_ (Nm h a) λe=>bif e then j_ (Gs t (QA.mk a 0)) λf=>Rf b f else Rf b t else Q (i_ t)
def Rh (a:(QA×(L_ QA)))(b:Int)(c:(L_ QA)):O_ ((Int×(L_ QA))⊕(L_ QA)):=bif (b<(((Qr i1 a.1.state).getD ([]:LI_)).length:Int))then j_ (idx ((Qr i1 a.1.state).getD ([]:LI_)) b) λd=>j_ (Gs c (QA.mk d (Qe (a.1.far+1)))) λe=>Q (y_ ((Qe (b+1)),e))else Q (i_ c)
def Ri (c:(L_ QA)):O_ ((LI_×(L_ QA))⊕LI_):=j_ (LN c) λd=>bif (0<d)then j_ (AB c) λa=>j_ (idx e0 a.1.state) λe=>bif (0<=e)then Q (y_ (e0,a.2))else j_ (idx e0 a.1.state) λg=>j_ (Qh (λst=>Rh i1 a st.1 st.2) (0,a.2)) (λq=>Q (y_ ((e0.set a.1.state.toNat a.1.far),q)))else Q (i_ e0)
def QeX (b:(L_ QA)):O_ LI_:=j_ (Qh (λst=>Ri i1 st.1 st.2) (e0,b)) (λq=>Q q)
def QeY:O_ LI_:=j_ (Qh (λst=>Rg d h st.1 st.2) (0,([]:L_ QA))) (λq=>QeX i1 e0 q)
def QeZ:O_ LI_:=j_ (chk (decide (0<=(h.States.length:Int))&&decide ((h.States.length:Int)<=(h.States.length:Int))&&decide ((h.States.length:Int)<=4294967296))) λ_=>j_ (Qh (λst=>Lf h st.1 st.2) (0,(List.replicate (h.States.length:Int).toNat (0:Int)))) (λq=>QeY j h i1 q)
def Oi:O_ LI_:=j_ (Qh (λst=>Re h st.1 st.2) (0,([]:(L_ (Int×LI_))))) (λq=>QeZ h j q)
def Qp5 {s1 d}:CT 68 [.G Xc s1,.M 1 Qb d] [] (Oi s1 d) (λr=>(.P 600 r)) (λr=>[(600,.R 1 Qb r)]):=
 W 104 func68 Z<|K [8,.x (λσ=>(σ.set 16 (.grp 1 [] none)).put 16 (.map 16)),8] Z (λv=>(a1_ (Stp.makeGrp 1 Z Z (Xk v.n Z) Z)))<|N 0 Z<|lA_ 4 [1,2,5,18,19] [2] (λst=>([(20,.I st.1)],[(16,.grp 1 (OZ V.I Qb st.2) none)])) [1,2,5] [2] (λq=>(.exit 0,([],[(16,.grp 1 (OZ V.I Qb q) none)]))) Z (λ⟨x5,j⟩=>I 6 Z (mE_ 2 [1,2,5,18,19,20] [2] (λp:(L_ (Int×LI_))=>([],[(16,.grp 1 (OZ V.I Qb p) none)])) (λp=>Rc x5 p) Z (J 3 Z λc=>A 9 Qkw Z λa6=>I 2 Z (kA_ λy=>BM 0 Z [.a .no none true,.a .no none true,.a .no none true,.N,.N,.N,.m (.any ⟨[33],[(33,.arr 1 (((Qr j c.To).getD []).map Qb)),(16,.grp 1 (OZ V.I Qb j) (Q (V.I c.To)))],Q (33,.own 33 ((Qr j c.To).getD []).length)⟩),.a .no none true,.a .no none true,.a (.bd []) (Q ([],.sl 1 (([c.From]:L_ Int).map Qb))) true,.m (.app ((((Qr j c.To).getD [])++[c.From]).map Qb) (((Qr j c.To).getD [])++[c.From]).length),.m (.any ⟨[33],[(16,.grp 1 (OZ V.I Qb (XL WI j c.To (((Qr j c.To).getD [])++[c.From]))) none)],none⟩)] [1,2,5,7,18,19,20] [2,7] [1,2,5,18,19,20] [2,16] Z Z (λv=>(a4_ (λσ s w=>Stp.lookupOutT (e:=V.I) (f:=Qb) (l:=j) (k:=c.To) Z Z (Xk v.n Z) (s _ _ Z) (w _ _ Z) (s _ _ Z) QeP WK QwP Z Z Z Z Z) Z ⟨Qq,Af y Qq,Kz,UJ Qq⟩ (λσ s w=>Stp.updateBackT (e:=V.I) (f:=Qb) (l:=j) (k:=c.To) (((Qr j c.To).getD [])++[c.From]) WI Z Z (s _ _ Z) (w _ _ Z) (s _ _ Z) (s _ _ Z) (w _ _ Z) QeP WK Z Z Z Z Z (by simp)))) Z<|P 1 Z Z)<|P 2 Z Z) λp=>R 4 Z)<|X 2 Z) λm9=>N 6 Z<|kA_ λC=>g2_ [.o (.rows ((List.replicate (s1.States.length:Int).toNat (0:Int)).map Qb)),.S 42 (.own 42 (List.replicate (s1.States.length:Int).toNat (0:Int)).length),12] Z ⟨C,QeM Z⟩ (by simp)<|λv h=>AK.grpMap (b:=16) (e:=V.I) (f:=Qb) (l:=m9) WK Z Z<|Qat v h<|lA_ 0 [1,2,5,44] [2,16] (λst=>([(8,.P 42 st.2),(45,.I st.1)],[(42,.R 1 Qb st.2)])) [1,2,5] [2,16] (λq=>(.exit 2,([(8,.P 42 q)],[(42,.R 1 Qb q)]))) Z (λ⟨a0,a1⟩=>I 6 Z (B λa3 t=>g3_ [14,.st (Qb a3) ((a1.set a0.toNat (-1)).map Qb),7,.S 8 (.own 42 (a1.set a0.toNat (-1)).length)] Z (Ym t Z) ⟨(XN (Yo t).2),WG Z⟩ (congrArg (λn=>V.own 42 n) (by simp))<|R 0 Z)<|X 2 Z) λa7=>N 11 Z<|G [4,.adoptO 10 0 609 2,.O 10 (.var [.own 609 ([]:L_ QA).length])] Z (congrArg (λn=>Ob.var [.own 609 n]) (by simp))<|lA_ 0 [2,5,8,10,52,53] [2,16,42] (λst=>([(54,.I st.1)],[(10,.var [.P 609 st.2]),(609,.R 2 Qv st.2)])) [5,8,10] [16,42] (λq=>(.exit 4,([],[(10,.var [.P 609 q]),(609,.R 2 Qv q)]))) Z (λ⟨a4,a8⟩=>I 6 Z (mE_ 2 [2,5,8,10,52,53,54] [2,16,42] (λg:(L_ QA)=>([],[(10,.var [.P 609 g]),(609,.R 2 Qv g)])) (λg=>Rf a4 g) Z (J 3 Z λa9=>A 8 Qb1 Z λb0=>I 2 Z (zA_ 5 .fn [(621,10),(619,609)] [(609,619),(10,621)] [609] Nn Z λb1=>P 2 Z Z)<|P 2 Z Z) λg=>R 4 Z)<|X 2 Z) λb2=>lA_ 4 [5,10] [16] (λst=>([(8,.P 42 st.1)],[(10,.var [.P 609 st.2]),(42,.R 1 Qb st.1),(609,.R 2 Qv st.2)])) [] [] (λq=>(.exit 6,([(8,.P 42 q)],[(42,.R 1 Qb q)]))) Z (λ⟨a2,b3⟩=>cV_ 4 [.o _] Qez Z λb4=>I 3 Z (zA_ 6 .fn [(621,10),(619,609)] [(609,619),(10,621)] [609] QcZ Z λi=>vA_ 12 Qb Z λb5=>I 3 Z (R 3 Z)<|B λa5 u=>K [10,.st (Qb a5) ((a2.set i.1.state.toNat i.1.far).map Qb),7,.o (.any (.sl 1 (((Qr m9 i.1.state).getD ([]:LI_)).map Qb)) none)] Z (λv=>(a3_ (Ym u Z) ⟨(XN (Yo u).2),WG Z⟩ (λσ s w _=>Stp.lookup (z:=([]:LI_)) Z Z (Xk v.n Z) (s _ _ Z) (w _ _ Z) (s _ _ Z) QeP WK QwQ Z)))<|N 0 Z<|G [4,.S 8 (.own 42 (a2.set i.1.state.toNat i.1.far).length)] Z (congrArg (λn=>V.own 42 n) (by simp))<|lA_ 0 [5,8,10,13,88,89] [13,16,42] (λst=>([(90,.I st.1)],[(10,.var [.P 609 st.2]),(609,.R 2 Qv st.2)])) [5,8,10] [16,42] (λq=>(.exit 8,([],[(10,.var [.P 609 q]),(609,.R 2 Qv q)]))) Z (λ⟨b6,b7⟩=>I 6 Z (J 6 Z λb8=>zA_ 12 .fn [(621,10),(619,609)] [(609,619),(10,621)] [609] Nn Z λb9=>R 7 Z)<|X 2 Z) λc0=>R 2 Z)<|X 2 Z) λc1=>gT_ [9,.ren 42 600] Z<|E 0 Z
def ZH:O_ LI_:=j_ (TN c h) λa=>j_ (Oi h a) λd=>Q d
def Qor {e f}:CT 39 [.G Qf e,.G Xc f] [] (ZH e f) (λr=>(.P 600 r)) (λr=>[(600,.R 1 Qb r)]):=
 W 10 func39 Z<|B λg b=>B λh c=>D 8 Z [.N,.N,.N,.B (.cd false [.d,.d] 1 (g.map Qb) g.length),.B (.co false [.d,.d] 1 (h.map Qb) h.length),.m .s] [] [] [4] [9] Z Z (a2_ ⟨(QmE _ b),Qq⟩ ⟨(Qp5 _ c),Qq,.inl Z⟩) Z<|gT_ [2,.ren 9 600] Z<|E 0 Z
def Oj:O_ ((Int×LI_)⊕LI_):=Q (y_ ((Qe (a+1)),d))
def VX:O_ ((Int×LI_)⊕LI_):=bif (b<(d.length:Int))then j_ (idx d b) λc=>bif (c<0)then j_ (chk (j.length+([b]:L_ Int).length<=4294967296)) λ_=>Oj b (j++([b]:L_ Int))else Oj b j else Q (i_ j)
def Lw:O_ LI_:=j_ (ZH c h) λa=>j_ (Qh (λst=>VX a st.1 st.2) (0,([]:L_ Int))) (λq=>Q q)
def Qot {b c}:CT 89 [.G Qf b,.G Xc c] [] (Lw b c) (λr=>(.P 600 r)) (λr=>[(600,.R 1 Qb r)]):=
 W 25 func89 Z<|oC_ 17 [.d,.d] Qor Z λh=>aD_ 5 5 19 1 Z<|lA_ 0 [10,11] [10] (λst=>([(5,.P 19 st.2),(12,.I st.1)],[(19,.R 1 Qb st.2)])) [] [] (λq=>(.exit 0,([(5,.P 19 q)],[(19,.R 1 Qb q)]))) Z (λ⟨e,i⟩=>I 6 Z (mE_ 2 [10,11,12] [10] (λa:LI_=>([(5,.P 19 a)],[(19,.R 1 Qb a)])) (λa=>Oj e a) Z (vA_ 5 Qb Z λf=>I 10 Z (pA_ 3 1 Qb Z<|P 3 Z Z)<|P 2 Z Z) λa=>R 4 Z)<|X 2 Z) λg=>gT_ [9,.ren 19 600] Z<|E 0 Z
def Wx:O_ (Bool×Xe):=j_ (Lw f3.net f3.space) λb=>bif ((b.length:Int)==0)then Q (true,(Xe.mk 0 0 0 ([]:(L_ Qc))))else j_ (idx b 0) λc=>j_ (YE f3.space c) λd=>Q (false,(Xe.mk 2 2 0 d))
def Qb6 {e}:CT 51 [.G YW e] [] (Wx e) (λr=>(.tup [.G XO r.2,.b r.1])) no_:=
 W 21 func51 Z<|oC_ 13 [.d,.d] Qot Z λi=>I 11 Z (G [2,.v .no [none,none,none,Q 4] (.agg (XO (Xe.mk 0 0 0 ([]:(L_ Qc))))),6] Z Z<|E 0 Z)<|B λh c=>B λf g=>D 3 Z [.N,.E (.G Xc e.space),.N,.N,.B (.row (Qb h)),.B (.cd false [.d,.d] 4 (f.map Qo) f.length),.E (.agg (XO (Xe.mk 2 2 0 f))),.m .s,.m .s] [] [] [2,3] [2] Z Z (a5_ Z (Ym c Z) (XN (Yo c).2) ⟨(Qdt _ g),Qq⟩ Z) Z<|E 2 Z
def Ih:O_ ((Int×LI_)⊕LI_):=bif (b<(h.Edges.length:Int))then j_ (idx h.Edges b) λa=>j_ (chk (j.length+([a.Mode.Task]:L_ Int).length<=4294967296)) λ_=>Q (y_ ((Qe (b+1)),(j++([a.Mode.Task]:L_ Int))))else Q (i_ j)
def Qb7:O_ LI_:=j_ (YS d) λa=>j_ (chk (a.length=d.length)) λ_=>j_ (Kk a) λb=>Q b
def Aa:O_ LI_:=j_ (Qh (λst=>Ih h st.1 st.2) (0,([]:L_ Int))) (λq=>Qb7 q)
def Qkx {g}:CT 20 [.G Xc g] [] (Aa g) (λr=>(.P 600 r)) (λr=>[(600,.R 1 Qb r)]):=
 W 24 func20 Z<|N 16 Z<|aD_ 4 3 13 1 Z<|lA_ 0 [7,8] [] (λst=>([(3,.P 13 st.2),(9,.I st.1)],[(13,.R 1 Qb st.2)])) [] [] (λq=>(.exit 0,([(3,.P 13 q)],[(13,.R 1 Qb q)]))) Z (λ⟨i,j⟩=>I 6 Z (J 6 Z λh=>pA_ 10 1 Qb Z<|R 8 Z)<|X 2 Z) λk=>B λb c=>kA_ λa=>B λe f=>gA_ [5,.cm (.fn) [(621,13)] [(13,621)] [] [.d] [(621,.R 1 Qb b)] (.tup []),.S 3 (.P 13 b),.S 20 (.P 13 b),5,.cm (.fn) [(621,13)] [(13,621)] [] [.d] [(621,.R 1 Qb e)] (.P 621 e),4,.ren 13 600] Z (a4_ (GM _ c) (by simp[Xd a]) (by simp[Xd a]) (HG _ f))<|E 0 Z
def Gu:O_ ((Int×LI_)⊕LI_):=Q (y_ ((Qe (a+1)),d))
def Wy:O_ ((Int×LI_)⊕LI_):=bif (m0<(f3.net.Tasks.length:Int))then j_ (XW e3 m0) λc=>bif (!c)then j_ (chk (k1.length+([m0]:L_ Int).length<=4294967296)) λ_=>Gu m0 (k1++([m0]:L_ Int))else Gu m0 k1 else Q (i_ k1)
def Ky:O_ LI_:=j_ (Aa f3.space) λb=>j_ (Qh (λst=>Wy f3 b st.1 st.2) (0,([]:L_ Int))) (λq=>Q q)
def SP {b}:CT 46 [.G YW b] [] (Ky b) (λr=>(.P 600 r)) (λr=>[(600,.R 1 Qb r)]):=
 W 26 func46 Z<|oC_ 10 [.d] Qkx Z λf=>N 14 Z<|aD_ 4 4 20 1 Z<|lA_ 0 [3,12] [8] (λst=>([(4,.P 20 st.2),(13,.I st.1)],[(20,.R 1 Qb st.2)])) [] [] (λq=>(.exit 0,([(4,.P 20 q)],[(20,.R 1 Qb q)]))) Z (λ⟨c,g⟩=>I 6 Z (mE_ 2 [3,12,13] [8] (λa:LI_=>([(4,.P 20 a)],[(20,.R 1 Qb a)])) (λa=>Gu c a) Z (cV_ 11 [.o _,.d] EF Z λe=>I 3 Z (pA_ 3 1 Qb Z<|P 3 Z Z)<|P 2 Z Z) λa=>R 4 Z)<|X 2 Z) λh=>gT_ [9,.ren 20 600] Z<|E 0 Z
def Ew:O_ (Bool×Xe):=j_ (Ky f3) λa=>bif ((a.length:Int)==0)then Q (true,(Xe.mk 0 0 0 ([]:(L_ Qc))))else j_ (idx a 0) λc=>Q (false,(Xe.mk 2 3 c ([]:(L_ Qc))))
def QeA {a}:CT 52 [.G YW a] [] (Ew a) (λr=>(.tup [.G XO r.2,.b r.1])) no_:=
 W 15 func52 Z<|oC_ 10 [.d] SP Z λe=>I 11 Z (G [2,.v .no [none,none,none,Q 4] (.agg (XO (Xe.mk 0 0 0 ([]:(L_ Qc))))),6] Z Z<|E 0 Z)<|vA_ 6 Qb Z λc=>G [.v .no [none,none,none,Q 4] (.agg (XO (Xe.mk 2 3 c ([]:(L_ Qc))))),5] Z Z<|E 0 Z
def KP:O_ Xe:=bif (!h.Full)then Q (Xe.mk 3 0 0 ([]:(L_ Qc)))else j_ (Uv (QV.mk c h)) λd=>bif (!d.1)then Q d.2 else j_ (Wx (QV.mk c h)) λe=>bif (!e.1)then Q e.2 else j_ (Ew (QV.mk c h)) λa=>bif (!a.1)then Q a.2 else Q (Xe.mk 1 0 0 ([]:(L_ Qc)))
def Qky {a b}:CT 26 [.G Qf a,.G Xc b] [] (KP a b) (λr=>(.G XO r)) no_:=
 W 39 func26 Z<|I 15 Z (G [2,.v .no [none,none,none,Q 4] (.agg (XO (Xe.mk 3 0 0 ([]:(L_ Qc))))),5] Z Z<|E 0 Z)<|K [20,.o (.any (.own 23 3) (Q (.var [.clo (.func 50) [.agg (YW (QV.mk a b))] [],.clo (.func 51) [.agg (YW (QV.mk a b))] [],.clo (.func 52) [.agg (YW (QV.mk a b))] []]))),5] Z (λc=>(a1_ (λσ d f O=>Stp.buildAny Z Z (Xk c.n Z) (Xg.es Z) Qux Z (by decide) (by decide) (EB d Z) Z Z (O Z))))<|lN_ 0 4 Z<|vI_ 13 23 0 Z<|A 7 QeW Z λg=>I 14 Z (E 12 Z)<|rd_ 7 Z<|vI_ 13 23 1 Z<|A 7 Qb6 Z λh=>gT_ [3,.kill 8,11] Z<|I 0 Z (E 12 Z)<|rd_ 7 Z<|vI_ 13 23 2 Z<|A 7 QeA Z λe=>gT_ [3,.kill 8,11] Z<|I 0 Z (E 12 Z)<|rd_ 7 Z<|G [14,.v .no [none,none,none,Q 4] (.agg (XO (Xe.mk 1 0 0 ([]:(L_ Qc))))),4] Z Z<|E 0 Z
def Gc:O_ Xe:=j_ (Mf c b i) λd=>j_ (KP c d) λe=>Q e
def Bm {h b e}:CT 8 [.G Qf h,.I b,.I e] [] (Gc h b e) (λr=>(.G XO r)) no_:=
 W 13 func8 Z<|B λi f=>B λj g=>D 7 Z [.N,.N,.N,.N,.B (.C3 (.G Xc i)),.B (.C2 (.G XO j)),.m .s] [] [] [6] [6] Z Z (a2_ (QhK _ f) (Qky _ g)) Z<|E 2 Z
def Ch (e:(L_ Qc))(f:Qd)(b:QMk)(a:Int):O_ ((QMk×Int)⊕((QMk×Int)⊕QMk)):=bif (a<(e.length:Int))then j_ (idx e a) λd=>j_ (Yg f b d) λc=>bif (c.2 != 0)then Q (i_ (y_ (b,a)))else Q (y_ (c.1,(Qe (a+1))))else Q (i_ (i_ b))
def TO (a:(L_ Qc)):O_ (QMk×Int):=j_ (Fg e) λd=>j_ (Qh (λst=>Ch a c st.1 st.2) (d,0)) (Sum.elim (λq=>Q (q.1,q.2)) (λq=>Q (q,(a.length:Int))))
def Qp8 {a b c}:CT 30 [.G Qf a,.M 1 Qk b,.M 4 Qo c] [] (TO a b c) (λr=>(.tup [.M 1 Qk r.1,.I r.2])) no_:=
 W 37 func30 Z<|oC_ 10 [.d] NR Z λl=>N 7 Z<|zF_ 4 13 [1] [] Z<|F 0 [2,3,14,15] [3] (λst=>([(1,.M 1 Qk st.1),(16,.I st.2)],[])) [] [] (λq=>(.ret,([(6,.M 1 Qk q.1),(7,.I q.2)],[]))) [2] [] (λq=>(.exit 0,([(1,.M 1 Qk q)],[]))) Z (λ⟨e,f⟩=>I 6 Z (J 7 Z λg=>A 11 Qb0 Z λh=>I 14 Z (L 12 Z)<|R 12 Z)<|X 2 Z) (λ⟨i,j⟩=>E 2 Z) (λk=>N 6 Z<|E 5 Z)
def Qae (e:Xe)(d:Qd):O_ Bool:=bif (k3.2==(e.Trace.length:Int))then j_ (Uu d k3.1) λb=>bif b then j_ (Bi d k3.1) λc=>Q (!c)else Q false else Q false
def JM (a:Xe):O_ Bool:=bif (a.Told != 2)then Q false else bif (a.Clause==3)then Q ((0<=a.Task)&&((a.Task<(c.Tasks.length:Int))&&((a.Trace.length:Int)==0)))else j_ (DM c) λd=>j_ (TO c d a.Trace) λb=>bif (a.Clause==1)then j_ (Qae b a c) (λe=>Q e)else bif (a.Clause==2)then Q (b.2==(a.Trace.length:Int))else Q false
def YP {m g}:CT 11 [.G Qf m,.G XO g] [] (JM m g) V.b no_:=
 W 66 func11 Z<|I 15 Z (E 7 Z)<|I 10 Z (T 1 [] [] ([(4,.b ((0<=g.Task)&&((g.Task<(m.Tasks.length:Int))&&((g.Trace.length:Int)==0))))],[]) Z (H 5 Z (λe=>N 4 Z<|H 3 Z (λf=>N 2 Z<|Y 4 4 Z (XB e (XB f Z))) λf=>Y 7 4 Z (XB e (Yh f Z))) λe=>Y 15 4 Z (Yh e Z))<|E 3 Z)<|B λh i=>B λj k=>D 3 Z (dz_ [(2,.B (.cd false [.d] 1 (h.map Qk) h.length)),(2,.B (.C3 (.tup [.M 1 Qk j.1,.I j.2]))),(4,.N)]) [] [] [2,3,5,6] [2,3] Z Z (a2_ ⟨(Tr _ i),Qq⟩ (Qp8 _ k)) Z<|I 15 Z (mV_ 1 [] [] (λl=>([(4,.b l)],[])) Z (N 4 Z<|I 2 Z (A 2 TJ Z λn=>I 2 Z (A 2 TK Z λo=>M 4 Z)<|M 7 Z)<|M 12 Z) λl=>E 4 Z)<|I 6 Z (N 5 Z<|E 7 Z)<|E 9 Z
def Qe1:O_ Int:=j_ (DU (QV.mk c h)) λa=>Q a
def QaK {a b}:CT 22 [.G Qf a,.G Xc b] [] (Qe1 a b) V.I no_:=
 W 9 func22 Z<|A 12 Mi Z λc=>E 4 Z
def QhM:O_ LI_:=j_ (Ky (QV.mk c h)) λa=>Q a
def QmF {a b}:CT 23 [.G Qf a,.G Xc b] [] (QhM a b) (λr=>(.P 600 r)) (λr=>[(600,.R 1 Qb r)]):=
 W 9 func23 Z<|oC_ 12 [.d] SP Z λc=>gT_ [4,.ren 8 600] Z<|E 0 Z
def Qax  : O_ Bool:=j_ (AO false) λc=>j_ (Gc c 10 10) λd=>j_ (AO true) λe=>j_ (Gc e 10 10) λf=>j_ (AO false) λg=>j_ (Gc g 1 10) λh=>j_ (AO false) λa=>j_ (Gc (Qd.mk a.Colours a.Places ([]:(L_ QF)) a.From a.To) 10 10) λi=>j_ (bif (d.Told==1)then bif (f.Told==2)then bif (f.Clause==1)then bif ((f.Trace.length:Int)==1)then j_ (AO true) λm=>j_ (JM m f) λn=>bif n then bif (h.Told==3)then bif (i.Told==2)then bif (i.Clause==2)then j_ (AO false) λo=>j_ (JM o d) λp=>bif (!p)then j_ (Qe1 (Qd.mk a.Colours a.Places ([]:(L_ QF)) a.From a.To) (Qu.mk ([]:(L_ QMk)) ([]:(L_ QC)) false)) λq=>bif (q==(-1))then j_ (AO false) λr=>j_ (QhM r (Qu.mk ([]:(L_ QMk)) ([]:(L_ QC)) false)) λs=>Q ((s.length:Int)==1)else Q false else Q false else Q false else Q false else Q false else Q false else Q false else Q false else Q false else Q false) (λb=>Q b)
def QkB : CT 6 [] [] (Qax ) V.b no_:=
 W 74 func6 Z<|A 7 YG Z λx2=>A 0 Bm Z λx3=>A 6 YG Z λx4=>A 0 Bm Z λz=>A 6 YG Z λx6=>A 0 Bm Z λx7=>A 6 YG Z λu=>G [12,.v .no [none,none,Q 14,none,none] (.agg (Qf (Qd.mk u.Colours u.Places ([]:(L_ QF)) u.From u.To)))] Z Z<|A 0 Bm Z λx9=>mV_ 5 [] [] (λa1=>([(0,.b a1)],[])) Z (jF_ (λe=>jF_ (λf=>jF_ (λg=>jF_ (λh=>B λq j=>B λr k=>jF_ (λi=>jF_ (λl=>jF_ (λo=>jF_ (λp=>B λO w=>B λa0 x=>jF_ (λt=>B λa2 C=>jF_ (λy=>B λa6 a3=>B λa4 a5=>D 0 Z [.N,.N,.N,.E (.b true),.N,.N,.N,.N,.E (.b true),.N,.N,.N,.N,.E (.b true),.N,.N,.B (.ln z.Trace.length),.N,.N,.E (.b true),.B (.C1 (.G Qf q)),.N,.B (.C2 (.b r)),.N,.E (.b true),.N,.N,.N,.N,.E (.b true),.N,.N,.N,.N,.E (.b true),.N,.N,.N,.N,.E (.b true),.B (.C1 (.G Qf O)),.N,.B (.C2 (.b a0)),.N,.N,.E (.b true),.a .no (Q ([none,none,Q 14,none,none],.agg (Qf (Qd.mk u.Colours u.Places ([]:(L_ QF)) u.From u.To)))) false,.a .no (Q ([Q 1,Q 6,none],.agg (Xc (Qu.mk ([]:(L_ QMk)) ([]:(L_ QC)) false)))) false,.B (.C2 (.I a2)),.N,.N,.E (.b true),.B (.C1 (.G Qf a6)),.a .no (Q ([Q 1,Q 6,none],.agg (Xc (Qu.mk ([]:(L_ QMk)) ([]:(L_ QC)) false)))) false,.B (.co false [.d,.d] 1 (a4.map Qb) a4.length),.N,.N,.N,.m .s] [] [] [0] [] Z Z ⟨⟨⟨⟨⟨⟨⟨⟨⟨⟨⟨⟨⟨⟨⟨⟨⟨⟨⟨⟨(tc_ e),(cb_ f)⟩,(cb_ g)⟩,Qq⟩,(cb_ h)⟩,(YG _ j)⟩,(YP _ k)⟩,(cb_ i)⟩,(cb_ l)⟩,(cb_ o)⟩,(cb_ p)⟩,(YG _ w)⟩,(YP _ x)⟩,(cb_ t)⟩,Z⟩,Z⟩,(QaK _ C)⟩,(cb_ y)⟩,(YG _ a3)⟩,Z⟩,⟨(QmF _ a5),Qq,.inl Z⟩⟩ Z<|M 0 Z) λy=>D 0 Z [.N,.N,.N,.E (.b true),.N,.N,.N,.N,.E (.b true),.N,.N,.N,.N,.E (.b true),.N,.N,.B (.ln z.Trace.length),.N,.N,.E (.b true),.B (.C1 (.G Qf q)),.N,.B (.C2 (.b r)),.N,.E (.b true),.N,.N,.N,.N,.E (.b true),.N,.N,.N,.N,.E (.b true),.N,.N,.N,.N,.E (.b true),.B (.C1 (.G Qf O)),.N,.B (.C2 (.b a0)),.N,.N,.E (.b true),.a .no (Q ([none,none,Q 14,none,none],.agg (Qf (Qd.mk u.Colours u.Places ([]:(L_ QF)) u.From u.To)))) false,.a .no (Q ([Q 1,Q 6,none],.agg (Xc (Qu.mk ([]:(L_ QMk)) ([]:(L_ QC)) false)))) false,.B (.C2 (.I a2)),.N,.N,.E (.b false),.N,.N,.N,.N,.N,.N,.m .s] [] [] [0] [] Z Z ⟨⟨⟨⟨⟨⟨⟨⟨⟨⟨⟨⟨⟨⟨⟨⟨⟨(tc_ e),(cb_ f)⟩,(cb_ g)⟩,Qq⟩,(cb_ h)⟩,(YG _ j)⟩,(YP _ k)⟩,(cb_ i)⟩,(cb_ l)⟩,(cb_ o)⟩,(cb_ p)⟩,(YG _ w)⟩,(YP _ x)⟩,(cb_ t)⟩,Z⟩,Z⟩,(QaK _ C)⟩,(cb_ y)⟩ Z<|M 0 Z) λt=>D 0 Z (dz_ [(3,.E (.b true)),(4,.E (.b true)),(4,.E (.b true)),(2,.B (.ln z.Trace.length)),(2,.E (.b true)),(0,.B (.C1 (.G Qf q))),(1,.B (.C2 (.b r))),(1,.E (.b true)),(4,.E (.b true)),(4,.E (.b true)),(4,.E (.b true)),(0,.B (.C1 (.G Qf O))),(1,.B (.C2 (.b a0))),(2,.E (.b false)),(12,.m .s)]) [] [] [0] [] Z Z ⟨⟨⟨⟨⟨⟨⟨⟨⟨⟨⟨⟨⟨(tc_ e),(cb_ f)⟩,(cb_ g)⟩,Qq⟩,(cb_ h)⟩,(YG _ j)⟩,(YP _ k)⟩,(cb_ i)⟩,(cb_ l)⟩,(cb_ o)⟩,(cb_ p)⟩,(YG _ w)⟩,(YP _ x)⟩,(cb_ t)⟩ Z<|M 0 Z) λp=>D 0 Z (dz_ [(3,.E (.b true)),(4,.E (.b true)),(4,.E (.b true)),(2,.B (.ln z.Trace.length)),(2,.E (.b true)),(0,.B (.C1 (.G Qf q))),(1,.B (.C2 (.b r))),(1,.E (.b true)),(4,.E (.b true)),(4,.E (.b true)),(4,.E (.b false)),(18,.m .s)]) [] [] [0] [] Z Z ⟨⟨⟨⟨⟨⟨⟨⟨⟨⟨(tc_ e),(cb_ f)⟩,(cb_ g)⟩,Qq⟩,(cb_ h)⟩,(YG _ j)⟩,(YP _ k)⟩,(cb_ i)⟩,(cb_ l)⟩,(cb_ o)⟩,(cb_ p)⟩ Z<|M 0 Z) λo=>D 0 Z (dz_ [(3,.E (.b true)),(4,.E (.b true)),(4,.E (.b true)),(2,.B (.ln z.Trace.length)),(2,.E (.b true)),(0,.B (.C1 (.G Qf q))),(1,.B (.C2 (.b r))),(1,.E (.b true)),(4,.E (.b true)),(4,.E (.b false)),(23,.m .s)]) [] [] [0] [] Z Z ⟨⟨⟨⟨⟨⟨⟨⟨⟨(tc_ e),(cb_ f)⟩,(cb_ g)⟩,Qq⟩,(cb_ h)⟩,(YG _ j)⟩,(YP _ k)⟩,(cb_ i)⟩,(cb_ l)⟩,(cb_ o)⟩ Z<|M 0 Z) λl=>D 0 Z (dz_ [(3,.E (.b true)),(4,.E (.b true)),(4,.E (.b true)),(2,.B (.ln z.Trace.length)),(2,.E (.b true)),(0,.B (.C1 (.G Qf q))),(1,.B (.C2 (.b r))),(1,.E (.b true)),(4,.E (.b false)),(28,.m .s)]) [] [] [0] [] Z Z ⟨⟨⟨⟨⟨⟨⟨⟨(tc_ e),(cb_ f)⟩,(cb_ g)⟩,Qq⟩,(cb_ h)⟩,(YG _ j)⟩,(YP _ k)⟩,(cb_ i)⟩,(cb_ l)⟩ Z<|M 0 Z) λi=>D 0 Z (dz_ [(3,.E (.b true)),(4,.E (.b true)),(4,.E (.b true)),(2,.B (.ln z.Trace.length)),(2,.E (.b true)),(0,.B (.C1 (.G Qf q))),(1,.B (.C2 (.b r))),(1,.E (.b false)),(33,.m .s)]) [] [] [0] [] Z Z ⟨⟨⟨⟨⟨⟨⟨(tc_ e),(cb_ f)⟩,(cb_ g)⟩,Qq⟩,(cb_ h)⟩,(YG _ j)⟩,(YP _ k)⟩,(cb_ i)⟩ Z<|M 0 Z) λh=>D 0 Z (dz_ [(3,.E (.b true)),(4,.E (.b true)),(4,.E (.b true)),(2,.B (.ln z.Trace.length)),(2,.E (.b false)),(38,.m .s)]) [] [] [0] [] Z Z ⟨⟨⟨⟨(tc_ e),(cb_ f)⟩,(cb_ g)⟩,Qq⟩,(cb_ h)⟩ Z<|M 0 Z) λg=>D 0 Z (dz_ [(3,.E (.b true)),(4,.E (.b true)),(4,.E (.b false)),(44,.m .s)]) [] [] [0] [] Z Z ⟨⟨(tc_ e),(cb_ f)⟩,(cb_ g)⟩ Z<|M 0 Z) λf=>D 0 Z (dz_ [(3,.E (.b true)),(4,.E (.b false)),(49,.m .s)]) [] [] [0] [] Z Z ⟨(tc_ e),(cb_ f)⟩ Z<|M 0 Z) λe=>D 0 Z (dz_ [(3,.E (.b false)),(54,.m .s)]) [] [] [0] [] Z Z (tc_ e) Z<|M 0 Z) λa1=>E 2 Z
def VY (h:Qm->Int->O_ Int)(a:Int)(c:Int)(d:Int):O_ ((Int×Int)⊕(Unit⊕Int)):=bif (d<(q.Kids.length:Int))then j_ (idx q.Kids d) λe=>j_ (h e (Qe (a-1))) λb=>bif (b==0)then Q (i_ (y_ ()))else bif ((Qe ((Qe (c-500))+b))<=1)then Q (i_ (y_ ()))else Q (y_ ((Qe ((Qe (c-500))+b)),(Qe (d+1))))else Q (i_ (i_ c))
def Qay (h:Qm->Int->O_ Int)(b:Qm)(a:Int):O_ Int:=
 bif ((a<=0)||(9<(b.Kids.length:Int)))then
 Q 0
 else
 j_ (Qh (λst=>VY b h a st.1 st.2) (500,0)) (Sum.elim (λq=>Q 0) (λq=>Q (Qe (q-1))))
def Ab : Nat->Qm->Int->O_ Int
 | 0,_,_=>none
 | n+1,b,a=>Qay (Ab n) b a
def QeB:O_ Int:=Ab (SizeOf.sizeOf q) q l1
def QkC {O:Qm->Int->O_ Int}{hrec_law04_few:∀(f:Qm) (a:Int) {r:Int},O f a=Q r->QN prog 83 [.G QO f,.I a] [] (Gives (.I r) [])}{f:Qm}{a:Int}:CT 83 [.G QO f,.I a] [] (Qay O f a) V.I no_:=
 W 41 func83 Z<|T 8 [1,2] [2] ([(15,.b ((a<=0)||(9<(f.Kids.length:Int))))],[]) Z (H 4 Z (λe=>Y 6 15 Z (KO e Z)) λe=>nR_ 2 Aw Z<|Y 3 15 Z (Yv e Z))<|I 1 Z (E 7 Z)<|F 14 [1,2] [2] (λst=>([(5,.I st.1),(6,.I st.2)],[])) [] [] (λq=>(.ret,([(4,.I 0)],[]))) [] [] (λq=>(.exit 0,([(5,.I q)],[]))) Z (λ⟨l,m⟩=>nR_ 6 Aw Z<|I 3 Z (xR_ 9 JI Z λj i=>B λh g=>G [3,.o (.C2 (.I h)),10] Z (hrec_law04_few _ _ g)<|I 0 Z (L 9 Z)<|I 17 Z (L 8 Z)<|R 8 Z)<|X 2 Z) (λ_=>E 2 Z) (λk=>E 10 Z)
def Qb8 : ∀(fuel:Nat) (b:Qm) (a:Int) {r:Int},Ab fuel b a=Q r->QN prog 83 [.G QO b,.I a] [] (Gives (.I r) [])
 | 0,_,_,_,h=>by cases h
 | n+1,b,a,_,h=>@QkC (Ab n) (λ_ _ _ h=>Qb8 n _ _ h) b a _ h
def Qow (b a){r}(h:QeB b a=Q r):QN prog 83 [.G QO b,.I a] [] (Gives (.I r) []):=Qb8 _ b a h
def Lx:O_ Bool:=j_ (QeB q 60) λb=>Q (decide (0<b))
def VZ {e}:CT 47 [.G QO e] [] (Lx e) V.b no_:=
 W 6 func47 Z<|B λf a=>G [9,.o (.C2 (.I f)),5] Z (Qow _ _ a)<|E 0 Z
def Za (a:QD):O_ Bool:=j_ (idx c.Colours b) λd=>bif (100<(d.Name.size:Int))then Q true else Q (decide (400<(Qe (i+(a.Names.length:Int)))))
def He:O_ (Int⊕(Unit⊕Unit)):=j_ (idx c.Colours b) λa=>bif (i<(a.Names.length:Int))then j_ (idx c.Colours b) λe=>j_ (idx e.Names i) λd=>bif (100<(d.size:Int))then Q (i_ (y_ ()))else Q (y_ (Qe (i+1)))else Q (i_ (i_ ()))
def Zb (a:QD)(d:Bool):O_ ((Int×Int)⊕(Unit⊕Int)):=bif d then Q (i_ (y_ ()))else j_ (Qh (λst=>He c b st) 0) (Sum.elim (λq=>Q (i_ (y_ ()))) (λq=>Q (y_ ((Qe (i+(a.Names.length:Int))),(Qe (b+1))))))
def Hf:O_ ((Int×Int)⊕(Unit⊕Int)):=bif (i<(c.Colours.length:Int))then j_ (idx c.Colours i) λa=>j_ (Za c i b a) (λe=>Zb c i b a e)else Q (i_ (i_ b))
def Hg:O_ ((Int×Int)⊕(Unit⊕Int)):=bif (i<(c.Places.length:Int))then j_ (idx c.Places i) λd=>j_ (idx c.Places i) λe=>bif (100<(e.Name.size:Int))then Q (i_ (y_ ()))else Q (y_ ((Qe (b+(d.First.length:Int))),(Qe (i+1))))else Q (i_ (i_ b))
def TP:O_ (Int⊕(Unit⊕Unit)):=bif (f1<(l.Vars.length:Int))then j_ (idx l.Vars f1) λc=>bif (100<(c.Name.size:Int))then Q (i_ (y_ ()))else Q (y_ (Qe (f1+1)))else Q (i_ (i_ ()))
def TQ:O_ ((Bool×Int)⊕Bool):=bif (k<(l.Ins.length:Int))then j_ (idx l.Ins k) λd=>j_ (Lx d.Expr) λe=>Q (y_ ((p&&e),(Qe (k+1))))else Q (i_ p)
def TR:O_ ((Bool×Int)⊕Bool):=bif (k<(l.Outs.length:Int))then j_ (idx l.Outs k) λd=>j_ (Lx d.Expr) λe=>Q (y_ ((p&&e),(Qe (k+1))))else Q (i_ p)
def TS:O_ ((Int×Int)⊕(Unit⊕Unit)):=bif (!p)then Q (i_ (y_ ()))else Q (y_ ((Qe ((Qe ((Qe ((Qe (a+(l.Vars.length:Int)))+(l.Ins.length:Int)))+(l.Outs.length:Int)))+(l.Cancel.length:Int))),(Qe (f1+1))))
def TT:O_ ((Int×Int)⊕(Unit⊕Unit)):=j_ (Qh (λst=>TR l st.1 st.2) (p,0)) (λq=>TS f1 l f2 q)
def TU:O_ ((Int×Int)⊕(Unit⊕Unit)):=j_ (Lx l.Guard) λd=>j_ (Qh (λst=>TQ l st.1 st.2) (d,0)) (λq=>TT l f1 f2 q)
def TV:O_ ((Int×Int)⊕(Unit⊕Unit)):=
 bif (i<(c.Tasks.length:Int))then
 j_ (idx c.Tasks i) λa=>
 bif ((200<(Qe ((Qe ((Qe ((Qe (b+(a.Vars.length:Int)))+(a.Ins.length:Int)))+(a.Outs.length:Int)))+(a.Cancel.length:Int))))||(100<(a.Name.size:Int)))then
 Q (i_ (y_ ()))
 else
 j_ (Qh (λst=>TP a st) 0) (Sum.elim (λq=>Q (i_ (y_ ()))) (λq=>TU a b i))
 else
 Q (i_ (i_ ()))
def TW:O_ Bool:=j_ (Qh (λst=>TV c st.1 st.2) (0,0)) (Sum.elim (λq=>Q false) (λq=>Q (decide (b<=400))))
def CH:O_ Bool:=j_ (Qh (λst=>Hg c st.1 st.2) (b,0)) (Sum.elim (λq=>Q false) (λq=>TW c q))
def Fq:O_ Bool:=
 bif ((40<(c.Colours.length:Int))||((70<(c.Places.length:Int))||(70<(c.Tasks.length:Int))))then
 Q false
 else
 j_ (Qh (λst=>Hf c st.1 st.2) (0,0)) (Sum.elim (λq=>Q false) (λq=>CH c q))
def Qe2 {i}:CT 24 [.G Qf i] [] (Fq i) V.b no_:=
 W 201 func24 Z<|T 8 [1] [1] ([(31,.b ((40<(i.Colours.length:Int))||((70<(i.Places.length:Int))||(70<(i.Tasks.length:Int)))))],[]) Z (N 3 Z<|H 2 Z (λf=>Y 12 31 Z (KO f Z)) λf=>N 2 Z<|H 3 Z (λh=>Y 6 31 Z (Yv f (KO h Z))) λh=>N 2 Z<|Y 3 31 Z (Yv f (Yv h Z)))<|I 1 Z (E 7 Z)<|F 14 [1] [1] (λst=>([(3,.I st.1),(4,.I st.2)],[])) [] [] (λq=>(.ret,([(2,.b false)],[]))) [1] [1] (λq=>(.exit 0,([(3,.I q)],[]))) Z (λ⟨p,i9⟩=>N 6 Z<|I 3 Z (J 10 Z λv=>N 2 Z<|mV_ 6 [1,3,4] [1] (λj=>([(59,.b j)],[])) Z (J 4 Z λw=>I 5 Z (M 4 Z)<|M 4 Z) λj=>I 1 Z (L 9 Z)<|F 8 [1,3,4] [1] (λst=>([(5,.I st)],[])) [] [] (λq=>(.ret,([(2,.b false)],[]))) [1,3,4] [1] (λq=>(.exit 2,([],[]))) Z (λx=>J 7 Z λy=>N 2 Z<|I 3 Z (J 9 Z λz=>J 3 Z λC=>I 5 Z (L 8 Z)<|R 8 Z)<|X 2 Z) (λ_=>L 3 Z) (λ_=>R 8 Z))<|X 2 Z) (λ_=>E 2 Z) (λk=>F 9 [1] [1] (λst=>([(3,.I st.1),(6,.I st.2)],[])) [] [] (λq=>(.ret,([(2,.b false)],[]))) [1] [1] (λq=>(.exit 4,([(3,.I q)],[]))) Z (λ⟨l,O⟩=>N 6 Z<|I 3 Z (J 10 Z λa0=>N 2 Z<|J 9 Z λa1=>I 6 Z (L 8 Z)<|R 8 Z)<|X 2 Z) (λ_=>E 2 Z) (λm=>F 14 [1,3] [1] (λst=>([(7,.I st.1),(8,.I st.2)],[])) [] [] (λq=>(.ret,([(2,.b false)],[]))) [3] [] (λq=>(.exit 6,([],[]))) Z (λ⟨g,a2⟩=>N 6 Z<|I 3 Z (J 9 Z λa=>N 10 Z<|N 3 Z<|N 3 Z<|N 3 Z<|T 6 [1,3,7,8,9] [1,9] ([(142,.b ((200<(Qe ((Qe ((Qe ((Qe (g+(a.Vars.length:Int)))+(a.Ins.length:Int)))+(a.Outs.length:Int)))+(a.Cancel.length:Int))))||(100<(a.Name.size:Int))))],[]) Z (H 4 Z (λc=>Y 6 142 Z (KO c Z)) λc=>Y 6 142 Z (Yv c Z))<|I 1 Z (L 9 Z)<|F 9 [1,3,7,8,9] [1,9] (λst=>([(10,.I st)],[])) [] [] (λq=>(.ret,([(2,.b false)],[]))) [1,3,7,8,9] [1,9] (λq=>(.exit 8,([],[]))) Z (λa3=>N 6 Z<|I 3 Z (J 9 Z λa4=>I 6 Z (L 8 Z)<|R 8 Z)<|X 2 Z) (λ_=>L 4 Z) (λ_=>A 6 VZ Z λa5=>lA_ 10 [1,3,7,8,9] [1,9] (λst=>([(11,.b st.1),(12,.I st.2)],[])) [1,3,7,8,9] [1,9] (λq=>(.exit 10,([(11,.b q)],[]))) Z (λ⟨n,a6⟩=>N 6 Z<|I 3 Z (J 9 Z λa7=>A 2 VZ Z λr=>T 3 [1,3,7,8,9,12] [1,9] ([(11,.b (n&&r))],[]) Z (H 3 Z (λd=>Y 4 11 Z (XB d Z)) λd=>Y 4 11 Z (Yh d Z))<|R 7 Z)<|X 2 Z) λt=>lA_ 9 [1,3,7,8,9] [1,9] (λst=>([(11,.b st.1),(14,.I st.2)],[])) [1,3,7,8] [1] (λq=>(.exit 12,([(11,.b q)],[]))) Z (λ⟨o,a8⟩=>N 6 Z<|I 3 Z (J 9 Z λa9=>A 2 VZ Z λs=>T 3 [1,3,7,8,9,14] [1,9] ([(11,.b (o&&s))],[]) Z (H 3 Z (λe=>Y 4 11 Z (XB e Z)) λe=>Y 4 11 Z (Yh e Z))<|R 7 Z)<|X 2 Z) λu=>I 8 Z (L 8 Z)<|R 8 Z))<|X 2 Z) (λ_=>E 2 Z) (λ_=>E 10 Z)))
def Zc:O_ ((Int×Int)⊕Int):=bif ((i0<(e.length:Int))&&(i0<100))then j_ (idx e i0) λb=>Q (y_ ((Qe (o+(b.length:Int))),(Qe (i0+1))))else Q (i_ o)
def ZI:O_ Bool:=j_ (Qh (λst=>Zc e st.1 st.2) (0,0)) (λq=>Q (((e.length:Int)<=70)&&(q<=300)))
def QoC {d}:CT 84 [.M 1 Qk d] [] (ZI d) V.b no_:=
 W 29 func84 Z<|lA_ 17 [0] [] (λst=>([(3,.I st.1),(4,.I st.2)],[])) [0] [] (λq=>(.exit 0,([(3,.I q)],[]))) Z (λ⟨h,e⟩=>T 2 [0,3,4] [] ([(12,.b ((e<(d.length:Int))&&(e<100)))],[]) Z (N 3 Z<|H 2 Z (λc=>Y 4 12 Z (XB c Z)) λc=>Y 4 12 Z (Yh c Z))<|I 1 Z (J 8 Z λf=>N 1 Z<|R 10 Z)<|X 2 Z) λg=>T 3 [] [] ([(2,.b (((d.length:Int)<=70)&&(g<=300)))],[]) Z (N 2 Z<|H 2 Z (λa=>Y 5 2 Z (XB a Z)) λa=>Y 5 2 Z (Yh a Z))<|E 2 Z
def Rj:O_ Bool:=Q (((c.Places.length:Int)<=64)&&((c.Tasks.length:Int)<=64))
def QkD {c}:CT 134 [.L 621] [(621,.W Qf c)] (Rj c) V.b (λ_=>[(621,.W Qf c)]):=
 W 12 func134 Z<|T 6 [] [621] ([(1,.b (((c.Places.length:Int)<=64)&&((c.Tasks.length:Int)<=64)))],[]) Z (N 3 Z<|H 2 Z (λa=>N 2 Z<|Y 4 1 Z (XB a Z)) λa=>Y 7 1 Z (Yh a Z))<|E 2 Z
def YX (b:(L_ Xb))(a:Int):O_ Bool:=Q ((0<=a)&&(a<(b.length:Int)))
def KQ {d c}:CT 136 [.M 3 QW d,.I c] [] (YX d c) V.b no_:=
 W 13 func136 Z<|T 6 [] [] ([(4,.b ((0<=c)&&(c<(d.length:Int))))],[]) Z (H 4 Z (λa=>N 2 Z<|Y 4 4 Z (XB a Z)) λa=>Y 7 4 Z (Yh a Z))<|E 2 Z
def Qb9:O_ Bool:=j_ (YX c.Places c.From) λb=>bif b then j_ (YX c.Places c.To) λa=>Q a else Q false
def Qca:O_ Bool:=Q n
def Rl:O_ Bool:=j_ (Qb9 c) (λb=>Qca b)
def QkE {a}:CT 135 [.L 621] [(621,.W Qf a)] (Rl a) V.b (λ_=>[(621,.W Qf a)]):=
 W 14 func135 Z<|mV_ 6 [] [621] (λc=>([(1,.b c)],[])) Z (A 5 KQ Z λd=>I 1 Z (A 4 KQ Z λe=>M 3 Z)<|M 8 Z) λc=>E 2 Z
def Rm:O_ Bool:=Q (c.From != c.To)
def QkF {a}:CT 137 [.L 621] [(621,.W Qf a)] (Rm a) V.b (λ_=>[(621,.W Qf a)]):=
 W 7 func137 Z<|E 16 Z
def Rn:O_ Int:=j_ (Rj c) λf=>bif (!f)then Q b else j_ (Rl c) λg=>bif (!g)then Q i else j_ (Rm c) λa=>bif (!a)then Q o else Q 0
def QkG {a b c d}:CT 133 [.own 621 3] [(621,.var [.clo (.func 134) [] [.L 622],.I b,.clo (.func 135) [] [.L 622],.I c,.clo (.func 137) [] [.L 622],.I d]),(622,.W Qf a)] (Rn a b c d) V.I (λ_=>[(621,.var [.clo (.func 134) [] [.L 622],.I b,.clo (.func 135) [] [.L 622],.I c,.clo (.func 137) [] [.L 622],.I d]),(622,.W Qf a)]):=
 W 18 func133 Z<|lN_ 14 4 Z<|vI_ 13 621 0 Z<|S 9 .clo [(621,622)] QkD Z λf=>I 3 Z (E 13 Z)<|rd_ 7 Z<|vI_ 13 621 2 Z<|gT_ [1,.kill 4,8] Z<|S 0 .clo [(621,622)] QkE Z λg=>I 3 Z (E 13 Z)<|rd_ 7 Z<|vI_ 13 621 4 Z<|gT_ [1,.kill 4,8] Z<|S 0 .clo [(621,622)] QkF Z λe=>I 3 Z (E 13 Z)<|rd_ 7 Z<|E 18 Z
def Ok:O_ Bool:=j_ (EE s) λb=>Q b.2
def Qjh {a}:CT 189 [.M 7 Xf a] [] (Ok a) V.b no_:=
 W 11 func189 Z<|A 8 QaF Z λc=>E 14 Z
def BD:O_ Bool:=j_ (chk (decide (0<=(Qe (b+1)))&&decide (0<=(Qe (b+1)).toNat)&&decide ((Qe (b+1)).toNat<=c.Colours.length))) λ_=>j_ (Ok ((c.Colours.drop 0).take ((Qe (b+1)).toNat-0))) λa=>Q a
def QeC {c d}:CT 188 [.L 621,.L 622] [(621,.W Qf c),(622,.W Qb d)] (BD c d) V.b (λ_=>[(621,.W Qf c),(622,.W Qb d)]):=
 W 9 func188 Z<|kA_ λa=>K [11,.o (.any (.sl 7 (((c.Colours.drop 0).take ((Qe (d+1)).toNat-0)).map Xf)) none)] Z (λf=>(a1_ (λσ e g _=>Stp.sliceD Z Z (Xk f.n Z) (e _ _ Z) (Xg.es Z) GC.no (GC.val (e _ _ Z) (Xd (Tl a)) Z) (Xd (Tm a)) (XZ (Xd (QbF a)) (PA Qq.symm)) Qbb)))<|A 0 Qjh Z λh=>E 4 Z
def Qcb:O_ (L_ ByteArray):=j_ (chk (QqX g1)) λ_=>Q (Ca g1)
def QgZ (x){r}(h:Qcb x=Q r):QN prog 308 [.s x] [] (Gives (.P 600 r) [(600,.R 1 HR r)]):=by
 obtain⟨_,a,h⟩:=QU h;cases h;exact QpO Qut (by kernel_rfl) (by kernel_rfl) x (Qn5 a)
def Lg  : O_ (L_ ByteArray):=(Qcb (⟨#[99,111,108,111,117,114,32,112,108,97,99,101,32,116,97,115,107,32,118,97,114,32,119,104,101,110,32,106,111,105,110,32,115,112,108,105,116,32,105,110,32,111,117,116,32,99,97,110,99,101,108,32,97,102,116,101,114,32,109,97,110,121,32,102,114,111,109,32,116,111,32,105,110,116,32,101,110,117,109,32,112,97,105,114,32,97,110,100,32,120,111,114,32,111,114,32,105,102]⟩:ByteArray)).bind λa=>Q a
def QkH : CT 288 [] [] (Lg ) (λr=>(.P 600 r)) (λr=>[(600,.R 1 HR r)]):=
 W 2 func288 Z<|B λb a=>G [7,.o (.co false [.d] 1 (b.map HR) b.length),4,.ren 1 600] Z ⟨(QgZ _ a),Qq,.inl Z⟩<|E 0 Z
def Gz (c:ByteArray)(a:Int):O_ (Int⊕(Int⊕Unit)):=bif (a<(m1.length:Int))then j_ (idx m1 a) λd=>bif (Ko c d)then Q (i_ (y_ a))else Q (y_ (Qe (a+1)))else Q (i_ (i_ ()))
def GA:O_ Int:=Q a
def GB : O_ Int:=Q (-1)
def De (b:ByteArray):O_ Int:=j_ (Qh (λst=>Gz m1 b st) 0) (Sum.elim (λq=>GA q) (λq=>GB))
def SW {a b}:CT 307 [.M 1 HR a,.s b] [] (De a b) V.I no_:=
 W 19 func307 Z<|N 9 Z<|F 4 [0,1,7] [] (λst=>([(8,.I st)],[])) [] [] (λq=>(.ret,([(4,.I q)],[]))) [] [] (λq=>(.exit 0,([],[]))) Z (λc=>I 6 Z (J 15 Z λd=>I 4 Z (L 9 Z)<|R 7 Z)<|X 2 Z) (λe=>E 2 Z) (λ_=>E 8 Z)
def KY (b:ByteArray):O_ Bool:=j_ (De m1 b) λc=>Q (decide (0<=c))
def Pr {a c}:CT 287 [.M 1 HR a,.s c] [] (KY a c) V.b no_:=
 W 9 func287 Z<|A 9 SW Z λd=>E 5 Z
def TX:O_ Bool:=j_ (Lg) λb=>j_ (KY b g1) λc=>Q c
def QmJ {a}:CT 239 [.s a] [] (TX a) V.b no_:=
 W 6 func239 Z<|oC_ 7 [] QkH Z λc=>cV_ 1 [.o _,.d] Pr Z λe=>E 4 Z
def Qdu:O_ Bool:=j_ (DY g1) λb=>bif b then j_ (TX g1) λc=>Q (!c)else Q false
def Qdv:O_ Bool:=Q n
def Uw:O_ Bool:=j_ (Qdu g1) (λb=>Qdv b)
def CI {a}:CT 185 [.s a] [] (Uw a) V.b no_:=
 W 10 func185 Z<|mV_ 6 [] [] (λc=>([(2,.b c)],[])) Z (A 2 RW Z λd=>I 1 Z (A 1 QmJ Z λe=>M 4 Z)<|M 6 Z) λc=>E 2 Z
def UM:O_ Bool:=j_ (Uw g1) λb=>Q (!b)
def Qcc {a}:CT 187 [.s a] [] (UM a) V.b no_:=
 W 6 func187 Z<|A 8 CI Z λc=>E 5 Z
def Df:O_ (Int⊕(Int⊕Unit)):=bif (m<(m1.length:Int))then j_ (idx m1 m) λc=>j_ (UM c) λd=>bif d then Q (i_ (y_ m))else Q (y_ (Qe (m+1)))else Q (i_ (i_ ()))
def Dg:O_ Int:=Q a
def Dh : O_ Int:=Q (-1)
def KI:O_ Int:=j_ (Qh (λst=>Df m1 st) 0) (Sum.elim (λq=>Dg q) (λq=>Dh))
def Ol {a}:CT 240 [.M 1 HR a,.clo (.func 187) [] []] [] (KI a) V.I no_:=
 W 19 func240 Z<|N 9 Z<|F 4 [0,1,7] [] (λst=>([(8,.I st)],[])) [] [] (λq=>(.ret,([(4,.I q)],[]))) [] [] (λq=>(.exit 0,([],[]))) Z (λb=>I 6 Z (J 15 Z λc=>A 1 Qcc Z λd=>I 2 Z (L 9 Z)<|R 7 Z)<|X 2 Z) (λe=>E 2 Z) (λ_=>E 8 Z)
def JV:O_ Bool:=j_ (KI m1) λb=>Q (decide (0<=b))
def LO {a}:CT 186 [.M 1 HR a,.clo (.func 187) [] []] [] (JV a) V.b no_:=
 W 9 func186 Z<|S 9 .fn [] Ol Z λc=>E 5 Z
def PQ (a:QD):O_ Bool:=j_ (Uw a.Name) λb=>bif b then bif (a.Kind != 2)then Q true else j_ (JV a.Names) λc=>Q (!c)else Q false
def PR:O_ Bool:=Q n
def BE (a:QD):O_ Bool:=j_ (PQ a) (λb=>PR b)
def QeD {a}:CT 184 [.L 621] [(621,.W Xf a)] (BE a) V.b (λ_=>[(621,.W Xf a)]):=
 W 16 func184 Z<|mV_ 6 [] [621] (λc=>([(1,.b c)],[])) Z (A 3 CI Z λd=>I 1 Z (I 4 Z (M 8 Z)<|S 2 .fn [] LO Z λe=>M 5 Z)<|M 12 Z) λc=>E 2 Z
def Ii (e:QD)(f:Int):O_ Int:=j_ (BD c b) λg=>bif (!g)then Q i else j_ (BE e) λa=>bif (!a)then Q f else Q 0
def Qg0 {a b c d e}:CT 133 [.own 621 2] [(621,.var [.clo (.func 188) [] [.L 622,.L 623],.I c,.clo (.func 184) [] [.L 624],.I e]),(622,.W Qf a),(623,.W Qb b),(624,.W Xf d)] (Ii a b c d e) V.I (λ_=>[(621,.var [.clo (.func 188) [] [.L 622,.L 623],.I c,.clo (.func 184) [] [.L 624],.I e]),(622,.W Qf a),(623,.W Qb b),(624,.W Xf d)]):=
 W 18 func133 Z<|lN_ 14 3 Z<|vI_ 13 621 0 Z<|S 9 .clo [(621,622),(622,623)] QeC Z λg=>I 3 Z (E 13 Z)<|rd_ 7 Z<|vI_ 13 621 2 Z<|gT_ [1,.kill 4,8] Z<|S 0 .clo [(621,624)] QeD Z λf=>I 3 Z (E 13 Z)<|rd_ 7 Z<|E 18 Z
def FK (b:QD)(c:Qd):O_ Int:=j_ (Ii c a 8 b 8) λd=>Q d
def Qgd {b c a}:CT 183 [.I b,.G Xf c,.L 621] [(621,.W Qf a)] (FK b c a) V.I (λ_=>[(621,.W Qf a)]):=
 W 16 func183 Z<|K [25,.o (.any (.own 14 2) (Q (.var [.clo (.func 188) [] [.L 621,.L 3],.I 8,.clo (.func 184) [] [.L 4],.I 8])))] Z (λd=>(a1_ (λσ e f h=>Stp.buildAny Z Z (Xk d.n Z) (Xg.es Z) ZZ Z (by decide) (by decide) (EB e Z) Z Z (h Z))))<|S 0 .fn [(621,14),(622,621),(623,3),(624,4)] Qg0 Z λg=>E 4 Z
def Ac:O_ (Int⊕((Int×Int)⊕Unit)):=bif (k<(s.length:Int))then j_ (idx s k) λc=>j_ (FK k c f0) λb=>bif (b != 0)then Q (i_ (y_ (k,b)))else Q (y_ (Qe (k+1)))else Q (i_ (i_ ()))
def Ad:O_ (Int×Int):=Q (a,g)
def Ae : O_ (Int×Int):=Q (0,0)
def Ep:O_ (Int×Int):=j_ (Qh (λst=>Ac s f0 st) 0) (Sum.elim (λq=>Ad q.1 q.2) (λq=>Ae))
def Qaz {b a}:CT 182 [.M 7 Xf b,.clo (.func 183) [] [.L 621]] [(621,.W Qf a)] (Ep b a) (λr=>(.tup [.I r.1,.I r.2])) (λ_=>[(621,.W Qf a)]):=
 W 25 func182 Z<|N 10 Z<|F 4 [1,9,10] [621] (λst=>([(11,.I st)],[])) [] [621] (λq=>(.ret,([(4,.I q.1),(5,.I q.2)],[]))) [] [621] (λq=>(.exit 0,([],[]))) Z (λf=>I 6 Z (J 7 Z λc=>S 11 .clo [(621,621)] Qgd Z λd=>I 9 Z (L 11 Z)<|R 7 Z)<|X 2 Z) (λ⟨g,e⟩=>E 2 Z) (λ_=>E 9 Z)
def CJ:O_ (Int×Int):=j_ (Ep c.Colours c) λb=>Q (b.1,b.2)
def Qaf {a}:CT 138 [.G Qf a] [] (CJ a) (λr=>(.tup [.I r.1,.I r.2])) no_:=
 W 10 func138 Z<|S 12 .fn [(621,1)] Qaz Z λb=>E 7 Z
def Ml (a:Xb):O_ Bool:=j_ (Uw a.Name) λb=>Q b
def QhN {a}:CT 191 [.L 621] [(621,.W QW a)] (Ml a) V.b (λ_=>[(621,.W QW a)]):=
 W 5 func191 Z<|A 9 CI Z λc=>E 4 Z
def Mm (a:Xb)(b:Xb):O_ Bool:=Q (Ko a.Name b.Name)
def QhO {c a}:CT 190 [.G QW c,.L 621] [(621,.W QW a)] (Mm c a) V.b (λ_=>[(621,.W QW a)]):=
 W 9 func190 Z<|E 17 Z
def Ks (c:(L_ Xb))(d:Xb)(a:Int):O_ (Int⊕(Int⊕Unit)):=bif (a<(c.length:Int))then j_ (idx c a) λe=>j_ (Mm e d) λb=>bif b then Q (i_ (y_ a))else Q (y_ (Qe (a+1)))else Q (i_ (i_ ()))
def Kt:O_ Int:=Q a
def Ku : O_ Int:=Q (-1)
def Jr (a:(L_ Xb))(b:Xb):O_ Int:=j_ (Qh (λst=>Ks a b st) 0) (Sum.elim (λq=>Kt q) (λq=>Ku))
def HD {b a}:CT 242 [.M 3 QW b,.clo (.func 190) [] [.L 621]] [(621,.W QW a)] (Jr b a) V.I (λ_=>[(621,.W QW a)]):=
 W 19 func242 Z<|N 9 Z<|F 4 [0,1,7] [621] (λst=>([(8,.I st)],[])) [] [621] (λq=>(.ret,([(4,.I q)],[]))) [] [621] (λq=>(.exit 0,([],[]))) Z (λd=>I 6 Z (J 15 Z λe=>S 1 .clo [(621,621)] QhO Z λc=>I 2 Z (L 9 Z)<|R 7 Z)<|X 2 Z) (λf=>E 2 Z) (λ_=>E 8 Z)
end Go.Proofs
