/- What functions of the program do, as functions over plain data, and the walks that show it: printed by a program. -/
import Derived.Test.YtdogcfnkpfekmaaGreatDoorG1V3
import Derived.Test.YtdogcfnkpfekmaaGreatDoorG1V3
import Derived.Test.YtdogcfnkpfekmaaGreatDoorProg
set_option linter.all false
set_option maxRecDepth 100000
set_option maxHeartbeats 4000000
noncomputable section
namespace Go.Proofs
open Go Go.RowKit Go.Vm Go.Proofs.Tryz
structure QI where
 Name:ByteArray
 Kind:Int
 Lo:Int
 Hi:Int
 Names:(List ByteArray)
 First:Int
 Then:Int
structure QM where
 Name:ByteArray
 Colour:Int
 First:(List (Int×Int))
structure YI where
 Name:ByteArray
 Colour:Int
structure Ql where
 Kind:Int
 Num:Int
 Kids:(List Ql)
structure Xo where
 Place:Int
 Expr:Ql
structure QG where
 Name:ByteArray
 Vars:(List YI)
 Guard:Ql
 Join:Int
 Split:Int
 Ins:(List Xo)
 Outs:(List Xo)
 Cancel:(List Int)
 After:Int
 Many:(Int×Int×Int)
structure Qe where
 Colours:(List QI)
 Places:(List QM)
 Tasks:(List QG)
 From:Int
 To:Int
structure Qj where
 Task:Int
 Vars:(List Int)
 Ins:(List Int)
 Outs:(List Int)
structure Xr where
 Told:Int
 Clause:Int
 Task:Int
 Trace:(List Qj)
structure QZ where
 From:Int
 To:Int
 Mode:Qj
structure QN where
 States:(List (List (List (Int×Int))))
 Edges:(List QZ)
 Full:Bool
structure Xk where
 net:Qe
 m:(List (List (Int×Int)))
 task:QG
 env:(List Int)
structure YJ where
 all:(List QI)
 sizes:(List Int)
 k:Int
structure QS where
 net:Qe
 space:QN
structure Qw where
 state:Int
 far:Int
structure GN where
 Kind:Int
 At:Int
def DR (x:ByteArray):L_ V:=[.s x]
def Qb (x:Int):L_ V:=[.i .i64 x]
def QkQ (l:L_ Int):∀r∈l.map Qb,∀v∈r,v.sca=true:=Qnc (λ_=>rfl) l
def QkR (x:(L_ ByteArray)):L_ V:=[.sl 1 (x.map DR)]
def Qr (x:QI):L_ V:=[.s x.Name,.i .i64 x.Kind,.i .i64 x.Lo,.i .i64 x.Hi,.sl 1 (x.Names.map DR),.i .i64 x.First,.i .i64 x.Then]
def QbH (x:(L_ QI)):L_ V:=[.sl 7 (x.map Qr)]
def QT (x:(Int×Int)):L_ V:=[.i .i64 x.1,.i .i64 x.2]
def Qh (x:(L_ (Int×Int))):L_ V:=[.sl 2 (x.map QT)]
def Qp (x:QM):L_ V:=[.s x.Name,.i .i64 x.Colour,.sl 2 (x.First.map QT)]
def QdI (x:(L_ QM)):L_ V:=[.sl 3 (x.map Qp)]
def Xe (x:YI):L_ V:=[.s x.Name,.i .i64 x.Colour]
def Kf (x:(L_ YI)):L_ V:=[.sl 2 (x.map Xe)]
mutual
def Qaj : Ql->L_ V
 | ⟨h,D,x2⟩=>[.i .i64 h,.i .i64 D,.sl 3 (Yi x2)]
def Yi : L_ Ql->L_ (L_ V)
 | []=>[]
 | e::es=>Qaj e::Yi es
end
def Qs (x:Ql):L_ V:=[.i .i64 x.Kind,.i .i64 x.Num,.sl 3 (Yi x.Kids)]
def Qhg : ∀x:Ql,Qaj x=Qs x
 | ⟨h,D,x2⟩=>by rw[Qaj];rfl
def HO : ∀l:L_ Ql,Yi l=l.map Qs
 | []=>by rw[Yi];rfl
 | e::es=>by rw[Yi,HO es,Qhg];rfl
def HP (l:L_ Ql):(Yi l).length=l.length:=by rw[HO,GK]
def Gk {l:L_ Ql}{j:Int}{x:Ql}(h:idx l j=some x):0<=j/\(Yi l)[j.toNat]? = some (Qs x):=by rw[HO];exact Xi h
def Xf (x:Xo):L_ V:=[.i .i64 x.Place,.i .i64 x.Expr.Kind,.i .i64 x.Expr.Num,.sl 3 (Yi x.Expr.Kids)]
def QkS (x:(L_ Xo)):L_ V:=[.sl 4 (x.map Xf)]
def QQ (x:(L_ Int)):L_ V:=[.sl 1 (x.map Qb)]
def Qgg (x:(Int×Int×Int)):L_ V:=[.i .i64 x.1,.i .i64 x.2.1,.i .i64 x.2.2]
def Qg (x:QG):L_ V:=[.s x.Name,.sl 2 (x.Vars.map Xe),.i .i64 x.Guard.Kind,.i .i64 x.Guard.Num,.sl 3 (Yi x.Guard.Kids),.i .i64 x.Join,.i .i64 x.Split,.sl 4 (x.Ins.map Xf),.sl 4 (x.Outs.map Xf),.sl 1 (x.Cancel.map Qb),.i .i64 x.After,.i .i64 x.Many.1,.i .i64 x.Many.2.1,.i .i64 x.Many.2.2]
def QjK (x:(L_ QG)):L_ V:=[.sl 14 (x.map Qg)]
def Qa (x:Qe):L_ V:=[.sl 7 (x.Colours.map Qr),.sl 3 (x.Places.map Qp),.sl 14 (x.Tasks.map Qg),.i .i64 x.From,.i .i64 x.To]
def Qk (x:Qj):L_ V:=[.i .i64 x.Task,.sl 1 (x.Vars.map Qb),.sl 1 (x.Ins.map Qb),.sl 1 (x.Outs.map Qb)]
def QjL (x:(L_ Qj)):L_ V:=[.sl 4 (x.map Qk)]
def QE (x:Xr):L_ V:=[.i .i64 x.Told,.i .i64 x.Clause,.i .i64 x.Task,.sl 4 (x.Trace.map Qk)]
def Qx (x:(L_ (L_ (Int×Int)))):L_ V:=[.sl 1 (x.map Qh)]
def Xb (x:QZ):L_ V:=[.i .i64 x.From,.i .i64 x.To,.i .i64 x.Mode.Task,.sl 1 (x.Mode.Vars.map Qb),.sl 1 (x.Mode.Ins.map Qb),.sl 1 (x.Mode.Outs.map Qb)]
def QF (x:QN):L_ V:=[.sl 1 (x.States.map Qx),.sl 6 (x.Edges.map Xb),.b x.Full]
def YE (x:Int):L_ V:=[.i .u8 x]
def Xp (x:(L_ (L_ Int))):L_ V:=[.sl 1 (x.map QQ)]
def QC (x:Xk):L_ V:=[.sl 7 (x.net.Colours.map Qr),.sl 3 (x.net.Places.map Qp),.sl 14 (x.net.Tasks.map Qg),.i .i64 x.net.From,.i .i64 x.net.To,.sl 1 (x.m.map Qh),.s x.task.Name,.sl 2 (x.task.Vars.map Xe),.i .i64 x.task.Guard.Kind,.i .i64 x.task.Guard.Num,.sl 3 (Yi x.task.Guard.Kids),.i .i64 x.task.Join,.i .i64 x.task.Split,.sl 4 (x.task.Ins.map Xf),.sl 4 (x.task.Outs.map Xf),.sl 1 (x.task.Cancel.map Qb),.i .i64 x.task.After,.i .i64 x.task.Many.1,.i .i64 x.task.Many.2.1,.i .i64 x.task.Many.2.2,.sl 1 (x.env.map Qb)]
def Xy (x:YJ):L_ V:=[.sl 7 (x.all.map Qr),.sl 1 (x.sizes.map Qb),.i .i64 x.k]
def Xc (x:QS):L_ V:=[.sl 7 (x.net.Colours.map Qr),.sl 3 (x.net.Places.map Qp),.sl 14 (x.net.Tasks.map Qg),.i .i64 x.net.From,.i .i64 x.net.To,.sl 1 (x.space.States.map Qx),.sl 6 (x.space.Edges.map Xb),.b x.space.Full]
def Qm (x:Qw):L_ V:=[.i .i64 x.state,.i .i64 x.far]
def WT (x:GN):L_ V:=[.i .i64 x.Kind,.i .i64 x.At]
def XW (fn:Nat):AM:=QnO Tryz.f229 0 fn
def EX (fn:Nat):AM:=QnO Tryz.f231 0 fn
def Ql8 : Go.Shelf.Ren:=⟨λ| 20=>44 | n=>n,λ| 0=>0 | 3=>3 | 4=>4 | 22=>37 | n=>n,λn=>n⟩
def QkT : Lays2.n20 Tryz.prog Ql8 where
 mixed:=by kernel_rfl
 f20:=Tryz.func44.trans (congrArg some (by kernel_rfl))
 t0:=Tryz.underlying0
 a0:=Tryz.isAgg0
 z0:=Tryz.sizeOf0
 v0:=Tryz.zeroValue0
 t3:=Tryz.underlying3
 a3:=Tryz.isAgg3
 z3:=Tryz.sizeOf3
 v3:=Tryz.zeroValue3
 t4:=Tryz.underlying4
 a4:=Tryz.isAgg4
 z4:=Tryz.sizeOf4
 v4:=Tryz.zeroValue4
 t22:=Tryz.underlying37
 a22:=Tryz.isAgg37
 z22:=Tryz.sizeOf37
 v22:=Tryz.zeroValue37
 i3:=by kernel_rfl
def Qox (a0 h D b0 b1 b2:Int):EqT Tryz.prog 95 [.int .i64 a0,.int .i64 h,.int .i64 D] [.int .i64 b0,.int .i64 b1,.int .i64 b2] ((a0==b0)&&((h==b1)&&(D==b2))):=by
 refine⟨by kernel_rfl,λw=>?_⟩
 have u3:=Tryz.underlying3
 have g3:=Tryz.isAgg3
 have z3:=Tryz.sizeOf3
 show(Op.equalIn (9999+1) 95 (.agg #[.int .i64 a0,.int .i64 h,.int .i64 D]) (.agg #[.int .i64 b0,.int .i64 b1,.int .i64 b2])).run Tryz.prog w=_
 rw[Op.equalIn]
 simp only[Xh,run_underlying Tryz.underlying95,Xt]
 simp only[Std.Legacy.Range.forIn_eq_forIn_range',Std.Legacy.Range.size,Nat.sub_zero,Nat.add_sub_cancel,Nat.div_one,List.range'_succ,List.range'_zero,List.forIn_cons,List.forIn_nil]
 go_simp
 by_cases h0:a0=b0<;>by_cases h1:h=b1<;>by_cases h2:D=b2<;>simp[h0,h1,h2]
def Qnf : QbG Tryz.prog 90 1=some (1,false,1):=by kernel_rfl
def Qng : QbG Tryz.prog 90 2=some (2,false,1):=by kernel_rfl
def Ql9 : Go.Shelf.Ren:=⟨λ| 157=>308 | 199=>321 | 229=>320 | 261=>334 | 311=>337 | 312=>338 | n=>n,λ| 0=>0 | 3=>3 | 4=>4 | 5=>5 | 9=>9 | 21=>21 | 31=>88 | 40=>310 | 46=>136 | 49=>329 | 51=>182 | 119=>308 | 141=>321 | 152=>317 | 154=>319 | 193=>325 | 194=>326 | 196=>328 | 198=>331 | 201=>334 | 226=>336 | 227=>337 | n=>n,λ| 0=>0 | 6=>1 | n=>n⟩
def QkU : Lays.n157 Tryz.prog Ql9 where
 mixed:=by kernel_rfl
 f157:=Tryz.func308.trans (congrArg some (by kernel_rfl))
 f199:=Tryz.func321.trans (congrArg some (by kernel_rfl))
 f229:=Tryz.func320.trans (congrArg some (by kernel_rfl))
 f261:=Tryz.func334.trans (congrArg some (by kernel_rfl))
 f311:=Tryz.func337.trans (congrArg some (by kernel_rfl))
 f312:=Tryz.func338.trans (congrArg some (by kernel_rfl))
 t0:=Tryz.underlying0
 a0:=Tryz.isAgg0
 z0:=Tryz.sizeOf0
 v0:=Tryz.zeroValue0
 t3:=Tryz.underlying3
 a3:=Tryz.isAgg3
 z3:=Tryz.sizeOf3
 v3:=Tryz.zeroValue3
 t4:=Tryz.underlying4
 a4:=Tryz.isAgg4
 z4:=Tryz.sizeOf4
 v4:=Tryz.zeroValue4
 t5:=Tryz.underlying5
 a5:=Tryz.isAgg5
 z5:=Tryz.sizeOf5
 v5:=Tryz.zeroValue5
 t9:=Tryz.underlying9
 a9:=Tryz.isAgg9
 z9:=Tryz.sizeOf9
 v9:=Tryz.zeroValue9
 t21:=Tryz.underlying21
 a21:=Tryz.isAgg21
 z21:=Tryz.sizeOf21
 v21:=Tryz.zeroValue21
 t31:=Tryz.underlying88
 a31:=Tryz.isAgg88
 z31:=Tryz.sizeOf88
 v31:=Tryz.zeroValue88
 t40:=Tryz.underlying310
 a40:=Tryz.isAgg310
 z40:=Tryz.sizeOf310
 v40:=Tryz.zeroValue310
 t46:=Tryz.underlying136
 a46:=Tryz.isAgg136
 z46:=Tryz.sizeOf136
 v46:=Tryz.zeroValue136
 t49:=Tryz.underlying329
 a49:=Tryz.isAgg329
 z49:=Tryz.sizeOf329
 v49:=Tryz.zeroValue329
 t51:=Tryz.underlying182
 a51:=Tryz.isAgg182
 z51:=Tryz.sizeOf182
 v51:=Tryz.zeroValue182
 t119:=Tryz.underlying308
 a119:=Tryz.isAgg308
 z119:=Tryz.sizeOf308
 t141:=Tryz.underlying321
 a141:=Tryz.isAgg321
 z141:=Tryz.sizeOf321
 v141:=Tryz.zeroValue321
 t152:=Tryz.underlying317
 a152:=Tryz.isAgg317
 z152:=Tryz.sizeOf317
 v152:=Tryz.zeroValue317
 t154:=Tryz.underlying319
 a154:=Tryz.isAgg319
 z154:=Tryz.sizeOf319
 v154:=Tryz.zeroValue319
 t193:=Tryz.underlying325
 a193:=Tryz.isAgg325
 z193:=Tryz.sizeOf325
 v193:=Tryz.zeroValue325
 t194:=Tryz.underlying326
 a194:=Tryz.isAgg326
 z194:=Tryz.sizeOf326
 v194:=Tryz.zeroValue326
 t196:=Tryz.underlying328
 a196:=Tryz.isAgg328
 z196:=Tryz.sizeOf328
 v196:=Tryz.zeroValue328
 t198:=Tryz.underlying331
 a198:=Tryz.isAgg331
 z198:=Tryz.sizeOf331
 v198:=Tryz.zeroValue331
 t201:=Tryz.underlying334
 a201:=Tryz.isAgg334
 z201:=Tryz.sizeOf334
 v201:=Tryz.zeroValue334
 t226:=Tryz.underlying336
 a226:=Tryz.isAgg336
 z226:=Tryz.sizeOf336
 v226:=Tryz.zeroValue336
 t227:=Tryz.underlying337
 a227:=Tryz.isAgg337
 z227:=Tryz.sizeOf337
 v227:=Tryz.zeroValue337
 g0:=by kernel_rfl
 g6:=by kernel_rfl
def QbI : QbF Tryz.prog 184 .u64=true:=by kernel_rfl
def QdR : QbF Tryz.prog 3 .i64=true:=by kernel_rfl
def QjM : QbF Tryz.prog 5 .u8=true:=by kernel_rfl
def KN : WG Tryz.prog 3 (V.i .i64) (Value.int .i64):=WG.int (by kernel_rfl)
def Qak : WG Tryz.prog 9 V.s Value.string:=WG.str (by kernel_rfl)
def QjN : (Uo Tryz.prog 158 "Pop" = some (358,true)∧QdO Tryz.prog 158=true)∨(Uo Tryz.prog 158 "Pop" = some (358,false)∧RP Tryz.prog 158=true):=.inl ⟨by kernel_rfl,by kernel_rfl⟩
def QiQ : (Uo Tryz.prog 158 "Push" = some (359,true)∧QdO Tryz.prog 158=true)∨(Uo Tryz.prog 158 "Push" = some (359,false)∧RP Tryz.prog 158=true):=.inl ⟨by kernel_rfl,by kernel_rfl⟩
def mixed : Tryz.prog.follows .mixedOrders=true:=by kernel_rfl
def QkV : CZ Tryz.prog 113=some (9,3):=by kernel_rfl
def Hh : CZ Tryz.prog 117=some (3,3):=by kernel_rfl
def Gy : CZ Tryz.prog 118=some (3,3):=by kernel_rfl
def VT : CZ Tryz.prog 154=some (3,37):=by kernel_rfl
def RW : CZ Tryz.prog 295=some (9,4):=by kernel_rfl
def Qe3 : Uo Tryz.prog 158 "Len" = some (111,false)∧Tv Tryz.prog 158 156=true∧Es Tryz.prog 156=some false:=⟨by kernel_rfl,by kernel_rfl,by kernel_rfl⟩
def Vs : Uo Tryz.prog 158 "Less" = some (356,false)∧Tv Tryz.prog 158 156=true∧Es Tryz.prog 156=some false:=⟨by kernel_rfl,by kernel_rfl,by kernel_rfl⟩
def Vt : Uo Tryz.prog 158 "Swap" = some (357,false)∧Tv Tryz.prog 158 156=true∧Es Tryz.prog 156=some false:=⟨by kernel_rfl,by kernel_rfl,by kernel_rfl⟩
def Qm1 : Qf8 Tryz.prog 37=true:=by kernel_rfl
def Qma : Go.Shelf.Ren:=⟨λ| 125=>80 | 128=>130 | 129=>131 | 189=>43 | 215=>181 | 216=>127 | 257=>79 | 294=>121 | 295=>122 | 296=>123 | 297=>124 | 298=>125 | 299=>126 | 300=>128 | 301=>129 | 328=>176 | 329=>177 | 330=>178 | 331=>179 | 332=>180 | 343=>237 | n=>n,λ| 0=>0 | 3=>3 | 4=>4 | 5=>5 | 9=>9 | 28=>37 | 46=>136 | 51=>182 | 53=>184 | 131=>147 | 182=>174 | 183=>175 | 218=>222 | 222=>226 | 228=>263 | 229=>264 | n=>n,λn=>n⟩
def QkW : Lays.n189 Tryz.prog Qma where
 mixed:=by kernel_rfl
 f125:=Tryz.func80.trans (congrArg some (by kernel_rfl))
 f128:=Tryz.func130.trans (congrArg some (by kernel_rfl))
 f129:=Tryz.func131.trans (congrArg some (by kernel_rfl))
 f189:=Tryz.func43.trans (congrArg some (by kernel_rfl))
 f215:=Tryz.func181.trans (congrArg some (by kernel_rfl))
 f216:=Tryz.func127.trans (congrArg some (by kernel_rfl))
 f257:=Tryz.func79.trans (congrArg some (by kernel_rfl))
 f294:=Tryz.func121.trans (congrArg some (by kernel_rfl))
 f295:=Tryz.func122.trans (congrArg some (by kernel_rfl))
 f296:=Tryz.func123.trans (congrArg some (by kernel_rfl))
 f297:=Tryz.func124.trans (congrArg some (by kernel_rfl))
 f298:=Tryz.func125.trans (congrArg some (by kernel_rfl))
 f299:=Tryz.func126.trans (congrArg some (by kernel_rfl))
 f300:=Tryz.func128.trans (congrArg some (by kernel_rfl))
 f301:=Tryz.func129.trans (congrArg some (by kernel_rfl))
 f328:=Tryz.func176.trans (congrArg some (by kernel_rfl))
 f329:=Tryz.func177.trans (congrArg some (by kernel_rfl))
 f330:=Tryz.func178.trans (congrArg some (by kernel_rfl))
 f331:=Tryz.func179.trans (congrArg some (by kernel_rfl))
 f332:=Tryz.func180.trans (congrArg some (by kernel_rfl))
 f343:=Tryz.func237.trans (congrArg some (by kernel_rfl))
 t0:=Tryz.underlying0
 a0:=Tryz.isAgg0
 z0:=Tryz.sizeOf0
 v0:=Tryz.zeroValue0
 t3:=Tryz.underlying3
 a3:=Tryz.isAgg3
 z3:=Tryz.sizeOf3
 v3:=Tryz.zeroValue3
 t4:=Tryz.underlying4
 a4:=Tryz.isAgg4
 z4:=Tryz.sizeOf4
 v4:=Tryz.zeroValue4
 t5:=Tryz.underlying5
 a5:=Tryz.isAgg5
 z5:=Tryz.sizeOf5
 v5:=Tryz.zeroValue5
 t9:=Tryz.underlying9
 a9:=Tryz.isAgg9
 z9:=Tryz.sizeOf9
 v9:=Tryz.zeroValue9
 t28:=Tryz.underlying37
 a28:=Tryz.isAgg37
 z28:=Tryz.sizeOf37
 v28:=Tryz.zeroValue37
 t46:=Tryz.underlying136
 a46:=Tryz.isAgg136
 z46:=Tryz.sizeOf136
 v46:=Tryz.zeroValue136
 t51:=Tryz.underlying182
 a51:=Tryz.isAgg182
 z51:=Tryz.sizeOf182
 v51:=Tryz.zeroValue182
 t53:=Tryz.underlying184
 a53:=Tryz.isAgg184
 z53:=Tryz.sizeOf184
 v53:=Tryz.zeroValue184
 t131:=Tryz.underlying147
 a131:=Tryz.isAgg147
 z131:=Tryz.sizeOf147
 v131:=Tryz.zeroValue147
 t182:=Tryz.underlying174
 a182:=Tryz.isAgg174
 z182:=Tryz.sizeOf174
 v182:=Tryz.zeroValue174
 t183:=Tryz.underlying175
 a183:=Tryz.isAgg175
 z183:=Tryz.sizeOf175
 v183:=Tryz.zeroValue175
 t218:=Tryz.underlying222
 a218:=Tryz.isAgg222
 z218:=Tryz.sizeOf222
 v218:=Tryz.zeroValue222
 t222:=Tryz.underlying226
 a222:=Tryz.isAgg226
 z222:=Tryz.sizeOf226
 v222:=Tryz.zeroValue226
 t228:=Tryz.underlying263
 a228:=Tryz.isAgg263
 z228:=Tryz.sizeOf263
 v228:=Tryz.zeroValue263
 t229:=Tryz.underlying264
 a229:=Tryz.isAgg264
 z229:=Tryz.sizeOf264
 v229:=Tryz.zeroValue264
def QkX : Tryz.prog.underlying 206=some (.slice 5):=by kernel_rfl
def QnT : Tryz.prog.underlying 218=some (.slice 37):=by kernel_rfl
def Qoy : Tryz.prog.underlying 37=some (.slice 3):=by kernel_rfl
def Qoz : Tryz.prog.underlying 44=some (.slice 70):=by kernel_rfl
def QoA : Tryz.prog.underlying 70=some (.slice 74):=by kernel_rfl
def IG : CB Tryz.prog 3 ((V.i .i64) 0):=CB.one (v:=.int .i64 0) (by kernel_rfl)
def Qm2 : CB Tryz.prog 37 ((λx=>V.sl 1 (x.map Qb)) ([]:(L_ Int))):=CB.sl (by kernel_rfl)
def Qmb : CB Tryz.prog 4 (V.b false):=CB.one (v:=.bool false) (by kernel_rfl)
def Qpc : XI Tryz.prog 3=some [.i .i64 0]:=by kernel_rfl
def Qpd : XI Tryz.prog 5=some [.i .u8 0]:=by kernel_rfl
def Qpe : XI Tryz.prog 9=some [.s (⟨#[]⟩:ByteArray)]:=by kernel_rfl
def QoB : XI Tryz.prog 26=some [.lit (.slice none 0 0),.lit (.slice none 0 0),.lit (.slice none 0 0),.i .i64 0,.i .i64 0]:=by kernel_rfl
def QoC : XI Tryz.prog 29=some [.lit (.slice none 0 0)]:=by kernel_rfl
def QoD : XI Tryz.prog 31=some [.i .i64 0,.i .i64 0,.i .i64 0,.lit (.slice none 0 0)]:=by kernel_rfl
def Qm3 : XI Tryz.prog 37=some [.lit (.slice none 0 0)]:=by kernel_rfl
def QoE : XI Tryz.prog 41=some [.lit (.slice none 0 0),.lit (.slice none 0 0),.b false]:=by kernel_rfl
def QoF : XI Tryz.prog 44=some [.lit (.slice none 0 0)]:=by kernel_rfl
def QoG : XI Tryz.prog 49=some [.i .i64 0]:=by kernel_rfl
def QoH : XI Tryz.prog 53=some [.i .i64 0,.lit (.slice none 0 0),.lit (.slice none 0 0),.lit (.slice none 0 0)]:=by kernel_rfl
def QoI : XI Tryz.prog 55=some [.i .i64 0,.i .i64 0,.i .i64 0,.lit (.slice none 0 0),.lit (.slice none 0 0),.lit (.slice none 0 0)]:=by kernel_rfl
def QoJ : XI Tryz.prog 70=some [.lit (.slice none 0 0)]:=by kernel_rfl
def QoK : XI Tryz.prog 72=some [.s (⟨#[]⟩:ByteArray),.i .i64 0,.lit (.slice none 0 0)]:=by kernel_rfl
def QoL : XI Tryz.prog 74=some [.i .i64 0,.i .i64 0]:=by kernel_rfl
def QoM : XI Tryz.prog 87=some [.i .i64 0,.i .i64 0,.lit (.slice none 0 0)]:=by kernel_rfl
def QoN : XI Tryz.prog 90=some [.s (⟨#[]⟩:ByteArray),.i .i64 0,.i .i64 0,.i .i64 0,.lit (.slice none 0 0),.i .i64 0,.i .i64 0]:=by kernel_rfl
def QoO : XI Tryz.prog 92=some [.i .i64 0,.i .i64 0,.i .i64 0,.lit (.slice none 0 0)]:=by kernel_rfl
def QoP : XI Tryz.prog 95=some [.i .i64 0,.i .i64 0,.i .i64 0]:=by kernel_rfl
def Qm4 : XI Tryz.prog 97=some [.s (⟨#[]⟩:ByteArray),.lit (.slice none 0 0),.i .i64 0,.i .i64 0,.lit (.slice none 0 0),.i .i64 0,.i .i64 0,.lit (.slice none 0 0),.lit (.slice none 0 0),.lit (.slice none 0 0),.i .i64 0,.i .i64 0,.i .i64 0,.i .i64 0]:=by kernel_rfl
def QoQ : XI Tryz.prog 99=some [.lit (.slice none 0 0),.lit (.slice none 0 0),.lit (.slice none 0 0),.i .i64 0,.i .i64 0,.lit (.slice none 0 0),.lit (.slice none 0 0),.b false]:=by kernel_rfl
def QnU : XI Tryz.prog 103=some [.s (⟨#[]⟩:ByteArray),.i .i64 0]:=by kernel_rfl
def QkY : XI Tryz.prog 106=some [.lit (.nilFunc)]:=by kernel_rfl
def QnV : XI Tryz.prog 115=some [.lit (.slice none 0 0),.lit (.slice none 0 0),.lit (.slice none 0 0),.i .i64 0,.i .i64 0,.i .i64 0,.lit (.map none),.lit (.slice none 0 0),.lit (.slice none 0 0),.b false]:=by kernel_rfl
def QnW : XI Tryz.prog 117=some [.lit (.map none)]:=by kernel_rfl
def QnX : XI Tryz.prog 140=some [.i .i64 0,.i .i64 0]:=by kernel_rfl
def QnY : XI Tryz.prog 156=some [.lit (.slice none 0 0)]:=by kernel_rfl
def QnZ : XI Tryz.prog 160=some [.i .i64 0,.i .i64 0]:=by kernel_rfl
def Qn0 : XI Tryz.prog 163=some [.lit (.slice none 0 0),.lit (.slice none 0 0),.lit (.slice none 0 0),.i .i64 0,.i .i64 0,.lit (.slice none 0 0),.s (⟨#[]⟩:ByteArray),.lit (.slice none 0 0),.i .i64 0,.i .i64 0,.lit (.slice none 0 0),.i .i64 0,.i .i64 0,.lit (.slice none 0 0),.lit (.slice none 0 0),.lit (.slice none 0 0),.i .i64 0,.i .i64 0,.i .i64 0,.i .i64 0,.lit (.slice none 0 0)]:=by kernel_rfl
def Pi : XI Tryz.prog 188=some [.lit (.nilFunc),.i .i64 0]:=by kernel_rfl
def Qn1 : XI Tryz.prog 218=some [.lit (.slice none 0 0)]:=by kernel_rfl
def Qn2 : XI Tryz.prog 234=some [.lit (.nilFunc)]:=by kernel_rfl
def Qn3 : XI Tryz.prog 239=some [.lit (.nilFunc)]:=by kernel_rfl
def Qn4 : XI Tryz.prog 248=some [.lit (.slice none 0 0),.lit (.slice none 0 0),.i .i64 0]:=by kernel_rfl
def Qn5 : XI Tryz.prog 273=some [.lit (.nilFunc)]:=by kernel_rfl
def VU : GM:={ ag:=[(3,false),(4,false),(9,false),(22,false),(23,false),(24,false),(26,true),(27,false),(29,false),(31,true),(37,false),(38,false),(39,false),(41,true),(44,false),(49,false),(53,true),(55,true),(70,false),(72,true),(74,true),(85,false),(87,true),(88,false),(90,true),(92,true),(93,false),(94,false),(95,true),(97,true),(99,true),(103,true),(106,false),(113,false),(117,false),(118,false),(140,true),(156,false),(160,true),(163,true),(166,false),(188,true),(218,false),(234,false),(239,false),(242,false),(248,true),(273,false)],sz:=[(3,1),(4,1),(24,1),(26,5),(29,1),(31,4),(37,1),(38,1),(39,1),(41,3),(44,1),(49,1),(53,4),(55,6),(70,1),(72,3),(74,2),(87,3),(90,7),(92,4),(93,1),(95,3),(97,14),(99,8),(103,2),(117,1),(140,2),(156,1),(160,2),(163,21),(188,2),(218,1),(234,1),(239,1),(248,3),(273,1)],fo:=[(26,[0,1,2,3,4]),(31,[0,1,2,3]),(41,[0,1,2]),(53,[0,1,2,3]),(55,[0,1,2]),(72,[0,1,2]),(87,[0,1,2]),(90,[0,1,2,3,4,5,6]),(92,[0,1]),(97,[0,1,2,5,6,7,8,9,10,11]),(99,[0,5]),(103,[0,1]),(115,[0,5,6,7]),(160,[0,1]),(163,[0,5,6,20]),(188,[0,1]),(248,[0,1,2])],sp:=[(26,[(0,1),(1,1),(2,1),(3,1),(4,1)]),(31,[(0,1),(1,1),(2,1),(3,1)]),(41,[(0,1),(1,1),(2,1)]),(53,[(0,1),(1,1),(2,1),(3,1)]),(55,[(0,1),(1,1),(2,4)]),(72,[(0,1),(1,1),(2,1)]),(87,[(0,1),(1,1),(2,1)]),(90,[(0,1),(1,1),(2,1),(3,1),(4,1),(5,1),(6,1)]),(92,[(0,1),(1,3)]),(97,[(0,1),(1,1),(2,3),(5,1),(6,1),(7,1),(8,1),(9,1),(10,1),(11,3)]),(99,[(0,5),(5,3)]),(115,[(0,5),(5,1),(6,1),(7,3)]),(140,[(0,1),(1,1)]),(160,[(0,1),(1,1)]),(163,[(0,5),(5,1),(6,14),(20,1)]),(188,[(0,1),(1,1)]),(248,[(0,1),(1,1),(2,1)])],es:=[(22,(90,7,80)),(23,(72,3,48)),(24,(97,14,200)),(29,(53,4,80)),(37,(3,1,8)),(38,(44,1,24)),(39,(55,6,96)),(44,(70,1,24)),(70,(74,2,16)),(85,(87,3,40)),(88,(9,1,16)),(93,(92,4,48)),(94,(103,2,24)),(107,(106,1,8)),(156,(160,2,16)),(206,(5,1,1)),(218,(37,1,24)),(228,(188,2,16)),(259,(3,1,8))],ar:=[(74,(2,1)),(95,(3,1))],zv:=[(3,[.i .i64 0]),(5,[.i .u8 0]),(9,[.s (⟨#[]⟩:ByteArray)]),(26,[.lit (.slice none 0 0),.lit (.slice none 0 0),.lit (.slice none 0 0),.i .i64 0,.i .i64 0]),(29,[.lit (.slice none 0 0)]),(31,[.i .i64 0,.i .i64 0,.i .i64 0,.lit (.slice none 0 0)]),(37,[.lit (.slice none 0 0)]),(41,[.lit (.slice none 0 0),.lit (.slice none 0 0),.b false]),(44,[.lit (.slice none 0 0)]),(49,[.i .i64 0]),(53,[.i .i64 0,.lit (.slice none 0 0),.lit (.slice none 0 0),.lit (.slice none 0 0)]),(55,[.i .i64 0,.i .i64 0,.i .i64 0,.lit (.slice none 0 0),.lit (.slice none 0 0),.lit (.slice none 0 0)]),(70,[.lit (.slice none 0 0)]),(72,[.s (⟨#[]⟩:ByteArray),.i .i64 0,.lit (.slice none 0 0)]),(74,[.i .i64 0,.i .i64 0]),(87,[.i .i64 0,.i .i64 0,.lit (.slice none 0 0)]),(90,[.s (⟨#[]⟩:ByteArray),.i .i64 0,.i .i64 0,.i .i64 0,.lit (.slice none 0 0),.i .i64 0,.i .i64 0]),(92,[.i .i64 0,.i .i64 0,.i .i64 0,.lit (.slice none 0 0)]),(95,[.i .i64 0,.i .i64 0,.i .i64 0]),(97,[.s (⟨#[]⟩:ByteArray),.lit (.slice none 0 0),.i .i64 0,.i .i64 0,.lit (.slice none 0 0),.i .i64 0,.i .i64 0,.lit (.slice none 0 0),.lit (.slice none 0 0),.lit (.slice none 0 0),.i .i64 0,.i .i64 0,.i .i64 0,.i .i64 0]),(99,[.lit (.slice none 0 0),.lit (.slice none 0 0),.lit (.slice none 0 0),.i .i64 0,.i .i64 0,.lit (.slice none 0 0),.lit (.slice none 0 0),.b false]),(103,[.s (⟨#[]⟩:ByteArray),.i .i64 0]),(106,[.lit (.nilFunc)]),(115,[.lit (.slice none 0 0),.lit (.slice none 0 0),.lit (.slice none 0 0),.i .i64 0,.i .i64 0,.i .i64 0,.lit (.map none),.lit (.slice none 0 0),.lit (.slice none 0 0),.b false]),(117,[.lit (.map none)]),(140,[.i .i64 0,.i .i64 0]),(156,[.lit (.slice none 0 0)]),(160,[.i .i64 0,.i .i64 0]),(163,[.lit (.slice none 0 0),.lit (.slice none 0 0),.lit (.slice none 0 0),.i .i64 0,.i .i64 0,.lit (.slice none 0 0),.s (⟨#[]⟩:ByteArray),.lit (.slice none 0 0),.i .i64 0,.i .i64 0,.lit (.slice none 0 0),.i .i64 0,.i .i64 0,.lit (.slice none 0 0),.lit (.slice none 0 0),.lit (.slice none 0 0),.i .i64 0,.i .i64 0,.i .i64 0,.i .i64 0,.lit (.slice none 0 0)]),(188,[.lit (.nilFunc),.i .i64 0]),(218,[.lit (.slice none 0 0)]),(234,[.lit (.nilFunc)]),(239,[.lit (.nilFunc)]),(248,[.lit (.slice none 0 0),.lit (.slice none 0 0),.i .i64 0]),(273,[.lit (.nilFunc)])],sb:=[9],bo:=[4],cc:=[158,160],en:=[6,7,8,11,12,13,14,15,16,17,18,19,20,21,22,23,24,25,26,30,31,32,33,34,35,36,37,38,39,40,41,42,43,44,45,46,47,48,49,50,51,52,60,61,62,63,64,65,66,67,68,69,70,71,72,73,74,75,76,77,78,81,82,83,84,85,86,87,88,89,103,104,105,106,107,108,109,110,111,112,113,114,115,116,117,118,119,120,132,133,134,135,136,137,138,139,140,141,142,143,144,145,146,147,148,149,160,161,162,163,164,165,166,167,168,169,170,171,172,173,174,175,182,183,184,185,186,187,188,189,190,191,192,193,194,195,196,197,198,199,200,201,202,203,204,205,206,207,208,209,210,211,212,213,214,215,216,217,218,219,228,229,230,231,232,233,234,235,236,238,239,240,241,242,243,244,245,246,247,248,249,250,251,252,253,254,255,256,257,258,259,260,261,262,263,264,277,278,279,280,281,282,283,284,285,286,287,288,289,290,291,292,293,294,300,301,302,303,304,305,306,307,308,309,310,311,318,319,329,330,331,332,333,335,336,356,357,358,359] }
def Qt : Db Tryz.prog VU:=GM.ok (by kernel_rfl) (YZ.2 ⟨Qpc,YZ.2 ⟨Qpd,YZ.2 ⟨Qpe,YZ.2 ⟨QoB,YZ.2 ⟨QoC,YZ.2 ⟨QoD,YZ.2 ⟨Qm3,YZ.2 ⟨QoE,YZ.2 ⟨QoF,YZ.2 ⟨QoG,YZ.2 ⟨QoH,YZ.2 ⟨QoI,YZ.2 ⟨QoJ,YZ.2 ⟨QoK,YZ.2 ⟨QoL,YZ.2 ⟨QoM,YZ.2 ⟨QoN,YZ.2 ⟨QoO,YZ.2 ⟨QoP,YZ.2 ⟨Qm4,YZ.2 ⟨QoQ,YZ.2 ⟨QnU,YZ.2 ⟨QkY,YZ.2 ⟨QnV,YZ.2 ⟨QnW,YZ.2 ⟨QnX,YZ.2 ⟨QnY,YZ.2 ⟨QnZ,YZ.2 ⟨Qn0,YZ.2 ⟨Pi,YZ.2 ⟨Qn1,YZ.2 ⟨Qn2,YZ.2 ⟨Qn3,YZ.2 ⟨Qn4,YZ.2 ⟨Qn5,λ_ h=>(by cases h)⟩⟩⟩⟩⟩⟩⟩⟩⟩⟩⟩⟩⟩⟩⟩⟩⟩⟩⟩⟩⟩⟩⟩⟩⟩⟩⟩⟩⟩⟩⟩⟩⟩⟩⟩)
def Qo {C:Xv}{Q:Exit->St->Prop}{n:Nat}{pt pt1:Pt}{ks D:L_ Fr}{σ σ1:St}{φ:Prop}(hC:Jo Tryz.prog C n)(ds:L_ UW)(e:Vm.go Tryz.prog C VU n ds pt ks σ True=some ⟨pt1,D,σ1,φ⟩)(hφ:φ)(h:AK Tryz.prog C Q pt1 D σ1):AK Tryz.prog C Q pt ks σ:=AK.go Qt hC ds e hφ h
abbrev QBg := L_ (Int×Int)
abbrev QMk := L_ QBg
abbrev LI_ := L_ Int
abbrev QLL := L_ (L_ Int)
abbrev QSB := L_ (ByteArray×Bool)
def U : True:=trivial
def an_ {a b:Prop}(x:a)(y:b):a/\b:=⟨x,y⟩
def ex_ {α:Sort _}{p:α->Prop}(w:α)(h:p w):∃x,p x:=⟨w,h⟩
end Go.Proofs
namespace Go.Vm
open Go Go.RowKit
noncomputable abbrev UW.K (a b:L_ Nat):UW:=.keep a b
noncomputable abbrev UW.S (a:Nat)(b:V):UW:=.say a b
noncomputable abbrev UW.O (a:Nat)(b:Ob):UW:=.sayO a b
noncomputable abbrev UW.T:UW:=.br true
noncomputable abbrev UW.F:UW:=.br false
noncomputable abbrev Dw.N:Dw:=.a .no none false
noncomputable abbrev Dw.B (h:Wc):Dw:=.a h none false
noncomputable abbrev Dw.E (v:V):Dw:=.a .no (some ([],v)) false
noncomputable abbrev V.Y:V:=.lit (.slice none 0 0)
noncomputable abbrev V.I (n:Int):V:=.i .i64 n
noncomputable abbrev V.L (n:Nat):V:=.loc n 0 0
noncomputable abbrev UW.A (x:L_ V):UW:=.v .no [] (.agg x)
noncomputable instance dn_ (n:Nat):OfNat UW n:=⟨.n n⟩
noncomputable abbrev Wc.C1 (v:V):Wc:=.c false [.d] v
noncomputable abbrev Wc.C2 (v:V):Wc:=.c false [.d,.d] v
noncomputable abbrev Wc.C3 (v:V):Wc:=.c false [.d,.d,.d] v
noncomputable abbrev Wc.C4 (v:V):Wc:=.c false [.d,.d,.d,.d] v
noncomputable abbrev Wc.C5 (v:V):Wc:=.c false [.d,.d,.d,.d,.d] v
noncomputable abbrev Wc.C6 (v:V):Wc:=.c false [.d,.d,.d,.d,.d,.d] v
noncomputable abbrev Wc.C7 (v:V):Wc:=.c false [.d,.d,.d,.d,.d,.d,.d] v
noncomputable abbrev Wc.C8 (v:V):Wc:=.c false [.d,.d,.d,.d,.d,.d,.d,.d] v
end Go.Vm
namespace Go.Proofs
open Go Go.RowKit Go.Vm Go.Proofs.Tryz
def bg_ {α:Type}{c:Bool}{x y:O_ α}{r:α}{G:Prop}(h:(bif c then x else y)=some r)(f:c=true->x=some r->G)(g:c=false->y=some r->G):G:=by
 cases c
 ·exact g rfl h
 exact f rfl h
noncomputable abbrev lk_ (n:Nat):Nat×V:=(n,.loc n 0 0)
def A {h:Prop}(D:h):True/\h:=⟨trivial,D⟩
def a2_ {h D:Prop}(h0:h)(h1:D):(True/\h)/\D:=⟨⟨trivial,h0⟩,h1⟩
def a3_ {h D x2:Prop}(h0:h)(h1:D)(h2:x2):((True/\h)/\D)/\x2:=⟨⟨⟨trivial,h0⟩,h1⟩,h2⟩
def a4_ {h D x2 x3:Prop}(h0:h)(h1:D)(h2:x2)(h3:x3):(((True/\h)/\D)/\x2)/\x3:=⟨⟨⟨⟨trivial,h0⟩,h1⟩,h2⟩,h3⟩
def a5_ {h D x2 x3 x4:Prop}(h0:h)(h1:D)(h2:x2)(h3:x3)(h4:x4):((((True/\h)/\D)/\x2)/\x3)/\x4:=⟨⟨⟨⟨⟨trivial,h0⟩,h1⟩,h2⟩,h3⟩,h4⟩
def a6_ {h D x2 x3 x4 x5:Prop}(h0:h)(h1:D)(h2:x2)(h3:x3)(h4:x4)(h5:x5):(((((True/\h)/\D)/\x2)/\x3)/\x4)/\x5:=⟨⟨⟨⟨⟨⟨trivial,h0⟩,h1⟩,h2⟩,h3⟩,h4⟩,h5⟩
def a7_ {h D x2 x3 x4 x5 x6:Prop}(h0:h)(h1:D)(h2:x2)(h3:x3)(h4:x4)(h5:x5)(h6:x6):((((((True/\h)/\D)/\x2)/\x3)/\x4)/\x5)/\x6:=⟨⟨⟨⟨⟨⟨⟨trivial,h0⟩,h1⟩,h2⟩,h3⟩,h4⟩,h5⟩,h6⟩
def a8_ {h D x2 x3 x4 x5 x6 x7:Prop}(h0:h)(h1:D)(h2:x2)(h3:x3)(h4:x4)(h5:x5)(h6:x6)(h7:x7):(((((((True/\h)/\D)/\x2)/\x3)/\x4)/\x5)/\x6)/\x7:=⟨⟨⟨⟨⟨⟨⟨⟨trivial,h0⟩,h1⟩,h2⟩,h3⟩,h4⟩,h5⟩,h6⟩,h7⟩
def a9_ {h D x2 x3 x4 x5 x6 x7 x8:Prop}(h0:h)(h1:D)(h2:x2)(h3:x3)(h4:x4)(h5:x5)(h6:x6)(h7:x7)(h8:x8):((((((((True/\h)/\D)/\x2)/\x3)/\x4)/\x5)/\x6)/\x7)/\x8:=⟨⟨⟨⟨⟨⟨⟨⟨⟨trivial,h0⟩,h1⟩,h2⟩,h3⟩,h4⟩,h5⟩,h6⟩,h7⟩,h8⟩
def aB_ {x0 x1 x2 x3 x4 x5 x6 x7 x8 x9 h:Prop}(h0:x0)(h1:x1)(h2:x2)(h3:x3)(h4:x4)(h5:x5)(h6:x6)(h7:x7)(h8:x8)(h9:x9)(D:h):((((((((((True/\x0)/\x1)/\x2)/\x3)/\x4)/\x5)/\x6)/\x7)/\x8)/\x9)/\h:=⟨⟨⟨⟨⟨⟨⟨⟨⟨⟨⟨trivial,h0⟩,h1⟩,h2⟩,h3⟩,h4⟩,h5⟩,h6⟩,h7⟩,h8⟩,h9⟩,D⟩
def aC_ {x0 x1 x2 x3 x4 x5 x6 x7 x8 x9 h D:Prop}(h0:x0)(h1:x1)(h2:x2)(h3:x3)(h4:x4)(h5:x5)(h6:x6)(h7:x7)(h8:x8)(h9:x9)(h10:h)(h11:D):(((((((((((True/\x0)/\x1)/\x2)/\x3)/\x4)/\x5)/\x6)/\x7)/\x8)/\x9)/\h)/\D:=⟨⟨⟨⟨⟨⟨⟨⟨⟨⟨⟨⟨trivial,h0⟩,h1⟩,h2⟩,h3⟩,h4⟩,h5⟩,h6⟩,h7⟩,h8⟩,h9⟩,h10⟩,h11⟩
def r1_ {α:Type}{a0:α}:a0=a0/\True:=⟨rfl,trivial⟩
def r2_ {α:Type}{a0 h:α}:a0=a0/\h=h/\True:=⟨rfl,rfl,trivial⟩
def r3_ {α:Type}{a0 h D:α}:a0=a0/\h=h/\D=D/\True:=⟨rfl,rfl,rfl,trivial⟩
def r4_ {α:Type}{a0 h D a3:α}:a0=a0/\h=h/\D=D/\a3=a3/\True:=⟨rfl,rfl,rfl,rfl,trivial⟩
def r5_ {α:Type}{a0 h D a3 a4:α}:a0=a0/\h=h/\D=D/\a3=a3/\a4=a4/\True:=⟨rfl,rfl,rfl,rfl,rfl,trivial⟩
def r6_ {α:Type}{a0 h D a3 a4 a5:α}:a0=a0/\h=h/\D=D/\a3=a3/\a4=a4/\a5=a5/\True:=⟨rfl,rfl,rfl,rfl,rfl,rfl,trivial⟩
def rB_ {α:Type}{a0 D a2 a3 a4 a5 a6 a7 a8 a9 h:α}:a0=a0/\D=D/\a2=a2/\a3=a3/\a4=a4/\a5=a5/\a6=a6/\a7=a7/\a8=a8/\a9=a9/\h=h/\True:=⟨rfl,rfl,rfl,rfl,rfl,rfl,rfl,rfl,rfl,rfl,rfl,trivial⟩
def rD_ {α:Type}{a0 a1 a2 a3 a4 a5 a6 a7 a8 a9 h D a12:α}:a0=a0/\a1=a1/\a2=a2/\a3=a3/\a4=a4/\a5=a5/\a6=a6/\a7=a7/\a8=a8/\a9=a9/\h=h/\D=D/\a12=a12/\True:=⟨rfl,rfl,rfl,rfl,rfl,rfl,rfl,rfl,rfl,rfl,rfl,rfl,rfl,trivial⟩
def rF_ {α:Type}{a0 a1 a2 a3 a4 a5 a6 a7 a8 a9 h D a12 a13 a14:α}:a0=a0/\a1=a1/\a2=a2/\a3=a3/\a4=a4/\a5=a5/\a6=a6/\a7=a7/\a8=a8/\a9=a9/\h=h/\D=D/\a12=a12/\a13=a13/\a14=a14/\True:=⟨rfl,rfl,rfl,rfl,rfl,rfl,rfl,rfl,rfl,rfl,rfl,rfl,rfl,rfl,rfl,trivial⟩
def wk_ {f:FuncId}{fn:Func}{c:Code}{args:L_ V}{hs:L_ (Nat×Ob)}{D:V->L_ (Nat×Ob)->Prop}(n:Nat)(hf:Tryz.prog.funcs[f]? = some fn)(h:∀C:Xv,Jo Tryz.prog C n->AK Tryz.prog C (Vl Tryz.prog fn.results.toList D) (.c c) [] ⟨LX 0 args,hs⟩)(hb:fn.body=some c:=by rfl)(hn:fn.ntmps=n:=by rfl)(hle:(Nat.ble args.length n&&Nat.ble n 618)=true:=by rfl):QU Tryz.prog f args hs D:=QU.walk n hf hb hn hle h
def bq_ {C:Xv}{Q:Exit->St->Prop}{n:Nat}{pt p1 p2:Pt}{ks k1 k2:L_ Fr}{σ s1 s2:St}{α:Type}{c:Bool}{x y:O_ α}{r:α}(hC:Jo Tryz.prog C n)(h:(bif c then x else y)=some r)(D:L_ UW)(e:Vm.go Tryz.prog C VU n D pt ks σ True=some ⟨p1,k1,s1,True/\c=true⟩)(f:c=true->x=some r->AK Tryz.prog C Q p1 k1 s1)(dt:L_ UW)(e2:Vm.go Tryz.prog C VU n dt pt ks σ True=some ⟨p2,k2,s2,True/\c=false⟩)(g:c=false->y=some r->AK Tryz.prog C Q p2 k2 s2):AK Tryz.prog C Q pt ks σ:=by
 cases c
 ·exact AK.go Qt hC dt e2 ⟨trivial,rfl⟩ (g rfl h)
 exact AK.go Qt hC D e ⟨trivial,rfl⟩ (f rfl h)
def mt_ {C:Xv}{Q:Exit->St->Prop}{ks:L_ Fr}{σ:St}:AK Tryz.prog C Q (.x .normal) (.cut (λs=>s=σ)::ks) σ:=AK.met rfl
def cb_ {a b:Bool}(h:a=b):V.b a=V.b b:=congrArg V.b h
def tc_ {a b:Bool}(h:a=b):True/\V.b a=V.b b:=⟨trivial,congrArg V.b h⟩
def Qig : Exit->Bool
 | .normal=>true
 | .ret=>true
 | _=>false
def tg_ {C:Xv}{Q:Exit->St->Prop}{n:Nat}{pt pt1:Pt}{ks D:L_ Fr}{σ σ1:St}(hC:Jo Tryz.prog C n)(ds:L_ UW)(h:AK Tryz.prog C Q pt1 D σ1)(e:Vm.go Tryz.prog C VU n ds pt ks σ True=some ⟨pt1,D,σ1,True⟩:=by rfl):AK Tryz.prog C Q pt ks σ:=AK.go Qt hC ds e trivial h
def RX {c:Bool}{β:Type}{f:Unit->O_ β}{r:β}(h:(chk c).bind f=some r):c=true/\f ()=some r:=by
 obtain⟨_,k,h⟩:=Qv h
 exact⟨Qf4 k,h⟩
def Z {α:Sort _}{a:α}:a=a:=rfl
def B {α β:Type}{a:O_ α}{k:α->O_ β}{r:β}{G:Prop}(h:a.bind k=some r)(f:∀x,a=some x->k x=some r->G):G:=by
 obtain⟨x,D,h2⟩:=Qv h
 exact f x D h2
def X {c:Bool}{β:Type}{k:Unit->O_ β}{r:β}{G:Prop}(h:(chk c).bind k=some r)(f:c=true->k ()=some r->G):G:=by
 obtain⟨_,D,h2⟩:=Qv h
 exact f (Qf4 D) h2
def I {α:Type}{c:Bool}{x y:O_ α}{r:α}{G:Prop}(h:(bif c then x else y)=some r)(f:c=true->x=some r->G)(g:c=false->y=some r->G):G:=by
 cases c
 ·exact g rfl h
 exact f rfl h
def bO_ (c:Bool){G:Prop}(f:c=true->G)(g:c=false->G):G:=by
 cases c
 ·exact g rfl
 exact f rfl
def toS (σ s:St):O_ St:=match Gj σ.fr (s.fr.map Prod.fst)with
 | some a=>match Gj σ.hp (s.hp.map Prod.fst)with
  | some b=>bif St.closed ⟨a,b⟩then some ⟨a,b⟩else none
  | none=>none
 | none=>none
def Qal {P:Program}{C:Xv}{Q:Exit->St->Prop}{pt:Pt}{ks:L_ Fr}{σ s:St}(e:toS σ s=some s)(k:AK P C Q pt ks s):AK P C Q pt ks σ:=by
 unfold toS at e
 split at e
 ·rename_i a ha
  split at e
  ·rename_i b hb
   replace e:=XH e
   obtain⟨hc,e⟩:=e
   cases e
   exact AK.weaken (λh w D=>R.to D (Qia (Od ha)) (Qib (Od hb)) hc) k
  cases e
 cases e
section
variable {P:Program}{C:Xv}{Q:Exit->St->Prop}{ks:L_ Fr}{σ:St}{pt:Pt}
def M {s0:St}(e:toS σ s0=some s0):AK P C Q (.x .normal) (.cut (λs=>s=s0)::ks) σ:=Qal e (AK.met rfl)
def Y {c:Code}(s0:St)(f:AK P C Q (.c c) (.cut (λs=>s=s0)::ks) σ)(g:AK P C Q (.x .normal) ks s0):AK P C Q (.c c) ks σ:=AK.meetX _ f λ_ e=>e▸g
def me_ {β:Type}{E:β->St}{K:β->Prop}{v:β}(h:K v)(e:toS σ (E v)=some (E v)):AK P C Q (.x .normal) (.cut (λs=>∃v,s=E v/\K v)::ks) σ:=Qal e (AK.met ⟨v,rfl,h⟩)
def mE_ {β:Type}{x y:Code}(E:β->St)(K:β->Prop)(f:AK P C Q (.c x) (.cut (λs=>∃v,s=E v/\K v)::ks) σ)(g:∀v,K v->AK P C Q (.c y) ks (E v)):AK P C Q (.c (.seq x y)) ks σ:=AK.meet _ f λ_ ⟨v,e,h⟩=>e▸g v h
def rS {τ ρ:Type}(E:τ->St)(X:ρ->Exit×St)(o:τ⊕ρ):Exit->St->Prop:=Qh0 (λt s=>s=E t) (λq e s=>e=(X q).1/\s=(X q).2) o
def lp_ {τ ρ α:Type}{body:τ->O_ (τ⊕ρ)}{s0:τ}{k:ρ->O_ α}{r:α}{c:Code}(h:(QD body s0).bind k=some r)(E:τ->St)(X:ρ->Exit×St)(e:toS σ (E s0)=some (E s0))
  (f:∀t o,body t=some o->AK P C (rS E X o) (.c c) [] (E t)) (g:∀q,k q=some r->AK P C Q (.x (X q).1) ks (X q).2):AK P C Q (.c (.loop c)) ks σ:=by
 obtain⟨q,h1,h2⟩:=Qv h
 refine Qal e (AK.loop (λt s=>s=E t) (λq e s=>e=(X q).1/\s=(X q).2) h1 rfl (λt o s D hb=>D▸f t o hb) λe s D=>?_)
 obtain⟨rfl,rfl⟩:=D
 exact g q h2
def lq_ {τ ρ ρ' α:Type}{body:τ->O_ (τ⊕(ρ⊕ρ'))}{s0:τ}{k:ρ⊕ρ'->O_ α}{r:α}{c:Code}(h:(QD body s0).bind k=some r)(E:τ->St)(X:ρ->Exit×St)(Y:ρ'->Exit×St)(e:toS σ (E s0)=some (E s0))
  (f:∀t o,body t=some o->AK P C (rS E (Sum.elim X Y) o) (.c c) [] (E t)) (g:∀q,k (.inl q)=some r->AK P C Q (.x (X q).1) ks (X q).2) (D:∀q,k (.inr q)=some r->AK P C Q (.x (Y q).1) ks (Y q).2):AK P C Q (.c (.loop c)) ks σ:=
 lp_ h E (Sum.elim X Y) e f λq=>match q with
  | .inl q=>g q
  | .inr q=>D q
def rN_ {τ ρ:Type}{E:τ->St}{X:ρ->Exit×St}{o:τ⊕ρ}{t:τ}(h:some (.inl t)=some o)(e:toS σ (E t)=some (E t)):AK P C (rS E X o) (.x .normal) [] σ:=by
 cases h
 exact Qal e (AK.done ⟨t,rfl,rfl⟩)
def rX_ {τ ρ:Type}{E:τ->St}{X:ρ->Exit×St}{o:τ⊕ρ}{q:ρ}{i:Nat}(h:some (.inr q)=some o)(e:((X q).1,toS σ (X q).2)=(.exit i,some (X q).2)):AK P C (rS E X o) (.x (.exit i)) [] σ:=by
 cases h
 exact Qal (congrArg Prod.snd e) (AK.done ⟨q,rfl,(congrArg Prod.fst e).symm,rfl⟩)
def rR_ {τ ρ:Type}{E:τ->St}{X:ρ->Exit×St}{o:τ⊕ρ}{q:ρ}(h:some (.inr q)=some o)(e:((X q).1,toS σ (X q).2)=(.ret,some (X q).2)):AK P C (rS E X o) (.x .ret) [] σ:=by
 cases h
 exact Qal (congrArg Prod.snd e) (AK.done ⟨q,rfl,(congrArg Prod.fst e).symm,rfl⟩)
def mu_ {s0:St}{K:Prop}(h:K)(e:toS σ s0=some s0):AK P C Q (.x .normal) (.cut (λs=>s=s0/\K)::ks) σ:=Qal e (AK.met ⟨rfl,h⟩)
def mU_ {x y:Code}(s0:St)(K:Prop)(f:AK P C Q (.c x) (.cut (λs=>s=s0/\K)::ks) σ)(g:K->AK P C Q (.c y) ks s0):AK P C Q (.c (.seq x y)) ks σ:=AK.meet _ f λ_ ⟨e,h⟩=>e▸g h
def mf_ {β γ:Type}{E:β->γ->St}{K:β->γ->Prop}{v:β}{u:γ}(h:K v u)(e:toS σ (E v u)=some (E v u)):AK P C Q (.x .normal) (.cut (λs=>∃v u,s=E v u/\K v u)::ks) σ:=Qal e (AK.met ⟨v,u,rfl,h⟩)
def mF_ {β γ:Type}{x y:Code}(E:β->γ->St)(K:β->γ->Prop)(f:AK P C Q (.c x) (.cut (λs=>∃v u,s=E v u/\K v u)::ks) σ)(g:∀v u,K v u->AK P C Q (.c y) ks (E v u)):AK P C Q (.c (.seq x y)) ks σ:=AK.meet _ f λ_ ⟨v,u,e,h⟩=>e▸g v u h
def cS {β:Type}(E:β->St)(v:β)(s:St):Prop:=s=E v
def mq_ {β:Type}{E:β->St}{v u:β}(h:some v=some u)(e:toS σ (E v)=some (E v)):AK P C Q (.x .normal) (.cut (cS E u)::ks) σ:=by
 cases h
 exact Qal e (AK.met rfl)
def mV_ {β α:Type}{c:Code}{a:O_ β}{k:β->O_ α}{r:α}(h:a.bind k=some r)(E:β->St)(f:∀x,a=some x->AK P C Q (.c c) (.cut (cS E x)::ks) σ)(g:∀x,k x=some r->AK P C Q (.x .normal) ks (E x)):AK P C Q (.c c) ks σ:=by
 obtain⟨x,D,h2⟩:=Qv h
 exact AK.meetX _ (f x D) λs (e:s=E x)=>e▸g x h2
end
def no_ {α:Type}(_:α):L_ (Nat×Ob):=[]
def CT {α:Type}(f:Nat)(us:L_ V)(h:L_ (Nat×Ob))(o:O_ α)(V:α->V)(O:α->L_ (Nat×Ob)):Prop:=∀r,o=some r->QU Tryz.prog f us h (Gives (V r) (O r))
def QjO {α:Type}(h:L_ ResultVar)(V:α->V)(O:α->L_ (Nat×Ob))(r:α):Exit->St->Prop:=Vl Tryz.prog h (Gives (V r) (O r))
def W {α:Type}{f:FuncId}{fn:Func}{c:Code}{args:L_ V}{hs:L_ (Nat×Ob)}{o:O_ α}{V:α->V}{O:α->L_ (Nat×Ob)}(n:Nat)(hf:Tryz.prog.funcs[f]? = some fn)(D:(fn.body,fn.ntmps,Nat.ble args.length n&&Nat.ble n 618)=(some c,n,true))(h:∀C:Xv,Jo Tryz.prog C n->∀r,o=some r->AK Tryz.prog C (QjO fn.results.toList V O r) (.c c) [] ⟨LX 0 args,hs⟩):CT f args hs o V O:=λ_ e=>QU.walk n hf (congrArg (λx=>x.1) D) (congrArg (λx=>x.2.1) D) (congrArg (λx=>x.2.2) D) λC hC=>h C hC _ e
section
variable {α:Type}{a q:α}{C:Xv}{t u x:Nat}{O:α->L_ (Nat×Ob)}{σ:St}{e:Exit}
def E {r:α->V}(h:some a=some q)(k:(Qig e,Go.Vm.look σ.fr t)=(true,some (r a)))(hs:Eu σ.hp (O a)):AK Tryz.prog C (QjO [.tmp t] r O q) (.x e) [] σ:=by
 have he:=congrArg Prod.fst k
 have D:=congrArg Prod.snd k
 cases h
 cases e<;>first | exact AK.done ⟨[_],⟨D,trivial⟩,gives hs⟩|cases he
def F {v w:V}{r:α->V}(h:some a=some q)(k:(Qig e,Go.Vm.look σ.fr t,Go.Vm.look σ.fr u)=(true,some v,some w))(h4:r a=.tup [v,w])(hs:Eu σ.hp (O a)):AK Tryz.prog C (QjO [.tmp t,.tmp u] r O q) (.x e) [] σ:=by
 have he:=congrArg (λx=>x.1) k
 have D:=congrArg (λx=>x.2.1) k
 have h3:=congrArg (λx=>x.2.2) k
 cases h
 cases e<;>first | exact AK.done ⟨[_,_],⟨D,h3,trivial⟩,h4▸gives hs⟩|cases he
def e3_ {v w z:V}{r:α->V}(h:some a=some q)(k:(Qig e,Go.Vm.look σ.fr t,Go.Vm.look σ.fr u,Go.Vm.look σ.fr x)=(true,some v,some w,some z))(h4:r a=.tup [v,w,z])(hs:Eu σ.hp (O a)):AK Tryz.prog C (QjO [.tmp t,.tmp u,.tmp x] r O q) (.x e) [] σ:=by
 have he:=congrArg (λx=>x.1) k
 have D:=congrArg (λx=>x.2.1) k
 have h3:=congrArg (λx=>x.2.2.1) k
 have h5:=congrArg (λx=>x.2.2.2) k
 cases h
 cases e<;>first | exact AK.done ⟨[_,_,_],⟨D,h3,h5,trivial⟩,h4▸gives hs⟩|cases he
end
def G {C:Xv}{Q:Exit->St->Prop}{n:Nat}{pt pt1:Pt}{ks D:L_ Fr}{σ σ1:St}{φ:Prop}(hC:Jo Tryz.prog C n)(ds:L_ UW)(e:Vm.go Tryz.prog C VU n ds pt ks σ True=some ⟨pt1,D,σ1,φ⟩)(hφ:φ)(h:AK Tryz.prog C Q pt1 D σ1):AK Tryz.prog C Q pt ks σ:=AK.go Qt hC ds e hφ h
def H {C:Xv}{Q:Exit->St->Prop}{n:Nat}{pt pt1:Pt}{ks D:L_ Fr}{σ σ1:St}(hC:Jo Tryz.prog C n)(ds:L_ UW)(e:Vm.go Tryz.prog C VU n ds pt ks σ True=some ⟨pt1,D,σ1,True⟩)(h:AK Tryz.prog C Q pt1 D σ1):AK Tryz.prog C Q pt ks σ:=AK.go Qt hC ds e trivial h
def J {C:Xv}{Q:Exit->St->Prop}{n:Nat}{pt pt1:Pt}{ks D:L_ Fr}{σ σ1:St}{x:Prop}(hC:Jo Tryz.prog C n)(ds:L_ UW)(e:Vm.go Tryz.prog C VU n ds pt ks σ True=some ⟨pt1,D,σ1,True/\x⟩)(a:x)(h:AK Tryz.prog C Q pt1 D σ1):AK Tryz.prog C Q pt ks σ:=G hC ds e ⟨trivial,a⟩ h
def K {C:Xv}{Q:Exit->St->Prop}{n:Nat}{pt pt1:Pt}{ks D:L_ Fr}{σ σ1:St}{x y:Prop}(hC:Jo Tryz.prog C n)(ds:L_ UW)(e:Vm.go Tryz.prog C VU n ds pt ks σ True=some ⟨pt1,D,σ1,(True/\x)/\y⟩)(a:x)(b:y)(h:AK Tryz.prog C Q pt1 D σ1):AK Tryz.prog C Q pt ks σ:=G hC ds e ⟨⟨trivial,a⟩,b⟩ h
def g3_ {C:Xv}{Q:Exit->St->Prop}{n:Nat}{pt pt1:Pt}{ks D:L_ Fr}{σ σ1:St}{x y z:Prop}(hC:Jo Tryz.prog C n)(ds:L_ UW)(e:Vm.go Tryz.prog C VU n ds pt ks σ True=some ⟨pt1,D,σ1,((True/\x)/\y)/\z⟩)(a:x)(b:y)(c:z)(h:AK Tryz.prog C Q pt1 D σ1):AK Tryz.prog C Q pt ks σ:=G hC ds e ⟨⟨⟨trivial,a⟩,b⟩,c⟩ h
def g4_ {C:Xv}{Q:Exit->St->Prop}{n:Nat}{pt pt1:Pt}{ks D:L_ Fr}{σ σ1:St}{x y z u:Prop}(hC:Jo Tryz.prog C n)(ds:L_ UW)(e:Vm.go Tryz.prog C VU n ds pt ks σ True=some ⟨pt1,D,σ1,(((True/\x)/\y)/\z)/\u⟩)(a:x)(b:y)(c:z)(d:u)(h:AK Tryz.prog C Q pt1 D σ1):AK Tryz.prog C Q pt ks σ:=G hC ds e ⟨⟨⟨⟨trivial,a⟩,b⟩,c⟩,d⟩ h
def L {C:Xv}{Q:Exit->St->Prop}{n:Nat}{pt pt1:Pt}{ks D:L_ Fr}{σ σ1:St}{x y:Bool}(hC:Jo Tryz.prog C n)(ds:L_ UW)(e:Vm.go Tryz.prog C VU n ds pt ks σ True=some ⟨pt1,D,σ1,True/\V.b x=V.b y⟩)(a:x=y)(h:AK Tryz.prog C Q pt1 D σ1):AK Tryz.prog C Q pt ks σ:=G hC ds e ⟨trivial,congrArg V.b a⟩ h
def dr_ {id n:Nat}{C:Xv}{Q:Exit->St->Prop}{ops:Array Oper}{ks:L_ Fr}{base:St}{sf fr:L_ (Nat×V)}{sh hp:L_ (Nat×Ob)}{ri:L_ (It×Nat)}{ms:L_ XV}{B:St}{φ:Prop}(hN:Jo Tryz.prog C n)(ds:L_ Dw)(D h ts os:L_ Nat)(hS:(Gj base.fr D,Gj base.hp h)=(some sf,some sh))(e:EW Tryz.prog C VU n ops ⟨sf,sh⟩ ds ops.toList 0 [] [] base True=some ⟨ri,ms,B,φ⟩)(hφ:φ)(hf:(Gj (Le ms ri++B.fr) ts,Gj (Hf ms ri++B.hp) os,St.closed ⟨fr,hp⟩)=(some fr,some hp,true))(k:AK Tryz.prog C Q (.x .normal) ks ⟨fr,hp⟩)(hl:ds.length=ops.size:=by rfl)(hk:okV ops base ⟨sf,sh⟩ ⟨ri,ms,B,φ⟩=true:=by kernel_rfl):AK Tryz.prog C Q (.c (.region id ops true)) ks base:=AK.draw2 Qt hN mixed ds D h ts os (congrArg (λx=>x.1) hS) (congrArg (λx=>x.2) hS) e hφ hl hk (congrArg (λx=>x.1) hf) (congrArg (λx=>x.2.1) hf) (congrArg (λx=>x.2.2) hf) k
abbrev Qpf (a0 a1:V):L_ V:=[.J,.J,a0,.J,.J,.J,.J,a1,.J,.J,.J,.J,.J]
abbrev Vu (a0:V):L_ V:=[.J,.J,a0,.J,.J,.J,.J,.J,.J,.J,.J,.J,.J]
abbrev Qpg (a0 a1 a2 a3 a4 a5 a6 a7 a8:V):L_ V:=[.J,.J,.J,.J,a0,a1,a2,a3,a4,.J,a5,a6,a7,.J,.J,.J,.J,.J,.J,.J,.J,.J,.J,.J,.J,.J,.J,.J,.J,.J,.J,.J,.J,.J,.J,.J,.J,.J,.J,.J,.J,.J,.J,.J,.J,.J,.J,.J,.J,.J,.J,.J,.J,.J,a8,.J,.J,.J,.J,.J,.J,.J,.J,.J,.J,.J,.J,.J,.J,.J,.J,.J,.J,.J,.J,.J,.J,.J,.J,.J,.J,.J,.J,.J,.J,.J,.J,.J,.J,.J,.J,.J,.J,.J,.J,.J,.J,.J,.J,.J,.J,.J,.J,.J,.J,.J,.J,.J,.J]
abbrev DN (a0 a1 a2 a3 a4 a5 a6 a7:V):L_ V:=[.J,.J,.J,.J,a0,a1,a2,a3,a4,.J,a5,a6,a7,.J,.J,.J,.J,.J,.J,.J,.J,.J,.J,.J,.J,.J,.J,.J,.J,.J,.J,.J,.J,.J,.J,.J,.J,.J,.J,.J,.J,.J,.J,.J,.J,.J,.J,.J,.J,.J,.J,.J,.J,.J,.J,.J,.J,.J,.J,.J,.J,.J,.J,.J,.J,.J,.J,.J,.J,.J,.J,.J,.J,.J,.J,.J,.J,.J,.J,.J,.J,.J,.J,.J,.J,.J,.J,.J,.J,.J,.J,.J,.J,.J,.J,.J,.J,.J,.J,.J,.J,.J,.J,.J,.J,.J,.J,.J,.J]
def Oe (a:(L_ Xo)):O_ Qe:=some (Qe.mk ([(QI.mk (⟨#[110]⟩:ByteArray) 2 0 0 ([(⟨#[107]⟩:ByteArray)]:L_ ByteArray) 0 0)]:L_ QI) ([(QM.mk (⟨#[97]⟩:ByteArray) 0 ([]:QBg)),(QM.mk (⟨#[98]⟩:ByteArray) 0 ([]:QBg)),(QM.mk (⟨#[99]⟩:ByteArray) 0 ([]:QBg))]:L_ QM) ([(QG.mk (⟨#[116]⟩:ByteArray) ([]:(L_ YI)) (Ql.mk 1 1 ([]:(L_ Ql))) 1 1 ([(Xo.mk 0 (Ql.mk 1 0 ([]:(L_ Ql))))]:L_ Xo) a ([]:LI_) 0 (0,0,0))]:L_ QG) 0 1)
def EP (a:Bool):O_ Qe:=bif a then (chk (([(Xo.mk 1 (Ql.mk 1 0 ([]:(L_ Ql))))]:L_ Xo).length+([(Xo.mk 2 (Ql.mk 1 0 ([]:(L_ Ql))))]:L_ Xo).length<=4294967296)).bind λ_=>Oe (([(Xo.mk 1 (Ql.mk 1 0 ([]:(L_ Ql))))]:L_ Xo)++[(Xo.mk 2 (Ql.mk 1 0 ([]:(L_ Ql))))])else Oe ([(Xo.mk 1 (Ql.mk 1 0 ([]:(L_ Ql))))]:L_ Xo)
def Yn (c):CT 21 [.b c] [] (EP c) (λr=>(.agg (Qa r))) no_:=by
 refine W 40 func21 rfl λC d r h=>?_
 refine Qo d [7,.v .no [none,none,some 3] (.agg (Qs (Ql.mk 1 0 ([]:(L_ Ql))))),2,.O 3 (.var (Qs (Ql.mk 1 0 ([]:(L_ Ql))))),4,.v .no [none,none,some 3] (.agg (Qs (Ql.mk 1 1 ([]:(L_ Ql))))),2,.O 4 (.var (Qs (Ql.mk 1 1 ([]:(L_ Ql))))),4,.v (.bd []) [] (.sl 1 (([(⟨#[107]⟩:ByteArray)]:L_ ByteArray).map DR)),.A (Qr (QI.mk (⟨#[110]⟩:ByteArray) 2 0 0 ([(⟨#[107]⟩:ByteArray)]:L_ ByteArray) 0 0)),.v (.bd []) [] (.sl 7 (([(QI.mk (⟨#[110]⟩:ByteArray) 2 0 0 ([(⟨#[107]⟩:ByteArray)]:L_ ByteArray) 0 0)]:L_ QI).map Qr)),.v .no [none,none,some 2] (.agg (Qp (QM.mk (⟨#[97]⟩:ByteArray) 0 ([]:QBg)))),.v .no [none,none,some 2] (.agg (Qp (QM.mk (⟨#[98]⟩:ByteArray) 0 ([]:QBg)))),.v .no [none,none,some 2] (.agg (Qp (QM.mk (⟨#[99]⟩:ByteArray) 0 ([]:QBg)))),.v (.bd []) [] (.sl 3 (([(QM.mk (⟨#[97]⟩:ByteArray) 0 ([]:QBg)),(QM.mk (⟨#[98]⟩:ByteArray) 0 ([]:QBg)),(QM.mk (⟨#[99]⟩:ByteArray) 0 ([]:QBg))]:L_ QM).map Qp)),.A (Qs (Ql.mk 1 1 ([]:(L_ Ql)))),.A (Qs (Ql.mk 1 0 ([]:(L_ Ql)))),.A (Xf (Xo.mk 0 (Ql.mk 1 0 ([]:(L_ Ql))))),1,.O 18 (.arr 4 (([(Xo.mk 0 (Ql.mk 1 0 ([]:(L_ Ql))))]:L_ Xo).map Xf)),.S 18 (.own 18 ([(Xo.mk 0 (Ql.mk 1 0 ([]:(L_ Ql))))]:L_ Xo).length),.A (Qs (Ql.mk 1 0 ([]:(L_ Ql)))),.A (Xf (Xo.mk 1 (Ql.mk 1 0 ([]:(L_ Ql))))),1,.O 21 (.arr 4 (([(Xo.mk 1 (Ql.mk 1 0 ([]:(L_ Ql))))]:L_ Xo).map Xf)),.S 21 (.own 21 ([(Xo.mk 1 (Ql.mk 1 0 ([]:(L_ Ql))))]:L_ Xo).length),.A [.s (⟨#[116]⟩:ByteArray),.Y,.I 1,.I 1,.sl 3 (Yi ([]:(L_ Ql))),.I 1,.I 1,.own 18 ([(Xo.mk 0 (Ql.mk 1 0 ([]:(L_ Ql))))]:L_ Xo).length,.own 21 ([(Xo.mk 1 (Ql.mk 1 0 ([]:(L_ Ql))))]:L_ Xo).length,.Y,.I 0,.I 0,.I 0,.I 0],.o (.any (.own 23 1) (some (.var [.s (⟨#[116]⟩:ByteArray),.Y,.I 1,.I 1,.sl 3 (Yi ([]:(L_ Ql))),.I 1,.I 1,.own 18 ([(Xo.mk 0 (Ql.mk 1 0 ([]:(L_ Ql))))]:L_ Xo).length,.own 21 ([(Xo.mk 1 (Ql.mk 1 0 ([]:(L_ Ql))))]:L_ Xo).length,.Y,.I 0,.I 0,.I 0,.I 0]))),.A [.sl 7 (([(QI.mk (⟨#[110]⟩:ByteArray) 2 0 0 ([(⟨#[107]⟩:ByteArray)]:L_ ByteArray) 0 0)]:L_ QI).map Qr),.sl 3 (([(QM.mk (⟨#[97]⟩:ByteArray) 0 ([]:QBg)),(QM.mk (⟨#[98]⟩:ByteArray) 0 ([]:QBg)),(QM.mk (⟨#[99]⟩:ByteArray) 0 ([]:QBg))]:L_ QM).map Qp),.own 23 1,.I 0,.I 1],2,.O 5 (.var [.sl 7 (([(QI.mk (⟨#[110]⟩:ByteArray) 2 0 0 ([(⟨#[107]⟩:ByteArray)]:L_ ByteArray) 0 0)]:L_ QI).map Qr),.sl 3 (([(QM.mk (⟨#[97]⟩:ByteArray) 0 ([]:QBg)),(QM.mk (⟨#[98]⟩:ByteArray) 0 ([]:QBg)),(QM.mk (⟨#[99]⟩:ByteArray) 0 ([]:QBg))]:L_ QM).map Qp),.own 23 1,.I 0,.I 1]),2] Z ⟨⟨⟨⟨⟨⟨⟨⟨⟨⟨⟨⟨⟨⟨⟨⟨⟨⟨⟨⟨⟨⟨⟨⟨U,Z⟩,Z⟩,Z⟩,Z⟩,Z⟩,Z⟩,Z⟩,Z⟩,Z⟩,Z⟩,Z⟩,Z⟩,Z⟩,Z⟩,Z⟩,Z⟩,Z⟩,Z⟩,Z⟩,Z⟩,Z⟩,(λσ e k D=>Stp.buildAny Z Z (QR d.n Z) (Qt.es Z) Qm4 Z (by decide) (by decide) (DZ e Z) Z Z (D Z))⟩,Z⟩,Z⟩ ?_
 refine AK.meet (λσ=>∃g:(L_ Xo),σ=⟨[lk_ 2,lk_ 5],[(2,.var [.Y,.Y,.Y,.I 0,.I 0]),(5,.var [.sl 7 (([(QI.mk (⟨#[110]⟩:ByteArray) 2 0 0 ([(⟨#[107]⟩:ByteArray)]:L_ ByteArray) 0 0)]:L_ QI).map Qr),.sl 3 (([(QM.mk (⟨#[97]⟩:ByteArray) 0 ([]:QBg)),(QM.mk (⟨#[98]⟩:ByteArray) 0 ([]:QBg)),(QM.mk (⟨#[99]⟩:ByteArray) 0 ([]:QBg))]:L_ QM).map Qp),.own 23 1,.I 0,.I 1]),(18,.arr 4 (([(Xo.mk 0 (Ql.mk 1 0 ([]:(L_ Ql))))]:L_ Xo).map Xf)),(21,.arr 4 (g.map Xf)),(23,.var [.s (⟨#[116]⟩:ByteArray),.Y,.I 1,.I 1,.sl 3 (Yi ([]:(L_ Ql))),.I 1,.I 1,.own 18 ([(Xo.mk 0 (Ql.mk 1 0 ([]:(L_ Ql))))]:L_ Xo).length,.own 21 g.length,.Y,.I 0,.I 0,.I 0,.I 0])]⟩/\Oe g=some r) ?_ ?_
 ·refine tg_ d [5] ?_
  rcases XN h with⟨j,h⟩|⟨j,h⟩
  ·obtain⟨q,h⟩:=RX h
   refine Qo d [.T,.K [2,3,5] [2,3,5,18,21,23]] Z (A j) ?_
   refine AK.draw2 Qt d mixed [.a .no none true,.a .no none true,.N,.N,.B (.any (.L 23) none),.N,.N,.E (.agg (Qs (Ql.mk 1 0 ([]:(L_ Ql))))),.E (.agg (Xf (Xo.mk 2 (Ql.mk 1 0 ([]:(L_ Ql)))))),.a (.bd []) (some ([],.sl 4 (([(Xo.mk 2 (Ql.mk 1 0 ([]:(L_ Ql))))]:L_ Xo).map Xf))) false,.m (.app ((([(Xo.mk 1 (Ql.mk 1 0 ([]:(L_ Ql))))]:L_ Xo)++[(Xo.mk 2 (Ql.mk 1 0 ([]:(L_ Ql))))]).map Xf) (([(Xo.mk 1 (Ql.mk 1 0 ([]:(L_ Ql))))]:L_ Xo)++[(Xo.mk 2 (Ql.mk 1 0 ([]:(L_ Ql))))]).length),.B (.any (.L 23) none),.N,.m .s] [2,3,5] [2,3,5,18] [2,5] [2,5,18,21,23] rfl rfl rfl ⟨⟨⟨⟨⟨⟨U,(λσ e k _=>Stp.idxV rfl rfl (QR d.n rfl) (e _ _ rfl) (e _ _ rfl) (Qt.es rfl) (k _ _ rfl) (by decide))⟩,rfl⟩,rfl⟩,rfl⟩,⟨(Qc (f:=Xf) (l:=([(Xo.mk 1 (Ql.mk 1 0 ([]:(L_ Ql))))]:L_ Xo))),Jf q Qc,(XY (f:=Xf) (l:=([(Xo.mk 1 (Ql.mk 1 0 ([]:(L_ Ql))))]:L_ Xo)) (m:=([(Xo.mk 2 (Ql.mk 1 0 ([]:(L_ Ql))))]:L_ Xo))),Jw (l:=([(Xo.mk 1 (Ql.mk 1 0 ([]:(L_ Ql))))]:L_ Xo)) Qc⟩⟩,(λσ e k _=>Stp.idxV rfl rfl (QR d.n rfl) (e _ _ rfl) (e _ _ rfl) (Qt.es rfl) (k _ _ rfl) (by decide))⟩ rfl (by kernel_rfl) rfl rfl rfl ?_
   refine Qo d [.O 23 (.var [.s (⟨#[116]⟩:ByteArray),.Y,.I 1,.I 1,.sl 3 (Yi ([]:(L_ Ql))),.I 1,.I 1,.own 18 ([(Xo.mk 0 (Ql.mk 1 0 ([]:(L_ Ql))))]:L_ Xo).length,.own 21 (([(Xo.mk 1 (Ql.mk 1 0 ([]:(L_ Ql))))]:L_ Xo)++[(Xo.mk 2 (Ql.mk 1 0 ([]:(L_ Ql))))]).length,.Y,.I 0,.I 0,.I 0,.I 0]),.K [2,5] [2,5,18,21,23]] Z (A Z) ?_
   exact AK.met (ex_ _ (an_ Z h))
  refine Qo d [.F,1,.K [2,5] [2,5,18,21,23]] Z (A j) ?_
  exact AK.met (ex_ _ (an_ Z h))
 rintro σ ⟨g,rfl,h⟩
 refine Qo d [4,.O 2 (.var [.sl 7 (([(QI.mk (⟨#[110]⟩:ByteArray) 2 0 0 ([(⟨#[107]⟩:ByteArray)]:L_ ByteArray) 0 0)]:L_ QI).map Qr),.sl 3 (([(QM.mk (⟨#[97]⟩:ByteArray) 0 ([]:QBg)),(QM.mk (⟨#[98]⟩:ByteArray) 0 ([]:QBg)),(QM.mk (⟨#[99]⟩:ByteArray) 0 ([]:QBg))]:L_ QM).map Qp),.own 23 1,.I 0,.I 1]),3,.frz 18 (([(Xo.mk 0 (Ql.mk 1 0 ([]:(L_ Ql))))]:L_ Xo).map Xf) [] [23],.frz 21 (g.map Xf) [] [23],.denilO 23 [none,some 2,none,none,none,none,none,none,none,some 1,none,none,none,none],.O 23 (.var [.s (⟨#[116]⟩:ByteArray),.sl 2 (([]:(L_ YI)).map Xe),.I 1,.I 1,.sl 3 (Yi ([]:(L_ Ql))),.I 1,.I 1,.sl 4 (([(Xo.mk 0 (Ql.mk 1 0 ([]:(L_ Ql))))]:L_ Xo).map Xf),.sl 4 (g.map Xf),.sl 1 (([]:LI_).map Qb),.I 0,.I 0,.I 0,.I 0])] Z (a4_ Z (A ⟨(Js Qc),(A U)⟩) (A ⟨(Js Qc),U⟩) Z) ?_
 refine AK.frzVar (p:=2) (i:=2) (b:=23) rfl rfl rfl rfl rfl rfl rfl ?_
 refine Qo d [.O 2 (.var (Qa (Qe.mk ([(QI.mk (⟨#[110]⟩:ByteArray) 2 0 0 ([(⟨#[107]⟩:ByteArray)]:L_ ByteArray) 0 0)]:L_ QI) ([(QM.mk (⟨#[97]⟩:ByteArray) 0 ([]:QBg)),(QM.mk (⟨#[98]⟩:ByteArray) 0 ([]:QBg)),(QM.mk (⟨#[99]⟩:ByteArray) 0 ([]:QBg))]:L_ QM) ([(QG.mk (⟨#[116]⟩:ByteArray) ([]:(L_ YI)) (Ql.mk 1 1 ([]:(L_ Ql))) 1 1 ([(Xo.mk 0 (Ql.mk 1 0 ([]:(L_ Ql))))]:L_ Xo) g ([]:LI_) 0 (0,0,0))]:L_ QG) 0 1))),.K [2] [2]] Z (A Z) ?_
 cases h
 exact AK.done (ex_ [_] (an_ (an_ (ex_ _ (ex_ _ (an_ Z (an_ Z (Or.inl (an_ (Qt.ag Z) (an_ (Qt.sz Z) Z))))))) U) (gives U)))
def YL (a:QBg):O_ QBg:=(chk ((([]:L_ (Int×Int)).length+a.length)*16<=140737488355328)).bind λ_=>some (([]:L_ (Int×Int))++a)
def UA (b):CT 32 [.sl 2 (b.map QT)] [] (YL b) (λr=>(.own 600 r.length)) (λr=>[(600,.arr 2 (r.map QT))]):=by
 refine W 8 func32 rfl λC a r h=>?_
 unfold YL at h
 refine tg_ a [9] ?_
 refine AK.eqNil rfl rfl rfl (QR a.n rfl) rfl rfl QoA ?_ ?_
 ·intro c
  replace h:some ([]:L_ (Int×Int))=some r:=by simpa[chk,List.map_eq_nil_iff.1 c] using h
  exact K a [10,.adopt 2 600 2,.O 600 (.arr 2 (([]:L_ (Int×Int)).map QT)),.S 2 (.own 600 ([]:L_ (Int×Int)).length)] Z Z Z<|E h Z r1_
 exact X h λd h=>g3_ a [8,.O 5 (.arr 2 (([]:L_ (Int×Int)).map QT)),.S 5 (.own 5 ([]:L_ (Int×Int)).length),1,.x (λσ=>σ.app 5 2 7 (([]:L_ (Int×Int))++b).length ((([]:L_ (Int×Int))++b).map QT)),4,.K [2] [5],.ren 5 600] Z Z Z (Stp.appSB (by_:=16) (zs:=[.I 0,.I 0]) (e:=74) (e':=74) (z':=2) (by':=16) Z Z (QR a.n Z) Z Z Z Qc (by kernel_rfl) (by kernel_rfl) (by kernel_rfl) Z (by decide) (by decide) (QcM d Qc) Z XY (Jw Qc))<|E h Z r1_
def Dn (a:QBg):O_ Unit:=some ()
def Lg (a):CT 107 [.map 618] [(618,.map (QB V.I V.I a))] (Dn a) (λ_=>(.clo (.func 164) [] [.L 1])) (λ_=>[(1,.var [.map 618]),(618,.map (QB V.I V.I a))]):=
 W 4 func107 Z λC b r h=>H b [13] Z<|E h Z r2_
def Wd (a:LI_)(b:Int):O_ LI_:=(chk (a.length+([b]:L_ Int).length<=4294967296)).bind λ_=>some (a++([b]:L_ Int))
def Fd (lpl D:Nat)(a:LI_)(c:Int){r:LI_}(h:Wd a c=some r):Ph prog lpl (EX D) (Qpf (.L 619) (.I c)) [(618,.lp lpl (EX D) (Vu (.L 619)) 0),(619,.var [.own 616 a.length]),(616,.arr 1 (a.map Qb))] (Gives (.b true) [(616,.arr 1 (r.map Qb)),(618,.lp lpl (EX D) (Vu (.L 619)) 0),(619,.var [.own 616 r.length])]):=by
 refine Ph.walk (b:=618) 13 rfl rfl λC e=>?_
 refine tg_ e [3] ?_
 refine AK.done (an_ rfl (ex_ _ (an_ rfl ?_)))
 obtain⟨d,h⟩:=RX h
 refine Qo e [4,.v (.bd []) [] (.sl 1 (([c]:L_ Int).map Qb)),.app ((a++([c]:L_ Int)).map Qb) (a++([c]:L_ Int)).length,1,.O 619 (.var [.own 616 (a++([c]:L_ Int)).length]),2,.K [] [616,618,619]] Z (a3_ Z ⟨Qc,Jf d Qc,XY,Jw Qc⟩ Z) ?_
 cases h
 refine AK.done ?_
 exact ex_ _ (an_ Z (gives r3_))
def HQ (lpl lpf:Nat)(c:LI_)(i:QBg)(hlen:c.length+i.length<=4294967296):QU prog 164 [.clo (.yield lpl) [] [],.L 620] [(618,.lp lpl (EX lpf) (Vu (.L 619)) 0),(619,.var [.own 616 c.length]),(616,.arr 1 (c.map Qb)),(620,.var [.map 621]),(621,.map (QB V.I V.I i))] (λv hs=>∃r:L_ Int,r.Perm (c++i.map Prod.fst)/\Gives (.tup []) [(616,.arr 1 (r.map Qb)),(618,.lp lpl (EX lpf) (Vu (.L 619)) 0),(619,.var [.own 616 r.length]),(620,.var [.map 621]),(621,.map (QB V.I V.I i))] v hs):=by
 refine wk_ 14 func164 λC a=>?_
 refine tg_ a [3] ?_
 refine AK.openMap (b:=621) KN rfl λk l L4 p s=>?_
 refine Qo a [.x (λσ=>(σ.set 5 (.itr k l #[] none)).put 5 (.L 5)),3,.K [0,5] [5,616,618,619,620,621]] Z (A (Stp.range (b:=621) Z Z (QR a.n Z) Z Z Gy Z)) ?_
 have hL0:YH L4 #[]=L4:=by simp[YH]
 have z:(c++(YH L4 #[]).map (λq=>q.2.1)).Perm (c++i.map Prod.fst):=by
  rw[hL0]
  refine List.Perm.append_left c ?_
  have:=s.map Prod.fst
  rwa[Rf]at this
 refine AK.range (body:=QjI) (λ(_:Nat) seen σ=>∃(cur:O_ Nat) (st:L_ Int),(st++(YH L4 seen).map (λq=>q.2.1)).Perm (c++i.map Prod.fst)/\σ=⟨[(0,.clo (.yield lpl) [] []),lk_ 5],[(5,.itr k l seen cur),(616,.arr 1 (st.map Qb)),(618,.lp lpl (EX lpf) (Vu (.L 619)) 0),(619,.var [.own 616 st.length]),(620,.var [.map 621]),(621,.mapX k l (Fb V.I V.I L4) (QB V.I V.I i))]⟩) (λ(q:Empty) _ _=>False) (λ_ e σ=>∃st:L_ Int,st.Perm (c++i.map Prod.fst)/\e=.exit 0/\σ=⟨[],[(616,.arr 1 (st.map Qb)),(618,.lp lpl (EX lpf) (Vu (.L 619)) 0),(619,.var [.own 616 st.length]),(620,.var [.map 621]),(621,.mapX k l (Fb V.I V.I L4) (QB V.I V.I i))]⟩) p s (QkP i 0) (ex_ _ (ex_ c (an_ z rfl))) ?_ ?_
 ·rintro P seen σ ⟨cur,o,hpp,rfl⟩ hex
  refine tg_ a [2] ?_
  refine AK.nextT (b:=5) (m:=621) rfl rfl rfl (QR a.n rfl) rfl rfl rfl rfl ?_ ?_
  ·intro hleft
   refine tg_ a [7,.K [] [616,618,619,620,621]] ?_
   exact AK.done (Or.inl (an_ hleft (an_ (λh=>(by cases h)) (ex_ o (an_ (by simpa[hleft] using hpp) (an_ Z Z))))))
  intro D y S u
  have hpk:=(ZZ p u).map (λq=>q.2.1)
  have w:((o++[y])++(YH L4 (seen.push D)).map (λq=>q.2.1)).Perm (c++i.map Prod.fst):=List.Perm.trans (by simpa using (List.Perm.append_left o hpk).symm) hpp
  have O:o.length+([y]:L_ Int).length<=4294967296:=by
   have:=w.length_eq
   simp at this ⊢
   omega
  have t:Wd o y=some (o++[y]):=by
   unfold Wd
   rw[Yw O];rfl
  obtain⟨j,hxe⟩:∃x,x=o++[y]:=⟨_,rfl⟩
  rw[<-hxe]at t w
  refine Qo a [10,.x (λσ=>σ.put 8 (.tup [.I y,.I S])),8,.x (λσ=>(σ.after [616] [(616,.arr 1 (j.map Qb)),(618,.lp lpl (EX lpf) (Vu (.L 619)) 0),(619,.var [.own 616 j.length])]).put 12 (.b true)),6,.K [0,5] [5,616,618,619,620,621]] Z (a2_ (Stp.entryT (b:=5) (m:=621) (e:=V.I) (f:=V.I) Z Z (QR a.n Z) Z u Z Z) (Stp.yieldV (b:=618) (M:=[(618,618),(619,619),(616,616)]) (N:=[(616,616),(618,618),(619,619)]) (dead:=[616]) (ms:=[.d,.d,.d,.d,.d,.d,.d,.d,.d,.d,.d,.d,.d]) (outs:=[(616,.arr 1 (j.map Qb)),(618,.lp lpl (EX lpf) (Vu (.L 619)) 0),(619,.var [.own 616 j.length])]) (r:=.b true) Z Z Z Z Z Z Z (QR a.n Z) a.g Z Z (Fd _ _ _ _ t))) ?_
  exact AK.done (Or.inr (ex_ _ (an_ u (Or.inl (ex_ (P+1) (an_ Z (an_ Z (ex_ _ (ex_ j (an_ w Z))))))))))
 rintro e σ ⟨o,hpp,rfl,rfl⟩
 refine tg_ a [1] ?_
 refine AK.closeMap (b:=621) rfl ?_
 refine tg_ a [.K [] [616,618,619,620,621]] ?_
 refine AK.done ?_
 exact ex_ [] (an_ U (ex_ o (an_ hpp (gives r5_))))
def NU (a:QBg)(h:a.length<=4294967296):QU prog 231 [.Y,.clo (.func 164) [] [.L 618]] [(618,.var [.map 619]),(619,.map (QB V.I V.I a))] (λv hs=>∃r:L_ Int,r.Perm (a.map Prod.fst)/\Gives (.own 600 r.length) [(600,.arr 1 (r.map Qb)),(618,.var [.map 619]),(619,.map (QB V.I V.I a))] v hs):=by
 refine QU.walkR 13 func231 Z ntmps231 Z λC c hR=>?_
 refine tg_ c [13,.K [2,4,6] [2,618,619]] ?_
 refine Qo c [.adoptO 2 0 605 1,.O 605 (.arr 1 (([]:L_ Int).map Qb)),.O 2 (.var [.own 605 ([]:L_ Int).length])] Z (a2_ Z Z) ?_
 refine AK.rangeFE (ι:=L_ Int) (Φ:=λx=>x.Perm (a.map Prod.fst)) 615 [2] [(618,615),(619,2),(616,605),(620,618),(621,619)] [(605,616),(615,618),(2,619),(618,620),(619,621)] [605] [.d,.d] EX c hR (λ_=>rfl) rfl rfl rfl rfl λlpl lpf=>?_
 refine ex_ (λb:L_ Int=>[(616,.arr 1 (b.map Qb)),(618,.lp lpl (EX lpf) (Vu (.L 619)) 0),(619,.var [.own 616 b.length]),(620,.var [.map 621]),(621,.map (QB V.I V.I a))]) (ex_ (λ_=>.tup []) (ex_ (λb=>_) (ex_ _ (ex_ _ (an_ rfl (an_ rfl (an_ (HQ _ _ ([]:L_ Int) a (by simpa using h)) λb=>ex_ _ (ex_ (Vu (.L 2)) (ex_ 0 (an_ rfl (an_ rfl (an_ (bne_iff_ne.1 (show(0 != 1)=true from rfl)) λD=>?_))))))))))))
 refine QnN Z ?_
 refine tg_ c [9,.K [4] [605,618,619],.ren 605 600,.K [4] [600,618,619]] ?_
 exact AK.done (ex_ [_] (an_ (an_ Z U) (ex_ b (an_ D (gives r3_)))))
def SY (a:QBg)(h:a.length<=4294967296):QU prog 163 [.clo (.func 164) [] [.L 618]] [(618,.var [.map 619]),(619,.map (QB V.I V.I a))] (λv hs=>∃r:L_ Int,r.Perm (a.map Prod.fst)/\Gives (.own 600 r.length) [(600,.arr 1 (r.map Qb)),(618,.var [.map 619]),(619,.map (QB V.I V.I a))] v hs):=by
 refine wk_ 5 func163 λC c=>?_
 refine tg_ c [8] ?_
 refine AK.callE (ι:=L_ Int) (Φ:=λx=>x.Perm (a.map Prod.fst)) [(618,618),(619,619)] [(4,600),(618,618),(619,619)] [] [.d,.d] (λb=>[(600,.arr 1 (b.map Qb)),(618,.var [.map 619]),(619,.map (QB V.I V.I a))]) (λb=>(.own 600 b.length)) (λb=>_) rfl c (Je.fn rfl rfl rfl) rfl (QR c.n rfl) rfl rfl (NU a h) (λb=>ex_ _ rfl) λb D=>?_
 refine tg_ c [4,.K [2] [4,618,619],.ren 4 600,.K [2] [600,618,619]] ?_
 exact AK.done (ex_ [_] (an_ (an_ Z U) (ex_ b (an_ D (gives r3_)))))
def YA (l:L_ Int):O_ LI_:=(chk (l.length<4611686018427387904)).bind λ_=>some (KC l)
def Dp (l){r}(h:YA l=some r):QU prog 43 [.own 618 l.length] [(618,.arr 1 (l.map Qb))] (Gives (.tup []) [(618,.arr 1 (r.map Qb))]):=by
 obtain⟨_,a,h⟩:=Qv h
 cases h
 exact QiN QkW l (Xs (Qf4 a))
def Fe (a:QBg):O_ LI_:=(chk (a.length<=4294967296)).bind λ_=>some (KC (a.map Prod.fst))
def Vv (a):CT 106 [.clo (.func 164) [] [.L 618]] [(618,.var [.map 619]),(619,.map (QB V.I V.I a))] (Fe a) (λr=>(.own 600 r.length)) (λr=>[(600,.arr 1 (r.map Qb)),(618,.var [.map 619]),(619,.map (QB V.I V.I a))]):=by
 refine W 9 func106 rfl λC e r h=>?_
 obtain⟨_,D,h⟩:=Qv h
 replace D:=Xs (Qf4 D)
 cases h
 refine tg_ e [8] ?_
 refine AK.callE (ι:=L_ Int) (Φ:=λx=>x.Perm (a.map Prod.fst)) [(618,618),(619,619)] [(5,600),(618,618),(619,619)] [] [.d] (λb=>[(600,.arr 1 (b.map Qb)),(618,.var [.map 619]),(619,.map (QB V.I V.I a))]) (λb=>(.own 600 b.length)) (λb=>_) rfl e (Je.fn rfl rfl rfl) rfl (QR e.n rfl) rfl rfl (SY a D) (λb=>ex_ _ rfl) λb hpp=>?_
 have f:YA b=some (KC (a.map Prod.fst)):=by
  unfold YA
  rw[Yw (by have:=hpp.length_eq;simp at this;omega),QjJ hpp];rfl
 have c:(KC (a.map Prod.fst)).length=b.length:=by rw[BP,hpp.length_eq]
 refine Qo e [6,.cm (.fn) [(618,5)] [(5,618)] [] [.d] [(618,.arr 1 (((KC (a.map Prod.fst))).map Qb))] (.tup []),.S 3 (.own 5 (KC (a.map Prod.fst)).length),.S 5 (.own 5 (KC (a.map Prod.fst)).length),.S 6 (.own 5 (KC (a.map Prod.fst)).length),9,.K [2] [5,618,619],.ren 5 600,.K [2] [600,618,619]] Z (a4_ (Dp _ f) (by simp[c]) (by simp[c]) (by simp[c])) ?_
 exact AK.done (ex_ [_] (an_ (an_ Z U) (gives r3_)))
def DV (b:Int)(a:QBg):O_ ((Int×QBg)⊕QBg):=some (.inl ((Qi (b+1)),a))
def Wu (e:LI_)(d:QBg)(b:Int)(c:QBg):O_ ((Int×QBg)⊕QBg):=bif (b<(e.length:Int))then (idx e b).bind λa=>bif (0<((Qq d a).getD 0))then (chk (c.length+([(a,((Qq d a).getD 0))]:L_ (Int×Int)).length<=4294967296)).bind λ_=>DV b (c++([(a,((Qq d a).getD 0))]:L_ (Int×Int)))else DV b c else some (.inr c)
def QaY (a:QBg):O_ QBg:=some a
def Ga (a:QBg):O_ QBg:=(Dn a).bind λc=>(Fe a).bind λb=>(QD (λst=>Wu b a st.1 st.2) (0,([]:L_ (Int×Int)))).bind (λq=>QaY q)
def Ff (b):CT 64 [.map 618] [(618,.map (QB V.I V.I b))] (Ga b) (λr=>(.own 600 r.length)) (λr=>[(600,.arr 2 (r.map QT)),(618,.map (QB V.I V.I b))]):=
 W 28 func64 Z λC c r h=>B h λP u h=>B h λm w h=>g4_ c [14,.cm (.fn) [(618,618)] [(7,1),(618,618)] [] [.d] [(1,.var [.map 618]),(618,.map (QB V.I V.I b))] (.clo (.func 164) [] [.L 1]),.cm (.fn) [(618,7),(619,618)] [(8,600),(7,618),(618,619)] [] [.d] [(600,.arr 1 (m.map Qb)),(618,.var [.map 619]),(619,.map (QB V.I V.I b))] (.own 600 m.length),5,.adopt 3 18 2,.O 18 (.arr 2 (([]:L_ (Int×Int)).map QT)),.S 3 (.own 18 ([]:L_ (Int×Int)).length)] Z (Lg _ _ u) (Vv _ _ w) Z (congrArg (λn=>V.own 18 n) (by simp))<|lp_ h (λst=>⟨[(0,.map 618),(3,.own 18 st.2.length),(8,.own 8 m.length),(9,.I (m.length:Int)),(10,.I st.1)],[(8,.arr 1 (m.map Qb)),(18,.arr 2 (st.2.map QT)),(618,.map (QB V.I V.I b))]⟩) (λq=>(.exit 0,⟨[(3,.own 18 q.length)],[(18,.arr 2 (q.map QT)),(618,.map (QB V.I V.I b))]⟩)) Z (λ⟨y,D⟩ o h=>H c [6] Z<|I h (λg h=>J c [.T,2] Z g<|mE_ (λi:QBg=>⟨[(0,.map 618),(3,.own 18 i.length),(8,.own 8 m.length),(9,.I (m.length:Int)),(10,.I y)],[(8,.arr 1 (m.map Qb)),(18,.arr 2 (i.map QT)),(618,.map (QB V.I V.I b))]⟩) (λi=>DV y i=some o) (B h λa p h=>g3_ c [4,.o (.row (Qb a)),7,.o (.any (.I ((Qq b a).getD 0)) none),3] Z (YN p Z) (XU (Jr p).2) (λσ s x _=>Stp.lookup (e:=V.I) (f:=V.I) (l:=b) (k:=a) (z:=0) Z Z (QR c.n Z) (s _ _ Z) (x _ _ Z) (s _ _ Z) Gy KN IG Z)<|I h (λj h=>X h λt h=>G c [.T,5,.o (.any (.I ((Qq b a).getD 0)) none),.A (QT (a,((Qq b a).getD 0))),.v (.bd []) [] (.sl 2 (([(a,((Qq b a).getD 0))]:L_ (Int×Int)).map QT)),.app ((D++([(a,((Qq b a).getD 0))]:L_ (Int×Int))).map QT) (D++([(a,((Qq b a).getD 0))]:L_ (Int×Int))).length,3] Z (a5_ j (λσ s x _=>Stp.lookup (e:=V.I) (f:=V.I) (l:=b) (k:=a) (z:=0) Z Z (QR c.n Z) (s _ _ Z) (x _ _ Z) (s _ _ Z) Gy KN IG Z) Z Z ⟨Qc,Jf t Qc,XY,Jw Qc⟩)<|me_ h Z) λj h=>J c [.F,2] Z j<|me_ h Z) λi h=>H c [4] Z<|rN_ h Z) λg h=>J c [.F,2] Z g<|rX_ h Z) λN h=>H c [9,.K [2] [18,618],.ren 18 600] Z<|E h Z r2_
def OQ (b:Int)(a:QBg):O_ ((Int×QBg)⊕QBg):=some (.inl ((Qi (b+1)),a))
def Av (d:LI_)(b:Int)(c:QBg):O_ ((Int×QBg)⊕QBg):=bif (b<(d.length:Int))then (idx d b).bind λa=>bif (0<=a)then OQ b (XD KM c a (min2 (Qi (((Qq c a).getD 0)+1)) 1048576))else OQ b c else some (.inr c)
def Vx (b:QBg):O_ QBg:=(Ga b).bind λa=>some a
def Og (a:LI_):O_ QBg:=(QD (λst=>Av a st.1 st.2) (0,([]:QBg))).bind (λq=>Vx q)
def QdJ (i):CT 34 [.sl 1 (i.map Qb)] [] (Og i) (λr=>(.own 600 r.length)) (λr=>[(600,.arr 2 (r.map QT))]):=
 W 25 func34 Z λC c r h=>K c [8,.O 6 (.map (QB V.I V.I ([]:QBg))),7,.o (.ln i.length),4] Z Z Qc<|lp_ h (λst=>⟨[(3,.map 6),(7,.sl 1 (i.map Qb)),(8,.I (i.length:Int)),(9,.I st.1)],[(6,.map (QB V.I V.I st.2))]⟩) (λq=>(.exit 0,⟨[(3,.map 6)],[(6,.map (QB V.I V.I q))]⟩)) Z (λ⟨u,m⟩ o h=>H c [6] Z<|I h (λj h=>J c [.T,2] Z j<|mE_ (λg:QBg=>⟨[(3,.map 6),(7,.sl 1 (i.map Qb)),(8,.I (i.length:Int)),(9,.I u)],[(6,.map (QB V.I V.I g))]⟩) (λg=>OQ u g=some o) (B h λa p h=>J c [3,.o (.row (Qb a)),10] Z (Xi p)<|I h (λb h=>g3_ c [.T,5,.o (.any (.I ((Qq m a).getD 0)) none),2,.x (λσ=>σ.set 6 (.map (QB V.I V.I (XD KM m a (min2 (Qi (((Qq m a).getD 0)+1)) 1048576))))),2] Z b (λσ w y _=>Stp.lookup (e:=V.I) (f:=V.I) (l:=m) (k:=a) (z:=0) Z Z (QR c.n Z) (w _ _ Z) (y _ _ Z) (w _ _ Z) Gy KN IG Z) (Stp.mapUpdate (e:=V.I) (f:=V.I) (l:=m) (k:=a) (v:=(min2 (Qi (((Qq m a).getD 0)+1)) 1048576)) KM Z Z Z Z Z Z Gy KN Z)<|me_ h Z) λb h=>J c [.F,2] Z b<|me_ h Z) λg h=>H c [4] Z<|rN_ h Z) λj h=>J c [.F,2] Z j<|rX_ h Z) λD h=>B h λs t h=>J c [5,.cm (.fn) [(618,6)] [(24,600),(6,618)] [] [.d] [(600,.arr 2 (s.map QT)),(618,.map (QB V.I V.I D))] (.own 600 s.length),4,.K [2] [24],.ren 24 600] Z (Ff _ _ t)<|E h Z r1_
def Kd (d:QBg)(a:Int)(c:Int):O_ ((Int×Int)⊕(Unit⊕Unit)):=
 bif (c<(d.length:Int))then
 (idx d c).bind λb=>
 bif ((b.1<=a)||((b.2<1)||(1048576<b.2)))then
 some (.inr (.inl ()))
 else
 some (.inl (b.1,(Qi (c+1))))
 else
 some (.inr (.inr ()))
def HR : O_ Bool:=some false
def HS : O_ Bool:=some true
def Wx (a:QBg):O_ Bool:=(QD (λst=>Kd a st.1 st.2) ((-1),0)).bind (Sum.elim (λq=>HR) (λq=>HS))
def HT (i):CT 108 [.sl 2 (i.map QT)] [] (Wx i) V.b no_:=
 W 29 func108 Z λC f r h=>J f [14,.o (.ln i.length),4] Z Qc<|lq_ h (λst=>⟨[(3,.I st.1),(6,.sl 2 (i.map QT)),(7,.I (i.length:Int)),(8,.I st.2)],[]⟩) (λq=>(.ret,⟨[(2,.b false)],[]⟩)) (λq=>(.exit 0,⟨[],[]⟩)) Z (λ⟨a,l⟩ o h=>H f [6] Z<|I h (λj h=>B h λd k h=>g4_ f [.T,6,.o (.row (QT d)),.A (QT d),2,.O 5 (.var (QT d)),4] Z j (Xi k) Z Z<|Y ⟨[lk_ 5,(6,.sl 2 (i.map QT)),(7,.I (i.length:Int)),(8,.I l),(25,.b ((d.1<=a)||((d.2<1)||(1048576<d.2))))],[(5,.var (QT d))]⟩ (H f [6] Z<|bO_ (decide (d.1<=a)) (λc=>G f [.S 16 (.b true),10,.S 25 (.b ((d.1<=a)||((d.2<1)||(1048576<d.2))))] Z ⟨(tc_ c),(cb_ (Eh c Z))⟩<|M Z) λc=>L f [.S 16 (.b false),5] Z c<|bO_ (decide (d.2<1)) (λe=>G f [.S 21 (.b true),5,.S 25 (.b ((d.1<=a)||((d.2<1)||(1048576<d.2))))] Z ⟨(tc_ e),(cb_ (Ji c (Eh e Z)))⟩<|M Z) λe=>G f [.S 21 (.b false),5,.S 25 (.b ((d.1<=a)||((d.2<1)||(1048576<d.2))))] Z ⟨(tc_ e),(cb_ (Ji c (Ji e Z)))⟩<|M Z)<|H f [1] Z<|I h (λg h=>J f [.T,9] Z g<|rR_ h Z) λg h=>J f [.F,13] Z g<|rN_ h Z) λj h=>J f [.F,2] Z j<|rX_ h Z) (λ_ h=>H f [2] Z<|E h Z U) (λ_ h=>H f [8] Z<|E h Z U)
def Dk (c:QBg)(b:Int)(d:QBg):O_ ((Int×QBg)⊕QBg):=bif (b<(c.length:Int))then (idx c b).bind λa=>some (.inl ((Qi (b+1)),(XD KM d a.1 a.2)))else some (.inr d)
def QdK (a:QBg):O_ (Unit⊕QBg):=some (.inr a)
def BZ (a:QBg):O_ (Unit⊕QBg):=(Wx a).bind λb=>bif (!b)then some (.inl ())else (QD (λst=>Dk a st.1 st.2) (0,([]:QBg))).bind (λq=>QdK q)
def EQ (m){r}(h:BZ m=some r):QU prog 67 [.sl 2 (m.map QT)] [] ((Sum.elim (λq=>(Gives (.tup [.lit (.map none),.b false]) [])) (λq=>(Gives (.tup [.map 601,.b true]) [(601,.map (QB V.I V.I q))]))) r):=by
 refine wk_ 24 func67 λC i=>?_
 obtain⟨y,t,h⟩:=Qv h
 refine Qo i [10,.o (.C1 (.b y)),3] Z (A (HT _ _ t)) ?_
 refine bg_ h (λj h=>Qo i [.T,8,.K [2,3] []] rfl (A j) ?_) λj h=>Qo i [.F,5,.O 10 (.map (QB V.I V.I ([]:QBg))),7,.o (.ln m.length),4,.K [4,11,12,13] [10]] rfl (a3_ j rfl Qc) ?_
 ·cases h
  exact AK.done (ex_ [_,_] (an_ (an_ Z (an_ Z U)) (gives U)))
 obtain⟨u,p,h⟩:=Qv h
 refine AK.loop (body:=(λst=>Dk m st.1 st.2)) (λst σ=>σ=⟨[(4,.map 10),(11,.sl 2 (m.map QT)),(12,.I (m.length:Int)),(13,.I st.1)],[(10,.map (QB V.I V.I st.2))]⟩) (λq e σ=>e=.exit 0/\σ=⟨[(4,.map 10)],[(10,.map (QB V.I V.I q))]⟩) p rfl ?_ ?_
 ·rintro ⟨z,w⟩ o σ rfl h
  refine tg_ i [6] ?_
  rcases XN h with⟨g,h⟩|⟨g,h⟩
  ·obtain⟨a,s,h⟩:=Qv h
   refine Qo i [.T,6,.o (.row (QT a)),.A (QT a),2,.O 6 (.var (QT a)),8,.x (λσ=>σ.set 10 (.map (QB V.I V.I (XD KM w a.1 a.2)))),7,.K [4,11,12,13] [10]] Z (a5_ g (Xi s) Z Z (Stp.mapUpdate (e:=V.I) (f:=V.I) (l:=w) (k:=a.1) (v:=a.2) KM Z Z Z Z Z Z Gy KN Z)) ?_
   cases h
   exact Vp Z Z
  refine Qo i [.F,2,.K [4] [10]] Z (A g) ?_
  cases h
  exact ZX Z (an_ Z Z)
 replace h:QdK u=some r:=h
 rintro e σ ⟨rfl,rfl⟩
 refine tg_ i [10,.K [2,3] [10],.ren 10 601,.K [2,3] [601]] ?_
 cases h
 exact AK.done (ex_ [_,_] (an_ (an_ Z (an_ Z U)) (gives r1_)))
def QaM (a:Unit):O_ (Unit⊕(QBg⊕(QBg⊕(QBg×QBg)))):=some (.inl ())
def QaN (a:QBg):O_ (Unit⊕(QBg⊕(QBg⊕(QBg×QBg)))):=some (.inr (.inl a))
def Px (a:QBg)(b:Unit):O_ (Unit⊕(QBg⊕(QBg⊕(QBg×QBg)))):=(BZ a).bind (Sum.elim (λq=>QaM q) (λq=>QaN q))
def QaO (a:QBg)(b:Unit):O_ (Unit⊕(QBg⊕(QBg⊕(QBg×QBg)))):=some (.inr (.inr (.inl a)))
def QaP (b:QBg)(a:QBg):O_ (Unit⊕(QBg⊕(QBg⊕(QBg×QBg)))):=some (.inr (.inr (.inr (b,a))))
def Py (b:QBg)(a:QBg):O_ (Unit⊕(QBg⊕(QBg⊕(QBg×QBg)))):=(BZ b).bind (Sum.elim (λq=>QaO a q) (λq=>QaP a q))
def HU (b:QBg)(a:QBg):O_ (Unit⊕(QBg⊕(QBg⊕(QBg×QBg)))):=(BZ b).bind (Sum.elim (λq=>Px a q) (λq=>Py a q))
def Jz (s j){r}(h:HU s j=some r):QU prog 63 [.sl 2 (s.map QT),.sl 2 (j.map QT)] [] ((Sum.elim (λq=>(Gives (.tup [.lit (.map none),.lit (.map none),.b false]) [])) (Sum.elim (λq=>(Gives (.tup [.lit (.map none),.map 603,.b false]) [(603,.map (QB V.I V.I q))])) (Sum.elim (λq=>(Gives (.tup [.map 602,.lit (.map none),.b false]) [(602,.map (QB V.I V.I q))])) (λq=>(Gives (.tup [.map 602,.map 603,.b true]) [(602,.map (QB V.I V.I q.1)),(603,.map (QB V.I V.I q.2))]))))) r):=by
 refine wk_ 25 func63 λC e=>?_
 obtain⟨t,f,h⟩:=Qv h
 refine tg_ e [10] ?_
 rcases t with(u | k)
 ·replace h:Px j u=some r:=h
  obtain⟨l,a,h⟩:=Qv h
  refine Qo e [.cm (.fn) [] [] [] [.d] [] (.tup [.lit (.map none),.b false]),10] Z (A (EQ _ f)) ?_
  rcases l with(m | g)
  ·replace h:QaM m=some r:=h
   refine Qo e [.cm (.fn) [] [] [] [.d] [] (.tup [.lit (.map none),.b false]),21,.K [4,5,6] []] Z (A (EQ _ a)) ?_
   cases h
   exact AK.done (ex_ [_,_,_] (an_ (an_ Z (an_ Z (an_ Z U))) (gives U)))
  replace h:QaN g=some r:=h
  refine Qo e [.cm (.fn) [] [(16,601)] [] [.d] [(601,.map (QB V.I V.I g))] (.tup [.map 601,.b true]),21,.K [4,5,6] [16],.ren 16 603,.K [4,5,6] [603]] Z (A (EQ _ a)) ?_
  cases h
  exact AK.done (ex_ [_,_,_] (an_ (an_ Z (an_ Z (an_ Z U))) (gives r1_)))
 replace h:Py j k=some r:=h
 obtain⟨o,c,h⟩:=Qv h
 refine Qo e [.cm (.fn) [] [(11,601)] [] [.d] [(601,.map (QB V.I V.I k))] (.tup [.map 601,.b true]),10] Z (A (EQ _ f)) ?_
 rcases o with(p | i)
 ·replace h:QaO k p=some r:=h
  refine Qo e [.cm (.fn) [] [] [] [.d] [] (.tup [.lit (.map none),.b false]),21,.K [4,5,6] [11],.ren 11 602,.K [4,5,6] [602]] Z (A (EQ _ c)) ?_
  cases h
  exact AK.done (ex_ [_,_,_] (an_ (an_ Z (an_ Z (an_ Z U))) (gives r1_)))
 replace h:QaP k i=some r:=h
 refine Qo e [.cm (.fn) [] [(16,601)] [] [.d] [(601,.map (QB V.I V.I i))] (.tup [.map 601,.b true]),21,.K [4,5,6] [11,16],.ren 11 602,.K [4,5,6] [16,602],.ren 16 603,.K [4,5,6] [602,603]] Z (A (EQ _ c)) ?_
 cases h
 exact AK.done (ex_ [_,_,_] (an_ (an_ Z (an_ Z (an_ Z U))) (gives r2_)))
def QbJ (a:Unit):O_ (QBg×Int):=some (([]:L_ (Int×Int)),1)
def QbK (a:QBg):O_ (QBg×Int):=some (([]:L_ (Int×Int)),1)
def QbL (a:QBg):O_ (QBg×Int):=some (([]:L_ (Int×Int)),1)
def Bm (b:QBg)(a:Int)(c:Int):O_ (QBg⊕Unit):=bif (1048576<((Qq (XD KM b a (Qi (((Qq b a).getD 0)+c))) a).getD 0))then some (.inr ())else some (.inl (XD KM b a (Qi (((Qq b a).getD 0)+c))))
def MU (a:QBg):O_ (QBg×Int):=(Ga a).bind λb=>some (b,0)
def RY : O_ (QBg×Int):=some (([]:L_ (Int×Int)),2)
def RZ (a:(QBg×QBg)):O_ (QBg×Int):=(CC (λst p=>Bm st p.1 p.2) a.1 a.2).bind (Sum.elim (λq=>MU q) (λq=>RY))
def Ju (a:QBg)(b:QBg):O_ (QBg×Int):=(HU a b).bind (Sum.elim (λq=>QbJ q) (Sum.elim (λq=>QbK q) (Sum.elim (λq=>QbL q) (λq=>RZ q))))
def Sa (a1 b2):CT 33 [.sl 2 (a1.map QT),.sl 2 (b2.map QT)] [] (Ju a1 b2) (λr=>(.tup [.sl 2 (r.1.map QT),.I r.2])) no_:=by
 refine W 38 func33 rfl λC g r h=>?_
 obtain⟨x7,w,h⟩:=Qv h
 refine tg_ g [10] ?_
 rcases x7 with(a8 | (a9 | (P | y)))
 ·exact have h:QbJ a8=some r:=h;J g [.cm (.fn) [] [] [] [.d,.d] [] (.tup [.lit (.map none),.lit (.map none),.b false]),25,.denil 4 [some 2]] Z (Jz _ _ w)<|F h Z Z U
 ·exact have h:QbK a9=some r:=h;J g [.cm (.fn) [] [(14,603)] [] [.d,.d] [(603,.map (QB V.I V.I a9))] (.tup [.lit (.map none),.map 603,.b false]),25,.denil 4 [some 2]] Z (Jz _ _ w)<|F h Z Z U
 ·exact have h:QbL P=some r:=h;J g [.cm (.fn) [] [(14,602)] [] [.d,.d] [(602,.map (QB V.I V.I P))] (.tup [.map 602,.lit (.map none),.b false]),25,.denil 4 [some 2]] Z (Jz _ _ w)<|F h Z Z U
 replace h:RZ y=some r:=h
 refine Qo g [.cm (.fn) [] [(14,602),(611,603)] [] [.d,.d] [(602,.map (QB V.I V.I y.1)),(603,.map (QB V.I V.I y.2))] (.tup [.map 602,.map 603,.b true]),23] Z (A (Jz _ _ w)) ?_
 refine AK.openMapK (b:=611) KN rfl λs t L12 D a2 N=>?_
 refine Qo g [.x (λσ=>(σ.set 21 (.itr s t #[] none)).put 21 (.L 21)),3,.K [6,21] [14,21,611]] Z (A (Stp.range (b:=611) Z Z (QR g.n Z) Z Z Gy Z)) ?_
 obtain⟨a3,S,h⟩:=Qv h
 refine AK.range (body:=(λst p=>Bm st p.1 p.2)) (λst seen σ=>∃cur:O_ Nat,σ=⟨[(6,.map 14),lk_ 21],[(14,.map (QB V.I V.I st)),(21,.itr s t seen cur),(611,.mapX s t (Fb V.I V.I L12) (QB V.I V.I y.2))]⟩) (λq e σ=>e=.ret/\σ=⟨[(4,.Y),(5,.I 2)],[]⟩) (λst e σ=>e=.exit 0/\σ=⟨[(6,.map 14)],[(14,.map (QB V.I V.I st))]⟩) D N S (ex_ _ rfl) ?_ ?_
 ·rintro a seen σ ⟨cur,rfl⟩ hex
  refine tg_ g [2] ?_
  refine AK.nextT (b:=21) (m:=611) rfl rfl rfl (QR g.n rfl) rfl rfl rfl rfl ?_ ?_
  ·intro hleft
   refine tg_ g [7,.K [6] [14]] ?_
   exact AK.done (Or.inl (an_ hleft (an_ (λh=>(by cases h)) (an_ Z Z))))
  intro a4 c j i
  obtain⟨o,h⟩:=hex _ i
  have ho:=h
  replace h:Bm a c j=some o:=h
  refine Qo g [10,.x (λσ=>σ.put 24 (.tup [.I c,.I j])),10,.o (.any (.I ((Qq a c).getD 0)) none),2,.x (λσ=>σ.set 14 (.map (QB V.I V.I (XD KM a c (Qi (((Qq a c).getD 0)+j)))))),6,.o (.any (.I ((Qq (XD KM a c (Qi (((Qq a c).getD 0)+j))) c).getD 0)) none),3] Z (a4_ (Stp.entryT (b:=21) (m:=611) (e:=V.I) (f:=V.I) Z Z (QR g.n Z) Z i Z Z) (λσ h1 h2 _=>Stp.lookup (e:=V.I) (f:=V.I) (l:=a) (k:=c) (z:=0) Z Z (QR g.n Z) (h1 _ _ Z) (h2 _ _ Z) (h1 _ _ Z) Gy KN IG Z) (Stp.mapUpdate (e:=V.I) (f:=V.I) (l:=a) (k:=c) (v:=(Qi (((Qq a c).getD 0)+j))) KM Z Z Z Z Z Z Gy KN Z) (λσ h1 h2 _=>Stp.lookup (e:=V.I) (f:=V.I) (l:=(XD KM a c (Qi (((Qq a c).getD 0)+j)))) (k:=c) (z:=0) Z Z (QR g.n Z) (h1 _ _ Z) (h2 _ _ Z) (h1 _ _ Z) Gy KN IG Z)) ?_
  refine bq_ g h [.T,8,.K [4,5] []] rfl (λu h=>?_) [.F,2,.K [6,21] [14,21,611]] rfl λu h=>?_
  ·cases h
   exact AK.done (Or.inr (ex_ _ (an_ i (Or.inr (ex_ _ (an_ ho (an_ (λh=>(by cases h)) (an_ Z Z))))))))
  cases h
  exact AK.done (Or.inr (ex_ _ (an_ i (Or.inl (ex_ _ (an_ ho (an_ Z (ex_ _ Z))))))))
 rcases a3 with(a | _)
 ·replace h:MU a=some r:=h
  unfold MU at h
  rintro e σ ⟨rfl,rfl⟩
  exact B h λO a0 h=>K g [5,.cm (.fn) [(618,14)] [(37,600),(14,618)] [] [.d] [(600,.arr 2 (O.map QT)),(618,.map (QB V.I V.I a))] (.own 600 O.length),5,.frz 37 (O.map QT) [4] []] Z (Ff _ _ a0) (A (Js Qc))<|F h Z Z U
 replace h:RY=some r:=h
 unfold RY at h
 rintro e σ ⟨rfl,rfl⟩
 exact H g [2,.denil 4 [some 2]] Z<|F h Z Z U
def GO (b:QMk)(c:Int)(a:QBg):O_ ((Int×QMk)⊕QMk):=(chk (b.length+([a]:L_ QBg).length<=4294967296)).bind λ_=>some (.inl ((Qi (c+1)),(b++([a]:L_ QBg))))
def MV (e:Qe)(b:Int)(d:QMk):O_ ((Int×QMk)⊕QMk):=bif (b<(e.Places.length:Int))then (idx e.Places b).bind λf=>(YL f.First).bind λa=>bif (b==e.From)then (Og ([0]:L_ Int)).bind λg=>(Ju a g).bind λc=>bif (c.2==0)then GO d b c.1 else GO d b a else GO d b a else some (.inr d)
def Qe4 (a:QMk):O_ QMk:=some a
def Gz (a:Qe):O_ QMk:=(QD (λst=>MV a st.1 st.2) (0,([]:L_ QBg))).bind (λq=>Qe4 q)
def MW (g):CT 13 [.agg (Qa g)] [] (Gz g) (λr=>(.own 600 r.length)) (λr=>[(600,.arr 1 (r.map Qh))]):=
 W 40 func13 Z λC b r h=>g3_ b [16,.o (.ln g.Places.length),4,.adopt 3 34 1,.O 34 (.arr 1 (([]:L_ QBg).map Qh)),.S 3 (.own 34 ([]:L_ QBg).length)] Z Qc Z (congrArg (λn=>V.own 34 n) (by simp))<|lp_ h (λst=>⟨[lk_ 1,(3,.own 34 st.2.length),(10,.sl 3 (g.Places.map Qp)),(11,.I (g.Places.length:Int)),(12,.I st.1)],[(1,.var (Qa g)),(34,.arr 1 (st.2.map Qh))]⟩) (λq=>(.exit 0,⟨[(3,.own 34 q.length)],[(34,.arr 1 (q.map Qh))]⟩)) Z (λ⟨y,m⟩ o h=>H b [6] Z<|I h (λj h=>B h λk p h=>B h λi s h=>G b [.T,7,.o (.row (Qp k)),.A (Qp k),3,.O 5 (.var (Qp k)),6,.o (.co false [.d] 2 (i.map QT) i.length),3] Z (a5_ j (Xi p) Z Z ⟨(UA _ _ s),Qc,.inl Z⟩)<|mE_ (λa:QBg=>⟨[lk_ 1,(3,.own 34 m.length),(6,.sl 2 (a.map QT)),(10,.sl 3 (g.Places.map Qp)),(11,.I (g.Places.length:Int)),(12,.I y)],[(1,.var (Qa g)),(34,.arr 1 (m.map Qh))]⟩) (λa=>GO m y a=some o) (H b [8] Z<|I h (λe h=>B h λl t h=>B h λu w h=>G b [.T,3,.v (.bd []) [] (.sl 1 (([0]:L_ Int).map Qb)),.o (.co false [.d] 2 (l.map QT) l.length),.frz 27 (l.map QT) [27] [],.frz 19 (i.map QT) [6,19,25] [],.o (.C2 (.tup [.sl 2 (u.1.map QT),.I u.2])),13] Z (a6_ e Z ⟨(QdJ _ _ t),Qc,.inl Z⟩ (A (Js Qc)) (a3_ (Js Qc) (Js Qc) (Js Qc)) (Sa _ _ _ w))<|I h (λf h=>J b [.T,4] Z f<|me_ h Z) λf h=>J b [.F,1] Z f<|me_ h Z) λe h=>K b [.F,1,.frz 19 (i.map QT) [6] []] Z e (A (Js Qc))<|me_ h Z) λa h=>X h λx h=>K b [3,.v (.bd []) [] (.sl 1 (([a]:L_ QBg).map Qh)),.app ((m++([a]:L_ QBg)).map Qh) (m++([a]:L_ QBg)).length,8] Z Z ⟨Qc,Jf x Qc,XY,Jw Qc⟩<|rN_ h Z) λj h=>J b [.F,2] Z j<|rX_ h Z) λz h=>H b [9,.K [2] [34],.ren 34 600] Z<|E h Z r1_
def Jx (a:QMk):O_ QMk:=(chk ((([]:L_ QBg).length+a.length)*24<=140737488355328)).bind λ_=>some (([]:L_ QBg)++a)
def FX (b):CT 103 [.sl 1 (b.map Qh)] [] (Jx b) (λr=>(.own 600 r.length)) (λr=>[(600,.arr 1 (r.map Qh))]):=by
 refine W 8 func103 rfl λC a r h=>?_
 unfold Jx at h
 refine tg_ a [9] ?_
 refine AK.eqNil rfl rfl rfl (QR a.n rfl) rfl rfl Qoz ?_ ?_
 ·intro c
  replace h:some ([]:L_ QBg)=some r:=by simpa[chk,List.map_eq_nil_iff.1 c] using h
  exact K a [10,.adopt 2 600 1,.O 600 (.arr 1 (([]:L_ QBg).map Qh)),.S 2 (.own 600 ([]:L_ QBg).length)] Z Z Z<|E h Z r1_
 exact X h λd h=>g3_ a [8,.O 5 (.arr 1 (([]:L_ QBg).map Qh)),.S 5 (.own 5 ([]:L_ QBg).length),1,.x (λσ=>σ.app 5 1 7 (([]:L_ QBg)++b).length ((([]:L_ QBg)++b).map Qh)),4,.K [2] [5],.ren 5 600] Z Z Z (Stp.appSB (by_:=24) (zs:=[.Y]) (e:=70) (e':=70) (z':=1) (by':=24) Z Z (QR a.n Z) Z Z Z Qc (by kernel_rfl) (by kernel_rfl) (by kernel_rfl) Z (by decide) (by decide) (QcM d Qc) Z XY (Jw Qc))<|E h Z r1_
def HV (e:QMk)(a:Int)(b:QMk):O_ ((Int×QMk)⊕QMk):=bif (a<(e.length:Int))then (idx b a).bind λc=>(YL c).bind λd=>(idx b a).bind λf=>some (.inl ((Qi (a+1)),(b.set a.toNat d)))else some (.inr b)
def Qgh (a:QMk):O_ QMk:=some a
def Aw (b:QMk):O_ QMk:=(Jx b).bind λa=>(QD (λst=>HV a st.1 st.2) (0,a)).bind (λq=>Qgh q)
def HW (s):CT 60 [.sl 1 (s.map Qh)] [] (Aw s) (λr=>(.own 600 r.length)) (λr=>[(600,.arr 1 (r.map Qh))]):=
 W 22 func60 Z λC f r h=>B h λi j h=>J f [8,.o (.co false [.d] 1 (i.map Qh) i.length),12] Z ⟨(FX _ _ j),Qc,.inl Z⟩<|lp_ h (λst=>⟨[(3,.own 7 st.2.length),(8,.own 7 st.2.length),(9,.I (i.length:Int)),(10,.I st.1)],[(7,.arr 1 (st.2.map Qh))]⟩) (λq=>(.exit 0,⟨[(3,.own 7 q.length)],[(7,.arr 1 (q.map Qh))]⟩)) Z (λ⟨k,l⟩ o h=>H f [6] Z<|I h (λb h=>B h λm c h=>B h λa g h=>B h λp e h=>G f [.T,8,.o (.row (Qh m)),8,.o (.co false [.d] 2 (a.map QT) a.length),1,.frz 18 (a.map QT) [18] [],.st (Qh p) ((l.set k.toNat a).map Qh),7,.S 3 (.own 7 (l.set k.toNat a).length),.S 8 (.own 7 (l.set k.toNat a).length)] Z (a9_ b (YN c Z) (XU (Jr c).2) ⟨(UA _ _ g),Qc,.inl Z⟩ (YN e Z) (A (Js Qc)) ⟨(XU (Jr e).2),Bf Z⟩ (congrArg (λn=>V.own 7 n) (by simp)) (congrArg (λn=>V.own 7 n) (by simp)))<|rN_ h Z) λb h=>J f [.F,2] Z b<|rX_ h Z) λt h=>H f [9,.K [2] [7],.ren 7 600] Z<|E h Z r1_
def QdS (c:Int)(a:Int)(b:LI_):O_ ((Int×LI_)⊕LI_):=bif (0<=a)then (chk (0<=(Qi (8*a)))).bind λ_=>(chk (b.length+([(IntKind.u8.wrap (Jk .i64 c (Qi (8*a))))]:L_ Int).length<=4294967296)).bind λ_=>some (.inl ((Qi (a-1)),(b++([(IntKind.u8.wrap (Jk .i64 c (Qi (8*a))))]:L_ Int))))else some (.inr b)
def QdT (b:Int)(a:LI_):O_ ((Int×LI_)⊕LI_):=some (.inl ((Qi (b+1)),a))
def QdU (d:LI_)(a:Int)(b:Int)(e:LI_):O_ ((Int×LI_)⊕LI_):=bif (b<(d.length:Int))then (idx d b).bind λc=>(QD (λst=>QdS c st.1 st.2) ((Qi (a-1)),e)).bind (λq=>QdT b q)else some (.inr e)
def QdV (a:LI_):O_ LI_:=some a
def Pz (a:Int)(b:LI_):O_ LI_:=(QD (λst=>QdU b a st.1 st.2) (0,([]:L_ Int))).bind (λq=>QdV q)
def QdW (a g):CT 228 [.Y,.I a,.sl 1 (g.map Qb)] [] (Pz a g) (λr=>(.own 600 r.length)) (λr=>[(600,.arr 1 (r.map YE))]):=
 W 32 func228 Z λC c r h=>g3_ c [9,.o (.ln g.length),4,.adopt 0 22 1,.O 22 (.arr 1 (([]:L_ Int).map YE)),.S 0 (.own 22 ([]:L_ Int).length)] Z Qc Z (congrArg (λn=>V.own 22 n) (by simp))<|lp_ h (λst=>⟨[(0,.own 22 st.2.length),(1,.I a),(10,.sl 1 (g.map Qb)),(11,.I (g.length:Int)),(12,.I st.1)],[(22,.arr 1 (st.2.map YE))]⟩) (λq=>(.exit 0,⟨[(0,.own 22 q.length)],[(22,.arr 1 (q.map YE))]⟩)) Z (λ⟨s,w⟩ o h=>H c [6] Z<|I h (λd h=>B h λb j h=>K c [.T,6,.o (.row (Qb b)),12] Z d (Xi j)<|lp_ h (λst=>⟨[(0,.own 22 st.2.length),(1,.I a),(8,.I b),(9,.I st.1),(10,.sl 1 (g.map Qb)),(11,.I (g.length:Int)),(12,.I s)],[(22,.arr 1 (st.2.map YE))]⟩) (λq=>(.exit 2,⟨[(0,.own 22 q.length),(1,.I a),(10,.sl 1 (g.map Qb)),(11,.I (g.length:Int)),(12,.I s)],[(22,.arr 1 (q.map YE))]⟩)) Z (λ⟨e,k⟩ o h=>H c [7] Z<|I h (λf h=>X h λl h=>X h λm h=>G c [.T,9,.o (.any (.I (Jk .i64 b (Qi (8*e)))) none),.o (.any (.i .u8 (IntKind.u8.wrap (Jk .i64 b (Qi (8*e))))) none),.v (.bd []) [] (.sl 1 (([(IntKind.u8.wrap (Jk .i64 b (Qi (8*e))))]:L_ Int).map YE)),.app ((k++([(IntKind.u8.wrap (Jk .i64 b (Qi (8*e))))]:L_ Int)).map YE) (k++([(IntKind.u8.wrap (Jk .i64 b (Qi (8*e))))]:L_ Int)).length,9] Z (a5_ f (λσ p t _=>Stp.shr Z Z (QR c.n Z) (p _ _ Z) (p _ _ Z) (Xs l)) (λσ p t _=>Stp.convI Z Z (QR c.n Z) (p _ _ Z) QdR QjM) Z ⟨Qc,Jf m Qc,XY,Jw Qc⟩)<|rN_ h Z) λf h=>J c [.F,2] Z f<|rX_ h Z) λu h=>H c [7] Z<|rN_ h Z) λd h=>J c [.F,2] Z d<|rX_ h Z) λx h=>H c [9,.K [6] [22],.ren 22 600] Z<|E h Z r1_
def EY (c:Int)(a:Int)(b:LI_):O_ ((Int×LI_)⊕LI_):=bif (0<=a)then (chk (0<=(Qi (8*a)))).bind λ_=>(chk (b.length+([(IntKind.u8.wrap (Jk .i64 c (Qi (8*a))))]:L_ Int).length<=4294967296)).bind λ_=>some (.inl ((Qi (a-1)),(b++([(IntKind.u8.wrap (Jk .i64 c (Qi (8*a))))]:L_ Int))))else some (.inr b)
def Sb (b:Int)(a:LI_):O_ ((Int×LI_)⊕LI_):=some (.inl ((Qi (b+1)),a))
def Ca (d:LI_)(a:Int)(b:Int)(e:LI_):O_ ((Int×LI_)⊕LI_):=bif (b<(d.length:Int))then (idx d b).bind λc=>(QD (λst=>EY c st.1 st.2) ((Qi (a-1)),e)).bind (λq=>Sb b q)else some (.inr e)
def QdX (a:LI_):O_ LI_:=some a
def UN (b:LI_)(a:Int)(c:LI_):O_ LI_:=(QD (λst=>Ca c a st.1 st.2) (0,b)).bind (λq=>QdX q)
def Sc (s a g):CT 228 [.own 616 s.length,.I a,.sl 1 (g.map Qb)] [(616,.arr 1 (s.map YE))] (UN s a g) (λr=>(.own 616 r.length)) (λr=>[(616,.arr 1 (r.map YE))]):=
 W 32 func228 Z λC c r h=>J c [9,.o (.ln g.length),4] Z Qc<|lp_ h (λst=>⟨[(0,.own 616 st.2.length),(1,.I a),(10,.sl 1 (g.map Qb)),(11,.I (g.length:Int)),(12,.I st.1)],[(616,.arr 1 (st.2.map YE))]⟩) (λq=>(.exit 0,⟨[(0,.own 616 q.length)],[(616,.arr 1 (q.map YE))]⟩)) Z (λ⟨t,y⟩ o h=>H c [6] Z<|I h (λd h=>B h λb j h=>K c [.T,6,.o (.row (Qb b)),12] Z d (Xi j)<|lp_ h (λst=>⟨[(0,.own 616 st.2.length),(1,.I a),(8,.I b),(9,.I st.1),(10,.sl 1 (g.map Qb)),(11,.I (g.length:Int)),(12,.I t)],[(616,.arr 1 (st.2.map YE))]⟩) (λq=>(.exit 2,⟨[(0,.own 616 q.length),(1,.I a),(10,.sl 1 (g.map Qb)),(11,.I (g.length:Int)),(12,.I t)],[(616,.arr 1 (q.map YE))]⟩)) Z (λ⟨e,k⟩ o h=>H c [7] Z<|I h (λf h=>X h λl h=>X h λm h=>G c [.T,9,.o (.any (.I (Jk .i64 b (Qi (8*e)))) none),.o (.any (.i .u8 (IntKind.u8.wrap (Jk .i64 b (Qi (8*e))))) none),.v (.bd []) [] (.sl 1 (([(IntKind.u8.wrap (Jk .i64 b (Qi (8*e))))]:L_ Int).map YE)),.app ((k++([(IntKind.u8.wrap (Jk .i64 b (Qi (8*e))))]:L_ Int)).map YE) (k++([(IntKind.u8.wrap (Jk .i64 b (Qi (8*e))))]:L_ Int)).length,9] Z (a5_ f (λσ p u _=>Stp.shr Z Z (QR c.n Z) (p _ _ Z) (p _ _ Z) (Xs l)) (λσ p u _=>Stp.convI Z Z (QR c.n Z) (p _ _ Z) QdR QjM) Z ⟨Qc,Jf m Qc,XY,Jw Qc⟩)<|rN_ h Z) λf h=>J c [.F,2] Z f<|rX_ h Z) λw h=>H c [7] Z<|rN_ h Z) λd h=>J c [.F,2] Z d<|rX_ h Z) λx h=>H c [9] Z<|E h Z r1_
def LZ (a:QBg):O_ Bool:=(Wx a).bind λb=>bif (!b)then some true else bif (65535<(a.length:Int))then some true else bif (0<(a.length:Int))then (idx a (Qi ((a.length:Int)-1))).bind λc=>some (decide (4294967295<c.1))else some false
def Cb (b:QBg)(a:Int)(c:LI_):O_ ((Int×LI_)⊕LI_):=bif (a<(b.length:Int))then (idx b a).bind λd=>(UN c 4 ([d.1,d.2]:L_ Int)).bind λe=>some (.inl ((Qi (a+1)),e))else some (.inr c)
def Sd (b:Int)(a:LI_):O_ ((Int×LI_)⊕(Unit⊕LI_)):=some (.inl ((Qi (b+1)),a))
def Se (b:LI_)(a:QBg)(e:Int)(c:Bool):O_ ((Int×LI_)⊕(Unit⊕LI_)):=bif c then some (.inr (.inl ()))else (UN b 2 ([(a.length:Int)]:L_ Int)).bind λd=>(QD (λst=>Cb a st.1 st.2) (0,d)).bind (λq=>Sd e q)
def Cc (e:QMk)(c:Int)(a:LI_):O_ ((Int×LI_)⊕(Unit⊕LI_)):=bif (c<(e.length:Int))then (idx e c).bind λb=>(LZ b).bind (λd=>Se a b c d)else some (.inr (.inr a))
def QdY : O_ (LI_×Int):=some (([]:L_ Int),1)
def QdZ (a:LI_):O_ (LI_×Int):=some (a,0)
def UO (a:QMk):O_ (LI_×Int):=bif (64<(a.length:Int))then some (([]:L_ Int),1)else (Pz 1 ([(a.length:Int)]:L_ Int)).bind λb=>(QD (λst=>Cc a st.1 st.2) (0,b)).bind (Sum.elim (λq=>QdY) (λq=>QdZ q))
def Sf (f):CT 160 [.sl 1 (f.map Qh)] [] (UO f) (λr=>(.tup [.sl 1 (r.1.map YE),.I r.2])) no_:=
 W 66 func160 Z λC a r h=>J a [10,.o (.ln f.length),3] Z Qc<|I h (λs h=>J a [.T,8,.denil 2 [some 1]] Z s<|F h Z Z U) λs h=>B h λx7 a1 h=>G a [.F,5,.o (.ln f.length),.v (.bd []) [] (.sl 1 (([(f.length:Int)]:L_ Int).map Qb)),.cm (.fn) [] [(15,600)] [] [.d,.d,.d] [(600,.arr 1 (x7.map YE))] (.own 600 x7.length),7,.o (.ln f.length),4] Z (a5_ s Qc Z (QdW _ _ _ a1) Qc)<|lq_ h (λst=>⟨[(4,.own 15 st.2.length),(16,.sl 1 (f.map Qh)),(17,.I (f.length:Int)),(18,.I st.1)],[(15,.arr 1 (st.2.map YE))]⟩) (λq=>(.ret,⟨[(2,.Y),(3,.I 1)],[]⟩)) (λq=>(.exit 0,⟨[(4,.own 15 q.length)],[(15,.arr 1 (q.map YE))]⟩)) Z (λ⟨x9,u⟩ o h=>H a [6] Z<|I h (λg h=>B h λe w h=>K a [.T,6,.o (.row (Qh e)),6] Z g (Xi w)<|mV_ h (λt=>⟨[(4,.own 15 u.length),(6,.sl 2 (e.map QT)),(16,.sl 1 (f.map Qh)),(17,.I (f.length:Int)),(18,.I x9),(44,.b t)],[(15,.arr 1 (u.map YE))]⟩) (λt h=>B h λa2 x h=>J a [2,.o (.C1 (.b a2)),2] Z (HT _ _ x)<|I h (λi h=>L a [.S 25 (.b true),20] Z i<|mq_ h Z) λi h=>G a [.S 25 (.b false),1,.o (.ln e.length),3] Z ⟨(tc_ i),Qc⟩<|I h (λj h=>L a [.S 30 (.b true),15] Z j<|mq_ h Z) λj h=>G a [.S 30 (.b false),1,.o (.ln e.length),2] Z ⟨(tc_ j),Qc⟩<|I h (λk h=>B h λa3 y h=>G a [.S 34 (.b true),2,.o (.ln e.length),1,.o (.row (QT a3)),6] Z ⟨⟨(tc_ k),Qc⟩,(Xi y)⟩<|mq_ h Z) λk h=>L a [.S 34 (.b false),11] Z k<|mq_ h Z) λt h=>H a [1] Z<|I h (λl h=>J a [.T,10] Z l<|rR_ h Z) λl h=>B h λz D h=>G a [.F,6,.o (.ln e.length),.v (.bd []) [] (.sl 1 (([(e.length:Int)]:L_ Int).map Qb)),.cm (.fn) [(616,15)] [(15,616)] [15] [.d,.d,.d] [(616,.arr 1 (z.map YE))] (.own 616 z.length),6,.o (.ln e.length),4] Z (a5_ l Qc Z (Sc _ _ _ _ D) Qc)<|lp_ h (λst=>⟨[(4,.own 15 st.2.length),(16,.sl 1 (f.map Qh)),(17,.I (f.length:Int)),(18,.I x9),(50,.sl 2 (e.map QT)),(51,.I (e.length:Int)),(52,.I st.1)],[(15,.arr 1 (st.2.map YE))]⟩) (λq=>(.exit 2,⟨[(4,.own 15 q.length),(16,.sl 1 (f.map Qh)),(17,.I (f.length:Int)),(18,.I x9)],[(15,.arr 1 (q.map YE))]⟩)) Z (λ⟨a5,a6⟩ o h=>H a [6] Z<|I h (λm h=>B h λp N h=>B h λP a0 h=>G a [.T,6,.o (.row (QT p)),.A (QT p),2,.O 8 (.var (QT p)),8,.v (.bd []) [] (.sl 1 (([p.1,p.2]:L_ Int).map Qb)),.cm (.fn) [(616,15)] [(15,616)] [15] [.d,.d,.d] [(616,.arr 1 (P.map YE))] (.own 616 P.length),8] Z (a6_ m (Xi N) Z Z Z (Sc _ _ _ _ a0))<|rN_ h Z) λm h=>J a [.F,2] Z m<|rX_ h Z) λa7 h=>H a [7] Z<|rN_ h Z) λg h=>J a [.F,2] Z g<|rX_ h Z) (λ_ h=>H a [2,.denil 2 [some 1]] Z<|F h Z Z U) (λa4 h=>J a [10,.frz 15 (a4.map YE) [2] []] Z (A (Js Qc))<|F h Z Z U)
def OR (a:QMk):O_ ByteArray:=(UO a).bind λb=>some (Fw b.1)
def VV (e):CT 104 [.sl 1 (e.map Qh)] [] (OR e) V.s no_:=
 W 12 func104 Z λC f r h=>B h λa b h=>K f [8,.o (.C1 (.tup [.sl 1 (a.1.map YE),.I a.2])),10,.o (.any (.s (Fw a.1)) none),4] Z (Sf _ _ b) (λσ g i _=>Stp.b2s Z Z (QR f.n Z) (g _ _ Z) Z QkX QjM (Qt.sb Z))<|E h Z U
def Wy (g:(L_ QI))(h:(L_ QM))(i:(L_ QG))(j:Int)(k:Int)(f:Int)(d:(L_ (ByteArray×Int)))(b:(L_ QMk))(m:(L_ QZ))(c:Bool)(a:QMk):O_ (Int×(L_ QMk)×(L_ QI)×(L_ QM)×(L_ QG)×Int×Int×Int×Bool×(L_ (ByteArray×Int))):=(OR a).bind λe=>bif (Qq d e).isSome then some (((Qq d e).getD 0),b,g,h,i,j,k,f,c,d)else bif ((min2 f 4096)<=(b.length:Int))then some ((-1),b,g,h,i,j,k,f,c,d)else (OR a).bind λl=>(chk (b.length+([a]:L_ QMk).length<=4294967296)).bind λ_=>some ((b.length:Int),(b++([a]:L_ QMk)),g,h,i,j,k,f,c,(XD NV d l (b.length:Int)))
def Fx (v1 v2 v3 v4 v5 v6 t q x u g):CT 61 [.L 618,.sl 1 (g.map Qh)] [(618,.var [.sl 7 (v1.map Qr),.sl 3 (v2.map Qp),.sl 14 (v3.map Qg),.I v4,.I v5,.I v6,.map 619,.own 616 q.length,.own 617 x.length,.b u]),(619,.map (QB V.s V.I t)),(616,.arr 1 (q.map Qx)),(617,.arr 6 (x.map Xb))] (Wy v1 v2 v3 v4 v5 v6 t q x u g) (λr=>(.I r.1)) (λr=>[(616,.arr 1 (r.2.1.map Qx)),(617,.arr 6 (x.map Xb)),(618,.var [.sl 7 (r.2.2.1.map Qr),.sl 3 (r.2.2.2.1.map Qp),.sl 14 (r.2.2.2.2.1.map Qg),.I r.2.2.2.2.2.1,.I r.2.2.2.2.2.2.1,.I r.2.2.2.2.2.2.2.1,.map 619,.own 616 r.2.1.length,.own 617 x.length,.b r.2.2.2.2.2.2.2.2.1]),(619,.map (QB V.s V.I r.2.2.2.2.2.2.2.2.2))]):=
 W 59 func61 Z λC i r h=>B h λp D h=>H i [6,.K [0,1] [616,617,618,619]] Z <| 
  dr_ i [.N,.N,.N,.N,.N,.B (.C1 (.s p)),.B (.any (.tup [.I ((Qq t p).getD 0),.b (Qq t p).isSome]) none),.N,.N,.N,.N,.N] [] [] [0,1,5,6] [616,617,618,619] Z Z (a2_ (VV _ _ D) (λσ y h2 _=>Stp.lookupOk (e:=V.s) (f:=V.I) (l:=t) (k:=p) (z:=0) Z Z (QR i.n Z) (y _ _ Z) (h2 _ _ Z) (y _ _ Z) QkV Qak IG Z Z)) Z <|
  H i [9] Z<|I h (λj h=>J i [.T,9] Z j<|E h Z r4_) λj h=>G i [.F,1,.K [0,1] [616,617,618,619]] Z (A j) <| 
  dr_ i [.N,.N,.N,.N,.N,.N,.N,.N,.N,.N,.N,.N,.N] [] [] [0,1,20] [616,617,618,619] Z Z U Z <|
  H i [1] Z<|I h (λo h=>J i [.T,8] Z o<|E h Z r4_) λo h=>B h λw P h=>G i [.F,15,.K [0,1,5] [616,617,618,619]] Z (A o) <| 
  dr_ i [.N,.N,.N,.N,.N,.B (.C1 (.s w)),.N,.m (.any ⟨[],[(619,.map (QB V.s V.I (XD NV t w (q.length:Int))))],none⟩)] [] [] [0,1,5] [616,617,618,619] Z Z (a2_ (VV _ _ P) (λσ y h2=>Stp.mapUpdate (e:=V.s) (f:=V.I) (l:=t) (k:=w) (v:=(q.length:Int)) NV Z Z (y _ _ Z) (h2 _ _ Z) (y _ _ Z) (y _ _ Z) QkV Qak Z)) Z <|
  X h λS h=>g3_ i [10,.v (.bd []) [] (.sl 1 (([g]:L_ QMk).map Qx)),.app ((q++([g]:L_ QMk)).map Qx) (q++([g]:L_ QMk)).length,4,.O 618 (.var [.sl 7 (v1.map Qr),.sl 3 (v2.map Qp),.sl 14 (v3.map Qg),.I v4,.I v5,.I v6,.map 619,.own 616 (q++([g]:L_ QMk)).length,.own 617 x.length,.b u]),9] Z Z ⟨Qc,Jf S Qc,XY,Jw Qc⟩ Z<|E h Z r4_
def VW (a:Unit):O_ Int:=some 0
noncomputable def Ke (n9:Int)(D:Int)(h:Int):O_ (Int⊕Empty):=some (.inl (Qi (n9+h)))
def Oh (a:Int):O_ Int:=some a
noncomputable def Bn (h:QBg):O_ Int:=(CC (λst p=>Ke st p.1 p.2) 0 h).bind (Sum.elim (λq=>Oh q) (λq=>Empty.elim q))
def ER (a:QBg):O_ Int:=(BZ a).bind (Sum.elim (λq=>VW q) (λq=>Bn q))
def Oi (z):CT 38 [.sl 2 (z.map QT)] [] (ER z) V.I no_:=by
 refine W 23 func38 rfl λC a r h=>?_
 obtain⟨N,j,h⟩:=Qv h
 refine tg_ a [8] ?_
 rcases N with(O | v)
 ·exact have h:VW O=some r:=h;K a [.cm (.fn) [] [] [] [.d] [] (.tup [.lit (.map none),.b false]),16,.x (λσ=>(σ.set 14 .itr0).put 14 (.L 14)),3] Z (EQ _ j) (Stp.range0 Z Z (QR a.n Z) Z Gy Z)<|AK.loopOnce<|J a [2,.x (λσ=>σ.put 15 (.tup [.b false])),17] Z (Stp.next0 Z Z (QR a.n Z) Z Z)<|E h Z U
 replace h:Bn v=some r:=h
 refine Qo a [.cm (.fn) [] [(10,601)] [] [.d] [(601,.map (QB V.I V.I v))] (.tup [.map 601,.b true]),16] Z (A (EQ _ j)) ?_
 refine AK.openMap (b:=10) KN rfl λc g L7 k l=>?_
 refine Qo a [.x (λσ=>(σ.set 14 (.itr c g #[] none)).put 14 (.L 14)),3,.K [5,14] [10,14]] Z (A (Stp.range (b:=10) Z Z (QR a.n Z) Z Z Gy Z)) ?_
 obtain⟨w,s,h⟩:=Qv h
 refine AK.range (body:=(λst p=>Ke st p.1 p.2)) (λst seen σ=>∃cur:O_ Nat,σ=⟨[(5,.I st),lk_ 14],[(10,.mapX c g (Fb V.I V.I L7) (QB V.I V.I v)),(14,.itr c g seen cur)]⟩) (λ(q:Empty) _ _=>False) (λst e σ=>e=.exit 0/\σ=⟨[(5,.I st)],[]⟩) k l s (ex_ _ rfl) ?_ ?_
 ·rintro y seen σ ⟨cur,rfl⟩ hex
  refine tg_ a [2] ?_
  refine AK.nextT (b:=14) (m:=10) rfl rfl rfl (QR a.n rfl) rfl rfl rfl rfl ?_ ?_
  ·intro hleft
   refine tg_ a [7,.K [5] []] ?_
   exact AK.done (Or.inl (an_ hleft (an_ (λh=>(by cases h)) (an_ Z Z))))
  intro D t u i
  obtain⟨o,h⟩:=hex _ i
  have ho:=h
  replace h:Ke y t u=some o:=h
  refine Qo a [10,.x (λσ=>σ.put 17 (.tup [.I t,.I u])),11,.K [5,14] [10,14]] Z (A (Stp.entryT (b:=14) (m:=10) (e:=V.I) (f:=V.I) Z Z (QR a.n Z) Z i Z Z)) ?_
  cases h
  exact AK.done (Or.inr (ex_ _ (an_ i (Or.inl (ex_ _ (an_ ho (an_ Z (ex_ _ Z))))))))
 rcases w with(y | q)
 ·replace h:Oh y=some r:=h
  unfold Oh at h
  rintro e σ ⟨rfl,rfl⟩
  exact H a [9] Z<|E h Z U
 exact q.elim
def Fy (c:QMk)(d:Int)(a:Int):O_ ((Int×Int)⊕Int):=bif (a<(c.length:Int))then (idx c a).bind λe=>(ER e).bind λb=>some (.inl ((Qi (d+b)),(Qi (a+1))))else some (.inr d)
def Qe5 (a:Int):O_ Int:=some a
def Hj (a:QMk):O_ Int:=(QD (λst=>Fy a st.1 st.2) (0,0)).bind (λq=>Qe5 q)
def Tz (b):CT 49 [.sl 1 (b.map Qh)] [] (Hj b) V.I no_:=
 W 18 func49 Z λC e r h=>J e [14,.o (.ln b.length),4] Z Qc<|lp_ h (λst=>⟨[(3,.I st.1),(6,.sl 1 (b.map Qh)),(7,.I (b.length:Int)),(8,.I st.2)],[]⟩) (λq=>(.exit 0,⟨[(3,.I q)],[]⟩)) Z (λ⟨k,l⟩ o h=>H e [6] Z<|I h (λa h=>B h λj g h=>B h λi f h=>g3_ e [.T,6,.o (.row (Qh j)),7,.o (.C1 (.I i)),9] Z a (Xi g) (Oi _ _ f)<|rN_ h Z) λa h=>J e [.F,2] Z a<|rX_ h Z) λm h=>H e [9] Z<|E h Z U
def Ei (a:QLL):O_ QLL:=some a
def QcT (b:Int)(a:Int)(c:LI_):O_ ((Int×LI_)⊕LI_):=bif (a<b)then (chk (c.length+([a]:L_ Int).length<=4294967296)).bind λ_=>some (.inl ((Qi (a+1)),(c++([a]:L_ Int))))else some (.inr c)
def QcU (a:LI_):O_ QLL:=some ([a]:L_ LI_)
def QcV (b:Int)(a:Int)(c:QLL):O_ ((Int×QLL)⊕QLL):=bif (a<b)then (chk (c.length+([([a]:L_ Int)]:L_ LI_).length<=4294967296)).bind λ_=>some (.inl ((Qi (a+1)),(c++([([a]:L_ Int)]:L_ LI_))))else some (.inr c)
def QcW (a:QLL):O_ QLL:=Ei a
def IH (a:Int)(b:LI_):O_ ((Int×LI_)⊕LI_):=some (.inl ((Qi (a+1)),b))
def QcX (c:Int)(h:Int)(a:Int)(b:LI_):O_ ((Int×LI_)⊕LI_):=bif (a<c)then (chk (0<=a)).bind λ_=>bif ((DM .i64 (Jk .i64 h a) 1)==1)then (chk (b.length+([a]:L_ Int).length<=4294967296)).bind λ_=>IH a (b++([a]:L_ Int))else IH a b else some (.inr b)
def QcY (a:QLL)(h:Int)(b:LI_):O_ ((Int×QLL)⊕QLL):=(chk (a.length+([b]:L_ LI_).length<=4294967296)).bind λ_=>some (.inl ((Qi (h+1)),(a++([b]:L_ LI_))))
def QcZ (a:Int)(h:Int)(b:QLL):O_ ((Int×QLL)⊕QLL):=(chk (0<=a)).bind λ_=>bif (h<(QjF .i64 1 a))then (QD (λst=>QcX a h st.1 st.2) (0,([]:L_ Int))).bind (λq=>QcY b h q)else some (.inr b)
def QbM (a:QLL):O_ QLL:=Ei a
def We (b:Int)(a:Int):O_ QLL:=
 bif ((a<0)||((16<a)||((b==3)&&(4<a))))then
 some ([]:L_ LI_)
 else
 bif (b==1)then
 (QD (λst=>QcT a st.1 st.2) (0,([]:L_ Int))).bind (λq=>QcU q)
 else
 bif (b==2)then
 (QD (λst=>QcV a st.1 st.2) (0,([]:L_ LI_))).bind (λq=>QcW q)
 else
 bif (b==3)then
 (QD (λst=>QcZ a st.1 st.2) (1,([]:L_ LI_))).bind (λq=>QbM q)
 else
 Ei ([]:L_ LI_)
def II (d a):CT 169 [.I d,.I a] [] (We d a) (λr=>(.own 600 r.length)) (λr=>[(600,.arr 1 (r.map QQ))]):=
 W 79 func169 Z λC c r h=>H c [7] Z<|Y ⟨[(0,.I d),(1,.I a),(25,.b ((a<0)||((16<a)||((d==3)&&(4<a)))))],[]⟩ (H c [4] Z<|bO_ (decide (a<0)) (λf=>G c [.S 14 (.b true),12,.S 25 (.b ((a<0)||((16<a)||((d==3)&&(4<a)))))] Z ⟨(tc_ f),(cb_ (Eh f Z))⟩<|M Z) λf=>L c [.S 14 (.b false),4] Z f<|bO_ (decide (16<a)) (λi=>G c [.S 18 (.b true),8,.S 25 (.b ((a<0)||((16<a)||((d==3)&&(4<a)))))] Z ⟨(tc_ i),(cb_ (Ji f (Eh i Z)))⟩<|M Z) λi=>L c [.S 18 (.b false),3] Z i<|bO_ (d==3) (λj=>G c [.S 21 (.b true),5,.S 25 (.b ((a<0)||((16<a)||((d==3)&&(4<a)))))] Z ⟨(tc_ j),(cb_ (Ji f (Ji i (Yx j Z))))⟩<|M Z) λj=>G c [.S 21 (.b false),5,.S 25 (.b ((a<0)||((16<a)||((d==3)&&(4<a)))))] Z ⟨(tc_ j),(cb_ (Ji f (Ji i (KL j Z))))⟩<|M Z)<|H c [1] Z<|I h (λP h=>g3_ c [.T,7,.adopt 4 600 1,.O 600 (.arr 1 (([]:L_ LI_).map QQ)),.S 4 (.own 600 ([]:L_ LI_).length)] Z P Z Z<|E h Z r1_) λP h=>J c [.F,7] Z P<|mE_ (λk:QLL=>⟨[(5,.own 604 k.length)],[(604,.arr 1 (k.map QQ))]⟩) (λk=>Ei k=some r) (H c [12] Z<|I h (λl h=>g3_ c [.T,13,.adopt 6 33 1,.O 33 (.arr 1 (([]:L_ Int).map Qb)),.S 6 (.own 33 ([]:L_ Int).length)] Z l Z (congrArg (λn=>V.own 33 n) (by simp))<|lp_ h (λst=>⟨[(6,.own 33 st.2.length),(29,.I a),(30,.I st.1)],[(33,.arr 1 (st.2.map Qb))]⟩) (λq=>(.exit 1,⟨[(6,.own 33 q.length)],[(33,.arr 1 (q.map Qb))]⟩)) Z (λ⟨a0,a2⟩ o h=>H c [6] Z<|I h (λm h=>X h λa3 h=>g3_ c [.T,13,.v (.bd []) [] (.sl 1 (([a0]:L_ Int).map Qb)),.app ((a2++([a0]:L_ Int)).map Qb) (a2++([a0]:L_ Int)).length,8] Z m Z ⟨Qc,Jf a3 Qc,XY,Jw Qc⟩<|rN_ h Z) λm h=>J c [.F,2] Z m<|rX_ h Z) λa1 h=>g3_ c [5,.frz 33 (a1.map Qb) [6,38] [],1,.O 39 (.arr 1 (([a1]:L_ LI_).map QQ)),.S 39 (.own 39 ([a1]:L_ LI_).length),6,.K [4] [39],.ren 39 600] Z (a2_ (Js Qc) (Js Qc)) Z Z<|E h Z r1_) λl h=>J c [.F,6] Z l<|I h (λp h=>g3_ c [.T,7,.adopt 5 46 1,.O 46 (.arr 1 (([]:L_ LI_).map QQ)),.S 5 (.own 46 ([]:L_ LI_).length)] Z p Z (congrArg (λn=>V.own 46 n) (by simp))<|lp_ h (λst=>⟨[(5,.own 46 st.2.length),(42,.I a),(43,.I st.1)],[(46,.arr 1 (st.2.map QQ))]⟩) (λq=>(.exit 3,⟨[(5,.own 46 q.length)],[(46,.arr 1 (q.map QQ))]⟩)) Z (λ⟨z,a4⟩ o h=>H c [6] Z<|I h (λs h=>X h λa5 h=>g4_ c [.T,13,.v (.bd []) [] (.sl 1 (([z]:L_ Int).map Qb)),.v (.bd []) [] (.sl 1 (([([z]:L_ Int)]:L_ LI_).map QQ)),.app ((a4++([([z]:L_ Int)]:L_ LI_)).map QQ) (a4++([([z]:L_ Int)]:L_ LI_)).length,8] Z s Z Z ⟨Qc,Jf a5 Qc,XY,Jw Qc⟩<|rN_ h Z) λs h=>J c [.F,2] Z s<|rX_ h Z) λb1 h=>H c [2,.ren 46 604] Z<|me_ h Z) λp h=>J c [.F,6] Z p<|I h (λt h=>g3_ c [.T,6,.adopt 5 74 1,.O 74 (.arr 1 (([]:L_ LI_).map QQ)),.S 5 (.own 74 ([]:L_ LI_).length)] Z t Z (congrArg (λn=>V.own 74 n) (by simp))<|lp_ h (λst=>⟨[(1,.I a),(5,.own 74 st.2.length),(9,.I st.1)],[(74,.arr 1 (st.2.map QQ))]⟩) (λq=>(.exit 5,⟨[(5,.own 74 q.length)],[(74,.arr 1 (q.map QQ))]⟩)) Z (λ⟨set_33,e⟩ o h=>X h λa6 h=>J c [5,.o (.any (.I (QjF .i64 1 a)) none),3] Z (λσ N h2 _=>Stp.shl Z Z (QR c.n Z) (N _ _ Z) (N _ _ Z) (Xs a6))<|I h (λu h=>g3_ c [.T,17,.adopt 10 69 1,.O 69 (.arr 1 (([]:L_ Int).map Qb)),.S 10 (.own 69 ([]:L_ Int).length)] Z u Z (congrArg (λn=>V.own 69 n) (by simp))<|lp_ h (λst=>⟨[(1,.I a),(5,.own 74 e.length),(9,.I set_33),(10,.own 69 st.2.length),(60,.I a),(61,.I st.1)],[(69,.arr 1 (st.2.map Qb)),(74,.arr 1 (e.map QQ))]⟩) (λq=>(.exit 7,⟨[(1,.I a),(5,.own 74 e.length),(9,.I set_33),(10,.own 69 q.length)],[(69,.arr 1 (q.map Qb)),(74,.arr 1 (e.map QQ))]⟩)) Z (λ⟨g,a7⟩ o h=>H c [6] Z<|I h (λw h=>J c [.T,2] Z w<|mE_ (λx:LI_=>⟨[(1,.I a),(5,.own 74 e.length),(9,.I set_33),(10,.own 69 x.length),(60,.I a),(61,.I g)],[(69,.arr 1 (x.map Qb)),(74,.arr 1 (e.map QQ))]⟩) (λx=>IH g x=some o) (X h λa8 h=>K c [11,.o (.any (.I (Jk .i64 set_33 g)) none),.o (.any (.I (DM .i64 (Jk .i64 set_33 g) 1)) none),3] Z (λσ N h2 _=>Stp.shr Z Z (QR c.n Z) (N _ _ Z) (N _ _ Z) (Xs a8)) (λσ N h2 _=>Stp.andB Z Z (QR c.n Z) (N _ _ Z) (N _ _ Z))<|I h (λy h=>X h λa9 h=>g3_ c [.T,3,.v (.bd []) [] (.sl 1 (([g]:L_ Int).map Qb)),.app ((a7++([g]:L_ Int)).map Qb) (a7++([g]:L_ Int)).length,3] Z y Z ⟨Qc,Jf a9 Qc,XY,Jw Qc⟩<|me_ h Z) λy h=>J c [.F,2] Z y<|me_ h Z) λx h=>H c [4] Z<|rN_ h Z) λw h=>J c [.F,2] Z w<|rX_ h Z) λD h=>X h λb0 h=>g3_ c [5,.frz 69 (D.map Qb) [10,75] [],.v (.bd []) [] (.sl 1 (([D]:L_ LI_).map QQ)),.app ((e++([D]:L_ LI_)).map QQ) (e++([D]:L_ LI_)).length,9] Z (a2_ (Js Qc) (Js Qc)) Z ⟨Qc,Jf b0 Qc,XY,Jw Qc⟩<|rN_ h Z) λu h=>J c [.F,2] Z u<|rX_ h Z) λb2 h=>H c [2,.ren 74 604] Z<|me_ h Z) λt h=>g3_ c [.F,2,.adopt 5 604 1,.O 604 (.arr 1 (([]:L_ LI_).map QQ)),.S 5 (.own 604 ([]:L_ LI_).length)] Z t Z (congrArg (λn=>V.own 604 n) (by simp))<|me_ h Z) λk h=>H c [7,.K [4] [604],.ren 604 600] Z<|E h Z r1_
def TA (a:Qe)(b:QG):O_ (Qe×QG):=some (a,b)
def QbN (a b):CT 277 [.agg (Qa a),.agg (Qg b)] [] (TA a b) (λ_=>(.clo (.func 300) [] [.L 3,.L 2])) (λr=>[(2,.var (Qa r.1)),(3,.var (Qg r.2))]):=
 W 6 func277 Z λC c r h=>H c [14] Z<|E h Z r2_
def Yu (a:LI_):O_ LI_:=(chk ((([]:L_ Int).length+a.length)*8<=140737488355328)).bind λ_=>some (([]:L_ Int)++a)
def Kn (b):CT 173 [.sl 1 (b.map Qb)] [] (Yu b) (λr=>(.own 600 r.length)) (λr=>[(600,.arr 1 (r.map Qb))]):=by
 refine W 8 func173 rfl λC a r h=>?_
 unfold Yu at h
 refine tg_ a [9] ?_
 refine AK.eqNil rfl rfl rfl (QR a.n rfl) rfl rfl Qoy ?_ ?_
 ·intro c
  replace h:some ([]:L_ Int)=some r:=by simpa[chk,List.map_eq_nil_iff.1 c] using h
  exact K a [10,.adopt 2 600 1,.O 600 (.arr 1 (([]:L_ Int).map Qb)),.S 2 (.own 600 ([]:L_ Int).length)] Z Z Z<|E h Z r1_
 exact X h λd h=>g3_ a [8,.O 5 (.arr 1 (([]:L_ Int).map Qb)),.S 5 (.own 5 ([]:L_ Int).length),1,.x (λσ=>σ.app 5 1 7 (([]:L_ Int)++b).length ((([]:L_ Int)++b).map Qb)),4,.K [2] [5],.ren 5 600] Z Z Z (Stp.appSB (by_:=8) (zs:=[.I 0]) (e:=3) (e':=3) (z':=1) (by':=8) Z Z (QR a.n Z) Z Z Z Qc (by kernel_rfl) (by kernel_rfl) (by kernel_rfl) Z (by decide) (by decide) (QcM d Qc) Z XY (Jw Qc))<|E h Z r1_
def LD (a:Int)(b:Int):O_ Int:=bif (b<a)then some 0 else some (Qi ((Qi (min2 (IntKind.u64.wrap ((IntKind.u64.wrap b)-(IntKind.u64.wrap a))) 1024))+1))
def Qd0 (a b):CT 309 [.I a,.I b] [] (LD a b) V.I no_:=
 W 16 func309 Z λC d r h=>H d [13] Z<|I h (λc h=>J d [.T,7] Z c<|E h Z U) λc h=>g4_ d [.F,5,.o (.any (.i .u64 (IntKind.u64.wrap b)) none),1,.o (.any (.i .u64 (IntKind.u64.wrap a)) none),2,.o (.any (.I (Qi (min2 (IntKind.u64.wrap ((IntKind.u64.wrap b)-(IntKind.u64.wrap a))) 1024))) none),5] Z c (λσ e f _=>Stp.convI Z Z (QR d.n Z) (e _ _ Z) QdR QbI) (λσ e f _=>Stp.convI Z Z (QR d.n Z) (e _ _ Z) QdR QbI) (λσ e f _=>Stp.convI Z Z (QR d.n Z) (e _ _ Z) QbI QdR)<|E h Z U
def UX (a:Int):O_ Bool:=
 some (bif (97<=a)then((a<=122)||((65<=a)&&(a<=90)))else((65<=a)&&(a<=90)))
def Pj (a):CT 286 [.i .u8 a] [] (UX a) V.b no_:=
 W 17 func286 Z λC e r h=>H e [6] Z<|Y ⟨[(2,.b (bif (97<=a)then((a<=122)||((65<=a)&&(a<=90)))else((65<=a)&&(a<=90))))],[]⟩ (H e [4] Z<|bO_ (decide (97<=a)) (λc=>L e [.S 5 (.b true),4] Z c<|bO_ (decide (a<=122)) (λd=>G e [.S 9 (.b true),9,.S 2 (.b (bif (97<=a)then((a<=122)||((65<=a)&&(a<=90)))else((65<=a)&&(a<=90))))] Z ⟨(tc_ d),(cb_ (QlQ c (Eh d Z)))⟩<|M Z) λd=>L e [.S 9 (.b false),3] Z d<|bO_ (decide (65<=a)) (λf=>G e [.S 12 (.b true),6,.S 2 (.b (bif (97<=a)then((a<=122)||((65<=a)&&(a<=90)))else((65<=a)&&(a<=90))))] Z ⟨(tc_ f),(cb_ (QlQ c (Ji d (Yx f Z))))⟩<|M Z) λf=>G e [.S 12 (.b false),6,.S 2 (.b (bif (97<=a)then((a<=122)||((65<=a)&&(a<=90)))else((65<=a)&&(a<=90))))] Z ⟨(tc_ f),(cb_ (QlQ c (Ji d (KL f Z))))⟩<|M Z) λc=>L e [.S 5 (.b false),7] Z c<|bO_ (decide (65<=a)) (λg=>G e [.S 12 (.b true),6,.S 2 (.b (bif (97<=a)then((a<=122)||((65<=a)&&(a<=90)))else((65<=a)&&(a<=90))))] Z ⟨(tc_ g),(cb_ (QnG c (Yx g Z)))⟩<|M Z) λg=>G e [.S 12 (.b false),6,.S 2 (.b (bif (97<=a)then((a<=122)||((65<=a)&&(a<=90)))else((65<=a)&&(a<=90))))] Z ⟨(tc_ g),(cb_ (QnG c (KL g Z)))⟩<|M Z)<|H e [2] Z<|E h Z U
def Sg (a:ByteArray):O_ Bool:=bif (BV a (⟨#[]⟩:ByteArray))then some true else bif (32<(a.size:Int))then some true else (sidx a 0).bind λb=>(UX b).bind λc=>some (!c)
def Sh (a:Int):O_ Bool:=(UX a).bind λb=>bif (!b)then bif (a<48)then some (a != 95)else bif (57<a)then some (a != 95)else some false else some false
def Si (a:Int)(b:Bool):O_ (Int⊕(Unit⊕Unit)):=bif b then some (.inr (.inl ()))else some (.inl (Qi (a+1)))
def Ma (d:ByteArray)(a:Int):O_ (Int⊕(Unit⊕Unit)):=bif (a<(d.size:Int))then (sidx d a).bind λb=>(Sh b).bind (λc=>Si a c)else some (.inr (.inr ()))
def Mb : O_ Bool:=some false
def Mc : O_ Bool:=some true
def Sj (a:ByteArray)(b:Bool):O_ Bool:=bif b then some false else (QD (λst=>Ma a st) 0).bind (Sum.elim (λq=>Mb) (λq=>Mc))
def UP (a:ByteArray):O_ Bool:=(Sg a).bind (λb=>Sj a b)
def Md (l):CT 238 [.s l] [] (UP l) V.b no_:=
 W 42 func238 Z λC a r h=>H a [7] Z<|mV_ h (λw=>⟨[(0,.s l),(17,.b w)],[]⟩) (λw h=>H a [4] Z<|I h (λm h=>L a [.S 7 (.b true),11] Z m<|mq_ h Z) λm h=>L a [.S 7 (.b false),5] Z m<|I h (λp h=>L a [.S 12 (.b true),6] Z p<|mq_ h Z) λp h=>B h λO x h=>B h λP y h=>G a [.S 12 (.b false),1,.o (.num O),.o (.C1 (.b P)),3] Z ⟨⟨(tc_ p),x⟩,(Pj _ _ y)⟩<|mq_ h Z) λw h=>H a [1] Z<|I h (λe h=>J a [.T,7] Z e<|E h Z U) λe h=>J a [.F,11] Z e<|lq_ h (λst=>⟨[(0,.s l),(19,.I (l.size:Int)),(20,.I st)],[]⟩) (λq=>(.ret,⟨[(2,.b false)],[]⟩)) (λq=>(.exit 0,⟨[],[]⟩)) Z (λz o h=>H a [6] Z<|I h (λf h=>B h λD u h=>K a [.T,14,.o (.num D),4] Z f u<|mV_ h (λt=>⟨[(0,.s l),(19,.I (l.size:Int)),(20,.I z),(40,.b t)],[]⟩) (λt h=>B h λN v h=>J a [2,.o (.C1 (.b N)),2] Z (Pj _ _ v)<|I h (λg h=>L a [.S 29 (.b true),3] Z g<|I h (λi h=>L a [.S 32 (.b true),9] Z i<|mq_ h Z) λi h=>L a [.S 32 (.b false),5] Z i<|I h (λj h=>L a [.S 37 (.b true),4] Z j<|mq_ h Z) λj h=>L a [.S 37 (.b false),4] Z j<|mq_ h Z) λg h=>L a [.S 29 (.b false),12] Z g<|mq_ h Z) λt h=>H a [1] Z<|I h (λk h=>J a [.T,8] Z k<|rR_ h Z) λk h=>J a [.F,7] Z k<|rN_ h Z) λf h=>J a [.F,2] Z f<|rX_ h Z) (λ_ h=>H a [2] Z<|E h Z U) (λ_ h=>H a [8] Z<|E h Z U)
def PL (a:ByteArray)(c:QSB):O_ Bool:=(UP a).bind λb=>bif (!b)then some true else some ((Qq c a).getD false)
def PM (c:Int)(d:QSB)(a:ByteArray)(b:Bool):O_ ((Int×QSB)⊕(Unit⊕Unit)):=bif b then some (.inr (.inl ()))else some (.inl ((Qi (c+1)),(XD NV d a true)))
def IJ (d:(L_ ByteArray))(b:Int)(e:QSB):O_ ((Int×QSB)⊕(Unit⊕Unit)):=bif (b<(d.length:Int))then (idx d b).bind λa=>(PL a e).bind (λc=>PM b e a c)else some (.inr (.inr ()))
def IK : O_ Bool:=some false
def IL : O_ Bool:=some true
def HX (a:(L_ ByteArray)):O_ Bool:=(QD (λst=>IJ a st.1 st.2) (0,([]:QSB))).bind (Sum.elim (λq=>IK) (λq=>IL))
def Qc0 (m):CT 310 [.sl 1 (m.map DR)] [] (HX m) V.b no_:=
 W 24 func310 Z λC a r h=>K a [8,.O 6 (.map (QB V.s V.b ([]:QSB))),7,.o (.ln m.length),4] Z Z Qc<|lq_ h (λst=>⟨[(3,.map 6),(7,.sl 1 (m.map DR)),(8,.I (m.length:Int)),(9,.I st.1)],[(6,.map (QB V.s V.b st.2))]⟩) (λq=>(.ret,⟨[(2,.b false)],[]⟩)) (λq=>(.exit 0,⟨[],[]⟩)) Z (λ⟨P,u⟩ o h=>H a [6] Z<|I h (λp h=>B h λg w h=>K a [.T,6,.o (.row (DR g)),6] Z p (Xi w)<|mV_ h (λt=>⟨[(3,.map 6),(5,.s g),(7,.sl 1 (m.map DR)),(8,.I (m.length:Int)),(9,.I P),(20,.b t)],[(6,.map (QB V.s V.b u))]⟩) (λt h=>B h λD y h=>J a [2,.o (.C1 (.b D)),2] Z (Md _ _ y)<|I h (λi h=>L a [.S 16 (.b true),5] Z i<|mq_ h Z) λi h=>G a [.S 16 (.b false),2,.o (.any (.b ((Qq u g).getD false)) none),2] Z ⟨(tc_ i),(λσ N h2 _=>Stp.lookup (e:=V.s) (f:=V.b) (l:=u) (k:=g) (z:=false) Z Z (QR a.n Z) (N _ _ Z) (h2 _ _ Z) (N _ _ Z) RW Qak Qmb Z)⟩<|mq_ h Z) λt h=>H a [1] Z<|I h (λj h=>J a [.T,9] Z j<|rR_ h Z) λj h=>K a [.F,5,.x (λσ=>σ.set 6 (.map (QB V.s V.b (XD NV u g true)))),7] Z j (Stp.mapUpdate (e:=V.s) (f:=V.b) (l:=u) (k:=g) (v:=true) NV Z Z Z Z Z Z RW Qak Z)<|rN_ h Z) λp h=>J a [.F,2] Z p<|rX_ h Z) (λ_ h=>H a [2] Z<|E h Z U) (λ_ h=>H a [8] Z<|E h Z U)
def WM : O_ Int:=some 0
def LE (b:QI)(a:LI_):O_ Int:=bif (b.Kind==1)then (LD b.Lo b.Hi).bind λe=>some e else bif (b.Kind==2)then (HX b.Names).bind λf=>bif f then some (b.Names.length:Int)else WM else bif (b.Kind==3)then bif ((0<=(min2 b.First b.Then))&&((max2 b.First b.Then)<(a.length:Int)))then (idx a b.First).bind λc=>(idx a b.Then).bind λd=>some (Qi (c*d))else WM else WM
def Qd1 (g e):CT 289 [.agg (Qr g),.sl 1 (e.map Qb)] [] (LE g e) V.I no_:=
 W 51 func289 Z λC f r h=>H f [6] Z<|mU_ ⟨[],[]⟩ (WM=some r) (H f [13] Z<|I h (λl h=>B h λx t h=>K f [.T,6,.o (.C2 (.I x)),6] Z l (Qd0 _ _ _ t)<|E h Z U) λl h=>J f [.F,6] Z l<|I h (λm h=>B h λy u h=>K f [.T,4,.o (.C1 (.b y)),2] Z m (Qc0 _ _ u)<|I h (λp h=>K f [.T,4,.o (.ln g.Names.length),6] Z p Qc<|E h Z U) λp h=>J f [.F,2] Z p<|mu_ h Z) λm h=>J f [.F,6] Z m<|I h (λj h=>J f [.T,1] Z j<|Y ⟨[(1,.sl 1 (e.map Qb)),lk_ 2,(39,.b ((0<=(min2 g.First g.Then))&&((max2 g.First g.Then)<(e.length:Int))))],[(2,.var (Qr g))]⟩ (H f [8] Z<|bO_ (decide (0<=(min2 g.First g.Then))) (λi=>G f [.S 30 (.b true),6,.o (.ln e.length),3,.S 39 (.b ((0<=(min2 g.First g.Then))&&((max2 g.First g.Then)<(e.length:Int))))] Z ⟨⟨(tc_ i),Qc⟩,(cb_ (Yx i Z))⟩<|M Z) λi=>G f [.S 30 (.b false),10,.S 39 (.b ((0<=(min2 g.First g.Then))&&((max2 g.First g.Then)<(e.length:Int))))] Z ⟨(tc_ i),(cb_ (KL i Z))⟩<|M Z)<|H f [1] Z<|I h (λk h=>B h λv q h=>B h λw s h=>G f [.T,1,.K [1,2] [2]] Z (A k) <| 
  dr_ f [.N,.N,.N,.B (.row (Qb v)),.N,.N,.N,.N,.B (.row (Qb w)),.N,.N,.N] [] [] [4] [] Z Z (a2_ (Xi q) (Xi s)) Z <|
  H f [4] Z<|E h Z U) λk h=>J f [.F,2] Z k<|mu_ h Z) λj h=>J f [.F,2] Z j<|mu_ h Z) λh=>H f [6] Z<|E h Z U
def PN (a:QI)(d:QSB)(b:Int):O_ Bool:=(UP a.Name).bind λc=>bif (!c)then some true else bif ((Qq d a.Name).getD false)then some true else bif (b<1)then some true else some (decide (1024<b))
def PO (a:LI_)(b:Int)(e:Int)(f:QSB)(c:QI)(d:Bool):O_ ((Int×QSB×LI_)⊕(Unit⊕LI_)):=bif d then some (.inr (.inl ()))else (chk (a.length+([b]:L_ Int).length<=4294967296)).bind λ_=>some (.inl ((Qi (e+1)),(XD NV f c.Name true),(a++([b]:L_ Int))))
def IM (f:(L_ QI))(d:Int)(g:QSB)(a:LI_):O_ ((Int×QSB×LI_)⊕(Unit⊕LI_)):=bif (d<(f.length:Int))then (idx f d).bind λb=>(LE b a).bind λc=>(PN b g c).bind (λe=>PO a c d g b e)else some (.inr (.inr a))
def Qc1 : O_ (LI_×Bool):=some (([]:L_ Int),false)
def Qc2 (a:LI_):O_ (LI_×Bool):=some (a,true)
def Bo (a:(L_ QI)):O_ (LI_×Bool):=bif (32<(a.length:Int))then some (([]:L_ Int),false)else (QD (λst=>IM a st.1 st.2.1 st.2.2) (0,([]:QSB),([]:L_ Int))).bind (Sum.elim (λq=>Qc1) (λq=>Qc2 q))
def PP (y):CT 241 [.sl 7 (y.map Qr)] [] (Bo y) (λr=>(.tup [.sl 1 (r.1.map Qb),.b r.2])) no_:=
 W 49 func241 Z λC a r h=>J a [10,.o (.ln y.length),3] Z Qc<|I h (λD h=>J a [.T,8,.denil 2 [some 1]] Z D<|F h Z Z U) λD h=>G a [.F,5,.O 12 (.map (QB V.s V.b ([]:QSB))),12,.o (.ln y.length),4,.adopt 5 43 1,.O 43 (.arr 1 (([]:L_ Int).map Qb)),.S 5 (.own 43 ([]:L_ Int).length)] Z (a5_ D Z Qc Z (congrArg (λn=>V.own 43 n) (by simp)))<|lq_ h (λst=>⟨[(4,.map 12),(5,.own 43 st.2.2.length),(13,.sl 7 (y.map Qr)),(14,.I (y.length:Int)),(15,.I st.1)],[(12,.map (QB V.s V.b st.2.1)),(43,.arr 1 (st.2.2.map Qb))]⟩) (λq=>(.ret,⟨[(2,.Y),(3,.b false)],[]⟩)) (λq=>(.exit 0,⟨[(5,.own 43 q.length)],[(43,.arr 1 (q.map Qb))]⟩)) Z (λ⟨x8,P,i⟩ o h=>H a [6] Z<|I h (λj h=>B h λg a0 h=>B h λm a1 h=>G a [.T,6,.o (.row (Qr g)),.A (Qr g),2,.O 7 (.var (Qr g)),4,.A (Qr g),1,.o (.c true [.d,.o (i.map Qb)] (.I m)),5] Z (a6_ j (Xi a0) Z Z Z ⟨(VR Z),(Qd1 _ _ _ a1)⟩)<|mV_ h (λN=>⟨[(4,.map 12),(5,.own 43 i.length),lk_ 7,(8,.I m),(13,.sl 7 (y.map Qr)),(14,.I (y.length:Int)),(15,.I x8),(39,.b N)],[(7,.var (Qr g)),(12,.map (QB V.s V.b P)),(43,.arr 1 (i.map Qb))]⟩) (λN h=>B h λa4 a2 h=>J a [3,.o (.C1 (.b a4)),2] Z (Md _ _ a2)<|I h (λp h=>L a [.S 26 (.b true),14] Z p<|mq_ h Z) λp h=>G a [.S 26 (.b false),3,.o (.any (.b ((Qq P g.Name).getD false)) none),2] Z ⟨(tc_ p),(λσ h1 h2 _=>Stp.lookup (e:=V.s) (f:=V.b) (l:=P) (k:=g.Name) (z:=false) Z Z (QR a.n Z) (h1 _ _ Z) (h2 _ _ Z) (h1 _ _ Z) RW Qak Qmb Z)⟩<|I h (λt h=>L a [.S 32 (.b true),8] Z t<|mq_ h Z) λt h=>L a [.S 32 (.b false),4] Z t<|I h (λu h=>L a [.S 36 (.b true),4] Z u<|mq_ h Z) λu h=>L a [.S 36 (.b false),4] Z u<|mq_ h Z) λN h=>H a [1] Z<|I h (λw h=>J a [.T,10] Z w<|rR_ h Z) λw h=>X h λa3 h=>g4_ a [.F,7,.x (λσ=>σ.set 12 (.map (QB V.s V.b (XD NV P g.Name true)))),5,.v (.bd []) [] (.sl 1 (([m]:L_ Int).map Qb)),.app ((i++([m]:L_ Int)).map Qb) (i++([m]:L_ Int)).length,8] Z w (Stp.mapUpdate (e:=V.s) (f:=V.b) (l:=P) (k:=g.Name) (v:=true) NV Z Z Z Z Z Z RW Qak Z) Z ⟨Qc,Jf a3 Qc,XY,Jw Qc⟩<|rN_ h Z) λj h=>J a [.F,2] Z j<|rX_ h Z) (λ_ h=>H a [2,.denil 2 [some 1]] Z<|F h Z Z U) (λa5 h=>J a [10,.frz 43 (a5.map Qb) [2] []] Z (A (Js Qc))<|F h Z Z U)
def ES (a:(L_ QI))(b:Int):O_ (Bool×YJ):=
 (Bo a).bind λc=>
 bif ((!c.2)||((b<0)||((a.length:Int)<=b)))then
 some (false,(YJ.mk ([]:(L_ QI)) ([]:LI_) 0))
 else
 some (true,(YJ.mk a c.1 b))
def Oj (i e):CT 218 [.sl 7 (i.map Qr),.I e] [] (ES i e) (λr=>(.tup [.agg (Xy r.2),.b r.1])) no_:=by
 refine W 30 func218 rfl λC k r h=>?_
 obtain⟨j,l,h⟩:=Qv h
 refine Qo k [9,.o (.C1 (.tup [.sl 1 (j.1.map Qb),.b j.2])),9] Z (A (PP _ _ l)) ?_
 refine AK.meetX (λσ=>σ=⟨[(0,.sl 7 (i.map Qr)),(1,.I e),lk_ 4,(6,.sl 1 (j.1.map Qb)),(24,.b ((!j.2)||((e<0)||((i.length:Int)<=e))))],[(4,.var [.Y,.Y,.I 0])]⟩) ?_ ?_
 ·exact H k [4] Z<|bO_ (!j.2) (λf=>G k [.S 15 (.b true),10,.S 24 (.b ((!j.2)||((e<0)||((i.length:Int)<=e))))] Z ⟨(tc_ f),(cb_ (Eh f Z))⟩<|M Z) λf=>L k [.S 15 (.b false),4] Z f<|bO_ (decide (e<0)) (λa=>G k [.S 19 (.b true),6,.S 24 (.b ((!j.2)||((e<0)||((i.length:Int)<=e))))] Z ⟨(tc_ a),(cb_ (Ji f (Eh a Z)))⟩<|M Z) λa=>G k [.S 19 (.b false),2,.o (.ln i.length),3,.S 24 (.b ((!j.2)||((e<0)||((i.length:Int)<=e))))] Z ⟨⟨(tc_ a),Qc⟩,(cb_ (Ji f (Ji a Z)))⟩<|M Z
 rintro σ rfl
 refine tg_ k [1] ?_
 refine bg_ h (λg h=>Qo k [.T,2,.v .no [some 7,some 1,none] (.agg (Xy (YJ.mk ([]:(L_ QI)) ([]:LI_) 0))),1,.O 4 (.var (Xy (YJ.mk ([]:(L_ QI)) ([]:LI_) 0))),5,.K [4,5] [4]] rfl (a3_ g rfl rfl) ?_) λg h=>Qo k [.F,7,.A (Xy (YJ.mk i j.1 e)),1,.O 4 (.var (Xy (YJ.mk i j.1 e))),4,.K [4,5] [4]] rfl (a3_ g rfl rfl) ?_
 ·cases h
  exact AK.done (ex_ [_,_] (an_ (an_ (ex_ _ (ex_ _ (an_ Z (an_ Z (Or.inl (an_ (Qt.ag Z) (an_ (Qt.sz Z) Z))))))) (an_ Z U)) (gives U)))
 cases h
 exact AK.done (ex_ [_,_] (an_ (an_ (ex_ _ (ex_ _ (an_ Z (an_ Z (Or.inl (an_ (Qt.ag Z) (an_ (Qt.sz Z) Z))))))) (an_ Z U)) (gives U)))
def Up (a:Int)(b:YJ):O_ Bool:=bif (0<=a)then (idx b.sizes b.k).bind λc=>some (decide (a<c))else some false
def QaZ (a:Bool):O_ Bool:=some a
def WN (a:YJ)(b:Int):O_ Bool:=(Up b a).bind (λc=>QaZ c)
def NW (f g):CT 235 [.agg (Xy f),.I g] [] (WN f g) V.b no_:=
 W 17 func235 Z λC c r h=>H c [7] Z<|mV_ h (λd=>⟨[(4,.b d)],[]⟩) (λd h=>H c [4] Z<|I h (λa h=>B h λi e h=>G c [.S 7 (.b true),5,.o (.row (Qb i)),5] Z ⟨(tc_ a),(Xi e)⟩<|mq_ h Z) λa h=>L c [.S 7 (.b false),11] Z a<|mq_ h Z) λd h=>H c [2] Z<|E h Z U
def Wv (a:YJ):O_ QI:=(idx a.all a.k).bind λb=>some b
def Ax (c):CT 236 [.agg (Xy c)] [] (Wv c) (λr=>(.agg (Qr r))) no_:=by
 refine W 9 func236 rfl λC d r h=>?_
 obtain⟨a,b,h⟩:=Qv h
 refine Qo d [12,.o (.row (Qr a)),.A (Qr a),1,.O 2 (.var (Qr a)),3,.K [2] [2]] Z (a3_ (Xi b) Z Z) ?_
 cases h
 exact AK.done (ex_ [_] (an_ (an_ (ex_ _ (ex_ _ (an_ Z (an_ Z (Or.inl (an_ (Qt.ag Z) (an_ (Qt.sz Z) Z))))))) U) (gives U)))
def Hk (b:(Bool×YJ))(c:Int):O_ Bool:=bif (!b.1)then some true else (WN b.2 c).bind λa=>some (!a)
def Hl (c:(Bool×YJ))(d:Int)(e:Bool):O_ (Int×Bool):=bif e then some (0,false)else (Wv c.2).bind λa=>bif (a.Kind==1)then (Wv c.2).bind λb=>some ((Qi (b.Lo+d)),true)else some (d,true)
def GP (c:(L_ QI))(d:Int)(a:Int):O_ (Int×Bool):=(ES c d).bind λb=>(Hk b a).bind (λe=>Hl b a e)
def QbO (x y q):CT 174 [.sl 7 (x.map Qr),.I y,.I q] [] (GP x y q) (λr=>(.tup [.I r.1,.b r.2])) no_:=
 W 36 func174 Z λC a r h=>B h λi s h=>K a [10,.o (.C2 (.tup [.agg (Xy i.2),.b i.1])),5,.O 8 (.var (Xy i.2)),6] Z (Oj _ _ _ s) Z<|mV_ h (λt=>⟨[(2,.I q),lk_ 8,(16,.b t)],[(8,.var (Xy i.2))]⟩) (λt h=>H a [4] Z<|I h (λe h=>L a [.S 19 (.b true),7] Z e<|mq_ h Z) λe h=>B h λu j h=>G a [.S 19 (.b false),.A (Xy i.2),1,.o (.C2 (.b u)),4] Z ⟨⟨(tc_ e),Z⟩,(NW _ _ _ j)⟩<|mq_ h Z) λt h=>H a [1] Z<|I h (λf h=>J a [.T,9] Z f<|F h Z Z U) λf h=>B h λk l h=>g4_ a [.F,2,.A (Xy i.2),.o (.C1 (.agg (Qr k))),.o (.any (.I k.Kind) none),4] Z f Z (Ax _ _ l) (λσ w z _=>Stp.field Z Z (QR a.n Z) (w _ _ Z) Qnf Z)<|I h (λg h=>B h λm p h=>g4_ a [.T,2,.A (Xy i.2),.o (.C1 (.agg (Qr m))),.o (.any (.I m.Lo) none),9] Z g Z (Ax _ _ p) (λσ w z _=>Stp.field Z Z (QR a.n Z) (w _ _ Z) Qng Z)<|F h Z Z U) λg h=>J a [.F,11] Z g<|F h Z Z U
def CE (d:QG)(b:LI_)(h:Qe)(a:Int)(c:LI_):O_ ((Int×LI_)⊕(Unit⊕LI_)):=bif (a<(d.Vars.length:Int))then (idx d.Vars a).bind λf=>(idx b a).bind λg=>(GP h.Colours f.Colour g).bind λe=>bif (!e.2)then some (.inr (.inl ()))else (idx c a).bind λi=>some (.inl ((Qi (a+1)),(c.set a.toNat e.1)))else some (.inr (.inr c))
def Qhh : O_ (LI_×Int):=some (([]:L_ Int),1)
def Qhi (a:LI_):O_ (LI_×Int):=some (a,0)
def Ex (d:Qe)(a:Int)(c:LI_):O_ (LI_×Int):=
 bif ((a<0)||((d.Tasks.length:Int)<=a))then
 some (([]:L_ Int),3)
 else
 (idx d.Tasks a).bind λb=>
 bif ((c.length:Int) != (b.Vars.length:Int))then
 some (([]:L_ Int),1)
 else
 (chk (decide (0<=(b.Vars.length:Int))&&decide ((b.Vars.length:Int)<=(b.Vars.length:Int))&&decide ((b.Vars.length:Int)<=4294967296))).bind λ_=>
 (QD (λst=>CE b c d st.1 st.2) (0,(List.replicate (b.Vars.length:Int).toNat (0:Int)))).bind (Sum.elim (λq=>Qhh) (λq=>Qhi q))
def PA (t e f):CT 118 [.agg (Qa t),.I e,.sl 1 (f.map Qb)] [] (Ex t e f) (λr=>(.tup [.sl 1 (r.1.map Qb),.I r.2])) no_:=
 W 64 func118 Z λC g r h=>H g [9] Z<|Y ⟨[(1,.I e),(2,.sl 1 (f.map Qb)),lk_ 3,(22,.b ((e<0)||((t.Tasks.length:Int)<=e)))],[(3,.var (Qa t))]⟩ (H g [4] Z<|bO_ (decide (e<0)) (λj=>G g [.S 16 (.b true),7,.S 22 (.b ((e<0)||((t.Tasks.length:Int)<=e)))] Z ⟨(tc_ j),(cb_ (Eh j Z))⟩<|M Z) λj=>G g [.S 16 (.b false),3,.o (.ln t.Tasks.length),3,.S 22 (.b ((e<0)||((t.Tasks.length:Int)<=e)))] Z ⟨⟨(tc_ j),Qc⟩,(cb_ (Ji j Z))⟩<|M Z)<|H g [1] Z<|I h (λk h=>J g [.T,8,.denil 6 [some 1]] Z k<|F h Z Z U) λk h=>B h λi x h=>g4_ g [.F,7,.o (.row (Qg i)),9,.o (.ln f.length),1,.o (.ln i.Vars.length),3] Z k (Xi x) Qc Qc<|I h (λl h=>J g [.T,8,.denil 6 [some 1]] Z l<|F h Z Z U) λl h=>X h λy h=>G g [.F,5,.o (.ln i.Vars.length),.o (.rows ((List.replicate (i.Vars.length:Int).toNat (0:Int)).map Qb)),.S 36 (.own 36 (List.replicate (i.Vars.length:Int).toNat (0:Int)).length),7,.o (.ln i.Vars.length),4] Z (a5_ l Qc ⟨y,QhQ Z⟩ (by simp) Qc)<|lq_ h (λst=>⟨[(2,.sl 1 (f.map Qb)),lk_ 3,(9,.own 36 st.2.length),(37,.sl 2 (i.Vars.map Xe)),(38,.I (i.Vars.length:Int)),(39,.I st.1)],[(3,.var (Qa t)),(36,.arr 1 (st.2.map Qb))]⟩) (λq=>(.ret,⟨[(6,.Y),(7,.I 1)],[]⟩)) (λq=>(.exit 0,⟨[(9,.own 36 q.length)],[(36,.arr 1 (q.map Qb))]⟩)) Z (λ⟨z,D⟩ o h=>H g [6] Z<|I h (λm h=>B h λw P h=>B h λa2 a0 h=>B h λs a1 h=>G g [.T,7,.o (.row (Xe w)),.A (Xe w),3,.O 11 (.var (Xe w)),3,.K [2,3,9,10,11,37,38,39] [3,11,36]] Z (a4_ m (Xi P) Z Z) <| 
  dr_ g [.N,.N,.N,.N,.N,.N,.B (.row (Qb a2)),.N,.B (.C3 (.tup [.I s.1,.b s.2])),.N,.N,.N,.N,.N] [] [] [2,3,9,10,12,13,37,38,39] [3,36] Z Z (a2_ (Xi a0) (QbO _ _ _ _ a1)) Z <|
  H g [8] Z<|I h (λp h=>J g [.T,10] Z p<|rR_ h Z) λp h=>B h λa3 u h=>g4_ g [.F,7,.st (Qb a3) ((D.set z.toNat s.1).map Qb),7,.S 9 (.own 36 (D.set z.toNat s.1).length)] Z p (YN u Z) ⟨(XU (Jr u).2),Bf Z⟩ (congrArg (λn=>V.own 36 n) (by simp))<|rN_ h Z) λm h=>J g [.F,2] Z m<|rX_ h Z) (λ_ h=>H g [2,.denil 6 [some 1]] Z<|F h Z Z U) (λa4 h=>J g [10,.frz 36 (a4.map Qb) [6] []] Z (A (Js Qc))<|F h Z Z U)
def JB (c:Qe)(f:QMk)(a:Int)(b:LI_):O_ (Int×Xk):=(Ex c a b).bind λd=>bif (d.2 != 0)then some (d.2,(Xk.mk (Qe.mk ([]:(L_ QI)) ([]:(L_ QM)) ([]:(L_ QG)) 0 0) ([]:QMk) (QG.mk (⟨#[]⟩:ByteArray) ([]:(L_ YI)) (Ql.mk 0 0 ([]:(L_ Ql))) 0 0 ([]:(L_ Xo)) ([]:(L_ Xo)) ([]:LI_) 0 (0,0,0)) ([]:LI_)))else (idx c.Tasks a).bind λe=>some (0,(Xk.mk c f e d.1))
def TB (i l b e):CT 113 [.agg (Qa i),.sl 1 (l.map Qh),.I b,.sl 1 (e.map Qb)] [] (JB i l b e) (λr=>(.tup [.agg (QC r.2),.I r.1])) no_:=by
 refine W 32 func113 rfl λC j r h=>?_
 obtain⟨p,q,h⟩:=Qv h
 refine Qo j [9,.A (Qa i),2,.o (.C3 (.tup [.sl 1 (p.1.map Qb),.I p.2])),14] Z (a2_ Z (PA _ _ _ _ q)) ?_
 rcases XN h with⟨f,h⟩|⟨f,h⟩
 ·refine Qo j [.T,2,.v .no [some 7,some 3,some 14,none,none,some 1,none,some 2,none,none,some 3,none,none,some 4,some 4,some 1,none,none,none,none,some 1] (.agg (QC (Xk.mk (Qe.mk ([]:(L_ QI)) ([]:(L_ QM)) ([]:(L_ QG)) 0 0) ([]:QMk) (QG.mk (⟨#[]⟩:ByteArray) ([]:(L_ YI)) (Ql.mk 0 0 ([]:(L_ Ql))) 0 0 ([]:(L_ Xo)) ([]:(L_ Xo)) ([]:LI_) 0 (0,0,0)) ([]:LI_)))),2,.O 8 (.var (QC (Xk.mk (Qe.mk ([]:(L_ QI)) ([]:(L_ QM)) ([]:(L_ QG)) 0 0) ([]:QMk) (QG.mk (⟨#[]⟩:ByteArray) ([]:(L_ YI)) (Ql.mk 0 0 ([]:(L_ Ql))) 0 0 ([]:(L_ Xo)) ([]:(L_ Xo)) ([]:LI_) 0 (0,0,0)) ([]:LI_)))),5,.K [8,9] [8]] Z (a3_ f Z Z) ?_
  cases h
  exact AK.done (ex_ [_,_] (an_ (an_ (ex_ _ (ex_ _ (an_ Z (an_ Z (Or.inl (an_ (Qt.ag Z) (an_ (Qt.sz Z) Z))))))) (an_ Z U)) (gives U)))
 obtain⟨g,k,h⟩:=Qv h
 refine Qo j [.F,3,.K [1,2,4,8,9,10] [4,8]] Z (A f) ?_
 refine AK.draw2 Qt j mixed [.E (.agg (Qa i)),.N,.N,.N,.N,.B (.row (Qg g)),.E (.agg (Qg g)),.N,.E (.agg (QC (Xk.mk i l g p.1))),.m .s,.m .s] [] [] [8,9] [8] rfl rfl rfl ⟨⟨⟨⟨U,rfl⟩,(Xi k)⟩,rfl⟩,rfl⟩ rfl (by kernel_rfl) rfl rfl rfl ?_
 refine Qo j [.O 8 (.var (QC (Xk.mk i l g p.1))),2,.K [8,9] [8]] Z (A Z) ?_
 cases h
 exact AK.done (ex_ [_,_] (an_ (an_ (ex_ _ (ex_ _ (an_ Z (an_ Z (Or.inl (an_ (Qt.ag Z) (an_ (Qt.sz Z) Z))))))) (an_ Z U)) (gives U)))
def MX (c:Ql)(h:Ql->O_ Int)(d:Int)(a:Int):O_ ((Int×Int)⊕Int):=bif (a<(c.Kids.length:Int))then (idx c.Kids a).bind λe=>(h e).bind λb=>some (.inl ((max2 d b),(Qi (a+1))))else some (.inr d)
def TC (a:Int):O_ Int:=some (Qi (a+1))
def Ok (h:Ql->O_ Int)(a:Ql):O_ Int:=(QD (λst=>MX a h st.1 st.2) (0,0)).bind (λq=>TC q)
def Gb : Nat->Ql->O_ Int
 | 0,_=>none
 | n+1,a=>Ok (Gb n) a
def Sk (a:Ql):O_ Int:=Gb (SizeOf.sizeOf a) a
def Qc3 (D:Ql->O_ Int)(hrec_expr_Depth:∀(a:Ql) {r:Int},D a=some r->QU prog 253 [.agg (Qs a)] [] (Gives (.I r) []))(a:Ql):CT 253 [.agg (Qs a)] [] (Ok D a) V.I no_:=
 W 20 func253 Z λC e r h=>J e [16,.o (.ln a.Kids.length),4] Z (HP _)<|lp_ h (λst=>⟨[(3,.I st.1),(7,.sl 3 (Yi a.Kids)),(8,.I (a.Kids.length:Int)),(9,.I st.2)],[]⟩) (λq=>(.exit 0,⟨[(3,.I q)],[]⟩)) Z (λ⟨k,l⟩ o h=>H e [6] Z<|I h (λb h=>B h λg i h=>B h λj f h=>G e [.T,6,.o (.row (Qs g)),.A (Qs g),2,.O 5 (.var (Qs g)),4,.A (Qs g),.o (.C1 (.I j)),9] Z (a6_ b (Gk i) Z Z Z (hrec_expr_Depth _ f))<|rN_ h Z) λb h=>J e [.F,2] Z b<|rX_ h Z) λm h=>H e [10] Z<|E h Z U
def PQ : ∀(fuel:Nat) (a:Ql) {r:Int},Gb fuel a=some r->QU prog 253 [.agg (Qs a)] [] (Gives (.I r) [])
 | 0,_,_,h=>by cases h
 | n+1,a,_,h=>Qc3 (Gb n) (λ_ _ h=>PQ n _ h) a _ h
def Qe6 (a){r}(h:Sk a=some r):QU prog 253 [.agg (Qs a)] [] (Gives (.I r) []):=PQ _ a h
def Ol (c:Ql)(h:Ql->O_ Int)(d:Int)(a:Int):O_ ((Int×Int)⊕Int):=bif (a<(c.Kids.length:Int))then (idx c.Kids a).bind λe=>(h e).bind λb=>some (.inl ((Qi (d+b)),(Qi (a+1))))else some (.inr d)
def VX (a:Int):O_ Int:=some a
def PB (h:Ql->O_ Int)(a:Ql):O_ Int:=(QD (λst=>Ol a h st.1 st.2) (1,0)).bind (λq=>VX q)
def Ea : Nat->Ql->O_ Int
 | 0,_=>none
 | n+1,a=>PB (Ea n) a
def Vy (a:Ql):O_ Int:=Ea (SizeOf.sizeOf a) a
def Qd2 (D:Ql->O_ Int)(hrec_expr_Size:∀(a:Ql) {r:Int},D a=some r->QU prog 254 [.agg (Qs a)] [] (Gives (.I r) []))(a:Ql):CT 254 [.agg (Qs a)] [] (PB D a) V.I no_:=
 W 19 func254 Z λC e r h=>J e [16,.o (.ln a.Kids.length),4] Z (HP _)<|lp_ h (λst=>⟨[(3,.I st.1),(7,.sl 3 (Yi a.Kids)),(8,.I (a.Kids.length:Int)),(9,.I st.2)],[]⟩) (λq=>(.exit 0,⟨[(3,.I q)],[]⟩)) Z (λ⟨k,l⟩ o h=>H e [6] Z<|I h (λb h=>B h λg i h=>B h λj f h=>G e [.T,6,.o (.row (Qs g)),.A (Qs g),2,.O 5 (.var (Qs g)),4,.A (Qs g),.o (.C1 (.I j)),9] Z (a6_ b (Gk i) Z Z Z (hrec_expr_Size _ f))<|rN_ h Z) λb h=>J e [.F,2] Z b<|rX_ h Z) λm h=>H e [9] Z<|E h Z U
def Sl : ∀(fuel:Nat) (a:Ql) {r:Int},Ea fuel a=some r->QU prog 254 [.agg (Qs a)] [] (Gives (.I r) [])
 | 0,_,_,h=>by cases h
 | n+1,a,_,h=>Qd2 (Ea n) (λ_ _ h=>Sl n _ h) a _ h
def Qgi (a){r}(h:Vy a=some r):QU prog 254 [.agg (Qs a)] [] (Gives (.I r) []):=Sl _ a h
def Bp (a:Int)(b:Bool):O_ Int:=bif b then some 1 else bif (a==5)then some 2 else bif (a==6)then some 3 else some (-1)
def Bq (a:Int)(b:Bool):O_ Int:=bif b then some 0 else bif (a==3)then Bp a (a==3)else Bp a (a==4)
def OS (a:Int):O_ Int:=bif (a==1)then Bq a (a==1)else Bq a (a==2)
def Qgj (a):CT 291 [.I a] [] (OS a) V.I no_:=
 W 14 func291 Z λC c r h=>H c [12] Z<|mE_ (λk:Bool=>⟨[(3,.I a),(4,.b k)],[]⟩) (λk=>Bq a k=some r) (H c [6] Z<|I h (λd h=>J c [.T,1] Z d<|me_ h Z) λd h=>J c [.F,4] Z d<|me_ h Z) λk h=>I h (λf h=>J c [.T,8] Z f<|E h Z U) λf h=>J c [.F] Z f<|mE_ (λl:Bool=>⟨[(3,.I a),(7,.b l)],[]⟩) (λl=>Bp a l=some r) (H c [6] Z<|I h (λe h=>J c [.T,1] Z e<|me_ h Z) λe h=>J c [.F,4] Z e<|me_ h Z) λl h=>I h (λg h=>J c [.T,8] Z g<|E h Z U) λg h=>J c [.F,6] Z g<|I h (λi h=>J c [.T,8] Z i<|E h Z U) λi h=>J c [.F,6] Z i<|I h (λj h=>J c [.T,8] Z j<|E h Z U) λj h=>J c [.F,9] Z j<|E h Z U
def MY (DU:Int):O_ Bool:=some ((1<=DU)&&(DU<=11))
def Qe7 (DU):CT 292 [.I DU] [] (MY DU) V.b no_:=
 W 9 func292 Z λC c r h=>H c [6] Z<|Y ⟨[(2,.b ((1<=DU)&&(DU<=11)))],[]⟩ (H c [4] Z<|bO_ (decide (1<=DU)) (λa=>G c [.S 5 (.b true),5,.S 2 (.b ((1<=DU)&&(DU<=11)))] Z ⟨(tc_ a),(cb_ (Yx a Z))⟩<|M Z) λa=>G c [.S 5 (.b false),5,.S 2 (.b ((1<=DU)&&(DU<=11)))] Z ⟨(tc_ a),(cb_ (KL a Z))⟩<|M Z)<|H c [2] Z<|E h Z U
def Om (h:Ql->Int->O_ Bool)(a:Ql)(b:Int):O_ Bool:=(h a b).bind λc=>some (!c)
def Qc4 (D:Ql->Int->O_ Bool)(hrec_expr_parts:∀(i:Ql) (a:Int) {r:Bool},D i a=some r->QU prog 255 [.agg (Qs i),.I a] [] (Gives (.b r) []))(e:Ql)(f:Int):CT 294 [.agg (Qs e),.L 618] [(618,.var (Qb f))] (Om D e f) V.b (λ_=>[(618,.var (Qb f))]):=
 W 8 func294 Z λC j r h=>B h λk g h=>K j [8,.A (Qs e),1,.o (.C2 (.b k)),5] Z Z (hrec_expr_parts _ _ g)<|E h Z r1_
def JU (c:(L_ Ql))(h:Ql->Int->O_ Bool)(d:Int)(a:Int):O_ (Int⊕(Int⊕Unit)):=bif (a<(c.length:Int))then (idx c a).bind λe=>(Om h e d).bind λb=>bif b then some (.inr (.inl a))else some (.inl (Qi (a+1)))else some (.inr (.inr ()))
def CF (a:Int):O_ Int:=some a
def CG : O_ Int:=some (-1)
def KO (h:Ql->Int->O_ Bool)(a:(L_ Ql))(b:Int):O_ Int:=(QD (λst=>JU a h b st) 0).bind (Sum.elim (λq=>CF q) (λq=>CG))
def CH (D:Ql->Int->O_ Bool)(hrec_expr_parts:∀(m:Ql) (a:Int) {r:Bool},D m a=some r->QU prog 255 [.agg (Qs m),.I a] [] (Gives (.b r) []))(i:(L_ Ql))(f:Int):CT 311 [.sl 3 (Yi i),.clo (.func 294) [] [.L 618]] [(618,.var (Qb f))] (KO D i f) V.I (λ_=>[(618,.var (Qb f))]):=
 W 19 func311 Z λC e r h=>J e [9,.o (.ln i.length),4] Z (HP _)<|lq_ h (λst=>⟨[(0,.sl 3 (Yi i)),(1,.clo (.func 294) [] [.L 618]),(7,.I (i.length:Int)),(8,.I st)],[(618,.var (Qb f))]⟩) (λq=>(.ret,⟨[(4,.I q)],[(618,.var (Qb f))]⟩)) (λq=>(.exit 0,⟨[],[(618,.var (Qb f))]⟩)) Z (λs o h=>H e [6] Z<|I h (λg h=>B h λp k h=>B h λl j h=>g4_ e [.T,15,.o (.row (Qs p)),.A (Qs p),.cm (.clo) [(618,618)] [(618,618)] [] [.d,.d] [(618,.var (Qb f))] (.b l),2] Z g (Gk k) Z (Qc4 D hrec_expr_parts _ _ _ j)<|I h (λc h=>J e [.T,9] Z c<|rR_ h Z) λc h=>J e [.F,7] Z c<|rN_ h Z) λg h=>J e [.F,2] Z g<|rX_ h Z) (λt h=>H e [2] Z<|E h Z r1_) (λ_ h=>H e [8] Z<|E h Z r1_)
def YO (h:Ql->Int->O_ Bool)(a:(L_ Ql))(b:Int):O_ Bool:=(KO h a b).bind λc=>some (decide (0<=c))
def Br (D:Ql->Int->O_ Bool)(hrec_expr_parts:∀(f:Ql) (a:Int) {r:Bool},D f a=some r->QU prog 255 [.agg (Qs f),.I a] [] (Gives (.b r) []))(g:(L_ Ql))(c:Int):CT 293 [.sl 3 (Yi g),.clo (.func 294) [] [.L 618]] [(618,.var (Qb c))] (YO D g c) V.b (λ_=>[(618,.var (Qb c))]):=
 W 9 func293 Z λC i r h=>B h λj e h=>J i [9,.cm (.fn) [(618,618)] [(618,618)] [] [.d,.d] [(618,.var (Qb c))] (.I j),5] Z (CH D hrec_expr_parts _ _ _ e)<|E h Z r1_
def TD (b:Ql):O_ Bool:=bif (b.Kind==5)then (MY b.Num).bind λa=>some (!a)else some false
def TE (h:Ql->Int->O_ Bool)(d:Ql)(a:Int)(b:Bool):O_ Bool:=bif b then some false else (YO h d.Kids a).bind λc=>some (!c)
def On (h:Ql->Int->O_ Bool)(b:Ql)(a:Int):O_ Bool:=
 (OS b.Kind).bind λd=>
 bif ((b.Kids.length:Int) != d)then
 some false
 else
 bif ((b.Kind==2)&&((b.Num<0)||(a<=b.Num)))then
 some false
 else
 (TD b).bind (λc=>TE h b a c)
def Gc : Nat->Ql->Int->O_ Bool
 | 0,_,_=>none
 | n+1,b,a=>On (Gc n) b a
def Sm (b:Ql)(a:Int):O_ Bool:=Gc (SizeOf.sizeOf b) b a
def Qc5 (D:Ql->Int->O_ Bool)(hrec_expr_parts:∀(f:Ql) (e:Int) {r:Bool},D f e=some r->QU prog 255 [.agg (Qs f),.I e] [] (Gives (.b r) []))(f:Ql)(e:Int):CT 255 [.agg (Qs f),.I e] [] (On D f e) V.b no_:=
 W 43 func255 Z λC g r h=>B h λx u h=>H g [10,.K [2,3] [2,3]] Z <| 
  dr_ g [.N,.N,.B (.ln f.Kids.length),.N,.N,.B (.C1 (.I x)),.N,.N] [] [] [2,3,5] [2,3] Z Z (a2_ (HP _) (Qgj _ _ u)) Z <|
  H g [1] Z<|I h (λp h=>J g [.T,8] Z p<|E h Z U) λp h=>J g [.F,1] Z p<|Y ⟨[lk_ 2,lk_ 3,(13,.b ((f.Kind==2)&&((f.Num<0)||(e<=f.Num))))],[(2,.var (Qs f)),(3,.var (Qb e))]⟩ (H g [5] Z<|bO_ (f.Kind==2) (λi=>L g [.S 17 (.b true),4] Z i<|bO_ (decide (f.Num<0)) (λj=>G g [.S 21 (.b true),8,.S 13 (.b ((f.Kind==2)&&((f.Num<0)||(e<=f.Num))))] Z ⟨(tc_ j),(cb_ (Yx i (Eh j Z)))⟩<|M Z) λj=>G g [.S 21 (.b false),8,.S 13 (.b ((f.Kind==2)&&((f.Num<0)||(e<=f.Num))))] Z ⟨(tc_ j),(cb_ (Yx i (Ji j Z)))⟩<|M Z) λi=>G g [.S 17 (.b false),12,.S 13 (.b ((f.Kind==2)&&((f.Num<0)||(e<=f.Num))))] Z ⟨(tc_ i),(cb_ (KL i Z))⟩<|M Z)<|H g [1] Z<|I h (λk h=>J g [.T,8] Z k<|E h Z U) λk h=>J g [.F,1] Z k<|mV_ h (λq=>⟨[lk_ 2,lk_ 3,(28,.b q)],[(2,.var (Qs f)),(3,.var (Qb e))]⟩) (λq h=>H g [5] Z<|I h (λl h=>B h λv s h=>G g [.S 32 (.b true),2,.o (.C1 (.b v)),4] Z ⟨(tc_ l),(Qe7 _ _ s)⟩<|mq_ h Z) λl h=>L g [.S 32 (.b false),7] Z l<|mq_ h Z) λq h=>H g [1] Z<|I h (λm h=>J g [.T,8] Z m<|E h Z U) λm h=>B h λw t h=>K g [.F,8,.cm (.fn) [(618,3)] [(3,618)] [] [.d,.d] [(618,.var (Qb e))] (.b w),5] Z m (Br D hrec_expr_parts _ _ _ t)<|E h Z U
def PR : ∀(fuel:Nat) (c:Ql) (a:Int) {r:Bool},Gc fuel c a=some r->QU prog 255 [.agg (Qs c),.I a] [] (Gives (.b r) [])
 | 0,_,_,_,h=>by cases h
 | n+1,c,a,_,h=>Qc5 (Gc n) (λ_ _ _ h=>PR n _ _ h) c a _ h
def Qe8 (c a){r}(h:Sm c a=some r):QU prog 255 [.agg (Qs c),.I a] [] (Gives (.b r) []):=PR _ c a h
def TF (b:Ql)(a:Int):O_ Bool:=(Sk b).bind λd=>bif (d<=40)then (Vy b).bind λe=>bif (e<=400)then (Sm b a).bind λc=>some c else some false else some false
def Qe9 (a:Bool):O_ Bool:=some a
def Bs (b:Ql)(a:Int):O_ Bool:=(TF b a).bind (λc=>Qe9 c)
def MZ (i a):CT 210 [.agg (Qs i),.I a] [] (Bs i a) V.b no_:=
 W 18 func210 Z λC e r h=>H e [7] Z<|mV_ h (λk=>⟨[(4,.b k)],[]⟩) (λk h=>B h λq l h=>K e [1,.A (Qs i),.o (.C1 (.I q)),2] Z Z (Qe6 _ l)<|I h (λf h=>B h λs m h=>G e [.S 8 (.b true),.A (Qs i),.o (.C1 (.I s)),3] Z ⟨⟨(tc_ f),Z⟩,(Qgi _ m)⟩<|I h (λg h=>B h λp j h=>G e [.S 13 (.b true),.A (Qs i),1,.o (.C2 (.b p)),3] Z ⟨⟨(tc_ g),Z⟩,(Qe8 _ _ j)⟩<|mq_ h Z) λg h=>L e [.S 13 (.b false),6] Z g<|mq_ h Z) λf h=>L e [.S 8 (.b false),11] Z f<|mq_ h Z) λk h=>H e [2] Z<|E h Z U
def KP (b:LI_)(a:Int)(c:Bool):O_ (LI_⊕(LI_⊕(LI_⊕(LI_⊕LI_)))):=bif c then some (.inr (.inr (.inl b)))else bif (a==5)then some (.inr (.inr (.inr (.inl b))))else some (.inr (.inr (.inr (.inr b))))
def Wr (b:LI_)(a:Int):O_ (LI_⊕(LI_⊕(LI_⊕(LI_⊕LI_)))):=bif (a==1)then some (.inl b)else bif (a==2)then some (.inr (.inl b))else bif (a==3)then KP b a (a==3)else KP b a (a==4)
def GA (k a){r}(h:Wr k a=some r):QU prog 285 [.sl 1 (k.map Qb),.I a] [] ((Sum.elim (λq=>(Gives (.clo (.func 302) [.sl 1 (q.map Qb)] []) [])) (Sum.elim (λq=>(Gives (.clo (.func 303) [.sl 1 (q.map Qb)] []) [])) (Sum.elim (λq=>(Gives (.clo (.func 304) [.sl 1 (q.map Qb)] []) [])) (Sum.elim (λq=>(Gives (.clo (.func 305) [.sl 1 (q.map Qb)] []) [])) (λq=>(Gives (.clo (.func 306) [.sl 1 (q.map Qb)] []) [])))))) r):=by
 refine wk_ 25 func285 λC c=>?_
 refine tg_ c [18] ?_
 refine bq_ c h [.T,10,.K [4] []] rfl (λg h=>?_) [.F,6] rfl λg h=>?_
 ·cases h
  exact AK.done (ex_ [_] (an_ (an_ Z U) (gives U)))
 refine bq_ c h [.T,10,.K [4] []] rfl (λi h=>?_) [.F] rfl λi h=>?_
 ·cases h
  exact AK.done (ex_ [_] (an_ (an_ Z U) (gives U)))
 refine AK.meet (λσ=>∃j:Bool,σ=⟨[(0,.sl 1 (k.map Qb)),(5,.I a),(14,.b j)],[]⟩/\KP k a j=some r) ?_ ?_
 ·refine tg_ c [6] ?_
  refine bq_ c h [.T,1,.K [0,5,14] []] rfl (λd h=>?_) [.F,4,.K [0,5,14] []] rfl λd h=>?_
  ·exact AK.met (ex_ _ (an_ Z h))
  exact AK.met (ex_ _ (an_ Z h))
 rintro σ ⟨j,rfl,h⟩
 refine bq_ c h [.T,10,.K [4] []] rfl (λe h=>?_) [.F,6] rfl λe h=>?_
 ·cases h
  exact AK.done (ex_ [_] (an_ (an_ Z U) (gives U)))
 refine bq_ c h [.T,10,.K [4] []] rfl (λf h=>?_) [.F,11,.K [4] []] rfl λf h=>?_
 ·cases h
  exact AK.done (ex_ [_] (an_ (an_ Z U) (gives U)))
 cases h
 exact AK.done (ex_ [_] (an_ (an_ Z U) (gives U)))
def PS (b:LI_)(a:Ql):O_ (Int×Int):=some (a.Num,0)
def Qam (a b):CT 302 [.sl 1 (a.map Qb),.agg (Qs b)] [] (PS a b) (λr=>(.tup [.I r.1,.I r.2])) no_:=
 W 8 func302 Z λC c r h=>H c [16] Z<|F h Z Z U
def Fg (a:LI_)(b:Ql):O_ (Int×Int):=(idx a b.Num).bind λc=>some (c,0)
def Vz (b c):CT 303 [.sl 1 (b.map Qb),.agg (Qs c)] [] (Fg b c) (λr=>(.tup [.I r.1,.I r.2])) no_:=
 W 11 func303 Z λC d r h=>B h λe a h=>J d [12,.o (.row (Qb e)),6] Z (Xi a)<|F h Z Z U
def Ro (a:Int)(b:Int):O_ (Int×Int):=bif (((decide (a<0))==(decide (b<0)))&&((decide ((Qi (a+b))<0)) != (decide (a<0))))then some (0,6)else some ((Qi (a+b)),0)
def Qhj (a d):CT 329 [.I a,.I d] [] (Ro a d) (λr=>(.tup [.I r.1,.I r.2])) no_:=
 W 23 func329 Z λC e r h=>H e [16] Z<|Y ⟨[(6,.I (Qi (a+d))),(21,.b (((decide (a<0))==(decide (d<0)))&&((decide ((Qi (a+d))<0)) != (decide (a<0)))))],[]⟩ (H e [7] Z<|bO_ ((decide (a<0))==(decide (d<0))) (λc=>G e [.S 15 (.b true),7,.S 21 (.b (((decide (a<0))==(decide (d<0)))&&((decide ((Qi (a+d))<0)) != (decide (a<0)))))] Z ⟨(tc_ c),(cb_ (Yx c Z))⟩<|M Z) λc=>G e [.S 15 (.b false),7,.S 21 (.b (((decide (a<0))==(decide (d<0)))&&((decide ((Qi (a+d))<0)) != (decide (a<0)))))] Z ⟨(tc_ c),(cb_ (KL c Z))⟩<|M Z)<|H e [1] Z<|I h (λf h=>J e [.T,8] Z f<|F h Z Z U) λf h=>J e [.F,10] Z f<|F h Z Z U
def AO (a:Int)(b:Int):O_ (Int×Int):=bif (((decide (a<0)) != (decide (b<0)))&&((decide ((Qi (a-b))<0)) != (decide (a<0))))then some (0,6)else some ((Qi (a-b)),0)
def Qan (a d):CT 330 [.I a,.I d] [] (AO a d) (λr=>(.tup [.I r.1,.I r.2])) no_:=
 W 23 func330 Z λC e r h=>H e [16] Z<|Y ⟨[(6,.I (Qi (a-d))),(21,.b (((decide (a<0)) != (decide (d<0)))&&((decide ((Qi (a-d))<0)) != (decide (a<0)))))],[]⟩ (H e [7] Z<|bO_ ((decide (a<0)) != (decide (d<0))) (λc=>G e [.S 15 (.b true),7,.S 21 (.b (((decide (a<0)) != (decide (d<0)))&&((decide ((Qi (a-d))<0)) != (decide (a<0)))))] Z ⟨(tc_ c),(cb_ (Yx c Z))⟩<|M Z) λc=>G e [.S 15 (.b false),7,.S 21 (.b (((decide (a<0)) != (decide (d<0)))&&((decide ((Qi (a-d))<0)) != (decide (a<0)))))] Z ⟨(tc_ c),(cb_ (KL c Z))⟩<|M Z)<|H e [1] Z<|I h (λf h=>J e [.T,8] Z f<|F h Z Z U) λf h=>J e [.F,10] Z f<|F h Z Z U
def Lh (a:Int):O_ Int:=bif (a<0)then some (IntKind.u64.wrap (0-(IntKind.u64.wrap a)))else some (IntKind.u64.wrap a)
def VY (c):CT 336 [.I c] [] (Lh c) (λr=>(.i .u64 r)) no_:=
 W 10 func336 Z λC b r h=>H b [12] Z<|I h (λa h=>K b [.T,3,.o (.any (.i .u64 (IntKind.u64.wrap c)) none),6] Z a (λσ d e _=>Stp.convI Z Z (QR b.n Z) (d _ _ Z) QdR QbI)<|E h Z U) λa h=>K b [.F,5,.o (.any (.i .u64 (IntKind.u64.wrap c)) none),4] Z a (λσ d e _=>Stp.convI Z Z (QR b.n Z) (d _ _ Z) QdR QbI)<|E h Z U
def AP (a:Int)(b:Int):O_ (Int×Int):=some ((IntKind.u64.wrap ((IntKind.u64.wrap ((IntKind.u64.wrap ((Jk .u64 a 32)*(Jk .u64 b 32)))+(Jk .u64 (IntKind.u64.wrap ((IntKind.u64.wrap ((Jk .u64 a 32)*(DM .u64 b 4294967295)))+(Jk .u64 (IntKind.u64.wrap ((DM .u64 a 4294967295)*(DM .u64 b 4294967295))) 32))) 32)))+(Jk .u64 (IntKind.u64.wrap ((DM .u64 (IntKind.u64.wrap ((IntKind.u64.wrap ((Jk .u64 a 32)*(DM .u64 b 4294967295)))+(Jk .u64 (IntKind.u64.wrap ((DM .u64 a 4294967295)*(DM .u64 b 4294967295))) 32))) 4294967295)+(IntKind.u64.wrap ((DM .u64 a 4294967295)*(Jk .u64 b 32))))) 32))),(IntKind.u64.wrap (a*b)))
def Qao (b c):CT 335 [.i .u64 b,.i .u64 c] [] (AP b c) (λr=>(.tup [.i .u64 r.1,.i .u64 r.2])) no_:=
 W 51 func335 Z λC d r h=>G d [9,.o (.any (.i .u64 (DM .u64 b 4294967295)) none),6,.o (.any (.i .u64 (Jk .u64 b 32)) none),6,.o (.any (.i .u64 (DM .u64 c 4294967295)) none),6,.o (.any (.i .u64 (Jk .u64 c 32)) none),17,.o (.any (.i .u64 (Jk .u64 (IntKind.u64.wrap ((DM .u64 b 4294967295)*(DM .u64 c 4294967295))) 32)) none),7,.o (.any (.i .u64 (DM .u64 (IntKind.u64.wrap ((IntKind.u64.wrap ((Jk .u64 b 32)*(DM .u64 c 4294967295)))+(Jk .u64 (IntKind.u64.wrap ((DM .u64 b 4294967295)*(DM .u64 c 4294967295))) 32))) 4294967295)) none),6,.o (.any (.i .u64 (Jk .u64 (IntKind.u64.wrap ((IntKind.u64.wrap ((Jk .u64 b 32)*(DM .u64 c 4294967295)))+(Jk .u64 (IntKind.u64.wrap ((DM .u64 b 4294967295)*(DM .u64 c 4294967295))) 32))) 32)) none),21,.o (.any (.i .u64 (Jk .u64 (IntKind.u64.wrap ((DM .u64 (IntKind.u64.wrap ((IntKind.u64.wrap ((Jk .u64 b 32)*(DM .u64 c 4294967295)))+(Jk .u64 (IntKind.u64.wrap ((DM .u64 b 4294967295)*(DM .u64 c 4294967295))) 32))) 4294967295)+(IntKind.u64.wrap ((DM .u64 b 4294967295)*(Jk .u64 c 32))))) 32)) none),13] Z (a8_ (λσ a e _=>Stp.andB Z Z (QR d.n Z) (a _ _ Z) (a _ _ Z)) (λσ a e _=>Stp.shr Z Z (QR d.n Z) (a _ _ Z) (a _ _ Z) (by decide)) (λσ a e _=>Stp.andB Z Z (QR d.n Z) (a _ _ Z) (a _ _ Z)) (λσ a e _=>Stp.shr Z Z (QR d.n Z) (a _ _ Z) (a _ _ Z) (by decide)) (λσ a e _=>Stp.shr Z Z (QR d.n Z) (a _ _ Z) (a _ _ Z) (by decide)) (λσ a e _=>Stp.andB Z Z (QR d.n Z) (a _ _ Z) (a _ _ Z)) (λσ a e _=>Stp.shr Z Z (QR d.n Z) (a _ _ Z) (a _ _ Z) (by decide)) (λσ a e _=>Stp.shr Z Z (QR d.n Z) (a _ _ Z) (a _ _ Z) (by decide)))<|F h Z Z U
def Ej (b:(Int×Int))(c:Int)(d:Int)(a:Int):O_ (Int×Int):=
 bif ((0<b.1)||(a<b.2))then
 some (0,6)
 else
 some ((Qi (c*d)),0)
def HY (a:Int)(b:Int):O_ (Int×Int):=(Lh a).bind λd=>(Lh b).bind λe=>(AP d e).bind λc=>bif ((decide (a<0)) != (decide (b<0)))then Ej c a b (IntKind.u64.wrap (9223372036854775807+1))else Ej c a b 9223372036854775807
def Qc6 (l m):CT 331 [.I l,.I m] [] (HY l m) (λr=>(.tup [.I r.1,.I r.2])) no_:=
 W 34 func331 Z λC g r h=>B h λt p h=>B h λu q h=>B h λf s h=>g3_ g [9,.o (.C1 (.i .u64 t)),1,.o (.C1 (.i .u64 u)),.o (.C2 (.tup [.i .u64 f.1,.i .u64 f.2])),12] Z (VY _ _ p) (VY _ _ q) (Qao _ _ _ s)<|mE_ (λa:Int=>⟨[(0,.I l),(1,.I m),(6,.i .u64 f.1),(7,.i .u64 f.2),(8,.i .u64 a)],[]⟩) (λa=>Ej f l m a=some r) (H g [9] Z<|I h (λj h=>J g [.T,5] Z j<|me_ h Z) λj h=>J g [.F,1] Z j<|me_ h Z) λa h=>H g [2] Z<|Y ⟨[(0,.I l),(1,.I m),(30,.b ((0<f.1)||(a<f.2)))],[]⟩ (H g [4] Z<|bO_ (decide (0<f.1)) (λe=>G g [.S 26 (.b true),5,.S 30 (.b ((0<f.1)||(a<f.2)))] Z ⟨(tc_ e),(cb_ (Eh e Z))⟩<|M Z) λe=>G g [.S 26 (.b false),5,.S 30 (.b ((0<f.1)||(a<f.2)))] Z ⟨(tc_ e),(cb_ (Ji e Z))⟩<|M Z)<|H g [1] Z<|I h (λk h=>J g [.T,8] Z k<|F h Z Z U) λk h=>J g [.F,12] Z k<|F h Z Z U
def UY (b:Int)(a:Int):O_ (Int×Int×Int):=bif (a==0)then some (0,0,7)else bif ((b==(-9223372036854775808))&&(a==(-1)))then some (0,0,6)else (chk (a != 0)).bind λ_=>(chk (a != 0)).bind λ_=>some ((Qi (Int.tdiv b a)),(Int.tmod b a),0)
def Pk (e g):CT 332 [.I e,.I g] [] (UY e g) (λr=>(.tup [.I r.1,.I r.2.1,.I r.2.2])) no_:=
 W 23 func332 Z λC c r h=>H c [16] Z<|I h (λf h=>J c [.T,10,.K [4,5,6] []] Z f<|e3_ h Z Z U) λf h=>J c [.F,1] Z f<|Y ⟨[(0,.I e),(1,.I g),(10,.b ((e==(-9223372036854775808))&&(g==(-1))))],[]⟩ (H c [4] Z<|bO_ (e==(-9223372036854775808)) (λa=>G c [.S 13 (.b true),5,.S 10 (.b ((e==(-9223372036854775808))&&(g==(-1))))] Z ⟨(tc_ a),(cb_ (Yx a Z))⟩<|M Z) λa=>G c [.S 13 (.b false),5,.S 10 (.b ((e==(-9223372036854775808))&&(g==(-1))))] Z ⟨(tc_ a),(cb_ (KL a Z))⟩<|M Z)<|H c [1] Z<|I h (λd h=>J c [.T,10,.K [4,5,6] []] Z d<|e3_ h Z Z U) λd h=>X h λi h=>X h λj h=>G c [.F,4,.K [0,1] []] Z (A d) <| 
  dr_ c [.N,.N,.N,.N,.N,.N,.N,.N,.N] [] [] [4,5,6] [] Z Z (a2_ (neZ i) (neZ j)) Z <|
  H c [2,.K [4,5,6] []] Z<|e3_ h Z Z U
def Dq (a:Bool):O_ (Int×Int):=bif a then some (1,0)else some (0,0)
def DH (c):CT 333 [.b c] [] (Dq c) (λr=>(.tup [.I r.1,.I r.2])) no_:=
 W 5 func333 Z λC d r h=>H d [12] Z<|I h (λa h=>J d [.T,8] Z a<|F h Z Z U) λa h=>J d [.F,9] Z a<|F h Z Z U
def QbP (c:Int)(d:Int):O_ (Int×Int):=bif (c != 0)then (Dq (d != 0)).bind λa=>some (a.1,a.2)else (Dq false).bind λb=>some (b.1,b.2)
def QbQ (a:Int)(b:Int):O_ (Int×Int):=some (a,b)
def QbR (c:Int)(d:Int):O_ (Int×Int):=bif (c != 0)then (Dq true).bind λa=>some (a.1,a.2)else (Dq (d != 0)).bind λb=>some (b.1,b.2)
def QbS (a:Int)(b:Int):O_ (Int×Int):=some (a,b)
def Hm (DU:Int)(a:Int)(b:Int):O_ (Int×Int):=bif (DU==1)then (Ro a b).bind λk=>some (k.1,k.2)else bif (DU==2)then (AO a b).bind λc=>some (c.1,c.2)else bif (DU==3)then (HY a b).bind λd=>some (d.1,d.2)else bif (DU==4)then (UY a b).bind λe=>some (e.1,e.2.2)else bif (DU==5)then (UY a b).bind λf=>some (f.2.1,f.2.2)else bif (DU==6)then (Dq (a==b)).bind λg=>some (g.1,g.2)else bif (DU==7)then (Dq (a != b)).bind λh=>some (h.1,h.2)else bif (DU==8)then (Dq (decide (a<b))).bind λi=>some (i.1,i.2)else bif (DU==9)then (Dq (decide (a<=b))).bind λj=>some (j.1,j.2)else bif (DU==10)then (QbP a b).bind (λv=>QbQ v.1 v.2)else bif (DU==11)then (QbR a b).bind (λv=>QbS v.1 v.2)else some (0,1)
def Na (DU a2 b3):CT 319 [.I DU,.I a2,.I b3] [] (Hm DU a2 b3) (λr=>(.tup [.I r.1,.I r.2])) no_:=
 W 112 func319 Z λC a r h=>H a [19] Z<|I h (λu h=>B h λx9 b8 h=>K a [.T,4,.o (.C2 (.tup [.I x9.1,.I x9.2])),9] Z u (Qhj _ _ _ b8)<|F h Z Z U) λu h=>J a [.F,6] Z u<|I h (λe h=>B h λy z h=>K a [.T,4,.o (.C2 (.tup [.I y.1,.I y.2])),9] Z e (Qan _ _ _ z)<|F h Z Z U) λe h=>J a [.F,6] Z e<|I h (λf h=>B h λD N h=>K a [.T,4,.o (.C2 (.tup [.I D.1,.I D.2])),9] Z f (Qc6 _ _ _ N)<|F h Z Z U) λf h=>J a [.F,6] Z f<|I h (λg h=>B h λw O h=>K a [.T,4,.o (.C2 (.tup [.I w.1,.I w.2.1,.I w.2.2])),20] Z g (Pk _ _ _ O)<|F h Z Z U) λg h=>J a [.F,6] Z g<|I h (λi h=>B h λx P h=>K a [.T,4,.o (.C2 (.tup [.I x.1,.I x.2.1,.I x.2.2])),20] Z i (Pk _ _ _ P)<|F h Z Z U) λi h=>J a [.F,6] Z i<|I h (λj h=>B h λa0 a1 h=>K a [.T,5,.o (.C1 (.tup [.I a0.1,.I a0.2])),9] Z j (DH _ _ a1)<|F h Z Z U) λj h=>J a [.F,6] Z j<|I h (λk h=>B h λa3 a4 h=>K a [.T,5,.o (.C1 (.tup [.I a3.1,.I a3.2])),9] Z k (DH _ _ a4)<|F h Z Z U) λk h=>J a [.F,6] Z k<|I h (λl h=>B h λa5 a6 h=>K a [.T,5,.o (.C1 (.tup [.I a5.1,.I a5.2])),9] Z l (DH _ _ a6)<|F h Z Z U) λl h=>J a [.F,6] Z l<|I h (λm h=>B h λa7 a8 h=>K a [.T,5,.o (.C1 (.tup [.I a7.1,.I a7.2])),9] Z m (DH _ _ a8)<|F h Z Z U) λm h=>J a [.F,6] Z m<|I h (λp h=>J a [.T,1] Z p<|mV_ h (λv=>⟨[(6,.I v.1),(7,.I v.2)],[]⟩) (λv h=>H a [4] Z<|I h (λq h=>B h λa9 b0 h=>G a [.S 94 (.b true),3,.o (.C1 (.tup [.I a9.1,.I a9.2])),5] Z ⟨(tc_ q),(DH _ _ b0)⟩<|mq_ h Z) λq h=>B h λb1 b2 h=>G a [.S 94 (.b false),3,.o (.C1 (.tup [.I b1.1,.I b1.2])),5] Z ⟨(tc_ q),(DH _ _ b2)⟩<|mq_ h Z) λ⟨b9,c0⟩ h=>H a [4] Z<|F h Z Z U) λp h=>J a [.F,6] Z p<|I h (λs h=>J a [.T,1] Z s<|mV_ h (λv=>⟨[(6,.I v.1),(7,.I v.2)],[]⟩) (λv h=>H a [4] Z<|I h (λt h=>B h λb4 b5 h=>G a [.S 105 (.b true),3,.o (.C1 (.tup [.I b4.1,.I b4.2])),5] Z ⟨(tc_ t),(DH _ _ b5)⟩<|mq_ h Z) λt h=>B h λb6 b7 h=>G a [.S 105 (.b false),3,.o (.C1 (.tup [.I b6.1,.I b6.2])),5] Z ⟨(tc_ t),(DH _ _ b7)⟩<|mq_ h Z) λ⟨c1,c2⟩ h=>H a [4] Z<|F h Z Z U) λs h=>J a [.F,10] Z s<|F h Z Z U
def Rp (b:Int):O_ (Int×Int):=(Hm 2 0 b).bind λa=>some (a.1,a.2)
def Qhk (b):CT 318 [.I b] [] (Rp b) (λr=>(.tup [.I r.1,.I r.2])) no_:=
 W 8 func318 Z λC f r h=>B h λe a h=>J f [9,.o (.C3 (.tup [.I e.1,.I e.2])),7] Z (Na _ _ _ _ a)<|F h Z Z U
def AQ (h:LI_->Ql->O_ (Int×Int))(e:LI_)(d:Ql):O_ (Int×Int):=(idx d.Kids 0).bind λf=>(h e f).bind λc=>bif (c.2 != 0)then some (0,c.2)else bif (d.Kind==3)then (Rp c.1).bind λa=>some (a.1,a.2)else (Hm 6 c.1 0).bind λb=>some (b.1,b.2)
def Qap (D:LI_->Ql->O_ (Int×Int))(hrec_expr_env_eval:∀(e:LI_) (f:Ql) {r:(Int×Int)},D e f=some r->QU prog 232 [.sl 1 (e.map Qb),.agg (Qs f)] [] (Gives (.tup [.I r.1,.I r.2]) []))(e:LI_)(f:Ql):CT 304 [.sl 1 (e.map Qb),.agg (Qs f)] [] (AQ D e f) (λr=>(.tup [.I r.1,.I r.2])) no_:=
 W 33 func304 Z λC g r h=>B h λq m h=>B h λs p h=>g3_ g [12,.o (.row (Qs q)),.A (Qs q),.o (.C2 (.tup [.I s.1,.I s.2])),16] Z (Gk m) Z (hrec_expr_env_eval _ _ p)<|I h (λb h=>J g [.T,10] Z b<|F h Z Z U) λb h=>J g [.F,8] Z b<|I h (λa h=>B h λi j h=>K g [.T,3,.o (.C1 (.tup [.I i.1,.I i.2])),9] Z a (Qhk _ _ j)<|F h Z Z U) λa h=>B h λk l h=>K g [.F,6,.o (.C3 (.tup [.I k.1,.I k.2])),7] Z a (Na _ _ _ _ l)<|F h Z Z U
def DB (f:(Int×Int))(g:Ql)(D:LI_->Ql->O_ (Int×Int))(h:LI_)(d:Bool):O_ (Int×Int):=bif d then (Hm 7 f.1 0).bind λb=>some (b.1,b.2)else (idx g.Kids 1).bind λe=>(D h e).bind λa=>bif (a.2 != 0)then some (0,a.2)else (Hm g.Num f.1 a.1).bind λc=>some (c.1,c.2)
def Oo (h:LI_->Ql->O_ (Int×Int))(c:LI_)(b:Ql):O_ (Int×Int):=(idx b.Kids 0).bind λd=>(h c d).bind λa=>bif (a.2 != 0)then some (0,a.2)else bif ((b.Num==10)&&(a.1==0))then DB a b h c ((b.Num==10)&&(a.1==0))else bif (b.Num==11)then DB a b h c (a.1 != 0)else DB a b h c false
def Qc7 (rec_expr_env_eval:LI_->Ql->O_ (Int×Int))(hrec_expr_env_eval:∀(m:LI_) (f:Ql) {r:(Int×Int)},rec_expr_env_eval m f=some r->QU prog 232 [.sl 1 (m.map Qb),.agg (Qs f)] [] (Gives (.tup [.I r.1,.I r.2]) []))(m:LI_)(f:Ql):CT 305 [.sl 1 (m.map Qb),.agg (Qs f)] [] (Oo rec_expr_env_eval m f) (λr=>(.tup [.I r.1,.I r.2])) no_:=
 W 60 func305 Z λC e r h=>B h λP N h=>B h λp O h=>g3_ e [12,.o (.row (Qs P)),.A (Qs P),.o (.C2 (.tup [.I p.1,.I p.2])),16] Z (Gk N) Z (hrec_expr_env_eval _ _ O)<|I h (λq h=>J e [.T,10] Z q<|F h Z Z U) λq h=>J e [.F] Z q<|mE_ (λl:Bool=>⟨[(0,.sl 1 (m.map Qb)),lk_ 3,(6,.I p.1),(22,.b l)],[(3,.var (Qs f))]⟩) (λl=>DB p f rec_expr_env_eval m l=some r) (H e [1] Z<|Y ⟨[(0,.sl 1 (m.map Qb)),lk_ 3,(6,.I p.1),(22,.b ((f.Num==10)&&(p.1==0)))],[(3,.var (Qs f))]⟩ (H e [5] Z<|bO_ (f.Num==10) (λa=>G e [.S 26 (.b true),5,.S 22 (.b ((f.Num==10)&&(p.1==0)))] Z ⟨(tc_ a),(cb_ (Yx a Z))⟩<|M Z) λa=>G e [.S 26 (.b false),5,.S 22 (.b ((f.Num==10)&&(p.1==0)))] Z ⟨(tc_ a),(cb_ (KL a Z))⟩<|M Z)<|H e [1] Z<|I h (λg h=>J e [.T,1] Z g<|me_ h Z) λg h=>J e [.F,5] Z g<|I h (λi h=>L e [.S 33 (.b true),5] Z i<|me_ h Z) λi h=>L e [.S 33 (.b false),5] Z i<|me_ h Z) λl h=>I h (λj h=>B h λs t h=>K e [.T,3,.o (.C3 (.tup [.I s.1,.I s.2])),9] Z j (Na _ _ _ _ t)<|F h Z Z U) λj h=>B h λu w h=>B h λx y h=>g4_ e [.F,8,.o (.row (Qs u)),.A (Qs u),.o (.C2 (.tup [.I x.1,.I x.2])),14] Z j (Gk w) Z (hrec_expr_env_eval _ _ y)<|I h (λk h=>J e [.T,9] Z k<|F h Z Z U) λk h=>B h λz D h=>K e [.F,8,.o (.C3 (.tup [.I z.1,.I z.2])),7] Z k (Na _ _ _ _ D)<|F h Z Z U
def IN (D:LI_->Ql->O_ (Int×Int))(c:LI_)(d:Ql):O_ (Int×Int):=(idx d.Kids 0).bind λh=>(D c h).bind λe=>bif (e.2 != 0)then some (0,e.2)else bif (e.1 != 0)then (idx d.Kids 1).bind λf=>(D c f).bind λa=>some (a.1,a.2)else (idx d.Kids 2).bind λg=>(D c g).bind λb=>some (b.1,b.2)
def Qaq (rec_expr_env_eval:LI_->Ql->O_ (Int×Int))(D:∀(e:LI_) (f:Ql) {r:(Int×Int)},rec_expr_env_eval e f=some r->QU prog 232 [.sl 1 (e.map Qb),.agg (Qs f)] [] (Gives (.tup [.I r.1,.I r.2]) []))(e:LI_)(f:Ql):CT 306 [.sl 1 (e.map Qb),.agg (Qs f)] [] (IN rec_expr_env_eval e f) (λr=>(.tup [.I r.1,.I r.2])) no_:=
 W 40 func306 Z λC g r h=>B h λw t h=>B h λx u h=>g3_ g [12,.o (.row (Qs w)),.A (Qs w),.o (.C2 (.tup [.I x.1,.I x.2])),16] Z (Gk t) Z (D _ _ u)<|I h (λb h=>J g [.T,10] Z b<|F h Z Z U) λb h=>J g [.F,7] Z b<|I h (λa h=>B h λi j h=>B h λk l h=>g4_ g [.T,5,.o (.row (Qs i)),.A (Qs i),.o (.C2 (.tup [.I k.1,.I k.2])),9] Z a (Gk j) Z (D _ _ l)<|F h Z Z U) λa h=>B h λm p h=>B h λq s h=>g4_ g [.F,8,.o (.row (Qs m)),.A (Qs m),.o (.C2 (.tup [.I q.1,.I q.2])),7] Z a (Gk p) Z (D _ _ s)<|F h Z Z U
def Pl (b:Ql)(c:LI_):O_ (Int×Int):=(PS c b).bind λa=>some (a.1,a.2)
def UZ (b:Ql)(c:LI_):O_ (Int×Int):=(Fg c b).bind λa=>some (a.1,a.2)
def WU (h:LI_->Ql->O_ (Int×Int))(c:Ql)(b:LI_):O_ (Int×Int):=(AQ h b c).bind λa=>some (a.1,a.2)
def Aa (h:LI_->Ql->O_ (Int×Int))(c:Ql)(b:LI_):O_ (Int×Int):=(Oo h b c).bind λa=>some (a.1,a.2)
def Ab (h:LI_->Ql->O_ (Int×Int))(c:Ql)(b:LI_):O_ (Int×Int):=(IN h b c).bind λa=>some (a.1,a.2)
def IP (h:LI_->Ql->O_ (Int×Int))(b:LI_)(a:Ql):O_ (Int×Int):=(Wr b a.Kind).bind λc=>(Sum.elim (λq=>Pl a q) (Sum.elim (λq=>UZ a q) (Sum.elim (λq=>WU h a q) (Sum.elim (λq=>Aa h a q) (λq=>Ab h a q))))) c
def Yr : Nat->LI_->Ql->O_ (Int×Int)
 | 0,_,_=>none
 | n+1,a,b=>IP (Yr n) a b
def Nb (b:LI_)(a:Ql):O_ (Int×Int):=Yr (SizeOf.sizeOf a) b a
def Qar (rec_expr_env_eval:LI_->Ql->O_ (Int×Int))(hrec_expr_env_eval:∀(o:LI_) (e:Ql) {r:(Int×Int)},rec_expr_env_eval o e=some r->QU prog 232 [.sl 1 (o.map Qb),.agg (Qs e)] [] (Gives (.tup [.I r.1,.I r.2]) []))(o:LI_)(e:Ql):CT 232 [.sl 1 (o.map Qb),.agg (Qs e)] [] (IP rec_expr_env_eval o e) (λr=>(.tup [.I r.1,.I r.2])) no_:=by
 refine W 14 func232 rfl λC b r h=>?_
 refine tg_ b [8] ?_
 obtain⟨S,f,h⟩:=Qv h
 rcases S with(O | (P | (j | (k | l))))
 ·exact have h:Pl e O=some r:=h;B h λp q h=>H b [.K [0,3,4,5] [3]] Z <| 
    dr_ b [.N,.N,.N,.B (.any (.clo (.func 302) [.sl 1 (O.map Qb)] []) none),.E (.agg (Qs e)),.B (.C2 (.tup [.I p.1,.I p.2])),.N,.N,.m .s,.m .s] [] [] [4,5] [] Z Z (a3_ (λσ g i _=>Stp.callSame (md:=.cm (.fn) [] [] [] [.d,.d] [] (.clo (.func 302) [.sl 1 (O.map Qb)] []) []) Qt b g i Z (A (GA _ _ f))) Z (Qam _ _ _ q)) Z <|
    H b [2] Z<|F h Z Z U
 ·exact have h:UZ e P=some r:=h;B h λt u h=>H b [.K [0,3,4,5] [3]] Z <| 
    dr_ b [.N,.N,.N,.B (.any (.clo (.func 303) [.sl 1 (P.map Qb)] []) none),.E (.agg (Qs e)),.B (.C2 (.tup [.I t.1,.I t.2])),.N,.N,.m .s,.m .s] [] [] [4,5] [] Z Z (a3_ (λσ g i _=>Stp.callSame (md:=.cm (.fn) [] [] [] [.d,.d] [] (.clo (.func 303) [.sl 1 (P.map Qb)] []) []) Qt b g i Z (A (GA _ _ f))) Z (Vz _ _ _ u)) Z <|
    H b [2] Z<|F h Z Z U
 ·exact have h:WU rec_expr_env_eval e j=some r:=h;B h λv w h=>H b [.K [0,3,4,5] [3]] Z <| 
    dr_ b [.N,.N,.N,.B (.any (.clo (.func 304) [.sl 1 (j.map Qb)] []) none),.E (.agg (Qs e)),.B (.C2 (.tup [.I v.1,.I v.2])),.N,.N,.m .s,.m .s] [] [] [4,5] [] Z Z (a3_ (λσ g i _=>Stp.callSame (md:=.cm (.fn) [] [] [] [.d,.d] [] (.clo (.func 304) [.sl 1 (j.map Qb)] []) []) Qt b g i Z (A (GA _ _ f))) Z (Qap rec_expr_env_eval hrec_expr_env_eval _ _ _ w)) Z <|
    H b [2] Z<|F h Z Z U
 ·exact have h:Aa rec_expr_env_eval e k=some r:=h;B h λx y h=>H b [.K [0,3,4,5] [3]] Z <| 
    dr_ b [.N,.N,.N,.B (.any (.clo (.func 305) [.sl 1 (k.map Qb)] []) none),.E (.agg (Qs e)),.B (.C2 (.tup [.I x.1,.I x.2])),.N,.N,.m .s,.m .s] [] [] [4,5] [] Z Z (a3_ (λσ g i _=>Stp.callSame (md:=.cm (.fn) [] [] [] [.d,.d] [] (.clo (.func 305) [.sl 1 (k.map Qb)] []) []) Qt b g i Z (A (GA _ _ f))) Z (Qc7 rec_expr_env_eval hrec_expr_env_eval _ _ _ y)) Z <|
    H b [2] Z<|F h Z Z U
 exact have h:Ab rec_expr_env_eval e l=some r:=h;B h λz D h=>H b [.K [0,3,4,5] [3]] Z <| 
   dr_ b [.N,.N,.N,.B (.any (.clo (.func 306) [.sl 1 (l.map Qb)] []) none),.E (.agg (Qs e)),.B (.C2 (.tup [.I z.1,.I z.2])),.N,.N,.m .s,.m .s] [] [] [4,5] [] Z Z (a3_ (λσ g i _=>Stp.callSame (md:=.cm (.fn) [] [] [] [.d,.d] [] (.clo (.func 306) [.sl 1 (l.map Qb)] []) []) Qt b g i Z (A (GA _ _ f))) Z (Qaq rec_expr_env_eval hrec_expr_env_eval _ _ _ D)) Z <|
   H b [2] Z<|F h Z Z U
def Nc : ∀(fuel:Nat) (a:LI_) (b:Ql) {r:(Int×Int)},Yr fuel a b=some r->QU prog 232 [.sl 1 (a.map Qb),.agg (Qs b)] [] (Gives (.tup [.I r.1,.I r.2]) [])
 | 0,_,_,_,h=>by cases h
 | n+1,a,b,_,h=>Qar (Yr n) (λ_ _ _ h=>Nc n _ _ h) a b _ h
def QbT (a b){r}(h:Nb a b=some r):QU prog 232 [.sl 1 (a.map Qb),.agg (Qs b)] [] (Gives (.tup [.I r.1,.I r.2]) []):=Nc _ a b h
def Li (b:Ql)(a:LI_):O_ (Int×Int):=(Bs b (a.length:Int)).bind λd=>bif (!d)then some (0,1)else (Nb a b).bind λc=>some (c.1,c.2)
def VZ (f a):CT 167 [.agg (Qs f),.sl 1 (a.map Qb)] [] (Li f a) (λr=>(.tup [.I r.1,.I r.2])) no_:=
 W 16 func167 Z λC g r h=>B h λl i h=>g3_ g [10,.A (Qs f),1,.o (.ln a.length),.o (.C2 (.b l)),3] Z Z Qc (MZ _ _ _ i)<|I h (λe h=>J g [.T,8] Z e<|F h Z Z U) λe h=>B h λk j h=>g3_ g [.F,5,.A (Qs f),.o (.C2 (.tup [.I k.1,.I k.2])),7] Z e Z (QbT _ _ j)<|F h Z Z U
def XL (b:Xk):O_ Int:=(Li b.task.Guard b.env).bind λa=>bif (a.2 != 0)then some a.2 else bif (a.1==0)then some 9 else some 0
def Hn (f):CT 114 [.agg (QC f)] [] (XL f) V.I no_:=
 W 21 func114 Z λC e r h=>B h λi g h=>K e [10,.A (Qs f.task.Guard),2,.o (.C2 (.tup [.I i.1,.I i.2])),16] Z Z (VZ _ _ _ g)<|I h (λa h=>J e [.T,9] Z a<|E h Z U) λa h=>J e [.F,7] Z a<|I h (λb h=>J e [.T,8] Z b<|E h Z U) λb h=>J e [.F,9] Z b<|E h Z U
def Dc (a:QLL):O_ QLL:=(chk ((([]:L_ LI_).length+a.length)*24<=140737488355328)).bind λ_=>some (([]:L_ LI_)++a)
def Oq (b):CT 279 [.sl 1 (b.map QQ)] [] (Dc b) (λr=>(.own 600 r.length)) (λr=>[(600,.arr 1 (r.map QQ))]):=by
 refine W 8 func279 rfl λC a r h=>?_
 unfold Dc at h
 refine tg_ a [9] ?_
 refine AK.eqNil rfl rfl rfl (QR a.n rfl) rfl rfl QnT ?_ ?_
 ·intro c
  replace h:some ([]:L_ LI_)=some r:=by simpa[chk,List.map_eq_nil_iff.1 c] using h
  exact K a [10,.adopt 2 600 1,.O 600 (.arr 1 (([]:L_ LI_).map QQ)),.S 2 (.own 600 ([]:L_ LI_).length)] Z Z Z<|E h Z r1_
 exact X h λd h=>g3_ a [8,.O 5 (.arr 1 (([]:L_ LI_).map QQ)),.S 5 (.own 5 ([]:L_ LI_).length),1,.x (λσ=>σ.app 5 1 7 (([]:L_ LI_)++b).length ((([]:L_ LI_)++b).map QQ)),4,.K [2] [5],.ren 5 600] Z Z Z (Stp.appSB (by_:=24) (zs:=[.Y]) (e:=37) (e':=37) (z':=1) (by':=24) Z Z (QR a.n Z) Z Z Z Qc (by kernel_rfl) (by kernel_rfl) (by kernel_rfl) Z (by decide) (by decide) (QcM d Qc) Z XY (Jw Qc))<|E h Z r1_
def KQ (c:(Bool×YJ))(a:Int):O_ (Int×Bool):=(WN c.2 a).bind λb=>bif (!b)then some (0,false)else some (a,true)
def GQ (d:(L_ QI))(e:Int)(b:Int):O_ (Int×Bool):=
 (ES d e).bind λc=>
 bif (!c.1)then
 some (0,false)
 else
 (Wv c.2).bind λa=>
 bif (a.Kind==1)then
 bif ((b<a.Lo)||(a.Hi<b))then
 some (0,false)
 else
 KQ c (Qi (b-a.Lo))
 else
 KQ c b
def QbU (w x k):CT 175 [.sl 7 (w.map Qr),.I x,.I k] [] (GQ w x k) (λr=>(.tup [.I r.1,.b r.2])) no_:=
 W 43 func175 Z λC f r h=>B h λm t h=>K f [10,.o (.C2 (.tup [.agg (Xy m.2),.b m.1])),5,.O 8 (.var (Xy m.2)),10] Z (Oj _ _ _ t) Z<|I h (λp h=>J f [.T,8] Z p<|F h Z Z U) λp h=>J f [.F,2] Z p<|mE_ (λl:Int=>⟨[(2,.I l),lk_ 8],[(8,.var (Xy m.2))]⟩) (λl=>KQ m l=some r) (B h λa q h=>g3_ f [2,.A (Xy m.2),.o (.C1 (.agg (Qr a))),2,.O 10 (.var (Qr a)),9] Z Z (Ax _ _ q) Z<|I h (λg h=>J f [.T,2] Z g<|Y ⟨[(2,.I k),lk_ 8,lk_ 10,(33,.b ((k<a.Lo)||(a.Hi<k)))],[(8,.var (Xy m.2)),(10,.var (Qr a))]⟩ (H f [6] Z<|bO_ (decide (k<a.Lo)) (λe=>G f [.S 28 (.b true),6,.S 33 (.b ((k<a.Lo)||(a.Hi<k)))] Z ⟨(tc_ e),(cb_ (Eh e Z))⟩<|M Z) λe=>G f [.S 28 (.b false),6,.S 33 (.b ((k<a.Lo)||(a.Hi<k)))] Z ⟨(tc_ e),(cb_ (Ji e Z))⟩<|M Z)<|H f [1] Z<|I h (λi h=>J f [.T,9] Z i<|F h Z Z U) λi h=>J f [.F,9] Z i<|me_ h Z) λg h=>J f [.F,1] Z g<|me_ h Z) λl h=>B h λu s h=>K f [3,.A (Xy m.2),1,.o (.C2 (.b u)),3] Z Z (NW _ _ _ s)<|I h (λj h=>J f [.T,8] Z j<|F h Z Z U) λj h=>J f [.F,10] Z j<|F h Z Z U
def Me (a:LI_)(j:(L_ Xo))(h:LI_)(k:Qe)(e:Int)(c:QMk):O_ ((Int×QMk)⊕(Int⊕QMk)):=
 bif (e<(a.length:Int))then
 (idx a e).bind λd=>
 bif ((d<0)||((j.length:Int)<=d))then
 some (.inr (.inl 11))
 else
 (idx j d).bind λl=>
 (Li l.Expr h).bind λf=>
 bif (f.2 != 0)then
 some (.inr (.inl f.2))
 else
 (idx j d).bind λb=>
 bif ((b.Place<0)||((k.Places.length:Int)<=b.Place))then
 some (.inr (.inl 3))
 else
 (idx k.Places b.Place).bind λm=>
 (GQ k.Colours m.Colour f.1).bind λi=>
 bif (!i.2)then
 some (.inr (.inl 8))
 else
 (idx c b.Place).bind λn=>
 (Og ([i.1]:L_ Int)).bind λo=>
 (Ju n o).bind λg=>
 (idx c b.Place).bind λp=>
 bif (g.2 != 0)then
 some (.inr (.inl g.2))
 else
 some (.inl ((Qi (e+1)),(c.set b.Place.toNat g.1)))
 else
 some (.inr (.inr c))
def Qd3 (a:Int):O_ (QMk×Int):=some (([]:L_ QBg),a)
def Qd4 (a:QMk):O_ (QMk×Int):=some (a,0)
def DI (b:Qe)(d:(L_ Xo))(a:LI_)(c:LI_):O_ (QMk×Int):=(chk (decide (0<=(b.Places.length:Int))&&decide ((b.Places.length:Int)<=(b.Places.length:Int))&&decide ((b.Places.length:Int)<=4294967296))).bind λ_=>(QD (λst=>Me a d c b st.1 st.2) (0,(List.replicate (b.Places.length:Int).toNat (([]:QBg):QBg)))).bind (Sum.elim (λq=>Qd3 q) (λq=>Qd4 q))
def EZ (t P e k):CT 119 [.agg (Qa t),.sl 4 (P.map Xf),.sl 1 (e.map Qb),.sl 1 (k.map Qb)] [] (DI t P e k) (λr=>(.tup [.sl 1 (r.1.map Qh),.I r.2])) no_:=
 W 97 func119 Z λC g r h=>X h λb6 h=>K g [11,.o (.ln t.Places.length),.o (.rows (List.replicate (t.Places.length:Int).toNat [.Y]))] Z Qc ⟨b6,Z⟩<|AK.denilA (b:=21) [some 2] Z (Qic (f:=Qh) (x:=([]:QBg)) Z)<|K g [.S 21 (.own 21 (List.replicate (t.Places.length:Int).toNat (([]:QBg):QBg)).length),7,.o (.ln e.length),4] Z (by simp) Qc<|lq_ h (λst=>⟨[(1,.sl 4 (P.map Xf)),(3,.sl 1 (k.map Qb)),lk_ 4,(10,.own 21 st.2.length),(22,.sl 1 (e.map Qb)),(23,.I (e.length:Int)),(24,.I st.1)],[(4,.var (Qa t)),(21,.arr 1 (st.2.map Qh))]⟩) (λq=>(.ret,⟨[(8,.Y),(9,.I q)],[]⟩)) (λq=>(.exit 0,⟨[(10,.own 21 q.length)],[(21,.arr 1 (q.map Qh))]⟩)) Z (λ⟨a5,s⟩ o h=>H g [6] Z<|I h (λu h=>B h λj a6 h=>K g [.T,6,.o (.row (Qb j)),6] Z u (Xi a6)<|Y ⟨[(1,.sl 4 (P.map Xf)),(3,.sl 1 (k.map Qb)),lk_ 4,(10,.own 21 s.length),(12,.I j),(22,.sl 1 (e.map Qb)),(23,.I (e.length:Int)),(24,.I a5),(35,.b ((j<0)||((P.length:Int)<=j)))],[(4,.var (Qa t)),(21,.arr 1 (s.map Qh))]⟩ (H g [4] Z<|bO_ (decide (j<0)) (λl=>G g [.S 30 (.b true),6,.S 35 (.b ((j<0)||((P.length:Int)<=j)))] Z ⟨(tc_ l),(cb_ (Eh l Z))⟩<|M Z) λl=>G g [.S 30 (.b false),2,.o (.ln P.length),3,.S 35 (.b ((j<0)||((P.length:Int)<=j)))] Z ⟨⟨(tc_ l),Qc⟩,(cb_ (Ji l Z))⟩<|M Z)<|H g [1] Z<|I h (λw h=>J g [.T,10] Z w<|rR_ h Z) λw h=>B h λa7 a8 h=>B h λa3 a9 h=>g4_ g [.F,6,.o (.row (Xf a7)),1,.A (Qs a7.Expr),1,.o (.C2 (.tup [.I a3.1,.I a3.2])),14] Z w (Xi a8) Z (VZ _ _ _ a9)<|I h (λy h=>J g [.T,11] Z y<|rR_ h Z) λy h=>B h λi b0 h=>K g [.F,6,.o (.row (Xf i)),7] Z y (Xi b0)<|Y ⟨[(1,.sl 4 (P.map Xf)),(3,.sl 1 (k.map Qb)),lk_ 4,(10,.own 21 s.length),(13,.I a3.1),(15,.I i.Place),(22,.sl 1 (e.map Qb)),(23,.I (e.length:Int)),(24,.I a5),(62,.b ((i.Place<0)||((t.Places.length:Int)<=i.Place)))],[(4,.var (Qa t)),(21,.arr 1 (s.map Qh))]⟩ (H g [4] Z<|bO_ (decide (i.Place<0)) (λp=>G g [.S 56 (.b true),7,.S 62 (.b ((i.Place<0)||((t.Places.length:Int)<=i.Place)))] Z ⟨(tc_ p),(cb_ (Eh p Z))⟩<|M Z) λp=>G g [.S 56 (.b false),3,.o (.ln t.Places.length),3,.S 62 (.b ((i.Place<0)||((t.Places.length:Int)<=i.Place)))] Z ⟨⟨(tc_ p),Qc⟩,(cb_ (Ji p Z))⟩<|M Z)<|H g [1] Z<|I h (λz h=>J g [.T,10] Z z<|rR_ h Z) λz h=>B h λb7 b1 h=>B h λa4 b2 h=>G g [.F,3,.K [1,3,4,10,13,15,22,23,24] [4,21]] Z (A z) <| 
  dr_ g [.N,.N,.N,.N,.N,.B (.row (Qp b7)),.N,.N,.N,.B (.C3 (.tup [.I a4.1,.b a4.2])),.N,.N,.N,.N,.N] [] [] [1,3,4,10,15,16,17,22,23,24] [4,21] Z Z (a2_ (Xi b1) (QbU _ _ _ _ b2)) Z <|
  H g [8] Z<|I h (λD h=>J g [.T,10] Z D<|rR_ h Z) λD h=>B h λb8 a1 h=>B h λb3 b4 h=>B h λa0 b5 h=>B h λb9 a2 h=>G g [.F,3,.K [1,3,4,10,15,16,22,23,24] [4,21]] Z (A D) <| 
  dr_ g [.N,.N,.N,.N,.N,.B (.row (Qh b8)),.N,.a (.bd []) (some ([],.sl 1 (([a4.1]:L_ Int).map Qb))) false,.B (.cd false [.d] 2 (b3.map QT) b3.length),.B (.C2 (.tup [.sl 2 (a0.1.map QT),.I a0.2])),.a .no none true true,.N,.a .no none true,.N,.m (.st (Qh b9) ((s.set i.Place.toNat a0.1).map Qh)),.N] [1,3,4,10,15,16,22,23,24] [4] [1,3,4,10,14,22,23,24] [4,21] Z Z (a7_ (YN a1 Z) (XU (Jr a1).2) Z ⟨(QdJ _ _ b4),Qc⟩ (Sa _ _ _ b5) (YN a2 Z) ⟨(XU (Jr a2).2),Bf Z⟩) Z <|
  H g [7] Z<|I h (λO h=>J g [.T,10] Z O<|rR_ h Z) λO h=>K g [.F,7,.S 10 (.own 21 (s.set i.Place.toNat a0.1).length)] Z O (congrArg (λn=>V.own 21 n) (by simp))<|rN_ h Z) λu h=>J g [.F,2] Z u<|rX_ h Z) (λc1 h=>H g [2,.denil 8 [some 1]] Z<|F h Z Z U) (λc0 h=>J g [10,.frz 21 (c0.map Qh) [8] []] Z (A (Js Qc))<|F h Z Z U)
def Yk (b:Xk)(a:LI_):O_ Int:=(DI b.net b.task.Outs a b.env).bind λc=>some c.2
def Lj (b a):CT 117 [.agg (QC b),.sl 1 (a.map Qb)] [] (Yk b a) V.I no_:=
 W 20 func117 Z λC g r h=>B h λf e h=>K g [9,.A (Qa b.net),6,.o (.C4 (.tup [.sl 1 (f.1.map Qh),.I f.2])),14] Z Z (EZ _ _ _ _ _ e)<|E h Z U
def Bt (a:LI_)(b:Xk):O_ Bool:=(Yk b a).bind λc=>some (c != 0)
def PT (a e):CT 280 [.sl 1 (a.map Qb),.L 618] [(618,.var (QC e))] (Bt a e) V.b (λ_=>[(618,.var (QC e))]):=
 W 8 func280 Z λC g r h=>B h λi f h=>K g [7,.A (QC e),1,.o (.C2 (.I i)),5] Z Z (Lj _ _ _ f)<|E h Z r1_
def WO (c:QLL)(d:Xk)(a:Int):O_ (Int⊕(Int⊕Unit)):=bif (a<(c.length:Int))then (idx c a).bind λe=>(Bt e d).bind λb=>bif b then some (.inr (.inl a))else some (.inl (Qi (a+1)))else some (.inr (.inr ()))
def Mf (a:Int):O_ Int:=some a
def Mg : O_ Int:=some (-1)
def KD (a:QLL)(b:Xk):O_ Int:=(QD (λst=>WO a b st) 0).bind (Sum.elim (λq=>Mf q) (λq=>Mg))
def Mh (c f):CT 233 [.own 618 c.length,.clo (.func 280) [] [.L 619]] [(618,.arr 1 (c.map QQ)),(619,.var (QC f))] (KD c f) V.I (λ_=>[(618,.arr 1 (c.map QQ)),(619,.var (QC f))]):=
 W 19 func233 Z λC e r h=>H e [14] Z<|lq_ h (λst=>⟨[(0,.own 618 c.length),(1,.clo (.func 280) [] [.L 619]),(7,.I (c.length:Int)),(8,.I st)],[(618,.arr 1 (c.map QQ)),(619,.var (QC f))]⟩) (λq=>(.ret,⟨[(4,.I q)],[(618,.arr 1 (c.map QQ)),(619,.var (QC f))]⟩)) (λq=>(.exit 0,⟨[],[(618,.arr 1 (c.map QQ)),(619,.var (QC f))]⟩)) Z (λm o h=>H e [6] Z<|I h (λg h=>B h λl i h=>B h λk j h=>g4_ e [.T,16,.o (.row (QQ l)),.cm (.clo) [(618,619)] [(619,618)] [] [.d,.d] [(618,.var (QC f))] (.b k),2] Z g (YN i Z) (XU (Jr i).2) (PT _ _ _ j)<|I h (λa h=>J e [.T,9] Z a<|rR_ h Z) λa h=>J e [.F,7] Z a<|rN_ h Z) λg h=>J e [.F,2] Z g<|rX_ h Z) (λp h=>H e [2] Z<|E h Z r2_) (λ_ h=>H e [8] Z<|E h Z r2_)
def Wz (a:Int)(b:Int)(c:QLL):O_ ((Int×Int×QLL)⊕(Int×QLL)):=some (.inl (b,(Qi (a+1)),c))
def JE (f:Xk)(c:Int)(b:Int)(a:QLL):O_ ((Int×Int×QLL)⊕(Int×QLL)):=bif (b<(a.length:Int))then (idx a b).bind λd=>(Bt d f).bind λe=>bif (!e)then (idx a c).bind λg=>Wz b (Qi (c+1)) (a.set c.toNat d)else Wz b c a else some (.inr (c,a))
def JF (a:Int)(b:QLL):O_ QLL:=(chk (decide (0<=a)&&decide (a.toNat<=b.length))).bind λ_=>(chk (decide (0<=a)&&decide (a.toNat<=(b.take a.toNat++List.replicate (b.length-a.toNat) (([]:LI_):LI_)).length))).bind λ_=>some ((b.take a.toNat++List.replicate (b.length-a.toNat) (([]:LI_):LI_)).take a.toNat)
def Ko (a:QLL)(c:Xk):O_ QLL:=(KD a c).bind λb=>bif (b==(-1))then some a else (QD (λst=>JE c st.1 st.2.1 st.2.2) (b,(Qi (b+1)),a)).bind (λq=>JF q.1 q.2)
def Lk (P p):CT 278 [.own 618 P.length,.clo (.func 280) [] [.L 619]] [(618,.arr 1 (P.map QQ)),(619,.var (QC p))] (Ko P p) (λr=>(.own 618 r.length)) (λr=>[(618,.arr 1 (r.map QQ)),(619,.var (QC p))]):=by
 refine W 42 func278 rfl λC g r h=>?_
 obtain⟨x5,a0,h⟩:=Qv h
 refine Qo g [9,.cm (.fn) [(618,618),(619,619)] [(618,618),(619,619)] [] [.d,.d] [(618,.arr 1 (P.map QQ)),(619,.var (QC p))] (.I x5),10] Z (A (Mh _ _ _ a0)) ?_
 rcases XN h with⟨v,h⟩|⟨v,h⟩
 ·exact J g [.T,8] Z v<|E h Z r2_
 refine Qo g [.F,11,.K [0,1,5,6] [618,619]] Z (A v) ?_
 obtain⟨a1,z,h⟩:=Qv h
 refine AK.loop (body:=(λst=>JE p st.1 st.2.1 st.2.2)) (λst σ=>σ=⟨[(0,.own 618 st.2.2.length),(1,.clo (.func 280) [] [.L 619]),(5,.I st.1),(6,.I st.2.1)],[(618,.arr 1 (st.2.2.map QQ)),(619,.var (QC p))]⟩) (λq e σ=>e=.exit 0/\σ=⟨[(0,.own 618 q.2.length),(5,.I q.1)],[(618,.arr 1 (q.2.map QQ)),(619,.var (QC p))]⟩) z rfl ?_ ?_
 ·rintro ⟨i9,D,N⟩ o σ rfl h
  refine tg_ g [9] ?_
  refine bq_ g h [.T,2] rfl (λk h=>?_) [.F,2,.K [0,5] [618,619]] rfl λk h=>?_
  ·refine AK.meet (λσ=>∃w:Int,∃s:QLL,σ=⟨[(0,.own 618 s.length),(1,.clo (.func 280) [] [.L 619]),(5,.I w),(6,.I D)],[(618,.arr 1 (s.map QQ)),(619,.var (QC p))]⟩/\Wz D w s=some o) ?_ ?_
   ·obtain⟨y,t,h⟩:=Qv h
    obtain⟨a2,O,h⟩:=Qv h
    refine Qo g [6,.o (.row (QQ y)),7,.cm (.clo) [(618,619)] [(619,618)] [] [.d,.d] [(618,.var (QC p))] (.b a2),3] Z (a3_ (YN t Z) (XU (Jr t).2) (PT _ _ _ O)) ?_
    rcases XN h with⟨m,h⟩|⟨m,h⟩
    ·obtain⟨a3,u,h⟩:=Qv h
     refine Qo g [.T,6,.st (QQ a3) ((N.set i9.toNat y).map QQ),8,.S 0 (.own 618 (N.set i9.toNat y).length),.K [0,1,5,6] [618,619]] Z (a4_ m (YN u Z) ⟨(XU (Jr u).2),Bf Z⟩ (congrArg (λn=>V.own 618 n) (by simp))) ?_
     exact AK.met (ex_ _ (ex_ _ (an_ Z h)))
    refine Qo g [.F,2,.K [0,1,5,6] [618,619]] Z (A m) ?_
    exact AK.met (ex_ _ (ex_ _ (an_ Z h)))
   rintro σ ⟨w,s,rfl,h⟩
   refine tg_ g [5,.K [0,1,5,6] [618,619]] ?_
   cases h
   exact Vp Z Z
  cases h
  exact ZX Z (an_ Z Z)
 obtain⟨a,c⟩:=a1
 replace h:JF a c=some r:=h
 rintro e σ ⟨rfl,rfl⟩
 refine tg_ g [6] ?_
 obtain⟨i,h⟩:=RX h
 refine AK.clearTail (b:=618) (l:=a.toNat) (n:=c.length) rfl rfl rfl rfl rfl rfl (QR g.n rfl) rfl rfl Qc (Qt.es rfl) Qm3 rfl rfl rfl (EO.val rfl (Xs (RT i)) rfl) (Xs (Hc i)) rfl ?_
 refine AK.denilA (b:=618) [some 1] rfl (QnP (f:=QQ) (x:=(([]:LI_):LI_)) (λ_=>rfl) rfl) ?_
 obtain⟨j,h⟩:=RX h
 refine Qo g [.S 0 (.own 618 (c.take a.toNat++List.replicate (c.length-a.toNat) (([]:LI_):LI_)).length),.S 36 (.own 618 (c.take a.toNat++List.replicate (c.length-a.toNat) (([]:LI_):LI_)).length),6] Z (a2_ (QkO (Xs (Hc i))) (QkO (Xs (Hc i)))) ?_
 have a4:a.toNat=((c.take a.toNat++List.replicate (c.length-a.toNat) (([]:LI_):LI_)).take a.toNat).length:=by rw[Wo,Cw (Xs (Hc j))]
 exact K g [.x (λσ=>(σ.set 618 (.arr 1 (((c.take a.toNat++List.replicate (c.length-a.toNat) (([]:LI_):LI_)).take a.toNat).map QQ))).put 41 (.own 618 a.toNat)),.S 41 (.own 618 ((c.take a.toNat++List.replicate (c.length-a.toNat) (([]:LI_):LI_)).take a.toNat).length),4] Z (Stp.sliceO Z Z (QR g.n Z) Z Z (Qt.es Z) EO.no (EO.val Z (Xs (RT j)) Z) (Xs (Hc j)) (by simp)) (QnJ (Xs (Hc j)))<|E h Z r2_
def WA (a:QBg)(b:Int)(c:Int):O_ (Unit⊕Unit):=bif (((Qq a b).getD 0)<c)then some (.inr ())else some (.inl ())
def Ay : O_ Bool:=some true
def Az : O_ Bool:=some false
def DW (a:QBg)(b:QBg):O_ Bool:=(CC (λst p=>WA b p.1 p.2) () a).bind (Sum.elim (λq=>Ay) (λq=>Az))
def Ll (s g):CT 120 [.map 618,.map 619] [(618,.map (QB V.I V.I s)),(619,.map (QB V.I V.I g))] (DW s g) V.b (λ_=>[(618,.map (QB V.I V.I s)),(619,.map (QB V.I V.I g))]):=by
 refine W 19 func120 rfl λC a r h=>?_
 refine tg_ a [9] ?_
 refine AK.openMap (b:=618) KN rfl λc d L5 t u=>?_
 refine Qo a [.x (λσ=>(σ.set 8 (.itr c d #[] none)).put 8 (.L 8)),3,.K [1,8] [8,618,619]] Z (A (Stp.range (b:=618) Z Z (QR a.n Z) Z Z Gy Z)) ?_
 obtain⟨y,v,h⟩:=Qv h
 refine AK.range (body:=(λst p=>WA g p.1 p.2)) (λst seen σ=>∃cur:O_ Nat,σ=⟨[(1,.map 619),lk_ 8],[(8,.itr c d seen cur),(618,.mapX c d (Fb V.I V.I L5) (QB V.I V.I s)),(619,.map (QB V.I V.I g))]⟩) (λq e σ=>e=.ret/\σ=⟨[(4,.b false)],[(618,.mapX c d (Fb V.I V.I L5) (QB V.I V.I s)),(619,.map (QB V.I V.I g))]⟩) (λst e σ=>e=.exit 0/\σ=⟨[],[(618,.mapX c d (Fb V.I V.I L5) (QB V.I V.I s)),(619,.map (QB V.I V.I g))]⟩) t u v (ex_ _ rfl) ?_ ?_
 ·rintro _ seen σ ⟨cur,rfl⟩ hex
  refine tg_ a [2] ?_
  refine AK.nextT (b:=8) (m:=618) rfl rfl rfl (QR a.n rfl) rfl rfl rfl rfl ?_ ?_
  ·intro hleft
   refine tg_ a [7,.K [] [618,619]] ?_
   exact AK.done (Or.inl (an_ hleft (an_ (λh=>(by cases h)) (an_ Z Z))))
  intro O w D i
  obtain⟨o,h⟩:=hex _ i
  have ho:=h
  replace h:WA g w D=some o:=h
  refine Qo a [10,.x (λσ=>σ.put 11 (.tup [.I w,.I D])),11,.o (.any (.I ((Qq g w).getD 0)) none),3] Z (a2_ (Stp.entryT (b:=8) (m:=618) (e:=V.I) (f:=V.I) Z Z (QR a.n Z) Z i Z Z) (λσ N P _=>Stp.lookup (e:=V.I) (f:=V.I) (l:=g) (k:=w) (z:=0) Z Z (QR a.n Z) (N _ _ Z) (P _ _ Z) (N _ _ Z) Gy KN IG Z)) ?_
  refine bq_ a h [.T,7,.K [4] [618,619]] rfl (λj h=>?_) [.F,2,.K [1,8] [8,618,619]] rfl λj h=>?_
  ·cases h
   exact AK.done (Or.inr (ex_ _ (an_ i (Or.inr (ex_ _ (an_ ho (an_ (λh=>(by cases h)) (an_ Z Z))))))))
  cases h
  exact AK.done (Or.inr (ex_ _ (an_ i (Or.inl (ex_ _ (an_ ho (an_ Z (ex_ _ Z))))))))
 rcases y with(_ | _)
 ·replace h:Ay=some r:=h
  unfold Ay at h
  rintro e σ ⟨rfl,rfl⟩
  exact H a [8] Z<|AK.closeMap (b:=618) Z<|E h Z r2_
 replace h:Az=some r:=h
 unfold Az at h
 rintro e σ ⟨rfl,rfl⟩
 exact H a [2] Z<|AK.closeMap (b:=618) Z<|E h Z r2_
def TG (a:Unit):O_ Bool:=some false
def TH (a:QBg):O_ Bool:=some false
def TI (a:QBg):O_ Bool:=some false
def Nd (b:(QBg×QBg)):O_ Bool:=(DW b.1 b.2).bind λa=>some a
def Nf (a:QBg)(b:QBg):O_ Bool:=(HU a b).bind (Sum.elim (λq=>TG q) (Sum.elim (λq=>TH q) (Sum.elim (λq=>TI q) (λq=>Nd q))))
def Qfa (i j):CT 234 [.sl 2 (i.map QT),.sl 2 (j.map QT)] [] (Nf i j) V.b no_:=by
 refine W 21 func234 rfl λC c r h=>?_
 obtain⟨m,a,h⟩:=Qv h
 refine tg_ c [9] ?_
 rcases m with(o | (k | (l | e)))
 ·exact have h:TG o=some r:=h;J c [.cm (.fn) [] [] [] [.d,.d] [] (.tup [.lit (.map none),.lit (.map none),.b false]),21] Z (Jz _ _ a)<|E h Z U
 ·exact have h:TH k=some r:=h;J c [.cm (.fn) [] [(11,603)] [] [.d,.d] [(603,.map (QB V.I V.I k))] (.tup [.lit (.map none),.map 603,.b false]),21] Z (Jz _ _ a)<|E h Z U
 ·exact have h:TI l=some r:=h;J c [.cm (.fn) [] [(11,602)] [] [.d,.d] [(602,.map (QB V.I V.I l))] (.tup [.map 602,.lit (.map none),.b false]),21] Z (Jz _ _ a)<|E h Z U
 exact have h:Nd e=some r:=h;B h λg f h=>K c [.cm (.fn) [] [(11,602),(611,603)] [] [.d,.d] [(602,.map (QB V.I V.I e.1)),(603,.map (QB V.I V.I e.2))] (.tup [.map 602,.map 603,.b true]),15,.cm (.fn) [(618,11),(619,611)] [(11,618),(611,619)] [] [.d,.d] [(618,.map (QB V.I V.I e.1)),(619,.map (QB V.I V.I e.2))] (.b g),5] Z (Jz _ _ a) (Ll _ _ _ f)<|E h Z U
def XS (d:QMk)(e:QMk)(a:Int):O_ (Int⊕(Unit⊕Unit)):=bif (a<(d.length:Int))then (idx d a).bind λf=>(idx e a).bind λb=>(Nf f b).bind λc=>bif (!c)then some (.inr (.inl ()))else some (.inl (Qi (a+1)))else some (.inr (.inr ()))
def Dh : O_ Bool:=some false
def Di : O_ Bool:=some true
def Yd (a:QMk)(b:QMk):O_ Bool:=bif ((a.length:Int) != (b.length:Int))then some false else (QD (λst=>XS a b st) 0).bind (Sum.elim (λq=>Dh) (λq=>Di))
def Dj (i l):CT 65 [.sl 1 (i.map Qh),.sl 1 (l.map Qh),.clo (.func 234) [] []] [] (Yd i l) V.b no_:=
 W 32 func65 Z λC e r h=>K e [9,.o (.ln i.length),1,.o (.ln l.length),3] Z Qc Qc<|I h (λf h=>J e [.T,7] Z f<|E h Z U) λf h=>K e [.F,6,.o (.ln i.length),4] Z f Qc<|lq_ h (λst=>⟨[(1,.sl 1 (l.map Qh)),(2,.clo (.func 234) [] []),(15,.sl 1 (i.map Qh)),(16,.I (i.length:Int)),(17,.I st)],[]⟩) (λq=>(.ret,⟨[(6,.b false)],[]⟩)) (λq=>(.exit 0,⟨[],[]⟩)) Z (λu o h=>H e [6] Z<|I h (λg h=>B h λt m h=>B h λp j h=>B h λs k h=>g4_ e [.T,7,.o (.row (Qh t)),9,.o (.row (Qh p)),9,.o (.C2 (.b s)),3] Z g (Xi m) (Xi j) (Qfa _ _ _ k)<|I h (λa h=>J e [.T,8] Z a<|rR_ h Z) λa h=>J e [.F,7] Z a<|rN_ h Z) λg h=>J e [.F,2] Z g<|rX_ h Z) (λ_ h=>H e [2] Z<|E h Z U) (λ_ h=>H e [8] Z<|E h Z U)
def CI (a:QMk)(b:QMk):O_ Bool:=(Yd a b).bind λc=>some c
def Sn (a e):CT 172 [.sl 1 (a.map Qh),.sl 1 (e.map Qh)] [] (CI a e) V.b no_:=
 W 8 func172 Z λC f r h=>B h λg c h=>J f [9,.cm (.fn) [] [] [] [.d,.d,.d] [] (.b g),4] Z (Dj _ _ _ c)<|E h Z U
def Yl (b:LI_)(c:Int)(a:Int):O_ (Int⊕(Int⊕Unit)):=bif (a<(b.length:Int))then (idx b a).bind λd=>bif (c==d)then some (.inr (.inl a))else some (.inl (Qi (a+1)))else some (.inr (.inr ()))
def Ey (a:Int):O_ Int:=some a
def Ez : O_ Int:=some (-1)
def WB (a:LI_)(b:Int):O_ Int:=(QD (λst=>Yl a b st) 0).bind (Sum.elim (λq=>Ey q) (λq=>Ez))
def Rq (d e):CT 132 [.sl 1 (d.map Qb),.I e] [] (WB d e) V.I no_:=
 W 19 func132 Z λC b r h=>J b [9,.o (.ln d.length),4] Z Qc<|lq_ h (λst=>⟨[(0,.sl 1 (d.map Qb)),(1,.I e),(7,.I (d.length:Int)),(8,.I st)],[]⟩) (λq=>(.ret,⟨[(4,.I q)],[]⟩)) (λq=>(.exit 0,⟨[],[]⟩)) Z (λi o h=>H b [6] Z<|I h (λc h=>B h λg f h=>K b [.T,15,.o (.row (Qb g)),4] Z c (Xi f)<|I h (λa h=>J b [.T,9] Z a<|rR_ h Z) λa h=>J b [.F,7] Z a<|rN_ h Z) λc h=>J b [.F,2] Z c<|rX_ h Z) (λj h=>H b [2] Z<|E h Z U) (λ_ h=>H b [8] Z<|E h Z U)
def XO (a:LI_)(b:Int):O_ Bool:=(WB a b).bind λc=>some (decide (0<=c))
def Gd (e f):CT 82 [.sl 1 (e.map Qb),.I f] [] (XO e f) V.b no_:=
 W 9 func82 Z λC g r h=>B h λi a h=>J g [9,.o (.C2 (.I i)),5] Z (Rq _ _ _ a)<|E h Z U
def Gl (a:Int):O_ (Int⊕(Unit⊕Unit)):=some (.inl (Qi (a+1)))
def Lm (a:(QMk×Int))(c:Xk):O_ Bool:=bif (a.2==0)then (CI a.1 c.m).bind λb=>some b else some false
def Ln (a:Int)(b:Bool):O_ (Int⊕(Unit⊕Unit)):=bif b then some (.inr (.inl ()))else Gl a
def AA (d:Xk)(b:LI_)(a:Int):O_ (Int⊕(Unit⊕Unit)):=bif (a<(d.task.Ins.length:Int))then (XO b a).bind λf=>bif f then Gl a else (Yu b).bind λc=>(chk (c.length+([a]:L_ Int).length<=4294967296)).bind λ_=>(YA (c++([a]:L_ Int))).bind λe=>(chk (e.length=(c++([a]:L_ Int)).length)).bind λ_=>(DI d.net d.task.Ins e d.env).bind λg=>(Lm g d).bind (λh=>Ln a h)else some (.inr (.inr ()))
def VA : O_ Int:=some 11
def VB : O_ Int:=some 0
def XJ (b:Xk)(a:LI_):O_ Int:=(DI b.net b.task.Ins a b.env).bind λc=>bif (c.2 != 0)then some c.2 else (CI c.1 b.m).bind λd=>bif (!d)then some 10 else bif (b.task.Join != 3)then some 0 else (QD (λst=>AA b a st) 0).bind (Sum.elim (λq=>VA) (λq=>VB))
def Lp (g e):CT 116 [.agg (QC g),.sl 1 (e.map Qb)] [] (XJ g e) V.I no_:=
 W 76 func116 Z λC a r h=>B h λx5 a1 h=>K a [9,.A (Qa g.net),6,.o (.C4 (.tup [.sl 1 (x5.1.map Qh),.I x5.2])),16] Z Z (EZ _ _ _ _ _ a1)<|I h (λt h=>J a [.T,9] Z t<|E h Z U) λt h=>B h λx7 a2 h=>K a [.F,5,.o (.C2 (.b x7)),4] Z t (Sn _ _ _ a2)<|I h (λu h=>J a [.T,8] Z u<|E h Z U) λu h=>J a [.F,9] Z u<|I h (λw h=>J a [.T,8] Z w<|E h Z U) λw h=>K a [.F,9,.o (.ln g.task.Ins.length),4] Z w Qc<|lq_ h (λst=>⟨[(1,.sl 1 (e.map Qb)),lk_ 2,(41,.I (g.task.Ins.length:Int)),(42,.I st)],[(2,.var (QC g))]⟩) (λq=>(.ret,⟨[(4,.I 11)],[]⟩)) (λq=>(.exit 1,⟨[],[]⟩)) Z (λf o h=>H a [6] Z<|I h (λi h=>J a [.T,2] Z i<|mU_ ⟨[(1,.sl 1 (e.map Qb)),lk_ 2,(41,.I (g.task.Ins.length:Int)),(42,.I f)],[(2,.var (QC g))]⟩ (Gl f=some o) (B h λa3 y h=>J a [12,.o (.C2 (.b a3)),2] Z (Gd _ _ _ y)<|I h (λj h=>J a [.T,3] Z j<|mu_ h Z) λj h=>B h λs z h=>X h λD h=>B h λk N h=>X h λl h=>B h λO P h=>G a [.F,5,.o (.co false [.d] 1 (s.map Qb) s.length),1,.v (.bd []) [] (.sl 1 (([f]:L_ Int).map Qb)),.app ((s++([f]:L_ Int)).map Qb) (s++([f]:L_ Int)).length,6,.cm (.fn) [(618,49)] [(49,618)] [] [.d] [(618,.arr 1 (k.map Qb))] (.tup []),.S 8 (.own 49 k.length),.S 52 (.own 49 k.length),.S 53 (.own 49 k.length),5,.A (Qa g.net),6,.frz 49 (k.map Qb) [8,52,53,61] [],.o (.C4 (.tup [.sl 1 (O.1.map Qh),.I O.2])),8] Z (aB_ j ⟨(Kn _ _ z),Qc,.inl Z⟩ Z ⟨Qc,Jf D Qc,XY,Jw Qc⟩ (Dp _ N) (by simp[Xs l]) (by simp[Xs l]) (by simp[Xs l]) Z (a4_ (Js Qc) (Js Qc) (Js Qc) (Js Qc)) (EZ _ _ _ _ _ P))<|mV_ h (λx=>⟨[(1,.sl 1 (e.map Qb)),lk_ 2,(41,.I (g.task.Ins.length:Int)),(42,.I f),(74,.b x)],[(2,.var (QC g))]⟩) (λx h=>H a [4] Z<|I h (λm h=>B h λa4 a0 h=>G a [.S 69 (.b true),3,.o (.C2 (.b a4)),2] Z ⟨(tc_ m),(Sn _ _ _ a0)⟩<|mq_ h Z) λm h=>L a [.S 69 (.b false),6] Z m<|mq_ h Z) λx h=>H a [1] Z<|I h (λp h=>J a [.T,8] Z p<|rR_ h Z) λp h=>J a [.F,2] Z p<|mu_ h Z) λh=>H a [4] Z<|rN_ h Z) λi h=>J a [.F,2] Z i<|rX_ h Z) (λ_ h=>H a [2] Z<|E h Z U) (λ_ h=>H a [8] Z<|E h Z U)
def Ho (a:(Int×Xk)):O_ Bool:=bif (a.1 != 0)then some true else (XL a.2).bind λb=>some (b != 0)
def KR (a:Int)(b:(L_ Qj)):O_ ((Int×(L_ Qj))⊕((L_ Qj)⊕(L_ Qj))):=some (.inl ((Qi (a+1)),b))
def Dt (f:QLL)(j:LI_)(h:LI_)(g:Int)(k:Int)(e:Int)(a:(L_ Qj)):O_ ((Int×(L_ Qj))⊕((L_ Qj)⊕(L_ Qj))):=bif (e<(f.length:Int))then (idx f e).bind λi=>(Yu j).bind λb=>(Yu h).bind λc=>(Yu i).bind λd=>(chk (a.length+([(Qj.mk g b c d)]:L_ Qj).length<=4294967296)).bind λ_=>bif (((a++[(Qj.mk g b c d)]).length:Int)==k)then some (.inr (.inl (a++[(Qj.mk g b c d)])))else some (.inl ((Qi (e+1)),(a++[(Qj.mk g b c d)])))else some (.inr (.inr a))
def Hp (a:(L_ Qj)):O_ ((Int×(L_ Qj))⊕((L_ Qj)⊕(L_ Qj))):=some (.inr (.inl a))
def Ua (a:Int)(b:(L_ Qj)):O_ ((Int×(L_ Qj))⊕((L_ Qj)⊕(L_ Qj))):=KR a b
def Du (g:QLL)(d:(Int×Xk))(e:QLL)(h:LI_)(i:Int)(j:Int)(a:Int)(b:(L_ Qj)):O_ ((Int×(L_ Qj))⊕((L_ Qj)⊕(L_ Qj))):=bif (a<(g.length:Int))then (idx g a).bind λc=>(XJ d.2 c).bind λf=>bif (f != 0)then KR a b else (QD (λst=>Dt e h c i j st.1 st.2) (0,b)).bind (Sum.elim (λq=>Hp q) (λq=>Ua a q))else some (.inr (.inr b))
def Hq (a:(L_ Qj)):O_ ((L_ Qj)⊕(L_ Qj)):=some (.inl a)
def Hr (a:(L_ Qj)):O_ ((L_ Qj)⊕(L_ Qj)):=some (.inr a)
def Dv (e:(L_ Qj))(f:QLL)(a:(Int×Xk))(g:QLL)(h:LI_)(i:Int)(j:Int)(b:Bool):O_ ((L_ Qj)⊕(L_ Qj)):=bif b then some (.inr e)else (Dc f).bind λc=>(Ko c a.2).bind λd=>(QD (λst=>Du g a d h i j st.1 st.2) (0,e)).bind (Sum.elim (λq=>Hq q) (λq=>Hr q))
def GR (e:Qe)(f:QMk)(c:Int)(g:Int)(k:(L_ Qj))(h:QLL)(i:QLL)(j:(L_ Qj))(d:LI_):O_ ((L_ Qj)⊕(L_ Qj)):=(JB e f c d).bind λa=>(Ho a).bind (λb=>Dv j i a h d c g b)
def Hs (lpl lpf:Nat)(y:Qe)(z:QMk)(k:Int)(w:Int)(l:(L_ Qj))(j:QLL)(x:QLL)(l8:(L_ Qj))(D:LI_){r:((L_ Qj)⊕(L_ Qj))}(h:GR y z k w l j x l8 D=some r):Ph prog lpl (XW lpf) (Qpg (.L 619) (.L 620) (.L 621) (.L 622) (.L 623) (.L 624) (.L 625) (.L 626) (.sl 1 (D.map Qb))) [(618,.lp lpl (XW lpf) (DN (.L 619) (.L 620) (.L 621) (.L 622) (.L 623) (.L 624) (.L 625) (.L 626)) 0),(619,.var (Qa y)),(620,.var (Qx z)),(621,.var (Qb k)),(622,.var (Qb w)),(623,.var [.own 616 l.length]),(616,.arr 4 (l.map Qk)),(624,.var (Xp j)),(625,.var (Xp x)),(626,.var [.own 617 l8.length]),(617,.arr 4 (l8.map Qk))] ((Sum.elim (λq=>(Gives (.b false) [(616,.arr 4 (l.map Qk)),(617,.arr 4 (q.map Qk)),(618,.lp lpl (XW lpf) (DN (.L 619) (.L 620) (.L 621) (.L 622) (.L 623) (.L 624) (.L 625) (.L 626)) 2),(619,.var (Qa y)),(620,.var (Qx z)),(621,.var (Qb k)),(622,.var (Qb w)),(623,.var [.own 617 q.length]),(624,.var (Xp j)),(625,.var (Xp x)),(626,.var [.own 617 q.length])])) (λq=>(Gives (.b true) [(616,.arr 4 (l.map Qk)),(617,.arr 4 (q.map Qk)),(618,.lp lpl (XW lpf) (DN (.L 619) (.L 620) (.L 621) (.L 622) (.L 623) (.L 624) (.L 625) (.L 626)) 0),(619,.var (Qa y)),(620,.var (Qx z)),(621,.var (Qb k)),(622,.var (Qb w)),(623,.var [.own 616 l.length]),(624,.var (Xp j)),(625,.var (Xp x)),(626,.var [.own 617 q.length])]))) r):=by
 refine Ph.walk (b:=618) 109 rfl rfl λC i=>?_
 refine tg_ i [3] ?_
 refine AK.done (an_ rfl (ex_ _ (an_ rfl ?_)))
 obtain⟨f,b1,h⟩:=Qv h
 refine Qo i [3,.A (Qa y),3,.o (.C4 (.tup [.agg (QC f.2),.I f.1])),5,.O 14 (.var (QC f.2)),5] Z (a3_ Z (TB _ _ _ _ _ b1) Z) ?_
 obtain⟨a9,b2,h⟩:=Qv h
 replace h:Dv l8 x f j D k w a9=some r:=h
 refine AK.meetX (λσ=>σ=⟨[(6,.L 621),(7,.L 622),(8,.L 623),(10,.L 624),(11,.L 625),(12,.L 626),(13,.sl 1 (D.map Qb)),lk_ 14,(69,.b a9)],[(14,.var (QC f.2)),(616,.arr 4 (l.map Qk)),(617,.arr 4 (l8.map Qk)),(618,.lp lpl (XW lpf) (DN (.L 619) (.L 620) (.L 621) (.L 622) (.L 623) (.L 624) (.L 625) (.L 626)) 1),(619,.var (Qa y)),(620,.var (Qx z)),(621,.var (Qb k)),(622,.var (Qb w)),(623,.var [.own 616 l.length]),(624,.var (Xp j)),(625,.var (Xp x)),(626,.var [.own 617 l8.length])]⟩) ?_ ?_
 ·replace h:=b2
  refine tg_ i [4] ?_
  rcases XN h with⟨P,h⟩|⟨P,h⟩
  ·refine Qo i [.S 65 (.b true),5,.K [6,7,8,10,11,12,13,14,69] [14,616,617,618,619,620,621,622,623,624,625,626]] Z (tc_ P) ?_
   cases h
   exact mt_
  obtain⟨c5,b3,h⟩:=Qv h
  refine Qo i [.S 65 (.b false),.A (QC f.2),.o (.C1 (.I c5)),3,.K [6,7,8,10,11,12,13,14,69] [14,616,617,618,619,620,621,622,623,624,625,626]] Z ⟨⟨(tc_ P),Z⟩,(Hn _ _ b3)⟩ ?_
  cases h
  exact mt_
 rintro σ rfl
 replace h:Dv l8 x f j D k w a9=some r:=h
 refine tg_ i [1] ?_
 rcases XN h with⟨a0,h⟩|⟨a0,h⟩
 ·refine Qo i [.T,3,.K [] [616,617,618,619,620,621,622,623,624,625,626]] Z (A a0) ?_
  cases h
  refine AK.done ?_
  exact ex_ _ (an_ Z (gives rB_))
 obtain⟨b4,b5,h⟩:=Qv h
 obtain⟨g,b6,h⟩:=Qv h
 refine Qo i [.F,5,.o (.co false [.d] 1 (b4.map QQ) b4.length),1,.cm (.fn) [(618,71),(619,14)] [(71,618),(14,619)] [] [.d,.d] [(618,.arr 1 (g.map QQ)),(619,.var (QC f.2))] (.own 618 g.length),6,.o (.ln j.length),4,.K [6,7,8,12,13,14,16,74,75,76] [14,71,616,617,618,619,620,621,622,623,624,625,626]] Z (a4_ a0 ⟨(Oq _ _ b5),Qc,.inl Z⟩ (Lk _ _ _ b6) Qc) ?_
 obtain⟨c6,b7,h⟩:=Qv h
 refine AK.loop (body:=(λst=>Du j f g D k w st.1 st.2)) (λst σ=>σ=⟨[(6,.L 621),(7,.L 622),(8,.L 623),(12,.L 626),(13,.sl 1 (D.map Qb)),lk_ 14,(16,.own 71 g.length),(74,.sl 1 (j.map QQ)),(75,.I (j.length:Int)),(76,.I st.1)],[(14,.var (QC f.2)),(71,.arr 1 (g.map QQ)),(616,.arr 4 (l.map Qk)),(617,.arr 4 (st.2.map Qk)),(618,.lp lpl (XW lpf) (DN (.L 619) (.L 620) (.L 621) (.L 622) (.L 623) (.L 624) (.L 625) (.L 626)) 1),(619,.var (Qa y)),(620,.var (Qx z)),(621,.var (Qb k)),(622,.var (Qb w)),(623,.var [.own 616 l.length]),(624,.var (Xp j)),(625,.var (Xp x)),(626,.var [.own 617 st.2.length])]⟩) (Sum.elim (λq e σ=>e=.ret/\σ=⟨[],[(616,.arr 4 (l.map Qk)),(617,.arr 4 (q.map Qk)),(618,.lp lpl (XW lpf) (DN (.L 619) (.L 620) (.L 621) (.L 622) (.L 623) (.L 624) (.L 625) (.L 626)) 1),(619,.var (Qa y)),(620,.var (Qx z)),(621,.var (Qb k)),(622,.var (Qb w)),(623,.var [.own 617 q.length]),(624,.var (Xp j)),(625,.var (Xp x)),(626,.var [.own 617 q.length])]⟩) (λq e σ=>e=.exit 2/\σ=⟨[],[(616,.arr 4 (l.map Qk)),(617,.arr 4 (q.map Qk)),(618,.lp lpl (XW lpf) (DN (.L 619) (.L 620) (.L 621) (.L 622) (.L 623) (.L 624) (.L 625) (.L 626)) 1),(619,.var (Qa y)),(620,.var (Qx z)),(621,.var (Qb k)),(622,.var (Qb w)),(623,.var [.own 616 l.length]),(624,.var (Xp j)),(625,.var (Xp x)),(626,.var [.own 617 q.length])]⟩)) b7 rfl ?_ ?_
 ·rintro ⟨a1,d4⟩ o σ rfl h
  refine tg_ i [6] ?_
  refine bq_ i h [.T,2] rfl (λa2 h=>?_) [.F,2,.K [] [616,617,618,619,620,621,622,623,624,625,626]] rfl λa2 h=>?_
  ·refine AK.meet (λσ=>∃a6:(L_ Qj),σ=⟨[(6,.L 621),(7,.L 622),(8,.L 623),(12,.L 626),(13,.sl 1 (D.map Qb)),lk_ 14,(16,.own 71 g.length),(74,.sl 1 (j.map QQ)),(75,.I (j.length:Int)),(76,.I a1)],[(14,.var (QC f.2)),(71,.arr 1 (g.map QQ)),(616,.arr 4 (l.map Qk)),(617,.arr 4 (a6.map Qk)),(618,.lp lpl (XW lpf) (DN (.L 619) (.L 620) (.L 621) (.L 622) (.L 623) (.L 624) (.L 625) (.L 626)) 1),(619,.var (Qa y)),(620,.var (Qx z)),(621,.var (Qb k)),(622,.var (Qb w)),(623,.var [.own 616 l.length]),(624,.var (Xp j)),(625,.var (Xp x)),(626,.var [.own 617 a6.length])]⟩/\KR a1 a6=some o) ?_ ?_
   ·obtain⟨b0,b8,h⟩:=Qv h
    obtain⟨c7,b9,h⟩:=Qv h
    refine Qo i [3,.o (.row (QQ b0)),7,.A (QC f.2),1,.o (.C2 (.I c7)),3] Z (a3_ (Xi b8) Z (Lp _ _ _ b9)) ?_
    refine bq_ i h [.T,3,.K [6,7,8,12,13,14,16,74,75,76] [14,71,616,617,618,619,620,621,622,623,624,625,626]] rfl (λa3 h=>?_) [.F,10,.K [6,7,8,12,13,14,16,18,74,75,76,84,85,86] [14,71,616,617,618,619,620,621,622,623,624,625,626]] rfl λa3 h=>?_
    ·exact AK.met (ex_ _ (an_ Z h))
    obtain⟨c8,c0,h⟩:=Qv h
    refine AK.loop (body:=(λst=>Dt g D b0 k w st.1 st.2)) (λst σ=>σ=⟨[(6,.L 621),(7,.L 622),(8,.L 623),(12,.L 626),(13,.sl 1 (D.map Qb)),lk_ 14,(16,.own 71 g.length),(18,.sl 1 (b0.map Qb)),(74,.sl 1 (j.map QQ)),(75,.I (j.length:Int)),(76,.I a1),(84,.own 71 g.length),(85,.I (g.length:Int)),(86,.I st.1)],[(14,.var (QC f.2)),(71,.arr 1 (g.map QQ)),(616,.arr 4 (l.map Qk)),(617,.arr 4 (st.2.map Qk)),(618,.lp lpl (XW lpf) (DN (.L 619) (.L 620) (.L 621) (.L 622) (.L 623) (.L 624) (.L 625) (.L 626)) 1),(619,.var (Qa y)),(620,.var (Qx z)),(621,.var (Qb k)),(622,.var (Qb w)),(623,.var [.own 616 l.length]),(624,.var (Xp j)),(625,.var (Xp x)),(626,.var [.own 617 st.2.length])]⟩) (Sum.elim (λq e σ=>e=.ret/\σ=⟨[],[(616,.arr 4 (l.map Qk)),(617,.arr 4 (q.map Qk)),(618,.lp lpl (XW lpf) (DN (.L 619) (.L 620) (.L 621) (.L 622) (.L 623) (.L 624) (.L 625) (.L 626)) 1),(619,.var (Qa y)),(620,.var (Qx z)),(621,.var (Qb k)),(622,.var (Qb w)),(623,.var [.own 617 q.length]),(624,.var (Xp j)),(625,.var (Xp x)),(626,.var [.own 617 q.length])]⟩) (λq e σ=>e=.exit 4/\σ=⟨[(6,.L 621),(7,.L 622),(8,.L 623),(12,.L 626),(13,.sl 1 (D.map Qb)),lk_ 14,(16,.own 71 g.length),(74,.sl 1 (j.map QQ)),(75,.I (j.length:Int)),(76,.I a1)],[(14,.var (QC f.2)),(71,.arr 1 (g.map QQ)),(616,.arr 4 (l.map Qk)),(617,.arr 4 (q.map Qk)),(618,.lp lpl (XW lpf) (DN (.L 619) (.L 620) (.L 621) (.L 622) (.L 623) (.L 624) (.L 625) (.L 626)) 1),(619,.var (Qa y)),(620,.var (Qx z)),(621,.var (Qb k)),(622,.var (Qb w)),(623,.var [.own 616 l.length]),(624,.var (Xp j)),(625,.var (Xp x)),(626,.var [.own 617 q.length])]⟩)) c0 rfl ?_ ?_
    ·rintro ⟨d5,a7⟩ o σ rfl h
     refine tg_ i [6] ?_
     rcases XN h with⟨a4,h⟩|⟨a4,h⟩
     ·obtain⟨c9,a8,h⟩:=Qv h
      obtain⟨p,c1,h⟩:=Qv h
      obtain⟨t,c2,h⟩:=Qv h
      obtain⟨u,c3,h⟩:=Qv h
      obtain⟨c4,h⟩:=RX h
      refine Qo i [.T,7,.o (.row (QQ c9)),4,.K [6,7,8,12,13,14,16,18,20,74,75,76,84,85,86] [14,71,616,617,618,619,620,621,622,623,624,625,626]] Z (a3_ a4 (YN a8 Z) (XU (Jr a8).2)) ?_
      refine AK.draw2 Qt i mixed [.N,.N,.N,.B (.cd false [.d] 1 (p.map Qb) p.length),.N,.B (.cd false [.d] 1 (t.map Qb) t.length),.N,.B (.cd false [.d] 1 (u.map Qb) u.length),.E (.agg (Qk (Qj.mk k p t u))),.a (.bd []) (some ([],.sl 4 (([(Qj.mk k p t u)]:L_ Qj).map Qk))) false,.m (.app ((a7++[(Qj.mk k p t u)]).map Qk) (a7++[(Qj.mk k p t u)]).length),.m .s] [] [] [6,7,8,12,13,14,16,18,74,75,76,84,85,86] [14,71,616,617,618,619,620,621,622,623,624,625,626] rfl rfl rfl ⟨⟨⟨⟨⟨⟨U,⟨(Kn _ _ c1),Qc⟩⟩,⟨(Kn _ _ c2),Qc⟩⟩,⟨(Kn _ _ c3),Qc⟩⟩,rfl⟩,rfl⟩,⟨Qc,Jf c4 Qc,XY,Jw Qc⟩⟩ rfl (by kernel_rfl) rfl rfl rfl ?_
      refine Qo i [.O 626 (.var [.own 617 (a7++[(Qj.mk k p t u)]).length]),9] Z (A Z) ?_
      refine bg_ h (λa5 h=>Qo i [.T,4,.O 623 (.var [.own 617 (a7++[(Qj.mk k p t u)]).length]),5,.K [] [616,617,618,619,620,621,622,623,624,625,626]] rfl (a2_ a5 rfl) ?_) λa5 h=>Qo i [.F,7,.K [6,7,8,12,13,14,16,18,74,75,76,84,85,86] [14,71,616,617,618,619,620,621,622,623,624,625,626]] rfl (A a5) ?_
      ·cases h
       exact Qjp Z (an_ Z Z)
      cases h
      exact Vp Z Z
     refine Qo i [.F,2,.K [6,7,8,12,13,14,16,74,75,76] [14,71,616,617,618,619,620,621,622,623,624,625,626]] Z (A a4) ?_
     cases h
     exact ZX Z (an_ Z Z)
    rcases c8 with(d0 | d1)
    ·replace h:Hp d0=some o:=h
     rintro e σ ⟨rfl,rfl⟩
     refine tg_ i [3,.K [] [616,617,618,619,620,621,622,623,624,625,626]] ?_
     cases h
     exact Qjp Z (an_ Z Z)
    replace h:Ua a1 d1=some o:=h
    unfold Ua at h
    rintro e σ ⟨rfl,rfl⟩
    refine tg_ i [2,.K [6,7,8,12,13,14,16,74,75,76] [14,71,616,617,618,619,620,621,622,623,624,625,626]] ?_
    exact AK.met (ex_ _ (an_ Z h))
   rintro σ ⟨a6,rfl,h⟩
   refine tg_ i [4,.K [6,7,8,12,13,14,16,74,75,76] [14,71,616,617,618,619,620,621,622,623,624,625,626]] ?_
   cases h
   exact Vp Z Z
  cases h
  exact ZX Z (an_ Z Z)
 rcases c6 with(d2 | d3)
 ·replace h:Hq d2=some r:=h
  rintro e σ ⟨rfl,rfl⟩
  refine tg_ i [2,.K [] [616,617,618,619,620,621,622,623,624,625,626]] ?_
  cases h
  refine AK.done ?_
  exact ex_ _ (an_ Z (gives rB_))
 replace h:Hr d3=some r:=h
 rintro e σ ⟨rfl,rfl⟩
 refine tg_ i [2,.K [] [616,617,618,619,620,621,622,623,624,625,626]] ?_
 cases h
 refine AK.done ?_
 exact ex_ _ (an_ Z (gives rB_))
def YP (c:(L_ QI))(a:Int):O_ Int:=(ES c a).bind λb=>bif (!b.1)then some 0 else (idx b.2.sizes a).bind λd=>some d
def Cd (j k):CT 145 [.sl 7 (j.map Qr),.I k] [] (YP j k) V.I no_:=
 W 20 func145 Z λC e r h=>B h λf g h=>K e [9,.o (.C2 (.tup [.agg (Xy f.2),.b f.1])),5,.O 5 (.var (Xy f.2)),10] Z (Oj _ _ _ g) Z<|I h (λa h=>J e [.T,7] Z a<|E h Z U) λa h=>B h λl i h=>K e [.F,7,.o (.row (Qb l)),5] Z a (Xi i)<|E h Z U
def Ng (a:(L_ Qj)):O_ ((LI_×(L_ Qj))⊕((L_ Qj)⊕(L_ Qj))):=some (.inr (.inr a))
def Nh (h:Int)(a:LI_)(f:QG)(b:Qe):O_ Bool:=bif (0<=h)then (idx a h).bind λc=>(idx f.Vars h).bind λd=>(YP b.Colours d.Colour).bind λe=>some (decide (e<=(Qi (c+1))))else some false
def EA (a:LI_)(h:Int)(b:Bool):O_ ((Int×LI_)⊕(Int×LI_)):=bif b then (idx a h).bind λc=>some (.inl ((Qi (h-1)),(a.set h.toNat 0)))else some (.inr (h,a))
def Dx (d:QG)(b:Qe)(h:Int)(a:LI_):O_ ((Int×LI_)⊕(Int×LI_)):=(Nh h a d b).bind (λc=>EA a h c)
def EB (b:(L_ Qj))(h:Int)(a:LI_):O_ ((LI_×(L_ Qj))⊕((L_ Qj)⊕(L_ Qj))):=bif (h<0)then some (.inr (.inl b))else (idx a h).bind λc=>(idx a h).bind λd=>some (.inl ((a.set h.toNat (Qi (c+1))),b))
def EC (d:QG)(b:Qe)(a:LI_)(c:(L_ Qj)):O_ ((LI_×(L_ Qj))⊕((L_ Qj)⊕(L_ Qj))):=(QD (λst=>Dx d b st.1 st.2) ((Qi ((a.length:Int)-1)),a)).bind (λq=>EB c q.1 q.2)
def ED (e:Qe)(f:QMk)(g:Int)(h:Int)(i:(L_ Qj))(j:QLL)(k:QLL)(l:QG)(b:Qe)(a:LI_)(c:(L_ Qj)):O_ ((LI_×(L_ Qj))⊕((L_ Qj)⊕(L_ Qj))):=(Yu a).bind λd=>(GR e f g h i j k c d).bind (Sum.elim (λq=>Ng q) (λq=>EC l b a q))
def Ni (a:(L_ Qj)):O_ ((L_ Qj)⊕(L_ Qj)):=some (.inl a)
def Nj (a:(L_ Qj)):O_ ((L_ Qj)⊕(L_ Qj)):=some (.inr a)
def AR (c:Qe)(d:QMk)(e:Int)(f:Int)(g:(L_ Qj))(h:QLL)(i:QLL)(j:(L_ Qj))(a:QG)(b:Qe):O_ ((L_ Qj)⊕(L_ Qj)):=(chk (decide (0<=(a.Vars.length:Int))&&decide ((a.Vars.length:Int)<=(a.Vars.length:Int))&&decide ((a.Vars.length:Int)<=4294967296))).bind λ_=>(QD (λst=>ED c d e f g h i a b st.1 st.2) ((List.replicate (a.Vars.length:Int).toNat (0:Int)),j)).bind (Sum.elim (λq=>Ni q) (λq=>Nj q))
def Nk (lpl lpf:Nat)(m:Qe)(p:QMk)(s:Int)(t:Int)(j:(L_ Qj))(u:QLL)(v:QLL)(l8:(L_ Qj))(l:QG)(f:Qe){r:((L_ Qj)⊕(L_ Qj))}(h:AR m p s t j u v l8 l f=some r):QU prog 300 [.clo (.yield lpl) [] [],.L 627,.L 628] [(618,.lp lpl (XW lpf) (DN (.L 619) (.L 620) (.L 621) (.L 622) (.L 623) (.L 624) (.L 625) (.L 626)) 0),(619,.var (Qa m)),(620,.var (Qx p)),(621,.var (Qb s)),(622,.var (Qb t)),(623,.var [.own 616 j.length]),(616,.arr 4 (j.map Qk)),(624,.var (Xp u)),(625,.var (Xp v)),(626,.var [.own 617 l8.length]),(617,.arr 4 (l8.map Qk)),(627,.var (Qg l)),(628,.var (Qa f))] ((Sum.elim (λq=>(Gives (.tup []) [(616,.arr 4 (j.map Qk)),(617,.arr 4 (q.map Qk)),(618,.lp lpl (XW lpf) (DN (.L 619) (.L 620) (.L 621) (.L 622) (.L 623) (.L 624) (.L 625) (.L 626)) 0),(619,.var (Qa m)),(620,.var (Qx p)),(621,.var (Qb s)),(622,.var (Qb t)),(623,.var [.own 616 j.length]),(624,.var (Xp u)),(625,.var (Xp v)),(626,.var [.own 617 q.length]),(627,.var (Qg l)),(628,.var (Qa f))])) (λq=>(Gives (.tup []) [(616,.arr 4 (j.map Qk)),(617,.arr 4 (q.map Qk)),(618,.lp lpl (XW lpf) (DN (.L 619) (.L 620) (.L 621) (.L 622) (.L 623) (.L 624) (.L 625) (.L 626)) 2),(619,.var (Qa m)),(620,.var (Qx p)),(621,.var (Qb s)),(622,.var (Qb t)),(623,.var [.own 617 q.length]),(624,.var (Xp u)),(625,.var (Xp v)),(626,.var [.own 617 q.length]),(627,.var (Qg l)),(628,.var (Qa f))]))) r):=by
 refine wk_ 50 func300 λC k=>?_
 obtain⟨a8,h⟩:=RX h
 refine Qo k [4,.o (.ln l.Vars.length),.o (.rows ((List.replicate (l.Vars.length:Int).toNat (0:Int)).map Qb)),.S 9 (.own 9 (List.replicate (l.Vars.length:Int).toNat (0:Int)).length),4,.K [0,1,2,4] [9,616,617,618,619,620,621,622,623,624,625,626,627,628]] Z (a3_ Qc ⟨a8,QhQ Z⟩ (by simp)) ?_
 obtain⟨b6,a9,h⟩:=Qv h
 refine AK.loop (body:=(λst=>ED m p s t j u v l f st.1 st.2)) (λst σ=>σ=⟨[(0,.clo (.yield lpl) [] []),(1,.L 627),(2,.L 628),(4,.own 9 st.1.length)],[(9,.arr 1 (st.1.map Qb)),(616,.arr 4 (j.map Qk)),(617,.arr 4 (st.2.map Qk)),(618,.lp lpl (XW lpf) (DN (.L 619) (.L 620) (.L 621) (.L 622) (.L 623) (.L 624) (.L 625) (.L 626)) 0),(619,.var (Qa m)),(620,.var (Qx p)),(621,.var (Qb s)),(622,.var (Qb t)),(623,.var [.own 616 j.length]),(624,.var (Xp u)),(625,.var (Xp v)),(626,.var [.own 617 st.2.length]),(627,.var (Qg l)),(628,.var (Qa f))]⟩) (Sum.elim (λq e σ=>e=.ret/\σ=⟨[],[(616,.arr 4 (j.map Qk)),(617,.arr 4 (q.map Qk)),(618,.lp lpl (XW lpf) (DN (.L 619) (.L 620) (.L 621) (.L 622) (.L 623) (.L 624) (.L 625) (.L 626)) 0),(619,.var (Qa m)),(620,.var (Qx p)),(621,.var (Qb s)),(622,.var (Qb t)),(623,.var [.own 616 j.length]),(624,.var (Xp u)),(625,.var (Xp v)),(626,.var [.own 617 q.length]),(627,.var (Qg l)),(628,.var (Qa f))]⟩) (λq e σ=>e=.ret/\σ=⟨[],[(616,.arr 4 (j.map Qk)),(617,.arr 4 (q.map Qk)),(618,.lp lpl (XW lpf) (DN (.L 619) (.L 620) (.L 621) (.L 622) (.L 623) (.L 624) (.L 625) (.L 626)) 2),(619,.var (Qa m)),(620,.var (Qx p)),(621,.var (Qb s)),(622,.var (Qb t)),(623,.var [.own 617 q.length]),(624,.var (Xp u)),(625,.var (Xp v)),(626,.var [.own 617 q.length]),(627,.var (Qg l)),(628,.var (Qa f))]⟩)) a9 rfl ?_ ?_
 ·rintro ⟨b0,c6⟩ o σ rfl h
  obtain⟨a4,b1,h⟩:=Qv h
  obtain⟨b7,P,h⟩:=Qv h
  refine Qo k [6,.o (.co true [.o (b0.map Qb)] 1 (a4.map Qb) a4.length),.frz 12 (a4.map Qb) [12] []] Z (a2_ ⟨(VR Z),⟨(Kn _ _ b1),Qc,.inr (QkQ _)⟩⟩ (A (Js Qc))) ?_
  rcases b7 with(w | i)
  ·replace h:Ng w=some o:=h
   refine Qo k [.x (λσ=>(σ.after [616,617] [(616,.arr 4 (j.map Qk)),(617,.arr 4 (w.map Qk)),(618,.lp lpl (XW lpf) (DN (.L 619) (.L 620) (.L 621) (.L 622) (.L 623) (.L 624) (.L 625) (.L 626)) 2),(619,.var (Qa m)),(620,.var (Qx p)),(621,.var (Qb s)),(622,.var (Qb t)),(623,.var [.own 617 w.length]),(624,.var (Xp u)),(625,.var (Xp v)),(626,.var [.own 617 w.length])]).put 13 (.b false)),7,.K [] [616,617,618,619,620,621,622,623,624,625,626,627,628]] Z (A (Stp.yieldV (b:=618) (M:=[(618,618),(619,619),(620,620),(621,621),(622,622),(623,623),(616,616),(624,624),(625,625),(626,626),(617,617)]) (N:=[(616,616),(617,617),(618,618),(619,619),(620,620),(621,621),(622,622),(623,623),(624,624),(625,625),(626,626)]) (dead:=[616,617]) (ms:=[.d,.d,.d,.d,.d,.d,.d,.d,.d,.d,.d,.d,.d,.d,.d,.d,.d,.d,.d,.d,.d,.d,.d,.d,.d,.d,.d,.d,.d,.d,.d,.d,.d,.d,.d,.d,.d,.d,.d,.d,.d,.d,.d,.d,.d,.d,.d,.d,.d,.d,.d,.d,.d,.d,.d,.d,.d,.d,.d,.d,.d,.d,.d,.d,.d,.d,.d,.d,.d,.d,.d,.d,.d,.d,.d,.d,.d,.d,.d,.d,.d,.d,.d,.d,.d,.d,.d,.d,.d,.d,.d,.d,.d,.d,.d,.d,.d,.d,.d,.d,.d,.d,.d,.d,.d,.d,.d,.d,.d]) (outs:=[(616,.arr 4 (j.map Qk)),(617,.arr 4 (w.map Qk)),(618,.lp lpl (XW lpf) (DN (.L 619) (.L 620) (.L 621) (.L 622) (.L 623) (.L 624) (.L 625) (.L 626)) 2),(619,.var (Qa m)),(620,.var (Qx p)),(621,.var (Qb s)),(622,.var (Qb t)),(623,.var [.own 617 w.length]),(624,.var (Xp u)),(625,.var (Xp v)),(626,.var [.own 617 w.length])]) (r:=.b false) Z Z Z Z Z Z Z (QR k.n Z) k.g Z Z (Hs _ _ _ _ _ _ _ _ _ _ _ P))) ?_
   cases h
   exact Qjp Z (an_ Z Z)
  replace h:EC l f b0 i=some o:=h
  refine Qo k [.x (λσ=>(σ.after [616,617] [(616,.arr 4 (j.map Qk)),(617,.arr 4 (i.map Qk)),(618,.lp lpl (XW lpf) (DN (.L 619) (.L 620) (.L 621) (.L 622) (.L 623) (.L 624) (.L 625) (.L 626)) 0),(619,.var (Qa m)),(620,.var (Qx p)),(621,.var (Qb s)),(622,.var (Qb t)),(623,.var [.own 616 j.length]),(624,.var (Xp u)),(625,.var (Xp v)),(626,.var [.own 617 i.length])]).put 13 (.b true)),16,.K [0,1,2,4,5] [9,616,617,618,619,620,621,622,623,624,625,626,627,628]] Z (A (Stp.yieldV (b:=618) (M:=[(618,618),(619,619),(620,620),(621,621),(622,622),(623,623),(616,616),(624,624),(625,625),(626,626),(617,617)]) (N:=[(616,616),(617,617),(618,618),(619,619),(620,620),(621,621),(622,622),(623,623),(624,624),(625,625),(626,626)]) (dead:=[616,617]) (ms:=[.d,.d,.d,.d,.d,.d,.d,.d,.d,.d,.d,.d,.d,.d,.d,.d,.d,.d,.d,.d,.d,.d,.d,.d,.d,.d,.d,.d,.d,.d,.d,.d,.d,.d,.d,.d,.d,.d,.d,.d,.d,.d,.d,.d,.d,.d,.d,.d,.d,.d,.d,.d,.d,.d,.d,.d,.d,.d,.d,.d,.d,.d,.d,.d,.d,.d,.d,.d,.d,.d,.d,.d,.d,.d,.d,.d,.d,.d,.d,.d,.d,.d,.d,.d,.d,.d,.d,.d,.d,.d,.d,.d,.d,.d,.d,.d,.d,.d,.d,.d,.d,.d,.d,.d,.d,.d,.d,.d,.d]) (outs:=[(616,.arr 4 (j.map Qk)),(617,.arr 4 (i.map Qk)),(618,.lp lpl (XW lpf) (DN (.L 619) (.L 620) (.L 621) (.L 622) (.L 623) (.L 624) (.L 625) (.L 626)) 0),(619,.var (Qa m)),(620,.var (Qx p)),(621,.var (Qb s)),(622,.var (Qb t)),(623,.var [.own 616 j.length]),(624,.var (Xp u)),(625,.var (Xp v)),(626,.var [.own 617 i.length])]) (r:=.b true) Z Z Z Z Z Z Z (QR k.n Z) k.g Z Z (Hs _ _ _ _ _ _ _ _ _ _ _ P))) ?_
  obtain⟨b8,b2,h⟩:=Qv h
  refine AK.loop (body:=(λst=>Dx l f st.1 st.2)) (λst σ=>σ=⟨[(0,.clo (.yield lpl) [] []),(1,.L 627),(2,.L 628),(4,.own 9 st.2.length),(5,.I st.1)],[(9,.arr 1 (st.2.map Qb)),(616,.arr 4 (j.map Qk)),(617,.arr 4 (i.map Qk)),(618,.lp lpl (XW lpf) (DN (.L 619) (.L 620) (.L 621) (.L 622) (.L 623) (.L 624) (.L 625) (.L 626)) 0),(619,.var (Qa m)),(620,.var (Qx p)),(621,.var (Qb s)),(622,.var (Qb t)),(623,.var [.own 616 j.length]),(624,.var (Xp u)),(625,.var (Xp v)),(626,.var [.own 617 i.length]),(627,.var (Qg l)),(628,.var (Qa f))]⟩) (λq e σ=>e=.exit 2/\σ=⟨[(0,.clo (.yield lpl) [] []),(1,.L 627),(2,.L 628),(4,.own 9 q.2.length),(5,.I q.1)],[(9,.arr 1 (q.2.map Qb)),(616,.arr 4 (j.map Qk)),(617,.arr 4 (i.map Qk)),(618,.lp lpl (XW lpf) (DN (.L 619) (.L 620) (.L 621) (.L 622) (.L 623) (.L 624) (.L 625) (.L 626)) 0),(619,.var (Qa m)),(620,.var (Qx p)),(621,.var (Qb s)),(622,.var (Qb t)),(623,.var [.own 616 j.length]),(624,.var (Xp u)),(625,.var (Xp v)),(626,.var [.own 617 i.length]),(627,.var (Qg l)),(628,.var (Qa f))]⟩) b2 rfl ?_ ?_
  ·rintro ⟨at_25,y⟩ o σ rfl h
   refine tg_ k [2] ?_
   obtain⟨a5,b3,h⟩:=Qv h
   replace h:EA y at_25 a5=some o:=h
   refine AK.meetX (λσ=>σ=⟨[(0,.clo (.yield lpl) [] []),(1,.L 627),(2,.L 628),(4,.own 9 y.length),(5,.I at_25),(36,.b a5)],[(9,.arr 1 (y.map Qb)),(616,.arr 4 (j.map Qk)),(617,.arr 4 (i.map Qk)),(618,.lp lpl (XW lpf) (DN (.L 619) (.L 620) (.L 621) (.L 622) (.L 623) (.L 624) (.L 625) (.L 626)) 0),(619,.var (Qa m)),(620,.var (Qx p)),(621,.var (Qb s)),(622,.var (Qb t)),(623,.var [.own 616 j.length]),(624,.var (Xp u)),(625,.var (Xp v)),(626,.var [.own 617 i.length]),(627,.var (Qg l)),(628,.var (Qa f))]⟩) ?_ ?_
   ·replace h:=b3
    refine tg_ k [.K [0,1,2,4,5] [9,616,617,618,619,620,621,622,623,624,625,626,627,628]] ?_
    rcases XN h with⟨z,h⟩|⟨z,h⟩
    ·obtain⟨b9,a0,h⟩:=Qv h
     obtain⟨c0,b4,h⟩:=Qv h
     obtain⟨c1,b5,h⟩:=Qv h
     refine AK.draw2 Qt k mixed [.N,.N,.E (.b true),.N,.N,.N,.B (.row (Qb b9)),.N,.N,.N,.N,.N,.N,.B (.row (Xe c0)),.N,.N,.B (.C2 (.I c1)),.N,.N] [] [] [0,1,2,4,5,36] [9,616,617,618,619,620,621,622,623,624,625,626,627,628] rfl rfl rfl ⟨⟨⟨⟨(tc_ z),(YN a0 rfl)⟩,(XU (Jr a0).2)⟩,(Xi b4)⟩,(Cd _ _ _ b5)⟩ rfl (by kernel_rfl) rfl rfl rfl ?_
     refine tg_ k [.K [0,1,2,4,5,36] [9,616,617,618,619,620,621,622,623,624,625,626,627,628]] ?_
     cases h
     exact mt_
    refine AK.draw2 Qt k mixed [.N,.N,.E (.b false),.N,.N,.N,.N,.N,.N,.N,.N,.N,.N,.N,.N,.N,.N,.N,.N] [] [] [0,1,2,4,5,36] [9,616,617,618,619,620,621,622,623,624,625,626,627,628] rfl rfl rfl (tc_ z) rfl (by kernel_rfl) rfl rfl rfl ?_
    refine tg_ k [.K [0,1,2,4,5,36] [9,616,617,618,619,620,621,622,623,624,625,626,627,628]] ?_
    cases h
    exact mt_
   rintro σ rfl
   replace h:EA y at_25 a5=some o:=h
   refine tg_ k [1] ?_
   rcases XN h with⟨D,h⟩|⟨D,h⟩
   ·obtain⟨c2,a1,h⟩:=Qv h
    refine Qo k [.T,8,.st (Qb c2) ((y.set at_25.toNat 0).map Qb),8,.S 4 (.own 9 (y.set at_25.toNat 0).length),.K [0,1,2,4,5] [9,616,617,618,619,620,621,622,623,624,625,626,627,628]] Z (a4_ D (YN a1 Z) ⟨(XU (Jr a1).2),Bf Z⟩ (congrArg (λn=>V.own 9 n) (by simp))) ?_
    cases h
    exact Vp Z Z
   refine Qo k [.F,2,.K [0,1,2,4,5] [9,616,617,618,619,620,621,622,623,624,625,626,627,628]] Z (A D) ?_
   cases h
   exact ZX Z (an_ Z Z)
  obtain⟨at_29,a6⟩:=b8
  replace h:EB i at_29 a6=some o:=h
  rintro e σ ⟨rfl,rfl⟩
  refine tg_ k [9] ?_
  rcases XN h with⟨O,h⟩|⟨O,h⟩
  ·refine Qo k [.T,3,.K [] [616,617,618,619,620,621,622,623,624,625,626,627,628]] Z (A O) ?_
   cases h
   exact Qjp Z (an_ Z Z)
  obtain⟨a7,a2,h⟩:=Qv h
  obtain⟨c3,a3,h⟩:=Qv h
  refine Qo k [.F,6,.o (.row (Qb a7)),2,.st (Qb c3) ((a6.set at_29.toNat (Qi (a7+1))).map Qb),2,.S 4 (.own 9 (a6.set at_29.toNat (Qi (a7+1))).length),.K [0,1,2,4] [9,616,617,618,619,620,621,622,623,624,625,626,627,628]] Z (a6_ O (YN a2 Z) (XU (Jr a2).2) (YN a3 Z) ⟨(XU (Jr a3).2),Bf Z⟩ (congrArg (λn=>V.own 9 n) (by simp))) ?_
  cases h
  exact Vp Z Z
 rcases b6 with(c4 | c5)
 ·replace h:Ni c4=some r:=h
  rintro e σ ⟨rfl,rfl⟩
  refine tg_ k [1,.K [] [616,617,618,619,620,621,622,623,624,625,626,627,628]] ?_
  cases h
  refine AK.done ?_
  exact ex_ [] (an_ U (gives rD_))
 replace h:Nj c5=some r:=h
 rintro e σ ⟨rfl,rfl⟩
 refine tg_ k [1,.K [] [616,617,618,619,620,621,622,623,624,625,626,627,628]] ?_
 cases h
 refine AK.done ?_
 exact ex_ [] (an_ U (gives rD_))
def TJ (a:(L_ Qj)):O_ (L_ Qj):=some a
def TK (a:(L_ Qj)):O_ (L_ Qj):=some a
def Ht (e:Qe)(h:QMk)(a:Int)(b:Int):O_ (L_ Qj):=
 bif ((a<0)||(((e.Tasks.length:Int)<=a)||(b<1)))then
 some ([]:L_ Qj)
 else
 (idx e.Tasks a).bind λc=>
 (We c.Join (c.Ins.length:Int)).bind λf=>
 (We c.Split (c.Outs.length:Int)).bind λg=>
 (TA e c).bind λd=>
 (AR e h a b ([]:L_ Qj) f g ([]:L_ Qj) d.2 d.1).bind (Sum.elim (λq=>TJ q) (λq=>TK q))
def Qfb (k y c e){r}(h:Ht k y c e=some r):QU prog 229 [.agg (Qa k),.sl 1 (y.map Qh),.I c,.I e] [] (Gives (.sl 4 (r.map Qk)) []):=by
 refine QU.walkR 109 func229 Z ntmps229 Z λC f hR=>?_
 refine tg_ f [11] ?_
 refine AK.meetX (λσ=>σ=⟨[lk_ 4,lk_ 5,lk_ 6,lk_ 7,lk_ 8,(33,.b ((c<0)||(((k.Tasks.length:Int)<=c)||(e<1))))],[(4,.var (Qa k)),(5,.var (Qx y)),(6,.var (Qb c)),(7,.var (Qb e)),(8,.var [.Y])]⟩) ?_ ?_
 ·exact H f [4] Z<|bO_ (decide (c<0)) (λg=>G f [.S 23 (.b true),11,.S 33 (.b ((c<0)||(((k.Tasks.length:Int)<=c)||(e<1))))] Z ⟨(tc_ g),(cb_ (Eh g Z))⟩<|M Z) λg=>G f [.S 23 (.b false),3,.o (.ln k.Tasks.length),3] Z ⟨(tc_ g),Qc⟩<|bO_ (decide ((k.Tasks.length:Int)<=c)) (λl=>G f [.S 30 (.b true),4,.S 33 (.b ((c<0)||(((k.Tasks.length:Int)<=c)||(e<1))))] Z ⟨(tc_ l),(cb_ (Ji g (Eh l Z)))⟩<|M Z) λl=>G f [.S 30 (.b false),4,.S 33 (.b ((c<0)||(((k.Tasks.length:Int)<=c)||(e<1))))] Z ⟨(tc_ l),(cb_ (Ji g (Ji l Z)))⟩<|M Z
 rintro σ rfl
 refine tg_ f [1] ?_
 rcases XN h with⟨p,h⟩|⟨p,h⟩
 ·refine Qo f [.T,3,.O 8 (.var [.Y]),4,.denilO 8 [some 4],.O 8 (.var (QjL ([]:L_ Qj))),.K [8] [8]] Z (a3_ p Z Z) ?_
  cases h
  exact AK.done (ex_ [_] (an_ (an_ (ex_ _ (ex_ _ (an_ Z (an_ Z (Or.inr (an_ (Qt.ag Z) Z)))))) U) (gives U)))
 obtain⟨i,z,h⟩:=Qv h
 obtain⟨q,D,h⟩:=Qv h
 obtain⟨t,P,h⟩:=Qv h
 refine Qo f [.F,7,.o (.row (Qg i)),.A (Qg i),2,.O 9 (.var (Qg i)),3,.K [4,5,6,7,8,9] [4,5,6,7,8,9]] Z (a4_ p (Xi z) Z Z) ?_
 refine AK.draw2 Qt f mixed [.N,.N,.N,.N,.B (.ln i.Ins.length),.B (.cd false [.d,.d] 1 (q.map QQ) q.length),.N,.N,.N,.N,.B (.ln i.Outs.length),.B (.cd false [.d,.d] 1 (t.map QQ) t.length),.N,.N,.m .s,.m .s] [] [] [4,5,6,7,8,9,10,11] [4,5,6,7,8,9,10,11] rfl rfl rfl ⟨⟨⟨⟨U,Qc⟩,⟨(II _ _ _ D),Qc⟩⟩,Qc⟩,⟨(II _ _ _ P),Qc⟩⟩ rfl (by kernel_rfl) rfl rfl rfl ?_
 obtain⟨j,a0,h⟩:=Qv h
 refine Qo f [.O 10 (.var (Xp q)),.O 11 (.var (Xp t)),9,.A (Qa k),.A (Qg i),.cm (.fn) [] [(53,2),(611,3)] [] [.d,.d] [(2,.var (Qa j.1)),(3,.var (Qg j.2))] (.clo (.func 300) [] [.L 3,.L 2]),3,.K [4,5,6,7,8,10,11,12,53] [4,5,6,7,8,10,11,12,53,611]] Z (a5_ Z Z Z Z (QbN _ _ _ a0)) ?_
 obtain⟨a1,x,h⟩:=Qv h
 refine Qo f [.adoptO 8 0 606 4,.O 606 (.arr 4 (([]:L_ Qj).map Qk)),.O 8 (.var [.own 606 ([]:L_ Qj).length]),.adoptO 12 0 608 4,.O 608 (.arr 4 (([]:L_ Qj).map Qk)),.O 12 (.var [.own 608 ([]:L_ Qj).length])] Z (a4_ Z Z Z Z) ?_
 rcases a1 with(u | w)
 ·replace h:TJ u=some r:=h
  refine AK.rangeF 615 [4,5,6,7,8,10,11,12] [(618,615),(619,4),(620,5),(621,6),(622,7),(623,8),(616,606),(624,10),(625,11),(626,12),(617,608),(627,611),(628,53)] [(606,616),(608,617),(615,618),(4,619),(5,620),(6,621),(7,622),(8,623),(10,624),(11,625),(12,626),(611,627),(53,628)] [606,608] [.d,.d,.d] XW f hR (λ_=>rfl) rfl rfl rfl rfl λlpl lpf=>?_
  refine ex_ [(616,.arr 4 (([]:L_ Qj).map Qk)),(617,.arr 4 (u.map Qk)),(618,.lp lpl (XW lpf) (DN (.L 619) (.L 620) (.L 621) (.L 622) (.L 623) (.L 624) (.L 625) (.L 626)) 0),(619,.var (Qa k)),(620,.var (Qx y)),(621,.var (Qb c)),(622,.var (Qb e)),(623,.var [.own 616 ([]:L_ Qj).length]),(624,.var (Xp q)),(625,.var (Xp t)),(626,.var [.own 617 u.length]),(627,.var (Qg j.2)),(628,.var (Qa j.1))] (ex_ (.tup []) (ex_ _ (ex_ _ (ex_ (DN (.L 4) (.L 5) (.L 6) (.L 7) (.L 8) (.L 10) (.L 11) (.L 12)) (ex_ 0 (an_ rfl ?_))))))
  refine an_ (Nk _ _ _ _ _ _ _ _ _ _ _ _ x) (an_ rfl (an_ (bne_iff_ne.1 (show(0 != 1)=true from rfl)) ?_))
  refine QnN Z ?_
  refine Qo f [6,.O 8 (.var [.own 608 u.length]),3,.frz 608 (u.map Qk) [] [8],.K [8] [8]] Z (a2_ Z (A ⟨(Js Qc),U⟩)) ?_
  cases h
  exact AK.done (ex_ [_] (an_ (an_ (ex_ _ (ex_ _ (an_ Z (an_ Z (Or.inr (an_ (Qt.ag Z) Z)))))) U) (gives U)))
 replace h:TK w=some r:=h
 refine AK.rangeF 615 [4,5,6,7,8,10,11,12] [(618,615),(619,4),(620,5),(621,6),(622,7),(623,8),(616,606),(624,10),(625,11),(626,12),(617,608),(627,611),(628,53)] [(606,616),(608,617),(615,618),(4,619),(5,620),(6,621),(7,622),(8,623),(10,624),(11,625),(12,626),(611,627),(53,628)] [606,608] [.d,.d,.d] XW f hR (λ_=>rfl) rfl rfl rfl rfl λlpl lpf=>?_
 refine ex_ [(616,.arr 4 (([]:L_ Qj).map Qk)),(617,.arr 4 (w.map Qk)),(618,.lp lpl (XW lpf) (DN (.L 619) (.L 620) (.L 621) (.L 622) (.L 623) (.L 624) (.L 625) (.L 626)) 2),(619,.var (Qa k)),(620,.var (Qx y)),(621,.var (Qb c)),(622,.var (Qb e)),(623,.var [.own 617 w.length]),(624,.var (Xp q)),(625,.var (Xp t)),(626,.var [.own 617 w.length]),(627,.var (Qg j.2)),(628,.var (Qa j.1))] (ex_ (.tup []) (ex_ _ (ex_ _ (ex_ (DN (.L 4) (.L 5) (.L 6) (.L 7) (.L 8) (.L 10) (.L 11) (.L 12)) (ex_ 2 (an_ rfl ?_))))))
 refine an_ (Nk _ _ _ _ _ _ _ _ _ _ _ _ x) (an_ rfl (an_ (bne_iff_ne.1 (show(2 != 1)=true from rfl)) ?_))
 refine Qpa Z ?_
 refine Qo f [3,.frz 608 (w.map Qk) [] [8],.K [8] [8]] Z (A (A ⟨(Js Qc),U⟩)) ?_
 cases h
 exact AK.done (ex_ [_] (an_ (an_ (ex_ _ (ex_ _ (an_ Z (an_ Z (Or.inr (an_ (Qt.ag Z) Z)))))) U) (gives U)))
def PC (e:Qe)(f:QMk)(a:Int)(d:Int)(c:(L_ Qj)):O_ ((Int×(L_ Qj))⊕(L_ Qj)):=bif (d<(e.Tasks.length:Int))then (Ht e f d (Qi (a-(c.length:Int)))).bind λb=>(chk (c.length+b.length<=4294967296)).bind λ_=>some (.inl ((Qi (d+1)),(c++b)))else some (.inr c)
def Qhl (a:(L_ Qj)):O_ (L_ Qj):=some a
def HZ (b:Qe)(c:QMk)(a:Int):O_ (L_ Qj):=(QD (λst=>PC b c a st.1 st.2) (0,([]:L_ Qj))).bind (λq=>Qhl q)
def QaQ (f k a):CT 161 [.agg (Qa f),.sl 1 (k.map Qh),.I a] [] (HZ f k a) (λr=>(.own 600 r.length)) (λr=>[(600,.arr 4 (r.map Qk))]):=
 W 27 func161 Z λC g r h=>g3_ g [16,.o (.ln f.Tasks.length),4,.adopt 7 15 4,.O 15 (.arr 4 (([]:L_ Qj).map Qk)),.S 7 (.own 15 ([]:L_ Qj).length)] Z Qc Z (congrArg (λn=>V.own 15 n) (by simp))<|lp_ h (λst=>⟨[(1,.sl 1 (k.map Qh)),(2,.I a),lk_ 3,(7,.own 15 st.2.length),(11,.I (f.Tasks.length:Int)),(12,.I st.1)],[(3,.var (Qa f)),(15,.arr 4 (st.2.map Qk))]⟩) (λq=>(.exit 0,⟨[(7,.own 15 q.length)],[(15,.arr 4 (q.map Qk))]⟩)) Z (λ⟨p,l⟩ o h=>H g [6] Z<|I h (λb h=>B h λe i h=>X h λj h=>g4_ g [.T,12,.A (Qa f),6,.o (.C4 (.sl 4 (e.map Qk))),.app ((l++e).map Qk) (l++e).length,8] Z b Z (Qfb _ _ _ _ i) ⟨Qc,Jf j Qc,XY,Jw Qc⟩<|rN_ h Z) λb h=>J g [.F,2] Z b<|rX_ h Z) λm h=>H g [9,.K [6] [15],.ren 15 600] Z<|E h Z r1_
def Kq (c:LI_)(d:LI_)(a:Int):O_ (Int⊕(Unit⊕Unit)):=bif (a<(c.length:Int))then (idx c a).bind λe=>(idx d a).bind λb=>bif (e != b)then some (.inr (.inl ()))else some (.inl (Qi (a+1)))else some (.inr (.inr ()))
def Rr : O_ Bool:=some false
def Ru : O_ Bool:=some true
def Jl (a:LI_)(b:LI_):O_ Bool:=bif ((a.length:Int) != (b.length:Int))then some false else (QD (λst=>Kq a b st) 0).bind (Sum.elim (λq=>Rr) (λq=>Ru))
def Rv (g j):CT 171 [.sl 1 (g.map Qb),.sl 1 (j.map Qb)] [] (Jl g j) V.b no_:=
 W 26 func171 Z λC c r h=>K c [9,.o (.ln g.length),1,.o (.ln j.length),3] Z Qc Qc<|I h (λe h=>J c [.T,7] Z e<|E h Z U) λe h=>K c [.F,6,.o (.ln g.length),4] Z e Qc<|lq_ h (λst=>⟨[(0,.sl 1 (g.map Qb)),(1,.sl 1 (j.map Qb)),(12,.I (g.length:Int)),(13,.I st)],[]⟩) (λq=>(.ret,⟨[(4,.b false)],[]⟩)) (λq=>(.exit 0,⟨[],[]⟩)) Z (λp o h=>H c [6] Z<|I h (λf h=>B h λm k h=>B h λl i h=>G c [.T,11,.K [0,1,5,12,13] []] Z (A f) <| 
  dr_ c [.N,.N,.B (.row (Qb m)),.N,.N,.N,.B (.row (Qb l)),.N,.N] [] [] [0,1,12,13,24] [] Z Z (a2_ (Xi k) (Xi i)) Z <|
  H c [1] Z<|I h (λd h=>J c [.T,8] Z d<|rR_ h Z) λd h=>J c [.F,7] Z d<|rN_ h Z) λf h=>J c [.F,2] Z f<|rX_ h Z) (λ_ h=>H c [2] Z<|E h Z U) (λ_ h=>H c [8] Z<|E h Z U)
def Fz (a:LI_)(b:LI_):O_ Bool:=(Jl a b).bind λc=>some c
def QbV (f a):CT 170 [.sl 1 (f.map Qb),.L 618] [(618,.var (QQ a))] (Fz f a) V.b (λ_=>[(618,.var (QQ a))]):=
 W 7 func170 Z λC g r h=>B h λi e h=>J g [9,.o (.C2 (.b i)),4] Z (Rv _ _ _ e)<|E h Z r1_
def Yo (c:QLL)(d:LI_)(a:Int):O_ (Int⊕(Int⊕Unit)):=bif (a<(c.length:Int))then (idx c a).bind λe=>(Fz e d).bind λb=>bif b then some (.inr (.inl a))else some (.inl (Qi (a+1)))else some (.inr (.inr ()))
def Mi (a:Int):O_ Int:=some a
def Mj : O_ Int:=some (-1)
def KE (a:QLL)(b:LI_):O_ Int:=(QD (λst=>Yo a b st) 0).bind (Sum.elim (λq=>Mi q) (λq=>Mj))
def Ml (g e):CT 233 [.sl 1 (g.map QQ),.clo (.func 170) [] [.L 618]] [(618,.var (QQ e))] (KE g e) V.I (λ_=>[(618,.var (QQ e))]):=
 W 19 func233 Z λC c r h=>J c [9,.o (.ln g.length),4] Z Qc<|lq_ h (λst=>⟨[(0,.sl 1 (g.map QQ)),(1,.clo (.func 170) [] [.L 618]),(7,.I (g.length:Int)),(8,.I st)],[(618,.var (QQ e))]⟩) (λq=>(.ret,⟨[(4,.I q)],[(618,.var (QQ e))]⟩)) (λq=>(.exit 0,⟨[],[(618,.var (QQ e))]⟩)) Z (λm o h=>H c [6] Z<|I h (λf h=>B h λl j h=>B h λk i h=>g3_ c [.T,15,.o (.row (QQ l)),1,.cm (.clo) [(618,618)] [(618,618)] [] [.d,.d] [(618,.var (QQ e))] (.b k),2] Z f (Xi j) (QbV _ _ _ i)<|I h (λa h=>J c [.T,9] Z a<|rR_ h Z) λa h=>J c [.F,7] Z a<|rN_ h Z) λf h=>J c [.F,2] Z f<|rX_ h Z) (λp h=>H c [2] Z<|E h Z r1_) (λ_ h=>H c [8] Z<|E h Z r1_)
def KF (a:QLL)(b:LI_):O_ Bool:=(KE a b).bind λc=>some (decide (0<=c))
def Mm (e a):CT 168 [.sl 1 (e.map QQ),.clo (.func 170) [] [.L 618]] [(618,.var (QQ a))] (KF e a) V.b (λ_=>[(618,.var (QQ a))]):=
 W 9 func168 Z λC f r h=>B h λg c h=>J f [9,.cm (.fn) [(618,618)] [(618,618)] [] [.d,.d] [(618,.var (QQ a))] (.I g),5] Z (Ml _ _ _ c)<|E h Z r1_
def DJ (a:Int)(b:Int)(c:LI_):O_ Bool:=(We a b).bind λd=>(KF d c).bind λe=>some e
def So (a c e):CT 115 [.I a,.I c,.sl 1 (e.map Qb)] [] (DJ a c e) V.b no_:=
 W 12 func115 Z λC j r h=>B h λf g h=>B h λk i h=>g3_ j [10,.o (.co false [.d,.d] 1 (f.map QQ) f.length),1,.frz 9 (f.map QQ) [9] [],.cm (.fn) [(618,5)] [(5,618)] [] [.d,.d] [(618,.var (QQ e))] (.b k),4] Z ⟨(II _ _ _ g),Qc,.inl Z⟩ (A (Js Qc)) (Mm _ _ _ i)<|E h Z U
def FA (a:(Int×Xk))(d:Qj):O_ Bool:=(DJ a.2.task.Join (a.2.task.Ins.length:Int) d.Ins).bind λb=>bif (!b)then some true else (DJ a.2.task.Split (a.2.task.Outs.length:Int) d.Outs).bind λc=>some (!c)
def FB (c:(Int×Xk))(d:Qj)(e:Bool):O_ Int:=bif e then some 11 else (XJ c.2 d.Ins).bind λa=>bif (a != 0)then some a else (Yk c.2 d.Outs).bind λb=>some b
def Ws (b:(Int×Xk))(c:Qj)(a:Int):O_ Int:=bif (a != 0)then some a else (FA b c).bind (λd=>FB b c d)
def JC (d:Qe)(e:QMk)(b:Qj):O_ Int:=(JB d e b.Task b.Vars).bind λa=>bif (a.1==0)then (XL a.2).bind λc=>Ws a b c else Ws a b a.1
def TL (w m2 m):CT 74 [.agg (Qa w),.sl 1 (m2.map Qh),.agg (Qk m)] [] (JC w m2 m) V.I no_:=
 W 62 func74 Z λC a r h=>B h λf x h=>g3_ a [9,.A (Qa w),5,.o (.C4 (.tup [.agg (QC f.2),.I f.1])),5,.O 7 (.var (QC f.2)),3] Z Z (TB _ _ _ _ _ x) Z<|mE_ (λe:Int=>⟨[lk_ 5,lk_ 7,(8,.I e)],[(5,.var (Qk m)),(7,.var (QC f.2))]⟩) (λe=>Ws f m e=some r) (H a [6] Z<|I h (λg h=>B h λy p h=>g3_ a [.T,1,.A (QC f.2),.o (.C1 (.I y)),2] Z g Z (Hn _ _ p)<|me_ h Z) λg h=>J a [.F,1] Z g<|me_ h Z) λe h=>H a [7] Z<|I h (λl h=>J a [.T,8] Z l<|E h Z U) λl h=>J a [.F,4] Z l<|mV_ h (λz=>⟨[lk_ 5,lk_ 7,(50,.b z)],[(5,.var (Qk m)),(7,.var (QC f.2))]⟩) (λz h=>B h λD q h=>K a [7,.o (.ln f.2.task.Ins.length),2,.o (.C3 (.b D)),2] Z Qc (So _ _ _ _ q)<|I h (λi h=>L a [.S 38 (.b true),13] Z i<|mq_ h Z) λi h=>B h λN s h=>G a [.S 38 (.b false),6,.o (.ln f.2.task.Outs.length),2,.o (.C3 (.b N)),3] Z ⟨⟨(tc_ i),Qc⟩,(So _ _ _ _ s)⟩<|mq_ h Z) λz h=>H a [1] Z<|I h (λj h=>J a [.T,7] Z j<|E h Z U) λj h=>B h λP t h=>g3_ a [.F,5,.A (QC f.2),2,.o (.C2 (.I P)),9] Z j Z (Lp _ _ _ t)<|I h (λk h=>J a [.T,8] Z k<|E h Z U) λk h=>B h λa0 u h=>g3_ a [.F,4,.A (QC f.2),2,.o (.C2 (.I a0)),4] Z k Z (Lj _ _ _ u)<|E h Z U
def KS (l:L_ Int):O_ LI_:=(chk (l.length<4611686018427387904)).bind λ_=>some (Km l)
def BQ (l){r}(h:KS l=some r):QU prog 44 [.own 618 l.length] [(618,.arr 1 (l.map Qb))] (Gives (.own 618 r.length) [(618,.arr 1 (r.map Qb))]):=by
 obtain⟨_,a,h⟩:=Qv h
 cases h
 exact QiO QkT l (Xs (Qf4 a))
def AS (a:Int)(b:LI_):O_ ((Int×LI_)⊕LI_):=some (.inl ((Qi (a+1)),b))
def PU (a:Xo)(c:QMk):O_ Bool:=bif (0<=a.Place)then bif (a.Place<(c.length:Int))then (idx c a.Place).bind λb=>some ((b.length:Int)==0)else some false else some false
def PV (a:LI_)(b:Xo)(c:Int)(d:Bool):O_ ((Int×LI_)⊕LI_):=bif d then (chk (a.length+([b.Place]:L_ Int).length<=4294967296)).bind λ_=>AS c (a++([b.Place]:L_ Int))else AS c a
def IQ (e:QG)(f:QMk)(a:Int)(b:LI_):O_ ((Int×LI_)⊕LI_):=bif (a<(e.Ins.length:Int))then (idx e.Ins a).bind λc=>(PU c f).bind (λd=>PV b c a d)else some (.inr b)
def IR (a:LI_):O_ LI_:=(YA a).bind λb=>(chk (b.length=a.length)).bind λ_=>(KS b).bind λc=>some c
def Ge (b:Qe)(c:QMk)(a:Int):O_ LI_:=
 bif ((a<0)||((b.Tasks.length:Int)<=a))then
 some ([]:L_ Int)
 else
 (idx b.Tasks a).bind λd=>
 (QD (λst=>IQ d c st.1 st.2) (0,([]:L_ Int))).bind (λq=>IR q)
def Qc8 (t u a):CT 281 [.agg (Qa t),.sl 1 (u.map Qh),.I a] [] (Ge t u a) (λr=>(.own 600 r.length)) (λr=>[(600,.arr 1 (r.map Qb))]):=
 W 59 func281 Z λC c r h=>H c [8] Z<|Y ⟨[(1,.sl 1 (u.map Qh)),(2,.I a),lk_ 3,(18,.b ((a<0)||((t.Tasks.length:Int)<=a)))],[(3,.var (Qa t))]⟩ (H c [4] Z<|bO_ (decide (a<0)) (λf=>G c [.S 12 (.b true),7,.S 18 (.b ((a<0)||((t.Tasks.length:Int)<=a)))] Z ⟨(tc_ f),(cb_ (Eh f Z))⟩<|M Z) λf=>G c [.S 12 (.b false),3,.o (.ln t.Tasks.length),3,.S 18 (.b ((a<0)||((t.Tasks.length:Int)<=a)))] Z ⟨⟨(tc_ f),Qc⟩,(cb_ (Ji f Z))⟩<|M Z)<|H c [1] Z<|I h (λw h=>g3_ c [.T,7,.adopt 6 600 1,.O 600 (.arr 1 (([]:L_ Int).map Qb)),.S 6 (.own 600 ([]:L_ Int).length)] Z w Z Z<|E h Z r1_) λw h=>B h λp a4 h=>G c [.F,13,.o (.row (Qg p)),2,.o (.ln p.Ins.length),4,.adopt 7 49 1,.O 49 (.arr 1 (([]:L_ Int).map Qb)),.S 7 (.own 49 ([]:L_ Int).length)] Z (a5_ w (Xi a4) Qc Z (congrArg (λn=>V.own 49 n) (by simp)))<|lp_ h (λst=>⟨[(1,.sl 1 (u.map Qh)),(7,.own 49 st.2.length),(24,.sl 4 (p.Ins.map Xf)),(25,.I (p.Ins.length:Int)),(26,.I st.1)],[(49,.arr 1 (st.2.map Qb))]⟩) (λq=>(.exit 0,⟨[(7,.own 49 q.length)],[(49,.arr 1 (q.map Qb))]⟩)) Z (λ⟨x,m⟩ o h=>H c [6] Z<|I h (λg h=>J c [.T,2] Z g<|mE_ (λi:LI_=>⟨[(1,.sl 1 (u.map Qh)),(7,.own 49 i.length),(24,.sl 4 (p.Ins.map Xf)),(25,.I (p.Ins.length:Int)),(26,.I x)],[(49,.arr 1 (i.map Qb))]⟩) (λi=>AS x i=some o) (B h λe D h=>g3_ c [3,.o (.row (Xf e)),.A (Xf e),2,.O 9 (.var (Xf e)),3] Z (Xi D) Z Z<|mV_ h (λy=>⟨[(1,.sl 1 (u.map Qh)),(7,.own 49 m.length),lk_ 9,(24,.sl 4 (p.Ins.map Xf)),(25,.I (p.Ins.length:Int)),(26,.I x),(48,.b y)],[(9,.var (Xf e)),(49,.arr 1 (m.map Qb))]⟩) (λy h=>H c [5] Z<|I h (λj h=>G c [.S 33 (.b true),3,.o (.ln u.length),3] Z ⟨(tc_ j),Qc⟩<|I h (λk h=>B h λN P h=>G c [.S 40 (.b true),3,.o (.row (Qh N)),1,.o (.ln N.length),3] Z ⟨⟨(tc_ k),(Xi P)⟩,Qc⟩<|mq_ h Z) λk h=>L c [.S 40 (.b false),9] Z k<|mq_ h Z) λj h=>L c [.S 33 (.b false),16] Z j<|mq_ h Z) λy h=>H c [1] Z<|I h (λl h=>X h λa0 h=>g3_ c [.T,4,.v (.bd []) [] (.sl 1 (([e.Place]:L_ Int).map Qb)),.app ((m++([e.Place]:L_ Int)).map Qb) (m++([e.Place]:L_ Int)).length,3] Z l Z ⟨Qc,Jf a0 Qc,XY,Jw Qc⟩<|me_ h Z) λl h=>J c [.F,2] Z l<|me_ h Z) λi h=>H c [4] Z<|rN_ h Z) λg h=>J c [.F,2] Z g<|rX_ h Z) λa5 h=>B h λz a1 h=>X h λs h=>B h λa2 a3 h=>g4_ c [5,.cm (.fn) [(618,49)] [(49,618)] [] [.d] [(618,.arr 1 (z.map Qb))] (.tup []),.S 7 (.own 49 z.length),.S 55 (.own 49 z.length),5,.cm (.fn) [(618,49)] [(49,618)] [] [.d] [(618,.arr 1 (a2.map Qb))] (.own 618 a2.length),4,.K [6] [49],.ren 49 600] Z (Dp _ a1) (by simp[Xs s]) (by simp[Xs s]) (BQ _ a3)<|E h Z r1_
def Bu (a:QMk):O_ ByteArray:=(UO a).bind λb=>some (Fw b.1)
def Nl (e):CT 301 [.sl 1 (e.map Qh)] [] (Bu e) V.s no_:=
 W 12 func301 Z λC f r h=>B h λa b h=>K f [8,.o (.C1 (.tup [.sl 1 (a.1.map YE),.I a.2])),10,.o (.any (.s (Fw a.1)) none),4] Z (Sf _ _ b) (λσ g i _=>Stp.b2s Z Z (QR f.n Z) (g _ _ Z) Z QkX QjM (Qt.sb Z))<|E h Z U
def Hu (c:Qe)(b:Qj):O_ (QMk×Int):=(Ex c b.Task b.Vars).bind λd=>bif (d.2 != 0)then some (([]:L_ QBg),d.2)else (idx c.Tasks b.Task).bind λe=>(DI c e.Ins b.Ins d.1).bind λa=>some (a.1,a.2)
def Qfc (i l):CT 75 [.agg (Qa i),.agg (Qk l)] [] (Hu i l) (λr=>(.tup [.sl 1 (r.1.map Qh),.I r.2])) no_:=
 W 34 func75 Z λC e r h=>B h λp j h=>K e [10,.A (Qa i),4,.o (.C3 (.tup [.sl 1 (p.1.map Qb),.I p.2])),14] Z Z (PA _ _ _ _ j)<|I h (λb h=>J e [.T,9,.denil 4 [some 1]] Z b<|F h Z Z U) λb h=>B h λq k h=>B h λf g h=>G e [.F,3,.K [2,3,4,5,6] [2,3]] Z (A b) <| 
  dr_ e [.E (.agg (Qa i)),.N,.N,.N,.N,.B (.row (Qg q)),.N,.N,.N,.N,.N,.B (.C4 (.tup [.sl 1 (f.1.map Qh),.I f.2])),.N,.N,.m .s,.m .s] [] [] [4,5] [] Z Z (a3_ Z (Xi k) (EZ _ _ _ _ _ g)) Z <|
  H e [2] Z<|F h Z Z U
def QaR (a:Unit):O_ (QBg×Int):=some (([]:L_ (Int×Int)),1)
def QaS (a:QBg):O_ (QBg×Int):=some (([]:L_ (Int×Int)),1)
def QaT (a:QBg):O_ (QBg×Int):=some (([]:L_ (Int×Int)),1)
noncomputable def UQ (D:QBg)(h:Int)(v19:Int):O_ (QBg⊕Empty):=some (.inl (XD KM D h (Qi (((Qq D h).getD 0)-v19))))
def LF (a:QBg):O_ (QBg×Int):=(Ga a).bind λb=>some (b,0)
noncomputable def PE (h:(QBg×QBg)):O_ (QBg×Int):=(DW h.2 h.1).bind λD=>bif (!D)then some (([]:L_ (Int×Int)),10)else (CC (λst p=>UQ st p.1 p.2) h.1 h.2).bind (Sum.elim (λq=>LF q) (λq=>Empty.elim q))
def JM (a:QBg)(b:QBg):O_ (QBg×Int):=(HU a b).bind (Sum.elim (λq=>QaR q) (Sum.elim (λq=>QaS q) (Sum.elim (λq=>QaT q) (λq=>PE q))))
def Qhm (a1 b2):CT 77 [.sl 2 (a1.map QT),.sl 2 (b2.map QT)] [] (JM a1 b2) (λr=>(.tup [.sl 2 (r.1.map QT),.I r.2])) no_:=by
 refine W 40 func77 rfl λC g r h=>?_
 obtain⟨x7,w,h⟩:=Qv h
 refine tg_ g [10] ?_
 rcases x7 with(a8 | (a9 | (P | i)))
 ·exact have h:QaR a8=some r:=h;J g [.cm (.fn) [] [] [] [.d,.d] [] (.tup [.lit (.map none),.lit (.map none),.b false]),28,.denil 4 [some 2]] Z (Jz _ _ w)<|F h Z Z U
 ·exact have h:QaS a9=some r:=h;J g [.cm (.fn) [] [(14,603)] [] [.d,.d] [(603,.map (QB V.I V.I a9))] (.tup [.lit (.map none),.map 603,.b false]),28,.denil 4 [some 2]] Z (Jz _ _ w)<|F h Z Z U
 ·exact have h:QaT P=some r:=h;J g [.cm (.fn) [] [(14,602)] [] [.d,.d] [(602,.map (QB V.I V.I P))] (.tup [.map 602,.lit (.map none),.b false]),28,.denil 4 [some 2]] Z (Jz _ _ w)<|F h Z Z U
 replace h:PE i=some r:=h
 obtain⟨a3,S,h⟩:=Qv h
 refine Qo g [.cm (.fn) [] [(14,602),(611,603)] [] [.d,.d] [(602,.map (QB V.I V.I i.1)),(603,.map (QB V.I V.I i.2))] (.tup [.map 602,.map 603,.b true]),23,.cm (.fn) [(618,611),(619,14)] [(611,618),(14,619)] [] [.d,.d] [(618,.map (QB V.I V.I i.2)),(619,.map (QB V.I V.I i.1))] (.b a3),4] Z (a2_ (Jz _ _ w) (Ll _ _ _ S)) ?_
 rcases XN h with⟨j,h⟩|⟨j,h⟩
 ·exact J g [.T,9,.denil 4 [some 2]] Z j<|F h Z Z U
 refine Qo g [.F,7] Z (A j) ?_
 refine AK.openMapK (b:=611) KN rfl λs t L14 D a4 N=>?_
 refine Qo g [.x (λσ=>(σ.set 27 (.itr s t #[] none)).put 27 (.L 27)),3,.K [6,27] [14,27,611]] Z (A (Stp.range (b:=611) Z Z (QR g.n Z) Z Z Gy Z)) ?_
 obtain⟨a5,a0,h⟩:=Qv h
 refine AK.range (body:=(λst p=>UQ st p.1 p.2)) (λst seen σ=>∃cur:O_ Nat,σ=⟨[(6,.map 14),lk_ 27],[(14,.map (QB V.I V.I st)),(27,.itr s t seen cur),(611,.mapX s t (Fb V.I V.I L14) (QB V.I V.I i.2))]⟩) (λ(q:Empty) _ _=>False) (λst e σ=>e=.exit 1/\σ=⟨[(6,.map 14)],[(14,.map (QB V.I V.I st))]⟩) D N a0 (ex_ _ rfl) ?_ ?_
 ·rintro a seen σ ⟨cur,rfl⟩ hex
  refine tg_ g [2] ?_
  refine AK.nextT (b:=27) (m:=611) rfl rfl rfl (QR g.n rfl) rfl rfl rfl rfl ?_ ?_
  ·intro hleft
   refine tg_ g [7,.K [6] [14]] ?_
   exact AK.done (Or.inl (an_ hleft (an_ (λh=>(by cases h)) (an_ Z Z))))
  intro a6 c y u
  obtain⟨o,h⟩:=hex _ u
  have ho:=h
  replace h:UQ a c y=some o:=h
  refine Qo g [10,.x (λσ=>σ.put 30 (.tup [.I c,.I y])),9,.o (.any (.I ((Qq a c).getD 0)) none),2,.x (λσ=>σ.set 14 (.map (QB V.I V.I (XD KM a c (Qi (((Qq a c).getD 0)-y)))))),2,.K [6,27] [14,27,611]] Z (a3_ (Stp.entryT (b:=27) (m:=611) (e:=V.I) (f:=V.I) Z Z (QR g.n Z) Z u Z Z) (λσ h1 h2 _=>Stp.lookup (e:=V.I) (f:=V.I) (l:=a) (k:=c) (z:=0) Z Z (QR g.n Z) (h1 _ _ Z) (h2 _ _ Z) (h1 _ _ Z) Gy KN IG Z) (Stp.mapUpdate (e:=V.I) (f:=V.I) (l:=a) (k:=c) (v:=(Qi (((Qq a c).getD 0)-y))) KM Z Z Z Z Z Z Gy KN Z)) ?_
  cases h
  exact AK.done (Or.inr (ex_ _ (an_ u (Or.inl (ex_ _ (an_ ho (an_ Z (ex_ _ Z))))))))
 rcases a5 with(a | q)
 ·replace h:LF a=some r:=h
  unfold LF at h
  rintro e σ ⟨rfl,rfl⟩
  exact B h λO a2 h=>K g [5,.cm (.fn) [(618,14)] [(39,600),(14,618)] [] [.d] [(600,.arr 2 (O.map QT)),(618,.map (QB V.I V.I a))] (.own 600 O.length),5,.frz 39 (O.map QT) [4] []] Z (Ff _ _ a2) (A (Js Qc))<|F h Z Z U
 exact q.elim
def Ub (f:QMk)(g:QMk)(c:Int)(a:QMk):O_ ((Int×QMk)⊕(Int⊕QMk)):=bif (c<((List.replicate (min2 (f.length:Int) (g.length:Int)).toNat (([]:QBg):QBg)).length:Int))then (idx f c).bind λd=>(idx g c).bind λe=>(JM d e).bind λb=>(idx a c).bind λh=>bif (b.2 != 0)then some (.inr (.inl b.2))else some (.inl ((Qi (c+1)),(a.set c.toNat b.1)))else some (.inr (.inr a))
def Qd5 (a:Int):O_ (QMk×Int):=some (([]:L_ QBg),a)
def Qd6 (a:QMk):O_ (QMk×Int):=some (a,0)
def Eb (a:QMk)(b:QMk):O_ (QMk×Int):=(chk (decide (0<=(min2 (a.length:Int) (b.length:Int)))&&decide ((min2 (a.length:Int) (b.length:Int))<=(min2 (a.length:Int) (b.length:Int)))&&decide ((min2 (a.length:Int) (b.length:Int))<=4294967296))).bind λ_=>(QD (λst=>Ub a b st.1 st.2) (0,(List.replicate (min2 (a.length:Int) (b.length:Int)).toNat (([]:QBg):QBg)))).bind (Sum.elim (λq=>Qd5 q) (λq=>Qd6 q))
def Qd7 (l p):CT 76 [.sl 1 (l.map Qh),.sl 1 (p.map Qh),.clo (.func 77) [] []] [] (Eb l p) (λr=>(.tup [.sl 1 (r.1.map Qh),.I r.2])) no_:=
 W 43 func76 Z λC e r h=>X h λy h=>g3_ e [9,.o (.ln l.length),1,.o (.ln p.length),1,.o (.rows (List.replicate (min2 (l.length:Int) (p.length:Int)).toNat [.Y]))] Z Qc Qc ⟨y,Z⟩<|AK.denilA (b:=16) [some 2] Z (Qic (f:=Qh) (x:=([]:QBg)) Z)<|J e [.S 16 (.own 16 (List.replicate (min2 (l.length:Int) (p.length:Int)).toNat (([]:QBg):QBg)).length),12] Z (by simp)<|lq_ h (λst=>⟨[(0,.sl 1 (l.map Qh)),(1,.sl 1 (p.map Qh)),(2,.clo (.func 77) [] []),(8,.own 16 st.2.length),(18,.I ((List.replicate (min2 (l.length:Int) (p.length:Int)).toNat (([]:QBg):QBg)).length:Int)),(19,.I st.1)],[(16,.arr 1 (st.2.map Qh))]⟩) (λq=>(.ret,⟨[(6,.Y),(7,.I q)],[]⟩)) (λq=>(.exit 0,⟨[(8,.own 16 q.length)],[(16,.arr 1 (q.map Qh))]⟩)) Z (λ⟨x9,t⟩ o h=>H e [6] Z<|I h (λg h=>B h λz u h=>B h λD v h=>B h λj w h=>B h λO k h=>G e [.T,16,.K [0,1,2,8,9,10,18,19] [16]] Z (A g) <| 
  dr_ e [.N,.N,.N,.N,.N,.B (.row (Qh z)),.N,.N,.N,.B (.row (Qh D)),.N,.B (.C2 (.tup [.sl 2 (j.1.map QT),.I j.2])),.a .no none true true,.N,.a .no none true,.N,.m (.st (Qh O) ((t.set x9.toNat j.1).map Qh)),.m .s] [0,1,2,8,9,10,18,19] [] [0,1,2,8,10,18,19] [16] Z Z (a5_ (Xi u) (Xi v) (Qhm _ _ _ w) (YN k Z) ⟨(XU (Jr k).2),Bf Z⟩) Z <|
  H e [7] Z<|I h (λi h=>J e [.T,10] Z i<|rR_ h Z) λi h=>K e [.F,7,.S 8 (.own 16 (t.set x9.toNat j.1).length)] Z i (congrArg (λn=>V.own 16 n) (by simp))<|rN_ h Z) λg h=>J e [.F,2] Z g<|rX_ h Z) (λa0 h=>H e [2,.denil 6 [some 1]] Z<|F h Z Z U) (λP h=>J e [10,.frz 16 (P.map Qh) [6] []] Z (A (Js Qc))<|F h Z Z U)
def AB (c:Qe)(d:QMk)(e:Qj):O_ (QMk×Int):=(JC c d e).bind λf=>bif (f != 0)then some (([]:L_ QBg),f)else (Hu c e).bind λa=>bif (a.2 != 0)then some (([]:L_ QBg),a.2)else (Eb d a.1).bind λb=>some (b.1,b.2)
def Qgk (k p l):CT 41 [.agg (Qa k),.sl 1 (p.map Qh),.agg (Qk l)] [] (AB k p l) (λr=>(.tup [.sl 1 (r.1.map Qh),.I r.2])) no_:=
 W 32 func41 Z λC e r h=>B h λq m h=>g3_ e [11,.A (Qa k),1,.A (Qk l),.o (.C3 (.I q)),9] Z Z Z (TL _ _ _ _ m)<|I h (λb h=>J e [.T,9,.denil 6 [some 1]] Z b<|F h Z Z U) λb h=>B h λf g h=>g4_ e [.F,4,.A (Qa k),.A (Qk l),.o (.C2 (.tup [.sl 1 (f.1.map Qh),.I f.2])),14] Z b Z Z (Qfc _ _ _ g)<|I h (λa h=>J e [.T,9,.denil 6 [some 1]] Z a<|F h Z Z U) λa h=>B h λi j h=>K e [.F,6,.cm (.fn) [] [] [] [.d,.d,.d] [] (.tup [.sl 1 (i.1.map Qh),.I i.2]),7] Z a (Qd7 _ _ _ j)<|F h Z Z U
def Nm (c:Qe)(b:Qj):O_ (QMk×Int):=(Ex c b.Task b.Vars).bind λd=>bif (d.2 != 0)then some (([]:L_ QBg),d.2)else (idx c.Tasks b.Task).bind λe=>(DI c e.Outs b.Outs d.1).bind λa=>some (a.1,a.2)
def Qfd (i l):CT 78 [.agg (Qa i),.agg (Qk l)] [] (Nm i l) (λr=>(.tup [.sl 1 (r.1.map Qh),.I r.2])) no_:=
 W 34 func78 Z λC e r h=>B h λp j h=>K e [10,.A (Qa i),4,.o (.C3 (.tup [.sl 1 (p.1.map Qb),.I p.2])),14] Z Z (PA _ _ _ _ j)<|I h (λb h=>J e [.T,9,.denil 4 [some 1]] Z b<|F h Z Z U) λb h=>B h λq k h=>B h λf g h=>G e [.F,3,.K [2,3,4,5,6] [2,3]] Z (A b) <| 
  dr_ e [.E (.agg (Qa i)),.N,.N,.N,.N,.B (.row (Qg q)),.N,.N,.N,.N,.N,.B (.C4 (.tup [.sl 1 (f.1.map Qh),.I f.2])),.N,.N,.m .s,.m .s] [] [] [4,5] [] Z Z (a3_ Z (Xi k) (EZ _ _ _ _ _ g)) Z <|
  H e [2] Z<|F h Z Z U
def DX (f:QMk)(g:QMk)(c:Int)(a:QMk):O_ ((Int×QMk)⊕(Int⊕QMk)):=bif (c<((List.replicate (min2 (f.length:Int) (g.length:Int)).toNat (([]:QBg):QBg)).length:Int))then (idx f c).bind λd=>(idx g c).bind λe=>(Ju d e).bind λb=>(idx a c).bind λh=>bif (b.2 != 0)then some (.inr (.inl b.2))else some (.inl ((Qi (c+1)),(a.set c.toNat b.1)))else some (.inr (.inr a))
def Qa0 (a:Int):O_ (QMk×Int):=some (([]:L_ QBg),a)
def Qa1 (a:QMk):O_ (QMk×Int):=some (a,0)
def Gf (a:QMk)(b:QMk):O_ (QMk×Int):=(chk (decide (0<=(min2 (a.length:Int) (b.length:Int)))&&decide ((min2 (a.length:Int) (b.length:Int))<=(min2 (a.length:Int) (b.length:Int)))&&decide ((min2 (a.length:Int) (b.length:Int))<=4294967296))).bind λ_=>(QD (λst=>DX a b st.1 st.2) (0,(List.replicate (min2 (a.length:Int) (b.length:Int)).toNat (([]:QBg):QBg)))).bind (Sum.elim (λq=>Qa0 q) (λq=>Qa1 q))
def Qa2 (l p):CT 76 [.sl 1 (l.map Qh),.sl 1 (p.map Qh),.clo (.func 33) [] []] [] (Gf l p) (λr=>(.tup [.sl 1 (r.1.map Qh),.I r.2])) no_:=
 W 43 func76 Z λC e r h=>X h λy h=>g3_ e [9,.o (.ln l.length),1,.o (.ln p.length),1,.o (.rows (List.replicate (min2 (l.length:Int) (p.length:Int)).toNat [.Y]))] Z Qc Qc ⟨y,Z⟩<|AK.denilA (b:=16) [some 2] Z (Qic (f:=Qh) (x:=([]:QBg)) Z)<|J e [.S 16 (.own 16 (List.replicate (min2 (l.length:Int) (p.length:Int)).toNat (([]:QBg):QBg)).length),12] Z (by simp)<|lq_ h (λst=>⟨[(0,.sl 1 (l.map Qh)),(1,.sl 1 (p.map Qh)),(2,.clo (.func 33) [] []),(8,.own 16 st.2.length),(18,.I ((List.replicate (min2 (l.length:Int) (p.length:Int)).toNat (([]:QBg):QBg)).length:Int)),(19,.I st.1)],[(16,.arr 1 (st.2.map Qh))]⟩) (λq=>(.ret,⟨[(6,.Y),(7,.I q)],[]⟩)) (λq=>(.exit 0,⟨[(8,.own 16 q.length)],[(16,.arr 1 (q.map Qh))]⟩)) Z (λ⟨x9,t⟩ o h=>H e [6] Z<|I h (λg h=>B h λz u h=>B h λD v h=>B h λj w h=>B h λO k h=>G e [.T,16,.K [0,1,2,8,9,10,18,19] [16]] Z (A g) <| 
  dr_ e [.N,.N,.N,.N,.N,.B (.row (Qh z)),.N,.N,.N,.B (.row (Qh D)),.N,.B (.C2 (.tup [.sl 2 (j.1.map QT),.I j.2])),.a .no none true true,.N,.a .no none true,.N,.m (.st (Qh O) ((t.set x9.toNat j.1).map Qh)),.m .s] [0,1,2,8,9,10,18,19] [] [0,1,2,8,10,18,19] [16] Z Z (a5_ (Xi u) (Xi v) (Sa _ _ _ w) (YN k Z) ⟨(XU (Jr k).2),Bf Z⟩) Z <|
  H e [7] Z<|I h (λi h=>J e [.T,10] Z i<|rR_ h Z) λi h=>K e [.F,7,.S 8 (.own 16 (t.set x9.toNat j.1).length)] Z i (congrArg (λn=>V.own 16 n) (by simp))<|rN_ h Z) λg h=>J e [.F,2] Z g<|rX_ h Z) (λa0 h=>H e [2,.denil 6 [some 1]] Z<|F h Z Z U) (λP h=>J e [10,.frz 16 (P.map Qh) [6] []] Z (A (Js Qc))<|F h Z Z U)
def Gg (a:Int)(b:QMk):O_ ((Int×QMk)⊕QMk):=some (.inl ((Qi (a+1)),b))
def Bv (d:QG)(b:Int)(a:QMk):O_ ((Int×QMk)⊕QMk):=bif (b<(d.Cancel.length:Int))then (idx d.Cancel b).bind λc=>bif ((0<=c)&&(c<(a.length:Int)))then (idx a c).bind λe=>Gg b (a.set c.toNat ([]:L_ (Int×Int)))else Gg b a else some (.inr a)
def Bw (c:(QMk×Int))(b:QMk):O_ (QMk×Int):=(Gf b c.1).bind λa=>some (a.1,a.2)
def AC (d:Qe)(f:QMk)(e:Qj):O_ (QMk×Int):=(Nm d e).bind λa=>bif (a.2 != 0)then some (([]:L_ QBg),a.2)else (Aw f).bind λb=>(idx d.Tasks e.Task).bind λc=>(QD (λst=>Bv c st.1 st.2) (0,b)).bind (λq=>Bw a q)
def Qgl (O m2 P):CT 42 [.agg (Qa O),.sl 1 (m2.map Qh),.agg (Qk P)] [] (AC O m2 P) (λr=>(.tup [.sl 1 (r.1.map Qh),.I r.2])) no_:=
 W 53 func42 Z λC g r h=>B h λt a0 h=>g3_ g [10,.A (Qa O),.A (Qk P),.o (.C2 (.tup [.sl 1 (t.1.map Qh),.I t.2])),14] Z Z Z (Qfd _ _ _ a0)<|I h (λp h=>J g [.T,9,.denil 6 [some 1]] Z p<|F h Z Z U) λp h=>B h λu w h=>B h λe y h=>g4_ g [.F,5,.o (.co false [.d] 1 (u.map Qh) u.length),10,.o (.row (Qg e)),2,.o (.ln e.Cancel.length),4] Z p ⟨(HW _ _ w),Qc,.inl Z⟩ (Xi y) Qc<|lp_ h (λst=>⟨[(8,.sl 1 (t.1.map Qh)),(10,.own 23 st.2.length),(30,.sl 1 (e.Cancel.map Qb)),(31,.I (e.Cancel.length:Int)),(32,.I st.1)],[(23,.arr 1 (st.2.map Qh))]⟩) (λq=>(.exit 0,⟨[(8,.sl 1 (t.1.map Qh)),(10,.own 23 q.length)],[(23,.arr 1 (q.map Qh))]⟩)) Z (λ⟨s,i⟩ o h=>H g [6] Z<|I h (λj h=>J g [.T,2] Z j<|mE_ (λk:QMk=>⟨[(8,.sl 1 (t.1.map Qh)),(10,.own 23 k.length),(30,.sl 1 (e.Cancel.map Qb)),(31,.I (e.Cancel.length:Int)),(32,.I s)],[(23,.arr 1 (k.map Qh))]⟩) (λk=>Gg s k=some o) (B h λa z h=>J g [3,.o (.row (Qb a)),5] Z (Xi z)<|Y ⟨[(8,.sl 1 (t.1.map Qh)),(10,.own 23 i.length),(12,.I a),(30,.sl 1 (e.Cancel.map Qb)),(31,.I (e.Cancel.length:Int)),(32,.I s),(43,.b ((0<=a)&&(a<(i.length:Int))))],[(23,.arr 1 (i.map Qh))]⟩ (H g [4] Z<|bO_ (decide (0<=a)) (λf=>G g [.S 38 (.b true),6,.S 43 (.b ((0<=a)&&(a<(i.length:Int))))] Z ⟨(tc_ f),(cb_ (Yx f Z))⟩<|M Z) λf=>G g [.S 38 (.b false),6,.S 43 (.b ((0<=a)&&(a<(i.length:Int))))] Z ⟨(tc_ f),(cb_ (KL f Z))⟩<|M Z)<|H g [1] Z<|I h (λl h=>B h λa1 m h=>g4_ g [.T,4,.x (λσ=>σ.set 23 (.arr 1 ((i.set a.toNat ([]:L_ (Int×Int))).map Qh))),2,.S 10 (.own 23 (i.set a.toNat ([]:L_ (Int×Int))).length)] Z l (YN m Z) (Stp.storeNil (zz:=2) (r:=Qh a1) Z Z Z Z (XU (Jr m).2) Z (Qt.sz Z) Z (Bf Z)) (congrArg (λn=>V.own 23 n) (by simp))<|me_ h Z) λl h=>J g [.F,2] Z l<|me_ h Z) λk h=>H g [4] Z<|rN_ h Z) λj h=>J g [.F,2] Z j<|rX_ h Z) λa2 h=>B h λD N h=>K g [6,.frz 23 (a2.map Qh) [10,48] [],.cm (.fn) [] [] [] [.d,.d,.d] [] (.tup [.sl 1 (D.1.map Qh),.I D.2]),7] Z (a2_ (Js Qc) (Js Qc)) (Qa2 _ _ _ N)<|F h Z Z U
def Yc (c:Qe)(e:QMk)(d:Qj):O_ (QMk×Int):=(AB c e d).bind λb=>bif (b.2 != 0)then some (([]:L_ QBg),b.2)else (AC c b.1 d).bind λa=>some (a.1,a.2)
def Sq (f k g):CT 18 [.agg (Qa f),.sl 1 (k.map Qh),.agg (Qk g)] [] (Yc f k g) (λr=>(.tup [.sl 1 (r.1.map Qh),.I r.2])) no_:=
 W 26 func18 Z λC i r h=>B h λl j h=>g3_ i [10,.A (Qa f),1,.A (Qk g),.o (.C3 (.tup [.sl 1 (l.1.map Qh),.I l.2])),14] Z Z Z (Qgk _ _ _ _ j)<|I h (λa h=>J i [.T,9,.denil 6 [some 1]] Z a<|F h Z Z U) λa h=>B h λb e h=>g4_ i [.F,4,.A (Qa f),1,.A (Qk g),.o (.C3 (.tup [.sl 1 (b.1.map Qh),.I b.2])),7] Z a Z Z (Qgl _ _ _ _ e)<|F h Z Z U
def DC (a:Int)(b:QSB)(c:(L_ QMk)):O_ ((Int×QSB×(L_ QMk))⊕((L_ QMk)⊕(QSB×(L_ QMk)))):=some (.inl ((Qi (a+1)),b,c))
def IS (a:(QMk×Int))(b:QSB):O_ Bool:=bif (a.2 != 0)then some true else (Bu a.1).bind λc=>some ((Qq b c).getD false)
def IT (d:Int)(e:QSB)(a:(L_ QMk))(b:Int)(c:(QMk×Int))(f:Bool):O_ ((Int×QSB×(L_ QMk))⊕((L_ QMk)⊕(QSB×(L_ QMk)))):=bif f then DC d e a else bif ((a.length:Int)==(min2 (max2 0 b) 4096))then some (.inr (.inl a))else (Bu c.1).bind λg=>(chk (a.length+([c.1]:L_ QMk).length<=4294967296)).bind λ_=>DC d (XD NV e g true) (a++([c.1]:L_ QMk))
def AT (f:(L_ Qj))(a:Int)(D:Int)(k:Qe)(b:Int)(c:Int)(d:QSB)(e:(L_ QMk)):O_ ((Int×QSB×(L_ QMk))⊕((L_ QMk)⊕(QSB×(L_ QMk)))):=bif (c<(f.length:Int))then (idx f c).bind λg=>bif (g.Task==a)then DC c d e else (idx e D).bind λi=>(Yc k i g).bind λh=>(IS h d).bind (λj=>IT c d e b h j)else some (.inr (.inr (d,e)))
def IU (a:(L_ QMk)):O_ ((Int×QSB×(L_ QMk))⊕((L_ QMk)⊕(L_ QMk))):=some (.inr (.inl a))
def IV (h:Int)(a:QSB)(b:(L_ QMk)):O_ ((Int×QSB×(L_ QMk))⊕((L_ QMk)⊕(L_ QMk))):=some (.inl ((Qi (h+1)),a,b))
def AU (g:Qe)(a:Int)(b:Int)(h:Int)(d:QSB)(c:(L_ QMk)):O_ ((Int×QSB×(L_ QMk))⊕((L_ QMk)⊕(L_ QMk))):=bif (h<(c.length:Int))then (idx c h).bind λe=>(HZ g e 9223372036854775807).bind λf=>(QD (λst=>AT f a h g b st.1 st.2.1 st.2.2) (0,d,c)).bind (Sum.elim (λq=>IU q) (λq=>IV h q.1 q.2))else some (.inr (.inr c))
def Qc9 (a:(L_ QMk)):O_ ((L_ QMk)×Bool):=some (a,false)
def Qda (a:(L_ QMk)):O_ ((L_ QMk)×Bool):=some (a,true)
def Ia (f:Qe)(e:QMk)(b:Int)(a:Int):O_ ((L_ QMk)×Bool):=bif ((min2 (max2 0 a) 4096)==0)then some (([]:L_ QMk),false)else (Bu e).bind λc=>(Aw e).bind λd=>(QD (λst=>AU f b a st.1 st.2.1 st.2.2) (0,(XD NV ([]:QSB) c true),([d]:L_ QMk))).bind (Sum.elim (λq=>Qc9 q) (λq=>Qda q))
def Qdb (n1 m2 g i):CT 282 [.agg (Qa n1),.sl 1 (m2.map Qh),.I g,.I i] [] (Ia n1 m2 g i) (λr=>(.tup [.sl 1 (r.1.map Qx),.b r.2])) no_:=
 W 83 func282 Z λC j r h=>H j [22] Z<|I h (λa9 h=>J j [.T,8,.denil 8 [some 1]] Z a9<|F h Z Z U) λa9 h=>B h λb0 b5 h=>B h λt b6 h=>G j [.F,5,.O 23 (.map (QB V.s V.b ([]:QSB))),1,.o (.C1 (.s b0)),.x (λσ=>σ.set 23 (.map (QB V.s V.b (XD NV ([]:QSB) b0 true)))),7,.o (.co false [.d] 1 (t.map Qh) t.length),.frz 28 (t.map Qh) [28] [],1,.O 29 (.arr 1 (([t]:L_ QMk).map Qx)),.S 29 (.own 29 ([t]:L_ QMk).length),10] Z (a8_ a9 Z (Nl _ _ b5) (Stp.insert (e:=V.s) (f:=V.b) (l:=([]:QSB)) (k:=b0) (v:=true) NV Z Z Z Z Z Z RW Qak Z) ⟨(HW _ _ b6),Qc,.inl Z⟩ (A (Js Qc)) Z Z)<|lq_ h (λst=>⟨[(2,.I g),lk_ 4,(10,.I (min2 (max2 0 i) 4096)),(11,.map 23),(12,.own 29 st.2.2.length),(13,.I st.1)],[(4,.var (Qa n1)),(23,.map (QB V.s V.b st.2.1)),(29,.arr 1 (st.2.2.map Qx))]⟩) (λq=>(.ret,⟨[(8,.own 29 q.length),(9,.b false)],[(29,.arr 1 (q.map Qx))]⟩)) (λq=>(.exit 0,⟨[(12,.own 29 q.length)],[(29,.arr 1 (q.map Qx))]⟩)) Z (λ⟨at_13,c6,c7⟩ o h=>H j [9] Z<|I h (λu h=>B h λc2 a6 h=>B h λm b7 h=>G j [.T,5,.K [2,4,10,11,12,13] [4,23,29]] Z (A u) <| 
  dr_ j [.E (.agg (Qa n1)),.N,.N,.N,.B (.row (Qx c2)),.B (.co false [.d,.d,.d] 4 (m.map Qk) m.length),.N,.N] [] [] [2,4,10,11,12,13,41,42,43] [4,23,29,41] Z Z (a4_ Z (YN a6 Z) (XU (Jr a6).2) ⟨(QaQ _ _ _ _ b7),Qc,.inl Z⟩) Z <|
  H j [2] Z<|lq_ h (λst=>⟨[(2,.I g),lk_ 4,(10,.I (min2 (max2 0 i) 4096)),(11,.map 23),(12,.own 29 st.2.2.length),(13,.I at_13),(41,.own 41 m.length),(42,.I (m.length:Int)),(43,.I st.1)],[(4,.var (Qa n1)),(23,.map (QB V.s V.b st.2.1)),(29,.arr 1 (st.2.2.map Qx)),(41,.arr 4 (m.map Qk))]⟩) (λq=>(.ret,⟨[(8,.own 29 q.length),(9,.b false)],[(29,.arr 1 (q.map Qx))]⟩)) (λq=>(.exit 2,⟨[(2,.I g),lk_ 4,(10,.I (min2 (max2 0 i) 4096)),(11,.map 23),(12,.own 29 q.2.length),(13,.I at_13)],[(4,.var (Qa n1)),(23,.map (QB V.s V.b q.1)),(29,.arr 1 (q.2.map Qx))]⟩)) Z (λ⟨b1,w,a3⟩ o h=>H j [6] Z<|I h (λy h=>J j [.T,2] Z y<|mF_ (λ(a4:QSB) (D:(L_ QMk))=>⟨[(2,.I g),lk_ 4,(10,.I (min2 (max2 0 i) 4096)),(11,.map 23),(12,.own 29 D.length),(13,.I at_13),(41,.own 41 m.length),(42,.I (m.length:Int)),(43,.I b1)],[(4,.var (Qa n1)),(23,.map (QB V.s V.b a4)),(29,.arr 1 (D.map Qx)),(41,.arr 4 (m.map Qk))]⟩) (λa4 D=>DC b1 a4 D=some o) (B h λa5 a7 h=>g4_ j [4,.v (.row (Qk a5)) [] (.agg (Qk a5)),2,.O 15 (.var (Qk a5)),11] Z (YN a7 Z) (XU (Jr a7).2) Z Z<|I h (λP h=>J j [.T,3] Z P<|mf_ h Z) λP h=>B h λc3 a8 h=>B h λp b8 h=>G j [.F,3,.K [2,4,10,11,12,13,15,41,42,43] [4,15,23,29,41]] Z (A P) <| 
  dr_ j [.E (.agg (Qa n1)),.N,.N,.N,.B (.row (Qx c3)),.E (.agg (Qk a5)),.B (.C3 (.tup [.sl 1 (p.1.map Qh),.I p.2])),.N,.N,.N,.N,.N] [] [] [2,4,10,11,12,13,16,17,41,42,43] [4,23,29,41] Z Z (a5_ Z (YN a8 Z) (XU (Jr a8).2) Z (Sq _ _ _ _ b8)) Z <|
  H j [3] Z<|mV_ h (λb2=>⟨[(2,.I g),lk_ 4,(10,.I (min2 (max2 0 i) 4096)),(11,.map 23),(12,.own 29 a3.length),(13,.I at_13),(16,.sl 1 (p.1.map Qh)),(41,.own 41 m.length),(42,.I (m.length:Int)),(43,.I b1),(68,.b b2)],[(4,.var (Qa n1)),(23,.map (QB V.s V.b w)),(29,.arr 1 (a3.map Qx)),(41,.arr 4 (m.map Qk))]⟩) (λb2 h=>H j [4] Z<|I h (λa0 h=>L j [.S 63 (.b true),6] Z a0<|mq_ h Z) λa0 h=>B h λb3 b9 h=>G j [.S 63 (.b false),2,.o (.C1 (.s b3)),.o (.any (.b ((Qq w b3).getD false)) none),2] Z ⟨⟨(tc_ a0),(Nl _ _ b9)⟩,(λσ h1 h2 _=>Stp.lookup (e:=V.s) (f:=V.b) (l:=w) (k:=b3) (z:=false) Z Z (QR j.n Z) (h1 _ _ Z) (h2 _ _ Z) (h1 _ _ Z) RW Qak Qmb Z)⟩<|mq_ h Z) λb2 h=>H j [1] Z<|I h (λa1 h=>J j [.T,3] Z a1<|mf_ h Z) λa1 h=>J j [.F,11] Z a1<|I h (λa2 h=>J j [.T,11] Z a2<|rR_ h Z) λa2 h=>B h λb4 c0 h=>X h λc1 h=>G j [.F,6,.o (.C1 (.s b4)),.x (λσ=>σ.set 23 (.map (QB V.s V.b (XD NV w b4 true)))),5,.v (.bd []) [] (.sl 1 (([p.1]:L_ QMk).map Qx)),.app ((a3++([p.1]:L_ QMk)).map Qx) (a3++([p.1]:L_ QMk)).length,3] Z (a5_ a2 (Nl _ _ c0) (Stp.mapUpdate (e:=V.s) (f:=V.b) (l:=w) (k:=b4) (v:=true) NV Z Z Z Z Z Z RW Qak Z) Z ⟨Qc,Jf c1 Qc,XY,Jw Qc⟩)<|mf_ h Z) λa4 D h=>H j [4] Z<|rN_ h Z) λy h=>J j [.F,2] Z y<|rX_ h Z) (λc8 h=>H j [3] Z<|rR_ h Z) (λ⟨c9,d0⟩ h=>H j [8] Z<|rN_ h Z)) λu h=>J j [.F,2] Z u<|rX_ h Z) (λc4 h=>J j [2,.frz 29 (c4.map Qx) [8] []] Z (A (Js Qc))<|F h Z Z U) (λc5 h=>J j [10,.frz 29 (c5.map Qx) [8] []] Z (A (Js Qc))<|F h Z Z U)
def Mn (a:Int)(b:QMk):O_ Bool:=(idx b a).bind λc=>some (decide (0<(c.length:Int)))
def Qa3 (d a):CT 284 [.I d,.L 618] [(618,.var (Qx a))] (Mn d a) V.b (λ_=>[(618,.var (Qx a))]):=
 W 10 func284 Z λC f r h=>B h λe c h=>K f [9,.o (.row (Qh e)),1,.o (.ln e.length),5] Z (Xi c) Qc<|E h Z r1_
def JN (c:LI_)(d:QMk)(a:Int):O_ (Int⊕(Int⊕Unit)):=bif (a<(c.length:Int))then (idx c a).bind λe=>(Mn e d).bind λb=>bif b then some (.inr (.inl a))else some (.inl (Qi (a+1)))else some (.inr (.inr ()))
def Uc (a:Int):O_ Int:=some a
def Mo : O_ Int:=some (-1)
def DO (a:LI_)(b:QMk):O_ Int:=(QD (λst=>JN a b st) 0).bind (Sum.elim (λq=>Uc q) (λq=>Mo))
def Mp (g e):CT 149 [.sl 1 (g.map Qb),.clo (.func 284) [] [.L 618]] [(618,.var (Qx e))] (DO g e) V.I (λ_=>[(618,.var (Qx e))]):=
 W 19 func149 Z λC c r h=>J c [9,.o (.ln g.length),4] Z Qc<|lq_ h (λst=>⟨[(0,.sl 1 (g.map Qb)),(1,.clo (.func 284) [] [.L 618]),(7,.I (g.length:Int)),(8,.I st)],[(618,.var (Qx e))]⟩) (λq=>(.ret,⟨[(4,.I q)],[(618,.var (Qx e))]⟩)) (λq=>(.exit 0,⟨[],[(618,.var (Qx e))]⟩)) Z (λm o h=>H c [6] Z<|I h (λf h=>B h λl j h=>B h λk i h=>g3_ c [.T,15,.o (.row (Qb l)),1,.cm (.clo) [(618,618)] [(618,618)] [] [.d,.d] [(618,.var (Qx e))] (.b k),2] Z f (Xi j) (Qa3 _ _ _ i)<|I h (λa h=>J c [.T,9] Z a<|rR_ h Z) λa h=>J c [.F,7] Z a<|rN_ h Z) λf h=>J c [.F,2] Z f<|rX_ h Z) (λp h=>H c [2] Z<|E h Z r1_) (λ_ h=>H c [8] Z<|E h Z r1_)
def JO (a:LI_)(b:QMk):O_ Bool:=(DO a b).bind λc=>some (decide (0<=c))
def Ib (e a):CT 283 [.sl 1 (e.map Qb),.clo (.func 284) [] [.L 618]] [(618,.var (Qx a))] (JO e a) V.b (λ_=>[(618,.var (Qx a))]):=
 W 9 func283 Z λC f r h=>B h λg c h=>J f [9,.cm (.fn) [(618,618)] [(618,618)] [] [.d,.d] [(618,.var (Qx a))] (.I g),5] Z (Mp _ _ _ c)<|E h Z r1_
def AV (e:((L_ QMk)×Bool))(a:LI_)(b:Int):O_ ((LI_×Int)⊕(Unit⊕Unit)):=bif (b<(e.1.length:Int))then (idx e.1 b).bind λc=>(JO a c).bind λd=>bif d then some (.inr (.inl ()))else some (.inl (a,(Qi (b+1))))else some (.inr (.inr ()))
def Qdc : O_ Int:=some 0
def IW (a:((L_ QMk)×Bool)):O_ Int:=bif (!a.2)then some 2 else some 1
def Ic (c:Qe)(d:QMk)(a:Int)(b:Int):O_ Int:=(Ge c d a).bind λf=>(Ia c d a b).bind λe=>(QD (λst=>AV e st.1 st.2) (f,0)).bind (Sum.elim (λq=>Qdc) (λq=>IW e))
def Qdd (t z e a):CT 230 [.agg (Qa t),.sl 1 (z.map Qh),.I e,.I a] [] (Ic t z e a) V.I no_:=
 W 38 func230 Z λC j r h=>B h λu w h=>B h λk x h=>G j [8,.A (Qa t),2,.o (.co false [.d,.d,.d] 1 (u.map Qb) u.length),5,.A (Qa t),3,.o (.C4 (.tup [.sl 1 (k.1.map Qx),.b k.2])),11,.o (.ln k.1.length),4,.frz 17 (u.map Qb) [9] []] Z (a6_ Z ⟨(Qc8 _ _ _ _ w),Qc,.inl Z⟩ Z (Qdb _ _ _ _ _ x) Qc (A (Js Qc)))<|lq_ h (λst=>⟨[(9,.sl 1 (st.1.map Qb)),(11,.b k.2),(26,.sl 1 (k.1.map Qx)),(27,.I (k.1.length:Int)),(28,.I st.2)],[]⟩) (λq=>(.ret,⟨[(8,.I 0)],[]⟩)) (λq=>(.exit 0,⟨[(11,.b k.2)],[]⟩)) Z (λ⟨m,D⟩ o h=>H j [6] Z<|I h (λf h=>B h λl p h=>B h λy s h=>g4_ j [.T,6,.o (.row (Qx l)),3,.O 13 (.var (Qx l)),6,.cm (.fn) [(618,13)] [(13,618)] [] [.d,.d] [(618,.var (Qx l))] (.b y),2] Z f (Xi p) Z (Ib _ _ _ s)<|I h (λg h=>J j [.T,8] Z g<|rR_ h Z) λg h=>J j [.F,7] Z g<|rN_ h Z) λf h=>J j [.F,2] Z f<|rX_ h Z) (λ_ h=>H j [2] Z<|E h Z U) (λ_ h=>H j [9] Z<|I h (λi h=>J j [.T,7] Z i<|E h Z U) λi h=>J j [.F,8] Z i<|E h Z U)
def Ie (b:Qe)(e:QMk)(c:Qj)(a:Int):O_ Int:=(JC b e c).bind λf=>bif (f != 0)then some 0 else (idx b.Tasks c.Task).bind λg=>bif (g.Join != 3)then some 1 else (Ic b e c.Task a).bind λd=>some d
def Qde (i p j a):CT 162 [.agg (Qa i),.sl 1 (p.map Qh),.agg (Qk j),.I a] [] (Ie i p j a) V.I no_:=
 W 30 func162 Z λC f r h=>B h λq k h=>g3_ f [11,.A (Qa i),1,.A (Qk j),.o (.C3 (.I q)),4] Z Z Z (TL _ _ _ _ k)<|I h (λe h=>J f [.T,8] Z e<|E h Z U) λe h=>B h λs l h=>K f [.F,6,.o (.row (Qg s)),6] Z e (Xi l)<|I h (λb h=>J f [.T,8] Z b<|E h Z U) λb h=>B h λm g h=>g3_ f [.F,5,.A (Qa i),4,.o (.C4 (.I m)),4] Z b Z (Qdd _ _ _ _ _ g)<|E h Z U
def WP (b:Int)(a:Bool)(c:(L_ Qj))(d:QBg):O_ ((Bool×Int×(L_ Qj)×QBg)⊕(Bool×(L_ Qj))):=some (.inl (a,(Qi (b+1)),c,d))
def KT (c:Qj)(d:(L_ Qj))(e:Int)(a:Bool)(b:QBg):O_ ((Bool×Int×(L_ Qj)×QBg)⊕(Bool×(L_ Qj))):=bif (((Qq b c.Task).getD 0)==1)then (chk (d.length+([c]:L_ Qj).length<=4294967296)).bind λ_=>WP e a (d++([c]:L_ Qj)) b else bif (((Qq b c.Task).getD 0)==2)then WP e false d b else WP e a d b
def WQ (h:(L_ Qj))(i:Qe)(j:QMk)(b:Int)(a:Bool)(d:Int)(e:(L_ Qj))(f:QBg):O_ ((Bool×Int×(L_ Qj)×QBg)⊕(Bool×(L_ Qj))):=bif (d<(h.length:Int))then (idx h d).bind λc=>bif (!(Qq f c.Task).isSome)then (Ie i j c b).bind λg=>KT c e d a (XD KM f c.Task g)else KT c e d a f else some (.inr (a,e))
def Mq (a:Bool)(b:(L_ Qj)):O_ ((L_ Qj)×Bool):=some (b,a)
def DK (c:Qe)(d:QMk)(a:Int)(b:Int):O_ ((L_ Qj)×Bool):=(HZ c d b).bind λe=>(QD (λst=>WQ e c d a st.1 st.2.1 st.2.2.1 st.2.2.2) (true,0,([]:L_ Qj),([]:QBg))).bind (λq=>Mq q.1 q.2)
def Qd8 (n1 m2 g u):CT 105 [.agg (Qa n1),.sl 1 (m2.map Qh),.I g,.I u] [] (DK n1 m2 g u) (λr=>(.tup [.sl 4 (r.1.map Qk),.b r.2])) no_:=by
 refine W 59 func105 rfl λC p r h=>?_
 obtain⟨t,b2,h⟩:=Qv h
 refine Qo p [20,.O 17 (.map (QB V.I V.I ([]:QBg))),6,.A (Qa n1),2,.o (.co false [.d,.d,.d] 4 (t.map Qk) t.length),5,.adopt 10 50 4,.O 50 (.arr 4 (([]:L_ Qj).map Qk)),.S 10 (.own 50 ([]:L_ Qj).length),.K [1,2,4,10,11,12,21,22,23] [4,17,21,50]] Z (a5_ Z Z ⟨(QaQ _ _ _ _ b2),Qc,.inl Z⟩ Z (congrArg (λn=>V.own 50 n) (by simp))) ?_
 obtain⟨b3,a8,h⟩:=Qv h
 refine AK.loop (body:=(λst=>WQ t n1 m2 g st.1 st.2.1 st.2.2.1 st.2.2.2)) (λst σ=>σ=⟨[(1,.sl 1 (m2.map Qh)),(2,.I g),lk_ 4,(10,.own 50 st.2.2.1.length),(11,.b st.1),(12,.map 17),(21,.own 21 t.length),(22,.I (t.length:Int)),(23,.I st.2.1)],[(4,.var (Qa n1)),(17,.map (QB V.I V.I st.2.2.2)),(21,.arr 4 (t.map Qk)),(50,.arr 4 (st.2.2.1.map Qk))]⟩) (λq e σ=>e=.exit 0/\σ=⟨[(10,.own 50 q.2.length),(11,.b q.1)],[(50,.arr 4 (q.2.map Qk))]⟩) a8 rfl ?_ ?_
 ·rintro ⟨s,a3,w,x⟩ o σ rfl h
  refine tg_ p [6] ?_
  refine bq_ p h [.T,2] rfl (λy h=>?_) [.F,2,.K [10,11] [50]] rfl λy h=>?_
  ·refine AK.meet (λσ=>∃j:Bool,∃a4:(L_ Qj),∃a6:QBg,σ=⟨[(1,.sl 1 (m2.map Qh)),(2,.I g),lk_ 4,(10,.own 50 a4.length),(11,.b j),(12,.map 17),(21,.own 21 t.length),(22,.I (t.length:Int)),(23,.I a3)],[(4,.var (Qa n1)),(17,.map (QB V.I V.I a6)),(21,.arr 4 (t.map Qk)),(50,.arr 4 (a4.map Qk))]⟩/\WP a3 j a4 a6=some o) ?_ ?_
   ·obtain⟨i,a5,h⟩:=Qv h
    refine Qo p [4,.v (.row (Qk i)) [] (.agg (Qk i)),2,.O 14 (.var (Qk i)),2] Z (a4_ (YN a5 Z) (XU (Jr a5).2) Z Z) ?_
    refine AK.meet (λσ=>∃D:QBg,σ=⟨[(1,.sl 1 (m2.map Qh)),(2,.I g),lk_ 4,(10,.own 50 w.length),(11,.b s),(12,.map 17),lk_ 14,(21,.own 21 t.length),(22,.I (t.length:Int)),(23,.I a3)],[(4,.var (Qa n1)),(14,.var (Qk i)),(17,.map (QB V.I V.I D)),(21,.arr 4 (t.map Qk)),(50,.arr 4 (w.map Qk))]⟩/\KT i w a3 s D=some o) ?_ ?_
    ·refine Qo p [5,.o (.any (.tup [.I ((Qq x i.Task).getD 0),.b (Qq x i.Task).isSome]) none),13] Z (A (λσ h1 h2 _=>Stp.lookupOk (e:=V.I) (f:=V.I) (l:=x) (k:=i.Task) (z:=0) Z Z (QR p.n Z) (h1 _ _ Z) (h2 _ _ Z) (h1 _ _ Z) Hh KN IG Z Z)) ?_
     rcases XN h with⟨P,h⟩|⟨P,h⟩
     ·obtain⟨a7,a9,h⟩:=Qv h
      refine Qo p [.T,.K [1,2,4,10,11,12,14,21,22,23] [4,14,17,21,50]] Z (A P) ?_
      refine AK.draw2 Qt p mixed [.N,.N,.N,.E (.agg (Qa n1)),.N,.E (.agg (Qk i)),.N,.B (.C4 (.I a7)),.m (.any ⟨[],[(17,.map (QB V.I V.I (XD KM x i.Task a7)))],none⟩)] [] [] [1,2,4,10,11,12,14,21,22,23] [4,14,17,21,50] rfl rfl rfl ⟨⟨⟨⟨U,rfl⟩,rfl⟩,(Qde _ _ _ _ _ a9)⟩,(λσ h1 h2=>Stp.mapUpdate (e:=V.I) (f:=V.I) (l:=x) (k:=i.Task) (v:=a7) KM rfl rfl (h1 _ _ rfl) (h2 _ _ rfl) (h1 _ _ rfl) (h1 _ _ rfl) Hh KN rfl)⟩ rfl (by kernel_rfl) rfl rfl rfl ?_
      refine tg_ p [.K [1,2,4,10,11,12,14,21,22,23] [4,14,17,21,50]] ?_
      exact AK.met (ex_ _ (an_ Z h))
     refine Qo p [.F,1,.K [1,2,4,10,11,12,14,21,22,23] [4,14,17,21,50]] Z (A P) ?_
     exact AK.met (ex_ _ (an_ Z h))
    rintro σ ⟨D,rfl,h⟩
    refine Qo p [5,.o (.any (.I ((Qq D i.Task).getD 0)) none),9] Z (A (λσ h1 h2 _=>Stp.lookup (e:=V.I) (f:=V.I) (l:=D) (k:=i.Task) (z:=0) Z Z (QR p.n Z) (h1 _ _ Z) (h2 _ _ Z) (h1 _ _ Z) Hh KN IG Z)) ?_
    rcases XN h with⟨a0,h⟩|⟨a0,h⟩
    ·obtain⟨b0,h⟩:=RX h
     refine Qo p [.T,2,.A (Qk i),.v (.bd []) [] (.sl 4 (([i]:L_ Qj).map Qk)),.app ((w++([i]:L_ Qj)).map Qk) (w++([i]:L_ Qj)).length,4,.K [1,2,4,10,11,12,21,22,23] [4,17,21,50]] Z (a4_ a0 Z Z ⟨Qc,Jf b0 Qc,XY,Jw Qc⟩) ?_
     exact AK.met (ex_ _ (ex_ _ (ex_ _ (an_ Z h))))
    refine Qo p [.F,6] Z (A a0) ?_
    refine bq_ p h [.T,5,.K [1,2,4,10,11,12,21,22,23] [4,17,21,50]] rfl (λa1 h=>?_) [.F,3,.K [1,2,4,10,11,12,21,22,23] [4,17,21,50]] rfl λa1 h=>?_
    ·exact AK.met (ex_ _ (ex_ _ (ex_ _ (an_ Z h))))
    exact AK.met (ex_ _ (ex_ _ (ex_ _ (an_ Z h))))
   rintro σ ⟨j,a4,a6,rfl,h⟩
   refine tg_ p [4,.K [1,2,4,10,11,12,21,22,23] [4,17,21,50]] ?_
   cases h
   exact Vp Z Z
  cases h
  exact ZX Z (an_ Z Z)
 obtain⟨a2,b1⟩:=b3
 replace h:Mq a2 b1=some r:=h
 unfold Mq at h
 rintro e σ ⟨rfl,rfl⟩
 exact J p [11,.frz 50 (b1.map Qk) [8] []] Z (A (Js Qc))<|F h Z Z U

end Go.Proofs
