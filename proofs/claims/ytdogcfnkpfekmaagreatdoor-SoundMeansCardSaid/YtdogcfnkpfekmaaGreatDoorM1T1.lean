/- Walks through the program. -/
import Derived.Test.YtdogcfnkpfekmaaGreatDoorM1V3
import Derived.Test.YtdogcfnkpfekmaaGreatDoorM1V3
import Derived.Test.YtdogcfnkpfekmaaGreatDoorProg
set_option linter.all false
set_option maxRecDepth 100000
set_option maxHeartbeats 4000000
noncomputable section
namespace Go.Proofs
open Go Go.RowKit Go.Vm Go.Proofs.Tryz
structure QL where
 Name:ByteArray
 Kind:Int
 Lo:Int
 Hi:Int
 Names:(List ByteArray)
 First:Int
 Then:Int
structure QP where
 Name:ByteArray
 Colour:Int
 First:(List (Int×Int))
structure YO where
 Name:ByteArray
 Colour:Int
structure Ql where
 Kind:Int
 Num:Int
 Kids:(List Ql)
structure Xs where
 Place:Int
 Expr:Ql
structure QH where
 Name:ByteArray
 Vars:(List YO)
 Guard:Ql
 Join:Int
 Split:Int
 Ins:(List Xs)
 Outs:(List Xs)
 Cancel:(List Int)
 After:Int
 Many:(Int×Int×Int)
structure Qf where
 Colours:(List QL)
 Places:(List QP)
 Tasks:(List QH)
 From:Int
 To:Int
structure Qk where
 Task:Int
 Vars:(List Int)
 Ins:(List Int)
 Outs:(List Int)
structure Xp where
 Told:Int
 Clause:Int
 Task:Int
 Trace:(List Qk)
structure QW where
 From:Int
 To:Int
 Mode:Qk
structure QD where
 States:(List (List (List (Int×Int))))
 Edges:(List QW)
 Full:Bool
structure Xo where
 net:Qf
 m:(List (List (Int×Int)))
 task:QH
 env:(List Int)
structure YP where
 all:(List QL)
 sizes:(List Int)
 k:Int
structure QV where
 net:Qf
 space:QD
structure QA where
 state:Int
 far:Int
structure GY where
 Kind:Int
 At:Int
def DW (x:ByteArray):L_ V:=[.s x]
def Qb (x:Int):L_ V:=[.i .i64 x]
def QlO (l:L_ Int):∀r∈l.map Qb,∀v∈r,v.sca=true:=Qn7 (λ_=>rfl) l
def QlP (x:(L_ ByteArray)):L_ V:=[.sl 1 (x.map DW)]
def Qr (x:QL):L_ V:=[.s x.Name,.i .i64 x.Kind,.i .i64 x.Lo,.i .i64 x.Hi,.sl 1 (x.Names.map DW),.i .i64 x.First,.i .i64 x.Then]
def Qcz (x:(L_ QL)):L_ V:=[.sl 7 (x.map Qr)]
def QQ (x:(Int×Int)):L_ V:=[.i .i64 x.1,.i .i64 x.2]
def Qe (x:(L_ (Int×Int))):L_ V:=[.sl 2 (x.map QQ)]
def Qq (x:QP):L_ V:=[.s x.Name,.i .i64 x.Colour,.sl 2 (x.First.map QQ)]
def Qex (x:(L_ QP)):L_ V:=[.sl 3 (x.map Qq)]
def Xi (x:YO):L_ V:=[.s x.Name,.i .i64 x.Colour]
def Ki (x:(L_ YO)):L_ V:=[.sl 2 (x.map Xi)]
mutual
def Qbd : Ql->L_ V
 | ⟨h,D,x2⟩=>[.i .i64 h,.i .i64 D,.sl 3 (Yn x2)]
def Yn : L_ Ql->L_ (L_ V)
 | []=>[]
 | e::es=>Qbd e::Yn es
end
def Qu (x:Ql):L_ V:=[.i .i64 x.Kind,.i .i64 x.Num,.sl 3 (Yn x.Kids)]
def Qib : ∀x:Ql,Qbd x=Qu x
 | ⟨h,D,x2⟩=>by rw[Qbd];rfl
def IE : ∀l:L_ Ql,Yn l=l.map Qu
 | []=>by rw[Yn];rfl
 | e::es=>by rw[Yn,IE es,Qib];rfl
def IF (l:L_ Ql):(Yn l).length=l.length:=by rw[IE,Gs]
def Gx {l:L_ Ql}{j:Int}{x:Ql}(h:idx l j=some x):0<=j/\(Yn l)[j.toNat]? = some (Qu x):=by rw[IE];exact Xd h
def Xj (x:Xs):L_ V:=[.i .i64 x.Place,.i .i64 x.Expr.Kind,.i .i64 x.Expr.Num,.sl 3 (Yn x.Expr.Kids)]
def QlQ (x:(L_ Xs)):L_ V:=[.sl 4 (x.map Xj)]
def QN (x:(L_ Int)):L_ V:=[.sl 1 (x.map Qb)]
def Qg9 (x:(Int×Int×Int)):L_ V:=[.i .i64 x.1,.i .i64 x.2.1,.i .i64 x.2.2]
def Qh (x:QH):L_ V:=[.s x.Name,.sl 2 (x.Vars.map Xi),.i .i64 x.Guard.Kind,.i .i64 x.Guard.Num,.sl 3 (Yn x.Guard.Kids),.i .i64 x.Join,.i .i64 x.Split,.sl 4 (x.Ins.map Xj),.sl 4 (x.Outs.map Xj),.sl 1 (x.Cancel.map Qb),.i .i64 x.After,.i .i64 x.Many.1,.i .i64 x.Many.2.1,.i .i64 x.Many.2.2]
def QkL (x:(L_ QH)):L_ V:=[.sl 14 (x.map Qh)]
def Qa (x:Qf):L_ V:=[.sl 7 (x.Colours.map Qr),.sl 3 (x.Places.map Qq),.sl 14 (x.Tasks.map Qh),.i .i64 x.From,.i .i64 x.To]
def Qj (x:Qk):L_ V:=[.i .i64 x.Task,.sl 1 (x.Vars.map Qb),.sl 1 (x.Ins.map Qb),.sl 1 (x.Outs.map Qb)]
def QkM (x:(L_ Qk)):L_ V:=[.sl 4 (x.map Qj)]
def QG (x:Xp):L_ V:=[.i .i64 x.Told,.i .i64 x.Clause,.i .i64 x.Task,.sl 4 (x.Trace.map Qj)]
def Qt (x:(L_ (L_ (Int×Int)))):L_ V:=[.sl 1 (x.map Qe)]
def QR (x:QW):L_ V:=[.i .i64 x.From,.i .i64 x.To,.i .i64 x.Mode.Task,.sl 1 (x.Mode.Vars.map Qb),.sl 1 (x.Mode.Ins.map Qb),.sl 1 (x.Mode.Outs.map Qb)]
def Qo (x:QD):L_ V:=[.sl 1 (x.States.map Qt),.sl 6 (x.Edges.map QR),.b x.Full]
def YL (x:Int):L_ V:=[.i .u8 x]
def Xt (x:(L_ (L_ Int))):L_ V:=[.sl 1 (x.map QN)]
def QF (x:Xo):L_ V:=[.sl 7 (x.net.Colours.map Qr),.sl 3 (x.net.Places.map Qq),.sl 14 (x.net.Tasks.map Qh),.i .i64 x.net.From,.i .i64 x.net.To,.sl 1 (x.m.map Qe),.s x.task.Name,.sl 2 (x.task.Vars.map Xi),.i .i64 x.task.Guard.Kind,.i .i64 x.task.Guard.Num,.sl 3 (Yn x.task.Guard.Kids),.i .i64 x.task.Join,.i .i64 x.task.Split,.sl 4 (x.task.Ins.map Xj),.sl 4 (x.task.Outs.map Xj),.sl 1 (x.task.Cancel.map Qb),.i .i64 x.task.After,.i .i64 x.task.Many.1,.i .i64 x.task.Many.2.1,.i .i64 x.task.Many.2.2,.sl 1 (x.env.map Qb)]
def XA (x:YP):L_ V:=[.sl 7 (x.all.map Qr),.sl 1 (x.sizes.map Qb),.i .i64 x.k]
def Xf (x:QV):L_ V:=[.sl 7 (x.net.Colours.map Qr),.sl 3 (x.net.Places.map Qq),.sl 14 (x.net.Tasks.map Qh),.i .i64 x.net.From,.i .i64 x.net.To,.sl 1 (x.space.States.map Qt),.sl 6 (x.space.Edges.map QR),.b x.space.Full]
def Qn (x:QA):L_ V:=[.i .i64 x.state,.i .i64 x.far]
def WX (x:GY):L_ V:=[.i .i64 x.Kind,.i .i64 x.At]
def Ye (fn:Nat):Bl:=QoL Tryz.f229 0 fn
def Ui (fn:Nat):Bl:=QoL Tryz.f231 0 fn
def Qm4 : Go.Shelf.Ren:=⟨λ| 20=>44 | n=>n,λ| 0=>0 | 3=>3 | 4=>4 | 22=>37 | n=>n,λn=>n⟩
def QlR : Lays2.n20 prog Qm4 where
 mixed:=by kernel_rfl
 f20:=func44.trans (congrArg some (by kernel_rfl))
 t0:=underlying0
 a0:=isAgg0
 z0:=sizeOf0
 v0:=zeroValue0
 t3:=underlying3
 a3:=isAgg3
 z3:=sizeOf3
 v3:=zeroValue3
 t4:=underlying4
 a4:=isAgg4
 z4:=sizeOf4
 v4:=zeroValue4
 t22:=underlying37
 a22:=isAgg37
 z22:=sizeOf37
 v22:=zeroValue37
 i3:=by kernel_rfl
def Qpu (a0 h D b1:Int):EqT prog 74 [.int .i64 a0,.int .i64 h] [.int .i64 D,.int .i64 b1] ((a0==D)&&(h==b1)):=by
 refine⟨by kernel_rfl,λw=>?_⟩
 have u3:=underlying3
 have g3:=isAgg3
 have z3:=sizeOf3
 show(Op.equalIn (9999+1) 74 (.agg #[.int .i64 a0,.int .i64 h]) (.agg #[.int .i64 D,.int .i64 b1])).run prog w=_
 rw[Op.equalIn]
 simp only[Xk,run_underlying underlying74,Xv]
 simp only[Std.Legacy.Range.forIn_eq_forIn_range',Std.Legacy.Range.size,Nat.sub_zero,Nat.add_sub_cancel,Nat.div_one,List.range'_succ,List.range'_zero,List.forIn_cons,List.forIn_nil]
 go_simp
 by_cases h0:a0=D<;>by_cases h1:h=b1<;>simp[h0,h1]
def Qpv (a0 h D b0 b1 b2:Int):EqT prog 95 [.int .i64 a0,.int .i64 h,.int .i64 D] [.int .i64 b0,.int .i64 b1,.int .i64 b2] ((a0==b0)&&((h==b1)&&(D==b2))):=by
 refine⟨by kernel_rfl,λw=>?_⟩
 have u3:=underlying3
 have g3:=isAgg3
 have z3:=sizeOf3
 show(Op.equalIn (9999+1) 95 (.agg #[.int .i64 a0,.int .i64 h,.int .i64 D]) (.agg #[.int .i64 b0,.int .i64 b1,.int .i64 b2])).run prog w=_
 rw[Op.equalIn]
 simp only[Xk,run_underlying underlying95,Xv]
 simp only[Std.Legacy.Range.forIn_eq_forIn_range',Std.Legacy.Range.size,Nat.sub_zero,Nat.add_sub_cancel,Nat.div_one,List.range'_succ,List.range'_zero,List.forIn_cons,List.forIn_nil]
 go_simp
 by_cases h0:a0=b0<;>by_cases h1:h=b1<;>by_cases h2:D=b2<;>simp[h0,h1,h2]
def Qoa : Qcy prog 90 1=some (1,false,1):=by kernel_rfl
def Qob : Qcy prog 90 2=some (2,false,1):=by kernel_rfl
def Qm5 : Go.Shelf.Ren:=⟨λ| 157=>308 | 199=>321 | 229=>320 | 261=>334 | 311=>337 | 312=>338 | n=>n,λ| 0=>0 | 3=>3 | 4=>4 | 5=>5 | 9=>9 | 21=>21 | 31=>88 | 40=>310 | 46=>136 | 49=>329 | 51=>182 | 119=>308 | 141=>321 | 152=>317 | 154=>319 | 193=>325 | 194=>326 | 196=>328 | 198=>331 | 201=>334 | 226=>336 | 227=>337 | n=>n,λ| 0=>0 | 6=>1 | n=>n⟩
def QlS : Lays.n157 prog Qm5 where
 mixed:=by kernel_rfl
 f157:=func308.trans (congrArg some (by kernel_rfl))
 f199:=func321.trans (congrArg some (by kernel_rfl))
 f229:=func320.trans (congrArg some (by kernel_rfl))
 f261:=func334.trans (congrArg some (by kernel_rfl))
 f311:=func337.trans (congrArg some (by kernel_rfl))
 f312:=func338.trans (congrArg some (by kernel_rfl))
 t0:=underlying0
 a0:=isAgg0
 z0:=sizeOf0
 v0:=zeroValue0
 t3:=underlying3
 a3:=isAgg3
 z3:=sizeOf3
 v3:=zeroValue3
 t4:=underlying4
 a4:=isAgg4
 z4:=sizeOf4
 v4:=zeroValue4
 t5:=underlying5
 a5:=isAgg5
 z5:=sizeOf5
 v5:=zeroValue5
 t9:=underlying9
 a9:=isAgg9
 z9:=sizeOf9
 v9:=zeroValue9
 t21:=underlying21
 a21:=isAgg21
 z21:=sizeOf21
 v21:=zeroValue21
 t31:=underlying88
 a31:=isAgg88
 z31:=sizeOf88
 v31:=zeroValue88
 t40:=underlying310
 a40:=isAgg310
 z40:=sizeOf310
 v40:=zeroValue310
 t46:=underlying136
 a46:=isAgg136
 z46:=sizeOf136
 v46:=zeroValue136
 t49:=underlying329
 a49:=isAgg329
 z49:=sizeOf329
 v49:=zeroValue329
 t51:=underlying182
 a51:=isAgg182
 z51:=sizeOf182
 v51:=zeroValue182
 t119:=underlying308
 a119:=isAgg308
 z119:=sizeOf308
 t141:=underlying321
 a141:=isAgg321
 z141:=sizeOf321
 v141:=zeroValue321
 t152:=underlying317
 a152:=isAgg317
 z152:=sizeOf317
 v152:=zeroValue317
 t154:=underlying319
 a154:=isAgg319
 z154:=sizeOf319
 v154:=zeroValue319
 t193:=underlying325
 a193:=isAgg325
 z193:=sizeOf325
 v193:=zeroValue325
 t194:=underlying326
 a194:=isAgg326
 z194:=sizeOf326
 v194:=zeroValue326
 t196:=underlying328
 a196:=isAgg328
 z196:=sizeOf328
 v196:=zeroValue328
 t198:=underlying331
 a198:=isAgg331
 z198:=sizeOf331
 v198:=zeroValue331
 t201:=underlying334
 a201:=isAgg334
 z201:=sizeOf334
 v201:=zeroValue334
 t226:=underlying336
 a226:=isAgg336
 z226:=sizeOf336
 v226:=zeroValue336
 t227:=underlying337
 a227:=isAgg337
 z227:=sizeOf337
 v227:=zeroValue337
 g0:=by kernel_rfl
 g6:=by kernel_rfl
def QcA : Qcx prog 184 .u64=true:=by kernel_rfl
def QeJ : Qcx prog 3 .i64=true:=by kernel_rfl
def QkN : Qcx prog 5 .u8=true:=by kernel_rfl
def KN : WK prog 3 (V.i .i64) (Value.int .i64):=WK.int (by kernel_rfl)
def Qbe : WK prog 9 V.s Value.string:=WK.str (by kernel_rfl)
def QkO : (UC prog 158 "Pop" = some (358,true)∧QeF prog 158=true)∨(UC prog 158 "Pop" = some (358,false)∧ST prog 158=true):=.inl ⟨by kernel_rfl,by kernel_rfl⟩
def QjS : (UC prog 158 "Push" = some (359,true)∧QeF prog 158=true)∨(UC prog 158 "Push" = some (359,false)∧ST prog 158=true):=.inl ⟨by kernel_rfl,by kernel_rfl⟩
def mixed : prog.follows .mixedOrders=true:=by kernel_rfl
def QlT : FK prog 113=some (9,3):=by kernel_rfl
def HS : FK prog 117=some (3,3):=by kernel_rfl
def GM : FK prog 118=some (3,3):=by kernel_rfl
def ZX : FK prog 154=some (3,37):=by kernel_rfl
def Ta : FK prog 295=some (9,4):=by kernel_rfl
def QfV : UC prog 158 "Len" = some (111,false)∧VB prog 158 156=true∧EA prog 156=some false:=⟨by kernel_rfl,by kernel_rfl,by kernel_rfl⟩
def Zw : UC prog 158 "Less" = some (356,false)∧VB prog 158 156=true∧EA prog 156=some false:=⟨by kernel_rfl,by kernel_rfl,by kernel_rfl⟩
def Zx : UC prog 158 "Swap" = some (357,false)∧VB prog 158 156=true∧EA prog 156=some false:=⟨by kernel_rfl,by kernel_rfl,by kernel_rfl⟩
def QnV : Qg2 prog 37=true:=by kernel_rfl
def Qm6 : Go.Shelf.Ren:=⟨λ| 125=>80 | 128=>130 | 129=>131 | 189=>43 | 215=>181 | 216=>127 | 257=>79 | 294=>121 | 295=>122 | 296=>123 | 297=>124 | 298=>125 | 299=>126 | 300=>128 | 301=>129 | 328=>176 | 329=>177 | 330=>178 | 331=>179 | 332=>180 | 343=>237 | n=>n,λ| 0=>0 | 3=>3 | 4=>4 | 5=>5 | 9=>9 | 28=>37 | 46=>136 | 51=>182 | 53=>184 | 131=>147 | 182=>174 | 183=>175 | 218=>222 | 222=>226 | 228=>263 | 229=>264 | n=>n,λn=>n⟩
def QlU : Lays.n189 prog Qm6 where
 mixed:=by kernel_rfl
 f125:=func80.trans (congrArg some (by kernel_rfl))
 f128:=func130.trans (congrArg some (by kernel_rfl))
 f129:=func131.trans (congrArg some (by kernel_rfl))
 f189:=func43.trans (congrArg some (by kernel_rfl))
 f215:=func181.trans (congrArg some (by kernel_rfl))
 f216:=func127.trans (congrArg some (by kernel_rfl))
 f257:=func79.trans (congrArg some (by kernel_rfl))
 f294:=func121.trans (congrArg some (by kernel_rfl))
 f295:=func122.trans (congrArg some (by kernel_rfl))
 f296:=func123.trans (congrArg some (by kernel_rfl))
 f297:=func124.trans (congrArg some (by kernel_rfl))
 f298:=func125.trans (congrArg some (by kernel_rfl))
 f299:=func126.trans (congrArg some (by kernel_rfl))
 f300:=func128.trans (congrArg some (by kernel_rfl))
 f301:=func129.trans (congrArg some (by kernel_rfl))
 f328:=func176.trans (congrArg some (by kernel_rfl))
 f329:=func177.trans (congrArg some (by kernel_rfl))
 f330:=func178.trans (congrArg some (by kernel_rfl))
 f331:=func179.trans (congrArg some (by kernel_rfl))
 f332:=func180.trans (congrArg some (by kernel_rfl))
 f343:=func237.trans (congrArg some (by kernel_rfl))
 t0:=underlying0
 a0:=isAgg0
 z0:=sizeOf0
 v0:=zeroValue0
 t3:=underlying3
 a3:=isAgg3
 z3:=sizeOf3
 v3:=zeroValue3
 t4:=underlying4
 a4:=isAgg4
 z4:=sizeOf4
 v4:=zeroValue4
 t5:=underlying5
 a5:=isAgg5
 z5:=sizeOf5
 v5:=zeroValue5
 t9:=underlying9
 a9:=isAgg9
 z9:=sizeOf9
 v9:=zeroValue9
 t28:=underlying37
 a28:=isAgg37
 z28:=sizeOf37
 v28:=zeroValue37
 t46:=underlying136
 a46:=isAgg136
 z46:=sizeOf136
 v46:=zeroValue136
 t51:=underlying182
 a51:=isAgg182
 z51:=sizeOf182
 v51:=zeroValue182
 t53:=underlying184
 a53:=isAgg184
 z53:=sizeOf184
 v53:=zeroValue184
 t131:=underlying147
 a131:=isAgg147
 z131:=sizeOf147
 v131:=zeroValue147
 t182:=underlying174
 a182:=isAgg174
 z182:=sizeOf174
 v182:=zeroValue174
 t183:=underlying175
 a183:=isAgg175
 z183:=sizeOf175
 v183:=zeroValue175
 t218:=underlying222
 a218:=isAgg222
 z218:=sizeOf222
 v218:=zeroValue222
 t222:=underlying226
 a222:=isAgg226
 z222:=sizeOf226
 v222:=zeroValue226
 t228:=underlying263
 a228:=isAgg263
 z228:=sizeOf263
 v228:=zeroValue263
 t229:=underlying264
 a229:=isAgg264
 z229:=sizeOf264
 v229:=zeroValue264
def QlV : prog.underlying 206=some (.slice 5):=by kernel_rfl
def QoQ : prog.underlying 218=some (.slice 37):=by kernel_rfl
def Qpw : prog.underlying 37=some (.slice 3):=by kernel_rfl
def Qpx : prog.underlying 44=some (.slice 70):=by kernel_rfl
def Qpy : prog.underlying 70=some (.slice 74):=by kernel_rfl
def Ls : Fj prog 3 ((V.i .i64) 0):=Fj.one (v:=.int .i64 0) (by kernel_rfl)
def QnW : Fj prog 37 ((λx=>V.sl 1 (x.map Qb)) ([]:(L_ Int))):=Fj.sl (by kernel_rfl)
def Qm7 : Fj prog 4 (V.b false):=Fj.one (v:=.bool false) (by kernel_rfl)
def Qp8 : XJ prog 3=some [.i .i64 0]:=by kernel_rfl
def Qp9 : XJ prog 5=some [.i .u8 0]:=by kernel_rfl
def Qqa : XJ prog 9=some [.s (⟨#[]⟩:ByteArray)]:=by kernel_rfl
def Qpz : XJ prog 26=some [.Y,.Y,.Y,.i .i64 0,.i .i64 0]:=by kernel_rfl
def QpA : XJ prog 29=some [.Y]:=by kernel_rfl
def QpB : XJ prog 31=some [.i .i64 0,.i .i64 0,.i .i64 0,.Y]:=by kernel_rfl
def QnX : XJ prog 37=some [.Y]:=by kernel_rfl
def QpC : XJ prog 41=some [.Y,.Y,.b false]:=by kernel_rfl
def QpD : XJ prog 44=some [.Y]:=by kernel_rfl
def QpE : XJ prog 49=some [.i .i64 0]:=by kernel_rfl
def QpF : XJ prog 53=some [.i .i64 0,.Y,.Y,.Y]:=by kernel_rfl
def QpG : XJ prog 55=some [.i .i64 0,.i .i64 0,.i .i64 0,.Y,.Y,.Y]:=by kernel_rfl
def QpH : XJ prog 70=some [.Y]:=by kernel_rfl
def QpI : XJ prog 72=some [.s (⟨#[]⟩:ByteArray),.i .i64 0,.Y]:=by kernel_rfl
def QpJ : XJ prog 74=some [.i .i64 0,.i .i64 0]:=by kernel_rfl
def QpK : XJ prog 87=some [.i .i64 0,.i .i64 0,.Y]:=by kernel_rfl
def QpL : XJ prog 90=some [.s (⟨#[]⟩:ByteArray),.i .i64 0,.i .i64 0,.i .i64 0,.Y,.i .i64 0,.i .i64 0]:=by kernel_rfl
def QpM : XJ prog 92=some [.i .i64 0,.i .i64 0,.i .i64 0,.Y]:=by kernel_rfl
def QpN : XJ prog 95=some [.i .i64 0,.i .i64 0,.i .i64 0]:=by kernel_rfl
def QnY : XJ prog 97=some [.s (⟨#[]⟩:ByteArray),.Y,.i .i64 0,.i .i64 0,.Y,.i .i64 0,.i .i64 0,.Y,.Y,.Y,.i .i64 0,.i .i64 0,.i .i64 0,.i .i64 0]:=by kernel_rfl
def QpO : XJ prog 99=some [.Y,.Y,.Y,.i .i64 0,.i .i64 0,.Y,.Y,.b false]:=by kernel_rfl
def QoR : XJ prog 103=some [.s (⟨#[]⟩:ByteArray),.i .i64 0]:=by kernel_rfl
def QlW : XJ prog 106=some [.lit (.nilFunc)]:=by kernel_rfl
def QoS : XJ prog 115=some [.Y,.Y,.Y,.i .i64 0,.i .i64 0,.i .i64 0,.lit (.map none),.Y,.Y,.b false]:=by kernel_rfl
def QoT : XJ prog 117=some [.lit (.map none)]:=by kernel_rfl
def QoU : XJ prog 140=some [.i .i64 0,.i .i64 0]:=by kernel_rfl
def QoV : XJ prog 156=some [.Y]:=by kernel_rfl
def QoW : XJ prog 160=some [.i .i64 0,.i .i64 0]:=by kernel_rfl
def QoX : XJ prog 163=some [.Y,.Y,.Y,.i .i64 0,.i .i64 0,.Y,.s (⟨#[]⟩:ByteArray),.Y,.i .i64 0,.i .i64 0,.Y,.i .i64 0,.i .i64 0,.Y,.Y,.Y,.i .i64 0,.i .i64 0,.i .i64 0,.i .i64 0,.Y]:=by kernel_rfl
def Rf : XJ prog 188=some [.lit (.nilFunc),.i .i64 0]:=by kernel_rfl
def QoY : XJ prog 218=some [.Y]:=by kernel_rfl
def QoZ : XJ prog 234=some [.lit (.nilFunc)]:=by kernel_rfl
def Qo0 : XJ prog 239=some [.lit (.nilFunc)]:=by kernel_rfl
def Qo1 : XJ prog 248=some [.Y,.Y,.i .i64 0]:=by kernel_rfl
def Qo2 : XJ prog 273=some [.lit (.nilFunc)]:=by kernel_rfl
def ZY : GX:={ ag:=[(3,false),(4,false),(9,false),(22,false),(23,false),(24,false),(26,true),(27,false),(29,false),(31,true),(37,false),(38,false),(39,false),(41,true),(44,false),(49,false),(53,true),(55,true),(70,false),(72,true),(74,true),(85,false),(87,true),(88,false),(90,true),(92,true),(93,false),(94,false),(95,true),(97,true),(99,true),(103,true),(106,false),(113,false),(117,false),(118,false),(140,true),(156,false),(160,true),(163,true),(166,false),(188,true),(218,false),(234,false),(239,false),(242,false),(248,true),(273,false)],sz:=[(3,1),(4,1),(24,1),(26,5),(29,1),(31,4),(37,1),(38,1),(39,1),(41,3),(44,1),(49,1),(53,4),(55,6),(70,1),(72,3),(74,2),(87,3),(90,7),(92,4),(93,1),(95,3),(97,14),(99,8),(103,2),(117,1),(140,2),(156,1),(160,2),(163,21),(188,2),(218,1),(234,1),(239,1),(248,3),(273,1)],fo:=[(26,[0,1,2,3,4]),(31,[0,1,2,3]),(41,[0,1,2]),(53,[0,1,2,3]),(55,[0,1,2]),(72,[0,1,2]),(87,[0,1,2]),(90,[0,1,2,3,4,5,6]),(92,[0,1]),(97,[0,1,2,5,6,7,8,9,10,11]),(99,[0,5]),(103,[0,1]),(115,[0,5,6,7]),(160,[0,1]),(163,[0,5,6,20]),(188,[0,1]),(248,[0,1,2])],sp:=[(26,[(0,1),(1,1),(2,1),(3,1),(4,1)]),(31,[(0,1),(1,1),(2,1),(3,1)]),(41,[(0,1),(1,1),(2,1)]),(53,[(0,1),(1,1),(2,1),(3,1)]),(55,[(0,1),(1,1),(2,4)]),(72,[(0,1),(1,1),(2,1)]),(87,[(0,1),(1,1),(2,1)]),(90,[(0,1),(1,1),(2,1),(3,1),(4,1),(5,1),(6,1)]),(92,[(0,1),(1,3)]),(97,[(0,1),(1,1),(2,3),(5,1),(6,1),(7,1),(8,1),(9,1),(10,1),(11,3)]),(99,[(0,5),(5,3)]),(115,[(0,5),(5,1),(6,1),(7,3)]),(140,[(0,1),(1,1)]),(160,[(0,1),(1,1)]),(163,[(0,5),(5,1),(6,14),(20,1)]),(188,[(0,1),(1,1)]),(248,[(0,1),(1,1),(2,1)])],es:=[(22,(90,7,80)),(23,(72,3,48)),(24,(97,14,200)),(29,(53,4,80)),(37,(3,1,8)),(38,(44,1,24)),(39,(55,6,96)),(44,(70,1,24)),(70,(74,2,16)),(85,(87,3,40)),(88,(9,1,16)),(93,(92,4,48)),(94,(103,2,24)),(107,(106,1,8)),(156,(160,2,16)),(206,(5,1,1)),(218,(37,1,24)),(228,(188,2,16)),(259,(3,1,8))],ar:=[(74,(2,1)),(95,(3,1))],zv:=[(3,[.i .i64 0]),(5,[.i .u8 0]),(9,[.s (⟨#[]⟩:ByteArray)]),(26,[.Y,.Y,.Y,.i .i64 0,.i .i64 0]),(29,[.Y]),(31,[.i .i64 0,.i .i64 0,.i .i64 0,.Y]),(37,[.Y]),(41,[.Y,.Y,.b false]),(44,[.Y]),(49,[.i .i64 0]),(53,[.i .i64 0,.Y,.Y,.Y]),(55,[.i .i64 0,.i .i64 0,.i .i64 0,.Y,.Y,.Y]),(70,[.Y]),(72,[.s (⟨#[]⟩:ByteArray),.i .i64 0,.Y]),(74,[.i .i64 0,.i .i64 0]),(87,[.i .i64 0,.i .i64 0,.Y]),(90,[.s (⟨#[]⟩:ByteArray),.i .i64 0,.i .i64 0,.i .i64 0,.Y,.i .i64 0,.i .i64 0]),(92,[.i .i64 0,.i .i64 0,.i .i64 0,.Y]),(95,[.i .i64 0,.i .i64 0,.i .i64 0]),(97,[.s (⟨#[]⟩:ByteArray),.Y,.i .i64 0,.i .i64 0,.Y,.i .i64 0,.i .i64 0,.Y,.Y,.Y,.i .i64 0,.i .i64 0,.i .i64 0,.i .i64 0]),(99,[.Y,.Y,.Y,.i .i64 0,.i .i64 0,.Y,.Y,.b false]),(103,[.s (⟨#[]⟩:ByteArray),.i .i64 0]),(106,[.lit (.nilFunc)]),(115,[.Y,.Y,.Y,.i .i64 0,.i .i64 0,.i .i64 0,.lit (.map none),.Y,.Y,.b false]),(117,[.lit (.map none)]),(140,[.i .i64 0,.i .i64 0]),(156,[.Y]),(160,[.i .i64 0,.i .i64 0]),(163,[.Y,.Y,.Y,.i .i64 0,.i .i64 0,.Y,.s (⟨#[]⟩:ByteArray),.Y,.i .i64 0,.i .i64 0,.Y,.i .i64 0,.i .i64 0,.Y,.Y,.Y,.i .i64 0,.i .i64 0,.i .i64 0,.i .i64 0,.Y]),(188,[.lit (.nilFunc),.i .i64 0]),(218,[.Y]),(234,[.lit (.nilFunc)]),(239,[.lit (.nilFunc)]),(248,[.Y,.Y,.i .i64 0]),(273,[.lit (.nilFunc)])],sb:=[9],bo:=[4],cc:=[158,160],en:=[6,7,8,11,12,13,14,15,16,17,18,19,20,21,22,23,24,25,26,30,31,32,33,34,35,36,37,38,39,40,41,42,43,44,45,46,47,48,49,50,51,52,60,61,62,63,64,65,66,67,68,69,70,71,72,73,74,75,76,77,78,81,82,83,84,85,86,87,88,89,103,104,105,106,107,108,109,110,111,112,113,114,115,116,117,118,119,120,132,133,134,135,136,137,138,139,140,141,142,143,144,145,146,147,148,149,160,161,162,163,164,165,166,167,168,169,170,171,172,173,174,175,182,183,184,185,186,187,188,189,190,191,192,193,194,195,196,197,198,199,200,201,202,203,204,205,206,207,208,209,210,211,212,213,214,215,216,217,218,219,228,229,230,231,232,233,234,235,236,238,239,240,241,242,243,244,245,246,247,248,249,250,251,252,253,254,255,256,257,258,259,260,261,262,263,264,277,278,279,280,281,282,283,284,285,286,287,288,289,290,291,292,293,294,300,301,302,303,304,305,306,307,308,309,310,311,318,319,329,330,331,332,333,335,336,356,357,358,359] }
def Qw : Dg prog ZY:=GX.ok (by kernel_rfl) (Jc.2 ⟨Qp8,Jc.2 ⟨Qp9,Jc.2 ⟨Qqa,Jc.2 ⟨Qpz,Jc.2 ⟨QpA,Jc.2 ⟨QpB,Jc.2 ⟨QnX,Jc.2 ⟨QpC,Jc.2 ⟨QpD,Jc.2 ⟨QpE,Jc.2 ⟨QpF,Jc.2 ⟨QpG,Jc.2 ⟨QpH,Jc.2 ⟨QpI,Jc.2 ⟨QpJ,Jc.2 ⟨QpK,Jc.2 ⟨QpL,Jc.2 ⟨QpM,Jc.2 ⟨QpN,Jc.2 ⟨QnY,Jc.2 ⟨QpO,Jc.2 ⟨QoR,Jc.2 ⟨QlW,Jc.2 ⟨QoS,Jc.2 ⟨QoT,Jc.2 ⟨QoU,Jc.2 ⟨QoV,Jc.2 ⟨QoW,Jc.2 ⟨QoX,Jc.2 ⟨Rf,Jc.2 ⟨QoY,Jc.2 ⟨QoZ,Jc.2 ⟨Qo0,Jc.2 ⟨Qo1,Jc.2 ⟨Qo2,λ_ h=>(by cases h)⟩⟩⟩⟩⟩⟩⟩⟩⟩⟩⟩⟩⟩⟩⟩⟩⟩⟩⟩⟩⟩⟩⟩⟩⟩⟩⟩⟩⟩⟩⟩⟩⟩⟩⟩)
def Qp {C:Xx}{Q:Exit->St->Prop}{n:Nat}{pt pt1:Pt}{ks D:L_ Fr}{σ σ1:St}{φ:Prop}(hC:Jq prog C n)(ds:L_ Ar)(e:Vm.go prog C ZY n ds pt ks σ True=some ⟨pt1,D,σ1,φ⟩)(hφ:φ)(h:AK prog C Q pt1 D σ1):AK prog C Q pt ks σ:=AK.go Qw hC ds e hφ h
abbrev QBg := L_ (Int×Int)
abbrev QMk := L_ QBg
abbrev LI_ := L_ Int
abbrev QLL := L_ (L_ Int)
abbrev QSB := L_ (ByteArray×Bool)
def U : True:=trivial
def an_ {a b:Prop}(x:a)(y:b):a/\b:=⟨x,y⟩
def ex_ {α:Sort _}{p:α->Prop}(w:α)(h:p w):∃x,p x:=⟨w,h⟩
end Go.Proofs
namespace Go.Vm
open Go Go.RowKit
noncomputable abbrev Ar.K (a b:L_ Nat):Ar:=.keep a b
noncomputable abbrev Ar.S (a:Nat)(b:V):Ar:=.say a b
noncomputable abbrev Ar.O (a:Nat)(b:Ob):Ar:=.sayO a b
noncomputable abbrev Ar.T:Ar:=.br true
noncomputable abbrev Ar.F:Ar:=.br false
noncomputable abbrev Dw.N:Dw:=.a .no none false
noncomputable abbrev Dw.B (h:Wh):Dw:=.a h none false
noncomputable abbrev Dw.E (v:V):Dw:=.a .no (some ([],v)) false
noncomputable abbrev V.I (n:Int):V:=.i .i64 n
noncomputable abbrev V.L (n:Nat):V:=.loc n 0 0
noncomputable abbrev Ar.A (x:L_ V):Ar:=.v .no [] (.agg x)
noncomputable instance dn_ (n:Nat):OfNat Ar n:=⟨.n n⟩
noncomputable abbrev Wh.C1 (v:V):Wh:=.c false [.d] v
noncomputable abbrev Wh.C2 (v:V):Wh:=.c false [.d,.d] v
noncomputable abbrev Wh.C3 (v:V):Wh:=.c false [.d,.d,.d] v
noncomputable abbrev Wh.C4 (v:V):Wh:=.c false [.d,.d,.d,.d] v
noncomputable abbrev Wh.C5 (v:V):Wh:=.c false [.d,.d,.d,.d,.d] v
noncomputable abbrev Wh.C6 (v:V):Wh:=.c false [.d,.d,.d,.d,.d,.d] v
noncomputable abbrev Wh.C7 (v:V):Wh:=.c false [.d,.d,.d,.d,.d,.d,.d] v
noncomputable abbrev Wh.C8 (v:V):Wh:=.c false [.d,.d,.d,.d,.d,.d,.d,.d] v
end Go.Vm
namespace Go.Proofs
open Go Go.RowKit Go.Vm Go.Proofs.Tryz
def bg_ {α:Type}{c:Bool}{x y:O_ α}{r:α}{G:Prop}(h:(bif c then x else y)=some r)(f:c=true->x=some r->G)(g:c=false->y=some r->G):G:=by
 cases c
 ·exact g rfl h
 exact f rfl h
noncomputable abbrev lk_ (n:Nat):Nat×V:=(n,.loc n 0 0)
def A {h:Prop}(D:h):True/\h:=⟨trivial,D⟩
def a2_ {h D:Prop}(h0:h)(h1:D):(True/\h)/\D:=⟨⟨trivial,h0⟩,h1⟩
def a3_ {h D x2:Prop}(h0:h)(h1:D)(h2:x2):((True/\h)/\D)/\x2:=⟨⟨⟨trivial,h0⟩,h1⟩,h2⟩
def a4_ {h D x2 x3:Prop}(h0:h)(h1:D)(h2:x2)(h3:x3):(((True/\h)/\D)/\x2)/\x3:=⟨⟨⟨⟨trivial,h0⟩,h1⟩,h2⟩,h3⟩
def a5_ {h D x2 x3 x4:Prop}(h0:h)(h1:D)(h2:x2)(h3:x3)(h4:x4):((((True/\h)/\D)/\x2)/\x3)/\x4:=⟨⟨⟨⟨⟨trivial,h0⟩,h1⟩,h2⟩,h3⟩,h4⟩
def a6_ {h D x2 x3 x4 x5:Prop}(h0:h)(h1:D)(h2:x2)(h3:x3)(h4:x4)(h5:x5):(((((True/\h)/\D)/\x2)/\x3)/\x4)/\x5:=⟨⟨⟨⟨⟨⟨trivial,h0⟩,h1⟩,h2⟩,h3⟩,h4⟩,h5⟩
def a7_ {h D x2 x3 x4 x5 x6:Prop}(h0:h)(h1:D)(h2:x2)(h3:x3)(h4:x4)(h5:x5)(h6:x6):((((((True/\h)/\D)/\x2)/\x3)/\x4)/\x5)/\x6:=⟨⟨⟨⟨⟨⟨⟨trivial,h0⟩,h1⟩,h2⟩,h3⟩,h4⟩,h5⟩,h6⟩
def a8_ {h D x2 x3 x4 x5 x6 x7:Prop}(h0:h)(h1:D)(h2:x2)(h3:x3)(h4:x4)(h5:x5)(h6:x6)(h7:x7):(((((((True/\h)/\D)/\x2)/\x3)/\x4)/\x5)/\x6)/\x7:=⟨⟨⟨⟨⟨⟨⟨⟨trivial,h0⟩,h1⟩,h2⟩,h3⟩,h4⟩,h5⟩,h6⟩,h7⟩
def a9_ {h D x2 x3 x4 x5 x6 x7 x8:Prop}(h0:h)(h1:D)(h2:x2)(h3:x3)(h4:x4)(h5:x5)(h6:x6)(h7:x7)(h8:x8):((((((((True/\h)/\D)/\x2)/\x3)/\x4)/\x5)/\x6)/\x7)/\x8:=⟨⟨⟨⟨⟨⟨⟨⟨⟨trivial,h0⟩,h1⟩,h2⟩,h3⟩,h4⟩,h5⟩,h6⟩,h7⟩,h8⟩
def aB_ {x0 x1 x2 x3 x4 x5 x6 x7 x8 x9 h:Prop}(h0:x0)(h1:x1)(h2:x2)(h3:x3)(h4:x4)(h5:x5)(h6:x6)(h7:x7)(h8:x8)(h9:x9)(D:h):((((((((((True/\x0)/\x1)/\x2)/\x3)/\x4)/\x5)/\x6)/\x7)/\x8)/\x9)/\h:=⟨⟨⟨⟨⟨⟨⟨⟨⟨⟨⟨trivial,h0⟩,h1⟩,h2⟩,h3⟩,h4⟩,h5⟩,h6⟩,h7⟩,h8⟩,h9⟩,D⟩
def aC_ {x0 x1 x2 x3 x4 x5 x6 x7 x8 x9 h D:Prop}(h0:x0)(h1:x1)(h2:x2)(h3:x3)(h4:x4)(h5:x5)(h6:x6)(h7:x7)(h8:x8)(h9:x9)(h10:h)(h11:D):(((((((((((True/\x0)/\x1)/\x2)/\x3)/\x4)/\x5)/\x6)/\x7)/\x8)/\x9)/\h)/\D:=⟨⟨⟨⟨⟨⟨⟨⟨⟨⟨⟨⟨trivial,h0⟩,h1⟩,h2⟩,h3⟩,h4⟩,h5⟩,h6⟩,h7⟩,h8⟩,h9⟩,h10⟩,h11⟩
def r1_ {α:Type}{a0:α}:a0=a0/\True:=⟨rfl,trivial⟩
def r2_ {α:Type}{a0 h:α}:a0=a0/\h=h/\True:=⟨rfl,rfl,trivial⟩
def r3_ {α:Type}{a0 h D:α}:a0=a0/\h=h/\D=D/\True:=⟨rfl,rfl,rfl,trivial⟩
def r4_ {α:Type}{a0 h D a3:α}:a0=a0/\h=h/\D=D/\a3=a3/\True:=⟨rfl,rfl,rfl,rfl,trivial⟩
def r5_ {α:Type}{a0 h D a3 a4:α}:a0=a0/\h=h/\D=D/\a3=a3/\a4=a4/\True:=⟨rfl,rfl,rfl,rfl,rfl,trivial⟩
def r6_ {α:Type}{a0 h D a3 a4 a5:α}:a0=a0/\h=h/\D=D/\a3=a3/\a4=a4/\a5=a5/\True:=⟨rfl,rfl,rfl,rfl,rfl,rfl,trivial⟩
def rB_ {α:Type}{a0 D a2 a3 a4 a5 a6 a7 a8 a9 h:α}:a0=a0/\D=D/\a2=a2/\a3=a3/\a4=a4/\a5=a5/\a6=a6/\a7=a7/\a8=a8/\a9=a9/\h=h/\True:=⟨rfl,rfl,rfl,rfl,rfl,rfl,rfl,rfl,rfl,rfl,rfl,trivial⟩
def rD_ {α:Type}{a0 a1 a2 a3 a4 a5 a6 a7 a8 a9 h D a12:α}:a0=a0/\a1=a1/\a2=a2/\a3=a3/\a4=a4/\a5=a5/\a6=a6/\a7=a7/\a8=a8/\a9=a9/\h=h/\D=D/\a12=a12/\True:=⟨rfl,rfl,rfl,rfl,rfl,rfl,rfl,rfl,rfl,rfl,rfl,rfl,rfl,trivial⟩
def rF_ {α:Type}{a0 a1 a2 a3 a4 a5 a6 a7 a8 a9 h D a12 a13 a14:α}:a0=a0/\a1=a1/\a2=a2/\a3=a3/\a4=a4/\a5=a5/\a6=a6/\a7=a7/\a8=a8/\a9=a9/\h=h/\D=D/\a12=a12/\a13=a13/\a14=a14/\True:=⟨rfl,rfl,rfl,rfl,rfl,rfl,rfl,rfl,rfl,rfl,rfl,rfl,rfl,rfl,rfl,trivial⟩
def wk_ {f:FuncId}{fn:Func}{c:Code}{args:L_ V}{hs:H_}{D:V->H_->Prop}(n:Nat)(hf:prog.funcs[f]? = some fn)(h:∀C:Xx,Jq prog C n->AK prog C (Zq prog fn.results.toList D) (.c c) [] ⟨MP 0 args,hs⟩)(hb:fn.body=some c:=by rfl)(hn:fn.ntmps=n:=by rfl)(hle:(Nat.ble args.length n&&Nat.ble n 618)=true:=by rfl):QX prog f args hs D:=QX.walk n hf hb hn hle h
def bq_ {C:Xx}{Q:Exit->St->Prop}{n:Nat}{pt p1 p2:Pt}{ks k1 k2:L_ Fr}{σ s1 s2:St}{α:Type}{c:Bool}{x y:O_ α}{r:α}(hC:Jq prog C n)(h:(bif c then x else y)=some r)(D:L_ Ar)(e:Vm.go prog C ZY n D pt ks σ True=some ⟨p1,k1,s1,True/\c=true⟩)(f:c=true->x=some r->AK prog C Q p1 k1 s1)(dt:L_ Ar)(e2:Vm.go prog C ZY n dt pt ks σ True=some ⟨p2,k2,s2,True/\c=false⟩)(g:c=false->y=some r->AK prog C Q p2 k2 s2):AK prog C Q pt ks σ:=by
 cases c
 ·exact AK.go Qw hC dt e2 ⟨trivial,rfl⟩ (g rfl h)
 exact AK.go Qw hC D e ⟨trivial,rfl⟩ (f rfl h)
def mt_ {C:Xx}{Q:Exit->St->Prop}{ks:L_ Fr}{σ:St}:AK prog C Q (.x .normal) (.cut (λs=>s=σ)::ks) σ:=AK.met rfl
def cb_ {a b:Bool}(h:a=b):V.b a=V.b b:=congrArg V.b h
def tc_ {a b:Bool}(h:a=b):True/\V.b a=V.b b:=⟨trivial,congrArg V.b h⟩
def Qjg : Exit->Bool
 | .normal=>true
 | .ret=>true
 | _=>false
def tg_ {C:Xx}{Q:Exit->St->Prop}{n:Nat}{pt pt1:Pt}{ks D:L_ Fr}{σ σ1:St}(hC:Jq prog C n)(ds:L_ Ar)(h:AK prog C Q pt1 D σ1)(e:Vm.go prog C ZY n ds pt ks σ True=some ⟨pt1,D,σ1,True⟩:=by rfl):AK prog C Q pt ks σ:=AK.go Qw hC ds e trivial h
def Tb {c:Bool}{β:Type}{f:Unit->O_ β}{r:β}(h:(chk c).bind f=some r):c=true/\f ()=some r:=by
 obtain⟨_,k,h⟩:=Qz h
 exact⟨QgY k,h⟩
def Z {α:Sort _}{a:α}:a=a:=rfl
def B {α β:Type}{a:O_ α}{k:α->O_ β}{r:β}{G:Prop}(h:a.bind k=some r)(f:∀x,a=some x->k x=some r->G):G:=by
 obtain⟨x,D,h2⟩:=Qz h
 exact f x D h2
def X {c:Bool}{β:Type}{k:Unit->O_ β}{r:β}{G:Prop}(h:(chk c).bind k=some r)(f:c=true->k ()=some r->G):G:=by
 obtain⟨_,D,h2⟩:=Qz h
 exact f (QgY D) h2
def I {α:Type}{c:Bool}{x y:O_ α}{r:α}{G:Prop}(h:(bif c then x else y)=some r)(f:c=true->x=some r->G)(g:c=false->y=some r->G):G:=by
 cases c
 ·exact g rfl h
 exact f rfl h
def bO_ (c:Bool){G:Prop}(f:c=true->G)(g:c=false->G):G:=by
 cases c
 ·exact g rfl
 exact f rfl
def toS (σ s:St):O_ St:=match Gv σ.fr (s.fr.map Prod.fst)with
 | some a=>match Gv σ.hp (s.hp.map Prod.fst)with
  | some b=>bif St.closed ⟨a,b⟩then some ⟨a,b⟩else none
  | none=>none
 | none=>none
def Qbf {P:Program}{C:Xx}{Q:Exit->St->Prop}{pt:Pt}{ks:L_ Fr}{σ s:St}(e:toS σ s=some s)(k:AK P C Q pt ks s):AK P C Q pt ks σ:=by
 unfold toS at e
 split at e
 ·rename_i a ha
  split at e
  ·rename_i b hb
   replace e:=XL e
   obtain⟨hc,e⟩:=e
   cases e
   exact AK.weaken (λh w D=>R.to D (Qja (Pa ha)) (Qjb (Pa hb)) hc) k
  cases e
 cases e
section
variable {P:Program}{C:Xx}{Q:Exit->St->Prop}{ks:L_ Fr}{σ:St}{pt:Pt}
def M {s0:St}(e:toS σ s0=some s0):AK P C Q (.x .normal) (.cut (λs=>s=s0)::ks) σ:=Qbf e (AK.met rfl)
def Y {c:Code}(s0:St)(f:AK P C Q (.c c) (.cut (λs=>s=s0)::ks) σ)(g:AK P C Q (.x .normal) ks s0):AK P C Q (.c c) ks σ:=AK.meetX _ f λ_ e=>e▸g
def me_ {β:Type}{E:β->St}{K:β->Prop}{v:β}(h:K v)(e:toS σ (E v)=some (E v)):AK P C Q (.x .normal) (.cut (λs=>∃v,s=E v/\K v)::ks) σ:=Qbf e (AK.met ⟨v,rfl,h⟩)
def mE_ {β:Type}{x y:Code}(E:β->St)(K:β->Prop)(f:AK P C Q (.c x) (.cut (λs=>∃v,s=E v/\K v)::ks) σ)(g:∀v,K v->AK P C Q (.c y) ks (E v)):AK P C Q (.c (.seq x y)) ks σ:=AK.meet _ f λ_ ⟨v,e,h⟩=>e▸g v h
def rS {τ ρ:Type}(E:τ->St)(X:ρ->Exit×St)(o:τ⊕ρ):Exit->St->Prop:=QiZ (λt s=>s=E t) (λq e s=>e=(X q).1/\s=(X q).2) o
def lp_ {τ ρ α:Type}{body:τ->O_ (τ⊕ρ)}{s0:τ}{k:ρ->O_ α}{r:α}{c:Code}(h:(QE body s0).bind k=some r)(E:τ->St)(X:ρ->Exit×St)(e:toS σ (E s0)=some (E s0))
  (f:∀t o,body t=some o->AK P C (rS E X o) (.c c) [] (E t)) (g:∀q,k q=some r->AK P C Q (.x (X q).1) ks (X q).2):AK P C Q (.c (.loop c)) ks σ:=by
 obtain⟨q,h1,h2⟩:=Qz h
 refine Qbf e (AK.loop (λt s=>s=E t) (λq e s=>e=(X q).1/\s=(X q).2) h1 rfl (λt o s D hb=>D▸f t o hb) λe s D=>?_)
 obtain⟨rfl,rfl⟩:=D
 exact g q h2
def lq_ {τ ρ ρ' α:Type}{body:τ->O_ (τ⊕(ρ⊕ρ'))}{s0:τ}{k:ρ⊕ρ'->O_ α}{r:α}{c:Code}(h:(QE body s0).bind k=some r)(E:τ->St)(X:ρ->Exit×St)(Y:ρ'->Exit×St)(e:toS σ (E s0)=some (E s0))
  (f:∀t o,body t=some o->AK P C (rS E (Sum.elim X Y) o) (.c c) [] (E t)) (g:∀q,k (.inl q)=some r->AK P C Q (.x (X q).1) ks (X q).2) (D:∀q,k (.inr q)=some r->AK P C Q (.x (Y q).1) ks (Y q).2):AK P C Q (.c (.loop c)) ks σ:=
 lp_ h E (Sum.elim X Y) e f λq=>match q with
  | .inl q=>g q
  | .inr q=>D q
def rN_ {τ ρ:Type}{E:τ->St}{X:ρ->Exit×St}{o:τ⊕ρ}{t:τ}(h:some (.inl t)=some o)(e:toS σ (E t)=some (E t)):AK P C (rS E X o) (.x .normal) [] σ:=by
 cases h
 exact Qbf e (AK.done ⟨t,rfl,rfl⟩)
def rX_ {τ ρ:Type}{E:τ->St}{X:ρ->Exit×St}{o:τ⊕ρ}{q:ρ}{i:Nat}(h:some (.inr q)=some o)(e:((X q).1,toS σ (X q).2)=(.exit i,some (X q).2)):AK P C (rS E X o) (.x (.exit i)) [] σ:=by
 cases h
 exact Qbf (congrArg Prod.snd e) (AK.done ⟨q,rfl,(congrArg Prod.fst e).symm,rfl⟩)
def rR_ {τ ρ:Type}{E:τ->St}{X:ρ->Exit×St}{o:τ⊕ρ}{q:ρ}(h:some (.inr q)=some o)(e:((X q).1,toS σ (X q).2)=(.ret,some (X q).2)):AK P C (rS E X o) (.x .ret) [] σ:=by
 cases h
 exact Qbf (congrArg Prod.snd e) (AK.done ⟨q,rfl,(congrArg Prod.fst e).symm,rfl⟩)
def mu_ {s0:St}{K:Prop}(h:K)(e:toS σ s0=some s0):AK P C Q (.x .normal) (.cut (λs=>s=s0/\K)::ks) σ:=Qbf e (AK.met ⟨rfl,h⟩)
def mU_ {x y:Code}(s0:St)(K:Prop)(f:AK P C Q (.c x) (.cut (λs=>s=s0/\K)::ks) σ)(g:K->AK P C Q (.c y) ks s0):AK P C Q (.c (.seq x y)) ks σ:=AK.meet _ f λ_ ⟨e,h⟩=>e▸g h
def mf_ {β γ:Type}{E:β->γ->St}{K:β->γ->Prop}{v:β}{u:γ}(h:K v u)(e:toS σ (E v u)=some (E v u)):AK P C Q (.x .normal) (.cut (λs=>∃v u,s=E v u/\K v u)::ks) σ:=Qbf e (AK.met ⟨v,u,rfl,h⟩)
def mF_ {β γ:Type}{x y:Code}(E:β->γ->St)(K:β->γ->Prop)(f:AK P C Q (.c x) (.cut (λs=>∃v u,s=E v u/\K v u)::ks) σ)(g:∀v u,K v u->AK P C Q (.c y) ks (E v u)):AK P C Q (.c (.seq x y)) ks σ:=AK.meet _ f λ_ ⟨v,u,e,h⟩=>e▸g v u h
def cS {β:Type}(E:β->St)(v:β)(s:St):Prop:=s=E v
def mq_ {β:Type}{E:β->St}{v u:β}(h:some v=some u)(e:toS σ (E v)=some (E v)):AK P C Q (.x .normal) (.cut (cS E u)::ks) σ:=by
 cases h
 exact Qbf e (AK.met rfl)
def mV_ {β α:Type}{c:Code}{a:O_ β}{k:β->O_ α}{r:α}(h:a.bind k=some r)(E:β->St)(f:∀x,a=some x->AK P C Q (.c c) (.cut (cS E x)::ks) σ)(g:∀x,k x=some r->AK P C Q (.x .normal) ks (E x)):AK P C Q (.c c) ks σ:=by
 obtain⟨x,D,h2⟩:=Qz h
 exact AK.meetX _ (f x D) λs (e:s=E x)=>e▸g x h2
end
def no_ {α:Type}(_:α):H_:=[]
def CT {α:Type}(f:Nat)(us:L_ V)(h:H_)(o:O_ α)(V:α->V)(O:α->H_):Prop:=∀r,o=some r->QX prog f us h (Gives (V r) (O r))
def QkP {α:Type}(h:L_ ResultVar)(V:α->V)(O:α->H_)(r:α):Exit->St->Prop:=Zq prog h (Gives (V r) (O r))
def W {α:Type}{f:FuncId}{fn:Func}{c:Code}{args:L_ V}{hs:H_}{o:O_ α}{V:α->V}{O:α->H_}(n:Nat)(hf:prog.funcs[f]? = some fn)(D:(fn.body,fn.ntmps,Nat.ble args.length n&&Nat.ble n 618)=(some c,n,true))(h:∀C:Xx,Jq prog C n->∀r,o=some r->AK prog C (QkP fn.results.toList V O r) (.c c) [] ⟨MP 0 args,hs⟩):CT f args hs o V O:=λ_ e=>QX.walk n hf (congrArg (λx=>x.1) D) (congrArg (λx=>x.2.1) D) (congrArg (λx=>x.2.2) D) λC hC=>h C hC _ e
section
variable {α:Type}{a q:α}{C:Xx}{t u x:Nat}{O:α->H_}{σ:St}{e:Exit}
def E {r:α->V}(h:some a=some q)(k:(Qjg e,Go.Vm.look σ.fr t)=(true,some (r a)))(hs:UB σ.hp (O a)):AK prog C (QkP [.tmp t] r O q) (.x e) [] σ:=by
 have he:=congrArg Prod.fst k
 have D:=congrArg Prod.snd k
 cases h
 cases e<;>first | exact AK.done ⟨[_],⟨D,trivial⟩,gives hs⟩|cases he
def F {v w:V}{r:α->V}(h:some a=some q)(k:(Qjg e,Go.Vm.look σ.fr t,Go.Vm.look σ.fr u)=(true,some v,some w))(h4:r a=.tup [v,w])(hs:UB σ.hp (O a)):AK prog C (QkP [.tmp t,.tmp u] r O q) (.x e) [] σ:=by
 have he:=congrArg (λx=>x.1) k
 have D:=congrArg (λx=>x.2.1) k
 have h3:=congrArg (λx=>x.2.2) k
 cases h
 cases e<;>first | exact AK.done ⟨[_,_],⟨D,h3,trivial⟩,h4▸gives hs⟩|cases he
def e3_ {v w z:V}{r:α->V}(h:some a=some q)(k:(Qjg e,Go.Vm.look σ.fr t,Go.Vm.look σ.fr u,Go.Vm.look σ.fr x)=(true,some v,some w,some z))(h4:r a=.tup [v,w,z])(hs:UB σ.hp (O a)):AK prog C (QkP [.tmp t,.tmp u,.tmp x] r O q) (.x e) [] σ:=by
 have he:=congrArg (λx=>x.1) k
 have D:=congrArg (λx=>x.2.1) k
 have h3:=congrArg (λx=>x.2.2.1) k
 have h5:=congrArg (λx=>x.2.2.2) k
 cases h
 cases e<;>first | exact AK.done ⟨[_,_,_],⟨D,h3,h5,trivial⟩,h4▸gives hs⟩|cases he
end
def G {C:Xx}{Q:Exit->St->Prop}{n:Nat}{pt pt1:Pt}{ks D:L_ Fr}{σ σ1:St}{φ:Prop}(hC:Jq prog C n)(ds:L_ Ar)(e:Vm.go prog C ZY n ds pt ks σ True=some ⟨pt1,D,σ1,φ⟩)(hφ:φ)(h:AK prog C Q pt1 D σ1):AK prog C Q pt ks σ:=AK.go Qw hC ds e hφ h
def H {C:Xx}{Q:Exit->St->Prop}{n:Nat}{pt pt1:Pt}{ks D:L_ Fr}{σ σ1:St}(hC:Jq prog C n)(ds:L_ Ar)(e:Vm.go prog C ZY n ds pt ks σ True=some ⟨pt1,D,σ1,True⟩)(h:AK prog C Q pt1 D σ1):AK prog C Q pt ks σ:=AK.go Qw hC ds e trivial h
def J {C:Xx}{Q:Exit->St->Prop}{n:Nat}{pt pt1:Pt}{ks D:L_ Fr}{σ σ1:St}{x:Prop}(hC:Jq prog C n)(ds:L_ Ar)(e:Vm.go prog C ZY n ds pt ks σ True=some ⟨pt1,D,σ1,True/\x⟩)(a:x)(h:AK prog C Q pt1 D σ1):AK prog C Q pt ks σ:=G hC ds e ⟨trivial,a⟩ h
def K {C:Xx}{Q:Exit->St->Prop}{n:Nat}{pt pt1:Pt}{ks D:L_ Fr}{σ σ1:St}{x y:Prop}(hC:Jq prog C n)(ds:L_ Ar)(e:Vm.go prog C ZY n ds pt ks σ True=some ⟨pt1,D,σ1,(True/\x)/\y⟩)(a:x)(b:y)(h:AK prog C Q pt1 D σ1):AK prog C Q pt ks σ:=G hC ds e ⟨⟨trivial,a⟩,b⟩ h
def g3_ {C:Xx}{Q:Exit->St->Prop}{n:Nat}{pt pt1:Pt}{ks D:L_ Fr}{σ σ1:St}{x y z:Prop}(hC:Jq prog C n)(ds:L_ Ar)(e:Vm.go prog C ZY n ds pt ks σ True=some ⟨pt1,D,σ1,((True/\x)/\y)/\z⟩)(a:x)(b:y)(c:z)(h:AK prog C Q pt1 D σ1):AK prog C Q pt ks σ:=G hC ds e ⟨⟨⟨trivial,a⟩,b⟩,c⟩ h
def g4_ {C:Xx}{Q:Exit->St->Prop}{n:Nat}{pt pt1:Pt}{ks D:L_ Fr}{σ σ1:St}{x y z u:Prop}(hC:Jq prog C n)(ds:L_ Ar)(e:Vm.go prog C ZY n ds pt ks σ True=some ⟨pt1,D,σ1,(((True/\x)/\y)/\z)/\u⟩)(a:x)(b:y)(c:z)(d:u)(h:AK prog C Q pt1 D σ1):AK prog C Q pt ks σ:=G hC ds e ⟨⟨⟨⟨trivial,a⟩,b⟩,c⟩,d⟩ h
def L {C:Xx}{Q:Exit->St->Prop}{n:Nat}{pt pt1:Pt}{ks D:L_ Fr}{σ σ1:St}{x y:Bool}(hC:Jq prog C n)(ds:L_ Ar)(e:Vm.go prog C ZY n ds pt ks σ True=some ⟨pt1,D,σ1,True/\V.b x=V.b y⟩)(a:x=y)(h:AK prog C Q pt1 D σ1):AK prog C Q pt ks σ:=G hC ds e ⟨trivial,congrArg V.b a⟩ h
def dr_ {id n:Nat}{C:Xx}{Q:Exit->St->Prop}{ops:Array Oper}{ks:L_ Fr}{base:St}{sf fr:S_}{sh hp:H_}{ri:L_ (It×Nat)}{ms:L_ Yd}{B:St}{φ:Prop}(hN:Jq prog C n)(ds:L_ Dw)(D h ts os:L_ Nat)(hS:(Gv base.fr D,Gv base.hp h)=(some sf,some sh))(e:Uh prog C ZY n ops ⟨sf,sh⟩ ds ops.toList 0 [] [] base True=some ⟨ri,ms,B,φ⟩)(hφ:φ)(hf:(Gv (LS ms ri++B.fr) ts,Gv (HR ms ri++B.hp) os,St.closed ⟨fr,hp⟩)=(some fr,some hp,true))(k:AK prog C Q (.x .normal) ks ⟨fr,hp⟩)(hl:ds.length=ops.size:=by rfl)(hk:okV ops base ⟨sf,sh⟩ ⟨ri,ms,B,φ⟩=true:=by kernel_rfl):AK prog C Q (.c (.region id ops true)) ks base:=AK.draw2 Qw hN mixed ds D h ts os (congrArg (λx=>x.1) hS) (congrArg (λx=>x.2) hS) e hφ hl hk (congrArg (λx=>x.1) hf) (congrArg (λx=>x.2.1) hf) (congrArg (λx=>x.2.2) hf) k
abbrev Qqb (a0 a1:V):L_ V:=[.J,.J,a0,.J,.J,.J,.J,a1,.J,.J,.J,.J,.J]
abbrev Zy (a0:V):L_ V:=[.J,.J,a0,.J,.J,.J,.J,.J,.J,.J,.J,.J,.J]
abbrev Qqc (a0 a1 a2 a3 a4 a5 a6 a7 a8:V):L_ V:=[.J,.J,.J,.J,a0,a1,a2,a3,a4,.J,a5,a6,a7,.J,.J,.J,.J,.J,.J,.J,.J,.J,.J,.J,.J,.J,.J,.J,.J,.J,.J,.J,.J,.J,.J,.J,.J,.J,.J,.J,.J,.J,.J,.J,.J,.J,.J,.J,.J,.J,.J,.J,.J,.J,a8,.J,.J,.J,.J,.J,.J,.J,.J,.J,.J,.J,.J,.J,.J,.J,.J,.J,.J,.J,.J,.J,.J,.J,.J,.J,.J,.J,.J,.J,.J,.J,.J,.J,.J,.J,.J,.J,.J,.J,.J,.J,.J,.J,.J,.J,.J,.J,.J,.J,.J,.J,.J,.J,.J]
abbrev DS (a0 a1 a2 a3 a4 a5 a6 a7:V):L_ V:=[.J,.J,.J,.J,a0,a1,a2,a3,a4,.J,a5,a6,a7,.J,.J,.J,.J,.J,.J,.J,.J,.J,.J,.J,.J,.J,.J,.J,.J,.J,.J,.J,.J,.J,.J,.J,.J,.J,.J,.J,.J,.J,.J,.J,.J,.J,.J,.J,.J,.J,.J,.J,.J,.J,.J,.J,.J,.J,.J,.J,.J,.J,.J,.J,.J,.J,.J,.J,.J,.J,.J,.J,.J,.J,.J,.J,.J,.J,.J,.J,.J,.J,.J,.J,.J,.J,.J,.J,.J,.J,.J,.J,.J,.J,.J,.J,.J,.J,.J,.J,.J,.J,.J,.J,.J,.J,.J,.J,.J]
def Pb (a:(L_ Xs)):O_ Qf:=some (Qf.mk ([(QL.mk (⟨#[110]⟩:ByteArray) 2 0 0 ([(⟨#[107]⟩:ByteArray)]:L_ ByteArray) 0 0)]:L_ QL) ([(QP.mk (⟨#[97]⟩:ByteArray) 0 ([]:QBg)),(QP.mk (⟨#[98]⟩:ByteArray) 0 ([]:QBg)),(QP.mk (⟨#[99]⟩:ByteArray) 0 ([]:QBg))]:L_ QP) ([(QH.mk (⟨#[116]⟩:ByteArray) ([]:(L_ YO)) (Ql.mk 1 1 ([]:(L_ Ql))) 1 1 ([(Xs.mk 0 (Ql.mk 1 0 ([]:(L_ Ql))))]:L_ Xs) a ([]:LI_) 0 (0,0,0))]:L_ QH) 0 1)
def EY (a:Bool):O_ Qf:=bif a then (chk (([(Xs.mk 1 (Ql.mk 1 0 ([]:(L_ Ql))))]:L_ Xs).length+([(Xs.mk 2 (Ql.mk 1 0 ([]:(L_ Ql))))]:L_ Xs).length<=4294967296)).bind λ_=>Pb (([(Xs.mk 1 (Ql.mk 1 0 ([]:(L_ Ql))))]:L_ Xs)++[(Xs.mk 2 (Ql.mk 1 0 ([]:(L_ Ql))))])else Pb ([(Xs.mk 1 (Ql.mk 1 0 ([]:(L_ Ql))))]:L_ Xs)
def Yr (c):CT 21 [.b c] [] (EY c) (λr=>(.agg (Qa r))) no_:=by
 refine W 40 func21 rfl λC d r h=>?_
 refine Qp d [7,.v .no [none,none,some 3] (.agg (Qu (Ql.mk 1 0 ([]:(L_ Ql))))),2,.O 3 (.var (Qu (Ql.mk 1 0 ([]:(L_ Ql))))),4,.v .no [none,none,some 3] (.agg (Qu (Ql.mk 1 1 ([]:(L_ Ql))))),2,.O 4 (.var (Qu (Ql.mk 1 1 ([]:(L_ Ql))))),4,.v (.bd []) [] (.sl 1 (([(⟨#[107]⟩:ByteArray)]:L_ ByteArray).map DW)),.A (Qr (QL.mk (⟨#[110]⟩:ByteArray) 2 0 0 ([(⟨#[107]⟩:ByteArray)]:L_ ByteArray) 0 0)),.v (.bd []) [] (.sl 7 (([(QL.mk (⟨#[110]⟩:ByteArray) 2 0 0 ([(⟨#[107]⟩:ByteArray)]:L_ ByteArray) 0 0)]:L_ QL).map Qr)),.v .no [none,none,some 2] (.agg (Qq (QP.mk (⟨#[97]⟩:ByteArray) 0 ([]:QBg)))),.v .no [none,none,some 2] (.agg (Qq (QP.mk (⟨#[98]⟩:ByteArray) 0 ([]:QBg)))),.v .no [none,none,some 2] (.agg (Qq (QP.mk (⟨#[99]⟩:ByteArray) 0 ([]:QBg)))),.v (.bd []) [] (.sl 3 (([(QP.mk (⟨#[97]⟩:ByteArray) 0 ([]:QBg)),(QP.mk (⟨#[98]⟩:ByteArray) 0 ([]:QBg)),(QP.mk (⟨#[99]⟩:ByteArray) 0 ([]:QBg))]:L_ QP).map Qq)),.A (Qu (Ql.mk 1 1 ([]:(L_ Ql)))),.A (Qu (Ql.mk 1 0 ([]:(L_ Ql)))),.A (Xj (Xs.mk 0 (Ql.mk 1 0 ([]:(L_ Ql))))),1,.O 18 (.arr 4 (([(Xs.mk 0 (Ql.mk 1 0 ([]:(L_ Ql))))]:L_ Xs).map Xj)),.S 18 (.own 18 ([(Xs.mk 0 (Ql.mk 1 0 ([]:(L_ Ql))))]:L_ Xs).length),.A (Qu (Ql.mk 1 0 ([]:(L_ Ql)))),.A (Xj (Xs.mk 1 (Ql.mk 1 0 ([]:(L_ Ql))))),1,.O 21 (.arr 4 (([(Xs.mk 1 (Ql.mk 1 0 ([]:(L_ Ql))))]:L_ Xs).map Xj)),.S 21 (.own 21 ([(Xs.mk 1 (Ql.mk 1 0 ([]:(L_ Ql))))]:L_ Xs).length),.A [.s (⟨#[116]⟩:ByteArray),.Y,.I 1,.I 1,.sl 3 (Yn ([]:(L_ Ql))),.I 1,.I 1,.own 18 ([(Xs.mk 0 (Ql.mk 1 0 ([]:(L_ Ql))))]:L_ Xs).length,.own 21 ([(Xs.mk 1 (Ql.mk 1 0 ([]:(L_ Ql))))]:L_ Xs).length,.Y,.I 0,.I 0,.I 0,.I 0],.o (.any (.own 23 1) (some (.var [.s (⟨#[116]⟩:ByteArray),.Y,.I 1,.I 1,.sl 3 (Yn ([]:(L_ Ql))),.I 1,.I 1,.own 18 ([(Xs.mk 0 (Ql.mk 1 0 ([]:(L_ Ql))))]:L_ Xs).length,.own 21 ([(Xs.mk 1 (Ql.mk 1 0 ([]:(L_ Ql))))]:L_ Xs).length,.Y,.I 0,.I 0,.I 0,.I 0]))),.A [.sl 7 (([(QL.mk (⟨#[110]⟩:ByteArray) 2 0 0 ([(⟨#[107]⟩:ByteArray)]:L_ ByteArray) 0 0)]:L_ QL).map Qr),.sl 3 (([(QP.mk (⟨#[97]⟩:ByteArray) 0 ([]:QBg)),(QP.mk (⟨#[98]⟩:ByteArray) 0 ([]:QBg)),(QP.mk (⟨#[99]⟩:ByteArray) 0 ([]:QBg))]:L_ QP).map Qq),.own 23 1,.I 0,.I 1],2,.O 5 (.var [.sl 7 (([(QL.mk (⟨#[110]⟩:ByteArray) 2 0 0 ([(⟨#[107]⟩:ByteArray)]:L_ ByteArray) 0 0)]:L_ QL).map Qr),.sl 3 (([(QP.mk (⟨#[97]⟩:ByteArray) 0 ([]:QBg)),(QP.mk (⟨#[98]⟩:ByteArray) 0 ([]:QBg)),(QP.mk (⟨#[99]⟩:ByteArray) 0 ([]:QBg))]:L_ QP).map Qq),.own 23 1,.I 0,.I 1]),2] Z ⟨⟨⟨⟨⟨⟨⟨⟨⟨⟨⟨⟨⟨⟨⟨⟨⟨⟨⟨⟨⟨⟨⟨⟨U,Z⟩,Z⟩,Z⟩,Z⟩,Z⟩,Z⟩,Z⟩,Z⟩,Z⟩,Z⟩,Z⟩,Z⟩,Z⟩,Z⟩,Z⟩,Z⟩,Z⟩,Z⟩,Z⟩,Z⟩,Z⟩,(λσ e k D=>Stp.buildAny Z Z (QU d.n Z) (Qw.es Z) QnY Z (by decide) (by decide) (Gf e Z) Z Z (D Z))⟩,Z⟩,Z⟩ ?_
 refine AK.meet (λσ=>∃g:(L_ Xs),σ=⟨[lk_ 2,lk_ 5],[(2,.var [.Y,.Y,.Y,.I 0,.I 0]),(5,.var [.sl 7 (([(QL.mk (⟨#[110]⟩:ByteArray) 2 0 0 ([(⟨#[107]⟩:ByteArray)]:L_ ByteArray) 0 0)]:L_ QL).map Qr),.sl 3 (([(QP.mk (⟨#[97]⟩:ByteArray) 0 ([]:QBg)),(QP.mk (⟨#[98]⟩:ByteArray) 0 ([]:QBg)),(QP.mk (⟨#[99]⟩:ByteArray) 0 ([]:QBg))]:L_ QP).map Qq),.own 23 1,.I 0,.I 1]),(18,.arr 4 (([(Xs.mk 0 (Ql.mk 1 0 ([]:(L_ Ql))))]:L_ Xs).map Xj)),(21,.arr 4 (g.map Xj)),(23,.var [.s (⟨#[116]⟩:ByteArray),.Y,.I 1,.I 1,.sl 3 (Yn ([]:(L_ Ql))),.I 1,.I 1,.own 18 ([(Xs.mk 0 (Ql.mk 1 0 ([]:(L_ Ql))))]:L_ Xs).length,.own 21 g.length,.Y,.I 0,.I 0,.I 0,.I 0])]⟩/\Pb g=some r) ?_ ?_
 ·refine tg_ d [5] ?_
  rcases XS h with⟨j,h⟩|⟨j,h⟩
  ·obtain⟨q,h⟩:=Tb h
   refine Qp d [.T,.K [2,3,5] [2,3,5,18,21,23]] Z (A j) ?_
   refine AK.draw2 Qw d mixed [.a .no none true,.a .no none true,.N,.N,.B (.any (.L 23) none),.N,.N,.E (.agg (Qu (Ql.mk 1 0 ([]:(L_ Ql))))),.E (.agg (Xj (Xs.mk 2 (Ql.mk 1 0 ([]:(L_ Ql)))))),.a (.bd []) (some ([],.sl 4 (([(Xs.mk 2 (Ql.mk 1 0 ([]:(L_ Ql))))]:L_ Xs).map Xj))) false,.m (.app ((([(Xs.mk 1 (Ql.mk 1 0 ([]:(L_ Ql))))]:L_ Xs)++[(Xs.mk 2 (Ql.mk 1 0 ([]:(L_ Ql))))]).map Xj) (([(Xs.mk 1 (Ql.mk 1 0 ([]:(L_ Ql))))]:L_ Xs)++[(Xs.mk 2 (Ql.mk 1 0 ([]:(L_ Ql))))]).length),.B (.any (.L 23) none),.N,.m .s] [2,3,5] [2,3,5,18] [2,5] [2,5,18,21,23] rfl rfl rfl ⟨⟨⟨⟨⟨⟨U,(λσ e k _=>Stp.idxV rfl rfl (QU d.n rfl) (e _ _ rfl) (e _ _ rfl) (Qw.es rfl) (k _ _ rfl) (by decide))⟩,rfl⟩,rfl⟩,rfl⟩,⟨(Qc (f:=Xj) (l:=([(Xs.mk 1 (Ql.mk 1 0 ([]:(L_ Ql))))]:L_ Xs))),Ja q Qc,(Ya (f:=Xj) (l:=([(Xs.mk 1 (Ql.mk 1 0 ([]:(L_ Ql))))]:L_ Xs)) (m:=([(Xs.mk 2 (Ql.mk 1 0 ([]:(L_ Ql))))]:L_ Xs))),Jr (l:=([(Xs.mk 1 (Ql.mk 1 0 ([]:(L_ Ql))))]:L_ Xs)) Qc⟩⟩,(λσ e k _=>Stp.idxV rfl rfl (QU d.n rfl) (e _ _ rfl) (e _ _ rfl) (Qw.es rfl) (k _ _ rfl) (by decide))⟩ rfl (by kernel_rfl) rfl rfl rfl ?_
   refine Qp d [.O 23 (.var [.s (⟨#[116]⟩:ByteArray),.Y,.I 1,.I 1,.sl 3 (Yn ([]:(L_ Ql))),.I 1,.I 1,.own 18 ([(Xs.mk 0 (Ql.mk 1 0 ([]:(L_ Ql))))]:L_ Xs).length,.own 21 (([(Xs.mk 1 (Ql.mk 1 0 ([]:(L_ Ql))))]:L_ Xs)++[(Xs.mk 2 (Ql.mk 1 0 ([]:(L_ Ql))))]).length,.Y,.I 0,.I 0,.I 0,.I 0]),.K [2,5] [2,5,18,21,23]] Z (A Z) ?_
   exact AK.met (ex_ _ (an_ Z h))
  refine Qp d [.F,1,.K [2,5] [2,5,18,21,23]] Z (A j) ?_
  exact AK.met (ex_ _ (an_ Z h))
 rintro σ ⟨g,rfl,h⟩
 refine Qp d [4,.O 2 (.var [.sl 7 (([(QL.mk (⟨#[110]⟩:ByteArray) 2 0 0 ([(⟨#[107]⟩:ByteArray)]:L_ ByteArray) 0 0)]:L_ QL).map Qr),.sl 3 (([(QP.mk (⟨#[97]⟩:ByteArray) 0 ([]:QBg)),(QP.mk (⟨#[98]⟩:ByteArray) 0 ([]:QBg)),(QP.mk (⟨#[99]⟩:ByteArray) 0 ([]:QBg))]:L_ QP).map Qq),.own 23 1,.I 0,.I 1]),3,.frz 18 (([(Xs.mk 0 (Ql.mk 1 0 ([]:(L_ Ql))))]:L_ Xs).map Xj) [] [23],.frz 21 (g.map Xj) [] [23],.denilO 23 [none,some 2,none,none,none,none,none,none,none,some 1,none,none,none,none],.O 23 (.var [.s (⟨#[116]⟩:ByteArray),.sl 2 (([]:(L_ YO)).map Xi),.I 1,.I 1,.sl 3 (Yn ([]:(L_ Ql))),.I 1,.I 1,.sl 4 (([(Xs.mk 0 (Ql.mk 1 0 ([]:(L_ Ql))))]:L_ Xs).map Xj),.sl 4 (g.map Xj),.sl 1 (([]:LI_).map Qb),.I 0,.I 0,.I 0,.I 0])] Z (a4_ Z (A ⟨(Jl Qc),(A U)⟩) (A ⟨(Jl Qc),U⟩) Z) ?_
 refine AK.frzVar (p:=2) (i:=2) (b:=23) rfl rfl rfl rfl rfl rfl rfl ?_
 refine Qp d [.O 2 (.var (Qa (Qf.mk ([(QL.mk (⟨#[110]⟩:ByteArray) 2 0 0 ([(⟨#[107]⟩:ByteArray)]:L_ ByteArray) 0 0)]:L_ QL) ([(QP.mk (⟨#[97]⟩:ByteArray) 0 ([]:QBg)),(QP.mk (⟨#[98]⟩:ByteArray) 0 ([]:QBg)),(QP.mk (⟨#[99]⟩:ByteArray) 0 ([]:QBg))]:L_ QP) ([(QH.mk (⟨#[116]⟩:ByteArray) ([]:(L_ YO)) (Ql.mk 1 1 ([]:(L_ Ql))) 1 1 ([(Xs.mk 0 (Ql.mk 1 0 ([]:(L_ Ql))))]:L_ Xs) g ([]:LI_) 0 (0,0,0))]:L_ QH) 0 1))),.K [2] [2]] Z (A Z) ?_
 cases h
 exact AK.done (ex_ [_] (an_ (an_ (ex_ _ (ex_ _ (an_ Z (an_ Z (Or.inl (an_ (Qw.ag Z) (an_ (Qw.sz Z) Z))))))) U) (gives U)))
def YQ (a:QBg):O_ QBg:=(chk ((([]:QBg).length+a.length)*16<=140737488355328)).bind λ_=>some (([]:QBg)++a)
def UP (b):CT 32 [.sl 2 (b.map QQ)] [] (YQ b) (λr=>(.own 600 r.length)) (λr=>[(600,.arr 2 (r.map QQ))]):=by
 refine W 8 func32 rfl λC a r h=>?_
 unfold YQ at h
 refine tg_ a [9] ?_
 refine AK.eqNil rfl rfl rfl (QU a.n rfl) rfl rfl Qpy ?_ ?_
 ·intro c
  replace h:some ([]:QBg)=some r:=by simpa[chk,List.map_eq_nil_iff.1 c] using h
  exact K a [10,.adopt 2 600 2,.O 600 (.arr 2 (([]:QBg).map QQ)),.S 2 (.own 600 ([]:QBg).length)] Z Z Z<|E h Z r1_
 exact X h λd h=>g3_ a [8,.O 5 (.arr 2 (([]:QBg).map QQ)),.S 5 (.own 5 ([]:QBg).length),1,.x (λσ=>σ.app 5 2 7 (([]:QBg)++b).length ((([]:QBg)++b).map QQ)),4,.K [2] [5],.ren 5 600] Z Z Z (Stp.appSB (by_:=16) (zs:=[.I 0,.I 0]) (e:=74) (e':=74) (z':=2) (by':=16) Z Z (QU a.n Z) Z Z Z Qc (by kernel_rfl) (by kernel_rfl) (by kernel_rfl) Z (by decide) (by decide) (QdA d Qc) Z Ya (Jr Qc))<|E h Z r1_
def Dv (a:QBg):O_ Unit:=some ()
def LU (a):CT 107 [.map 618] [(618,.map (QC V.I V.I a))] (Dv a) (λ_=>(.clo (.func 164) [] [.L 1])) (λ_=>[(1,.var [.map 618]),(618,.map (QC V.I V.I a))]):=
 W 4 func107 Z λC b r h=>H b [13] Z<|E h Z r2_
def Wj (a:LI_)(b:Int):O_ LI_:=(chk (a.length+([b]:L_ Int).length<=4294967296)).bind λ_=>some (a++([b]:L_ Int))
def FP (lpl D:Nat)(a:LI_)(c:Int){r:LI_}(h:Wj a c=some r):Re prog lpl (Ui D) (Qqb (.L 619) (.I c)) [(618,.lp lpl (Ui D) (Zy (.L 619)) 0),(619,.var [.own 616 a.length]),(616,.arr 1 (a.map Qb))] (Gives (.b true) [(616,.arr 1 (r.map Qb)),(618,.lp lpl (Ui D) (Zy (.L 619)) 0),(619,.var [.own 616 r.length])]):=by
 refine Re.walk (b:=618) 13 rfl rfl λC e=>?_
 refine tg_ e [3] ?_
 refine AK.done (an_ rfl (ex_ _ (an_ rfl ?_)))
 obtain⟨d,h⟩:=Tb h
 refine Qp e [4,.v (.bd []) [] (.sl 1 (([c]:L_ Int).map Qb)),.app ((a++([c]:L_ Int)).map Qb) (a++([c]:L_ Int)).length,1,.O 619 (.var [.own 616 (a++([c]:L_ Int)).length]),2,.K [] [616,618,619]] Z (a3_ Z ⟨Qc,Ja d Qc,Ya,Jr Qc⟩ Z) ?_
 cases h
 refine AK.done ?_
 exact ex_ _ (an_ Z (gives r3_))
def IG (lpl lpf:Nat)(c:LI_)(i:QBg)(hlen:c.length+i.length<=4294967296):QX prog 164 [.clo (.yield lpl) [] [],.L 620] [(618,.lp lpl (Ui lpf) (Zy (.L 619)) 0),(619,.var [.own 616 c.length]),(616,.arr 1 (c.map Qb)),(620,.var [.map 621]),(621,.map (QC V.I V.I i))] (λv hs=>∃r:L_ Int,r.Perm (c++i.map Prod.fst)/\Gives (.tup []) [(616,.arr 1 (r.map Qb)),(618,.lp lpl (Ui lpf) (Zy (.L 619)) 0),(619,.var [.own 616 r.length]),(620,.var [.map 621]),(621,.map (QC V.I V.I i))] v hs):=by
 refine wk_ 14 func164 λC a=>?_
 refine tg_ a [3] ?_
 refine AK.openMap (b:=621) KN rfl λk l L4 p s=>?_
 refine Qp a [.x (λσ=>(σ.set 5 (.itr k l #[] none)).put 5 (.L 5)),3,.K [0,5] [5,616,618,619,620,621]] Z (A (Stp.range (b:=621) Z Z (QU a.n Z) Z Z GM Z)) ?_
 have hL0:YN L4 #[]=L4:=by simp[YN]
 have z:(c++(YN L4 #[]).map (λq=>q.2.1)).Perm (c++i.map Prod.fst):=by
  rw[hL0]
  refine List.Perm.append_left c ?_
  have:=s.map Prod.fst
  rwa[Sl]at this
 refine AK.range (body:=QkJ) (λ(_:Nat) seen σ=>∃(cur:O_ Nat) (st:L_ Int),(st++(YN L4 seen).map (λq=>q.2.1)).Perm (c++i.map Prod.fst)/\σ=⟨[(0,.clo (.yield lpl) [] []),lk_ 5],[(5,.itr k l seen cur),(616,.arr 1 (st.map Qb)),(618,.lp lpl (Ui lpf) (Zy (.L 619)) 0),(619,.var [.own 616 st.length]),(620,.var [.map 621]),(621,.mapX k l (FN V.I V.I L4) (QC V.I V.I i))]⟩) (λ(q:Empty) _ _=>False) (λ_ e σ=>∃st:L_ Int,st.Perm (c++i.map Prod.fst)/\e=.exit 0/\σ=⟨[],[(616,.arr 1 (st.map Qb)),(618,.lp lpl (Ui lpf) (Zy (.L 619)) 0),(619,.var [.own 616 st.length]),(620,.var [.map 621]),(621,.mapX k l (FN V.I V.I L4) (QC V.I V.I i))]⟩) p s (QlN i 0) (ex_ _ (ex_ c (an_ z rfl))) ?_ ?_
 ·rintro P seen σ ⟨cur,o,hpp,rfl⟩ hex
  refine tg_ a [2] ?_
  refine AK.nextT (b:=5) (m:=621) rfl rfl rfl (QU a.n rfl) rfl rfl rfl rfl ?_ ?_
  ·intro hleft
   refine tg_ a [7,.K [] [616,618,619,620,621]] ?_
   exact AK.done (Or.inl (an_ hleft (an_ (λh=>(by cases h)) (ex_ o (an_ (by simpa[hleft] using hpp) (an_ Z Z))))))
  intro D y S u
  have hpk:=(Qa3 p u).map (λq=>q.2.1)
  have w:((o++[y])++(YN L4 (seen.push D)).map (λq=>q.2.1)).Perm (c++i.map Prod.fst):=List.Perm.trans (by simpa using (List.Perm.append_left o hpk).symm) hpp
  have O:o.length+([y]:L_ Int).length<=4294967296:=by
   have:=w.length_eq
   simp at this ⊢
   omega
  have t:Wj o y=some (o++[y]):=by
   unfold Wj
   rw[Yu O];rfl
  obtain⟨j,hxe⟩:∃x,x=o++[y]:=⟨_,rfl⟩
  rw[<-hxe]at t w
  refine Qp a [10,.x (λσ=>σ.put 8 (.tup [.I y,.I S])),8,.x (λσ=>(σ.after [616] [(616,.arr 1 (j.map Qb)),(618,.lp lpl (Ui lpf) (Zy (.L 619)) 0),(619,.var [.own 616 j.length])]).put 12 (.b true)),6,.K [0,5] [5,616,618,619,620,621]] Z (a2_ (Stp.entryT (b:=5) (m:=621) (e:=V.I) (f:=V.I) Z Z (QU a.n Z) Z u Z Z) (Stp.yieldV (b:=618) (M:=[(618,618),(619,619),(616,616)]) (N:=[(616,616),(618,618),(619,619)]) (dead:=[616]) (ms:=[.d,.d,.d,.d,.d,.d,.d,.d,.d,.d,.d,.d,.d]) (outs:=[(616,.arr 1 (j.map Qb)),(618,.lp lpl (Ui lpf) (Zy (.L 619)) 0),(619,.var [.own 616 j.length])]) (r:=.b true) Z Z Z Z Z Z Z (QU a.n Z) a.g Z Z (FP _ _ _ _ t))) ?_
  exact AK.done (Or.inr (ex_ _ (an_ u (Or.inl (ex_ (P+1) (an_ Z (an_ Z (ex_ _ (ex_ j (an_ w Z))))))))))
 rintro e σ ⟨o,hpp,rfl,rfl⟩
 refine tg_ a [1] ?_
 refine AK.closeMap (b:=621) rfl ?_
 refine tg_ a [.K [] [616,618,619,620,621]] ?_
 refine AK.done ?_
 exact ex_ [] (an_ U (ex_ o (an_ hpp (gives r5_))))
def OS (a:QBg)(h:a.length<=4294967296):QX prog 231 [.Y,.clo (.func 164) [] [.L 618]] [(618,.var [.map 619]),(619,.map (QC V.I V.I a))] (λv hs=>∃r:L_ Int,r.Perm (a.map Prod.fst)/\Gives (.own 600 r.length) [(600,.arr 1 (r.map Qb)),(618,.var [.map 619]),(619,.map (QC V.I V.I a))] v hs):=by
 refine QX.walkR 13 func231 Z ntmps231 Z λC c hR=>?_
 refine tg_ c [13,.K [2,4,6] [2,618,619]] ?_
 refine Qp c [.adoptO 2 0 605 1,.O 605 (.arr 1 (([]:L_ Int).map Qb)),.O 2 (.var [.own 605 ([]:L_ Int).length])] Z (a2_ Z Z) ?_
 refine AK.rangeFE (ι:=L_ Int) (Φ:=λx=>x.Perm (a.map Prod.fst)) 615 [2] [(618,615),(619,2),(616,605),(620,618),(621,619)] [(605,616),(615,618),(2,619),(618,620),(619,621)] [605] [.d,.d] Ui c hR (λ_=>rfl) rfl rfl rfl rfl λlpl lpf=>?_
 refine ex_ (λb:L_ Int=>[(616,.arr 1 (b.map Qb)),(618,.lp lpl (Ui lpf) (Zy (.L 619)) 0),(619,.var [.own 616 b.length]),(620,.var [.map 621]),(621,.map (QC V.I V.I a))]) (ex_ (λ_=>.tup []) (ex_ (λb=>_) (ex_ _ (ex_ _ (an_ rfl (an_ rfl (an_ (IG _ _ ([]:L_ Int) a (by simpa using h)) λb=>ex_ _ (ex_ (Zy (.L 2)) (ex_ 0 (an_ rfl (an_ rfl (an_ (bne_iff_ne.1 (show(0 != 1)=true from rfl)) λD=>?_))))))))))))
 refine QoK Z ?_
 refine tg_ c [9,.K [4] [605,618,619],.ren 605 600,.K [4] [600,618,619]] ?_
 exact AK.done (ex_ [_] (an_ (an_ Z U) (ex_ b (an_ D (gives r3_)))))
def Vf (a:QBg)(h:a.length<=4294967296):QX prog 163 [.clo (.func 164) [] [.L 618]] [(618,.var [.map 619]),(619,.map (QC V.I V.I a))] (λv hs=>∃r:L_ Int,r.Perm (a.map Prod.fst)/\Gives (.own 600 r.length) [(600,.arr 1 (r.map Qb)),(618,.var [.map 619]),(619,.map (QC V.I V.I a))] v hs):=by
 refine wk_ 5 func163 λC c=>?_
 refine tg_ c [8] ?_
 refine AK.callE (ι:=L_ Int) (Φ:=λx=>x.Perm (a.map Prod.fst)) [(618,618),(619,619)] [(4,600),(618,618),(619,619)] [] [.d,.d] (λb=>[(600,.arr 1 (b.map Qb)),(618,.var [.map 619]),(619,.map (QC V.I V.I a))]) (λb=>(.own 600 b.length)) (λb=>_) rfl c (Je.fn rfl rfl rfl) rfl (QU c.n rfl) rfl rfl (OS a h) (λb=>ex_ _ rfl) λb D=>?_
 refine tg_ c [4,.K [2] [4,618,619],.ren 4 600,.K [2] [600,618,619]] ?_
 exact AK.done (ex_ [_] (an_ (an_ Z U) (ex_ b (an_ D (gives r3_)))))
def YF (l:L_ Int):O_ LI_:=(chk (l.length<4611686018427387904)).bind λ_=>some (JG l)
def Dx (l){r}(h:YF l=some r):QX prog 43 [.own 618 l.length] [(618,.arr 1 (l.map Qb))] (Gives (.tup []) [(618,.arr 1 (r.map Qb))]):=by
 obtain⟨_,a,h⟩:=Qz h
 cases h
 exact QjP QlU l (Xw (QgY a))
def FQ (a:QBg):O_ LI_:=(chk (a.length<=4294967296)).bind λ_=>some (JG (a.map Prod.fst))
def Zz (a):CT 106 [.clo (.func 164) [] [.L 618]] [(618,.var [.map 619]),(619,.map (QC V.I V.I a))] (FQ a) (λr=>(.own 600 r.length)) (λr=>[(600,.arr 1 (r.map Qb)),(618,.var [.map 619]),(619,.map (QC V.I V.I a))]):=by
 refine W 9 func106 rfl λC e r h=>?_
 obtain⟨_,D,h⟩:=Qz h
 replace D:=Xw (QgY D)
 cases h
 refine tg_ e [8] ?_
 refine AK.callE (ι:=L_ Int) (Φ:=λx=>x.Perm (a.map Prod.fst)) [(618,618),(619,619)] [(5,600),(618,618),(619,619)] [] [.d] (λb=>[(600,.arr 1 (b.map Qb)),(618,.var [.map 619]),(619,.map (QC V.I V.I a))]) (λb=>(.own 600 b.length)) (λb=>_) rfl e (Je.fn rfl rfl rfl) rfl (QU e.n rfl) rfl rfl (Vf a D) (λb=>ex_ _ rfl) λb hpp=>?_
 have f:YF b=some (JG (a.map Prod.fst)):=by
  unfold YF
  rw[Yu (by have:=hpp.length_eq;simp at this;omega),QkK hpp];rfl
 have c:(JG (a.map Prod.fst)).length=b.length:=by rw[Cu,hpp.length_eq]
 refine Qp e [6,.cm (.fn) [(618,5)] [(5,618)] [] [.d] [(618,.arr 1 (((JG (a.map Prod.fst))).map Qb))] (.tup []),.S 3 (.own 5 (JG (a.map Prod.fst)).length),.S 5 (.own 5 (JG (a.map Prod.fst)).length),.S 6 (.own 5 (JG (a.map Prod.fst)).length),9,.K [2] [5,618,619],.ren 5 600,.K [2] [600,618,619]] Z (a4_ (Dx _ f) (by simp[c]) (by simp[c]) (by simp[c])) ?_
 exact AK.done (ex_ [_] (an_ (an_ Z U) (gives r3_)))
def Gb (b:Int)(a:QBg):O_ ((Int×QBg)⊕QBg):=some (.inl ((Qi (b+1)),a))
def WA (e:LI_)(d:QBg)(b:Int)(c:QBg):O_ ((Int×QBg)⊕QBg):=bif (b<(e.length:Int))then (idx e b).bind λa=>bif (0<((Qs d a).getD 0))then (chk (c.length+([(a,((Qs d a).getD 0))]:QBg).length<=4294967296)).bind λ_=>Gb b (c++([(a,((Qs d a).getD 0))]:QBg))else Gb b c else some (.inr c)
def QbR (a:QBg):O_ QBg:=some a
def Gg (a:QBg):O_ QBg:=(Dv a).bind λc=>(FQ a).bind λb=>(QE (λst=>WA b a st.1 st.2) (0,([]:QBg))).bind (λq=>QbR q)
def FR (b):CT 64 [.map 618] [(618,.map (QC V.I V.I b))] (Gg b) (λr=>(.own 600 r.length)) (λr=>[(600,.arr 2 (r.map QQ)),(618,.map (QC V.I V.I b))]):=
 W 28 func64 Z λC c r h=>B h λP u h=>B h λm w h=>g4_ c [14,.cm (.fn) [(618,618)] [(7,1),(618,618)] [] [.d] [(1,.var [.map 618]),(618,.map (QC V.I V.I b))] (.clo (.func 164) [] [.L 1]),.cm (.fn) [(618,7),(619,618)] [(8,600),(7,618),(618,619)] [] [.d] [(600,.arr 1 (m.map Qb)),(618,.var [.map 619]),(619,.map (QC V.I V.I b))] (.own 600 m.length),5,.adopt 3 18 2,.O 18 (.arr 2 (([]:QBg).map QQ)),.S 3 (.own 18 ([]:QBg).length)] Z (LU _ _ u) (Zz _ _ w) Z (congrArg (λn=>V.own 18 n) (by simp))<|lp_ h (λst=>⟨[(0,.map 618),(3,.own 18 st.2.length),(8,.own 8 m.length),(9,.I (m.length:Int)),(10,.I st.1)],[(8,.arr 1 (m.map Qb)),(18,.arr 2 (st.2.map QQ)),(618,.map (QC V.I V.I b))]⟩) (λq=>(.exit 0,⟨[(3,.own 18 q.length)],[(18,.arr 2 (q.map QQ)),(618,.map (QC V.I V.I b))]⟩)) Z (λ⟨y,D⟩ o h=>H c [6] Z<|I h (λg h=>J c [.T,2] Z g<|mE_ (λi:QBg=>⟨[(0,.map 618),(3,.own 18 i.length),(8,.own 8 m.length),(9,.I (m.length:Int)),(10,.I y)],[(8,.arr 1 (m.map Qb)),(18,.arr 2 (i.map QQ)),(618,.map (QC V.I V.I b))]⟩) (λi=>Gb y i=some o) (B h λa p h=>g3_ c [4,.o (.row (Qb a)),7,.o (.any (.I ((Qs b a).getD 0)) none),3] Z (YJ p Z) (XT (Jf p).2) (λσ s x _=>Stp.lookup (e:=V.I) (f:=V.I) (l:=b) (k:=a) (z:=0) Z Z (QU c.n Z) (s _ _ Z) (x _ _ Z) (s _ _ Z) GM KN Ls Z)<|I h (λj h=>X h λt h=>G c [.T,5,.o (.any (.I ((Qs b a).getD 0)) none),.A (QQ (a,((Qs b a).getD 0))),.v (.bd []) [] (.sl 2 (([(a,((Qs b a).getD 0))]:QBg).map QQ)),.app ((D++([(a,((Qs b a).getD 0))]:QBg)).map QQ) (D++([(a,((Qs b a).getD 0))]:QBg)).length,3] Z (a5_ j (λσ s x _=>Stp.lookup (e:=V.I) (f:=V.I) (l:=b) (k:=a) (z:=0) Z Z (QU c.n Z) (s _ _ Z) (x _ _ Z) (s _ _ Z) GM KN Ls Z) Z Z ⟨Qc,Ja t Qc,Ya,Jr Qc⟩)<|me_ h Z) λj h=>J c [.F,2] Z j<|me_ h Z) λi h=>H c [4] Z<|rN_ h Z) λg h=>J c [.F,2] Z g<|rX_ h Z) λN h=>H c [9,.K [2] [18,618],.ren 18 600] Z<|E h Z r2_
def PN (b:Int)(a:QBg):O_ ((Int×QBg)⊕QBg):=some (.inl ((Qi (b+1)),a))
def AU (d:LI_)(b:Int)(c:QBg):O_ ((Int×QBg)⊕QBg):=bif (b<(d.length:Int))then (idx d b).bind λa=>bif (0<=a)then PN b (XG KM c a (min2 (Qi (((Qs c a).getD 0)+1)) 1048576))else PN b c else some (.inr c)
def ZA (b:QBg):O_ QBg:=(Gg b).bind λa=>some a
def Pc (a:LI_):O_ QBg:=(QE (λst=>AU a st.1 st.2) (0,([]:QBg))).bind (λq=>ZA q)
def Qey (i):CT 34 [.sl 1 (i.map Qb)] [] (Pc i) (λr=>(.own 600 r.length)) (λr=>[(600,.arr 2 (r.map QQ))]):=
 W 25 func34 Z λC c r h=>K c [8,.O 6 (.map (QC V.I V.I ([]:QBg))),7,.o (.ln i.length),4] Z Z Qc<|lp_ h (λst=>⟨[(3,.map 6),(7,.sl 1 (i.map Qb)),(8,.I (i.length:Int)),(9,.I st.1)],[(6,.map (QC V.I V.I st.2))]⟩) (λq=>(.exit 0,⟨[(3,.map 6)],[(6,.map (QC V.I V.I q))]⟩)) Z (λ⟨u,m⟩ o h=>H c [6] Z<|I h (λj h=>J c [.T,2] Z j<|mE_ (λg:QBg=>⟨[(3,.map 6),(7,.sl 1 (i.map Qb)),(8,.I (i.length:Int)),(9,.I u)],[(6,.map (QC V.I V.I g))]⟩) (λg=>PN u g=some o) (B h λa p h=>J c [3,.o (.row (Qb a)),10] Z (Xd p)<|I h (λb h=>g3_ c [.T,5,.o (.any (.I ((Qs m a).getD 0)) none),2,.x (λσ=>σ.set 6 (.map (QC V.I V.I (XG KM m a (min2 (Qi (((Qs m a).getD 0)+1)) 1048576))))),2] Z b (λσ w y _=>Stp.lookup (e:=V.I) (f:=V.I) (l:=m) (k:=a) (z:=0) Z Z (QU c.n Z) (w _ _ Z) (y _ _ Z) (w _ _ Z) GM KN Ls Z) (Stp.mapUpdate (e:=V.I) (f:=V.I) (l:=m) (k:=a) (v:=(min2 (Qi (((Qs m a).getD 0)+1)) 1048576)) KM Z Z Z Z Z Z GM KN Z)<|me_ h Z) λb h=>J c [.F,2] Z b<|me_ h Z) λg h=>H c [4] Z<|rN_ h Z) λj h=>J c [.F,2] Z j<|rX_ h Z) λD h=>B h λs t h=>J c [5,.cm (.fn) [(618,6)] [(24,600),(6,618)] [] [.d] [(600,.arr 2 (s.map QQ)),(618,.map (QC V.I V.I D))] (.own 600 s.length),4,.K [2] [24],.ren 24 600] Z (FR _ _ t)<|E h Z r1_
def Kf (d:QBg)(a:Int)(c:Int):O_ ((Int×Int)⊕(Unit⊕Unit)):=
 bif (c<(d.length:Int))then
 (idx d c).bind λb=>
 bif ((b.1<=a)||((b.2<1)||(1048576<b.2)))then
 some (.inr (.inl ()))
 else
 some (.inl (b.1,(Qi (c+1))))
 else
 some (.inr (.inr ()))
def IH : O_ Bool:=some false
def II : O_ Bool:=some true
def Kg (a:QBg):O_ Bool:=(QE (λst=>Kf a st.1 st.2) ((-1),0)).bind (Sum.elim (λq=>IH) (λq=>II))
def Ue (i):CT 108 [.sl 2 (i.map QQ)] [] (Kg i) V.b no_:=
 W 29 func108 Z λC f r h=>J f [14,.o (.ln i.length),4] Z Qc<|lq_ h (λst=>⟨[(3,.I st.1),(6,.sl 2 (i.map QQ)),(7,.I (i.length:Int)),(8,.I st.2)],[]⟩) (λq=>(.ret,⟨[(2,.b false)],[]⟩)) (λq=>(.exit 0,⟨[],[]⟩)) Z (λ⟨a,l⟩ o h=>H f [6] Z<|I h (λj h=>B h λd k h=>g4_ f [.T,6,.o (.row (QQ d)),.A (QQ d),2,.O 5 (.var (QQ d)),4] Z j (Xd k) Z Z<|Y ⟨[lk_ 5,(6,.sl 2 (i.map QQ)),(7,.I (i.length:Int)),(8,.I l),(25,.b ((d.1<=a)||((d.2<1)||(1048576<d.2))))],[(5,.var (QQ d))]⟩ (H f [6] Z<|bO_ (decide (d.1<=a)) (λc=>G f [.S 16 (.b true),10,.S 25 (.b ((d.1<=a)||((d.2<1)||(1048576<d.2))))] Z ⟨(tc_ c),(cb_ (UN c Z))⟩<|M Z) λc=>L f [.S 16 (.b false),5] Z c<|bO_ (decide (d.2<1)) (λe=>G f [.S 21 (.b true),5,.S 25 (.b ((d.1<=a)||((d.2<1)||(1048576<d.2))))] Z ⟨(tc_ e),(cb_ (We c (UN e Z)))⟩<|M Z) λe=>G f [.S 21 (.b false),5,.S 25 (.b ((d.1<=a)||((d.2<1)||(1048576<d.2))))] Z ⟨(tc_ e),(cb_ (We c (We e Z)))⟩<|M Z)<|H f [1] Z<|I h (λg h=>J f [.T,9] Z g<|rR_ h Z) λg h=>J f [.F,13] Z g<|rN_ h Z) λj h=>J f [.F,2] Z j<|rX_ h Z) (λ_ h=>H f [2] Z<|E h Z U) (λ_ h=>H f [8] Z<|E h Z U)
def Dq (c:QBg)(b:Int)(d:QBg):O_ ((Int×QBg)⊕QBg):=bif (b<(c.length:Int))then (idx c b).bind λa=>some (.inl ((Qi (b+1)),(XG KM d a.1 a.2)))else some (.inr d)
def Qez (a:QBg):O_ (Unit⊕QBg):=some (.inr a)
def CE (a:QBg):O_ (Unit⊕QBg):=(Kg a).bind λb=>bif (!b)then some (.inl ())else (QE (λst=>Dq a st.1 st.2) (0,([]:QBg))).bind (λq=>Qez q)
def EZ (m){r}(h:CE m=some r):QX prog 67 [.sl 2 (m.map QQ)] [] ((Sum.elim (λq=>(Gives (.tup [.lit (.map none),.b false]) [])) (λq=>(Gives (.tup [.map 601,.b true]) [(601,.map (QC V.I V.I q))]))) r):=by
 refine wk_ 24 func67 λC i=>?_
 obtain⟨y,t,h⟩:=Qz h
 refine Qp i [10,.o (.C1 (.b y)),3] Z (A (Ue _ _ t)) ?_
 refine bg_ h (λj h=>Qp i [.T,8,.K [2,3] []] rfl (A j) ?_) λj h=>Qp i [.F,5,.O 10 (.map (QC V.I V.I ([]:QBg))),7,.o (.ln m.length),4,.K [4,11,12,13] [10]] rfl (a3_ j rfl Qc) ?_
 ·cases h
  exact AK.done (ex_ [_,_] (an_ (an_ Z (an_ Z U)) (gives U)))
 obtain⟨u,p,h⟩:=Qz h
 refine AK.loop (body:=(λst=>Dq m st.1 st.2)) (λst σ=>σ=⟨[(4,.map 10),(11,.sl 2 (m.map QQ)),(12,.I (m.length:Int)),(13,.I st.1)],[(10,.map (QC V.I V.I st.2))]⟩) (λq e σ=>e=.exit 0/\σ=⟨[(4,.map 10)],[(10,.map (QC V.I V.I q))]⟩) p rfl ?_ ?_
 ·rintro ⟨z,w⟩ o σ rfl h
  refine tg_ i [6] ?_
  rcases XS h with⟨g,h⟩|⟨g,h⟩
  ·obtain⟨a,s,h⟩:=Qz h
   refine Qp i [.T,6,.o (.row (QQ a)),.A (QQ a),2,.O 6 (.var (QQ a)),8,.x (λσ=>σ.set 10 (.map (QC V.I V.I (XG KM w a.1 a.2)))),7,.K [4,11,12,13] [10]] Z (a5_ g (Xd s) Z Z (Stp.mapUpdate (e:=V.I) (f:=V.I) (l:=w) (k:=a.1) (v:=a.2) KM Z Z Z Z Z Z GM KN Z)) ?_
   cases h
   exact Zt Z Z
  refine Qp i [.F,2,.K [4] [10]] Z (A g) ?_
  cases h
  exact Qa1 Z (an_ Z Z)
 replace h:Qez u=some r:=h
 rintro e σ ⟨rfl,rfl⟩
 refine tg_ i [10,.K [2,3] [10],.ren 10 601,.K [2,3] [601]] ?_
 cases h
 exact AK.done (ex_ [_,_] (an_ (an_ Z (an_ Z U)) (gives r1_)))
def QbG (a:Unit):O_ (Unit⊕(QBg⊕(QBg⊕(QBg×QBg)))):=some (.inl ())
def QbH (a:QBg):O_ (Unit⊕(QBg⊕(QBg⊕(QBg×QBg)))):=some (.inr (.inl a))
def RC (a:QBg)(b:Unit):O_ (Unit⊕(QBg⊕(QBg⊕(QBg×QBg)))):=(CE a).bind (Sum.elim (λq=>QbG q) (λq=>QbH q))
def QbI (a:QBg)(b:Unit):O_ (Unit⊕(QBg⊕(QBg⊕(QBg×QBg)))):=some (.inr (.inr (.inl a)))
def QbJ (b:QBg)(a:QBg):O_ (Unit⊕(QBg⊕(QBg⊕(QBg×QBg)))):=some (.inr (.inr (.inr (b,a))))
def RD (b:QBg)(a:QBg):O_ (Unit⊕(QBg⊕(QBg⊕(QBg×QBg)))):=(CE b).bind (Sum.elim (λq=>QbI a q) (λq=>QbJ a q))
def IJ (b:QBg)(a:QBg):O_ (Unit⊕(QBg⊕(QBg⊕(QBg×QBg)))):=(CE b).bind (Sum.elim (λq=>RC a q) (λq=>RD a q))
def JC (s j){r}(h:IJ s j=some r):QX prog 63 [.sl 2 (s.map QQ),.sl 2 (j.map QQ)] [] ((Sum.elim (λq=>(Gives (.tup [.lit (.map none),.lit (.map none),.b false]) [])) (Sum.elim (λq=>(Gives (.tup [.lit (.map none),.map 603,.b false]) [(603,.map (QC V.I V.I q))])) (Sum.elim (λq=>(Gives (.tup [.map 602,.lit (.map none),.b false]) [(602,.map (QC V.I V.I q))])) (λq=>(Gives (.tup [.map 602,.map 603,.b true]) [(602,.map (QC V.I V.I q.1)),(603,.map (QC V.I V.I q.2))]))))) r):=by
 refine wk_ 25 func63 λC e=>?_
 obtain⟨t,f,h⟩:=Qz h
 refine tg_ e [10] ?_
 rcases t with(u | k)
 ·replace h:RC j u=some r:=h
  obtain⟨l,a,h⟩:=Qz h
  refine Qp e [.cm (.fn) [] [] [] [.d] [] (.tup [.lit (.map none),.b false]),10] Z (A (EZ _ f)) ?_
  rcases l with(m | g)
  ·replace h:QbG m=some r:=h
   refine Qp e [.cm (.fn) [] [] [] [.d] [] (.tup [.lit (.map none),.b false]),21,.K [4,5,6] []] Z (A (EZ _ a)) ?_
   cases h
   exact AK.done (ex_ [_,_,_] (an_ (an_ Z (an_ Z (an_ Z U))) (gives U)))
  replace h:QbH g=some r:=h
  refine Qp e [.cm (.fn) [] [(16,601)] [] [.d] [(601,.map (QC V.I V.I g))] (.tup [.map 601,.b true]),21,.K [4,5,6] [16],.ren 16 603,.K [4,5,6] [603]] Z (A (EZ _ a)) ?_
  cases h
  exact AK.done (ex_ [_,_,_] (an_ (an_ Z (an_ Z (an_ Z U))) (gives r1_)))
 replace h:RD j k=some r:=h
 obtain⟨o,c,h⟩:=Qz h
 refine Qp e [.cm (.fn) [] [(11,601)] [] [.d] [(601,.map (QC V.I V.I k))] (.tup [.map 601,.b true]),10] Z (A (EZ _ f)) ?_
 rcases o with(p | i)
 ·replace h:QbI k p=some r:=h
  refine Qp e [.cm (.fn) [] [] [] [.d] [] (.tup [.lit (.map none),.b false]),21,.K [4,5,6] [11],.ren 11 602,.K [4,5,6] [602]] Z (A (EZ _ c)) ?_
  cases h
  exact AK.done (ex_ [_,_,_] (an_ (an_ Z (an_ Z (an_ Z U))) (gives r1_)))
 replace h:QbJ k i=some r:=h
 refine Qp e [.cm (.fn) [] [(16,601)] [] [.d] [(601,.map (QC V.I V.I i))] (.tup [.map 601,.b true]),21,.K [4,5,6] [11,16],.ren 11 602,.K [4,5,6] [16,602],.ren 16 603,.K [4,5,6] [602,603]] Z (A (EZ _ c)) ?_
 cases h
 exact AK.done (ex_ [_,_,_] (an_ (an_ Z (an_ Z (an_ Z U))) (gives r2_)))
def QcB (a:Unit):O_ (QBg×Int):=some (([]:QBg),1)
def QcC (a:QBg):O_ (QBg×Int):=some (([]:QBg),1)
def QcD (a:QBg):O_ (QBg×Int):=some (([]:QBg),1)
def BK (b:QBg)(a:Int)(c:Int):O_ (QBg⊕Unit):=bif (1048576<((Qs (XG KM b a (Qi (((Qs b a).getD 0)+c))) a).getD 0))then some (.inr ())else some (.inl (XG KM b a (Qi (((Qs b a).getD 0)+c))))
def NS (a:QBg):O_ (QBg×Int):=(Gg a).bind λb=>some (b,0)
def Tc : O_ (QBg×Int):=some (([]:QBg),2)
def Td (a:(QBg×QBg)):O_ (QBg×Int):=(Fk (λst p=>BK st p.1 p.2) a.1 a.2).bind (Sum.elim (λq=>NS q) (λq=>Tc))
def Jw (a:QBg)(b:QBg):O_ (QBg×Int):=(IJ a b).bind (Sum.elim (λq=>QcB q) (Sum.elim (λq=>QcC q) (Sum.elim (λq=>QcD q) (λq=>Td q))))
def Te (a1 b2):CT 33 [.sl 2 (a1.map QQ),.sl 2 (b2.map QQ)] [] (Jw a1 b2) (λr=>(.tup [.sl 2 (r.1.map QQ),.I r.2])) no_:=by
 refine W 38 func33 rfl λC g r h=>?_
 obtain⟨x7,w,h⟩:=Qz h
 refine tg_ g [10] ?_
 rcases x7 with(a8 | (a9 | (P | y)))
 ·exact have h:QcB a8=some r:=h;J g [.cm (.fn) [] [] [] [.d,.d] [] (.tup [.lit (.map none),.lit (.map none),.b false]),25,.denil 4 [some 2]] Z (JC _ _ w)<|F h Z Z U
 ·exact have h:QcC a9=some r:=h;J g [.cm (.fn) [] [(14,603)] [] [.d,.d] [(603,.map (QC V.I V.I a9))] (.tup [.lit (.map none),.map 603,.b false]),25,.denil 4 [some 2]] Z (JC _ _ w)<|F h Z Z U
 ·exact have h:QcD P=some r:=h;J g [.cm (.fn) [] [(14,602)] [] [.d,.d] [(602,.map (QC V.I V.I P))] (.tup [.map 602,.lit (.map none),.b false]),25,.denil 4 [some 2]] Z (JC _ _ w)<|F h Z Z U
 replace h:Td y=some r:=h
 refine Qp g [.cm (.fn) [] [(14,602),(611,603)] [] [.d,.d] [(602,.map (QC V.I V.I y.1)),(603,.map (QC V.I V.I y.2))] (.tup [.map 602,.map 603,.b true]),23] Z (A (JC _ _ w)) ?_
 refine AK.openMapK (b:=611) KN rfl λs t L12 D a2 N=>?_
 refine Qp g [.x (λσ=>(σ.set 21 (.itr s t #[] none)).put 21 (.L 21)),3,.K [6,21] [14,21,611]] Z (A (Stp.range (b:=611) Z Z (QU g.n Z) Z Z GM Z)) ?_
 obtain⟨a3,S,h⟩:=Qz h
 refine AK.range (body:=(λst p=>BK st p.1 p.2)) (λst seen σ=>∃cur:O_ Nat,σ=⟨[(6,.map 14),lk_ 21],[(14,.map (QC V.I V.I st)),(21,.itr s t seen cur),(611,.mapX s t (FN V.I V.I L12) (QC V.I V.I y.2))]⟩) (λq e σ=>e=.ret/\σ=⟨[(4,.Y),(5,.I 2)],[]⟩) (λst e σ=>e=.exit 0/\σ=⟨[(6,.map 14)],[(14,.map (QC V.I V.I st))]⟩) D N S (ex_ _ rfl) ?_ ?_
 ·rintro a seen σ ⟨cur,rfl⟩ hex
  refine tg_ g [2] ?_
  refine AK.nextT (b:=21) (m:=611) rfl rfl rfl (QU g.n rfl) rfl rfl rfl rfl ?_ ?_
  ·intro hleft
   refine tg_ g [7,.K [6] [14]] ?_
   exact AK.done (Or.inl (an_ hleft (an_ (λh=>(by cases h)) (an_ Z Z))))
  intro a4 c j i
  obtain⟨o,h⟩:=hex _ i
  have ho:=h
  replace h:BK a c j=some o:=h
  refine Qp g [10,.x (λσ=>σ.put 24 (.tup [.I c,.I j])),10,.o (.any (.I ((Qs a c).getD 0)) none),2,.x (λσ=>σ.set 14 (.map (QC V.I V.I (XG KM a c (Qi (((Qs a c).getD 0)+j)))))),6,.o (.any (.I ((Qs (XG KM a c (Qi (((Qs a c).getD 0)+j))) c).getD 0)) none),3] Z (a4_ (Stp.entryT (b:=21) (m:=611) (e:=V.I) (f:=V.I) Z Z (QU g.n Z) Z i Z Z) (λσ h1 h2 _=>Stp.lookup (e:=V.I) (f:=V.I) (l:=a) (k:=c) (z:=0) Z Z (QU g.n Z) (h1 _ _ Z) (h2 _ _ Z) (h1 _ _ Z) GM KN Ls Z) (Stp.mapUpdate (e:=V.I) (f:=V.I) (l:=a) (k:=c) (v:=(Qi (((Qs a c).getD 0)+j))) KM Z Z Z Z Z Z GM KN Z) (λσ h1 h2 _=>Stp.lookup (e:=V.I) (f:=V.I) (l:=(XG KM a c (Qi (((Qs a c).getD 0)+j)))) (k:=c) (z:=0) Z Z (QU g.n Z) (h1 _ _ Z) (h2 _ _ Z) (h1 _ _ Z) GM KN Ls Z)) ?_
  refine bq_ g h [.T,8,.K [4,5] []] rfl (λu h=>?_) [.F,2,.K [6,21] [14,21,611]] rfl λu h=>?_
  ·cases h
   exact AK.done (Or.inr (ex_ _ (an_ i (Or.inr (ex_ _ (an_ ho (an_ (λh=>(by cases h)) (an_ Z Z))))))))
  cases h
  exact AK.done (Or.inr (ex_ _ (an_ i (Or.inl (ex_ _ (an_ ho (an_ Z (ex_ _ Z))))))))
 rcases a3 with(a | _)
 ·replace h:NS a=some r:=h
  unfold NS at h
  rintro e σ ⟨rfl,rfl⟩
  exact B h λO a0 h=>K g [5,.cm (.fn) [(618,14)] [(37,600),(14,618)] [] [.d] [(600,.arr 2 (O.map QQ)),(618,.map (QC V.I V.I a))] (.own 600 O.length),5,.frz 37 (O.map QQ) [4] []] Z (FR _ _ a0) (A (Jl Qc))<|F h Z Z U
 replace h:Tc=some r:=h
 unfold Tc at h
 rintro e σ ⟨rfl,rfl⟩
 exact H g [2,.denil 4 [some 2]] Z<|F h Z Z U
def GZ (b:QMk)(c:Int)(a:QBg):O_ ((Int×QMk)⊕QMk):=(chk (b.length+([a]:L_ QBg).length<=4294967296)).bind λ_=>some (.inl ((Qi (c+1)),(b++([a]:L_ QBg))))
def NT (e:Qf)(b:Int)(d:QMk):O_ ((Int×QMk)⊕QMk):=bif (b<(e.Places.length:Int))then (idx e.Places b).bind λf=>(YQ f.First).bind λa=>bif (b==e.From)then (Pc ([0]:L_ Int)).bind λg=>(Jw a g).bind λc=>bif (c.2==0)then GZ d b c.1 else GZ d b a else GZ d b a else some (.inr d)
def QfW (a:QMk):O_ QMk:=some a
def Dy (a:Qf):O_ QMk:=(QE (λst=>NT a st.1 st.2) (0,([]:L_ QBg))).bind (λq=>QfW q)
def Hf (g):CT 13 [.agg (Qa g)] [] (Dy g) (λr=>(.own 600 r.length)) (λr=>[(600,.arr 1 (r.map Qe))]):=
 W 40 func13 Z λC b r h=>g3_ b [16,.o (.ln g.Places.length),4,.adopt 3 34 1,.O 34 (.arr 1 (([]:L_ QBg).map Qe)),.S 3 (.own 34 ([]:L_ QBg).length)] Z Qc Z (congrArg (λn=>V.own 34 n) (by simp))<|lp_ h (λst=>⟨[lk_ 1,(3,.own 34 st.2.length),(10,.sl 3 (g.Places.map Qq)),(11,.I (g.Places.length:Int)),(12,.I st.1)],[(1,.var (Qa g)),(34,.arr 1 (st.2.map Qe))]⟩) (λq=>(.exit 0,⟨[(3,.own 34 q.length)],[(34,.arr 1 (q.map Qe))]⟩)) Z (λ⟨y,m⟩ o h=>H b [6] Z<|I h (λj h=>B h λk p h=>B h λi s h=>G b [.T,7,.o (.row (Qq k)),.A (Qq k),3,.O 5 (.var (Qq k)),6,.o (.co false [.d] 2 (i.map QQ) i.length),3] Z (a5_ j (Xd p) Z Z ⟨(UP _ _ s),Qc,.inl Z⟩)<|mE_ (λa:QBg=>⟨[lk_ 1,(3,.own 34 m.length),(6,.sl 2 (a.map QQ)),(10,.sl 3 (g.Places.map Qq)),(11,.I (g.Places.length:Int)),(12,.I y)],[(1,.var (Qa g)),(34,.arr 1 (m.map Qe))]⟩) (λa=>GZ m y a=some o) (H b [8] Z<|I h (λe h=>B h λl t h=>B h λu w h=>G b [.T,3,.v (.bd []) [] (.sl 1 (([0]:L_ Int).map Qb)),.o (.co false [.d] 2 (l.map QQ) l.length),.frz 27 (l.map QQ) [27] [],.frz 19 (i.map QQ) [6,19,25] [],.o (.C2 (.tup [.sl 2 (u.1.map QQ),.I u.2])),13] Z (a6_ e Z ⟨(Qey _ _ t),Qc,.inl Z⟩ (A (Jl Qc)) (a3_ (Jl Qc) (Jl Qc) (Jl Qc)) (Te _ _ _ w))<|I h (λf h=>J b [.T,4] Z f<|me_ h Z) λf h=>J b [.F,1] Z f<|me_ h Z) λe h=>K b [.F,1,.frz 19 (i.map QQ) [6] []] Z e (A (Jl Qc))<|me_ h Z) λa h=>X h λx h=>K b [3,.v (.bd []) [] (.sl 1 (([a]:L_ QBg).map Qe)),.app ((m++([a]:L_ QBg)).map Qe) (m++([a]:L_ QBg)).length,8] Z Z ⟨Qc,Ja x Qc,Ya,Jr Qc⟩<|rN_ h Z) λj h=>J b [.F,2] Z j<|rX_ h Z) λz h=>H b [9,.K [2] [34],.ren 34 600] Z<|E h Z r1_
def JA (a:QMk):O_ QMk:=(chk ((([]:L_ QBg).length+a.length)*24<=140737488355328)).bind λ_=>some (([]:L_ QBg)++a)
def HG (b):CT 103 [.sl 1 (b.map Qe)] [] (JA b) (λr=>(.own 600 r.length)) (λr=>[(600,.arr 1 (r.map Qe))]):=by
 refine W 8 func103 rfl λC a r h=>?_
 unfold JA at h
 refine tg_ a [9] ?_
 refine AK.eqNil rfl rfl rfl (QU a.n rfl) rfl rfl Qpx ?_ ?_
 ·intro c
  replace h:some ([]:L_ QBg)=some r:=by simpa[chk,List.map_eq_nil_iff.1 c] using h
  exact K a [10,.adopt 2 600 1,.O 600 (.arr 1 (([]:L_ QBg).map Qe)),.S 2 (.own 600 ([]:L_ QBg).length)] Z Z Z<|E h Z r1_
 exact X h λd h=>g3_ a [8,.O 5 (.arr 1 (([]:L_ QBg).map Qe)),.S 5 (.own 5 ([]:L_ QBg).length),1,.x (λσ=>σ.app 5 1 7 (([]:L_ QBg)++b).length ((([]:L_ QBg)++b).map Qe)),4,.K [2] [5],.ren 5 600] Z Z Z (Stp.appSB (by_:=24) (zs:=[.Y]) (e:=70) (e':=70) (z':=1) (by':=24) Z Z (QU a.n Z) Z Z Z Qc (by kernel_rfl) (by kernel_rfl) (by kernel_rfl) Z (by decide) (by decide) (QdA d Qc) Z Ya (Jr Qc))<|E h Z r1_
def IK (e:QMk)(a:Int)(b:QMk):O_ ((Int×QMk)⊕QMk):=bif (a<(e.length:Int))then (idx b a).bind λc=>(YQ c).bind λd=>(idx b a).bind λf=>some (.inl ((Qi (a+1)),(b.set a.toNat d)))else some (.inr b)
def Qha (a:QMk):O_ QMk:=some a
def AV (b:QMk):O_ QMk:=(JA b).bind λa=>(QE (λst=>IK a st.1 st.2) (0,a)).bind (λq=>Qha q)
def IL (s):CT 60 [.sl 1 (s.map Qe)] [] (AV s) (λr=>(.own 600 r.length)) (λr=>[(600,.arr 1 (r.map Qe))]):=
 W 22 func60 Z λC f r h=>B h λi j h=>J f [8,.o (.co false [.d] 1 (i.map Qe) i.length),12] Z ⟨(HG _ _ j),Qc,.inl Z⟩<|lp_ h (λst=>⟨[(3,.own 7 st.2.length),(8,.own 7 st.2.length),(9,.I (i.length:Int)),(10,.I st.1)],[(7,.arr 1 (st.2.map Qe))]⟩) (λq=>(.exit 0,⟨[(3,.own 7 q.length)],[(7,.arr 1 (q.map Qe))]⟩)) Z (λ⟨k,l⟩ o h=>H f [6] Z<|I h (λb h=>B h λm c h=>B h λa g h=>B h λp e h=>G f [.T,8,.o (.row (Qe m)),8,.o (.co false [.d] 2 (a.map QQ) a.length),1,.frz 18 (a.map QQ) [18] [],.st (Qe p) ((l.set k.toNat a).map Qe),7,.S 3 (.own 7 (l.set k.toNat a).length),.S 8 (.own 7 (l.set k.toNat a).length)] Z (a9_ b (YJ c Z) (XT (Jf c).2) ⟨(UP _ _ g),Qc,.inl Z⟩ (YJ e Z) (A (Jl Qc)) ⟨(XT (Jf e).2),BC Z⟩ (congrArg (λn=>V.own 7 n) (by simp)) (congrArg (λn=>V.own 7 n) (by simp)))<|rN_ h Z) λb h=>J f [.F,2] Z b<|rX_ h Z) λt h=>H f [9,.K [2] [7],.ren 7 600] Z<|E h Z r1_
def QeK (c:Int)(a:Int)(b:LI_):O_ ((Int×LI_)⊕LI_):=bif (0<=a)then (chk (0<=(Qi (8*a)))).bind λ_=>(chk (b.length+([(IntKind.u8.wrap (Jm .i64 c (Qi (8*a))))]:L_ Int).length<=4294967296)).bind λ_=>some (.inl ((Qi (a-1)),(b++([(IntKind.u8.wrap (Jm .i64 c (Qi (8*a))))]:L_ Int))))else some (.inr b)
def QeL (b:Int)(a:LI_):O_ ((Int×LI_)⊕LI_):=some (.inl ((Qi (b+1)),a))
def QeM (d:LI_)(a:Int)(b:Int)(e:LI_):O_ ((Int×LI_)⊕LI_):=bif (b<(d.length:Int))then (idx d b).bind λc=>(QE (λst=>QeK c st.1 st.2) ((Qi (a-1)),e)).bind (λq=>QeL b q)else some (.inr e)
def QeN (a:LI_):O_ LI_:=some a
def RE (a:Int)(b:LI_):O_ LI_:=(QE (λst=>QeM b a st.1 st.2) (0,([]:L_ Int))).bind (λq=>QeN q)
def QeO (a g):CT 228 [.Y,.I a,.sl 1 (g.map Qb)] [] (RE a g) (λr=>(.own 600 r.length)) (λr=>[(600,.arr 1 (r.map YL))]):=
 W 32 func228 Z λC c r h=>g3_ c [9,.o (.ln g.length),4,.adopt 0 22 1,.O 22 (.arr 1 (([]:L_ Int).map YL)),.S 0 (.own 22 ([]:L_ Int).length)] Z Qc Z (congrArg (λn=>V.own 22 n) (by simp))<|lp_ h (λst=>⟨[(0,.own 22 st.2.length),(1,.I a),(10,.sl 1 (g.map Qb)),(11,.I (g.length:Int)),(12,.I st.1)],[(22,.arr 1 (st.2.map YL))]⟩) (λq=>(.exit 0,⟨[(0,.own 22 q.length)],[(22,.arr 1 (q.map YL))]⟩)) Z (λ⟨s,w⟩ o h=>H c [6] Z<|I h (λd h=>B h λb j h=>K c [.T,6,.o (.row (Qb b)),12] Z d (Xd j)<|lp_ h (λst=>⟨[(0,.own 22 st.2.length),(1,.I a),(8,.I b),(9,.I st.1),(10,.sl 1 (g.map Qb)),(11,.I (g.length:Int)),(12,.I s)],[(22,.arr 1 (st.2.map YL))]⟩) (λq=>(.exit 2,⟨[(0,.own 22 q.length),(1,.I a),(10,.sl 1 (g.map Qb)),(11,.I (g.length:Int)),(12,.I s)],[(22,.arr 1 (q.map YL))]⟩)) Z (λ⟨e,k⟩ o h=>H c [7] Z<|I h (λf h=>X h λl h=>X h λm h=>G c [.T,9,.o (.any (.I (Jm .i64 b (Qi (8*e)))) none),.o (.any (.i .u8 (IntKind.u8.wrap (Jm .i64 b (Qi (8*e))))) none),.v (.bd []) [] (.sl 1 (([(IntKind.u8.wrap (Jm .i64 b (Qi (8*e))))]:L_ Int).map YL)),.app ((k++([(IntKind.u8.wrap (Jm .i64 b (Qi (8*e))))]:L_ Int)).map YL) (k++([(IntKind.u8.wrap (Jm .i64 b (Qi (8*e))))]:L_ Int)).length,9] Z (a5_ f (λσ p t _=>Stp.shr Z Z (QU c.n Z) (p _ _ Z) (p _ _ Z) (Xw l)) (λσ p t _=>Stp.convI Z Z (QU c.n Z) (p _ _ Z) QeJ QkN) Z ⟨Qc,Ja m Qc,Ya,Jr Qc⟩)<|rN_ h Z) λf h=>J c [.F,2] Z f<|rX_ h Z) λu h=>H c [7] Z<|rN_ h Z) λd h=>J c [.F,2] Z d<|rX_ h Z) λx h=>H c [9,.K [6] [22],.ren 22 600] Z<|E h Z r1_
def Uj (c:Int)(a:Int)(b:LI_):O_ ((Int×LI_)⊕LI_):=bif (0<=a)then (chk (0<=(Qi (8*a)))).bind λ_=>(chk (b.length+([(IntKind.u8.wrap (Jm .i64 c (Qi (8*a))))]:L_ Int).length<=4294967296)).bind λ_=>some (.inl ((Qi (a-1)),(b++([(IntKind.u8.wrap (Jm .i64 c (Qi (8*a))))]:L_ Int))))else some (.inr b)
def Tf (b:Int)(a:LI_):O_ ((Int×LI_)⊕LI_):=some (.inl ((Qi (b+1)),a))
def CF (d:LI_)(a:Int)(b:Int)(e:LI_):O_ ((Int×LI_)⊕LI_):=bif (b<(d.length:Int))then (idx d b).bind λc=>(QE (λst=>Uj c st.1 st.2) ((Qi (a-1)),e)).bind (λq=>Tf b q)else some (.inr e)
def QeP (a:LI_):O_ LI_:=some a
def Ac (b:LI_)(a:Int)(c:LI_):O_ LI_:=(QE (λst=>CF c a st.1 st.2) (0,b)).bind (λq=>QeP q)
def Tg (s a g):CT 228 [.own 616 s.length,.I a,.sl 1 (g.map Qb)] [(616,.arr 1 (s.map YL))] (Ac s a g) (λr=>(.own 616 r.length)) (λr=>[(616,.arr 1 (r.map YL))]):=
 W 32 func228 Z λC c r h=>J c [9,.o (.ln g.length),4] Z Qc<|lp_ h (λst=>⟨[(0,.own 616 st.2.length),(1,.I a),(10,.sl 1 (g.map Qb)),(11,.I (g.length:Int)),(12,.I st.1)],[(616,.arr 1 (st.2.map YL))]⟩) (λq=>(.exit 0,⟨[(0,.own 616 q.length)],[(616,.arr 1 (q.map YL))]⟩)) Z (λ⟨t,y⟩ o h=>H c [6] Z<|I h (λd h=>B h λb j h=>K c [.T,6,.o (.row (Qb b)),12] Z d (Xd j)<|lp_ h (λst=>⟨[(0,.own 616 st.2.length),(1,.I a),(8,.I b),(9,.I st.1),(10,.sl 1 (g.map Qb)),(11,.I (g.length:Int)),(12,.I t)],[(616,.arr 1 (st.2.map YL))]⟩) (λq=>(.exit 2,⟨[(0,.own 616 q.length),(1,.I a),(10,.sl 1 (g.map Qb)),(11,.I (g.length:Int)),(12,.I t)],[(616,.arr 1 (q.map YL))]⟩)) Z (λ⟨e,k⟩ o h=>H c [7] Z<|I h (λf h=>X h λl h=>X h λm h=>G c [.T,9,.o (.any (.I (Jm .i64 b (Qi (8*e)))) none),.o (.any (.i .u8 (IntKind.u8.wrap (Jm .i64 b (Qi (8*e))))) none),.v (.bd []) [] (.sl 1 (([(IntKind.u8.wrap (Jm .i64 b (Qi (8*e))))]:L_ Int).map YL)),.app ((k++([(IntKind.u8.wrap (Jm .i64 b (Qi (8*e))))]:L_ Int)).map YL) (k++([(IntKind.u8.wrap (Jm .i64 b (Qi (8*e))))]:L_ Int)).length,9] Z (a5_ f (λσ p u _=>Stp.shr Z Z (QU c.n Z) (p _ _ Z) (p _ _ Z) (Xw l)) (λσ p u _=>Stp.convI Z Z (QU c.n Z) (p _ _ Z) QeJ QkN) Z ⟨Qc,Ja m Qc,Ya,Jr Qc⟩)<|rN_ h Z) λf h=>J c [.F,2] Z f<|rX_ h Z) λw h=>H c [7] Z<|rN_ h Z) λd h=>J c [.F,2] Z d<|rX_ h Z) λx h=>H c [9] Z<|E h Z r1_
def MR (a:QBg):O_ Bool:=(Kg a).bind λb=>bif (!b)then some true else bif (65535<(a.length:Int))then some true else bif (0<(a.length:Int))then (idx a (Qi ((a.length:Int)-1))).bind λc=>some (decide (4294967295<c.1))else some false
def CG (b:QBg)(a:Int)(c:LI_):O_ ((Int×LI_)⊕LI_):=bif (a<(b.length:Int))then (idx b a).bind λd=>(Ac c 4 ([d.1,d.2]:L_ Int)).bind λe=>some (.inl ((Qi (a+1)),e))else some (.inr c)
def Th (b:Int)(a:LI_):O_ ((Int×LI_)⊕(Unit⊕LI_)):=some (.inl ((Qi (b+1)),a))
def Ti (b:LI_)(a:QBg)(e:Int)(c:Bool):O_ ((Int×LI_)⊕(Unit⊕LI_)):=bif c then some (.inr (.inl ()))else (Ac b 2 ([(a.length:Int)]:L_ Int)).bind λd=>(QE (λst=>CG a st.1 st.2) (0,d)).bind (λq=>Th e q)
def CH (e:QMk)(c:Int)(a:LI_):O_ ((Int×LI_)⊕(Unit⊕LI_)):=bif (c<(e.length:Int))then (idx e c).bind λb=>(MR b).bind (λd=>Ti a b c d)else some (.inr (.inr a))
def QeQ : O_ (LI_×Int):=some (([]:L_ Int),1)
def QeR (a:LI_):O_ (LI_×Int):=some (a,0)
def Ad (a:QMk):O_ (LI_×Int):=bif (64<(a.length:Int))then some (([]:L_ Int),1)else (RE 1 ([(a.length:Int)]:L_ Int)).bind λb=>(QE (λst=>CH a st.1 st.2) (0,b)).bind (Sum.elim (λq=>QeQ) (λq=>QeR q))
def Tj (f):CT 160 [.sl 1 (f.map Qe)] [] (Ad f) (λr=>(.tup [.sl 1 (r.1.map YL),.I r.2])) no_:=
 W 66 func160 Z λC a r h=>J a [10,.o (.ln f.length),3] Z Qc<|I h (λs h=>J a [.T,8,.denil 2 [some 1]] Z s<|F h Z Z U) λs h=>B h λx7 a1 h=>G a [.F,5,.o (.ln f.length),.v (.bd []) [] (.sl 1 (([(f.length:Int)]:L_ Int).map Qb)),.cm (.fn) [] [(15,600)] [] [.d,.d,.d] [(600,.arr 1 (x7.map YL))] (.own 600 x7.length),7,.o (.ln f.length),4] Z (a5_ s Qc Z (QeO _ _ _ a1) Qc)<|lq_ h (λst=>⟨[(4,.own 15 st.2.length),(16,.sl 1 (f.map Qe)),(17,.I (f.length:Int)),(18,.I st.1)],[(15,.arr 1 (st.2.map YL))]⟩) (λq=>(.ret,⟨[(2,.Y),(3,.I 1)],[]⟩)) (λq=>(.exit 0,⟨[(4,.own 15 q.length)],[(15,.arr 1 (q.map YL))]⟩)) Z (λ⟨x9,u⟩ o h=>H a [6] Z<|I h (λg h=>B h λe w h=>K a [.T,6,.o (.row (Qe e)),6] Z g (Xd w)<|mV_ h (λt=>⟨[(4,.own 15 u.length),(6,.sl 2 (e.map QQ)),(16,.sl 1 (f.map Qe)),(17,.I (f.length:Int)),(18,.I x9),(44,.b t)],[(15,.arr 1 (u.map YL))]⟩) (λt h=>B h λa2 x h=>J a [2,.o (.C1 (.b a2)),2] Z (Ue _ _ x)<|I h (λi h=>L a [.S 25 (.b true),20] Z i<|mq_ h Z) λi h=>G a [.S 25 (.b false),1,.o (.ln e.length),3] Z ⟨(tc_ i),Qc⟩<|I h (λj h=>L a [.S 30 (.b true),15] Z j<|mq_ h Z) λj h=>G a [.S 30 (.b false),1,.o (.ln e.length),2] Z ⟨(tc_ j),Qc⟩<|I h (λk h=>B h λa3 y h=>G a [.S 34 (.b true),2,.o (.ln e.length),1,.o (.row (QQ a3)),6] Z ⟨⟨(tc_ k),Qc⟩,(Xd y)⟩<|mq_ h Z) λk h=>L a [.S 34 (.b false),11] Z k<|mq_ h Z) λt h=>H a [1] Z<|I h (λl h=>J a [.T,10] Z l<|rR_ h Z) λl h=>B h λz D h=>G a [.F,6,.o (.ln e.length),.v (.bd []) [] (.sl 1 (([(e.length:Int)]:L_ Int).map Qb)),.cm (.fn) [(616,15)] [(15,616)] [15] [.d,.d,.d] [(616,.arr 1 (z.map YL))] (.own 616 z.length),6,.o (.ln e.length),4] Z (a5_ l Qc Z (Tg _ _ _ _ D) Qc)<|lp_ h (λst=>⟨[(4,.own 15 st.2.length),(16,.sl 1 (f.map Qe)),(17,.I (f.length:Int)),(18,.I x9),(50,.sl 2 (e.map QQ)),(51,.I (e.length:Int)),(52,.I st.1)],[(15,.arr 1 (st.2.map YL))]⟩) (λq=>(.exit 2,⟨[(4,.own 15 q.length),(16,.sl 1 (f.map Qe)),(17,.I (f.length:Int)),(18,.I x9)],[(15,.arr 1 (q.map YL))]⟩)) Z (λ⟨a5,a6⟩ o h=>H a [6] Z<|I h (λm h=>B h λp N h=>B h λP a0 h=>G a [.T,6,.o (.row (QQ p)),.A (QQ p),2,.O 8 (.var (QQ p)),8,.v (.bd []) [] (.sl 1 (([p.1,p.2]:L_ Int).map Qb)),.cm (.fn) [(616,15)] [(15,616)] [15] [.d,.d,.d] [(616,.arr 1 (P.map YL))] (.own 616 P.length),8] Z (a6_ m (Xd N) Z Z Z (Tg _ _ _ _ a0))<|rN_ h Z) λm h=>J a [.F,2] Z m<|rX_ h Z) λa7 h=>H a [7] Z<|rN_ h Z) λg h=>J a [.F,2] Z g<|rX_ h Z) (λ_ h=>H a [2,.denil 2 [some 1]] Z<|F h Z Z U) (λa4 h=>J a [10,.frz 15 (a4.map YL) [2] []] Z (A (Jl Qc))<|F h Z Z U)
def PO (a:QMk):O_ ByteArray:=(Ad a).bind λb=>some (He b.1)
def ZZ (e):CT 104 [.sl 1 (e.map Qe)] [] (PO e) V.s no_:=
 W 12 func104 Z λC f r h=>B h λa b h=>K f [8,.o (.C1 (.tup [.sl 1 (a.1.map YL),.I a.2])),10,.o (.any (.s (He a.1)) none),4] Z (Tj _ _ b) (λσ g i _=>Stp.b2s Z Z (QU f.n Z) (g _ _ Z) Z QlV QkN (Qw.sb Z))<|E h Z U
def WC (g:(L_ QL))(h:(L_ QP))(i:(L_ QH))(j:Int)(k:Int)(f:Int)(d:(L_ (ByteArray×Int)))(b:(L_ QMk))(m:(L_ QW))(c:Bool)(a:QMk):O_ (Int×(L_ QMk)×(L_ QL)×(L_ QP)×(L_ QH)×Int×Int×Int×Bool×(L_ (ByteArray×Int))):=(PO a).bind λe=>bif (Qs d e).isSome then some (((Qs d e).getD 0),b,g,h,i,j,k,f,c,d)else bif ((min2 f 4096)<=(b.length:Int))then some ((-1),b,g,h,i,j,k,f,c,d)else (PO a).bind λl=>(chk (b.length+([a]:L_ QMk).length<=4294967296)).bind λ_=>some ((b.length:Int),(b++([a]:L_ QMk)),g,h,i,j,k,f,c,(XG OT d l (b.length:Int)))
def Hg (v1 v2 v3 v4 v5 v6 t q x u g):CT 61 [.L 618,.sl 1 (g.map Qe)] [(618,.var [.sl 7 (v1.map Qr),.sl 3 (v2.map Qq),.sl 14 (v3.map Qh),.I v4,.I v5,.I v6,.map 619,.own 616 q.length,.own 617 x.length,.b u]),(619,.map (QC V.s V.I t)),(616,.arr 1 (q.map Qt)),(617,.arr 6 (x.map QR))] (WC v1 v2 v3 v4 v5 v6 t q x u g) (λr=>(.I r.1)) (λr=>[(616,.arr 1 (r.2.1.map Qt)),(617,.arr 6 (x.map QR)),(618,.var [.sl 7 (r.2.2.1.map Qr),.sl 3 (r.2.2.2.1.map Qq),.sl 14 (r.2.2.2.2.1.map Qh),.I r.2.2.2.2.2.1,.I r.2.2.2.2.2.2.1,.I r.2.2.2.2.2.2.2.1,.map 619,.own 616 r.2.1.length,.own 617 x.length,.b r.2.2.2.2.2.2.2.2.1]),(619,.map (QC V.s V.I r.2.2.2.2.2.2.2.2.2))]):=
 W 59 func61 Z λC i r h=>B h λp D h=>H i [6] Z <| 
  dr_ i [.N,.N,.N,.N,.N,.B (.C1 (.s p)),.B (.any (.tup [.I ((Qs t p).getD 0),.b (Qs t p).isSome]) none),.N,.N,.N,.N,.N] [] [] [0,1,5,6] [616,617,618,619] Z Z (a2_ (ZZ _ _ D) (λσ y h2 _=>Stp.lookupOk (e:=V.s) (f:=V.I) (l:=t) (k:=p) (z:=0) Z Z (QU i.n Z) (y _ _ Z) (h2 _ _ Z) (y _ _ Z) QlT Qbe Ls Z Z)) Z <|
  H i [9] Z<|I h (λj h=>J i [.T,9] Z j<|E h Z r4_) λj h=>G i [.F,1] Z (A j) <| 
  dr_ i [.N,.N,.N,.N,.N,.N,.N,.N,.N,.N,.N,.N,.N] [] [] [0,1,20] [616,617,618,619] Z Z U Z <|
  H i [1] Z<|I h (λo h=>J i [.T,8] Z o<|E h Z r4_) λo h=>B h λw P h=>G i [.F,15] Z (A o) <| 
  dr_ i [.N,.N,.N,.N,.N,.B (.C1 (.s w)),.N,.m (.any ⟨[],[(619,.map (QC V.s V.I (XG OT t w (q.length:Int))))],none⟩)] [] [] [0,1,5] [616,617,618,619] Z Z (a2_ (ZZ _ _ P) (λσ y h2=>Stp.mapUpdate (e:=V.s) (f:=V.I) (l:=t) (k:=w) (v:=(q.length:Int)) OT Z Z (y _ _ Z) (h2 _ _ Z) (y _ _ Z) (y _ _ Z) QlT Qbe Z)) Z <|
  X h λS h=>g3_ i [10,.v (.bd []) [] (.sl 1 (([g]:L_ QMk).map Qt)),.app ((q++([g]:L_ QMk)).map Qt) (q++([g]:L_ QMk)).length,4,.O 618 (.var [.sl 7 (v1.map Qr),.sl 3 (v2.map Qq),.sl 14 (v3.map Qh),.I v4,.I v5,.I v6,.map 619,.own 616 (q++([g]:L_ QMk)).length,.own 617 x.length,.b u]),9] Z Z ⟨Qc,Ja S Qc,Ya,Jr Qc⟩ Z<|E h Z r4_
def Qaa (a:Unit):O_ Int:=some 0
noncomputable def Kh (n9:Int)(D:Int)(h:Int):O_ (Int⊕Empty):=some (.inl (Qi (n9+h)))
def Pd (a:Int):O_ Int:=some a
noncomputable def BL (h:QBg):O_ Int:=(Fk (λst p=>Kh st p.1 p.2) 0 h).bind (Sum.elim (λq=>Pd q) (λq=>Empty.elim q))
def Ua (a:QBg):O_ Int:=(CE a).bind (Sum.elim (λq=>Qaa q) (λq=>BL q))
def Pe (z):CT 38 [.sl 2 (z.map QQ)] [] (Ua z) V.I no_:=by
 refine W 23 func38 rfl λC a r h=>?_
 obtain⟨N,j,h⟩:=Qz h
 refine tg_ a [8] ?_
 rcases N with(O | v)
 ·exact have h:Qaa O=some r:=h;K a [.cm (.fn) [] [] [] [.d] [] (.tup [.lit (.map none),.b false]),16,.x (λσ=>(σ.set 14 .itr0).put 14 (.L 14)),3] Z (EZ _ j) (Stp.range0 Z Z (QU a.n Z) Z GM Z)<|AK.loopOnce<|J a [2,.x (λσ=>σ.put 15 (.tup [.b false])),17] Z (Stp.next0 Z Z (QU a.n Z) Z Z)<|E h Z U
 replace h:BL v=some r:=h
 refine Qp a [.cm (.fn) [] [(10,601)] [] [.d] [(601,.map (QC V.I V.I v))] (.tup [.map 601,.b true]),16] Z (A (EZ _ j)) ?_
 refine AK.openMap (b:=10) KN rfl λc g L7 k l=>?_
 refine Qp a [.x (λσ=>(σ.set 14 (.itr c g #[] none)).put 14 (.L 14)),3,.K [5,14] [10,14]] Z (A (Stp.range (b:=10) Z Z (QU a.n Z) Z Z GM Z)) ?_
 obtain⟨w,s,h⟩:=Qz h
 refine AK.range (body:=(λst p=>Kh st p.1 p.2)) (λst seen σ=>∃cur:O_ Nat,σ=⟨[(5,.I st),lk_ 14],[(10,.mapX c g (FN V.I V.I L7) (QC V.I V.I v)),(14,.itr c g seen cur)]⟩) (λ(q:Empty) _ _=>False) (λst e σ=>e=.exit 0/\σ=⟨[(5,.I st)],[]⟩) k l s (ex_ _ rfl) ?_ ?_
 ·rintro y seen σ ⟨cur,rfl⟩ hex
  refine tg_ a [2] ?_
  refine AK.nextT (b:=14) (m:=10) rfl rfl rfl (QU a.n rfl) rfl rfl rfl rfl ?_ ?_
  ·intro hleft
   refine tg_ a [7,.K [5] []] ?_
   exact AK.done (Or.inl (an_ hleft (an_ (λh=>(by cases h)) (an_ Z Z))))
  intro D t u i
  obtain⟨o,h⟩:=hex _ i
  have ho:=h
  replace h:Kh y t u=some o:=h
  refine Qp a [10,.x (λσ=>σ.put 17 (.tup [.I t,.I u])),11,.K [5,14] [10,14]] Z (A (Stp.entryT (b:=14) (m:=10) (e:=V.I) (f:=V.I) Z Z (QU a.n Z) Z i Z Z)) ?_
  cases h
  exact AK.done (Or.inr (ex_ _ (an_ i (Or.inl (ex_ _ (an_ ho (an_ Z (ex_ _ Z))))))))
 rcases w with(y | q)
 ·replace h:Pd y=some r:=h
  unfold Pd at h
  rintro e σ ⟨rfl,rfl⟩
  exact H a [9] Z<|E h Z U
 exact q.elim
def Hh (c:QMk)(d:Int)(a:Int):O_ ((Int×Int)⊕Int):=bif (a<(c.length:Int))then (idx c a).bind λe=>(Ua e).bind λb=>some (.inl ((Qi (d+b)),(Qi (a+1))))else some (.inr d)
def QfX (a:Int):O_ Int:=some a
def HT (a:QMk):O_ Int:=(QE (λst=>Hh a st.1 st.2) (0,0)).bind (λq=>QfX q)
def VD (b):CT 49 [.sl 1 (b.map Qe)] [] (HT b) V.I no_:=
 W 18 func49 Z λC e r h=>J e [14,.o (.ln b.length),4] Z Qc<|lp_ h (λst=>⟨[(3,.I st.1),(6,.sl 1 (b.map Qe)),(7,.I (b.length:Int)),(8,.I st.2)],[]⟩) (λq=>(.exit 0,⟨[(3,.I q)],[]⟩)) Z (λ⟨k,l⟩ o h=>H e [6] Z<|I h (λa h=>B h λj g h=>B h λi f h=>g3_ e [.T,6,.o (.row (Qe j)),7,.o (.C1 (.I i)),9] Z a (Xd g) (Pe _ _ f)<|rN_ h Z) λa h=>J e [.F,2] Z a<|rX_ h Z) λm h=>H e [9] Z<|E h Z U
def Et (a:QLL):O_ QLL:=some a
def QdH (b:Int)(a:Int)(c:LI_):O_ ((Int×LI_)⊕LI_):=bif (a<b)then (chk (c.length+([a]:L_ Int).length<=4294967296)).bind λ_=>some (.inl ((Qi (a+1)),(c++([a]:L_ Int))))else some (.inr c)
def QdI (a:LI_):O_ QLL:=some ([a]:QLL)
def QdJ (b:Int)(a:Int)(c:QLL):O_ ((Int×QLL)⊕QLL):=bif (a<b)then (chk (c.length+([([a]:L_ Int)]:QLL).length<=4294967296)).bind λ_=>some (.inl ((Qi (a+1)),(c++([([a]:L_ Int)]:QLL))))else some (.inr c)
def QdK (a:QLL):O_ QLL:=Et a
def Lt (a:Int)(b:LI_):O_ ((Int×LI_)⊕LI_):=some (.inl ((Qi (a+1)),b))
def QdL (c:Int)(h:Int)(a:Int)(b:LI_):O_ ((Int×LI_)⊕LI_):=bif (a<c)then (chk (0<=a)).bind λ_=>bif ((Wi .i64 (Jm .i64 h a) 1)==1)then (chk (b.length+([a]:L_ Int).length<=4294967296)).bind λ_=>Lt a (b++([a]:L_ Int))else Lt a b else some (.inr b)
def QdM (a:QLL)(h:Int)(b:LI_):O_ ((Int×QLL)⊕QLL):=(chk (a.length+([b]:QLL).length<=4294967296)).bind λ_=>some (.inl ((Qi (h+1)),(a++([b]:QLL))))
def QdN (a:Int)(h:Int)(b:QLL):O_ ((Int×QLL)⊕QLL):=(chk (0<=a)).bind λ_=>bif (h<(QkG .i64 1 a))then (QE (λst=>QdL a h st.1 st.2) (0,([]:L_ Int))).bind (λq=>QdM b h q)else some (.inr b)
def QcE (a:QLL):O_ QLL:=Et a
def Wk (b:Int)(a:Int):O_ QLL:=
 bif ((a<0)||((16<a)||((b==3)&&(4<a))))then
 some ([]:QLL)
 else
 bif (b==1)then
 (QE (λst=>QdH a st.1 st.2) (0,([]:L_ Int))).bind (λq=>QdI q)
 else
 bif (b==2)then
 (QE (λst=>QdJ a st.1 st.2) (0,([]:QLL))).bind (λq=>QdK q)
 else
 bif (b==3)then
 (QE (λst=>QdN a st.1 st.2) (1,([]:QLL))).bind (λq=>QcE q)
 else
 Et ([]:QLL)
def Lu (d a):CT 169 [.I d,.I a] [] (Wk d a) (λr=>(.own 600 r.length)) (λr=>[(600,.arr 1 (r.map QN))]):=
 W 79 func169 Z λC c r h=>H c [7] Z<|Y ⟨[(0,.I d),(1,.I a),(25,.b ((a<0)||((16<a)||((d==3)&&(4<a)))))],[]⟩ (H c [4] Z<|bO_ (decide (a<0)) (λf=>G c [.S 14 (.b true),12,.S 25 (.b ((a<0)||((16<a)||((d==3)&&(4<a)))))] Z ⟨(tc_ f),(cb_ (UN f Z))⟩<|M Z) λf=>L c [.S 14 (.b false),4] Z f<|bO_ (decide (16<a)) (λi=>G c [.S 18 (.b true),8,.S 25 (.b ((a<0)||((16<a)||((d==3)&&(4<a)))))] Z ⟨(tc_ i),(cb_ (We f (UN i Z)))⟩<|M Z) λi=>L c [.S 18 (.b false),3] Z i<|bO_ (d==3) (λj=>G c [.S 21 (.b true),5,.S 25 (.b ((a<0)||((16<a)||((d==3)&&(4<a)))))] Z ⟨(tc_ j),(cb_ (We f (We i (Ju j Z))))⟩<|M Z) λj=>G c [.S 21 (.b false),5,.S 25 (.b ((a<0)||((16<a)||((d==3)&&(4<a)))))] Z ⟨(tc_ j),(cb_ (We f (We i (WM j Z))))⟩<|M Z)<|H c [1] Z<|I h (λP h=>g3_ c [.T,7,.adopt 4 600 1,.O 600 (.arr 1 (([]:QLL).map QN)),.S 4 (.own 600 ([]:QLL).length)] Z P Z Z<|E h Z r1_) λP h=>J c [.F,7] Z P<|mE_ (λk:QLL=>⟨[(5,.own 604 k.length)],[(604,.arr 1 (k.map QN))]⟩) (λk=>Et k=some r) (H c [12] Z<|I h (λl h=>g3_ c [.T,13,.adopt 6 33 1,.O 33 (.arr 1 (([]:L_ Int).map Qb)),.S 6 (.own 33 ([]:L_ Int).length)] Z l Z (congrArg (λn=>V.own 33 n) (by simp))<|lp_ h (λst=>⟨[(6,.own 33 st.2.length),(29,.I a),(30,.I st.1)],[(33,.arr 1 (st.2.map Qb))]⟩) (λq=>(.exit 1,⟨[(6,.own 33 q.length)],[(33,.arr 1 (q.map Qb))]⟩)) Z (λ⟨a0,a2⟩ o h=>H c [6] Z<|I h (λm h=>X h λa3 h=>g3_ c [.T,13,.v (.bd []) [] (.sl 1 (([a0]:L_ Int).map Qb)),.app ((a2++([a0]:L_ Int)).map Qb) (a2++([a0]:L_ Int)).length,8] Z m Z ⟨Qc,Ja a3 Qc,Ya,Jr Qc⟩<|rN_ h Z) λm h=>J c [.F,2] Z m<|rX_ h Z) λa1 h=>g3_ c [5,.frz 33 (a1.map Qb) [6,38] [],1,.O 39 (.arr 1 (([a1]:QLL).map QN)),.S 39 (.own 39 ([a1]:QLL).length),6,.K [4] [39],.ren 39 600] Z (a2_ (Jl Qc) (Jl Qc)) Z Z<|E h Z r1_) λl h=>J c [.F,6] Z l<|I h (λp h=>g3_ c [.T,7,.adopt 5 46 1,.O 46 (.arr 1 (([]:QLL).map QN)),.S 5 (.own 46 ([]:QLL).length)] Z p Z (congrArg (λn=>V.own 46 n) (by simp))<|lp_ h (λst=>⟨[(5,.own 46 st.2.length),(42,.I a),(43,.I st.1)],[(46,.arr 1 (st.2.map QN))]⟩) (λq=>(.exit 3,⟨[(5,.own 46 q.length)],[(46,.arr 1 (q.map QN))]⟩)) Z (λ⟨z,a4⟩ o h=>H c [6] Z<|I h (λs h=>X h λa5 h=>g4_ c [.T,13,.v (.bd []) [] (.sl 1 (([z]:L_ Int).map Qb)),.v (.bd []) [] (.sl 1 (([([z]:L_ Int)]:QLL).map QN)),.app ((a4++([([z]:L_ Int)]:QLL)).map QN) (a4++([([z]:L_ Int)]:QLL)).length,8] Z s Z Z ⟨Qc,Ja a5 Qc,Ya,Jr Qc⟩<|rN_ h Z) λs h=>J c [.F,2] Z s<|rX_ h Z) λb1 h=>H c [2,.ren 46 604] Z<|me_ h Z) λp h=>J c [.F,6] Z p<|I h (λt h=>g3_ c [.T,6,.adopt 5 74 1,.O 74 (.arr 1 (([]:QLL).map QN)),.S 5 (.own 74 ([]:QLL).length)] Z t Z (congrArg (λn=>V.own 74 n) (by simp))<|lp_ h (λst=>⟨[(1,.I a),(5,.own 74 st.2.length),(9,.I st.1)],[(74,.arr 1 (st.2.map QN))]⟩) (λq=>(.exit 5,⟨[(5,.own 74 q.length)],[(74,.arr 1 (q.map QN))]⟩)) Z (λ⟨set_33,e⟩ o h=>X h λa6 h=>J c [5,.o (.any (.I (QkG .i64 1 a)) none),3] Z (λσ N h2 _=>Stp.shl Z Z (QU c.n Z) (N _ _ Z) (N _ _ Z) (Xw a6))<|I h (λu h=>g3_ c [.T,17,.adopt 10 69 1,.O 69 (.arr 1 (([]:L_ Int).map Qb)),.S 10 (.own 69 ([]:L_ Int).length)] Z u Z (congrArg (λn=>V.own 69 n) (by simp))<|lp_ h (λst=>⟨[(1,.I a),(5,.own 74 e.length),(9,.I set_33),(10,.own 69 st.2.length),(60,.I a),(61,.I st.1)],[(69,.arr 1 (st.2.map Qb)),(74,.arr 1 (e.map QN))]⟩) (λq=>(.exit 7,⟨[(1,.I a),(5,.own 74 e.length),(9,.I set_33),(10,.own 69 q.length)],[(69,.arr 1 (q.map Qb)),(74,.arr 1 (e.map QN))]⟩)) Z (λ⟨g,a7⟩ o h=>H c [6] Z<|I h (λw h=>J c [.T,2] Z w<|mE_ (λx:LI_=>⟨[(1,.I a),(5,.own 74 e.length),(9,.I set_33),(10,.own 69 x.length),(60,.I a),(61,.I g)],[(69,.arr 1 (x.map Qb)),(74,.arr 1 (e.map QN))]⟩) (λx=>Lt g x=some o) (X h λa8 h=>K c [11,.o (.any (.I (Jm .i64 set_33 g)) none),.o (.any (.I (Wi .i64 (Jm .i64 set_33 g) 1)) none),3] Z (λσ N h2 _=>Stp.shr Z Z (QU c.n Z) (N _ _ Z) (N _ _ Z) (Xw a8)) (λσ N h2 _=>Stp.andB Z Z (QU c.n Z) (N _ _ Z) (N _ _ Z))<|I h (λy h=>X h λa9 h=>g3_ c [.T,3,.v (.bd []) [] (.sl 1 (([g]:L_ Int).map Qb)),.app ((a7++([g]:L_ Int)).map Qb) (a7++([g]:L_ Int)).length,3] Z y Z ⟨Qc,Ja a9 Qc,Ya,Jr Qc⟩<|me_ h Z) λy h=>J c [.F,2] Z y<|me_ h Z) λx h=>H c [4] Z<|rN_ h Z) λw h=>J c [.F,2] Z w<|rX_ h Z) λD h=>X h λb0 h=>g3_ c [5,.frz 69 (D.map Qb) [10,75] [],.v (.bd []) [] (.sl 1 (([D]:QLL).map QN)),.app ((e++([D]:QLL)).map QN) (e++([D]:QLL)).length,9] Z (a2_ (Jl Qc) (Jl Qc)) Z ⟨Qc,Ja b0 Qc,Ya,Jr Qc⟩<|rN_ h Z) λu h=>J c [.F,2] Z u<|rX_ h Z) λb2 h=>H c [2,.ren 74 604] Z<|me_ h Z) λt h=>g3_ c [.F,2,.adopt 5 604 1,.O 604 (.arr 1 (([]:QLL).map QN)),.S 5 (.own 604 ([]:QLL).length)] Z t Z (congrArg (λn=>V.own 604 n) (by simp))<|me_ h Z) λk h=>H c [7,.K [4] [604],.ren 604 600] Z<|E h Z r1_
def VE (a:Qf)(b:QH):O_ (Qf×QH):=some (a,b)
def QcF (a b):CT 277 [.agg (Qa a),.agg (Qh b)] [] (VE a b) (λ_=>(.clo (.func 300) [] [.L 3,.L 2])) (λr=>[(2,.var (Qa r.1)),(3,.var (Qh r.2))]):=
 W 6 func277 Z λC c r h=>H c [14] Z<|E h Z r2_
def YA (a:LI_):O_ LI_:=(chk ((([]:L_ Int).length+a.length)*8<=140737488355328)).bind λ_=>some (([]:L_ Int)++a)
def Ko (b):CT 173 [.sl 1 (b.map Qb)] [] (YA b) (λr=>(.own 600 r.length)) (λr=>[(600,.arr 1 (r.map Qb))]):=by
 refine W 8 func173 rfl λC a r h=>?_
 unfold YA at h
 refine tg_ a [9] ?_
 refine AK.eqNil rfl rfl rfl (QU a.n rfl) rfl rfl Qpw ?_ ?_
 ·intro c
  replace h:some ([]:L_ Int)=some r:=by simpa[chk,List.map_eq_nil_iff.1 c] using h
  exact K a [10,.adopt 2 600 1,.O 600 (.arr 1 (([]:L_ Int).map Qb)),.S 2 (.own 600 ([]:L_ Int).length)] Z Z Z<|E h Z r1_
 exact X h λd h=>g3_ a [8,.O 5 (.arr 1 (([]:L_ Int).map Qb)),.S 5 (.own 5 ([]:L_ Int).length),1,.x (λσ=>σ.app 5 1 7 (([]:L_ Int)++b).length ((([]:L_ Int)++b).map Qb)),4,.K [2] [5],.ren 5 600] Z Z Z (Stp.appSB (by_:=8) (zs:=[.I 0]) (e:=3) (e':=3) (z':=1) (by':=8) Z Z (QU a.n Z) Z Z Z Qc (by kernel_rfl) (by kernel_rfl) (by kernel_rfl) Z (by decide) (by decide) (QdA d Qc) Z Ya (Jr Qc))<|E h Z r1_
def Mu (a:Int)(b:Int):O_ Int:=bif (b<a)then some 0 else some (Qi ((Qi (min2 (IntKind.u64.wrap ((IntKind.u64.wrap b)-(IntKind.u64.wrap a))) 1024))+1))
def QeS (a b):CT 309 [.I a,.I b] [] (Mu a b) V.I no_:=
 W 16 func309 Z λC d r h=>H d [13] Z<|I h (λc h=>J d [.T,7] Z c<|E h Z U) λc h=>g4_ d [.F,5,.o (.any (.i .u64 (IntKind.u64.wrap b)) none),1,.o (.any (.i .u64 (IntKind.u64.wrap a)) none),2,.o (.any (.I (Qi (min2 (IntKind.u64.wrap ((IntKind.u64.wrap b)-(IntKind.u64.wrap a))) 1024))) none),5] Z c (λσ e f _=>Stp.convI Z Z (QU d.n Z) (e _ _ Z) QeJ QcA) (λσ e f _=>Stp.convI Z Z (QU d.n Z) (e _ _ Z) QeJ QcA) (λσ e f _=>Stp.convI Z Z (QU d.n Z) (e _ _ Z) QcA QeJ)<|E h Z U
def Au (a:Int):O_ Bool:=
 some (bif (97<=a)then((a<=122)||((65<=a)&&(a<=90)))else((65<=a)&&(a<=90)))
def Rg (a):CT 286 [.i .u8 a] [] (Au a) V.b no_:=
 W 17 func286 Z λC e r h=>H e [6] Z<|Y ⟨[(2,.b (bif (97<=a)then((a<=122)||((65<=a)&&(a<=90)))else((65<=a)&&(a<=90))))],[]⟩ (H e [4] Z<|bO_ (decide (97<=a)) (λc=>L e [.S 5 (.b true),4] Z c<|bO_ (decide (a<=122)) (λd=>G e [.S 9 (.b true),9,.S 2 (.b (bif (97<=a)then((a<=122)||((65<=a)&&(a<=90)))else((65<=a)&&(a<=90))))] Z ⟨(tc_ d),(cb_ (QmM c (UN d Z)))⟩<|M Z) λd=>L e [.S 9 (.b false),3] Z d<|bO_ (decide (65<=a)) (λf=>G e [.S 12 (.b true),6,.S 2 (.b (bif (97<=a)then((a<=122)||((65<=a)&&(a<=90)))else((65<=a)&&(a<=90))))] Z ⟨(tc_ f),(cb_ (QmM c (We d (Ju f Z))))⟩<|M Z) λf=>G e [.S 12 (.b false),6,.S 2 (.b (bif (97<=a)then((a<=122)||((65<=a)&&(a<=90)))else((65<=a)&&(a<=90))))] Z ⟨(tc_ f),(cb_ (QmM c (We d (WM f Z))))⟩<|M Z) λc=>L e [.S 5 (.b false),7] Z c<|bO_ (decide (65<=a)) (λg=>G e [.S 12 (.b true),6,.S 2 (.b (bif (97<=a)then((a<=122)||((65<=a)&&(a<=90)))else((65<=a)&&(a<=90))))] Z ⟨(tc_ g),(cb_ (QoD c (Ju g Z)))⟩<|M Z) λg=>G e [.S 12 (.b false),6,.S 2 (.b (bif (97<=a)then((a<=122)||((65<=a)&&(a<=90)))else((65<=a)&&(a<=90))))] Z ⟨(tc_ g),(cb_ (QoD c (WM g Z)))⟩<|M Z)<|H e [2] Z<|E h Z U
def Tk (a:ByteArray):O_ Bool:=bif (CB a (⟨#[]⟩:ByteArray))then some true else bif (32<(a.size:Int))then some true else (sidx a 0).bind λb=>(Au b).bind λc=>some (!c)
def Tl (a:Int):O_ Bool:=(Au a).bind λb=>bif (!b)then bif (a<48)then some (a != 95)else bif (57<a)then some (a != 95)else some false else some false
def Tm (a:Int)(b:Bool):O_ (Int⊕(Unit⊕Unit)):=bif b then some (.inr (.inl ()))else some (.inl (Qi (a+1)))
def MS (d:ByteArray)(a:Int):O_ (Int⊕(Unit⊕Unit)):=bif (a<(d.size:Int))then (sidx d a).bind λb=>(Tl b).bind (λc=>Tm a c)else some (.inr (.inr ()))
def MT : O_ Bool:=some false
def MU : O_ Bool:=some true
def Tn (a:ByteArray)(b:Bool):O_ Bool:=bif b then some false else (QE (λst=>MS a st) 0).bind (Sum.elim (λq=>MT) (λq=>MU))
def Ae (a:ByteArray):O_ Bool:=(Tk a).bind (λb=>Tn a b)
def MV (l):CT 238 [.s l] [] (Ae l) V.b no_:=
 W 42 func238 Z λC a r h=>H a [7] Z<|mV_ h (λw=>⟨[(0,.s l),(17,.b w)],[]⟩) (λw h=>H a [4] Z<|I h (λm h=>L a [.S 7 (.b true),11] Z m<|mq_ h Z) λm h=>L a [.S 7 (.b false),5] Z m<|I h (λp h=>L a [.S 12 (.b true),6] Z p<|mq_ h Z) λp h=>B h λO x h=>B h λP y h=>G a [.S 12 (.b false),1,.o (.num O),.o (.C1 (.b P)),3] Z ⟨⟨(tc_ p),x⟩,(Rg _ _ y)⟩<|mq_ h Z) λw h=>H a [1] Z<|I h (λe h=>J a [.T,7] Z e<|E h Z U) λe h=>J a [.F,11] Z e<|lq_ h (λst=>⟨[(0,.s l),(19,.I (l.size:Int)),(20,.I st)],[]⟩) (λq=>(.ret,⟨[(2,.b false)],[]⟩)) (λq=>(.exit 0,⟨[],[]⟩)) Z (λz o h=>H a [6] Z<|I h (λf h=>B h λD u h=>K a [.T,14,.o (.num D),4] Z f u<|mV_ h (λt=>⟨[(0,.s l),(19,.I (l.size:Int)),(20,.I z),(40,.b t)],[]⟩) (λt h=>B h λN v h=>J a [2,.o (.C1 (.b N)),2] Z (Rg _ _ v)<|I h (λg h=>L a [.S 29 (.b true),3] Z g<|I h (λi h=>L a [.S 32 (.b true),9] Z i<|mq_ h Z) λi h=>L a [.S 32 (.b false),5] Z i<|I h (λj h=>L a [.S 37 (.b true),4] Z j<|mq_ h Z) λj h=>L a [.S 37 (.b false),4] Z j<|mq_ h Z) λg h=>L a [.S 29 (.b false),12] Z g<|mq_ h Z) λt h=>H a [1] Z<|I h (λk h=>J a [.T,8] Z k<|rR_ h Z) λk h=>J a [.F,7] Z k<|rN_ h Z) λf h=>J a [.F,2] Z f<|rX_ h Z) (λ_ h=>H a [2] Z<|E h Z U) (λ_ h=>H a [8] Z<|E h Z U)
def RP (a:ByteArray)(c:QSB):O_ Bool:=(Ae a).bind λb=>bif (!b)then some true else some ((Qs c a).getD false)
def RQ (c:Int)(d:QSB)(a:ByteArray)(b:Bool):O_ ((Int×QSB)⊕(Unit⊕Unit)):=bif b then some (.inr (.inl ()))else some (.inl ((Qi (c+1)),(XG OT d a true)))
def Lv (d:(L_ ByteArray))(b:Int)(e:QSB):O_ ((Int×QSB)⊕(Unit⊕Unit)):=bif (b<(d.length:Int))then (idx d b).bind λa=>(RP a e).bind (λc=>RQ b e a c)else some (.inr (.inr ()))
def Lw : O_ Bool:=some false
def Lx : O_ Bool:=some true
def IM (a:(L_ ByteArray)):O_ Bool:=(QE (λst=>Lv a st.1 st.2) (0,([]:QSB))).bind (Sum.elim (λq=>Lw) (λq=>Lx))
def QdO (m):CT 310 [.sl 1 (m.map DW)] [] (IM m) V.b no_:=
 W 24 func310 Z λC a r h=>K a [8,.O 6 (.map (QC V.s V.b ([]:QSB))),7,.o (.ln m.length),4] Z Z Qc<|lq_ h (λst=>⟨[(3,.map 6),(7,.sl 1 (m.map DW)),(8,.I (m.length:Int)),(9,.I st.1)],[(6,.map (QC V.s V.b st.2))]⟩) (λq=>(.ret,⟨[(2,.b false)],[]⟩)) (λq=>(.exit 0,⟨[],[]⟩)) Z (λ⟨P,u⟩ o h=>H a [6] Z<|I h (λp h=>B h λg w h=>K a [.T,6,.o (.row (DW g)),6] Z p (Xd w)<|mV_ h (λt=>⟨[(3,.map 6),(5,.s g),(7,.sl 1 (m.map DW)),(8,.I (m.length:Int)),(9,.I P),(20,.b t)],[(6,.map (QC V.s V.b u))]⟩) (λt h=>B h λD y h=>J a [2,.o (.C1 (.b D)),2] Z (MV _ _ y)<|I h (λi h=>L a [.S 16 (.b true),5] Z i<|mq_ h Z) λi h=>G a [.S 16 (.b false),2,.o (.any (.b ((Qs u g).getD false)) none),2] Z ⟨(tc_ i),(λσ N h2 _=>Stp.lookup (e:=V.s) (f:=V.b) (l:=u) (k:=g) (z:=false) Z Z (QU a.n Z) (N _ _ Z) (h2 _ _ Z) (N _ _ Z) Ta Qbe Qm7 Z)⟩<|mq_ h Z) λt h=>H a [1] Z<|I h (λj h=>J a [.T,9] Z j<|rR_ h Z) λj h=>K a [.F,5,.x (λσ=>σ.set 6 (.map (QC V.s V.b (XG OT u g true)))),7] Z j (Stp.mapUpdate (e:=V.s) (f:=V.b) (l:=u) (k:=g) (v:=true) OT Z Z Z Z Z Z Ta Qbe Z)<|rN_ h Z) λp h=>J a [.F,2] Z p<|rX_ h Z) (λ_ h=>H a [2] Z<|E h Z U) (λ_ h=>H a [8] Z<|E h Z U)
def WN : O_ Int:=some 0
def Mv (b:QL)(a:LI_):O_ Int:=bif (b.Kind==1)then (Mu b.Lo b.Hi).bind λe=>some e else bif (b.Kind==2)then (IM b.Names).bind λf=>bif f then some (b.Names.length:Int)else WN else bif (b.Kind==3)then bif ((0<=(min2 b.First b.Then))&&((max2 b.First b.Then)<(a.length:Int)))then (idx a b.First).bind λc=>(idx a b.Then).bind λd=>some (Qi (c*d))else WN else WN
def QeT (g e):CT 289 [.agg (Qr g),.sl 1 (e.map Qb)] [] (Mv g e) V.I no_:=
 W 51 func289 Z λC f r h=>H f [6] Z<|mU_ ⟨[],[]⟩ (WN=some r) (H f [13] Z<|I h (λl h=>B h λx t h=>K f [.T,6,.o (.C2 (.I x)),6] Z l (QeS _ _ _ t)<|E h Z U) λl h=>J f [.F,6] Z l<|I h (λm h=>B h λy u h=>K f [.T,4,.o (.C1 (.b y)),2] Z m (QdO _ _ u)<|I h (λp h=>K f [.T,4,.o (.ln g.Names.length),6] Z p Qc<|E h Z U) λp h=>J f [.F,2] Z p<|mu_ h Z) λm h=>J f [.F,6] Z m<|I h (λj h=>J f [.T,1] Z j<|Y ⟨[(1,.sl 1 (e.map Qb)),lk_ 2,(39,.b ((0<=(min2 g.First g.Then))&&((max2 g.First g.Then)<(e.length:Int))))],[(2,.var (Qr g))]⟩ (H f [8] Z<|bO_ (decide (0<=(min2 g.First g.Then))) (λi=>G f [.S 30 (.b true),6,.o (.ln e.length),3,.S 39 (.b ((0<=(min2 g.First g.Then))&&((max2 g.First g.Then)<(e.length:Int))))] Z ⟨⟨(tc_ i),Qc⟩,(cb_ (Ju i Z))⟩<|M Z) λi=>G f [.S 30 (.b false),10,.S 39 (.b ((0<=(min2 g.First g.Then))&&((max2 g.First g.Then)<(e.length:Int))))] Z ⟨(tc_ i),(cb_ (WM i Z))⟩<|M Z)<|H f [1] Z<|I h (λk h=>B h λv q h=>B h λw s h=>G f [.T,1] Z (A k) <| 
  dr_ f [.N,.N,.N,.B (.row (Qb v)),.N,.N,.N,.N,.B (.row (Qb w)),.N,.N,.N] [] [] [4] [] Z Z (a2_ (Xd q) (Xd s)) Z <|
  H f [4] Z<|E h Z U) λk h=>J f [.F,2] Z k<|mu_ h Z) λj h=>J f [.F,2] Z j<|mu_ h Z) λh=>H f [6] Z<|E h Z U
def RS (a:QL)(d:QSB)(b:Int):O_ Bool:=(Ae a.Name).bind λc=>bif (!c)then some true else bif ((Qs d a.Name).getD false)then some true else bif (b<1)then some true else some (decide (1024<b))
def RT (a:LI_)(b:Int)(e:Int)(f:QSB)(c:QL)(d:Bool):O_ ((Int×QSB×LI_)⊕(Unit⊕LI_)):=bif d then some (.inr (.inl ()))else (chk (a.length+([b]:L_ Int).length<=4294967296)).bind λ_=>some (.inl ((Qi (e+1)),(XG OT f c.Name true),(a++([b]:L_ Int))))
def Lz (f:(L_ QL))(d:Int)(g:QSB)(a:LI_):O_ ((Int×QSB×LI_)⊕(Unit⊕LI_)):=bif (d<(f.length:Int))then (idx f d).bind λb=>(Mv b a).bind λc=>(RS b g c).bind (λe=>RT a c d g b e)else some (.inr (.inr a))
def QdP : O_ (LI_×Bool):=some (([]:L_ Int),false)
def QdQ (a:LI_):O_ (LI_×Bool):=some (a,true)
def BM (a:(L_ QL)):O_ (LI_×Bool):=bif (32<(a.length:Int))then some (([]:L_ Int),false)else (QE (λst=>Lz a st.1 st.2.1 st.2.2) (0,([]:QSB),([]:L_ Int))).bind (Sum.elim (λq=>QdP) (λq=>QdQ q))
def RU (y):CT 241 [.sl 7 (y.map Qr)] [] (BM y) (λr=>(.tup [.sl 1 (r.1.map Qb),.b r.2])) no_:=
 W 49 func241 Z λC a r h=>J a [10,.o (.ln y.length),3] Z Qc<|I h (λD h=>J a [.T,8,.denil 2 [some 1]] Z D<|F h Z Z U) λD h=>G a [.F,5,.O 12 (.map (QC V.s V.b ([]:QSB))),12,.o (.ln y.length),4,.adopt 5 43 1,.O 43 (.arr 1 (([]:L_ Int).map Qb)),.S 5 (.own 43 ([]:L_ Int).length)] Z (a5_ D Z Qc Z (congrArg (λn=>V.own 43 n) (by simp)))<|lq_ h (λst=>⟨[(4,.map 12),(5,.own 43 st.2.2.length),(13,.sl 7 (y.map Qr)),(14,.I (y.length:Int)),(15,.I st.1)],[(12,.map (QC V.s V.b st.2.1)),(43,.arr 1 (st.2.2.map Qb))]⟩) (λq=>(.ret,⟨[(2,.Y),(3,.b false)],[]⟩)) (λq=>(.exit 0,⟨[(5,.own 43 q.length)],[(43,.arr 1 (q.map Qb))]⟩)) Z (λ⟨x8,P,i⟩ o h=>H a [6] Z<|I h (λj h=>B h λg a0 h=>B h λm a1 h=>G a [.T,6,.o (.row (Qr g)),.A (Qr g),2,.O 7 (.var (Qr g)),4,.A (Qr g),1,.o (.c true [.d,.o (i.map Qb)] (.I m)),5] Z (a6_ j (Xd a0) Z Z Z ⟨(OY Z),(QeT _ _ _ a1)⟩)<|mV_ h (λN=>⟨[(4,.map 12),(5,.own 43 i.length),lk_ 7,(8,.I m),(13,.sl 7 (y.map Qr)),(14,.I (y.length:Int)),(15,.I x8),(39,.b N)],[(7,.var (Qr g)),(12,.map (QC V.s V.b P)),(43,.arr 1 (i.map Qb))]⟩) (λN h=>B h λa4 a2 h=>J a [3,.o (.C1 (.b a4)),2] Z (MV _ _ a2)<|I h (λp h=>L a [.S 26 (.b true),14] Z p<|mq_ h Z) λp h=>G a [.S 26 (.b false),3,.o (.any (.b ((Qs P g.Name).getD false)) none),2] Z ⟨(tc_ p),(λσ h1 h2 _=>Stp.lookup (e:=V.s) (f:=V.b) (l:=P) (k:=g.Name) (z:=false) Z Z (QU a.n Z) (h1 _ _ Z) (h2 _ _ Z) (h1 _ _ Z) Ta Qbe Qm7 Z)⟩<|I h (λt h=>L a [.S 32 (.b true),8] Z t<|mq_ h Z) λt h=>L a [.S 32 (.b false),4] Z t<|I h (λu h=>L a [.S 36 (.b true),4] Z u<|mq_ h Z) λu h=>L a [.S 36 (.b false),4] Z u<|mq_ h Z) λN h=>H a [1] Z<|I h (λw h=>J a [.T,10] Z w<|rR_ h Z) λw h=>X h λa3 h=>g4_ a [.F,7,.x (λσ=>σ.set 12 (.map (QC V.s V.b (XG OT P g.Name true)))),5,.v (.bd []) [] (.sl 1 (([m]:L_ Int).map Qb)),.app ((i++([m]:L_ Int)).map Qb) (i++([m]:L_ Int)).length,8] Z w (Stp.mapUpdate (e:=V.s) (f:=V.b) (l:=P) (k:=g.Name) (v:=true) OT Z Z Z Z Z Z Ta Qbe Z) Z ⟨Qc,Ja a3 Qc,Ya,Jr Qc⟩<|rN_ h Z) λj h=>J a [.F,2] Z j<|rX_ h Z) (λ_ h=>H a [2,.denil 2 [some 1]] Z<|F h Z Z U) (λa5 h=>J a [10,.frz 43 (a5.map Qb) [2] []] Z (A (Jl Qc))<|F h Z Z U)
def Ub (a:(L_ QL))(b:Int):O_ (Bool×YP):=
 (BM a).bind λc=>
 bif ((!c.2)||((b<0)||((a.length:Int)<=b)))then
 some (false,(YP.mk ([]:(L_ QL)) ([]:LI_) 0))
 else
 some (true,(YP.mk a c.1 b))
def Pf (i e):CT 218 [.sl 7 (i.map Qr),.I e] [] (Ub i e) (λr=>(.tup [.agg (XA r.2),.b r.1])) no_:=by
 refine W 30 func218 rfl λC k r h=>?_
 obtain⟨j,l,h⟩:=Qz h
 refine Qp k [9,.o (.C1 (.tup [.sl 1 (j.1.map Qb),.b j.2])),9] Z (A (RU _ _ l)) ?_
 refine AK.meetX (λσ=>σ=⟨[(0,.sl 7 (i.map Qr)),(1,.I e),lk_ 4,(6,.sl 1 (j.1.map Qb)),(24,.b ((!j.2)||((e<0)||((i.length:Int)<=e))))],[(4,.var [.Y,.Y,.I 0])]⟩) ?_ ?_
 ·exact H k [4] Z<|bO_ (!j.2) (λf=>G k [.S 15 (.b true),10,.S 24 (.b ((!j.2)||((e<0)||((i.length:Int)<=e))))] Z ⟨(tc_ f),(cb_ (UN f Z))⟩<|M Z) λf=>L k [.S 15 (.b false),4] Z f<|bO_ (decide (e<0)) (λa=>G k [.S 19 (.b true),6,.S 24 (.b ((!j.2)||((e<0)||((i.length:Int)<=e))))] Z ⟨(tc_ a),(cb_ (We f (UN a Z)))⟩<|M Z) λa=>G k [.S 19 (.b false),2,.o (.ln i.length),3,.S 24 (.b ((!j.2)||((e<0)||((i.length:Int)<=e))))] Z ⟨⟨(tc_ a),Qc⟩,(cb_ (We f (We a Z)))⟩<|M Z
 rintro σ rfl
 refine tg_ k [1] ?_
 refine bg_ h (λg h=>Qp k [.T,2,.v .no [some 7,some 1,none] (.agg (XA (YP.mk ([]:(L_ QL)) ([]:LI_) 0))),1,.O 4 (.var (XA (YP.mk ([]:(L_ QL)) ([]:LI_) 0))),5,.K [4,5] [4]] rfl (a3_ g rfl rfl) ?_) λg h=>Qp k [.F,7,.A (XA (YP.mk i j.1 e)),1,.O 4 (.var (XA (YP.mk i j.1 e))),4,.K [4,5] [4]] rfl (a3_ g rfl rfl) ?_
 ·cases h
  exact AK.done (ex_ [_,_] (an_ (an_ (ex_ _ (ex_ _ (an_ Z (an_ Z (Or.inl (an_ (Qw.ag Z) (an_ (Qw.sz Z) Z))))))) (an_ Z U)) (gives U)))
 cases h
 exact AK.done (ex_ [_,_] (an_ (an_ (ex_ _ (ex_ _ (an_ Z (an_ Z (Or.inl (an_ (Qw.ag Z) (an_ (Qw.sz Z) Z))))))) (an_ Z U)) (gives U)))
def UD (a:Int)(b:YP):O_ Bool:=bif (0<=a)then (idx b.sizes b.k).bind λc=>some (decide (a<c))else some false
def QbS (a:Bool):O_ Bool:=some a
def WO (a:YP)(b:Int):O_ Bool:=(UD b a).bind (λc=>QbS c)
def OU (f g):CT 235 [.agg (XA f),.I g] [] (WO f g) V.b no_:=
 W 17 func235 Z λC c r h=>H c [7] Z<|mV_ h (λd=>⟨[(4,.b d)],[]⟩) (λd h=>H c [4] Z<|I h (λa h=>B h λi e h=>G c [.S 7 (.b true),5,.o (.row (Qb i)),5] Z ⟨(tc_ a),(Xd e)⟩<|mq_ h Z) λa h=>L c [.S 7 (.b false),11] Z a<|mq_ h Z) λd h=>H c [2] Z<|E h Z U
def WB (a:YP):O_ QL:=(idx a.all a.k).bind λb=>some b
def AW (c):CT 236 [.agg (XA c)] [] (WB c) (λr=>(.agg (Qr r))) no_:=by
 refine W 9 func236 rfl λC d r h=>?_
 obtain⟨a,b,h⟩:=Qz h
 refine Qp d [12,.o (.row (Qr a)),.A (Qr a),1,.O 2 (.var (Qr a)),3,.K [2] [2]] Z (a3_ (Xd b) Z Z) ?_
 cases h
 exact AK.done (ex_ [_] (an_ (an_ (ex_ _ (ex_ _ (an_ Z (an_ Z (Or.inl (an_ (Qw.ag Z) (an_ (Qw.sz Z) Z))))))) U) (gives U)))
def HU (b:(Bool×YP))(c:Int):O_ Bool:=bif (!b.1)then some true else (WO b.2 c).bind λa=>some (!a)
def HV (c:(Bool×YP))(d:Int)(e:Bool):O_ (Int×Bool):=bif e then some (0,false)else (WB c.2).bind λa=>bif (a.Kind==1)then (WB c.2).bind λb=>some ((Qi (b.Lo+d)),true)else some (d,true)
def Ea (c:(L_ QL))(d:Int)(a:Int):O_ (Int×Bool):=(Ub c d).bind λb=>(HU b a).bind (λe=>HV b a e)
def QcG (x y q):CT 174 [.sl 7 (x.map Qr),.I y,.I q] [] (Ea x y q) (λr=>(.tup [.I r.1,.b r.2])) no_:=
 W 36 func174 Z λC a r h=>B h λi s h=>K a [10,.o (.C2 (.tup [.agg (XA i.2),.b i.1])),5,.O 8 (.var (XA i.2)),6] Z (Pf _ _ _ s) Z<|mV_ h (λt=>⟨[(2,.I q),lk_ 8,(16,.b t)],[(8,.var (XA i.2))]⟩) (λt h=>H a [4] Z<|I h (λe h=>L a [.S 19 (.b true),7] Z e<|mq_ h Z) λe h=>B h λu j h=>G a [.S 19 (.b false),.A (XA i.2),1,.o (.C2 (.b u)),4] Z ⟨⟨(tc_ e),Z⟩,(OU _ _ _ j)⟩<|mq_ h Z) λt h=>H a [1] Z<|I h (λf h=>J a [.T,9] Z f<|F h Z Z U) λf h=>B h λk l h=>g4_ a [.F,2,.A (XA i.2),.o (.C1 (.agg (Qr k))),.o (.any (.I k.Kind) none),4] Z f Z (AW _ _ l) (λσ w z _=>Stp.field Z Z (QU a.n Z) (w _ _ Z) Qoa Z)<|I h (λg h=>B h λm p h=>g4_ a [.T,2,.A (XA i.2),.o (.C1 (.agg (Qr m))),.o (.any (.I m.Lo) none),9] Z g Z (AW _ _ p) (λσ w z _=>Stp.field Z Z (QU a.n Z) (w _ _ Z) Qob Z)<|F h Z Z U) λg h=>J a [.F,11] Z g<|F h Z Z U
def Fl (d:QH)(b:LI_)(h:Qf)(a:Int)(c:LI_):O_ ((Int×LI_)⊕(Unit⊕LI_)):=bif (a<(d.Vars.length:Int))then (idx d.Vars a).bind λf=>(idx b a).bind λg=>(Ea h.Colours f.Colour g).bind λe=>bif (!e.2)then some (.inr (.inl ()))else (idx c a).bind λi=>some (.inl ((Qi (a+1)),(c.set a.toNat e.1)))else some (.inr (.inr c))
def Qic : O_ (LI_×Int):=some (([]:L_ Int),1)
def Qid (a:LI_):O_ (LI_×Int):=some (a,0)
def EF (d:Qf)(a:Int)(c:LI_):O_ (LI_×Int):=
 bif ((a<0)||((d.Tasks.length:Int)<=a))then
 some (([]:L_ Int),3)
 else
 (idx d.Tasks a).bind λb=>
 bif ((c.length:Int) != (b.Vars.length:Int))then
 some (([]:L_ Int),1)
 else
 (chk (decide (0<=(b.Vars.length:Int))&&decide ((b.Vars.length:Int)<=(b.Vars.length:Int))&&decide ((b.Vars.length:Int)<=4294967296))).bind λ_=>
 (QE (λst=>Fl b c d st.1 st.2) (0,(List.replicate (b.Vars.length:Int).toNat (0:Int)))).bind (Sum.elim (λq=>Qic) (λq=>Qid q))
def RF (t e f):CT 118 [.agg (Qa t),.I e,.sl 1 (f.map Qb)] [] (EF t e f) (λr=>(.tup [.sl 1 (r.1.map Qb),.I r.2])) no_:=
 W 64 func118 Z λC g r h=>H g [9] Z<|Y ⟨[(1,.I e),(2,.sl 1 (f.map Qb)),lk_ 3,(22,.b ((e<0)||((t.Tasks.length:Int)<=e)))],[(3,.var (Qa t))]⟩ (H g [4] Z<|bO_ (decide (e<0)) (λj=>G g [.S 16 (.b true),7,.S 22 (.b ((e<0)||((t.Tasks.length:Int)<=e)))] Z ⟨(tc_ j),(cb_ (UN j Z))⟩<|M Z) λj=>G g [.S 16 (.b false),3,.o (.ln t.Tasks.length),3,.S 22 (.b ((e<0)||((t.Tasks.length:Int)<=e)))] Z ⟨⟨(tc_ j),Qc⟩,(cb_ (We j Z))⟩<|M Z)<|H g [1] Z<|I h (λk h=>J g [.T,8,.denil 6 [some 1]] Z k<|F h Z Z U) λk h=>B h λi x h=>g4_ g [.F,7,.o (.row (Qh i)),9,.o (.ln f.length),1,.o (.ln i.Vars.length),3] Z k (Xd x) Qc Qc<|I h (λl h=>J g [.T,8,.denil 6 [some 1]] Z l<|F h Z Z U) λl h=>X h λy h=>G g [.F,5,.o (.ln i.Vars.length),.o (.rows ((List.replicate (i.Vars.length:Int).toNat (0:Int)).map Qb)),.S 36 (.own 36 (List.replicate (i.Vars.length:Int).toNat (0:Int)).length),7,.o (.ln i.Vars.length),4] Z (a5_ l Qc ⟨y,QiP Z⟩ (by simp) Qc)<|lq_ h (λst=>⟨[(2,.sl 1 (f.map Qb)),lk_ 3,(9,.own 36 st.2.length),(37,.sl 2 (i.Vars.map Xi)),(38,.I (i.Vars.length:Int)),(39,.I st.1)],[(3,.var (Qa t)),(36,.arr 1 (st.2.map Qb))]⟩) (λq=>(.ret,⟨[(6,.Y),(7,.I 1)],[]⟩)) (λq=>(.exit 0,⟨[(9,.own 36 q.length)],[(36,.arr 1 (q.map Qb))]⟩)) Z (λ⟨z,D⟩ o h=>H g [6] Z<|I h (λm h=>B h λw P h=>B h λa2 a0 h=>B h λs a1 h=>G g [.T,7,.o (.row (Xi w)),.A (Xi w),3,.O 11 (.var (Xi w)),3] Z (a4_ m (Xd P) Z Z) <| 
  dr_ g [.N,.N,.N,.N,.N,.N,.B (.row (Qb a2)),.N,.B (.C3 (.tup [.I s.1,.b s.2])),.N,.N,.N,.N,.N] [] [] [2,3,9,10,12,13,37,38,39] [3,36] Z Z (a2_ (Xd a0) (QcG _ _ _ _ a1)) Z <|
  H g [8] Z<|I h (λp h=>J g [.T,10] Z p<|rR_ h Z) λp h=>B h λa3 u h=>g4_ g [.F,7,.st (Qb a3) ((D.set z.toNat s.1).map Qb),7,.S 9 (.own 36 (D.set z.toNat s.1).length)] Z p (YJ u Z) ⟨(XT (Jf u).2),BC Z⟩ (congrArg (λn=>V.own 36 n) (by simp))<|rN_ h Z) λm h=>J g [.F,2] Z m<|rX_ h Z) (λ_ h=>H g [2,.denil 6 [some 1]] Z<|F h Z Z U) (λa4 h=>J g [10,.frz 36 (a4.map Qb) [6] []] Z (A (Jl Qc))<|F h Z Z U)
def JE (c:Qf)(f:QMk)(a:Int)(b:LI_):O_ (Int×Xo):=(EF c a b).bind λd=>bif (d.2 != 0)then some (d.2,(Xo.mk (Qf.mk ([]:(L_ QL)) ([]:(L_ QP)) ([]:(L_ QH)) 0 0) ([]:QMk) (QH.mk (⟨#[]⟩:ByteArray) ([]:(L_ YO)) (Ql.mk 0 0 ([]:(L_ Ql))) 0 0 ([]:(L_ Xs)) ([]:(L_ Xs)) ([]:LI_) 0 (0,0,0)) ([]:LI_)))else (idx c.Tasks a).bind λe=>some (0,(Xo.mk c f e d.1))
def VF (i l b e):CT 113 [.agg (Qa i),.sl 1 (l.map Qe),.I b,.sl 1 (e.map Qb)] [] (JE i l b e) (λr=>(.tup [.agg (QF r.2),.I r.1])) no_:=by
 refine W 32 func113 rfl λC j r h=>?_
 obtain⟨p,q,h⟩:=Qz h
 refine Qp j [9,.A (Qa i),2,.o (.C3 (.tup [.sl 1 (p.1.map Qb),.I p.2])),14] Z (a2_ Z (RF _ _ _ _ q)) ?_
 rcases XS h with⟨f,h⟩|⟨f,h⟩
 ·refine Qp j [.T,2,.v .no [some 7,some 3,some 14,none,none,some 1,none,some 2,none,none,some 3,none,none,some 4,some 4,some 1,none,none,none,none,some 1] (.agg (QF (Xo.mk (Qf.mk ([]:(L_ QL)) ([]:(L_ QP)) ([]:(L_ QH)) 0 0) ([]:QMk) (QH.mk (⟨#[]⟩:ByteArray) ([]:(L_ YO)) (Ql.mk 0 0 ([]:(L_ Ql))) 0 0 ([]:(L_ Xs)) ([]:(L_ Xs)) ([]:LI_) 0 (0,0,0)) ([]:LI_)))),2,.O 8 (.var (QF (Xo.mk (Qf.mk ([]:(L_ QL)) ([]:(L_ QP)) ([]:(L_ QH)) 0 0) ([]:QMk) (QH.mk (⟨#[]⟩:ByteArray) ([]:(L_ YO)) (Ql.mk 0 0 ([]:(L_ Ql))) 0 0 ([]:(L_ Xs)) ([]:(L_ Xs)) ([]:LI_) 0 (0,0,0)) ([]:LI_)))),5,.K [8,9] [8]] Z (a3_ f Z Z) ?_
  cases h
  exact AK.done (ex_ [_,_] (an_ (an_ (ex_ _ (ex_ _ (an_ Z (an_ Z (Or.inl (an_ (Qw.ag Z) (an_ (Qw.sz Z) Z))))))) (an_ Z U)) (gives U)))
 obtain⟨g,k,h⟩:=Qz h
 refine Qp j [.F,3,.K [1,2,4,8,9,10] [4,8]] Z (A f) ?_
 refine AK.draw2 Qw j mixed [.E (.agg (Qa i)),.N,.N,.N,.N,.B (.row (Qh g)),.E (.agg (Qh g)),.N,.E (.agg (QF (Xo.mk i l g p.1))),.m .s,.m .s] [] [] [8,9] [8] rfl rfl rfl ⟨⟨⟨⟨U,rfl⟩,(Xd k)⟩,rfl⟩,rfl⟩ rfl (by kernel_rfl) rfl rfl rfl ?_
 refine Qp j [.O 8 (.var (QF (Xo.mk i l g p.1))),2,.K [8,9] [8]] Z (A Z) ?_
 cases h
 exact AK.done (ex_ [_,_] (an_ (an_ (ex_ _ (ex_ _ (an_ Z (an_ Z (Or.inl (an_ (Qw.ag Z) (an_ (Qw.sz Z) Z))))))) (an_ Z U)) (gives U)))
def NU (c:Ql)(h:Ql->O_ Int)(d:Int)(a:Int):O_ ((Int×Int)⊕Int):=bif (a<(c.Kids.length:Int))then (idx c.Kids a).bind λe=>(h e).bind λb=>some (.inl ((max2 d b),(Qi (a+1))))else some (.inr d)
def VG (a:Int):O_ Int:=some (Qi (a+1))
def Pg (h:Ql->O_ Int)(a:Ql):O_ Int:=(QE (λst=>NU a h st.1 st.2) (0,0)).bind (λq=>VG q)
def Gh : Nat->Ql->O_ Int
 | 0,_=>none
 | n+1,a=>Pg (Gh n) a
def Tp (a:Ql):O_ Int:=Gh (SizeOf.sizeOf a) a
def QdR (D:Ql->O_ Int)(hrec_expr_Depth:∀(a:Ql) {r:Int},D a=some r->QX prog 253 [.agg (Qu a)] [] (Gives (.I r) []))(a:Ql):CT 253 [.agg (Qu a)] [] (Pg D a) V.I no_:=
 W 20 func253 Z λC e r h=>J e [16,.o (.ln a.Kids.length),4] Z (IF _)<|lp_ h (λst=>⟨[(3,.I st.1),(7,.sl 3 (Yn a.Kids)),(8,.I (a.Kids.length:Int)),(9,.I st.2)],[]⟩) (λq=>(.exit 0,⟨[(3,.I q)],[]⟩)) Z (λ⟨k,l⟩ o h=>H e [6] Z<|I h (λb h=>B h λg i h=>B h λj f h=>G e [.T,6,.o (.row (Qu g)),.A (Qu g),2,.O 5 (.var (Qu g)),4,.A (Qu g),.o (.C1 (.I j)),9] Z (a6_ b (Gx i) Z Z Z (hrec_expr_Depth _ f))<|rN_ h Z) λb h=>J e [.F,2] Z b<|rX_ h Z) λm h=>H e [10] Z<|E h Z U
def RV : ∀(fuel:Nat) (a:Ql) {r:Int},Gh fuel a=some r->QX prog 253 [.agg (Qu a)] [] (Gives (.I r) [])
 | 0,_,_,h=>by cases h
 | n+1,a,_,h=>QdR (Gh n) (λ_ _ h=>RV n _ h) a _ h
def QfY (a){r}(h:Tp a=some r):QX prog 253 [.agg (Qu a)] [] (Gives (.I r) []):=RV _ a h
def Ph (c:Ql)(h:Ql->O_ Int)(d:Int)(a:Int):O_ ((Int×Int)⊕Int):=bif (a<(c.Kids.length:Int))then (idx c.Kids a).bind λe=>(h e).bind λb=>some (.inl ((Qi (d+b)),(Qi (a+1))))else some (.inr d)
def Qab (a:Int):O_ Int:=some a
def RG (h:Ql->O_ Int)(a:Ql):O_ Int:=(QE (λst=>Ph a h st.1 st.2) (1,0)).bind (λq=>Qab q)
def El : Nat->Ql->O_ Int
 | 0,_=>none
 | n+1,a=>RG (El n) a
def ZB (a:Ql):O_ Int:=El (SizeOf.sizeOf a) a
def QeU (D:Ql->O_ Int)(hrec_expr_Size:∀(a:Ql) {r:Int},D a=some r->QX prog 254 [.agg (Qu a)] [] (Gives (.I r) []))(a:Ql):CT 254 [.agg (Qu a)] [] (RG D a) V.I no_:=
 W 19 func254 Z λC e r h=>J e [16,.o (.ln a.Kids.length),4] Z (IF _)<|lp_ h (λst=>⟨[(3,.I st.1),(7,.sl 3 (Yn a.Kids)),(8,.I (a.Kids.length:Int)),(9,.I st.2)],[]⟩) (λq=>(.exit 0,⟨[(3,.I q)],[]⟩)) Z (λ⟨k,l⟩ o h=>H e [6] Z<|I h (λb h=>B h λg i h=>B h λj f h=>G e [.T,6,.o (.row (Qu g)),.A (Qu g),2,.O 5 (.var (Qu g)),4,.A (Qu g),.o (.C1 (.I j)),9] Z (a6_ b (Gx i) Z Z Z (hrec_expr_Size _ f))<|rN_ h Z) λb h=>J e [.F,2] Z b<|rX_ h Z) λm h=>H e [9] Z<|E h Z U
def Tq : ∀(fuel:Nat) (a:Ql) {r:Int},El fuel a=some r->QX prog 254 [.agg (Qu a)] [] (Gives (.I r) [])
 | 0,_,_,h=>by cases h
 | n+1,a,_,h=>QeU (El n) (λ_ _ h=>Tq n _ h) a _ h
def Qhb (a){r}(h:ZB a=some r):QX prog 254 [.agg (Qu a)] [] (Gives (.I r) []):=Tq _ a h
def BN (a:Int)(b:Bool):O_ Int:=bif b then some 1 else bif (a==5)then some 2 else bif (a==6)then some 3 else some (-1)
def BO (a:Int)(b:Bool):O_ Int:=bif b then some 0 else bif (a==3)then BN a (a==3)else BN a (a==4)
def PP (a:Int):O_ Int:=bif (a==1)then BO a (a==1)else BO a (a==2)
def Qhc (a):CT 291 [.I a] [] (PP a) V.I no_:=
 W 14 func291 Z λC c r h=>H c [12] Z<|mE_ (λk:Bool=>⟨[(3,.I a),(4,.b k)],[]⟩) (λk=>BO a k=some r) (H c [6] Z<|I h (λd h=>J c [.T,1] Z d<|me_ h Z) λd h=>J c [.F,4] Z d<|me_ h Z) λk h=>I h (λf h=>J c [.T,8] Z f<|E h Z U) λf h=>J c [.F] Z f<|mE_ (λl:Bool=>⟨[(3,.I a),(7,.b l)],[]⟩) (λl=>BN a l=some r) (H c [6] Z<|I h (λe h=>J c [.T,1] Z e<|me_ h Z) λe h=>J c [.F,4] Z e<|me_ h Z) λl h=>I h (λg h=>J c [.T,8] Z g<|E h Z U) λg h=>J c [.F,6] Z g<|I h (λi h=>J c [.T,8] Z i<|E h Z U) λi h=>J c [.F,6] Z i<|I h (λj h=>J c [.T,8] Z j<|E h Z U) λj h=>J c [.F,9] Z j<|E h Z U
def NV (Ga:Int):O_ Bool:=some ((1<=Ga)&&(Ga<=11))
def QfZ (Ga):CT 292 [.I Ga] [] (NV Ga) V.b no_:=
 W 9 func292 Z λC c r h=>H c [6] Z<|Y ⟨[(2,.b ((1<=Ga)&&(Ga<=11)))],[]⟩ (H c [4] Z<|bO_ (decide (1<=Ga)) (λa=>G c [.S 5 (.b true),5,.S 2 (.b ((1<=Ga)&&(Ga<=11)))] Z ⟨(tc_ a),(cb_ (Ju a Z))⟩<|M Z) λa=>G c [.S 5 (.b false),5,.S 2 (.b ((1<=Ga)&&(Ga<=11)))] Z ⟨(tc_ a),(cb_ (WM a Z))⟩<|M Z)<|H c [2] Z<|E h Z U
def Pi (h:Ql->Int->O_ Bool)(a:Ql)(b:Int):O_ Bool:=(h a b).bind λc=>some (!c)
def QdS (D:Ql->Int->O_ Bool)(hrec_expr_parts:∀(i:Ql) (a:Int) {r:Bool},D i a=some r->QX prog 255 [.agg (Qu i),.I a] [] (Gives (.b r) []))(e:Ql)(f:Int):CT 294 [.agg (Qu e),.L 618] [(618,.var (Qb f))] (Pi D e f) V.b (λ_=>[(618,.var (Qb f))]):=
 W 8 func294 Z λC j r h=>B h λk g h=>K j [8,.A (Qu e),1,.o (.C2 (.b k)),5] Z Z (hrec_expr_parts _ _ g)<|E h Z r1_
def JV (c:(L_ Ql))(h:Ql->Int->O_ Bool)(d:Int)(a:Int):O_ (Int⊕(Int⊕Unit)):=bif (a<(c.length:Int))then (idx c a).bind λe=>(Pi h e d).bind λb=>bif b then some (.inr (.inl a))else some (.inl (Qi (a+1)))else some (.inr (.inr ()))
def Fm (a:Int):O_ Int:=some a
def Fo : O_ Int:=some (-1)
def KO (h:Ql->Int->O_ Bool)(a:(L_ Ql))(b:Int):O_ Int:=(QE (λst=>JV a h b st) 0).bind (Sum.elim (λq=>Fm q) (λq=>Fo))
def Fp (D:Ql->Int->O_ Bool)(hrec_expr_parts:∀(m:Ql) (a:Int) {r:Bool},D m a=some r->QX prog 255 [.agg (Qu m),.I a] [] (Gives (.b r) []))(i:(L_ Ql))(f:Int):CT 311 [.sl 3 (Yn i),.clo (.func 294) [] [.L 618]] [(618,.var (Qb f))] (KO D i f) V.I (λ_=>[(618,.var (Qb f))]):=
 W 19 func311 Z λC e r h=>J e [9,.o (.ln i.length),4] Z (IF _)<|lq_ h (λst=>⟨[(0,.sl 3 (Yn i)),(1,.clo (.func 294) [] [.L 618]),(7,.I (i.length:Int)),(8,.I st)],[(618,.var (Qb f))]⟩) (λq=>(.ret,⟨[(4,.I q)],[(618,.var (Qb f))]⟩)) (λq=>(.exit 0,⟨[],[(618,.var (Qb f))]⟩)) Z (λs o h=>H e [6] Z<|I h (λg h=>B h λp k h=>B h λl j h=>g4_ e [.T,15,.o (.row (Qu p)),.A (Qu p),.cm (.clo) [(618,618)] [(618,618)] [] [.d,.d] [(618,.var (Qb f))] (.b l),2] Z g (Gx k) Z (QdS D hrec_expr_parts _ _ _ j)<|I h (λc h=>J e [.T,9] Z c<|rR_ h Z) λc h=>J e [.F,7] Z c<|rN_ h Z) λg h=>J e [.F,2] Z g<|rX_ h Z) (λt h=>H e [2] Z<|E h Z r1_) (λ_ h=>H e [8] Z<|E h Z r1_)
def YR (h:Ql->Int->O_ Bool)(a:(L_ Ql))(b:Int):O_ Bool:=(KO h a b).bind λc=>some (decide (0<=c))
def BP (D:Ql->Int->O_ Bool)(hrec_expr_parts:∀(f:Ql) (a:Int) {r:Bool},D f a=some r->QX prog 255 [.agg (Qu f),.I a] [] (Gives (.b r) []))(g:(L_ Ql))(c:Int):CT 293 [.sl 3 (Yn g),.clo (.func 294) [] [.L 618]] [(618,.var (Qb c))] (YR D g c) V.b (λ_=>[(618,.var (Qb c))]):=
 W 9 func293 Z λC i r h=>B h λj e h=>J i [9,.cm (.fn) [(618,618)] [(618,618)] [] [.d,.d] [(618,.var (Qb c))] (.I j),5] Z (Fp D hrec_expr_parts _ _ _ e)<|E h Z r1_
def VH (b:Ql):O_ Bool:=bif (b.Kind==5)then (NV b.Num).bind λa=>some (!a)else some false
def VI (h:Ql->Int->O_ Bool)(d:Ql)(a:Int)(b:Bool):O_ Bool:=bif b then some false else (YR h d.Kids a).bind λc=>some (!c)
def Pj (h:Ql->Int->O_ Bool)(b:Ql)(a:Int):O_ Bool:=
 (PP b.Kind).bind λd=>
 bif ((b.Kids.length:Int) != d)then
 some false
 else
 bif ((b.Kind==2)&&((b.Num<0)||(a<=b.Num)))then
 some false
 else
 (VH b).bind (λc=>VI h b a c)
def Gi : Nat->Ql->Int->O_ Bool
 | 0,_,_=>none
 | n+1,b,a=>Pj (Gi n) b a
def Tr (b:Ql)(a:Int):O_ Bool:=Gi (SizeOf.sizeOf b) b a
def QdT (D:Ql->Int->O_ Bool)(hrec_expr_parts:∀(f:Ql) (e:Int) {r:Bool},D f e=some r->QX prog 255 [.agg (Qu f),.I e] [] (Gives (.b r) []))(f:Ql)(e:Int):CT 255 [.agg (Qu f),.I e] [] (Pj D f e) V.b no_:=
 W 43 func255 Z λC g r h=>B h λx u h=>H g [10] Z <| 
  dr_ g [.N,.N,.B (.ln f.Kids.length),.N,.N,.B (.C1 (.I x)),.N,.N] [] [] [2,3,5] [2,3] Z Z (a2_ (IF _) (Qhc _ _ u)) Z <|
  H g [1] Z<|I h (λp h=>J g [.T,8] Z p<|E h Z U) λp h=>J g [.F,1] Z p<|Y ⟨[lk_ 2,lk_ 3,(13,.b ((f.Kind==2)&&((f.Num<0)||(e<=f.Num))))],[(2,.var (Qu f)),(3,.var (Qb e))]⟩ (H g [5] Z<|bO_ (f.Kind==2) (λi=>L g [.S 17 (.b true),4] Z i<|bO_ (decide (f.Num<0)) (λj=>G g [.S 21 (.b true),8,.S 13 (.b ((f.Kind==2)&&((f.Num<0)||(e<=f.Num))))] Z ⟨(tc_ j),(cb_ (Ju i (UN j Z)))⟩<|M Z) λj=>G g [.S 21 (.b false),8,.S 13 (.b ((f.Kind==2)&&((f.Num<0)||(e<=f.Num))))] Z ⟨(tc_ j),(cb_ (Ju i (We j Z)))⟩<|M Z) λi=>G g [.S 17 (.b false),12,.S 13 (.b ((f.Kind==2)&&((f.Num<0)||(e<=f.Num))))] Z ⟨(tc_ i),(cb_ (WM i Z))⟩<|M Z)<|H g [1] Z<|I h (λk h=>J g [.T,8] Z k<|E h Z U) λk h=>J g [.F,1] Z k<|mV_ h (λq=>⟨[lk_ 2,lk_ 3,(28,.b q)],[(2,.var (Qu f)),(3,.var (Qb e))]⟩) (λq h=>H g [5] Z<|I h (λl h=>B h λv s h=>G g [.S 32 (.b true),2,.o (.C1 (.b v)),4] Z ⟨(tc_ l),(QfZ _ _ s)⟩<|mq_ h Z) λl h=>L g [.S 32 (.b false),7] Z l<|mq_ h Z) λq h=>H g [1] Z<|I h (λm h=>J g [.T,8] Z m<|E h Z U) λm h=>B h λw t h=>K g [.F,8,.cm (.fn) [(618,3)] [(3,618)] [] [.d,.d] [(618,.var (Qb e))] (.b w),5] Z m (BP D hrec_expr_parts _ _ _ t)<|E h Z U
def RW : ∀(fuel:Nat) (c:Ql) (a:Int) {r:Bool},Gi fuel c a=some r->QX prog 255 [.agg (Qu c),.I a] [] (Gives (.b r) [])
 | 0,_,_,_,h=>by cases h
 | n+1,c,a,_,h=>QdT (Gi n) (λ_ _ _ h=>RW n _ _ h) c a _ h
def Qf0 (c a){r}(h:Tr c a=some r):QX prog 255 [.agg (Qu c),.I a] [] (Gives (.b r) []):=RW _ c a h
def VJ (b:Ql)(a:Int):O_ Bool:=(Tp b).bind λd=>bif (d<=40)then (ZB b).bind λe=>bif (e<=400)then (Tr b a).bind λc=>some c else some false else some false
def Qf1 (a:Bool):O_ Bool:=some a
def BQ (b:Ql)(a:Int):O_ Bool:=(VJ b a).bind (λc=>Qf1 c)
def NW (i a):CT 210 [.agg (Qu i),.I a] [] (BQ i a) V.b no_:=
 W 18 func210 Z λC e r h=>H e [7] Z<|mV_ h (λk=>⟨[(4,.b k)],[]⟩) (λk h=>B h λq l h=>K e [1,.A (Qu i),.o (.C1 (.I q)),2] Z Z (QfY _ l)<|I h (λf h=>B h λs m h=>G e [.S 8 (.b true),.A (Qu i),.o (.C1 (.I s)),3] Z ⟨⟨(tc_ f),Z⟩,(Qhb _ m)⟩<|I h (λg h=>B h λp j h=>G e [.S 13 (.b true),.A (Qu i),1,.o (.C2 (.b p)),3] Z ⟨⟨(tc_ g),Z⟩,(Qf0 _ _ j)⟩<|mq_ h Z) λg h=>L e [.S 13 (.b false),6] Z g<|mq_ h Z) λf h=>L e [.S 8 (.b false),11] Z f<|mq_ h Z) λk h=>H e [2] Z<|E h Z U
def KP (b:LI_)(a:Int)(c:Bool):O_ (LI_⊕(LI_⊕(LI_⊕(LI_⊕LI_)))):=bif c then some (.inr (.inr (.inl b)))else bif (a==5)then some (.inr (.inr (.inr (.inl b))))else some (.inr (.inr (.inr (.inr b))))
def Wx (b:LI_)(a:Int):O_ (LI_⊕(LI_⊕(LI_⊕(LI_⊕LI_)))):=bif (a==1)then some (.inl b)else bif (a==2)then some (.inr (.inl b))else bif (a==3)then KP b a (a==3)else KP b a (a==4)
def GN (k a){r}(h:Wx k a=some r):QX prog 285 [.sl 1 (k.map Qb),.I a] [] ((Sum.elim (λq=>(Gives (.clo (.func 302) [.sl 1 (q.map Qb)] []) [])) (Sum.elim (λq=>(Gives (.clo (.func 303) [.sl 1 (q.map Qb)] []) [])) (Sum.elim (λq=>(Gives (.clo (.func 304) [.sl 1 (q.map Qb)] []) [])) (Sum.elim (λq=>(Gives (.clo (.func 305) [.sl 1 (q.map Qb)] []) [])) (λq=>(Gives (.clo (.func 306) [.sl 1 (q.map Qb)] []) [])))))) r):=by
 refine wk_ 25 func285 λC c=>?_
 refine tg_ c [18] ?_
 refine bq_ c h [.T,10,.K [4] []] rfl (λg h=>?_) [.F,6] rfl λg h=>?_
 ·cases h
  exact AK.done (ex_ [_] (an_ (an_ Z U) (gives U)))
 refine bq_ c h [.T,10,.K [4] []] rfl (λi h=>?_) [.F] rfl λi h=>?_
 ·cases h
  exact AK.done (ex_ [_] (an_ (an_ Z U) (gives U)))
 refine AK.meet (λσ=>∃j:Bool,σ=⟨[(0,.sl 1 (k.map Qb)),(5,.I a),(14,.b j)],[]⟩/\KP k a j=some r) ?_ ?_
 ·refine tg_ c [6] ?_
  refine bq_ c h [.T,1,.K [0,5,14] []] rfl (λd h=>?_) [.F,4,.K [0,5,14] []] rfl λd h=>?_
  ·exact AK.met (ex_ _ (an_ Z h))
  exact AK.met (ex_ _ (an_ Z h))
 rintro σ ⟨j,rfl,h⟩
 refine bq_ c h [.T,10,.K [4] []] rfl (λe h=>?_) [.F,6] rfl λe h=>?_
 ·cases h
  exact AK.done (ex_ [_] (an_ (an_ Z U) (gives U)))
 refine bq_ c h [.T,10,.K [4] []] rfl (λf h=>?_) [.F,11,.K [4] []] rfl λf h=>?_
 ·cases h
  exact AK.done (ex_ [_] (an_ (an_ Z U) (gives U)))
 cases h
 exact AK.done (ex_ [_] (an_ (an_ Z U) (gives U)))
def RX (b:LI_)(a:Ql):O_ (Int×Int):=some (a.Num,0)
def Qbg (a b):CT 302 [.sl 1 (a.map Qb),.agg (Qu b)] [] (RX a b) (λr=>(.tup [.I r.1,.I r.2])) no_:=
 W 8 func302 Z λC c r h=>H c [16] Z<|F h Z Z U
def FT (a:LI_)(b:Ql):O_ (Int×Int):=(idx a b.Num).bind λc=>some (c,0)
def ZC (b c):CT 303 [.sl 1 (b.map Qb),.agg (Qu c)] [] (FT b c) (λr=>(.tup [.I r.1,.I r.2])) no_:=
 W 11 func303 Z λC d r h=>B h λe a h=>J d [12,.o (.row (Qb e)),6] Z (Xd a)<|F h Z Z U
def Su (a:Int)(b:Int):O_ (Int×Int):=bif (((decide (a<0))==(decide (b<0)))&&((decide ((Qi (a+b))<0)) != (decide (a<0))))then some (0,6)else some ((Qi (a+b)),0)
def Qie (a d):CT 329 [.I a,.I d] [] (Su a d) (λr=>(.tup [.I r.1,.I r.2])) no_:=
 W 23 func329 Z λC e r h=>H e [16] Z<|Y ⟨[(6,.I (Qi (a+d))),(21,.b (((decide (a<0))==(decide (d<0)))&&((decide ((Qi (a+d))<0)) != (decide (a<0)))))],[]⟩ (H e [7] Z<|bO_ ((decide (a<0))==(decide (d<0))) (λc=>G e [.S 15 (.b true),7,.S 21 (.b (((decide (a<0))==(decide (d<0)))&&((decide ((Qi (a+d))<0)) != (decide (a<0)))))] Z ⟨(tc_ c),(cb_ (Ju c Z))⟩<|M Z) λc=>G e [.S 15 (.b false),7,.S 21 (.b (((decide (a<0))==(decide (d<0)))&&((decide ((Qi (a+d))<0)) != (decide (a<0)))))] Z ⟨(tc_ c),(cb_ (WM c Z))⟩<|M Z)<|H e [1] Z<|I h (λf h=>J e [.T,8] Z f<|F h Z Z U) λf h=>J e [.F,10] Z f<|F h Z Z U
def Bn (a:Int)(b:Int):O_ (Int×Int):=bif (((decide (a<0)) != (decide (b<0)))&&((decide ((Qi (a-b))<0)) != (decide (a<0))))then some (0,6)else some ((Qi (a-b)),0)
def Qbh (a d):CT 330 [.I a,.I d] [] (Bn a d) (λr=>(.tup [.I r.1,.I r.2])) no_:=
 W 23 func330 Z λC e r h=>H e [16] Z<|Y ⟨[(6,.I (Qi (a-d))),(21,.b (((decide (a<0)) != (decide (d<0)))&&((decide ((Qi (a-d))<0)) != (decide (a<0)))))],[]⟩ (H e [7] Z<|bO_ ((decide (a<0)) != (decide (d<0))) (λc=>G e [.S 15 (.b true),7,.S 21 (.b (((decide (a<0)) != (decide (d<0)))&&((decide ((Qi (a-d))<0)) != (decide (a<0)))))] Z ⟨(tc_ c),(cb_ (Ju c Z))⟩<|M Z) λc=>G e [.S 15 (.b false),7,.S 21 (.b (((decide (a<0)) != (decide (d<0)))&&((decide ((Qi (a-d))<0)) != (decide (a<0)))))] Z ⟨(tc_ c),(cb_ (WM c Z))⟩<|M Z)<|H e [1] Z<|I h (λf h=>J e [.T,8] Z f<|F h Z Z U) λf h=>J e [.F,10] Z f<|F h Z Z U
def LV (a:Int):O_ Int:=bif (a<0)then some (IntKind.u64.wrap (0-(IntKind.u64.wrap a)))else some (IntKind.u64.wrap a)
def Qac (c):CT 336 [.I c] [] (LV c) (λr=>(.i .u64 r)) no_:=
 W 10 func336 Z λC b r h=>H b [12] Z<|I h (λa h=>K b [.T,3,.o (.any (.i .u64 (IntKind.u64.wrap c)) none),6] Z a (λσ d e _=>Stp.convI Z Z (QU b.n Z) (d _ _ Z) QeJ QcA)<|E h Z U) λa h=>K b [.F,5,.o (.any (.i .u64 (IntKind.u64.wrap c)) none),4] Z a (λσ d e _=>Stp.convI Z Z (QU b.n Z) (d _ _ Z) QeJ QcA)<|E h Z U
def Bo (a:Int)(b:Int):O_ (Int×Int):=some ((IntKind.u64.wrap ((IntKind.u64.wrap ((IntKind.u64.wrap ((Jm .u64 a 32)*(Jm .u64 b 32)))+(Jm .u64 (IntKind.u64.wrap ((IntKind.u64.wrap ((Jm .u64 a 32)*(Wi .u64 b 4294967295)))+(Jm .u64 (IntKind.u64.wrap ((Wi .u64 a 4294967295)*(Wi .u64 b 4294967295))) 32))) 32)))+(Jm .u64 (IntKind.u64.wrap ((Wi .u64 (IntKind.u64.wrap ((IntKind.u64.wrap ((Jm .u64 a 32)*(Wi .u64 b 4294967295)))+(Jm .u64 (IntKind.u64.wrap ((Wi .u64 a 4294967295)*(Wi .u64 b 4294967295))) 32))) 4294967295)+(IntKind.u64.wrap ((Wi .u64 a 4294967295)*(Jm .u64 b 32))))) 32))),(IntKind.u64.wrap (a*b)))
def Qbi (b c):CT 335 [.i .u64 b,.i .u64 c] [] (Bo b c) (λr=>(.tup [.i .u64 r.1,.i .u64 r.2])) no_:=
 W 51 func335 Z λC d r h=>G d [9,.o (.any (.i .u64 (Wi .u64 b 4294967295)) none),6,.o (.any (.i .u64 (Jm .u64 b 32)) none),6,.o (.any (.i .u64 (Wi .u64 c 4294967295)) none),6,.o (.any (.i .u64 (Jm .u64 c 32)) none),17,.o (.any (.i .u64 (Jm .u64 (IntKind.u64.wrap ((Wi .u64 b 4294967295)*(Wi .u64 c 4294967295))) 32)) none),7,.o (.any (.i .u64 (Wi .u64 (IntKind.u64.wrap ((IntKind.u64.wrap ((Jm .u64 b 32)*(Wi .u64 c 4294967295)))+(Jm .u64 (IntKind.u64.wrap ((Wi .u64 b 4294967295)*(Wi .u64 c 4294967295))) 32))) 4294967295)) none),6,.o (.any (.i .u64 (Jm .u64 (IntKind.u64.wrap ((IntKind.u64.wrap ((Jm .u64 b 32)*(Wi .u64 c 4294967295)))+(Jm .u64 (IntKind.u64.wrap ((Wi .u64 b 4294967295)*(Wi .u64 c 4294967295))) 32))) 32)) none),21,.o (.any (.i .u64 (Jm .u64 (IntKind.u64.wrap ((Wi .u64 (IntKind.u64.wrap ((IntKind.u64.wrap ((Jm .u64 b 32)*(Wi .u64 c 4294967295)))+(Jm .u64 (IntKind.u64.wrap ((Wi .u64 b 4294967295)*(Wi .u64 c 4294967295))) 32))) 4294967295)+(IntKind.u64.wrap ((Wi .u64 b 4294967295)*(Jm .u64 c 32))))) 32)) none),13] Z (a8_ (λσ a e _=>Stp.andB Z Z (QU d.n Z) (a _ _ Z) (a _ _ Z)) (λσ a e _=>Stp.shr Z Z (QU d.n Z) (a _ _ Z) (a _ _ Z) (by decide)) (λσ a e _=>Stp.andB Z Z (QU d.n Z) (a _ _ Z) (a _ _ Z)) (λσ a e _=>Stp.shr Z Z (QU d.n Z) (a _ _ Z) (a _ _ Z) (by decide)) (λσ a e _=>Stp.shr Z Z (QU d.n Z) (a _ _ Z) (a _ _ Z) (by decide)) (λσ a e _=>Stp.andB Z Z (QU d.n Z) (a _ _ Z) (a _ _ Z)) (λσ a e _=>Stp.shr Z Z (QU d.n Z) (a _ _ Z) (a _ _ Z) (by decide)) (λσ a e _=>Stp.shr Z Z (QU d.n Z) (a _ _ Z) (a _ _ Z) (by decide)))<|F h Z Z U
def Eu (b:(Int×Int))(c:Int)(d:Int)(a:Int):O_ (Int×Int):=
 bif ((0<b.1)||(a<b.2))then
 some (0,6)
 else
 some ((Qi (c*d)),0)
def IN (a:Int)(b:Int):O_ (Int×Int):=(LV a).bind λd=>(LV b).bind λe=>(Bo d e).bind λc=>bif ((decide (a<0)) != (decide (b<0)))then Eu c a b (IntKind.u64.wrap (9223372036854775807+1))else Eu c a b 9223372036854775807
def QdU (l m):CT 331 [.I l,.I m] [] (IN l m) (λr=>(.tup [.I r.1,.I r.2])) no_:=
 W 34 func331 Z λC g r h=>B h λt p h=>B h λu q h=>B h λf s h=>g3_ g [9,.o (.C1 (.i .u64 t)),1,.o (.C1 (.i .u64 u)),.o (.C2 (.tup [.i .u64 f.1,.i .u64 f.2])),12] Z (Qac _ _ p) (Qac _ _ q) (Qbi _ _ _ s)<|mE_ (λa:Int=>⟨[(0,.I l),(1,.I m),(6,.i .u64 f.1),(7,.i .u64 f.2),(8,.i .u64 a)],[]⟩) (λa=>Eu f l m a=some r) (H g [9] Z<|I h (λj h=>J g [.T,5] Z j<|me_ h Z) λj h=>J g [.F,1] Z j<|me_ h Z) λa h=>H g [2] Z<|Y ⟨[(0,.I l),(1,.I m),(30,.b ((0<f.1)||(a<f.2)))],[]⟩ (H g [4] Z<|bO_ (decide (0<f.1)) (λe=>G g [.S 26 (.b true),5,.S 30 (.b ((0<f.1)||(a<f.2)))] Z ⟨(tc_ e),(cb_ (UN e Z))⟩<|M Z) λe=>G g [.S 26 (.b false),5,.S 30 (.b ((0<f.1)||(a<f.2)))] Z ⟨(tc_ e),(cb_ (We e Z))⟩<|M Z)<|H g [1] Z<|I h (λk h=>J g [.T,8] Z k<|F h Z Z U) λk h=>J g [.F,12] Z k<|F h Z Z U
def Av (b:Int)(a:Int):O_ (Int×Int×Int):=bif (a==0)then some (0,0,7)else bif ((b==(-9223372036854775808))&&(a==(-1)))then some (0,0,6)else (chk (a != 0)).bind λ_=>(chk (a != 0)).bind λ_=>some ((Qi (Int.tdiv b a)),(Int.tmod b a),0)
def Rh (e g):CT 332 [.I e,.I g] [] (Av e g) (λr=>(.tup [.I r.1,.I r.2.1,.I r.2.2])) no_:=
 W 23 func332 Z λC c r h=>H c [16] Z<|I h (λf h=>J c [.T,10,.K [4,5,6] []] Z f<|e3_ h Z Z U) λf h=>J c [.F,1] Z f<|Y ⟨[(0,.I e),(1,.I g),(10,.b ((e==(-9223372036854775808))&&(g==(-1))))],[]⟩ (H c [4] Z<|bO_ (e==(-9223372036854775808)) (λa=>G c [.S 13 (.b true),5,.S 10 (.b ((e==(-9223372036854775808))&&(g==(-1))))] Z ⟨(tc_ a),(cb_ (Ju a Z))⟩<|M Z) λa=>G c [.S 13 (.b false),5,.S 10 (.b ((e==(-9223372036854775808))&&(g==(-1))))] Z ⟨(tc_ a),(cb_ (WM a Z))⟩<|M Z)<|H c [1] Z<|I h (λd h=>J c [.T,10,.K [4,5,6] []] Z d<|e3_ h Z Z U) λd h=>X h λi h=>X h λj h=>G c [.F,4] Z (A d) <| 
  dr_ c [.N,.N,.N,.N,.N,.N,.N,.N,.N] [] [] [4,5,6] [] Z Z (a2_ (neZ i) (neZ j)) Z <|
  H c [2,.K [4,5,6] []] Z<|e3_ h Z Z U
def Dz (a:Bool):O_ (Int×Int):=bif a then some (1,0)else some (0,0)
def DN (c):CT 333 [.b c] [] (Dz c) (λr=>(.tup [.I r.1,.I r.2])) no_:=
 W 5 func333 Z λC d r h=>H d [12] Z<|I h (λa h=>J d [.T,8] Z a<|F h Z Z U) λa h=>J d [.F,9] Z a<|F h Z Z U
def QcH (c:Int)(d:Int):O_ (Int×Int):=bif (c != 0)then (Dz (d != 0)).bind λa=>some (a.1,a.2)else (Dz false).bind λb=>some (b.1,b.2)
def QcI (a:Int)(b:Int):O_ (Int×Int):=some (a,b)
def QcJ (c:Int)(d:Int):O_ (Int×Int):=bif (c != 0)then (Dz true).bind λa=>some (a.1,a.2)else (Dz (d != 0)).bind λb=>some (b.1,b.2)
def QcK (a:Int)(b:Int):O_ (Int×Int):=some (a,b)
def HW (Ga:Int)(a:Int)(b:Int):O_ (Int×Int):=bif (Ga==1)then (Su a b).bind λk=>some (k.1,k.2)else bif (Ga==2)then (Bn a b).bind λc=>some (c.1,c.2)else bif (Ga==3)then (IN a b).bind λd=>some (d.1,d.2)else bif (Ga==4)then (Av a b).bind λe=>some (e.1,e.2.2)else bif (Ga==5)then (Av a b).bind λf=>some (f.2.1,f.2.2)else bif (Ga==6)then (Dz (a==b)).bind λg=>some (g.1,g.2)else bif (Ga==7)then (Dz (a != b)).bind λh=>some (h.1,h.2)else bif (Ga==8)then (Dz (decide (a<b))).bind λi=>some (i.1,i.2)else bif (Ga==9)then (Dz (decide (a<=b))).bind λj=>some (j.1,j.2)else bif (Ga==10)then (QcH a b).bind (λv=>QcI v.1 v.2)else bif (Ga==11)then (QcJ a b).bind (λv=>QcK v.1 v.2)else some (0,1)
def NX (Ga a2 b3):CT 319 [.I Ga,.I a2,.I b3] [] (HW Ga a2 b3) (λr=>(.tup [.I r.1,.I r.2])) no_:=
 W 112 func319 Z λC a r h=>H a [19] Z<|I h (λu h=>B h λx9 b8 h=>K a [.T,4,.o (.C2 (.tup [.I x9.1,.I x9.2])),9] Z u (Qie _ _ _ b8)<|F h Z Z U) λu h=>J a [.F,6] Z u<|I h (λe h=>B h λy z h=>K a [.T,4,.o (.C2 (.tup [.I y.1,.I y.2])),9] Z e (Qbh _ _ _ z)<|F h Z Z U) λe h=>J a [.F,6] Z e<|I h (λf h=>B h λD N h=>K a [.T,4,.o (.C2 (.tup [.I D.1,.I D.2])),9] Z f (QdU _ _ _ N)<|F h Z Z U) λf h=>J a [.F,6] Z f<|I h (λg h=>B h λw O h=>K a [.T,4,.o (.C2 (.tup [.I w.1,.I w.2.1,.I w.2.2])),20] Z g (Rh _ _ _ O)<|F h Z Z U) λg h=>J a [.F,6] Z g<|I h (λi h=>B h λx P h=>K a [.T,4,.o (.C2 (.tup [.I x.1,.I x.2.1,.I x.2.2])),20] Z i (Rh _ _ _ P)<|F h Z Z U) λi h=>J a [.F,6] Z i<|I h (λj h=>B h λa0 a1 h=>K a [.T,5,.o (.C1 (.tup [.I a0.1,.I a0.2])),9] Z j (DN _ _ a1)<|F h Z Z U) λj h=>J a [.F,6] Z j<|I h (λk h=>B h λa3 a4 h=>K a [.T,5,.o (.C1 (.tup [.I a3.1,.I a3.2])),9] Z k (DN _ _ a4)<|F h Z Z U) λk h=>J a [.F,6] Z k<|I h (λl h=>B h λa5 a6 h=>K a [.T,5,.o (.C1 (.tup [.I a5.1,.I a5.2])),9] Z l (DN _ _ a6)<|F h Z Z U) λl h=>J a [.F,6] Z l<|I h (λm h=>B h λa7 a8 h=>K a [.T,5,.o (.C1 (.tup [.I a7.1,.I a7.2])),9] Z m (DN _ _ a8)<|F h Z Z U) λm h=>J a [.F,6] Z m<|I h (λp h=>J a [.T,1] Z p<|mV_ h (λv=>⟨[(6,.I v.1),(7,.I v.2)],[]⟩) (λv h=>H a [4] Z<|I h (λq h=>B h λa9 b0 h=>G a [.S 94 (.b true),3,.o (.C1 (.tup [.I a9.1,.I a9.2])),5] Z ⟨(tc_ q),(DN _ _ b0)⟩<|mq_ h Z) λq h=>B h λb1 b2 h=>G a [.S 94 (.b false),3,.o (.C1 (.tup [.I b1.1,.I b1.2])),5] Z ⟨(tc_ q),(DN _ _ b2)⟩<|mq_ h Z) λ⟨b9,c0⟩ h=>H a [4] Z<|F h Z Z U) λp h=>J a [.F,6] Z p<|I h (λs h=>J a [.T,1] Z s<|mV_ h (λv=>⟨[(6,.I v.1),(7,.I v.2)],[]⟩) (λv h=>H a [4] Z<|I h (λt h=>B h λb4 b5 h=>G a [.S 105 (.b true),3,.o (.C1 (.tup [.I b4.1,.I b4.2])),5] Z ⟨(tc_ t),(DN _ _ b5)⟩<|mq_ h Z) λt h=>B h λb6 b7 h=>G a [.S 105 (.b false),3,.o (.C1 (.tup [.I b6.1,.I b6.2])),5] Z ⟨(tc_ t),(DN _ _ b7)⟩<|mq_ h Z) λ⟨c1,c2⟩ h=>H a [4] Z<|F h Z Z U) λs h=>J a [.F,10] Z s<|F h Z Z U
def Sv (b:Int):O_ (Int×Int):=(HW 2 0 b).bind λa=>some (a.1,a.2)
def Qif (b):CT 318 [.I b] [] (Sv b) (λr=>(.tup [.I r.1,.I r.2])) no_:=
 W 8 func318 Z λC f r h=>B h λe a h=>J f [9,.o (.C3 (.tup [.I e.1,.I e.2])),7] Z (NX _ _ _ _ a)<|F h Z Z U
def Bp (h:LI_->Ql->O_ (Int×Int))(e:LI_)(d:Ql):O_ (Int×Int):=(idx d.Kids 0).bind λf=>(h e f).bind λc=>bif (c.2 != 0)then some (0,c.2)else bif (d.Kind==3)then (Sv c.1).bind λa=>some (a.1,a.2)else (HW 6 c.1 0).bind λb=>some (b.1,b.2)
def Qbj (D:LI_->Ql->O_ (Int×Int))(hrec_expr_env_eval:∀(e:LI_) (f:Ql) {r:(Int×Int)},D e f=some r->QX prog 232 [.sl 1 (e.map Qb),.agg (Qu f)] [] (Gives (.tup [.I r.1,.I r.2]) []))(e:LI_)(f:Ql):CT 304 [.sl 1 (e.map Qb),.agg (Qu f)] [] (Bp D e f) (λr=>(.tup [.I r.1,.I r.2])) no_:=
 W 33 func304 Z λC g r h=>B h λq m h=>B h λs p h=>g3_ g [12,.o (.row (Qu q)),.A (Qu q),.o (.C2 (.tup [.I s.1,.I s.2])),16] Z (Gx m) Z (hrec_expr_env_eval _ _ p)<|I h (λb h=>J g [.T,10] Z b<|F h Z Z U) λb h=>J g [.F,8] Z b<|I h (λa h=>B h λi j h=>K g [.T,3,.o (.C1 (.tup [.I i.1,.I i.2])),9] Z a (Qif _ _ j)<|F h Z Z U) λa h=>B h λk l h=>K g [.F,6,.o (.C3 (.tup [.I k.1,.I k.2])),7] Z a (NX _ _ _ _ l)<|F h Z Z U
def DJ (f:(Int×Int))(g:Ql)(D:LI_->Ql->O_ (Int×Int))(h:LI_)(d:Bool):O_ (Int×Int):=bif d then (HW 7 f.1 0).bind λb=>some (b.1,b.2)else (idx g.Kids 1).bind λe=>(D h e).bind λa=>bif (a.2 != 0)then some (0,a.2)else (HW g.Num f.1 a.1).bind λc=>some (c.1,c.2)
def Pk (h:LI_->Ql->O_ (Int×Int))(c:LI_)(b:Ql):O_ (Int×Int):=(idx b.Kids 0).bind λd=>(h c d).bind λa=>bif (a.2 != 0)then some (0,a.2)else bif ((b.Num==10)&&(a.1==0))then DJ a b h c ((b.Num==10)&&(a.1==0))else bif (b.Num==11)then DJ a b h c (a.1 != 0)else DJ a b h c false
def QdV (rec_expr_env_eval:LI_->Ql->O_ (Int×Int))(hrec_expr_env_eval:∀(m:LI_) (f:Ql) {r:(Int×Int)},rec_expr_env_eval m f=some r->QX prog 232 [.sl 1 (m.map Qb),.agg (Qu f)] [] (Gives (.tup [.I r.1,.I r.2]) []))(m:LI_)(f:Ql):CT 305 [.sl 1 (m.map Qb),.agg (Qu f)] [] (Pk rec_expr_env_eval m f) (λr=>(.tup [.I r.1,.I r.2])) no_:=
 W 60 func305 Z λC e r h=>B h λP N h=>B h λp O h=>g3_ e [12,.o (.row (Qu P)),.A (Qu P),.o (.C2 (.tup [.I p.1,.I p.2])),16] Z (Gx N) Z (hrec_expr_env_eval _ _ O)<|I h (λq h=>J e [.T,10] Z q<|F h Z Z U) λq h=>J e [.F] Z q<|mE_ (λl:Bool=>⟨[(0,.sl 1 (m.map Qb)),lk_ 3,(6,.I p.1),(22,.b l)],[(3,.var (Qu f))]⟩) (λl=>DJ p f rec_expr_env_eval m l=some r) (H e [1] Z<|Y ⟨[(0,.sl 1 (m.map Qb)),lk_ 3,(6,.I p.1),(22,.b ((f.Num==10)&&(p.1==0)))],[(3,.var (Qu f))]⟩ (H e [5] Z<|bO_ (f.Num==10) (λa=>G e [.S 26 (.b true),5,.S 22 (.b ((f.Num==10)&&(p.1==0)))] Z ⟨(tc_ a),(cb_ (Ju a Z))⟩<|M Z) λa=>G e [.S 26 (.b false),5,.S 22 (.b ((f.Num==10)&&(p.1==0)))] Z ⟨(tc_ a),(cb_ (WM a Z))⟩<|M Z)<|H e [1] Z<|I h (λg h=>J e [.T,1] Z g<|me_ h Z) λg h=>J e [.F,5] Z g<|I h (λi h=>L e [.S 33 (.b true),5] Z i<|me_ h Z) λi h=>L e [.S 33 (.b false),5] Z i<|me_ h Z) λl h=>I h (λj h=>B h λs t h=>K e [.T,3,.o (.C3 (.tup [.I s.1,.I s.2])),9] Z j (NX _ _ _ _ t)<|F h Z Z U) λj h=>B h λu w h=>B h λx y h=>g4_ e [.F,8,.o (.row (Qu u)),.A (Qu u),.o (.C2 (.tup [.I x.1,.I x.2])),14] Z j (Gx w) Z (hrec_expr_env_eval _ _ y)<|I h (λk h=>J e [.T,9] Z k<|F h Z Z U) λk h=>B h λz D h=>K e [.F,8,.o (.C3 (.tup [.I z.1,.I z.2])),7] Z k (NX _ _ _ _ D)<|F h Z Z U
def LA (D:LI_->Ql->O_ (Int×Int))(c:LI_)(d:Ql):O_ (Int×Int):=(idx d.Kids 0).bind λh=>(D c h).bind λe=>bif (e.2 != 0)then some (0,e.2)else bif (e.1 != 0)then (idx d.Kids 1).bind λf=>(D c f).bind λa=>some (a.1,a.2)else (idx d.Kids 2).bind λg=>(D c g).bind λb=>some (b.1,b.2)
def Qbk (rec_expr_env_eval:LI_->Ql->O_ (Int×Int))(D:∀(e:LI_) (f:Ql) {r:(Int×Int)},rec_expr_env_eval e f=some r->QX prog 232 [.sl 1 (e.map Qb),.agg (Qu f)] [] (Gives (.tup [.I r.1,.I r.2]) []))(e:LI_)(f:Ql):CT 306 [.sl 1 (e.map Qb),.agg (Qu f)] [] (LA rec_expr_env_eval e f) (λr=>(.tup [.I r.1,.I r.2])) no_:=
 W 40 func306 Z λC g r h=>B h λw t h=>B h λx u h=>g3_ g [12,.o (.row (Qu w)),.A (Qu w),.o (.C2 (.tup [.I x.1,.I x.2])),16] Z (Gx t) Z (D _ _ u)<|I h (λb h=>J g [.T,10] Z b<|F h Z Z U) λb h=>J g [.F,7] Z b<|I h (λa h=>B h λi j h=>B h λk l h=>g4_ g [.T,5,.o (.row (Qu i)),.A (Qu i),.o (.C2 (.tup [.I k.1,.I k.2])),9] Z a (Gx j) Z (D _ _ l)<|F h Z Z U) λa h=>B h λm p h=>B h λq s h=>g4_ g [.F,8,.o (.row (Qu m)),.A (Qu m),.o (.C2 (.tup [.I q.1,.I q.2])),7] Z a (Gx p) Z (D _ _ s)<|F h Z Z U
def Ri (b:Ql)(c:LI_):O_ (Int×Int):=(RX c b).bind λa=>some (a.1,a.2)
def Aw (b:Ql)(c:LI_):O_ (Int×Int):=(FT c b).bind λa=>some (a.1,a.2)
def WY (h:LI_->Ql->O_ (Int×Int))(c:Ql)(b:LI_):O_ (Int×Int):=(Bp h b c).bind λa=>some (a.1,a.2)
def Ax (h:LI_->Ql->O_ (Int×Int))(c:Ql)(b:LI_):O_ (Int×Int):=(Pk h b c).bind λa=>some (a.1,a.2)
def Ay (h:LI_->Ql->O_ (Int×Int))(c:Ql)(b:LI_):O_ (Int×Int):=(LA h b c).bind λa=>some (a.1,a.2)
def LB (h:LI_->Ql->O_ (Int×Int))(b:LI_)(a:Ql):O_ (Int×Int):=(Wx b a.Kind).bind λc=>(Sum.elim (λq=>Ri a q) (Sum.elim (λq=>Aw a q) (Sum.elim (λq=>WY h a q) (Sum.elim (λq=>Ax h a q) (λq=>Ay h a q))))) c
def Yx : Nat->LI_->Ql->O_ (Int×Int)
 | 0,_,_=>none
 | n+1,a,b=>LB (Yx n) a b
def NY (b:LI_)(a:Ql):O_ (Int×Int):=Yx (SizeOf.sizeOf a) b a
def Qbl (rec_expr_env_eval:LI_->Ql->O_ (Int×Int))(hrec_expr_env_eval:∀(o:LI_) (e:Ql) {r:(Int×Int)},rec_expr_env_eval o e=some r->QX prog 232 [.sl 1 (o.map Qb),.agg (Qu e)] [] (Gives (.tup [.I r.1,.I r.2]) []))(o:LI_)(e:Ql):CT 232 [.sl 1 (o.map Qb),.agg (Qu e)] [] (LB rec_expr_env_eval o e) (λr=>(.tup [.I r.1,.I r.2])) no_:=by
 refine W 14 func232 rfl λC b r h=>?_
 refine tg_ b [8] ?_
 obtain⟨S,f,h⟩:=Qz h
 rcases S with(O | (P | (j | (k | l))))
 ·exact have h:Ri e O=some r:=h;B h λp q h=> 
    dr_ b [.N,.N,.N,.B (.any (.clo (.func 302) [.sl 1 (O.map Qb)] []) none),.E (.agg (Qu e)),.B (.C2 (.tup [.I p.1,.I p.2])),.N,.N,.m .s,.m .s] [] [] [4,5] [] Z Z (a3_ (λσ g i _=>Stp.callSame (md:=.cm (.fn) [] [] [] [.d,.d] [] (.clo (.func 302) [.sl 1 (O.map Qb)] []) []) Qw b g i Z (A (GN _ _ f))) Z (Qbg _ _ _ q)) Z <|
    H b [2] Z<|F h Z Z U
 ·exact have h:Aw e P=some r:=h;B h λt u h=> 
    dr_ b [.N,.N,.N,.B (.any (.clo (.func 303) [.sl 1 (P.map Qb)] []) none),.E (.agg (Qu e)),.B (.C2 (.tup [.I t.1,.I t.2])),.N,.N,.m .s,.m .s] [] [] [4,5] [] Z Z (a3_ (λσ g i _=>Stp.callSame (md:=.cm (.fn) [] [] [] [.d,.d] [] (.clo (.func 303) [.sl 1 (P.map Qb)] []) []) Qw b g i Z (A (GN _ _ f))) Z (ZC _ _ _ u)) Z <|
    H b [2] Z<|F h Z Z U
 ·exact have h:WY rec_expr_env_eval e j=some r:=h;B h λv w h=> 
    dr_ b [.N,.N,.N,.B (.any (.clo (.func 304) [.sl 1 (j.map Qb)] []) none),.E (.agg (Qu e)),.B (.C2 (.tup [.I v.1,.I v.2])),.N,.N,.m .s,.m .s] [] [] [4,5] [] Z Z (a3_ (λσ g i _=>Stp.callSame (md:=.cm (.fn) [] [] [] [.d,.d] [] (.clo (.func 304) [.sl 1 (j.map Qb)] []) []) Qw b g i Z (A (GN _ _ f))) Z (Qbj rec_expr_env_eval hrec_expr_env_eval _ _ _ w)) Z <|
    H b [2] Z<|F h Z Z U
 ·exact have h:Ax rec_expr_env_eval e k=some r:=h;B h λx y h=> 
    dr_ b [.N,.N,.N,.B (.any (.clo (.func 305) [.sl 1 (k.map Qb)] []) none),.E (.agg (Qu e)),.B (.C2 (.tup [.I x.1,.I x.2])),.N,.N,.m .s,.m .s] [] [] [4,5] [] Z Z (a3_ (λσ g i _=>Stp.callSame (md:=.cm (.fn) [] [] [] [.d,.d] [] (.clo (.func 305) [.sl 1 (k.map Qb)] []) []) Qw b g i Z (A (GN _ _ f))) Z (QdV rec_expr_env_eval hrec_expr_env_eval _ _ _ y)) Z <|
    H b [2] Z<|F h Z Z U
 exact have h:Ay rec_expr_env_eval e l=some r:=h;B h λz D h=> 
   dr_ b [.N,.N,.N,.B (.any (.clo (.func 306) [.sl 1 (l.map Qb)] []) none),.E (.agg (Qu e)),.B (.C2 (.tup [.I z.1,.I z.2])),.N,.N,.m .s,.m .s] [] [] [4,5] [] Z Z (a3_ (λσ g i _=>Stp.callSame (md:=.cm (.fn) [] [] [] [.d,.d] [] (.clo (.func 306) [.sl 1 (l.map Qb)] []) []) Qw b g i Z (A (GN _ _ f))) Z (Qbk rec_expr_env_eval hrec_expr_env_eval _ _ _ D)) Z <|
   H b [2] Z<|F h Z Z U
def NZ : ∀(fuel:Nat) (a:LI_) (b:Ql) {r:(Int×Int)},Yx fuel a b=some r->QX prog 232 [.sl 1 (a.map Qb),.agg (Qu b)] [] (Gives (.tup [.I r.1,.I r.2]) [])
 | 0,_,_,_,h=>by cases h
 | n+1,a,b,_,h=>Qbl (Yx n) (λ_ _ _ h=>NZ n _ _ h) a b _ h
def QcL (a b){r}(h:NY a b=some r):QX prog 232 [.sl 1 (a.map Qb),.agg (Qu b)] [] (Gives (.tup [.I r.1,.I r.2]) []):=NZ _ a b h
def LW (b:Ql)(a:LI_):O_ (Int×Int):=(BQ b (a.length:Int)).bind λd=>bif (!d)then some (0,1)else (NY a b).bind λc=>some (c.1,c.2)
def Qad (f a):CT 167 [.agg (Qu f),.sl 1 (a.map Qb)] [] (LW f a) (λr=>(.tup [.I r.1,.I r.2])) no_:=
 W 16 func167 Z λC g r h=>B h λl i h=>g3_ g [10,.A (Qu f),1,.o (.ln a.length),.o (.C2 (.b l)),3] Z Z Qc (NW _ _ _ i)<|I h (λe h=>J g [.T,8] Z e<|F h Z Z U) λe h=>B h λk j h=>g3_ g [.F,5,.A (Qu f),.o (.C2 (.tup [.I k.1,.I k.2])),7] Z e Z (QcL _ _ j)<|F h Z Z U
def XO (b:Xo):O_ Int:=(LW b.task.Guard b.env).bind λa=>bif (a.2 != 0)then some a.2 else bif (a.1==0)then some 9 else some 0
def HX (f):CT 114 [.agg (QF f)] [] (XO f) V.I no_:=
 W 21 func114 Z λC e r h=>B h λi g h=>K e [10,.A (Qu f.task.Guard),2,.o (.C2 (.tup [.I i.1,.I i.2])),16] Z Z (Qad _ _ _ g)<|I h (λa h=>J e [.T,9] Z a<|E h Z U) λa h=>J e [.F,7] Z a<|I h (λb h=>J e [.T,8] Z b<|E h Z U) λb h=>J e [.F,9] Z b<|E h Z U
def Dh (a:QLL):O_ QLL:=(chk ((([]:QLL).length+a.length)*24<=140737488355328)).bind λ_=>some (([]:QLL)++a)
def Pl (b):CT 279 [.sl 1 (b.map QN)] [] (Dh b) (λr=>(.own 600 r.length)) (λr=>[(600,.arr 1 (r.map QN))]):=by
 refine W 8 func279 rfl λC a r h=>?_
 unfold Dh at h
 refine tg_ a [9] ?_
 refine AK.eqNil rfl rfl rfl (QU a.n rfl) rfl rfl QoQ ?_ ?_
 ·intro c
  replace h:some ([]:QLL)=some r:=by simpa[chk,List.map_eq_nil_iff.1 c] using h
  exact K a [10,.adopt 2 600 1,.O 600 (.arr 1 (([]:QLL).map QN)),.S 2 (.own 600 ([]:QLL).length)] Z Z Z<|E h Z r1_
 exact X h λd h=>g3_ a [8,.O 5 (.arr 1 (([]:QLL).map QN)),.S 5 (.own 5 ([]:QLL).length),1,.x (λσ=>σ.app 5 1 7 (([]:QLL)++b).length ((([]:QLL)++b).map QN)),4,.K [2] [5],.ren 5 600] Z Z Z (Stp.appSB (by_:=24) (zs:=[.Y]) (e:=37) (e':=37) (z':=1) (by':=24) Z Z (QU a.n Z) Z Z Z Qc (by kernel_rfl) (by kernel_rfl) (by kernel_rfl) Z (by decide) (by decide) (QdA d Qc) Z Ya (Jr Qc))<|E h Z r1_
def KQ (c:(Bool×YP))(a:Int):O_ (Int×Bool):=(WO c.2 a).bind λb=>bif (!b)then some (0,false)else some (a,true)
def Eb (d:(L_ QL))(e:Int)(b:Int):O_ (Int×Bool):=
 (Ub d e).bind λc=>
 bif (!c.1)then
 some (0,false)
 else
 (WB c.2).bind λa=>
 bif (a.Kind==1)then
 bif ((b<a.Lo)||(a.Hi<b))then
 some (0,false)
 else
 KQ c (Qi (b-a.Lo))
 else
 KQ c b
def QcM (w x k):CT 175 [.sl 7 (w.map Qr),.I x,.I k] [] (Eb w x k) (λr=>(.tup [.I r.1,.b r.2])) no_:=
 W 43 func175 Z λC f r h=>B h λm t h=>K f [10,.o (.C2 (.tup [.agg (XA m.2),.b m.1])),5,.O 8 (.var (XA m.2)),10] Z (Pf _ _ _ t) Z<|I h (λp h=>J f [.T,8] Z p<|F h Z Z U) λp h=>J f [.F,2] Z p<|mE_ (λl:Int=>⟨[(2,.I l),lk_ 8],[(8,.var (XA m.2))]⟩) (λl=>KQ m l=some r) (B h λa q h=>g3_ f [2,.A (XA m.2),.o (.C1 (.agg (Qr a))),2,.O 10 (.var (Qr a)),9] Z Z (AW _ _ q) Z<|I h (λg h=>J f [.T,2] Z g<|Y ⟨[(2,.I k),lk_ 8,lk_ 10,(33,.b ((k<a.Lo)||(a.Hi<k)))],[(8,.var (XA m.2)),(10,.var (Qr a))]⟩ (H f [6] Z<|bO_ (decide (k<a.Lo)) (λe=>G f [.S 28 (.b true),6,.S 33 (.b ((k<a.Lo)||(a.Hi<k)))] Z ⟨(tc_ e),(cb_ (UN e Z))⟩<|M Z) λe=>G f [.S 28 (.b false),6,.S 33 (.b ((k<a.Lo)||(a.Hi<k)))] Z ⟨(tc_ e),(cb_ (We e Z))⟩<|M Z)<|H f [1] Z<|I h (λi h=>J f [.T,9] Z i<|F h Z Z U) λi h=>J f [.F,9] Z i<|me_ h Z) λg h=>J f [.F,1] Z g<|me_ h Z) λl h=>B h λu s h=>K f [3,.A (XA m.2),1,.o (.C2 (.b u)),3] Z Z (OU _ _ _ s)<|I h (λj h=>J f [.T,8] Z j<|F h Z Z U) λj h=>J f [.F,10] Z j<|F h Z Z U
def MW (a:LI_)(j:(L_ Xs))(h:LI_)(k:Qf)(e:Int)(c:QMk):O_ ((Int×QMk)⊕(Int⊕QMk)):=
 bif (e<(a.length:Int))then
 (idx a e).bind λd=>
 bif ((d<0)||((j.length:Int)<=d))then
 some (.inr (.inl 11))
 else
 (idx j d).bind λl=>
 (LW l.Expr h).bind λf=>
 bif (f.2 != 0)then
 some (.inr (.inl f.2))
 else
 (idx j d).bind λb=>
 bif ((b.Place<0)||((k.Places.length:Int)<=b.Place))then
 some (.inr (.inl 3))
 else
 (idx k.Places b.Place).bind λm=>
 (Eb k.Colours m.Colour f.1).bind λi=>
 bif (!i.2)then
 some (.inr (.inl 8))
 else
 (idx c b.Place).bind λn=>
 (Pc ([i.1]:L_ Int)).bind λo=>
 (Jw n o).bind λg=>
 (idx c b.Place).bind λp=>
 bif (g.2 != 0)then
 some (.inr (.inl g.2))
 else
 some (.inl ((Qi (e+1)),(c.set b.Place.toNat g.1)))
 else
 some (.inr (.inr c))
def QeV (a:Int):O_ (QMk×Int):=some (([]:L_ QBg),a)
def QeW (a:QMk):O_ (QMk×Int):=some (a,0)
def DO (b:Qf)(d:(L_ Xs))(a:LI_)(c:LI_):O_ (QMk×Int):=(chk (decide (0<=(b.Places.length:Int))&&decide ((b.Places.length:Int)<=(b.Places.length:Int))&&decide ((b.Places.length:Int)<=4294967296))).bind λ_=>(QE (λst=>MW a d c b st.1 st.2) (0,(List.replicate (b.Places.length:Int).toNat (([]:QBg):QBg)))).bind (Sum.elim (λq=>QeV q) (λq=>QeW q))
def Uk (t P e k):CT 119 [.agg (Qa t),.sl 4 (P.map Xj),.sl 1 (e.map Qb),.sl 1 (k.map Qb)] [] (DO t P e k) (λr=>(.tup [.sl 1 (r.1.map Qe),.I r.2])) no_:=
 W 97 func119 Z λC g r h=>X h λb6 h=>K g [11,.o (.ln t.Places.length),.o (.rows (List.replicate (t.Places.length:Int).toNat [.Y]))] Z Qc ⟨b6,Z⟩<|AK.denilA (b:=21) [some 2] Z (Qjc (f:=Qe) (x:=([]:QBg)) Z)<|K g [.S 21 (.own 21 (List.replicate (t.Places.length:Int).toNat (([]:QBg):QBg)).length),7,.o (.ln e.length),4] Z (by simp) Qc<|lq_ h (λst=>⟨[(1,.sl 4 (P.map Xj)),(3,.sl 1 (k.map Qb)),lk_ 4,(10,.own 21 st.2.length),(22,.sl 1 (e.map Qb)),(23,.I (e.length:Int)),(24,.I st.1)],[(4,.var (Qa t)),(21,.arr 1 (st.2.map Qe))]⟩) (λq=>(.ret,⟨[(8,.Y),(9,.I q)],[]⟩)) (λq=>(.exit 0,⟨[(10,.own 21 q.length)],[(21,.arr 1 (q.map Qe))]⟩)) Z (λ⟨a5,s⟩ o h=>H g [6] Z<|I h (λu h=>B h λj a6 h=>K g [.T,6,.o (.row (Qb j)),6] Z u (Xd a6)<|Y ⟨[(1,.sl 4 (P.map Xj)),(3,.sl 1 (k.map Qb)),lk_ 4,(10,.own 21 s.length),(12,.I j),(22,.sl 1 (e.map Qb)),(23,.I (e.length:Int)),(24,.I a5),(35,.b ((j<0)||((P.length:Int)<=j)))],[(4,.var (Qa t)),(21,.arr 1 (s.map Qe))]⟩ (H g [4] Z<|bO_ (decide (j<0)) (λl=>G g [.S 30 (.b true),6,.S 35 (.b ((j<0)||((P.length:Int)<=j)))] Z ⟨(tc_ l),(cb_ (UN l Z))⟩<|M Z) λl=>G g [.S 30 (.b false),2,.o (.ln P.length),3,.S 35 (.b ((j<0)||((P.length:Int)<=j)))] Z ⟨⟨(tc_ l),Qc⟩,(cb_ (We l Z))⟩<|M Z)<|H g [1] Z<|I h (λw h=>J g [.T,10] Z w<|rR_ h Z) λw h=>B h λa7 a8 h=>B h λa3 a9 h=>g4_ g [.F,6,.o (.row (Xj a7)),1,.A (Qu a7.Expr),1,.o (.C2 (.tup [.I a3.1,.I a3.2])),14] Z w (Xd a8) Z (Qad _ _ _ a9)<|I h (λy h=>J g [.T,11] Z y<|rR_ h Z) λy h=>B h λi b0 h=>K g [.F,6,.o (.row (Xj i)),7] Z y (Xd b0)<|Y ⟨[(1,.sl 4 (P.map Xj)),(3,.sl 1 (k.map Qb)),lk_ 4,(10,.own 21 s.length),(13,.I a3.1),(15,.I i.Place),(22,.sl 1 (e.map Qb)),(23,.I (e.length:Int)),(24,.I a5),(62,.b ((i.Place<0)||((t.Places.length:Int)<=i.Place)))],[(4,.var (Qa t)),(21,.arr 1 (s.map Qe))]⟩ (H g [4] Z<|bO_ (decide (i.Place<0)) (λp=>G g [.S 56 (.b true),7,.S 62 (.b ((i.Place<0)||((t.Places.length:Int)<=i.Place)))] Z ⟨(tc_ p),(cb_ (UN p Z))⟩<|M Z) λp=>G g [.S 56 (.b false),3,.o (.ln t.Places.length),3,.S 62 (.b ((i.Place<0)||((t.Places.length:Int)<=i.Place)))] Z ⟨⟨(tc_ p),Qc⟩,(cb_ (We p Z))⟩<|M Z)<|H g [1] Z<|I h (λz h=>J g [.T,10] Z z<|rR_ h Z) λz h=>B h λb7 b1 h=>B h λa4 b2 h=>G g [.F,3] Z (A z) <| 
  dr_ g [.N,.N,.N,.N,.N,.B (.row (Qq b7)),.N,.N,.N,.B (.C3 (.tup [.I a4.1,.b a4.2])),.N,.N,.N,.N,.N] [] [] [1,3,4,10,15,16,17,22,23,24] [4,21] Z Z (a2_ (Xd b1) (QcM _ _ _ _ b2)) Z <|
  H g [8] Z<|I h (λD h=>J g [.T,10] Z D<|rR_ h Z) λD h=>B h λb8 a1 h=>B h λb3 b4 h=>B h λa0 b5 h=>B h λb9 a2 h=>G g [.F,3] Z (A D) <| 
  dr_ g [.N,.N,.N,.N,.N,.B (.row (Qe b8)),.N,.a (.bd []) (some ([],.sl 1 (([a4.1]:L_ Int).map Qb))) false,.B (.cd false [.d] 2 (b3.map QQ) b3.length),.B (.C2 (.tup [.sl 2 (a0.1.map QQ),.I a0.2])),.a .no none true true,.N,.a .no none true,.N,.m (.st (Qe b9) ((s.set i.Place.toNat a0.1).map Qe)),.N] [1,3,4,10,15,16,22,23,24] [4] [1,3,4,10,14,22,23,24] [4,21] Z Z (a7_ (YJ a1 Z) (XT (Jf a1).2) Z ⟨(Qey _ _ b4),Qc⟩ (Te _ _ _ b5) (YJ a2 Z) ⟨(XT (Jf a2).2),BC Z⟩) Z <|
  H g [7] Z<|I h (λO h=>J g [.T,10] Z O<|rR_ h Z) λO h=>K g [.F,7,.S 10 (.own 21 (s.set i.Place.toNat a0.1).length)] Z O (congrArg (λn=>V.own 21 n) (by simp))<|rN_ h Z) λu h=>J g [.F,2] Z u<|rX_ h Z) (λc1 h=>H g [2,.denil 8 [some 1]] Z<|F h Z Z U) (λc0 h=>J g [10,.frz 21 (c0.map Qe) [8] []] Z (A (Jl Qc))<|F h Z Z U)
def Yo (b:Xo)(a:LI_):O_ Int:=(DO b.net b.task.Outs a b.env).bind λc=>some c.2
def LX (b a):CT 117 [.agg (QF b),.sl 1 (a.map Qb)] [] (Yo b a) V.I no_:=
 W 20 func117 Z λC g r h=>B h λf e h=>K g [9,.A (Qa b.net),6,.o (.C4 (.tup [.sl 1 (f.1.map Qe),.I f.2])),14] Z Z (Uk _ _ _ _ _ e)<|E h Z U
def BR (a:LI_)(b:Xo):O_ Bool:=(Yo b a).bind λc=>some (c != 0)
def RY (a e):CT 280 [.sl 1 (a.map Qb),.L 618] [(618,.var (QF e))] (BR a e) V.b (λ_=>[(618,.var (QF e))]):=
 W 8 func280 Z λC g r h=>B h λi f h=>K g [7,.A (QF e),1,.o (.C2 (.I i)),5] Z Z (LX _ _ _ f)<|E h Z r1_
def WP (c:QLL)(d:Xo)(a:Int):O_ (Int⊕(Int⊕Unit)):=bif (a<(c.length:Int))then (idx c a).bind λe=>(BR e d).bind λb=>bif b then some (.inr (.inl a))else some (.inl (Qi (a+1)))else some (.inr (.inr ()))
def MX (a:Int):O_ Int:=some a
def MY : O_ Int:=some (-1)
def KE (a:QLL)(b:Xo):O_ Int:=(QE (λst=>WP a b st) 0).bind (Sum.elim (λq=>MX q) (λq=>MY))
def MZ (c f):CT 233 [.own 618 c.length,.clo (.func 280) [] [.L 619]] [(618,.arr 1 (c.map QN)),(619,.var (QF f))] (KE c f) V.I (λ_=>[(618,.arr 1 (c.map QN)),(619,.var (QF f))]):=
 W 19 func233 Z λC e r h=>H e [14] Z<|lq_ h (λst=>⟨[(0,.own 618 c.length),(1,.clo (.func 280) [] [.L 619]),(7,.I (c.length:Int)),(8,.I st)],[(618,.arr 1 (c.map QN)),(619,.var (QF f))]⟩) (λq=>(.ret,⟨[(4,.I q)],[(618,.arr 1 (c.map QN)),(619,.var (QF f))]⟩)) (λq=>(.exit 0,⟨[],[(618,.arr 1 (c.map QN)),(619,.var (QF f))]⟩)) Z (λm o h=>H e [6] Z<|I h (λg h=>B h λl i h=>B h λk j h=>g4_ e [.T,16,.o (.row (QN l)),.cm (.clo) [(618,619)] [(619,618)] [] [.d,.d] [(618,.var (QF f))] (.b k),2] Z g (YJ i Z) (XT (Jf i).2) (RY _ _ _ j)<|I h (λa h=>J e [.T,9] Z a<|rR_ h Z) λa h=>J e [.F,7] Z a<|rN_ h Z) λg h=>J e [.F,2] Z g<|rX_ h Z) (λp h=>H e [2] Z<|E h Z r2_) (λ_ h=>H e [8] Z<|E h Z r2_)
def WD (a:Int)(b:Int)(c:QLL):O_ ((Int×Int×QLL)⊕(Int×QLL)):=some (.inl (b,(Qi (a+1)),c))
def JH (f:Xo)(c:Int)(b:Int)(a:QLL):O_ ((Int×Int×QLL)⊕(Int×QLL)):=bif (b<(a.length:Int))then (idx a b).bind λd=>(BR d f).bind λe=>bif (!e)then (idx a c).bind λg=>WD b (Qi (c+1)) (a.set c.toNat d)else WD b c a else some (.inr (c,a))
def JI (a:Int)(b:QLL):O_ QLL:=(chk (decide (0<=a)&&decide (a.toNat<=b.length))).bind λ_=>(chk (decide (0<=a)&&decide (a.toNat<=(b.take a.toNat++List.replicate (b.length-a.toNat) (([]:LI_):LI_)).length))).bind λ_=>some ((b.take a.toNat++List.replicate (b.length-a.toNat) (([]:LI_):LI_)).take a.toNat)
def Kq (a:QLL)(c:Xo):O_ QLL:=(KE a c).bind λb=>bif (b==(-1))then some a else (QE (λst=>JH c st.1 st.2.1 st.2.2) (b,(Qi (b+1)),a)).bind (λq=>JI q.1 q.2)
def LY (P p):CT 278 [.own 618 P.length,.clo (.func 280) [] [.L 619]] [(618,.arr 1 (P.map QN)),(619,.var (QF p))] (Kq P p) (λr=>(.own 618 r.length)) (λr=>[(618,.arr 1 (r.map QN)),(619,.var (QF p))]):=by
 refine W 42 func278 rfl λC g r h=>?_
 obtain⟨x5,a0,h⟩:=Qz h
 refine Qp g [9,.cm (.fn) [(618,618),(619,619)] [(618,618),(619,619)] [] [.d,.d] [(618,.arr 1 (P.map QN)),(619,.var (QF p))] (.I x5),10] Z (A (MZ _ _ _ a0)) ?_
 rcases XS h with⟨v,h⟩|⟨v,h⟩
 ·exact J g [.T,8] Z v<|E h Z r2_
 refine Qp g [.F,11,.K [0,1,5,6] [618,619]] Z (A v) ?_
 obtain⟨a1,z,h⟩:=Qz h
 refine AK.loop (body:=(λst=>JH p st.1 st.2.1 st.2.2)) (λst σ=>σ=⟨[(0,.own 618 st.2.2.length),(1,.clo (.func 280) [] [.L 619]),(5,.I st.1),(6,.I st.2.1)],[(618,.arr 1 (st.2.2.map QN)),(619,.var (QF p))]⟩) (λq e σ=>e=.exit 0/\σ=⟨[(0,.own 618 q.2.length),(5,.I q.1)],[(618,.arr 1 (q.2.map QN)),(619,.var (QF p))]⟩) z rfl ?_ ?_
 ·rintro ⟨i9,D,N⟩ o σ rfl h
  refine tg_ g [9] ?_
  refine bq_ g h [.T,2] rfl (λk h=>?_) [.F,2,.K [0,5] [618,619]] rfl λk h=>?_
  ·refine AK.meet (λσ=>∃w:Int,∃s:QLL,σ=⟨[(0,.own 618 s.length),(1,.clo (.func 280) [] [.L 619]),(5,.I w),(6,.I D)],[(618,.arr 1 (s.map QN)),(619,.var (QF p))]⟩/\WD D w s=some o) ?_ ?_
   ·obtain⟨y,t,h⟩:=Qz h
    obtain⟨a2,O,h⟩:=Qz h
    refine Qp g [6,.o (.row (QN y)),7,.cm (.clo) [(618,619)] [(619,618)] [] [.d,.d] [(618,.var (QF p))] (.b a2),3] Z (a3_ (YJ t Z) (XT (Jf t).2) (RY _ _ _ O)) ?_
    rcases XS h with⟨m,h⟩|⟨m,h⟩
    ·obtain⟨a3,u,h⟩:=Qz h
     refine Qp g [.T,6,.st (QN a3) ((N.set i9.toNat y).map QN),8,.S 0 (.own 618 (N.set i9.toNat y).length),.K [0,1,5,6] [618,619]] Z (a4_ m (YJ u Z) ⟨(XT (Jf u).2),BC Z⟩ (congrArg (λn=>V.own 618 n) (by simp))) ?_
     exact AK.met (ex_ _ (ex_ _ (an_ Z h)))
    refine Qp g [.F,2,.K [0,1,5,6] [618,619]] Z (A m) ?_
    exact AK.met (ex_ _ (ex_ _ (an_ Z h)))
   rintro σ ⟨w,s,rfl,h⟩
   refine tg_ g [5,.K [0,1,5,6] [618,619]] ?_
   cases h
   exact Zt Z Z
  cases h
  exact Qa1 Z (an_ Z Z)
 obtain⟨a,c⟩:=a1
 replace h:JI a c=some r:=h
 rintro e σ ⟨rfl,rfl⟩
 refine tg_ g [6] ?_
 obtain⟨i,h⟩:=Tb h
 refine AK.clearTail (b:=618) (l:=a.toNat) (n:=c.length) rfl rfl rfl rfl rfl rfl (QU g.n rfl) rfl rfl Qc (Qw.es rfl) QnX rfl rfl rfl (EX.val rfl (Xw (SX i)) rfl) (Xw (HO i)) rfl ?_
 refine AK.denilA (b:=618) [some 1] rfl (QoM (f:=QN) (x:=(([]:LI_):LI_)) (λ_=>rfl) rfl) ?_
 obtain⟨j,h⟩:=Tb h
 refine Qp g [.S 0 (.own 618 (c.take a.toNat++List.replicate (c.length-a.toNat) (([]:LI_):LI_)).length),.S 36 (.own 618 (c.take a.toNat++List.replicate (c.length-a.toNat) (([]:LI_):LI_)).length),6] Z (a2_ (QlM (Xw (HO i))) (QlM (Xw (HO i)))) ?_
 have a4:a.toNat=((c.take a.toNat++List.replicate (c.length-a.toNat) (([]:LI_):LI_)).take a.toNat).length:=by rw[WJ,Fe (Xw (HO j))]
 exact K g [.x (λσ=>(σ.set 618 (.arr 1 (((c.take a.toNat++List.replicate (c.length-a.toNat) (([]:LI_):LI_)).take a.toNat).map QN))).put 41 (.own 618 a.toNat)),.S 41 (.own 618 ((c.take a.toNat++List.replicate (c.length-a.toNat) (([]:LI_):LI_)).take a.toNat).length),4] Z (Stp.sliceO Z Z (QU g.n Z) Z Z (Qw.es Z) EX.no (EX.val Z (Xw (SX j)) Z) (Xw (HO j)) (by simp)) (QoG (Xw (HO j)))<|E h Z r2_
def WE (a:QBg)(b:Int)(c:Int):O_ (Unit⊕Unit):=bif (((Qs a b).getD 0)<c)then some (.inr ())else some (.inl ())
def AX : O_ Bool:=some true
def AY : O_ Bool:=some false
def Gc (a:QBg)(b:QBg):O_ Bool:=(Fk (λst p=>WE b p.1 p.2) () a).bind (Sum.elim (λq=>AX) (λq=>AY))
def LZ (s g):CT 120 [.map 618,.map 619] [(618,.map (QC V.I V.I s)),(619,.map (QC V.I V.I g))] (Gc s g) V.b (λ_=>[(618,.map (QC V.I V.I s)),(619,.map (QC V.I V.I g))]):=by
 refine W 19 func120 rfl λC a r h=>?_
 refine tg_ a [9] ?_
 refine AK.openMap (b:=618) KN rfl λc d L5 t u=>?_
 refine Qp a [.x (λσ=>(σ.set 8 (.itr c d #[] none)).put 8 (.L 8)),3,.K [1,8] [8,618,619]] Z (A (Stp.range (b:=618) Z Z (QU a.n Z) Z Z GM Z)) ?_
 obtain⟨y,v,h⟩:=Qz h
 refine AK.range (body:=(λst p=>WE g p.1 p.2)) (λst seen σ=>∃cur:O_ Nat,σ=⟨[(1,.map 619),lk_ 8],[(8,.itr c d seen cur),(618,.mapX c d (FN V.I V.I L5) (QC V.I V.I s)),(619,.map (QC V.I V.I g))]⟩) (λq e σ=>e=.ret/\σ=⟨[(4,.b false)],[(618,.mapX c d (FN V.I V.I L5) (QC V.I V.I s)),(619,.map (QC V.I V.I g))]⟩) (λst e σ=>e=.exit 0/\σ=⟨[],[(618,.mapX c d (FN V.I V.I L5) (QC V.I V.I s)),(619,.map (QC V.I V.I g))]⟩) t u v (ex_ _ rfl) ?_ ?_
 ·rintro _ seen σ ⟨cur,rfl⟩ hex
  refine tg_ a [2] ?_
  refine AK.nextT (b:=8) (m:=618) rfl rfl rfl (QU a.n rfl) rfl rfl rfl rfl ?_ ?_
  ·intro hleft
   refine tg_ a [7,.K [] [618,619]] ?_
   exact AK.done (Or.inl (an_ hleft (an_ (λh=>(by cases h)) (an_ Z Z))))
  intro O w D i
  obtain⟨o,h⟩:=hex _ i
  have ho:=h
  replace h:WE g w D=some o:=h
  refine Qp a [10,.x (λσ=>σ.put 11 (.tup [.I w,.I D])),11,.o (.any (.I ((Qs g w).getD 0)) none),3] Z (a2_ (Stp.entryT (b:=8) (m:=618) (e:=V.I) (f:=V.I) Z Z (QU a.n Z) Z i Z Z) (λσ N P _=>Stp.lookup (e:=V.I) (f:=V.I) (l:=g) (k:=w) (z:=0) Z Z (QU a.n Z) (N _ _ Z) (P _ _ Z) (N _ _ Z) GM KN Ls Z)) ?_
  refine bq_ a h [.T,7,.K [4] [618,619]] rfl (λj h=>?_) [.F,2,.K [1,8] [8,618,619]] rfl λj h=>?_
  ·cases h
   exact AK.done (Or.inr (ex_ _ (an_ i (Or.inr (ex_ _ (an_ ho (an_ (λh=>(by cases h)) (an_ Z Z))))))))
  cases h
  exact AK.done (Or.inr (ex_ _ (an_ i (Or.inl (ex_ _ (an_ ho (an_ Z (ex_ _ Z))))))))
 rcases y with(_ | _)
 ·replace h:AX=some r:=h
  unfold AX at h
  rintro e σ ⟨rfl,rfl⟩
  exact H a [8] Z<|AK.closeMap (b:=618) Z<|E h Z r2_
 replace h:AY=some r:=h
 unfold AY at h
 rintro e σ ⟨rfl,rfl⟩
 exact H a [2] Z<|AK.closeMap (b:=618) Z<|E h Z r2_
def VK (a:Unit):O_ Bool:=some false
def VL (a:QBg):O_ Bool:=some false
def VM (a:QBg):O_ Bool:=some false
def Oa (b:(QBg×QBg)):O_ Bool:=(Gc b.1 b.2).bind λa=>some a
def Oc (a:QBg)(b:QBg):O_ Bool:=(IJ a b).bind (Sum.elim (λq=>VK q) (Sum.elim (λq=>VL q) (Sum.elim (λq=>VM q) (λq=>Oa q))))
def Qf2 (i j):CT 234 [.sl 2 (i.map QQ),.sl 2 (j.map QQ)] [] (Oc i j) V.b no_:=by
 refine W 21 func234 rfl λC c r h=>?_
 obtain⟨m,a,h⟩:=Qz h
 refine tg_ c [9] ?_
 rcases m with(o | (k | (l | e)))
 ·exact have h:VK o=some r:=h;J c [.cm (.fn) [] [] [] [.d,.d] [] (.tup [.lit (.map none),.lit (.map none),.b false]),21] Z (JC _ _ a)<|E h Z U
 ·exact have h:VL k=some r:=h;J c [.cm (.fn) [] [(11,603)] [] [.d,.d] [(603,.map (QC V.I V.I k))] (.tup [.lit (.map none),.map 603,.b false]),21] Z (JC _ _ a)<|E h Z U
 ·exact have h:VM l=some r:=h;J c [.cm (.fn) [] [(11,602)] [] [.d,.d] [(602,.map (QC V.I V.I l))] (.tup [.map 602,.lit (.map none),.b false]),21] Z (JC _ _ a)<|E h Z U
 exact have h:Oa e=some r:=h;B h λg f h=>K c [.cm (.fn) [] [(11,602),(611,603)] [] [.d,.d] [(602,.map (QC V.I V.I e.1)),(603,.map (QC V.I V.I e.2))] (.tup [.map 602,.map 603,.b true]),15,.cm (.fn) [(618,11),(619,611)] [(11,618),(611,619)] [] [.d,.d] [(618,.map (QC V.I V.I e.1)),(619,.map (QC V.I V.I e.2))] (.b g),5] Z (JC _ _ a) (LZ _ _ _ f)<|E h Z U
def Yb (d:QMk)(e:QMk)(a:Int):O_ (Int⊕(Unit⊕Unit)):=bif (a<(d.length:Int))then (idx d a).bind λf=>(idx e a).bind λb=>(Oc f b).bind λc=>bif (!c)then some (.inr (.inl ()))else some (.inl (Qi (a+1)))else some (.inr (.inr ()))
def Dm : O_ Bool:=some false
def Dn : O_ Bool:=some true
def Yk (a:QMk)(b:QMk):O_ Bool:=bif ((a.length:Int) != (b.length:Int))then some false else (QE (λst=>Yb a b st) 0).bind (Sum.elim (λq=>Dm) (λq=>Dn))
def Dp (i l):CT 65 [.sl 1 (i.map Qe),.sl 1 (l.map Qe),.clo (.func 234) [] []] [] (Yk i l) V.b no_:=
 W 32 func65 Z λC e r h=>K e [9,.o (.ln i.length),1,.o (.ln l.length),3] Z Qc Qc<|I h (λf h=>J e [.T,7] Z f<|E h Z U) λf h=>K e [.F,6,.o (.ln i.length),4] Z f Qc<|lq_ h (λst=>⟨[(1,.sl 1 (l.map Qe)),(2,.clo (.func 234) [] []),(15,.sl 1 (i.map Qe)),(16,.I (i.length:Int)),(17,.I st)],[]⟩) (λq=>(.ret,⟨[(6,.b false)],[]⟩)) (λq=>(.exit 0,⟨[],[]⟩)) Z (λu o h=>H e [6] Z<|I h (λg h=>B h λt m h=>B h λp j h=>B h λs k h=>g4_ e [.T,7,.o (.row (Qe t)),9,.o (.row (Qe p)),9,.o (.C2 (.b s)),3] Z g (Xd m) (Xd j) (Qf2 _ _ _ k)<|I h (λa h=>J e [.T,8] Z a<|rR_ h Z) λa h=>J e [.F,7] Z a<|rN_ h Z) λg h=>J e [.F,2] Z g<|rX_ h Z) (λ_ h=>H e [2] Z<|E h Z U) (λ_ h=>H e [8] Z<|E h Z U)
def Fq (a:QMk)(b:QMk):O_ Bool:=(Yk a b).bind λc=>some c
def Ts (a e):CT 172 [.sl 1 (a.map Qe),.sl 1 (e.map Qe)] [] (Fq a e) V.b no_:=
 W 8 func172 Z λC f r h=>B h λg c h=>J f [9,.cm (.fn) [] [] [] [.d,.d,.d] [] (.b g),4] Z (Dp _ _ _ c)<|E h Z U
def Yp (b:LI_)(c:Int)(a:Int):O_ (Int⊕(Int⊕Unit)):=bif (a<(b.length:Int))then (idx b a).bind λd=>bif (c==d)then some (.inr (.inl a))else some (.inl (Qi (a+1)))else some (.inr (.inr ()))
def EG (a:Int):O_ Int:=some a
def EH : O_ Int:=some (-1)
def WF (a:LI_)(b:Int):O_ Int:=(QE (λst=>Yp a b st) 0).bind (Sum.elim (λq=>EG q) (λq=>EH))
def Sw (d e):CT 132 [.sl 1 (d.map Qb),.I e] [] (WF d e) V.I no_:=
 W 19 func132 Z λC b r h=>J b [9,.o (.ln d.length),4] Z Qc<|lq_ h (λst=>⟨[(0,.sl 1 (d.map Qb)),(1,.I e),(7,.I (d.length:Int)),(8,.I st)],[]⟩) (λq=>(.ret,⟨[(4,.I q)],[]⟩)) (λq=>(.exit 0,⟨[],[]⟩)) Z (λi o h=>H b [6] Z<|I h (λc h=>B h λg f h=>K b [.T,15,.o (.row (Qb g)),4] Z c (Xd f)<|I h (λa h=>J b [.T,9] Z a<|rR_ h Z) λa h=>J b [.F,7] Z a<|rN_ h Z) λc h=>J b [.F,2] Z c<|rX_ h Z) (λj h=>H b [2] Z<|E h Z U) (λ_ h=>H b [8] Z<|E h Z U)
def XW (a:LI_)(b:Int):O_ Bool:=(WF a b).bind λc=>some (decide (0<=c))
def Gj (e f):CT 82 [.sl 1 (e.map Qb),.I f] [] (XW e f) V.b no_:=
 W 9 func82 Z λC g r h=>B h λi a h=>J g [9,.o (.C2 (.I i)),5] Z (Sw _ _ _ a)<|E h Z U
def Gy (a:Int):O_ (Int⊕(Unit⊕Unit)):=some (.inl (Qi (a+1)))
def Ma (a:(QMk×Int))(c:Xo):O_ Bool:=bif (a.2==0)then (Fq a.1 c.m).bind λb=>some b else some false
def Mb (a:Int)(b:Bool):O_ (Int⊕(Unit⊕Unit)):=bif b then some (.inr (.inl ()))else Gy a
def AZ (d:Xo)(b:LI_)(a:Int):O_ (Int⊕(Unit⊕Unit)):=bif (a<(d.task.Ins.length:Int))then (XW b a).bind λf=>bif f then Gy a else (YA b).bind λc=>(chk (c.length+([a]:L_ Int).length<=4294967296)).bind λ_=>(YF (c++([a]:L_ Int))).bind λe=>(chk (e.length=(c++([a]:L_ Int)).length)).bind λ_=>(DO d.net d.task.Ins e d.env).bind λg=>(Ma g d).bind (λh=>Mb a h)else some (.inr (.inr ()))
def ZD : O_ Int:=some 11
def ZE : O_ Int:=some 0
def XK (b:Xo)(a:LI_):O_ Int:=(DO b.net b.task.Ins a b.env).bind λc=>bif (c.2 != 0)then some c.2 else (Fq c.1 b.m).bind λd=>bif (!d)then some 10 else bif (b.task.Join != 3)then some 0 else (QE (λst=>AZ b a st) 0).bind (Sum.elim (λq=>ZD) (λq=>ZE))
def Mc (g e):CT 116 [.agg (QF g),.sl 1 (e.map Qb)] [] (XK g e) V.I no_:=
 W 76 func116 Z λC a r h=>B h λx5 a1 h=>K a [9,.A (Qa g.net),6,.o (.C4 (.tup [.sl 1 (x5.1.map Qe),.I x5.2])),16] Z Z (Uk _ _ _ _ _ a1)<|I h (λt h=>J a [.T,9] Z t<|E h Z U) λt h=>B h λx7 a2 h=>K a [.F,5,.o (.C2 (.b x7)),4] Z t (Ts _ _ _ a2)<|I h (λu h=>J a [.T,8] Z u<|E h Z U) λu h=>J a [.F,9] Z u<|I h (λw h=>J a [.T,8] Z w<|E h Z U) λw h=>K a [.F,9,.o (.ln g.task.Ins.length),4] Z w Qc<|lq_ h (λst=>⟨[(1,.sl 1 (e.map Qb)),lk_ 2,(41,.I (g.task.Ins.length:Int)),(42,.I st)],[(2,.var (QF g))]⟩) (λq=>(.ret,⟨[(4,.I 11)],[]⟩)) (λq=>(.exit 1,⟨[],[]⟩)) Z (λf o h=>H a [6] Z<|I h (λi h=>J a [.T,2] Z i<|mU_ ⟨[(1,.sl 1 (e.map Qb)),lk_ 2,(41,.I (g.task.Ins.length:Int)),(42,.I f)],[(2,.var (QF g))]⟩ (Gy f=some o) (B h λa3 y h=>J a [12,.o (.C2 (.b a3)),2] Z (Gj _ _ _ y)<|I h (λj h=>J a [.T,3] Z j<|mu_ h Z) λj h=>B h λs z h=>X h λD h=>B h λk N h=>X h λl h=>B h λO P h=>G a [.F,5,.o (.co false [.d] 1 (s.map Qb) s.length),1,.v (.bd []) [] (.sl 1 (([f]:L_ Int).map Qb)),.app ((s++([f]:L_ Int)).map Qb) (s++([f]:L_ Int)).length,6,.cm (.fn) [(618,49)] [(49,618)] [] [.d] [(618,.arr 1 (k.map Qb))] (.tup []),.S 8 (.own 49 k.length),.S 52 (.own 49 k.length),.S 53 (.own 49 k.length),5,.A (Qa g.net),6,.frz 49 (k.map Qb) [8,52,53,61] [],.o (.C4 (.tup [.sl 1 (O.1.map Qe),.I O.2])),8] Z (aB_ j ⟨(Ko _ _ z),Qc,.inl Z⟩ Z ⟨Qc,Ja D Qc,Ya,Jr Qc⟩ (Dx _ N) (by simp[Xw l]) (by simp[Xw l]) (by simp[Xw l]) Z (a4_ (Jl Qc) (Jl Qc) (Jl Qc) (Jl Qc)) (Uk _ _ _ _ _ P))<|mV_ h (λx=>⟨[(1,.sl 1 (e.map Qb)),lk_ 2,(41,.I (g.task.Ins.length:Int)),(42,.I f),(74,.b x)],[(2,.var (QF g))]⟩) (λx h=>H a [4] Z<|I h (λm h=>B h λa4 a0 h=>G a [.S 69 (.b true),3,.o (.C2 (.b a4)),2] Z ⟨(tc_ m),(Ts _ _ _ a0)⟩<|mq_ h Z) λm h=>L a [.S 69 (.b false),6] Z m<|mq_ h Z) λx h=>H a [1] Z<|I h (λp h=>J a [.T,8] Z p<|rR_ h Z) λp h=>J a [.F,2] Z p<|mu_ h Z) λh=>H a [4] Z<|rN_ h Z) λi h=>J a [.F,2] Z i<|rX_ h Z) (λ_ h=>H a [2] Z<|E h Z U) (λ_ h=>H a [8] Z<|E h Z U)
def HY (a:(Int×Xo)):O_ Bool:=bif (a.1 != 0)then some true else (XO a.2).bind λb=>some (b != 0)
def KR (a:Int)(b:(L_ Qk)):O_ ((Int×(L_ Qk))⊕((L_ Qk)⊕(L_ Qk))):=some (.inl ((Qi (a+1)),b))
def DA (f:QLL)(j:LI_)(h:LI_)(g:Int)(k:Int)(e:Int)(a:(L_ Qk)):O_ ((Int×(L_ Qk))⊕((L_ Qk)⊕(L_ Qk))):=bif (e<(f.length:Int))then (idx f e).bind λi=>(YA j).bind λb=>(YA h).bind λc=>(YA i).bind λd=>(chk (a.length+([(Qk.mk g b c d)]:L_ Qk).length<=4294967296)).bind λ_=>bif (((a++[(Qk.mk g b c d)]).length:Int)==k)then some (.inr (.inl (a++[(Qk.mk g b c d)])))else some (.inl ((Qi (e+1)),(a++[(Qk.mk g b c d)])))else some (.inr (.inr a))
def HZ (a:(L_ Qk)):O_ ((Int×(L_ Qk))⊕((L_ Qk)⊕(L_ Qk))):=some (.inr (.inl a))
def Ul (a:Int)(b:(L_ Qk)):O_ ((Int×(L_ Qk))⊕((L_ Qk)⊕(L_ Qk))):=KR a b
def DB (g:QLL)(d:(Int×Xo))(e:QLL)(h:LI_)(i:Int)(j:Int)(a:Int)(b:(L_ Qk)):O_ ((Int×(L_ Qk))⊕((L_ Qk)⊕(L_ Qk))):=bif (a<(g.length:Int))then (idx g a).bind λc=>(XK d.2 c).bind λf=>bif (f != 0)then KR a b else (QE (λst=>DA e h c i j st.1 st.2) (0,b)).bind (Sum.elim (λq=>HZ q) (λq=>Ul a q))else some (.inr (.inr b))
def Ia (a:(L_ Qk)):O_ ((L_ Qk)⊕(L_ Qk)):=some (.inl a)
def Ib (a:(L_ Qk)):O_ ((L_ Qk)⊕(L_ Qk)):=some (.inr a)
def DC (e:(L_ Qk))(f:QLL)(a:(Int×Xo))(g:QLL)(h:LI_)(i:Int)(j:Int)(b:Bool):O_ ((L_ Qk)⊕(L_ Qk)):=bif b then some (.inr e)else (Dh f).bind λc=>(Kq c a.2).bind λd=>(QE (λst=>DB g a d h i j st.1 st.2) (0,e)).bind (Sum.elim (λq=>Ia q) (λq=>Ib q))
def Ec (e:Qf)(f:QMk)(c:Int)(g:Int)(k:(L_ Qk))(h:QLL)(i:QLL)(j:(L_ Qk))(d:LI_):O_ ((L_ Qk)⊕(L_ Qk)):=(JE e f c d).bind λa=>(HY a).bind (λb=>DC j i a h d c g b)
def Ic (lpl lpf:Nat)(y:Qf)(z:QMk)(k:Int)(w:Int)(l:(L_ Qk))(j:QLL)(x:QLL)(l8:(L_ Qk))(D:LI_){r:((L_ Qk)⊕(L_ Qk))}(h:Ec y z k w l j x l8 D=some r):Re prog lpl (Ye lpf) (Qqc (.L 619) (.L 620) (.L 621) (.L 622) (.L 623) (.L 624) (.L 625) (.L 626) (.sl 1 (D.map Qb))) [(618,.lp lpl (Ye lpf) (DS (.L 619) (.L 620) (.L 621) (.L 622) (.L 623) (.L 624) (.L 625) (.L 626)) 0),(619,.var (Qa y)),(620,.var (Qt z)),(621,.var (Qb k)),(622,.var (Qb w)),(623,.var [.own 616 l.length]),(616,.arr 4 (l.map Qj)),(624,.var (Xt j)),(625,.var (Xt x)),(626,.var [.own 617 l8.length]),(617,.arr 4 (l8.map Qj))] ((Sum.elim (λq=>(Gives (.b false) [(616,.arr 4 (l.map Qj)),(617,.arr 4 (q.map Qj)),(618,.lp lpl (Ye lpf) (DS (.L 619) (.L 620) (.L 621) (.L 622) (.L 623) (.L 624) (.L 625) (.L 626)) 2),(619,.var (Qa y)),(620,.var (Qt z)),(621,.var (Qb k)),(622,.var (Qb w)),(623,.var [.own 617 q.length]),(624,.var (Xt j)),(625,.var (Xt x)),(626,.var [.own 617 q.length])])) (λq=>(Gives (.b true) [(616,.arr 4 (l.map Qj)),(617,.arr 4 (q.map Qj)),(618,.lp lpl (Ye lpf) (DS (.L 619) (.L 620) (.L 621) (.L 622) (.L 623) (.L 624) (.L 625) (.L 626)) 0),(619,.var (Qa y)),(620,.var (Qt z)),(621,.var (Qb k)),(622,.var (Qb w)),(623,.var [.own 616 l.length]),(624,.var (Xt j)),(625,.var (Xt x)),(626,.var [.own 617 q.length])]))) r):=by
 refine Re.walk (b:=618) 109 rfl rfl λC i=>?_
 refine tg_ i [3] ?_
 refine AK.done (an_ rfl (ex_ _ (an_ rfl ?_)))
 obtain⟨f,b1,h⟩:=Qz h
 refine Qp i [3,.A (Qa y),3,.o (.C4 (.tup [.agg (QF f.2),.I f.1])),5,.O 14 (.var (QF f.2)),5] Z (a3_ Z (VF _ _ _ _ _ b1) Z) ?_
 obtain⟨a9,b2,h⟩:=Qz h
 replace h:DC l8 x f j D k w a9=some r:=h
 refine AK.meetX (λσ=>σ=⟨[(6,.L 621),(7,.L 622),(8,.L 623),(10,.L 624),(11,.L 625),(12,.L 626),(13,.sl 1 (D.map Qb)),lk_ 14,(69,.b a9)],[(14,.var (QF f.2)),(616,.arr 4 (l.map Qj)),(617,.arr 4 (l8.map Qj)),(618,.lp lpl (Ye lpf) (DS (.L 619) (.L 620) (.L 621) (.L 622) (.L 623) (.L 624) (.L 625) (.L 626)) 1),(619,.var (Qa y)),(620,.var (Qt z)),(621,.var (Qb k)),(622,.var (Qb w)),(623,.var [.own 616 l.length]),(624,.var (Xt j)),(625,.var (Xt x)),(626,.var [.own 617 l8.length])]⟩) ?_ ?_
 ·replace h:=b2
  refine tg_ i [4] ?_
  rcases XS h with⟨P,h⟩|⟨P,h⟩
  ·refine Qp i [.S 65 (.b true),5,.K [6,7,8,10,11,12,13,14,69] [14,616,617,618,619,620,621,622,623,624,625,626]] Z (tc_ P) ?_
   cases h
   exact mt_
  obtain⟨c5,b3,h⟩:=Qz h
  refine Qp i [.S 65 (.b false),.A (QF f.2),.o (.C1 (.I c5)),3,.K [6,7,8,10,11,12,13,14,69] [14,616,617,618,619,620,621,622,623,624,625,626]] Z ⟨⟨(tc_ P),Z⟩,(HX _ _ b3)⟩ ?_
  cases h
  exact mt_
 rintro σ rfl
 replace h:DC l8 x f j D k w a9=some r:=h
 refine tg_ i [1] ?_
 rcases XS h with⟨a0,h⟩|⟨a0,h⟩
 ·refine Qp i [.T,3,.K [] [616,617,618,619,620,621,622,623,624,625,626]] Z (A a0) ?_
  cases h
  refine AK.done ?_
  exact ex_ _ (an_ Z (gives rB_))
 obtain⟨b4,b5,h⟩:=Qz h
 obtain⟨g,b6,h⟩:=Qz h
 refine Qp i [.F,5,.o (.co false [.d] 1 (b4.map QN) b4.length),1,.cm (.fn) [(618,71),(619,14)] [(71,618),(14,619)] [] [.d,.d] [(618,.arr 1 (g.map QN)),(619,.var (QF f.2))] (.own 618 g.length),6,.o (.ln j.length),4,.K [6,7,8,12,13,14,16,74,75,76] [14,71,616,617,618,619,620,621,622,623,624,625,626]] Z (a4_ a0 ⟨(Pl _ _ b5),Qc,.inl Z⟩ (LY _ _ _ b6) Qc) ?_
 obtain⟨c6,b7,h⟩:=Qz h
 refine AK.loop (body:=(λst=>DB j f g D k w st.1 st.2)) (λst σ=>σ=⟨[(6,.L 621),(7,.L 622),(8,.L 623),(12,.L 626),(13,.sl 1 (D.map Qb)),lk_ 14,(16,.own 71 g.length),(74,.sl 1 (j.map QN)),(75,.I (j.length:Int)),(76,.I st.1)],[(14,.var (QF f.2)),(71,.arr 1 (g.map QN)),(616,.arr 4 (l.map Qj)),(617,.arr 4 (st.2.map Qj)),(618,.lp lpl (Ye lpf) (DS (.L 619) (.L 620) (.L 621) (.L 622) (.L 623) (.L 624) (.L 625) (.L 626)) 1),(619,.var (Qa y)),(620,.var (Qt z)),(621,.var (Qb k)),(622,.var (Qb w)),(623,.var [.own 616 l.length]),(624,.var (Xt j)),(625,.var (Xt x)),(626,.var [.own 617 st.2.length])]⟩) (Sum.elim (λq e σ=>e=.ret/\σ=⟨[],[(616,.arr 4 (l.map Qj)),(617,.arr 4 (q.map Qj)),(618,.lp lpl (Ye lpf) (DS (.L 619) (.L 620) (.L 621) (.L 622) (.L 623) (.L 624) (.L 625) (.L 626)) 1),(619,.var (Qa y)),(620,.var (Qt z)),(621,.var (Qb k)),(622,.var (Qb w)),(623,.var [.own 617 q.length]),(624,.var (Xt j)),(625,.var (Xt x)),(626,.var [.own 617 q.length])]⟩) (λq e σ=>e=.exit 2/\σ=⟨[],[(616,.arr 4 (l.map Qj)),(617,.arr 4 (q.map Qj)),(618,.lp lpl (Ye lpf) (DS (.L 619) (.L 620) (.L 621) (.L 622) (.L 623) (.L 624) (.L 625) (.L 626)) 1),(619,.var (Qa y)),(620,.var (Qt z)),(621,.var (Qb k)),(622,.var (Qb w)),(623,.var [.own 616 l.length]),(624,.var (Xt j)),(625,.var (Xt x)),(626,.var [.own 617 q.length])]⟩)) b7 rfl ?_ ?_
 ·rintro ⟨a1,d4⟩ o σ rfl h
  refine tg_ i [6] ?_
  refine bq_ i h [.T,2] rfl (λa2 h=>?_) [.F,2,.K [] [616,617,618,619,620,621,622,623,624,625,626]] rfl λa2 h=>?_
  ·refine AK.meet (λσ=>∃a6:(L_ Qk),σ=⟨[(6,.L 621),(7,.L 622),(8,.L 623),(12,.L 626),(13,.sl 1 (D.map Qb)),lk_ 14,(16,.own 71 g.length),(74,.sl 1 (j.map QN)),(75,.I (j.length:Int)),(76,.I a1)],[(14,.var (QF f.2)),(71,.arr 1 (g.map QN)),(616,.arr 4 (l.map Qj)),(617,.arr 4 (a6.map Qj)),(618,.lp lpl (Ye lpf) (DS (.L 619) (.L 620) (.L 621) (.L 622) (.L 623) (.L 624) (.L 625) (.L 626)) 1),(619,.var (Qa y)),(620,.var (Qt z)),(621,.var (Qb k)),(622,.var (Qb w)),(623,.var [.own 616 l.length]),(624,.var (Xt j)),(625,.var (Xt x)),(626,.var [.own 617 a6.length])]⟩/\KR a1 a6=some o) ?_ ?_
   ·obtain⟨b0,b8,h⟩:=Qz h
    obtain⟨c7,b9,h⟩:=Qz h
    refine Qp i [3,.o (.row (QN b0)),7,.A (QF f.2),1,.o (.C2 (.I c7)),3] Z (a3_ (Xd b8) Z (Mc _ _ _ b9)) ?_
    refine bq_ i h [.T,3,.K [6,7,8,12,13,14,16,74,75,76] [14,71,616,617,618,619,620,621,622,623,624,625,626]] rfl (λa3 h=>?_) [.F,10,.K [6,7,8,12,13,14,16,18,74,75,76,84,85,86] [14,71,616,617,618,619,620,621,622,623,624,625,626]] rfl λa3 h=>?_
    ·exact AK.met (ex_ _ (an_ Z h))
    obtain⟨c8,c0,h⟩:=Qz h
    refine AK.loop (body:=(λst=>DA g D b0 k w st.1 st.2)) (λst σ=>σ=⟨[(6,.L 621),(7,.L 622),(8,.L 623),(12,.L 626),(13,.sl 1 (D.map Qb)),lk_ 14,(16,.own 71 g.length),(18,.sl 1 (b0.map Qb)),(74,.sl 1 (j.map QN)),(75,.I (j.length:Int)),(76,.I a1),(84,.own 71 g.length),(85,.I (g.length:Int)),(86,.I st.1)],[(14,.var (QF f.2)),(71,.arr 1 (g.map QN)),(616,.arr 4 (l.map Qj)),(617,.arr 4 (st.2.map Qj)),(618,.lp lpl (Ye lpf) (DS (.L 619) (.L 620) (.L 621) (.L 622) (.L 623) (.L 624) (.L 625) (.L 626)) 1),(619,.var (Qa y)),(620,.var (Qt z)),(621,.var (Qb k)),(622,.var (Qb w)),(623,.var [.own 616 l.length]),(624,.var (Xt j)),(625,.var (Xt x)),(626,.var [.own 617 st.2.length])]⟩) (Sum.elim (λq e σ=>e=.ret/\σ=⟨[],[(616,.arr 4 (l.map Qj)),(617,.arr 4 (q.map Qj)),(618,.lp lpl (Ye lpf) (DS (.L 619) (.L 620) (.L 621) (.L 622) (.L 623) (.L 624) (.L 625) (.L 626)) 1),(619,.var (Qa y)),(620,.var (Qt z)),(621,.var (Qb k)),(622,.var (Qb w)),(623,.var [.own 617 q.length]),(624,.var (Xt j)),(625,.var (Xt x)),(626,.var [.own 617 q.length])]⟩) (λq e σ=>e=.exit 4/\σ=⟨[(6,.L 621),(7,.L 622),(8,.L 623),(12,.L 626),(13,.sl 1 (D.map Qb)),lk_ 14,(16,.own 71 g.length),(74,.sl 1 (j.map QN)),(75,.I (j.length:Int)),(76,.I a1)],[(14,.var (QF f.2)),(71,.arr 1 (g.map QN)),(616,.arr 4 (l.map Qj)),(617,.arr 4 (q.map Qj)),(618,.lp lpl (Ye lpf) (DS (.L 619) (.L 620) (.L 621) (.L 622) (.L 623) (.L 624) (.L 625) (.L 626)) 1),(619,.var (Qa y)),(620,.var (Qt z)),(621,.var (Qb k)),(622,.var (Qb w)),(623,.var [.own 616 l.length]),(624,.var (Xt j)),(625,.var (Xt x)),(626,.var [.own 617 q.length])]⟩)) c0 rfl ?_ ?_
    ·rintro ⟨d5,a7⟩ o σ rfl h
     refine tg_ i [6] ?_
     rcases XS h with⟨a4,h⟩|⟨a4,h⟩
     ·obtain⟨c9,a8,h⟩:=Qz h
      obtain⟨p,c1,h⟩:=Qz h
      obtain⟨t,c2,h⟩:=Qz h
      obtain⟨u,c3,h⟩:=Qz h
      obtain⟨c4,h⟩:=Tb h
      refine Qp i [.T,7,.o (.row (QN c9)),4,.K [6,7,8,12,13,14,16,18,20,74,75,76,84,85,86] [14,71,616,617,618,619,620,621,622,623,624,625,626]] Z (a3_ a4 (YJ a8 Z) (XT (Jf a8).2)) ?_
      refine AK.draw2 Qw i mixed [.N,.N,.N,.B (.cd false [.d] 1 (p.map Qb) p.length),.N,.B (.cd false [.d] 1 (t.map Qb) t.length),.N,.B (.cd false [.d] 1 (u.map Qb) u.length),.E (.agg (Qj (Qk.mk k p t u))),.a (.bd []) (some ([],.sl 4 (([(Qk.mk k p t u)]:L_ Qk).map Qj))) false,.m (.app ((a7++[(Qk.mk k p t u)]).map Qj) (a7++[(Qk.mk k p t u)]).length),.m .s] [] [] [6,7,8,12,13,14,16,18,74,75,76,84,85,86] [14,71,616,617,618,619,620,621,622,623,624,625,626] rfl rfl rfl ⟨⟨⟨⟨⟨⟨U,⟨(Ko _ _ c1),Qc⟩⟩,⟨(Ko _ _ c2),Qc⟩⟩,⟨(Ko _ _ c3),Qc⟩⟩,rfl⟩,rfl⟩,⟨Qc,Ja c4 Qc,Ya,Jr Qc⟩⟩ rfl (by kernel_rfl) rfl rfl rfl ?_
      refine Qp i [.O 626 (.var [.own 617 (a7++[(Qk.mk k p t u)]).length]),9] Z (A Z) ?_
      refine bg_ h (λa5 h=>Qp i [.T,4,.O 623 (.var [.own 617 (a7++[(Qk.mk k p t u)]).length]),5,.K [] [616,617,618,619,620,621,622,623,624,625,626]] rfl (a2_ a5 rfl) ?_) λa5 h=>Qp i [.F,7,.K [6,7,8,12,13,14,16,18,74,75,76,84,85,86] [14,71,616,617,618,619,620,621,622,623,624,625,626]] rfl (A a5) ?_
      ·cases h
       exact Qkq Z (an_ Z Z)
      cases h
      exact Zt Z Z
     refine Qp i [.F,2,.K [6,7,8,12,13,14,16,74,75,76] [14,71,616,617,618,619,620,621,622,623,624,625,626]] Z (A a4) ?_
     cases h
     exact Qa1 Z (an_ Z Z)
    rcases c8 with(d0 | d1)
    ·replace h:HZ d0=some o:=h
     rintro e σ ⟨rfl,rfl⟩
     refine tg_ i [3,.K [] [616,617,618,619,620,621,622,623,624,625,626]] ?_
     cases h
     exact Qkq Z (an_ Z Z)
    replace h:Ul a1 d1=some o:=h
    unfold Ul at h
    rintro e σ ⟨rfl,rfl⟩
    refine tg_ i [2,.K [6,7,8,12,13,14,16,74,75,76] [14,71,616,617,618,619,620,621,622,623,624,625,626]] ?_
    exact AK.met (ex_ _ (an_ Z h))
   rintro σ ⟨a6,rfl,h⟩
   refine tg_ i [4,.K [6,7,8,12,13,14,16,74,75,76] [14,71,616,617,618,619,620,621,622,623,624,625,626]] ?_
   cases h
   exact Zt Z Z
  cases h
  exact Qa1 Z (an_ Z Z)
 rcases c6 with(d2 | d3)
 ·replace h:Ia d2=some r:=h
  rintro e σ ⟨rfl,rfl⟩
  refine tg_ i [2,.K [] [616,617,618,619,620,621,622,623,624,625,626]] ?_
  cases h
  refine AK.done ?_
  exact ex_ _ (an_ Z (gives rB_))
 replace h:Ib d3=some r:=h
 rintro e σ ⟨rfl,rfl⟩
 refine tg_ i [2,.K [] [616,617,618,619,620,621,622,623,624,625,626]] ?_
 cases h
 refine AK.done ?_
 exact ex_ _ (an_ Z (gives rB_))
def YS (c:(L_ QL))(a:Int):O_ Int:=(Ub c a).bind λb=>bif (!b.1)then some 0 else (idx b.2.sizes a).bind λd=>some d
def CI (j k):CT 145 [.sl 7 (j.map Qr),.I k] [] (YS j k) V.I no_:=
 W 20 func145 Z λC e r h=>B h λf g h=>K e [9,.o (.C2 (.tup [.agg (XA f.2),.b f.1])),5,.O 5 (.var (XA f.2)),10] Z (Pf _ _ _ g) Z<|I h (λa h=>J e [.T,7] Z a<|E h Z U) λa h=>B h λl i h=>K e [.F,7,.o (.row (Qb l)),5] Z a (Xd i)<|E h Z U
def Od (a:(L_ Qk)):O_ ((LI_×(L_ Qk))⊕((L_ Qk)⊕(L_ Qk))):=some (.inr (.inr a))
def Oe (h:Int)(a:LI_)(f:QH)(b:Qf):O_ Bool:=bif (0<=h)then (idx a h).bind λc=>(idx f.Vars h).bind λd=>(YS b.Colours d.Colour).bind λe=>some (decide (e<=(Qi (c+1))))else some false
def EI (a:LI_)(h:Int)(b:Bool):O_ ((Int×LI_)⊕(Int×LI_)):=bif b then (idx a h).bind λc=>some (.inl ((Qi (h-1)),(a.set h.toNat 0)))else some (.inr (h,a))
def DD (d:QH)(b:Qf)(h:Int)(a:LI_):O_ ((Int×LI_)⊕(Int×LI_)):=(Oe h a d b).bind (λc=>EI a h c)
def EJ (b:(L_ Qk))(h:Int)(a:LI_):O_ ((LI_×(L_ Qk))⊕((L_ Qk)⊕(L_ Qk))):=bif (h<0)then some (.inr (.inl b))else (idx a h).bind λc=>(idx a h).bind λd=>some (.inl ((a.set h.toNat (Qi (c+1))),b))
def EK (d:QH)(b:Qf)(a:LI_)(c:(L_ Qk)):O_ ((LI_×(L_ Qk))⊕((L_ Qk)⊕(L_ Qk))):=(QE (λst=>DD d b st.1 st.2) ((Qi ((a.length:Int)-1)),a)).bind (λq=>EJ c q.1 q.2)
def EL (e:Qf)(f:QMk)(g:Int)(h:Int)(i:(L_ Qk))(j:QLL)(k:QLL)(l:QH)(b:Qf)(a:LI_)(c:(L_ Qk)):O_ ((LI_×(L_ Qk))⊕((L_ Qk)⊕(L_ Qk))):=(YA a).bind λd=>(Ec e f g h i j k c d).bind (Sum.elim (λq=>Od q) (λq=>EK l b a q))
def Og (a:(L_ Qk)):O_ ((L_ Qk)⊕(L_ Qk)):=some (.inl a)
def Oh (a:(L_ Qk)):O_ ((L_ Qk)⊕(L_ Qk)):=some (.inr a)
def Bq (c:Qf)(d:QMk)(e:Int)(f:Int)(g:(L_ Qk))(h:QLL)(i:QLL)(j:(L_ Qk))(a:QH)(b:Qf):O_ ((L_ Qk)⊕(L_ Qk)):=(chk (decide (0<=(a.Vars.length:Int))&&decide ((a.Vars.length:Int)<=(a.Vars.length:Int))&&decide ((a.Vars.length:Int)<=4294967296))).bind λ_=>(QE (λst=>EL c d e f g h i a b st.1 st.2) ((List.replicate (a.Vars.length:Int).toNat (0:Int)),j)).bind (Sum.elim (λq=>Og q) (λq=>Oh q))
def Oi (lpl lpf:Nat)(m:Qf)(p:QMk)(s:Int)(t:Int)(j:(L_ Qk))(u:QLL)(v:QLL)(l8:(L_ Qk))(l:QH)(f:Qf){r:((L_ Qk)⊕(L_ Qk))}(h:Bq m p s t j u v l8 l f=some r):QX prog 300 [.clo (.yield lpl) [] [],.L 627,.L 628] [(618,.lp lpl (Ye lpf) (DS (.L 619) (.L 620) (.L 621) (.L 622) (.L 623) (.L 624) (.L 625) (.L 626)) 0),(619,.var (Qa m)),(620,.var (Qt p)),(621,.var (Qb s)),(622,.var (Qb t)),(623,.var [.own 616 j.length]),(616,.arr 4 (j.map Qj)),(624,.var (Xt u)),(625,.var (Xt v)),(626,.var [.own 617 l8.length]),(617,.arr 4 (l8.map Qj)),(627,.var (Qh l)),(628,.var (Qa f))] ((Sum.elim (λq=>(Gives (.tup []) [(616,.arr 4 (j.map Qj)),(617,.arr 4 (q.map Qj)),(618,.lp lpl (Ye lpf) (DS (.L 619) (.L 620) (.L 621) (.L 622) (.L 623) (.L 624) (.L 625) (.L 626)) 0),(619,.var (Qa m)),(620,.var (Qt p)),(621,.var (Qb s)),(622,.var (Qb t)),(623,.var [.own 616 j.length]),(624,.var (Xt u)),(625,.var (Xt v)),(626,.var [.own 617 q.length]),(627,.var (Qh l)),(628,.var (Qa f))])) (λq=>(Gives (.tup []) [(616,.arr 4 (j.map Qj)),(617,.arr 4 (q.map Qj)),(618,.lp lpl (Ye lpf) (DS (.L 619) (.L 620) (.L 621) (.L 622) (.L 623) (.L 624) (.L 625) (.L 626)) 2),(619,.var (Qa m)),(620,.var (Qt p)),(621,.var (Qb s)),(622,.var (Qb t)),(623,.var [.own 617 q.length]),(624,.var (Xt u)),(625,.var (Xt v)),(626,.var [.own 617 q.length]),(627,.var (Qh l)),(628,.var (Qa f))]))) r):=by
 refine wk_ 50 func300 λC k=>?_
 obtain⟨a8,h⟩:=Tb h
 refine Qp k [4,.o (.ln l.Vars.length),.o (.rows ((List.replicate (l.Vars.length:Int).toNat (0:Int)).map Qb)),.S 9 (.own 9 (List.replicate (l.Vars.length:Int).toNat (0:Int)).length),4,.K [0,1,2,4] [9,616,617,618,619,620,621,622,623,624,625,626,627,628]] Z (a3_ Qc ⟨a8,QiP Z⟩ (by simp)) ?_
 obtain⟨b6,a9,h⟩:=Qz h
 refine AK.loop (body:=(λst=>EL m p s t j u v l f st.1 st.2)) (λst σ=>σ=⟨[(0,.clo (.yield lpl) [] []),(1,.L 627),(2,.L 628),(4,.own 9 st.1.length)],[(9,.arr 1 (st.1.map Qb)),(616,.arr 4 (j.map Qj)),(617,.arr 4 (st.2.map Qj)),(618,.lp lpl (Ye lpf) (DS (.L 619) (.L 620) (.L 621) (.L 622) (.L 623) (.L 624) (.L 625) (.L 626)) 0),(619,.var (Qa m)),(620,.var (Qt p)),(621,.var (Qb s)),(622,.var (Qb t)),(623,.var [.own 616 j.length]),(624,.var (Xt u)),(625,.var (Xt v)),(626,.var [.own 617 st.2.length]),(627,.var (Qh l)),(628,.var (Qa f))]⟩) (Sum.elim (λq e σ=>e=.ret/\σ=⟨[],[(616,.arr 4 (j.map Qj)),(617,.arr 4 (q.map Qj)),(618,.lp lpl (Ye lpf) (DS (.L 619) (.L 620) (.L 621) (.L 622) (.L 623) (.L 624) (.L 625) (.L 626)) 0),(619,.var (Qa m)),(620,.var (Qt p)),(621,.var (Qb s)),(622,.var (Qb t)),(623,.var [.own 616 j.length]),(624,.var (Xt u)),(625,.var (Xt v)),(626,.var [.own 617 q.length]),(627,.var (Qh l)),(628,.var (Qa f))]⟩) (λq e σ=>e=.ret/\σ=⟨[],[(616,.arr 4 (j.map Qj)),(617,.arr 4 (q.map Qj)),(618,.lp lpl (Ye lpf) (DS (.L 619) (.L 620) (.L 621) (.L 622) (.L 623) (.L 624) (.L 625) (.L 626)) 2),(619,.var (Qa m)),(620,.var (Qt p)),(621,.var (Qb s)),(622,.var (Qb t)),(623,.var [.own 617 q.length]),(624,.var (Xt u)),(625,.var (Xt v)),(626,.var [.own 617 q.length]),(627,.var (Qh l)),(628,.var (Qa f))]⟩)) a9 rfl ?_ ?_
 ·rintro ⟨b0,c6⟩ o σ rfl h
  obtain⟨a4,b1,h⟩:=Qz h
  obtain⟨b7,P,h⟩:=Qz h
  refine Qp k [6,.o (.co true [.o (b0.map Qb)] 1 (a4.map Qb) a4.length),.frz 12 (a4.map Qb) [12] []] Z (a2_ ⟨(OY Z),⟨(Ko _ _ b1),Qc,.inr (QlO _)⟩⟩ (A (Jl Qc))) ?_
  rcases b7 with(w | i)
  ·replace h:Od w=some o:=h
   refine Qp k [.x (λσ=>(σ.after [616,617] [(616,.arr 4 (j.map Qj)),(617,.arr 4 (w.map Qj)),(618,.lp lpl (Ye lpf) (DS (.L 619) (.L 620) (.L 621) (.L 622) (.L 623) (.L 624) (.L 625) (.L 626)) 2),(619,.var (Qa m)),(620,.var (Qt p)),(621,.var (Qb s)),(622,.var (Qb t)),(623,.var [.own 617 w.length]),(624,.var (Xt u)),(625,.var (Xt v)),(626,.var [.own 617 w.length])]).put 13 (.b false)),7,.K [] [616,617,618,619,620,621,622,623,624,625,626,627,628]] Z (A (Stp.yieldV (b:=618) (M:=[(618,618),(619,619),(620,620),(621,621),(622,622),(623,623),(616,616),(624,624),(625,625),(626,626),(617,617)]) (N:=[(616,616),(617,617),(618,618),(619,619),(620,620),(621,621),(622,622),(623,623),(624,624),(625,625),(626,626)]) (dead:=[616,617]) (ms:=[.d,.d,.d,.d,.d,.d,.d,.d,.d,.d,.d,.d,.d,.d,.d,.d,.d,.d,.d,.d,.d,.d,.d,.d,.d,.d,.d,.d,.d,.d,.d,.d,.d,.d,.d,.d,.d,.d,.d,.d,.d,.d,.d,.d,.d,.d,.d,.d,.d,.d,.d,.d,.d,.d,.d,.d,.d,.d,.d,.d,.d,.d,.d,.d,.d,.d,.d,.d,.d,.d,.d,.d,.d,.d,.d,.d,.d,.d,.d,.d,.d,.d,.d,.d,.d,.d,.d,.d,.d,.d,.d,.d,.d,.d,.d,.d,.d,.d,.d,.d,.d,.d,.d,.d,.d,.d,.d,.d,.d]) (outs:=[(616,.arr 4 (j.map Qj)),(617,.arr 4 (w.map Qj)),(618,.lp lpl (Ye lpf) (DS (.L 619) (.L 620) (.L 621) (.L 622) (.L 623) (.L 624) (.L 625) (.L 626)) 2),(619,.var (Qa m)),(620,.var (Qt p)),(621,.var (Qb s)),(622,.var (Qb t)),(623,.var [.own 617 w.length]),(624,.var (Xt u)),(625,.var (Xt v)),(626,.var [.own 617 w.length])]) (r:=.b false) Z Z Z Z Z Z Z (QU k.n Z) k.g Z Z (Ic _ _ _ _ _ _ _ _ _ _ _ P))) ?_
   cases h
   exact Qkq Z (an_ Z Z)
  replace h:EK l f b0 i=some o:=h
  refine Qp k [.x (λσ=>(σ.after [616,617] [(616,.arr 4 (j.map Qj)),(617,.arr 4 (i.map Qj)),(618,.lp lpl (Ye lpf) (DS (.L 619) (.L 620) (.L 621) (.L 622) (.L 623) (.L 624) (.L 625) (.L 626)) 0),(619,.var (Qa m)),(620,.var (Qt p)),(621,.var (Qb s)),(622,.var (Qb t)),(623,.var [.own 616 j.length]),(624,.var (Xt u)),(625,.var (Xt v)),(626,.var [.own 617 i.length])]).put 13 (.b true)),16,.K [0,1,2,4,5] [9,616,617,618,619,620,621,622,623,624,625,626,627,628]] Z (A (Stp.yieldV (b:=618) (M:=[(618,618),(619,619),(620,620),(621,621),(622,622),(623,623),(616,616),(624,624),(625,625),(626,626),(617,617)]) (N:=[(616,616),(617,617),(618,618),(619,619),(620,620),(621,621),(622,622),(623,623),(624,624),(625,625),(626,626)]) (dead:=[616,617]) (ms:=[.d,.d,.d,.d,.d,.d,.d,.d,.d,.d,.d,.d,.d,.d,.d,.d,.d,.d,.d,.d,.d,.d,.d,.d,.d,.d,.d,.d,.d,.d,.d,.d,.d,.d,.d,.d,.d,.d,.d,.d,.d,.d,.d,.d,.d,.d,.d,.d,.d,.d,.d,.d,.d,.d,.d,.d,.d,.d,.d,.d,.d,.d,.d,.d,.d,.d,.d,.d,.d,.d,.d,.d,.d,.d,.d,.d,.d,.d,.d,.d,.d,.d,.d,.d,.d,.d,.d,.d,.d,.d,.d,.d,.d,.d,.d,.d,.d,.d,.d,.d,.d,.d,.d,.d,.d,.d,.d,.d,.d]) (outs:=[(616,.arr 4 (j.map Qj)),(617,.arr 4 (i.map Qj)),(618,.lp lpl (Ye lpf) (DS (.L 619) (.L 620) (.L 621) (.L 622) (.L 623) (.L 624) (.L 625) (.L 626)) 0),(619,.var (Qa m)),(620,.var (Qt p)),(621,.var (Qb s)),(622,.var (Qb t)),(623,.var [.own 616 j.length]),(624,.var (Xt u)),(625,.var (Xt v)),(626,.var [.own 617 i.length])]) (r:=.b true) Z Z Z Z Z Z Z (QU k.n Z) k.g Z Z (Ic _ _ _ _ _ _ _ _ _ _ _ P))) ?_
  obtain⟨b8,b2,h⟩:=Qz h
  refine AK.loop (body:=(λst=>DD l f st.1 st.2)) (λst σ=>σ=⟨[(0,.clo (.yield lpl) [] []),(1,.L 627),(2,.L 628),(4,.own 9 st.2.length),(5,.I st.1)],[(9,.arr 1 (st.2.map Qb)),(616,.arr 4 (j.map Qj)),(617,.arr 4 (i.map Qj)),(618,.lp lpl (Ye lpf) (DS (.L 619) (.L 620) (.L 621) (.L 622) (.L 623) (.L 624) (.L 625) (.L 626)) 0),(619,.var (Qa m)),(620,.var (Qt p)),(621,.var (Qb s)),(622,.var (Qb t)),(623,.var [.own 616 j.length]),(624,.var (Xt u)),(625,.var (Xt v)),(626,.var [.own 617 i.length]),(627,.var (Qh l)),(628,.var (Qa f))]⟩) (λq e σ=>e=.exit 2/\σ=⟨[(0,.clo (.yield lpl) [] []),(1,.L 627),(2,.L 628),(4,.own 9 q.2.length),(5,.I q.1)],[(9,.arr 1 (q.2.map Qb)),(616,.arr 4 (j.map Qj)),(617,.arr 4 (i.map Qj)),(618,.lp lpl (Ye lpf) (DS (.L 619) (.L 620) (.L 621) (.L 622) (.L 623) (.L 624) (.L 625) (.L 626)) 0),(619,.var (Qa m)),(620,.var (Qt p)),(621,.var (Qb s)),(622,.var (Qb t)),(623,.var [.own 616 j.length]),(624,.var (Xt u)),(625,.var (Xt v)),(626,.var [.own 617 i.length]),(627,.var (Qh l)),(628,.var (Qa f))]⟩) b2 rfl ?_ ?_
  ·rintro ⟨at_25,y⟩ o σ rfl h
   refine tg_ k [2] ?_
   obtain⟨a5,b3,h⟩:=Qz h
   replace h:EI y at_25 a5=some o:=h
   refine AK.meetX (λσ=>σ=⟨[(0,.clo (.yield lpl) [] []),(1,.L 627),(2,.L 628),(4,.own 9 y.length),(5,.I at_25),(36,.b a5)],[(9,.arr 1 (y.map Qb)),(616,.arr 4 (j.map Qj)),(617,.arr 4 (i.map Qj)),(618,.lp lpl (Ye lpf) (DS (.L 619) (.L 620) (.L 621) (.L 622) (.L 623) (.L 624) (.L 625) (.L 626)) 0),(619,.var (Qa m)),(620,.var (Qt p)),(621,.var (Qb s)),(622,.var (Qb t)),(623,.var [.own 616 j.length]),(624,.var (Xt u)),(625,.var (Xt v)),(626,.var [.own 617 i.length]),(627,.var (Qh l)),(628,.var (Qa f))]⟩) ?_ ?_
   ·replace h:=b3
    refine tg_ k [.K [0,1,2,4,5] [9,616,617,618,619,620,621,622,623,624,625,626,627,628]] ?_
    rcases XS h with⟨z,h⟩|⟨z,h⟩
    ·obtain⟨b9,a0,h⟩:=Qz h
     obtain⟨c0,b4,h⟩:=Qz h
     obtain⟨c1,b5,h⟩:=Qz h
     refine AK.draw2 Qw k mixed [.N,.N,.E (.b true),.N,.N,.N,.B (.row (Qb b9)),.N,.N,.N,.N,.N,.N,.B (.row (Xi c0)),.N,.N,.B (.C2 (.I c1)),.N,.N] [] [] [0,1,2,4,5,36] [9,616,617,618,619,620,621,622,623,624,625,626,627,628] rfl rfl rfl ⟨⟨⟨⟨(tc_ z),(YJ a0 rfl)⟩,(XT (Jf a0).2)⟩,(Xd b4)⟩,(CI _ _ _ b5)⟩ rfl (by kernel_rfl) rfl rfl rfl ?_
     refine tg_ k [.K [0,1,2,4,5,36] [9,616,617,618,619,620,621,622,623,624,625,626,627,628]] ?_
     cases h
     exact mt_
    refine AK.draw2 Qw k mixed [.N,.N,.E (.b false),.N,.N,.N,.N,.N,.N,.N,.N,.N,.N,.N,.N,.N,.N,.N,.N] [] [] [0,1,2,4,5,36] [9,616,617,618,619,620,621,622,623,624,625,626,627,628] rfl rfl rfl (tc_ z) rfl (by kernel_rfl) rfl rfl rfl ?_
    refine tg_ k [.K [0,1,2,4,5,36] [9,616,617,618,619,620,621,622,623,624,625,626,627,628]] ?_
    cases h
    exact mt_
   rintro σ rfl
   replace h:EI y at_25 a5=some o:=h
   refine tg_ k [1] ?_
   rcases XS h with⟨D,h⟩|⟨D,h⟩
   ·obtain⟨c2,a1,h⟩:=Qz h
    refine Qp k [.T,8,.st (Qb c2) ((y.set at_25.toNat 0).map Qb),8,.S 4 (.own 9 (y.set at_25.toNat 0).length),.K [0,1,2,4,5] [9,616,617,618,619,620,621,622,623,624,625,626,627,628]] Z (a4_ D (YJ a1 Z) ⟨(XT (Jf a1).2),BC Z⟩ (congrArg (λn=>V.own 9 n) (by simp))) ?_
    cases h
    exact Zt Z Z
   refine Qp k [.F,2,.K [0,1,2,4,5] [9,616,617,618,619,620,621,622,623,624,625,626,627,628]] Z (A D) ?_
   cases h
   exact Qa1 Z (an_ Z Z)
  obtain⟨at_29,a6⟩:=b8
  replace h:EJ i at_29 a6=some o:=h
  rintro e σ ⟨rfl,rfl⟩
  refine tg_ k [9] ?_
  rcases XS h with⟨O,h⟩|⟨O,h⟩
  ·refine Qp k [.T,3,.K [] [616,617,618,619,620,621,622,623,624,625,626,627,628]] Z (A O) ?_
   cases h
   exact Qkq Z (an_ Z Z)
  obtain⟨a7,a2,h⟩:=Qz h
  obtain⟨c3,a3,h⟩:=Qz h
  refine Qp k [.F,6,.o (.row (Qb a7)),2,.st (Qb c3) ((a6.set at_29.toNat (Qi (a7+1))).map Qb),2,.S 4 (.own 9 (a6.set at_29.toNat (Qi (a7+1))).length),.K [0,1,2,4] [9,616,617,618,619,620,621,622,623,624,625,626,627,628]] Z (a6_ O (YJ a2 Z) (XT (Jf a2).2) (YJ a3 Z) ⟨(XT (Jf a3).2),BC Z⟩ (congrArg (λn=>V.own 9 n) (by simp))) ?_
  cases h
  exact Zt Z Z
 rcases b6 with(c4 | c5)
 ·replace h:Og c4=some r:=h
  rintro e σ ⟨rfl,rfl⟩
  refine tg_ k [1,.K [] [616,617,618,619,620,621,622,623,624,625,626,627,628]] ?_
  cases h
  refine AK.done ?_
  exact ex_ [] (an_ U (gives rD_))
 replace h:Oh c5=some r:=h
 rintro e σ ⟨rfl,rfl⟩
 refine tg_ k [1,.K [] [616,617,618,619,620,621,622,623,624,625,626,627,628]] ?_
 cases h
 refine AK.done ?_
 exact ex_ [] (an_ U (gives rD_))
def VN (a:(L_ Qk)):O_ (L_ Qk):=some a
def VO (a:(L_ Qk)):O_ (L_ Qk):=some a
def Ie (e:Qf)(h:QMk)(a:Int)(b:Int):O_ (L_ Qk):=
 bif ((a<0)||(((e.Tasks.length:Int)<=a)||(b<1)))then
 some ([]:L_ Qk)
 else
 (idx e.Tasks a).bind λc=>
 (Wk c.Join (c.Ins.length:Int)).bind λf=>
 (Wk c.Split (c.Outs.length:Int)).bind λg=>
 (VE e c).bind λd=>
 (Bq e h a b ([]:L_ Qk) f g ([]:L_ Qk) d.2 d.1).bind (Sum.elim (λq=>VN q) (λq=>VO q))
def Qf3 (k y c e){r}(h:Ie k y c e=some r):QX prog 229 [.agg (Qa k),.sl 1 (y.map Qe),.I c,.I e] [] (Gives (.sl 4 (r.map Qj)) []):=by
 refine QX.walkR 109 func229 Z ntmps229 Z λC f hR=>?_
 refine tg_ f [11] ?_
 refine AK.meetX (λσ=>σ=⟨[lk_ 4,lk_ 5,lk_ 6,lk_ 7,lk_ 8,(33,.b ((c<0)||(((k.Tasks.length:Int)<=c)||(e<1))))],[(4,.var (Qa k)),(5,.var (Qt y)),(6,.var (Qb c)),(7,.var (Qb e)),(8,.var [.Y])]⟩) ?_ ?_
 ·exact H f [4] Z<|bO_ (decide (c<0)) (λg=>G f [.S 23 (.b true),11,.S 33 (.b ((c<0)||(((k.Tasks.length:Int)<=c)||(e<1))))] Z ⟨(tc_ g),(cb_ (UN g Z))⟩<|M Z) λg=>G f [.S 23 (.b false),3,.o (.ln k.Tasks.length),3] Z ⟨(tc_ g),Qc⟩<|bO_ (decide ((k.Tasks.length:Int)<=c)) (λl=>G f [.S 30 (.b true),4,.S 33 (.b ((c<0)||(((k.Tasks.length:Int)<=c)||(e<1))))] Z ⟨(tc_ l),(cb_ (We g (UN l Z)))⟩<|M Z) λl=>G f [.S 30 (.b false),4,.S 33 (.b ((c<0)||(((k.Tasks.length:Int)<=c)||(e<1))))] Z ⟨(tc_ l),(cb_ (We g (We l Z)))⟩<|M Z
 rintro σ rfl
 refine tg_ f [1] ?_
 rcases XS h with⟨p,h⟩|⟨p,h⟩
 ·refine Qp f [.T,3,.O 8 (.var [.Y]),4,.denilO 8 [some 4],.O 8 (.var (QkM ([]:L_ Qk))),.K [8] [8]] Z (a3_ p Z Z) ?_
  cases h
  exact AK.done (ex_ [_] (an_ (an_ (ex_ _ (ex_ _ (an_ Z (an_ Z (Or.inr (an_ (Qw.ag Z) Z)))))) U) (gives U)))
 obtain⟨i,z,h⟩:=Qz h
 obtain⟨q,D,h⟩:=Qz h
 obtain⟨t,P,h⟩:=Qz h
 refine Qp f [.F,7,.o (.row (Qh i)),.A (Qh i),2,.O 9 (.var (Qh i)),3,.K [4,5,6,7,8,9] [4,5,6,7,8,9]] Z (a4_ p (Xd z) Z Z) ?_
 refine AK.draw2 Qw f mixed [.N,.N,.N,.N,.B (.ln i.Ins.length),.B (.cd false [.d,.d] 1 (q.map QN) q.length),.N,.N,.N,.N,.B (.ln i.Outs.length),.B (.cd false [.d,.d] 1 (t.map QN) t.length),.N,.N,.m .s,.m .s] [] [] [4,5,6,7,8,9,10,11] [4,5,6,7,8,9,10,11] rfl rfl rfl ⟨⟨⟨⟨U,Qc⟩,⟨(Lu _ _ _ D),Qc⟩⟩,Qc⟩,⟨(Lu _ _ _ P),Qc⟩⟩ rfl (by kernel_rfl) rfl rfl rfl ?_
 obtain⟨j,a0,h⟩:=Qz h
 refine Qp f [.O 10 (.var (Xt q)),.O 11 (.var (Xt t)),9,.A (Qa k),.A (Qh i),.cm (.fn) [] [(53,2),(611,3)] [] [.d,.d] [(2,.var (Qa j.1)),(3,.var (Qh j.2))] (.clo (.func 300) [] [.L 3,.L 2]),3,.K [4,5,6,7,8,10,11,12,53] [4,5,6,7,8,10,11,12,53,611]] Z (a5_ Z Z Z Z (QcF _ _ _ a0)) ?_
 obtain⟨a1,x,h⟩:=Qz h
 refine Qp f [.adoptO 8 0 606 4,.O 606 (.arr 4 (([]:L_ Qk).map Qj)),.O 8 (.var [.own 606 ([]:L_ Qk).length]),.adoptO 12 0 608 4,.O 608 (.arr 4 (([]:L_ Qk).map Qj)),.O 12 (.var [.own 608 ([]:L_ Qk).length])] Z (a4_ Z Z Z Z) ?_
 rcases a1 with(u | w)
 ·replace h:VN u=some r:=h
  refine AK.rangeF 615 [4,5,6,7,8,10,11,12] [(618,615),(619,4),(620,5),(621,6),(622,7),(623,8),(616,606),(624,10),(625,11),(626,12),(617,608),(627,611),(628,53)] [(606,616),(608,617),(615,618),(4,619),(5,620),(6,621),(7,622),(8,623),(10,624),(11,625),(12,626),(611,627),(53,628)] [606,608] [.d,.d,.d] Ye f hR (λ_=>rfl) rfl rfl rfl rfl λlpl lpf=>?_
  refine ex_ [(616,.arr 4 (([]:L_ Qk).map Qj)),(617,.arr 4 (u.map Qj)),(618,.lp lpl (Ye lpf) (DS (.L 619) (.L 620) (.L 621) (.L 622) (.L 623) (.L 624) (.L 625) (.L 626)) 0),(619,.var (Qa k)),(620,.var (Qt y)),(621,.var (Qb c)),(622,.var (Qb e)),(623,.var [.own 616 ([]:L_ Qk).length]),(624,.var (Xt q)),(625,.var (Xt t)),(626,.var [.own 617 u.length]),(627,.var (Qh j.2)),(628,.var (Qa j.1))] (ex_ (.tup []) (ex_ _ (ex_ _ (ex_ (DS (.L 4) (.L 5) (.L 6) (.L 7) (.L 8) (.L 10) (.L 11) (.L 12)) (ex_ 0 (an_ rfl ?_))))))
  refine an_ (Oi _ _ _ _ _ _ _ _ _ _ _ _ x) (an_ rfl (an_ (bne_iff_ne.1 (show(0 != 1)=true from rfl)) ?_))
  refine QoK Z ?_
  refine Qp f [6,.O 8 (.var [.own 608 u.length]),3,.frz 608 (u.map Qj) [] [8],.K [8] [8]] Z (a2_ Z (A ⟨(Jl Qc),U⟩)) ?_
  cases h
  exact AK.done (ex_ [_] (an_ (an_ (ex_ _ (ex_ _ (an_ Z (an_ Z (Or.inr (an_ (Qw.ag Z) Z)))))) U) (gives U)))
 replace h:VO w=some r:=h
 refine AK.rangeF 615 [4,5,6,7,8,10,11,12] [(618,615),(619,4),(620,5),(621,6),(622,7),(623,8),(616,606),(624,10),(625,11),(626,12),(617,608),(627,611),(628,53)] [(606,616),(608,617),(615,618),(4,619),(5,620),(6,621),(7,622),(8,623),(10,624),(11,625),(12,626),(611,627),(53,628)] [606,608] [.d,.d,.d] Ye f hR (λ_=>rfl) rfl rfl rfl rfl λlpl lpf=>?_
 refine ex_ [(616,.arr 4 (([]:L_ Qk).map Qj)),(617,.arr 4 (w.map Qj)),(618,.lp lpl (Ye lpf) (DS (.L 619) (.L 620) (.L 621) (.L 622) (.L 623) (.L 624) (.L 625) (.L 626)) 2),(619,.var (Qa k)),(620,.var (Qt y)),(621,.var (Qb c)),(622,.var (Qb e)),(623,.var [.own 617 w.length]),(624,.var (Xt q)),(625,.var (Xt t)),(626,.var [.own 617 w.length]),(627,.var (Qh j.2)),(628,.var (Qa j.1))] (ex_ (.tup []) (ex_ _ (ex_ _ (ex_ (DS (.L 4) (.L 5) (.L 6) (.L 7) (.L 8) (.L 10) (.L 11) (.L 12)) (ex_ 2 (an_ rfl ?_))))))
 refine an_ (Oi _ _ _ _ _ _ _ _ _ _ _ _ x) (an_ rfl (an_ (bne_iff_ne.1 (show(2 != 1)=true from rfl)) ?_))
 refine Qp6 Z ?_
 refine Qp f [3,.frz 608 (w.map Qj) [] [8],.K [8] [8]] Z (A (A ⟨(Jl Qc),U⟩)) ?_
 cases h
 exact AK.done (ex_ [_] (an_ (an_ (ex_ _ (ex_ _ (an_ Z (an_ Z (Or.inr (an_ (Qw.ag Z) Z)))))) U) (gives U)))
def RH (e:Qf)(f:QMk)(a:Int)(d:Int)(c:(L_ Qk)):O_ ((Int×(L_ Qk))⊕(L_ Qk)):=bif (d<(e.Tasks.length:Int))then (Ie e f d (Qi (a-(c.length:Int)))).bind λb=>(chk (c.length+b.length<=4294967296)).bind λ_=>some (.inl ((Qi (d+1)),(c++b)))else some (.inr c)
def Qig (a:(L_ Qk)):O_ (L_ Qk):=some a
def IP (b:Qf)(c:QMk)(a:Int):O_ (L_ Qk):=(QE (λst=>RH b c a st.1 st.2) (0,([]:L_ Qk))).bind (λq=>Qig q)
def QbK (f k a):CT 161 [.agg (Qa f),.sl 1 (k.map Qe),.I a] [] (IP f k a) (λr=>(.own 600 r.length)) (λr=>[(600,.arr 4 (r.map Qj))]):=
 W 27 func161 Z λC g r h=>g3_ g [16,.o (.ln f.Tasks.length),4,.adopt 7 15 4,.O 15 (.arr 4 (([]:L_ Qk).map Qj)),.S 7 (.own 15 ([]:L_ Qk).length)] Z Qc Z (congrArg (λn=>V.own 15 n) (by simp))<|lp_ h (λst=>⟨[(1,.sl 1 (k.map Qe)),(2,.I a),lk_ 3,(7,.own 15 st.2.length),(11,.I (f.Tasks.length:Int)),(12,.I st.1)],[(3,.var (Qa f)),(15,.arr 4 (st.2.map Qj))]⟩) (λq=>(.exit 0,⟨[(7,.own 15 q.length)],[(15,.arr 4 (q.map Qj))]⟩)) Z (λ⟨p,l⟩ o h=>H g [6] Z<|I h (λb h=>B h λe i h=>X h λj h=>g4_ g [.T,12,.A (Qa f),6,.o (.C4 (.sl 4 (e.map Qj))),.app ((l++e).map Qj) (l++e).length,8] Z b Z (Qf3 _ _ _ _ i) ⟨Qc,Ja j Qc,Ya,Jr Qc⟩<|rN_ h Z) λb h=>J g [.F,2] Z b<|rX_ h Z) λm h=>H g [9,.K [6] [15],.ren 15 600] Z<|E h Z r1_
def Kr (c:LI_)(d:LI_)(a:Int):O_ (Int⊕(Unit⊕Unit)):=bif (a<(c.length:Int))then (idx c a).bind λe=>(idx d a).bind λb=>bif (e != b)then some (.inr (.inl ()))else some (.inl (Qi (a+1)))else some (.inr (.inr ()))
def Sx : O_ Bool:=some false
def Sy : O_ Bool:=some true
def Jn (a:LI_)(b:LI_):O_ Bool:=bif ((a.length:Int) != (b.length:Int))then some false else (QE (λst=>Kr a b st) 0).bind (Sum.elim (λq=>Sx) (λq=>Sy))
def SA (g j):CT 171 [.sl 1 (g.map Qb),.sl 1 (j.map Qb)] [] (Jn g j) V.b no_:=
 W 26 func171 Z λC c r h=>K c [9,.o (.ln g.length),1,.o (.ln j.length),3] Z Qc Qc<|I h (λe h=>J c [.T,7] Z e<|E h Z U) λe h=>K c [.F,6,.o (.ln g.length),4] Z e Qc<|lq_ h (λst=>⟨[(0,.sl 1 (g.map Qb)),(1,.sl 1 (j.map Qb)),(12,.I (g.length:Int)),(13,.I st)],[]⟩) (λq=>(.ret,⟨[(4,.b false)],[]⟩)) (λq=>(.exit 0,⟨[],[]⟩)) Z (λp o h=>H c [6] Z<|I h (λf h=>B h λm k h=>B h λl i h=>G c [.T,11] Z (A f) <| 
  dr_ c [.N,.N,.B (.row (Qb m)),.N,.N,.N,.B (.row (Qb l)),.N,.N] [] [] [0,1,12,13,24] [] Z Z (a2_ (Xd k) (Xd i)) Z <|
  H c [1] Z<|I h (λd h=>J c [.T,8] Z d<|rR_ h Z) λd h=>J c [.F,7] Z d<|rN_ h Z) λf h=>J c [.F,2] Z f<|rX_ h Z) (λ_ h=>H c [2] Z<|E h Z U) (λ_ h=>H c [8] Z<|E h Z U)
def Hj (a:LI_)(b:LI_):O_ Bool:=(Jn a b).bind λc=>some c
def QcN (f a):CT 170 [.sl 1 (f.map Qb),.L 618] [(618,.var (QN a))] (Hj f a) V.b (λ_=>[(618,.var (QN a))]):=
 W 7 func170 Z λC g r h=>B h λi e h=>J g [9,.o (.C2 (.b i)),4] Z (SA _ _ _ e)<|E h Z r1_
def Ys (c:QLL)(d:LI_)(a:Int):O_ (Int⊕(Int⊕Unit)):=bif (a<(c.length:Int))then (idx c a).bind λe=>(Hj e d).bind λb=>bif b then some (.inr (.inl a))else some (.inl (Qi (a+1)))else some (.inr (.inr ()))
def Na (a:Int):O_ Int:=some a
def Nb : O_ Int:=some (-1)
def KF (a:QLL)(b:LI_):O_ Int:=(QE (λst=>Ys a b st) 0).bind (Sum.elim (λq=>Na q) (λq=>Nb))
def Nc (g e):CT 233 [.sl 1 (g.map QN),.clo (.func 170) [] [.L 618]] [(618,.var (QN e))] (KF g e) V.I (λ_=>[(618,.var (QN e))]):=
 W 19 func233 Z λC c r h=>J c [9,.o (.ln g.length),4] Z Qc<|lq_ h (λst=>⟨[(0,.sl 1 (g.map QN)),(1,.clo (.func 170) [] [.L 618]),(7,.I (g.length:Int)),(8,.I st)],[(618,.var (QN e))]⟩) (λq=>(.ret,⟨[(4,.I q)],[(618,.var (QN e))]⟩)) (λq=>(.exit 0,⟨[],[(618,.var (QN e))]⟩)) Z (λm o h=>H c [6] Z<|I h (λf h=>B h λl j h=>B h λk i h=>g3_ c [.T,15,.o (.row (QN l)),1,.cm (.clo) [(618,618)] [(618,618)] [] [.d,.d] [(618,.var (QN e))] (.b k),2] Z f (Xd j) (QcN _ _ _ i)<|I h (λa h=>J c [.T,9] Z a<|rR_ h Z) λa h=>J c [.F,7] Z a<|rN_ h Z) λf h=>J c [.F,2] Z f<|rX_ h Z) (λp h=>H c [2] Z<|E h Z r1_) (λ_ h=>H c [8] Z<|E h Z r1_)
def KG (a:QLL)(b:LI_):O_ Bool:=(KF a b).bind λc=>some (decide (0<=c))
def Nd (e a):CT 168 [.sl 1 (e.map QN),.clo (.func 170) [] [.L 618]] [(618,.var (QN a))] (KG e a) V.b (λ_=>[(618,.var (QN a))]):=
 W 9 func168 Z λC f r h=>B h λg c h=>J f [9,.cm (.fn) [(618,618)] [(618,618)] [] [.d,.d] [(618,.var (QN a))] (.I g),5] Z (Nc _ _ _ c)<|E h Z r1_
def DP (a:Int)(b:Int)(c:LI_):O_ Bool:=(Wk a b).bind λd=>(KG d c).bind λe=>some e
def Tt (a c e):CT 115 [.I a,.I c,.sl 1 (e.map Qb)] [] (DP a c e) V.b no_:=
 W 12 func115 Z λC j r h=>B h λf g h=>B h λk i h=>g3_ j [10,.o (.co false [.d,.d] 1 (f.map QN) f.length),1,.frz 9 (f.map QN) [9] [],.cm (.fn) [(618,5)] [(5,618)] [] [.d,.d] [(618,.var (QN e))] (.b k),4] Z ⟨(Lu _ _ _ g),Qc,.inl Z⟩ (A (Jl Qc)) (Nd _ _ _ i)<|E h Z U
def Hk (a:(Int×Xo))(d:Qk):O_ Bool:=(DP a.2.task.Join (a.2.task.Ins.length:Int) d.Ins).bind λb=>bif (!b)then some true else (DP a.2.task.Split (a.2.task.Outs.length:Int) d.Outs).bind λc=>some (!c)
def Hl (c:(Int×Xo))(d:Qk)(e:Bool):O_ Int:=bif e then some 11 else (XK c.2 d.Ins).bind λa=>bif (a != 0)then some a else (Yo c.2 d.Outs).bind λb=>some b
def Wy (b:(Int×Xo))(c:Qk)(a:Int):O_ Int:=bif (a != 0)then some a else (Hk b c).bind (λd=>Hl b c d)
def KS (d:Qf)(e:QMk)(b:Qk):O_ Int:=(JE d e b.Task b.Vars).bind λa=>bif (a.1==0)then (XO a.2).bind λc=>Wy a b c else Wy a b a.1
def VP (w m2 m):CT 74 [.agg (Qa w),.sl 1 (m2.map Qe),.agg (Qj m)] [] (KS w m2 m) V.I no_:=
 W 62 func74 Z λC a r h=>B h λf x h=>g3_ a [9,.A (Qa w),5,.o (.C4 (.tup [.agg (QF f.2),.I f.1])),5,.O 7 (.var (QF f.2)),3] Z Z (VF _ _ _ _ _ x) Z<|mE_ (λe:Int=>⟨[lk_ 5,lk_ 7,(8,.I e)],[(5,.var (Qj m)),(7,.var (QF f.2))]⟩) (λe=>Wy f m e=some r) (H a [6] Z<|I h (λg h=>B h λy p h=>g3_ a [.T,1,.A (QF f.2),.o (.C1 (.I y)),2] Z g Z (HX _ _ p)<|me_ h Z) λg h=>J a [.F,1] Z g<|me_ h Z) λe h=>H a [7] Z<|I h (λl h=>J a [.T,8] Z l<|E h Z U) λl h=>J a [.F,4] Z l<|mV_ h (λz=>⟨[lk_ 5,lk_ 7,(50,.b z)],[(5,.var (Qj m)),(7,.var (QF f.2))]⟩) (λz h=>B h λD q h=>K a [7,.o (.ln f.2.task.Ins.length),2,.o (.C3 (.b D)),2] Z Qc (Tt _ _ _ _ q)<|I h (λi h=>L a [.S 38 (.b true),13] Z i<|mq_ h Z) λi h=>B h λN s h=>G a [.S 38 (.b false),6,.o (.ln f.2.task.Outs.length),2,.o (.C3 (.b N)),3] Z ⟨⟨(tc_ i),Qc⟩,(Tt _ _ _ _ s)⟩<|mq_ h Z) λz h=>H a [1] Z<|I h (λj h=>J a [.T,7] Z j<|E h Z U) λj h=>B h λP t h=>g3_ a [.F,5,.A (QF f.2),2,.o (.C2 (.I P)),9] Z j Z (Mc _ _ _ t)<|I h (λk h=>J a [.T,8] Z k<|E h Z U) λk h=>B h λa0 u h=>g3_ a [.F,4,.A (QF f.2),2,.o (.C2 (.I a0)),4] Z k Z (LX _ _ _ u)<|E h Z U
def KT (l:L_ Int):O_ LI_:=(chk (l.length<4611686018427387904)).bind λ_=>some (Jz l)
def Cv (l){r}(h:KT l=some r):QX prog 44 [.own 618 l.length] [(618,.arr 1 (l.map Qb))] (Gives (.own 618 r.length) [(618,.arr 1 (r.map Qb))]):=by
 obtain⟨_,a,h⟩:=Qz h
 cases h
 exact QjQ QlR l (Xw (QgY a))
def Br (a:Int)(b:LI_):O_ ((Int×LI_)⊕LI_):=some (.inl ((Qi (a+1)),b))
def RZ (a:Xs)(c:QMk):O_ Bool:=bif (0<=a.Place)then bif (a.Place<(c.length:Int))then (idx c a.Place).bind λb=>some ((b.length:Int)==0)else some false else some false
def Sa (a:LI_)(b:Xs)(c:Int)(d:Bool):O_ ((Int×LI_)⊕LI_):=bif d then (chk (a.length+([b.Place]:L_ Int).length<=4294967296)).bind λ_=>Br c (a++([b.Place]:L_ Int))else Br c a
def LC (e:QH)(f:QMk)(a:Int)(b:LI_):O_ ((Int×LI_)⊕LI_):=bif (a<(e.Ins.length:Int))then (idx e.Ins a).bind λc=>(RZ c f).bind (λd=>Sa b c a d)else some (.inr b)
def LD (a:LI_):O_ LI_:=(YF a).bind λb=>(chk (b.length=a.length)).bind λ_=>(KT b).bind λc=>some c
def Gk (b:Qf)(c:QMk)(a:Int):O_ LI_:=
 bif ((a<0)||((b.Tasks.length:Int)<=a))then
 some ([]:L_ Int)
 else
 (idx b.Tasks a).bind λd=>
 (QE (λst=>LC d c st.1 st.2) (0,([]:L_ Int))).bind (λq=>LD q)
def QdW (t u a):CT 281 [.agg (Qa t),.sl 1 (u.map Qe),.I a] [] (Gk t u a) (λr=>(.own 600 r.length)) (λr=>[(600,.arr 1 (r.map Qb))]):=
 W 59 func281 Z λC c r h=>H c [8] Z<|Y ⟨[(1,.sl 1 (u.map Qe)),(2,.I a),lk_ 3,(18,.b ((a<0)||((t.Tasks.length:Int)<=a)))],[(3,.var (Qa t))]⟩ (H c [4] Z<|bO_ (decide (a<0)) (λf=>G c [.S 12 (.b true),7,.S 18 (.b ((a<0)||((t.Tasks.length:Int)<=a)))] Z ⟨(tc_ f),(cb_ (UN f Z))⟩<|M Z) λf=>G c [.S 12 (.b false),3,.o (.ln t.Tasks.length),3,.S 18 (.b ((a<0)||((t.Tasks.length:Int)<=a)))] Z ⟨⟨(tc_ f),Qc⟩,(cb_ (We f Z))⟩<|M Z)<|H c [1] Z<|I h (λw h=>g3_ c [.T,7,.adopt 6 600 1,.O 600 (.arr 1 (([]:L_ Int).map Qb)),.S 6 (.own 600 ([]:L_ Int).length)] Z w Z Z<|E h Z r1_) λw h=>B h λp a4 h=>G c [.F,13,.o (.row (Qh p)),2,.o (.ln p.Ins.length),4,.adopt 7 49 1,.O 49 (.arr 1 (([]:L_ Int).map Qb)),.S 7 (.own 49 ([]:L_ Int).length)] Z (a5_ w (Xd a4) Qc Z (congrArg (λn=>V.own 49 n) (by simp)))<|lp_ h (λst=>⟨[(1,.sl 1 (u.map Qe)),(7,.own 49 st.2.length),(24,.sl 4 (p.Ins.map Xj)),(25,.I (p.Ins.length:Int)),(26,.I st.1)],[(49,.arr 1 (st.2.map Qb))]⟩) (λq=>(.exit 0,⟨[(7,.own 49 q.length)],[(49,.arr 1 (q.map Qb))]⟩)) Z (λ⟨x,m⟩ o h=>H c [6] Z<|I h (λg h=>J c [.T,2] Z g<|mE_ (λi:LI_=>⟨[(1,.sl 1 (u.map Qe)),(7,.own 49 i.length),(24,.sl 4 (p.Ins.map Xj)),(25,.I (p.Ins.length:Int)),(26,.I x)],[(49,.arr 1 (i.map Qb))]⟩) (λi=>Br x i=some o) (B h λe D h=>g3_ c [3,.o (.row (Xj e)),.A (Xj e),2,.O 9 (.var (Xj e)),3] Z (Xd D) Z Z<|mV_ h (λy=>⟨[(1,.sl 1 (u.map Qe)),(7,.own 49 m.length),lk_ 9,(24,.sl 4 (p.Ins.map Xj)),(25,.I (p.Ins.length:Int)),(26,.I x),(48,.b y)],[(9,.var (Xj e)),(49,.arr 1 (m.map Qb))]⟩) (λy h=>H c [5] Z<|I h (λj h=>G c [.S 33 (.b true),3,.o (.ln u.length),3] Z ⟨(tc_ j),Qc⟩<|I h (λk h=>B h λN P h=>G c [.S 40 (.b true),3,.o (.row (Qe N)),1,.o (.ln N.length),3] Z ⟨⟨(tc_ k),(Xd P)⟩,Qc⟩<|mq_ h Z) λk h=>L c [.S 40 (.b false),9] Z k<|mq_ h Z) λj h=>L c [.S 33 (.b false),16] Z j<|mq_ h Z) λy h=>H c [1] Z<|I h (λl h=>X h λa0 h=>g3_ c [.T,4,.v (.bd []) [] (.sl 1 (([e.Place]:L_ Int).map Qb)),.app ((m++([e.Place]:L_ Int)).map Qb) (m++([e.Place]:L_ Int)).length,3] Z l Z ⟨Qc,Ja a0 Qc,Ya,Jr Qc⟩<|me_ h Z) λl h=>J c [.F,2] Z l<|me_ h Z) λi h=>H c [4] Z<|rN_ h Z) λg h=>J c [.F,2] Z g<|rX_ h Z) λa5 h=>B h λz a1 h=>X h λs h=>B h λa2 a3 h=>g4_ c [5,.cm (.fn) [(618,49)] [(49,618)] [] [.d] [(618,.arr 1 (z.map Qb))] (.tup []),.S 7 (.own 49 z.length),.S 55 (.own 49 z.length),5,.cm (.fn) [(618,49)] [(49,618)] [] [.d] [(618,.arr 1 (a2.map Qb))] (.own 618 a2.length),4,.K [6] [49],.ren 49 600] Z (Dx _ a1) (by simp[Xw s]) (by simp[Xw s]) (Cv _ a3)<|E h Z r1_
def BS (a:QMk):O_ ByteArray:=(Ad a).bind λb=>some (He b.1)
def Oj (e):CT 301 [.sl 1 (e.map Qe)] [] (BS e) V.s no_:=
 W 12 func301 Z λC f r h=>B h λa b h=>K f [8,.o (.C1 (.tup [.sl 1 (a.1.map YL),.I a.2])),10,.o (.any (.s (He a.1)) none),4] Z (Tj _ _ b) (λσ g i _=>Stp.b2s Z Z (QU f.n Z) (g _ _ Z) Z QlV QkN (Qw.sb Z))<|E h Z U
def BT (c:Qf)(b:Qk):O_ (QMk×Int):=(EF c b.Task b.Vars).bind λd=>bif (d.2 != 0)then some (([]:L_ QBg),d.2)else (idx c.Tasks b.Task).bind λe=>(DO c e.Ins b.Ins d.1).bind λa=>some (a.1,a.2)
def Qf4 (i l):CT 75 [.agg (Qa i),.agg (Qj l)] [] (BT i l) (λr=>(.tup [.sl 1 (r.1.map Qe),.I r.2])) no_:=
 W 34 func75 Z λC e r h=>B h λp j h=>K e [10,.A (Qa i),4,.o (.C3 (.tup [.sl 1 (p.1.map Qb),.I p.2])),14] Z Z (RF _ _ _ _ j)<|I h (λb h=>J e [.T,9,.denil 4 [some 1]] Z b<|F h Z Z U) λb h=>B h λq k h=>B h λf g h=>G e [.F,3] Z (A b) <| 
  dr_ e [.E (.agg (Qa i)),.N,.N,.N,.N,.B (.row (Qh q)),.N,.N,.N,.N,.N,.B (.C4 (.tup [.sl 1 (f.1.map Qe),.I f.2])),.N,.N,.m .s,.m .s] [] [] [4,5] [] Z Z (a3_ Z (Xd k) (Uk _ _ _ _ _ g)) Z <|
  H e [2] Z<|F h Z Z U
def QbL (a:Unit):O_ (QBg×Int):=some (([]:QBg),1)
def QbM (a:QBg):O_ (QBg×Int):=some (([]:QBg),1)
def QbN (a:QBg):O_ (QBg×Int):=some (([]:QBg),1)
noncomputable def Af (D:QBg)(h:Int)(v19:Int):O_ (QBg⊕Empty):=some (.inl (XG KM D h (Qi (((Qs D h).getD 0)-v19))))
def Mw (a:QBg):O_ (QBg×Int):=(Gg a).bind λb=>some (b,0)
noncomputable def RI (h:(QBg×QBg)):O_ (QBg×Int):=(Gc h.2 h.1).bind λD=>bif (!D)then some (([]:QBg),10)else (Fk (λst p=>Af st p.1 p.2) h.1 h.2).bind (Sum.elim (λq=>Mw q) (λq=>Empty.elim q))
def JO (a:QBg)(b:QBg):O_ (QBg×Int):=(IJ a b).bind (Sum.elim (λq=>QbL q) (Sum.elim (λq=>QbM q) (Sum.elim (λq=>QbN q) (λq=>RI q))))
def Qih (a1 b2):CT 77 [.sl 2 (a1.map QQ),.sl 2 (b2.map QQ)] [] (JO a1 b2) (λr=>(.tup [.sl 2 (r.1.map QQ),.I r.2])) no_:=by
 refine W 40 func77 rfl λC g r h=>?_
 obtain⟨x7,w,h⟩:=Qz h
 refine tg_ g [10] ?_
 rcases x7 with(a8 | (a9 | (P | i)))
 ·exact have h:QbL a8=some r:=h;J g [.cm (.fn) [] [] [] [.d,.d] [] (.tup [.lit (.map none),.lit (.map none),.b false]),28,.denil 4 [some 2]] Z (JC _ _ w)<|F h Z Z U
 ·exact have h:QbM a9=some r:=h;J g [.cm (.fn) [] [(14,603)] [] [.d,.d] [(603,.map (QC V.I V.I a9))] (.tup [.lit (.map none),.map 603,.b false]),28,.denil 4 [some 2]] Z (JC _ _ w)<|F h Z Z U
 ·exact have h:QbN P=some r:=h;J g [.cm (.fn) [] [(14,602)] [] [.d,.d] [(602,.map (QC V.I V.I P))] (.tup [.map 602,.lit (.map none),.b false]),28,.denil 4 [some 2]] Z (JC _ _ w)<|F h Z Z U
 replace h:RI i=some r:=h
 obtain⟨a3,S,h⟩:=Qz h
 refine Qp g [.cm (.fn) [] [(14,602),(611,603)] [] [.d,.d] [(602,.map (QC V.I V.I i.1)),(603,.map (QC V.I V.I i.2))] (.tup [.map 602,.map 603,.b true]),23,.cm (.fn) [(618,611),(619,14)] [(611,618),(14,619)] [] [.d,.d] [(618,.map (QC V.I V.I i.2)),(619,.map (QC V.I V.I i.1))] (.b a3),4] Z (a2_ (JC _ _ w) (LZ _ _ _ S)) ?_
 rcases XS h with⟨j,h⟩|⟨j,h⟩
 ·exact J g [.T,9,.denil 4 [some 2]] Z j<|F h Z Z U
 refine Qp g [.F,7] Z (A j) ?_
 refine AK.openMapK (b:=611) KN rfl λs t L14 D a4 N=>?_
 refine Qp g [.x (λσ=>(σ.set 27 (.itr s t #[] none)).put 27 (.L 27)),3,.K [6,27] [14,27,611]] Z (A (Stp.range (b:=611) Z Z (QU g.n Z) Z Z GM Z)) ?_
 obtain⟨a5,a0,h⟩:=Qz h
 refine AK.range (body:=(λst p=>Af st p.1 p.2)) (λst seen σ=>∃cur:O_ Nat,σ=⟨[(6,.map 14),lk_ 27],[(14,.map (QC V.I V.I st)),(27,.itr s t seen cur),(611,.mapX s t (FN V.I V.I L14) (QC V.I V.I i.2))]⟩) (λ(q:Empty) _ _=>False) (λst e σ=>e=.exit 1/\σ=⟨[(6,.map 14)],[(14,.map (QC V.I V.I st))]⟩) D N a0 (ex_ _ rfl) ?_ ?_
 ·rintro a seen σ ⟨cur,rfl⟩ hex
  refine tg_ g [2] ?_
  refine AK.nextT (b:=27) (m:=611) rfl rfl rfl (QU g.n rfl) rfl rfl rfl rfl ?_ ?_
  ·intro hleft
   refine tg_ g [7,.K [6] [14]] ?_
   exact AK.done (Or.inl (an_ hleft (an_ (λh=>(by cases h)) (an_ Z Z))))
  intro a6 c y u
  obtain⟨o,h⟩:=hex _ u
  have ho:=h
  replace h:Af a c y=some o:=h
  refine Qp g [10,.x (λσ=>σ.put 30 (.tup [.I c,.I y])),9,.o (.any (.I ((Qs a c).getD 0)) none),2,.x (λσ=>σ.set 14 (.map (QC V.I V.I (XG KM a c (Qi (((Qs a c).getD 0)-y)))))),2,.K [6,27] [14,27,611]] Z (a3_ (Stp.entryT (b:=27) (m:=611) (e:=V.I) (f:=V.I) Z Z (QU g.n Z) Z u Z Z) (λσ h1 h2 _=>Stp.lookup (e:=V.I) (f:=V.I) (l:=a) (k:=c) (z:=0) Z Z (QU g.n Z) (h1 _ _ Z) (h2 _ _ Z) (h1 _ _ Z) GM KN Ls Z) (Stp.mapUpdate (e:=V.I) (f:=V.I) (l:=a) (k:=c) (v:=(Qi (((Qs a c).getD 0)-y))) KM Z Z Z Z Z Z GM KN Z)) ?_
  cases h
  exact AK.done (Or.inr (ex_ _ (an_ u (Or.inl (ex_ _ (an_ ho (an_ Z (ex_ _ Z))))))))
 rcases a5 with(a | q)
 ·replace h:Mw a=some r:=h
  unfold Mw at h
  rintro e σ ⟨rfl,rfl⟩
  exact B h λO a2 h=>K g [5,.cm (.fn) [(618,14)] [(39,600),(14,618)] [] [.d] [(600,.arr 2 (O.map QQ)),(618,.map (QC V.I V.I a))] (.own 600 O.length),5,.frz 39 (O.map QQ) [4] []] Z (FR _ _ a2) (A (Jl Qc))<|F h Z Z U
 exact q.elim
def Um (f:QMk)(g:QMk)(c:Int)(a:QMk):O_ ((Int×QMk)⊕(Int⊕QMk)):=bif (c<((List.replicate (min2 (f.length:Int) (g.length:Int)).toNat (([]:QBg):QBg)).length:Int))then (idx f c).bind λd=>(idx g c).bind λe=>(JO d e).bind λb=>(idx a c).bind λh=>bif (b.2 != 0)then some (.inr (.inl b.2))else some (.inl ((Qi (c+1)),(a.set c.toNat b.1)))else some (.inr (.inr a))
def QeX (a:Int):O_ (QMk×Int):=some (([]:L_ QBg),a)
def QeY (a:QMk):O_ (QMk×Int):=some (a,0)
def Em (a:QMk)(b:QMk):O_ (QMk×Int):=(chk (decide (0<=(min2 (a.length:Int) (b.length:Int)))&&decide ((min2 (a.length:Int) (b.length:Int))<=(min2 (a.length:Int) (b.length:Int)))&&decide ((min2 (a.length:Int) (b.length:Int))<=4294967296))).bind λ_=>(QE (λst=>Um a b st.1 st.2) (0,(List.replicate (min2 (a.length:Int) (b.length:Int)).toNat (([]:QBg):QBg)))).bind (Sum.elim (λq=>QeX q) (λq=>QeY q))
def QeZ (l p):CT 76 [.sl 1 (l.map Qe),.sl 1 (p.map Qe),.clo (.func 77) [] []] [] (Em l p) (λr=>(.tup [.sl 1 (r.1.map Qe),.I r.2])) no_:=
 W 43 func76 Z λC e r h=>X h λy h=>g3_ e [9,.o (.ln l.length),1,.o (.ln p.length),1,.o (.rows (List.replicate (min2 (l.length:Int) (p.length:Int)).toNat [.Y]))] Z Qc Qc ⟨y,Z⟩<|AK.denilA (b:=16) [some 2] Z (Qjc (f:=Qe) (x:=([]:QBg)) Z)<|J e [.S 16 (.own 16 (List.replicate (min2 (l.length:Int) (p.length:Int)).toNat (([]:QBg):QBg)).length),12] Z (by simp)<|lq_ h (λst=>⟨[(0,.sl 1 (l.map Qe)),(1,.sl 1 (p.map Qe)),(2,.clo (.func 77) [] []),(8,.own 16 st.2.length),(18,.I ((List.replicate (min2 (l.length:Int) (p.length:Int)).toNat (([]:QBg):QBg)).length:Int)),(19,.I st.1)],[(16,.arr 1 (st.2.map Qe))]⟩) (λq=>(.ret,⟨[(6,.Y),(7,.I q)],[]⟩)) (λq=>(.exit 0,⟨[(8,.own 16 q.length)],[(16,.arr 1 (q.map Qe))]⟩)) Z (λ⟨x9,t⟩ o h=>H e [6] Z<|I h (λg h=>B h λz u h=>B h λD v h=>B h λj w h=>B h λO k h=>G e [.T,16] Z (A g) <| 
  dr_ e [.N,.N,.N,.N,.N,.B (.row (Qe z)),.N,.N,.N,.B (.row (Qe D)),.N,.B (.C2 (.tup [.sl 2 (j.1.map QQ),.I j.2])),.a .no none true true,.N,.a .no none true,.N,.m (.st (Qe O) ((t.set x9.toNat j.1).map Qe)),.m .s] [0,1,2,8,9,10,18,19] [] [0,1,2,8,10,18,19] [16] Z Z (a5_ (Xd u) (Xd v) (Qih _ _ _ w) (YJ k Z) ⟨(XT (Jf k).2),BC Z⟩) Z <|
  H e [7] Z<|I h (λi h=>J e [.T,10] Z i<|rR_ h Z) λi h=>K e [.F,7,.S 8 (.own 16 (t.set x9.toNat j.1).length)] Z i (congrArg (λn=>V.own 16 n) (by simp))<|rN_ h Z) λg h=>J e [.F,2] Z g<|rX_ h Z) (λa0 h=>H e [2,.denil 6 [some 1]] Z<|F h Z Z U) (λP h=>J e [10,.frz 16 (P.map Qe) [6] []] Z (A (Jl Qc))<|F h Z Z U)
def Ba (c:Qf)(d:QMk)(e:Qk):O_ (QMk×Int):=(KS c d e).bind λf=>bif (f != 0)then some (([]:L_ QBg),f)else (BT c e).bind λa=>bif (a.2 != 0)then some (([]:L_ QBg),a.2)else (Em d a.1).bind λb=>some (b.1,b.2)
def Qhd (k p l):CT 41 [.agg (Qa k),.sl 1 (p.map Qe),.agg (Qj l)] [] (Ba k p l) (λr=>(.tup [.sl 1 (r.1.map Qe),.I r.2])) no_:=
 W 32 func41 Z λC e r h=>B h λq m h=>g3_ e [11,.A (Qa k),1,.A (Qj l),.o (.C3 (.I q)),9] Z Z Z (VP _ _ _ _ m)<|I h (λb h=>J e [.T,9,.denil 6 [some 1]] Z b<|F h Z Z U) λb h=>B h λf g h=>g4_ e [.F,4,.A (Qa k),.A (Qj l),.o (.C2 (.tup [.sl 1 (f.1.map Qe),.I f.2])),14] Z b Z Z (Qf4 _ _ _ g)<|I h (λa h=>J e [.T,9,.denil 6 [some 1]] Z a<|F h Z Z U) λa h=>B h λi j h=>K e [.F,6,.cm (.fn) [] [] [] [.d,.d,.d] [] (.tup [.sl 1 (i.1.map Qe),.I i.2]),7] Z a (QeZ _ _ _ j)<|F h Z Z U
def Ok (c:Qf)(b:Qk):O_ (QMk×Int):=(EF c b.Task b.Vars).bind λd=>bif (d.2 != 0)then some (([]:L_ QBg),d.2)else (idx c.Tasks b.Task).bind λe=>(DO c e.Outs b.Outs d.1).bind λa=>some (a.1,a.2)
def Qf5 (i l):CT 78 [.agg (Qa i),.agg (Qj l)] [] (Ok i l) (λr=>(.tup [.sl 1 (r.1.map Qe),.I r.2])) no_:=
 W 34 func78 Z λC e r h=>B h λp j h=>K e [10,.A (Qa i),4,.o (.C3 (.tup [.sl 1 (p.1.map Qb),.I p.2])),14] Z Z (RF _ _ _ _ j)<|I h (λb h=>J e [.T,9,.denil 4 [some 1]] Z b<|F h Z Z U) λb h=>B h λq k h=>B h λf g h=>G e [.F,3] Z (A b) <| 
  dr_ e [.E (.agg (Qa i)),.N,.N,.N,.N,.B (.row (Qh q)),.N,.N,.N,.N,.N,.B (.C4 (.tup [.sl 1 (f.1.map Qe),.I f.2])),.N,.N,.m .s,.m .s] [] [] [4,5] [] Z Z (a3_ Z (Xd k) (Uk _ _ _ _ _ g)) Z <|
  H e [2] Z<|F h Z Z U
def Gd (f:QMk)(g:QMk)(c:Int)(a:QMk):O_ ((Int×QMk)⊕(Int⊕QMk)):=bif (c<((List.replicate (min2 (f.length:Int) (g.length:Int)).toNat (([]:QBg):QBg)).length:Int))then (idx f c).bind λd=>(idx g c).bind λe=>(Jw d e).bind λb=>(idx a c).bind λh=>bif (b.2 != 0)then some (.inr (.inl b.2))else some (.inl ((Qi (c+1)),(a.set c.toNat b.1)))else some (.inr (.inr a))
def QbT (a:Int):O_ (QMk×Int):=some (([]:L_ QBg),a)
def QbU (a:QMk):O_ (QMk×Int):=some (a,0)
def Gl (a:QMk)(b:QMk):O_ (QMk×Int):=(chk (decide (0<=(min2 (a.length:Int) (b.length:Int)))&&decide ((min2 (a.length:Int) (b.length:Int))<=(min2 (a.length:Int) (b.length:Int)))&&decide ((min2 (a.length:Int) (b.length:Int))<=4294967296))).bind λ_=>(QE (λst=>Gd a b st.1 st.2) (0,(List.replicate (min2 (a.length:Int) (b.length:Int)).toNat (([]:QBg):QBg)))).bind (Sum.elim (λq=>QbT q) (λq=>QbU q))
def QbV (l p):CT 76 [.sl 1 (l.map Qe),.sl 1 (p.map Qe),.clo (.func 33) [] []] [] (Gl l p) (λr=>(.tup [.sl 1 (r.1.map Qe),.I r.2])) no_:=
 W 43 func76 Z λC e r h=>X h λy h=>g3_ e [9,.o (.ln l.length),1,.o (.ln p.length),1,.o (.rows (List.replicate (min2 (l.length:Int) (p.length:Int)).toNat [.Y]))] Z Qc Qc ⟨y,Z⟩<|AK.denilA (b:=16) [some 2] Z (Qjc (f:=Qe) (x:=([]:QBg)) Z)<|J e [.S 16 (.own 16 (List.replicate (min2 (l.length:Int) (p.length:Int)).toNat (([]:QBg):QBg)).length),12] Z (by simp)<|lq_ h (λst=>⟨[(0,.sl 1 (l.map Qe)),(1,.sl 1 (p.map Qe)),(2,.clo (.func 33) [] []),(8,.own 16 st.2.length),(18,.I ((List.replicate (min2 (l.length:Int) (p.length:Int)).toNat (([]:QBg):QBg)).length:Int)),(19,.I st.1)],[(16,.arr 1 (st.2.map Qe))]⟩) (λq=>(.ret,⟨[(6,.Y),(7,.I q)],[]⟩)) (λq=>(.exit 0,⟨[(8,.own 16 q.length)],[(16,.arr 1 (q.map Qe))]⟩)) Z (λ⟨x9,t⟩ o h=>H e [6] Z<|I h (λg h=>B h λz u h=>B h λD v h=>B h λj w h=>B h λO k h=>G e [.T,16] Z (A g) <| 
  dr_ e [.N,.N,.N,.N,.N,.B (.row (Qe z)),.N,.N,.N,.B (.row (Qe D)),.N,.B (.C2 (.tup [.sl 2 (j.1.map QQ),.I j.2])),.a .no none true true,.N,.a .no none true,.N,.m (.st (Qe O) ((t.set x9.toNat j.1).map Qe)),.m .s] [0,1,2,8,9,10,18,19] [] [0,1,2,8,10,18,19] [16] Z Z (a5_ (Xd u) (Xd v) (Te _ _ _ w) (YJ k Z) ⟨(XT (Jf k).2),BC Z⟩) Z <|
  H e [7] Z<|I h (λi h=>J e [.T,10] Z i<|rR_ h Z) λi h=>K e [.F,7,.S 8 (.own 16 (t.set x9.toNat j.1).length)] Z i (congrArg (λn=>V.own 16 n) (by simp))<|rN_ h Z) λg h=>J e [.F,2] Z g<|rX_ h Z) (λa0 h=>H e [2,.denil 6 [some 1]] Z<|F h Z Z U) (λP h=>J e [10,.frz 16 (P.map Qe) [6] []] Z (A (Jl Qc))<|F h Z Z U)
def Gm (a:Int)(b:QMk):O_ ((Int×QMk)⊕QMk):=some (.inl ((Qi (a+1)),b))
def BU (d:QH)(b:Int)(a:QMk):O_ ((Int×QMk)⊕QMk):=bif (b<(d.Cancel.length:Int))then (idx d.Cancel b).bind λc=>bif ((0<=c)&&(c<(a.length:Int)))then (idx a c).bind λe=>Gm b (a.set c.toNat ([]:QBg))else Gm b a else some (.inr a)
def BV (c:(QMk×Int))(b:QMk):O_ (QMk×Int):=(Gl b c.1).bind λa=>some (a.1,a.2)
def Bc (d:Qf)(f:QMk)(e:Qk):O_ (QMk×Int):=(Ok d e).bind λa=>bif (a.2 != 0)then some (([]:L_ QBg),a.2)else (AV f).bind λb=>(idx d.Tasks e.Task).bind λc=>(QE (λst=>BU c st.1 st.2) (0,b)).bind (λq=>BV a q)
def Qhe (O m2 P):CT 42 [.agg (Qa O),.sl 1 (m2.map Qe),.agg (Qj P)] [] (Bc O m2 P) (λr=>(.tup [.sl 1 (r.1.map Qe),.I r.2])) no_:=
 W 53 func42 Z λC g r h=>B h λt a0 h=>g3_ g [10,.A (Qa O),.A (Qj P),.o (.C2 (.tup [.sl 1 (t.1.map Qe),.I t.2])),14] Z Z Z (Qf5 _ _ _ a0)<|I h (λp h=>J g [.T,9,.denil 6 [some 1]] Z p<|F h Z Z U) λp h=>B h λu w h=>B h λe y h=>g4_ g [.F,5,.o (.co false [.d] 1 (u.map Qe) u.length),10,.o (.row (Qh e)),2,.o (.ln e.Cancel.length),4] Z p ⟨(IL _ _ w),Qc,.inl Z⟩ (Xd y) Qc<|lp_ h (λst=>⟨[(8,.sl 1 (t.1.map Qe)),(10,.own 23 st.2.length),(30,.sl 1 (e.Cancel.map Qb)),(31,.I (e.Cancel.length:Int)),(32,.I st.1)],[(23,.arr 1 (st.2.map Qe))]⟩) (λq=>(.exit 0,⟨[(8,.sl 1 (t.1.map Qe)),(10,.own 23 q.length)],[(23,.arr 1 (q.map Qe))]⟩)) Z (λ⟨s,i⟩ o h=>H g [6] Z<|I h (λj h=>J g [.T,2] Z j<|mE_ (λk:QMk=>⟨[(8,.sl 1 (t.1.map Qe)),(10,.own 23 k.length),(30,.sl 1 (e.Cancel.map Qb)),(31,.I (e.Cancel.length:Int)),(32,.I s)],[(23,.arr 1 (k.map Qe))]⟩) (λk=>Gm s k=some o) (B h λa z h=>J g [3,.o (.row (Qb a)),5] Z (Xd z)<|Y ⟨[(8,.sl 1 (t.1.map Qe)),(10,.own 23 i.length),(12,.I a),(30,.sl 1 (e.Cancel.map Qb)),(31,.I (e.Cancel.length:Int)),(32,.I s),(43,.b ((0<=a)&&(a<(i.length:Int))))],[(23,.arr 1 (i.map Qe))]⟩ (H g [4] Z<|bO_ (decide (0<=a)) (λf=>G g [.S 38 (.b true),6,.S 43 (.b ((0<=a)&&(a<(i.length:Int))))] Z ⟨(tc_ f),(cb_ (Ju f Z))⟩<|M Z) λf=>G g [.S 38 (.b false),6,.S 43 (.b ((0<=a)&&(a<(i.length:Int))))] Z ⟨(tc_ f),(cb_ (WM f Z))⟩<|M Z)<|H g [1] Z<|I h (λl h=>B h λa1 m h=>g4_ g [.T,4,.x (λσ=>σ.set 23 (.arr 1 ((i.set a.toNat ([]:QBg)).map Qe))),2,.S 10 (.own 23 (i.set a.toNat ([]:QBg)).length)] Z l (YJ m Z) (Stp.storeNil (zz:=2) (r:=Qe a1) Z Z Z Z (XT (Jf m).2) Z (Qw.sz Z) Z (BC Z)) (congrArg (λn=>V.own 23 n) (by simp))<|me_ h Z) λl h=>J g [.F,2] Z l<|me_ h Z) λk h=>H g [4] Z<|rN_ h Z) λj h=>J g [.F,2] Z j<|rX_ h Z) λa2 h=>B h λD N h=>K g [6,.frz 23 (a2.map Qe) [10,48] [],.cm (.fn) [] [] [] [.d,.d,.d] [] (.tup [.sl 1 (D.1.map Qe),.I D.2]),7] Z (a2_ (Jl Qc) (Jl Qc)) (QbV _ _ _ N)<|F h Z Z U
def XU (c:Qf)(e:QMk)(d:Qk):O_ (QMk×Int):=(Ba c e d).bind λb=>bif (b.2 != 0)then some (([]:L_ QBg),b.2)else (Bc c b.1 d).bind λa=>some (a.1,a.2)
def Ig (f k g):CT 18 [.agg (Qa f),.sl 1 (k.map Qe),.agg (Qj g)] [] (XU f k g) (λr=>(.tup [.sl 1 (r.1.map Qe),.I r.2])) no_:=
 W 26 func18 Z λC i r h=>B h λl j h=>g3_ i [10,.A (Qa f),1,.A (Qj g),.o (.C3 (.tup [.sl 1 (l.1.map Qe),.I l.2])),14] Z Z Z (Qhd _ _ _ _ j)<|I h (λa h=>J i [.T,9,.denil 6 [some 1]] Z a<|F h Z Z U) λa h=>B h λb e h=>g4_ i [.F,4,.A (Qa f),1,.A (Qj g),.o (.C3 (.tup [.sl 1 (b.1.map Qe),.I b.2])),7] Z a Z Z (Qhe _ _ _ _ e)<|F h Z Z U
def DK (a:Int)(b:QSB)(c:(L_ QMk)):O_ ((Int×QSB×(L_ QMk))⊕((L_ QMk)⊕(QSB×(L_ QMk)))):=some (.inl ((Qi (a+1)),b,c))
def LE (a:(QMk×Int))(b:QSB):O_ Bool:=bif (a.2 != 0)then some true else (BS a.1).bind λc=>some ((Qs b c).getD false)
def LF (d:Int)(e:QSB)(a:(L_ QMk))(b:Int)(c:(QMk×Int))(f:Bool):O_ ((Int×QSB×(L_ QMk))⊕((L_ QMk)⊕(QSB×(L_ QMk)))):=bif f then DK d e a else bif ((a.length:Int)==(min2 (max2 0 b) 4096))then some (.inr (.inl a))else (BS c.1).bind λg=>(chk (a.length+([c.1]:L_ QMk).length<=4294967296)).bind λ_=>DK d (XG OT e g true) (a++([c.1]:L_ QMk))
def Bs (f:(L_ Qk))(a:Int)(D:Int)(k:Qf)(b:Int)(c:Int)(d:QSB)(e:(L_ QMk)):O_ ((Int×QSB×(L_ QMk))⊕((L_ QMk)⊕(QSB×(L_ QMk)))):=bif (c<(f.length:Int))then (idx f c).bind λg=>bif (g.Task==a)then DK c d e else (idx e D).bind λi=>(XU k i g).bind λh=>(LE h d).bind (λj=>LF c d e b h j)else some (.inr (.inr (d,e)))
def LG (a:(L_ QMk)):O_ ((Int×QSB×(L_ QMk))⊕((L_ QMk)⊕(L_ QMk))):=some (.inr (.inl a))
def LH (h:Int)(a:QSB)(b:(L_ QMk)):O_ ((Int×QSB×(L_ QMk))⊕((L_ QMk)⊕(L_ QMk))):=some (.inl ((Qi (h+1)),a,b))
def Bt (g:Qf)(a:Int)(b:Int)(h:Int)(d:QSB)(c:(L_ QMk)):O_ ((Int×QSB×(L_ QMk))⊕((L_ QMk)⊕(L_ QMk))):=bif (h<(c.length:Int))then (idx c h).bind λe=>(IP g e 9223372036854775807).bind λf=>(QE (λst=>Bs f a h g b st.1 st.2.1 st.2.2) (0,d,c)).bind (Sum.elim (λq=>LG q) (λq=>LH h q.1 q.2))else some (.inr (.inr c))
def QdX (a:(L_ QMk)):O_ ((L_ QMk)×Bool):=some (a,false)
def QdY (a:(L_ QMk)):O_ ((L_ QMk)×Bool):=some (a,true)
def IQ (f:Qf)(e:QMk)(b:Int)(a:Int):O_ ((L_ QMk)×Bool):=bif ((min2 (max2 0 a) 4096)==0)then some (([]:L_ QMk),false)else (BS e).bind λc=>(AV e).bind λd=>(QE (λst=>Bt f b a st.1 st.2.1 st.2.2) (0,(XG OT ([]:QSB) c true),([d]:L_ QMk))).bind (Sum.elim (λq=>QdX q) (λq=>QdY q))
def QdZ (n1 m2 g i):CT 282 [.agg (Qa n1),.sl 1 (m2.map Qe),.I g,.I i] [] (IQ n1 m2 g i) (λr=>(.tup [.sl 1 (r.1.map Qt),.b r.2])) no_:=
 W 83 func282 Z λC j r h=>H j [22] Z<|I h (λa9 h=>J j [.T,8,.denil 8 [some 1]] Z a9<|F h Z Z U) λa9 h=>B h λb0 b5 h=>B h λt b6 h=>G j [.F,5,.O 23 (.map (QC V.s V.b ([]:QSB))),1,.o (.C1 (.s b0)),.x (λσ=>σ.set 23 (.map (QC V.s V.b (XG OT ([]:QSB) b0 true)))),7,.o (.co false [.d] 1 (t.map Qe) t.length),.frz 28 (t.map Qe) [28] [],1,.O 29 (.arr 1 (([t]:L_ QMk).map Qt)),.S 29 (.own 29 ([t]:L_ QMk).length),10] Z (a8_ a9 Z (Oj _ _ b5) (Stp.insert (e:=V.s) (f:=V.b) (l:=([]:QSB)) (k:=b0) (v:=true) OT Z Z Z Z Z Z Ta Qbe Z) ⟨(IL _ _ b6),Qc,.inl Z⟩ (A (Jl Qc)) Z Z)<|lq_ h (λst=>⟨[(2,.I g),lk_ 4,(10,.I (min2 (max2 0 i) 4096)),(11,.map 23),(12,.own 29 st.2.2.length),(13,.I st.1)],[(4,.var (Qa n1)),(23,.map (QC V.s V.b st.2.1)),(29,.arr 1 (st.2.2.map Qt))]⟩) (λq=>(.ret,⟨[(8,.own 29 q.length),(9,.b false)],[(29,.arr 1 (q.map Qt))]⟩)) (λq=>(.exit 0,⟨[(12,.own 29 q.length)],[(29,.arr 1 (q.map Qt))]⟩)) Z (λ⟨at_13,c6,c7⟩ o h=>H j [9] Z<|I h (λu h=>B h λc2 a6 h=>B h λm b7 h=>G j [.T,5] Z (A u) <| 
  dr_ j [.E (.agg (Qa n1)),.N,.N,.N,.B (.row (Qt c2)),.B (.co false [.d,.d,.d] 4 (m.map Qj) m.length),.N,.N] [] [] [2,4,10,11,12,13,41,42,43] [4,23,29,41] Z Z (a4_ Z (YJ a6 Z) (XT (Jf a6).2) ⟨(QbK _ _ _ _ b7),Qc,.inl Z⟩) Z <|
  H j [2] Z<|lq_ h (λst=>⟨[(2,.I g),lk_ 4,(10,.I (min2 (max2 0 i) 4096)),(11,.map 23),(12,.own 29 st.2.2.length),(13,.I at_13),(41,.own 41 m.length),(42,.I (m.length:Int)),(43,.I st.1)],[(4,.var (Qa n1)),(23,.map (QC V.s V.b st.2.1)),(29,.arr 1 (st.2.2.map Qt)),(41,.arr 4 (m.map Qj))]⟩) (λq=>(.ret,⟨[(8,.own 29 q.length),(9,.b false)],[(29,.arr 1 (q.map Qt))]⟩)) (λq=>(.exit 2,⟨[(2,.I g),lk_ 4,(10,.I (min2 (max2 0 i) 4096)),(11,.map 23),(12,.own 29 q.2.length),(13,.I at_13)],[(4,.var (Qa n1)),(23,.map (QC V.s V.b q.1)),(29,.arr 1 (q.2.map Qt))]⟩)) Z (λ⟨b1,w,a3⟩ o h=>H j [6] Z<|I h (λy h=>J j [.T,2] Z y<|mF_ (λ(a4:QSB) (D:(L_ QMk))=>⟨[(2,.I g),lk_ 4,(10,.I (min2 (max2 0 i) 4096)),(11,.map 23),(12,.own 29 D.length),(13,.I at_13),(41,.own 41 m.length),(42,.I (m.length:Int)),(43,.I b1)],[(4,.var (Qa n1)),(23,.map (QC V.s V.b a4)),(29,.arr 1 (D.map Qt)),(41,.arr 4 (m.map Qj))]⟩) (λa4 D=>DK b1 a4 D=some o) (B h λa5 a7 h=>g4_ j [4,.v (.row (Qj a5)) [] (.agg (Qj a5)),2,.O 15 (.var (Qj a5)),11] Z (YJ a7 Z) (XT (Jf a7).2) Z Z<|I h (λP h=>J j [.T,3] Z P<|mf_ h Z) λP h=>B h λc3 a8 h=>B h λp b8 h=>G j [.F,3] Z (A P) <| 
  dr_ j [.E (.agg (Qa n1)),.N,.N,.N,.B (.row (Qt c3)),.E (.agg (Qj a5)),.B (.C3 (.tup [.sl 1 (p.1.map Qe),.I p.2])),.N,.N,.N,.N,.N] [] [] [2,4,10,11,12,13,16,17,41,42,43] [4,23,29,41] Z Z (a5_ Z (YJ a8 Z) (XT (Jf a8).2) Z (Ig _ _ _ _ b8)) Z <|
  H j [3] Z<|mV_ h (λb2=>⟨[(2,.I g),lk_ 4,(10,.I (min2 (max2 0 i) 4096)),(11,.map 23),(12,.own 29 a3.length),(13,.I at_13),(16,.sl 1 (p.1.map Qe)),(41,.own 41 m.length),(42,.I (m.length:Int)),(43,.I b1),(68,.b b2)],[(4,.var (Qa n1)),(23,.map (QC V.s V.b w)),(29,.arr 1 (a3.map Qt)),(41,.arr 4 (m.map Qj))]⟩) (λb2 h=>H j [4] Z<|I h (λa0 h=>L j [.S 63 (.b true),6] Z a0<|mq_ h Z) λa0 h=>B h λb3 b9 h=>G j [.S 63 (.b false),2,.o (.C1 (.s b3)),.o (.any (.b ((Qs w b3).getD false)) none),2] Z ⟨⟨(tc_ a0),(Oj _ _ b9)⟩,(λσ h1 h2 _=>Stp.lookup (e:=V.s) (f:=V.b) (l:=w) (k:=b3) (z:=false) Z Z (QU j.n Z) (h1 _ _ Z) (h2 _ _ Z) (h1 _ _ Z) Ta Qbe Qm7 Z)⟩<|mq_ h Z) λb2 h=>H j [1] Z<|I h (λa1 h=>J j [.T,3] Z a1<|mf_ h Z) λa1 h=>J j [.F,11] Z a1<|I h (λa2 h=>J j [.T,11] Z a2<|rR_ h Z) λa2 h=>B h λb4 c0 h=>X h λc1 h=>G j [.F,6,.o (.C1 (.s b4)),.x (λσ=>σ.set 23 (.map (QC V.s V.b (XG OT w b4 true)))),5,.v (.bd []) [] (.sl 1 (([p.1]:L_ QMk).map Qt)),.app ((a3++([p.1]:L_ QMk)).map Qt) (a3++([p.1]:L_ QMk)).length,3] Z (a5_ a2 (Oj _ _ c0) (Stp.mapUpdate (e:=V.s) (f:=V.b) (l:=w) (k:=b4) (v:=true) OT Z Z Z Z Z Z Ta Qbe Z) Z ⟨Qc,Ja c1 Qc,Ya,Jr Qc⟩)<|mf_ h Z) λa4 D h=>H j [4] Z<|rN_ h Z) λy h=>J j [.F,2] Z y<|rX_ h Z) (λc8 h=>H j [3] Z<|rR_ h Z) (λ⟨c9,d0⟩ h=>H j [8] Z<|rN_ h Z)) λu h=>J j [.F,2] Z u<|rX_ h Z) (λc4 h=>J j [2,.frz 29 (c4.map Qt) [8] []] Z (A (Jl Qc))<|F h Z Z U) (λc5 h=>J j [10,.frz 29 (c5.map Qt) [8] []] Z (A (Jl Qc))<|F h Z Z U)
def Nf (a:Int)(b:QMk):O_ Bool:=(idx b a).bind λc=>some (decide (0<(c.length:Int)))
def QbW (d a):CT 284 [.I d,.L 618] [(618,.var (Qt a))] (Nf d a) V.b (λ_=>[(618,.var (Qt a))]):=
 W 10 func284 Z λC f r h=>B h λe c h=>K f [9,.o (.row (Qe e)),1,.o (.ln e.length),5] Z (Xd c) Qc<|E h Z r1_
def JP (c:LI_)(d:QMk)(a:Int):O_ (Int⊕(Int⊕Unit)):=bif (a<(c.length:Int))then (idx c a).bind λe=>(Nf e d).bind λb=>bif b then some (.inr (.inl a))else some (.inl (Qi (a+1)))else some (.inr (.inr ()))
def Un (a:Int):O_ Int:=some a
def Ng : O_ Int:=some (-1)
def DT (a:LI_)(b:QMk):O_ Int:=(QE (λst=>JP a b st) 0).bind (Sum.elim (λq=>Un q) (λq=>Ng))
def Nh (g e):CT 149 [.sl 1 (g.map Qb),.clo (.func 284) [] [.L 618]] [(618,.var (Qt e))] (DT g e) V.I (λ_=>[(618,.var (Qt e))]):=
 W 19 func149 Z λC c r h=>J c [9,.o (.ln g.length),4] Z Qc<|lq_ h (λst=>⟨[(0,.sl 1 (g.map Qb)),(1,.clo (.func 284) [] [.L 618]),(7,.I (g.length:Int)),(8,.I st)],[(618,.var (Qt e))]⟩) (λq=>(.ret,⟨[(4,.I q)],[(618,.var (Qt e))]⟩)) (λq=>(.exit 0,⟨[],[(618,.var (Qt e))]⟩)) Z (λm o h=>H c [6] Z<|I h (λf h=>B h λl j h=>B h λk i h=>g3_ c [.T,15,.o (.row (Qb l)),1,.cm (.clo) [(618,618)] [(618,618)] [] [.d,.d] [(618,.var (Qt e))] (.b k),2] Z f (Xd j) (QbW _ _ _ i)<|I h (λa h=>J c [.T,9] Z a<|rR_ h Z) λa h=>J c [.F,7] Z a<|rN_ h Z) λf h=>J c [.F,2] Z f<|rX_ h Z) (λp h=>H c [2] Z<|E h Z r1_) (λ_ h=>H c [8] Z<|E h Z r1_)
def JQ (a:LI_)(b:QMk):O_ Bool:=(DT a b).bind λc=>some (decide (0<=c))
def IR (e a):CT 283 [.sl 1 (e.map Qb),.clo (.func 284) [] [.L 618]] [(618,.var (Qt a))] (JQ e a) V.b (λ_=>[(618,.var (Qt a))]):=
 W 9 func283 Z λC f r h=>B h λg c h=>J f [9,.cm (.fn) [(618,618)] [(618,618)] [] [.d,.d] [(618,.var (Qt a))] (.I g),5] Z (Nh _ _ _ c)<|E h Z r1_
def Bu (e:((L_ QMk)×Bool))(a:LI_)(b:Int):O_ ((LI_×Int)⊕(Unit⊕Unit)):=bif (b<(e.1.length:Int))then (idx e.1 b).bind λc=>(JQ a c).bind λd=>bif d then some (.inr (.inl ()))else some (.inl (a,(Qi (b+1))))else some (.inr (.inr ()))
def Qd0 : O_ Int:=some 0
def LI (a:((L_ QMk)×Bool)):O_ Int:=bif (!a.2)then some 2 else some 1
def IS (c:Qf)(d:QMk)(a:Int)(b:Int):O_ Int:=(Gk c d a).bind λf=>(IQ c d a b).bind λe=>(QE (λst=>Bu e st.1 st.2) (f,0)).bind (Sum.elim (λq=>Qd0) (λq=>LI e))
def Qd1 (t z e a):CT 230 [.agg (Qa t),.sl 1 (z.map Qe),.I e,.I a] [] (IS t z e a) V.I no_:=
 W 38 func230 Z λC j r h=>B h λu w h=>B h λk x h=>G j [8,.A (Qa t),2,.o (.co false [.d,.d,.d] 1 (u.map Qb) u.length),5,.A (Qa t),3,.o (.C4 (.tup [.sl 1 (k.1.map Qt),.b k.2])),11,.o (.ln k.1.length),4,.frz 17 (u.map Qb) [9] []] Z (a6_ Z ⟨(QdW _ _ _ _ w),Qc,.inl Z⟩ Z (QdZ _ _ _ _ _ x) Qc (A (Jl Qc)))<|lq_ h (λst=>⟨[(9,.sl 1 (st.1.map Qb)),(11,.b k.2),(26,.sl 1 (k.1.map Qt)),(27,.I (k.1.length:Int)),(28,.I st.2)],[]⟩) (λq=>(.ret,⟨[(8,.I 0)],[]⟩)) (λq=>(.exit 0,⟨[(11,.b k.2)],[]⟩)) Z (λ⟨m,D⟩ o h=>H j [6] Z<|I h (λf h=>B h λl p h=>B h λy s h=>g4_ j [.T,6,.o (.row (Qt l)),3,.O 13 (.var (Qt l)),6,.cm (.fn) [(618,13)] [(13,618)] [] [.d,.d] [(618,.var (Qt l))] (.b y),2] Z f (Xd p) Z (IR _ _ _ s)<|I h (λg h=>J j [.T,8] Z g<|rR_ h Z) λg h=>J j [.F,7] Z g<|rN_ h Z) λf h=>J j [.F,2] Z f<|rX_ h Z) (λ_ h=>H j [2] Z<|E h Z U) (λ_ h=>H j [9] Z<|I h (λi h=>J j [.T,7] Z i<|E h Z U) λi h=>J j [.F,8] Z i<|E h Z U)
def IT (b:Qf)(e:QMk)(c:Qk)(a:Int):O_ Int:=(KS b e c).bind λf=>bif (f != 0)then some 0 else (idx b.Tasks c.Task).bind λg=>bif (g.Join != 3)then some 1 else (IS b e c.Task a).bind λd=>some d
def Qd2 (i p j a):CT 162 [.agg (Qa i),.sl 1 (p.map Qe),.agg (Qj j),.I a] [] (IT i p j a) V.I no_:=
 W 30 func162 Z λC f r h=>B h λq k h=>g3_ f [11,.A (Qa i),1,.A (Qj j),.o (.C3 (.I q)),4] Z Z Z (VP _ _ _ _ k)<|I h (λe h=>J f [.T,8] Z e<|E h Z U) λe h=>B h λs l h=>K f [.F,6,.o (.row (Qh s)),6] Z e (Xd l)<|I h (λb h=>J f [.T,8] Z b<|E h Z U) λb h=>B h λm g h=>g3_ f [.F,5,.A (Qa i),4,.o (.C4 (.I m)),4] Z b Z (Qd1 _ _ _ _ _ g)<|E h Z U
def Gn (b:Int)(a:Bool)(c:(L_ Qk))(d:QBg):O_ ((Bool×Int×(L_ Qk)×QBg)⊕(Bool×(L_ Qk))):=some (.inl (a,(Qi (b+1)),c,d))
def Uo (c:Qk)(d:(L_ Qk))(e:Int)(a:Bool)(b:QBg):O_ ((Bool×Int×(L_ Qk)×QBg)⊕(Bool×(L_ Qk))):=bif (((Qs b c.Task).getD 0)==1)then (chk (d.length+([c]:L_ Qk).length<=4294967296)).bind λ_=>Gn e a (d++([c]:L_ Qk)) b else bif (((Qs b c.Task).getD 0)==2)then Gn e false d b else Gn e a d b
def CJ (h:(L_ Qk))(i:Qf)(j:QMk)(b:Int)(a:Bool)(d:Int)(e:(L_ Qk))(f:QBg):O_ ((Bool×Int×(L_ Qk)×QBg)⊕(Bool×(L_ Qk))):=bif (d<(h.length:Int))then (idx h d).bind λc=>bif (!(Qs f c.Task).isSome)then (IT i j c b).bind λg=>Uo c e d a (XG KM f c.Task g)else Uo c e d a f else some (.inr (a,e))
def Ni (a:Bool)(b:(L_ Qk)):O_ ((L_ Qk)×Bool):=some (b,a)
def Ag (c:Qf)(d:QMk)(a:Int)(b:Int):O_ ((L_ Qk)×Bool):=(IP c d b).bind λe=>(QE (λst=>CJ e c d a st.1 st.2.1 st.2.2.1 st.2.2.2) (true,0,([]:L_ Qk),([]:QBg))).bind (λq=>Ni q.1 q.2)
def Qe0 (n1 m2 g u):CT 105 [.agg (Qa n1),.sl 1 (m2.map Qe),.I g,.I u] [] (Ag n1 m2 g u) (λr=>(.tup [.sl 4 (r.1.map Qj),.b r.2])) no_:=by
 refine W 59 func105 rfl λC p r h=>?_
 obtain⟨t,b2,h⟩:=Qz h
 refine Qp p [20,.O 17 (.map (QC V.I V.I ([]:QBg))),6,.A (Qa n1),2,.o (.co false [.d,.d,.d] 4 (t.map Qj) t.length),5,.adopt 10 50 4,.O 50 (.arr 4 (([]:L_ Qk).map Qj)),.S 10 (.own 50 ([]:L_ Qk).length),.K [1,2,4,10,11,12,21,22,23] [4,17,21,50]] Z (a5_ Z Z ⟨(QbK _ _ _ _ b2),Qc,.inl Z⟩ Z (congrArg (λn=>V.own 50 n) (by simp))) ?_
 obtain⟨b3,a8,h⟩:=Qz h
 refine AK.loop (body:=(λst=>CJ t n1 m2 g st.1 st.2.1 st.2.2.1 st.2.2.2)) (λst σ=>σ=⟨[(1,.sl 1 (m2.map Qe)),(2,.I g),lk_ 4,(10,.own 50 st.2.2.1.length),(11,.b st.1),(12,.map 17),(21,.own 21 t.length),(22,.I (t.length:Int)),(23,.I st.2.1)],[(4,.var (Qa n1)),(17,.map (QC V.I V.I st.2.2.2)),(21,.arr 4 (t.map Qj)),(50,.arr 4 (st.2.2.1.map Qj))]⟩) (λq e σ=>e=.exit 0/\σ=⟨[(10,.own 50 q.2.length),(11,.b q.1)],[(50,.arr 4 (q.2.map Qj))]⟩) a8 rfl ?_ ?_
 ·rintro ⟨s,a3,w,x⟩ o σ rfl h
  refine tg_ p [6] ?_
  refine bq_ p h [.T,2] rfl (λy h=>?_) [.F,2,.K [10,11] [50]] rfl λy h=>?_
  ·refine AK.meet (λσ=>∃j:Bool,∃a4:(L_ Qk),∃a6:QBg,σ=⟨[(1,.sl 1 (m2.map Qe)),(2,.I g),lk_ 4,(10,.own 50 a4.length),(11,.b j),(12,.map 17),(21,.own 21 t.length),(22,.I (t.length:Int)),(23,.I a3)],[(4,.var (Qa n1)),(17,.map (QC V.I V.I a6)),(21,.arr 4 (t.map Qj)),(50,.arr 4 (a4.map Qj))]⟩/\Gn a3 j a4 a6=some o) ?_ ?_
   ·obtain⟨i,a5,h⟩:=Qz h
    refine Qp p [4,.v (.row (Qj i)) [] (.agg (Qj i)),2,.O 14 (.var (Qj i)),2] Z (a4_ (YJ a5 Z) (XT (Jf a5).2) Z Z) ?_
    refine AK.meet (λσ=>∃D:QBg,σ=⟨[(1,.sl 1 (m2.map Qe)),(2,.I g),lk_ 4,(10,.own 50 w.length),(11,.b s),(12,.map 17),lk_ 14,(21,.own 21 t.length),(22,.I (t.length:Int)),(23,.I a3)],[(4,.var (Qa n1)),(14,.var (Qj i)),(17,.map (QC V.I V.I D)),(21,.arr 4 (t.map Qj)),(50,.arr 4 (w.map Qj))]⟩/\Uo i w a3 s D=some o) ?_ ?_
    ·refine Qp p [5,.o (.any (.tup [.I ((Qs x i.Task).getD 0),.b (Qs x i.Task).isSome]) none),13] Z (A (λσ h1 h2 _=>Stp.lookupOk (e:=V.I) (f:=V.I) (l:=x) (k:=i.Task) (z:=0) Z Z (QU p.n Z) (h1 _ _ Z) (h2 _ _ Z) (h1 _ _ Z) HS KN Ls Z Z)) ?_
     rcases XS h with⟨P,h⟩|⟨P,h⟩
     ·obtain⟨a7,a9,h⟩:=Qz h
      refine Qp p [.T,.K [1,2,4,10,11,12,14,21,22,23] [4,14,17,21,50]] Z (A P) ?_
      refine AK.draw2 Qw p mixed [.N,.N,.N,.E (.agg (Qa n1)),.N,.E (.agg (Qj i)),.N,.B (.C4 (.I a7)),.m (.any ⟨[],[(17,.map (QC V.I V.I (XG KM x i.Task a7)))],none⟩)] [] [] [1,2,4,10,11,12,14,21,22,23] [4,14,17,21,50] rfl rfl rfl ⟨⟨⟨⟨U,rfl⟩,rfl⟩,(Qd2 _ _ _ _ _ a9)⟩,(λσ h1 h2=>Stp.mapUpdate (e:=V.I) (f:=V.I) (l:=x) (k:=i.Task) (v:=a7) KM rfl rfl (h1 _ _ rfl) (h2 _ _ rfl) (h1 _ _ rfl) (h1 _ _ rfl) HS KN rfl)⟩ rfl (by kernel_rfl) rfl rfl rfl ?_
      refine tg_ p [.K [1,2,4,10,11,12,14,21,22,23] [4,14,17,21,50]] ?_
      exact AK.met (ex_ _ (an_ Z h))
     refine Qp p [.F,1,.K [1,2,4,10,11,12,14,21,22,23] [4,14,17,21,50]] Z (A P) ?_
     exact AK.met (ex_ _ (an_ Z h))
    rintro σ ⟨D,rfl,h⟩
    refine Qp p [5,.o (.any (.I ((Qs D i.Task).getD 0)) none),9] Z (A (λσ h1 h2 _=>Stp.lookup (e:=V.I) (f:=V.I) (l:=D) (k:=i.Task) (z:=0) Z Z (QU p.n Z) (h1 _ _ Z) (h2 _ _ Z) (h1 _ _ Z) HS KN Ls Z)) ?_
    rcases XS h with⟨a0,h⟩|⟨a0,h⟩
    ·obtain⟨b0,h⟩:=Tb h
     refine Qp p [.T,2,.A (Qj i),.v (.bd []) [] (.sl 4 (([i]:L_ Qk).map Qj)),.app ((w++([i]:L_ Qk)).map Qj) (w++([i]:L_ Qk)).length,4,.K [1,2,4,10,11,12,21,22,23] [4,17,21,50]] Z (a4_ a0 Z Z ⟨Qc,Ja b0 Qc,Ya,Jr Qc⟩) ?_
     exact AK.met (ex_ _ (ex_ _ (ex_ _ (an_ Z h))))
    refine Qp p [.F,6] Z (A a0) ?_
    refine bq_ p h [.T,5,.K [1,2,4,10,11,12,21,22,23] [4,17,21,50]] rfl (λa1 h=>?_) [.F,3,.K [1,2,4,10,11,12,21,22,23] [4,17,21,50]] rfl λa1 h=>?_
    ·exact AK.met (ex_ _ (ex_ _ (ex_ _ (an_ Z h))))
    exact AK.met (ex_ _ (ex_ _ (ex_ _ (an_ Z h))))
   rintro σ ⟨j,a4,a6,rfl,h⟩
   refine tg_ p [4,.K [1,2,4,10,11,12,21,22,23] [4,17,21,50]] ?_
   cases h
   exact Zt Z Z
  cases h
  exact Qa1 Z (an_ Z Z)
 obtain⟨a2,b1⟩:=b3
 replace h:Ni a2 b1=some r:=h
 unfold Ni at h
 rintro e σ ⟨rfl,rfl⟩
 exact J p [11,.frz 50 (b1.map Qj) [8] []] Z (A (Jl Qc))<|F h Z Z U
def EM (a:Bool)(b:((L_ Qk)×Bool)):O_ Bool:=bif a then some b.2 else some false
def Ks (a:Int)(b:(L_ QL))(c:(L_ QP))(d:(L_ QH))(e:Int)(f:Int)(g:Int)(h:Bool)(i:(L_ (ByteArray×Int)))(j:(L_ QW))(k:(L_ QMk)):O_ ((Int×(L_ QL)×(L_ QP)×(L_ QH)×Int×Int×Int×Bool×(L_ (ByteArray×Int))×(L_ QW)×(L_ QMk))⊕((L_ QL)×(L_ QP)×(L_ QH)×Int×Int×Int×Bool×(L_ (ByteArray×Int))×(L_ QW)×(L_ QMk))):=some (.inl ((Qi (a+1)),b,c,d,e,f,g,h,i,j,k))
def Kt (c:Int)(a:(L_ QW))(D:Int)(d:Qk)(b:Int)(e:(L_ QL))(f:(L_ QP))(g:(L_ QH))(h:Int)(i:Int)(j:Int)(m:Bool)(k:(L_ (ByteArray×Int)))(l:(L_ QMk)):O_ ((Int×(L_ QL)×(L_ QP)×(L_ QH)×Int×Int×Int×Bool×(L_ (ByteArray×Int))×(L_ QW)×(L_ QMk))⊕((L_ QL)×(L_ QP)×(L_ QH)×Int×Int×Int×Bool×(L_ (ByteArray×Int))×(L_ QW)×(L_ QMk))):=bif (b<0)then Ks c e f g h i j false k a l else (chk (a.length+([(QW.mk D b d)]:L_ QW).length<=4294967296)).bind λ_=>Ks c e f g h i j m k (a++[(QW.mk D b d)]) l
def Ku (n:((L_ Qk)×Bool))(p:QMk)(D:Int)(b:Int)(c:(L_ QL))(d:(L_ QP))(e:(L_ QH))(f:Int)(g:Int)(i:Int)(j:Bool)(k:(L_ (ByteArray×Int)))(h:(L_ QW))(l:(L_ QMk)):O_ ((Int×(L_ QL)×(L_ QP)×(L_ QH)×Int×Int×Int×Bool×(L_ (ByteArray×Int))×(L_ QW)×(L_ QMk))⊕((L_ QL)×(L_ QP)×(L_ QH)×Int×Int×Int×Bool×(L_ (ByteArray×Int))×(L_ QW)×(L_ QMk))):=bif (b<(n.1.length:Int))then (idx n.1 b).bind λm=>(XU (Qf.mk c d e f g) p m).bind λo=>bif (o.2==0)then (WC c d e f g i k l h j o.1).bind λa=>Kt b h D m a.1 a.2.2.1 a.2.2.2.1 a.2.2.2.2.1 a.2.2.2.2.2.1 a.2.2.2.2.2.2.1 a.2.2.2.2.2.2.2.1 a.2.2.2.2.2.2.2.2.1 a.2.2.2.2.2.2.2.2.2 a.2.1 else Kt b h D m (-1) c d e f g i j k l else some (.inr (c,d,e,f,g,i,j,k,h,l))
def Hm (a:(L_ QL))(b:(L_ QP))(c:(L_ QH))(d:Int)(e:Int)(f:Int)(g:Bool)(h:(L_ (ByteArray×Int)))(i:(L_ QW))(j:(L_ QMk)):O_ ((L_ QMk)×(L_ QW)×(L_ QL)×(L_ QP)×(L_ QH)×Int×Int×Int×Bool×(L_ (ByteArray×Int))):=some (j,i,a,b,c,d,e,f,g,h)
def Di (a:((L_ Qk)×Bool))(b:QMk)(D:Int)(d:(L_ QL))(e:(L_ QP))(f:(L_ QH))(g:Int)(h:Int)(i:Int)(j:(L_ (ByteArray×Int)))(k:(L_ QW))(l:(L_ QMk))(c:Bool):O_ ((L_ QMk)×(L_ QW)×(L_ QL)×(L_ QP)×(L_ QH)×Int×Int×Int×Bool×(L_ (ByteArray×Int))):=(QE (λst=>Ku a b D st.1 st.2.1 st.2.2.1 st.2.2.2.1 st.2.2.2.2.1 st.2.2.2.2.2.1 st.2.2.2.2.2.2.1 st.2.2.2.2.2.2.2.1 st.2.2.2.2.2.2.2.2.1 st.2.2.2.2.2.2.2.2.2.1 st.2.2.2.2.2.2.2.2.2.2) (0,d,e,f,g,h,i,c,j,k,l)).bind (λq=>Hm q.1 q.2.1 q.2.2.1 q.2.2.2.1 q.2.2.2.2.1 q.2.2.2.2.2.1 q.2.2.2.2.2.2.1 q.2.2.2.2.2.2.2.1 q.2.2.2.2.2.2.2.2.1 q.2.2.2.2.2.2.2.2.2)
def Gz (e:(L_ QL))(f:(L_ QP))(g:(L_ QH))(h:Int)(i:Int)(j:Int)(l:(L_ (ByteArray×Int)))(k:(L_ QMk))(m:(L_ QW))(c:Bool)(D:Int):O_ ((L_ QMk)×(L_ QW)×(L_ QL)×(L_ QP)×(L_ QH)×Int×Int×Int×Bool×(L_ (ByteArray×Int))):=(idx k D).bind λa=>(Ag (Qf.mk e f g h i) a j 9223372036854775807).bind λb=>(EM c b).bind (λd=>Di b a D e f g h i j l m k d)
def SB (v1 v2 v3 v4 v5 v6 m7 l8 l9 b8 at_11):CT 62 [.L 618,.I at_11] [(618,.var [.sl 7 (v1.map Qr),.sl 3 (v2.map Qq),.sl 14 (v3.map Qh),.I v4,.I v5,.I v6,.map 619,.own 616 l8.length,.own 617 l9.length,.b b8]),(619,.map (QC V.s V.I m7)),(616,.arr 1 (l8.map Qt)),(617,.arr 6 (l9.map QR))] (Gz v1 v2 v3 v4 v5 v6 m7 l8 l9 b8 at_11) (λ_=>(.tup [])) (λr=>[(616,.arr 1 (r.1.map Qt)),(617,.arr 6 (r.2.1.map QR)),(618,.var [.sl 7 (r.2.2.1.map Qr),.sl 3 (r.2.2.2.1.map Qq),.sl 14 (r.2.2.2.2.1.map Qh),.I r.2.2.2.2.2.1,.I r.2.2.2.2.2.2.1,.I r.2.2.2.2.2.2.2.1,.map 619,.own 616 r.1.length,.own 617 r.2.1.length,.b r.2.2.2.2.2.2.2.2.1]),(619,.map (QC V.s V.I r.2.2.2.2.2.2.2.2.2))]):=by
 refine W 88 func62 rfl λC i r h=>?_
 obtain⟨l,a7,h⟩:=Qz h
 obtain⟨f,b9,h⟩:=Qz h
 refine Qp i [9,.o (.row (Qt l)),4,.K [0,1,4] [616,617,618,619]] Z (a2_ (YJ a7 Z) (XT (Jf a7).2)) ?_
 refine AK.draw2 Qw i mixed [.N,.N,.N,.E (.agg (Qa (Qf.mk v1 v2 v3 v4 v5))),.N,.N,.N,.N,.N,.B (.C4 (.tup [.sl 4 (f.1.map Qj),.b f.2])),.N,.N,.N,.N,.N] [] [] [0,1,4,5,6] [616,617,618,619] rfl rfl rfl ⟨⟨U,rfl⟩,(Qe0 _ _ _ _ _ b9)⟩ rfl (by kernel_rfl) rfl rfl rfl ?_
 refine tg_ i [2] ?_
 obtain⟨a8,c0,h⟩:=Qz h
 replace h:Di f l at_11 v1 v2 v3 v4 v5 v6 m7 l9 l8 a8=some r:=h
 refine AK.meetX (λσ=>σ=⟨[(0,.L 618),(1,.I at_11),(4,.sl 1 (l.map Qe)),(5,.sl 4 (f.1.map Qj))],[(616,.arr 1 (l8.map Qt)),(617,.arr 6 (l9.map QR)),(618,.var [.sl 7 (v1.map Qr),.sl 3 (v2.map Qq),.sl 14 (v3.map Qh),.I v4,.I v5,.I v6,.map 619,.own 616 l8.length,.own 617 l9.length,.b a8]),(619,.map (QC V.s V.I m7))]⟩) ?_ ?_
 ·replace h:=c0
  refine tg_ i [8] ?_
  refine bg_ h (λu h=>Qp i [.S 39 (.b true),6,.O 618 (.var [.sl 7 (v1.map Qr),.sl 3 (v2.map Qq),.sl 14 (v3.map Qh),.I v4,.I v5,.I v6,.map 619,.own 616 l8.length,.own 617 l9.length,.b f.2]),1,.K [0,1,4,5] [616,617,618,619]] rfl ⟨(tc_ u),rfl⟩ ?_) λu h=>Qp i [.S 39 (.b false),6,.O 618 (.var [.sl 7 (v1.map Qr),.sl 3 (v2.map Qq),.sl 14 (v3.map Qh),.I v4,.I v5,.I v6,.map 619,.own 616 l8.length,.own 617 l9.length,.b false]),1,.K [0,1,4,5] [616,617,618,619]] rfl ⟨(tc_ u),rfl⟩ ?_
  ·cases h
   exact mt_
  cases h
  exact mt_
 rintro σ rfl
 replace h:Di f l at_11 v1 v2 v3 v4 v5 v6 m7 l9 l8 a8=some r:=h
 refine Qp i [4,.o (.ln f.1.length),4,.K [0,1,4,45,46,47] [616,617,618,619]] Z (A Qc) ?_
 obtain⟨c7,c1,h⟩:=Qz h
 refine AK.loop (body:=(λst=>Ku f l at_11 st.1 st.2.1 st.2.2.1 st.2.2.2.1 st.2.2.2.2.1 st.2.2.2.2.2.1 st.2.2.2.2.2.2.1 st.2.2.2.2.2.2.2.1 st.2.2.2.2.2.2.2.2.1 st.2.2.2.2.2.2.2.2.2.1 st.2.2.2.2.2.2.2.2.2.2)) (λst σ=>σ=⟨[(0,.L 618),(1,.I at_11),(4,.sl 1 (l.map Qe)),(45,.sl 4 (f.1.map Qj)),(46,.I (f.1.length:Int)),(47,.I st.1)],[(616,.arr 1 (st.2.2.2.2.2.2.2.2.2.2.map Qt)),(617,.arr 6 (st.2.2.2.2.2.2.2.2.2.1.map QR)),(618,.var [.sl 7 (st.2.1.map Qr),.sl 3 (st.2.2.1.map Qq),.sl 14 (st.2.2.2.1.map Qh),.I st.2.2.2.2.1,.I st.2.2.2.2.2.1,.I st.2.2.2.2.2.2.1,.map 619,.own 616 st.2.2.2.2.2.2.2.2.2.2.length,.own 617 st.2.2.2.2.2.2.2.2.2.1.length,.b st.2.2.2.2.2.2.2.1]),(619,.map (QC V.s V.I st.2.2.2.2.2.2.2.2.1))]⟩) (λq e σ=>e=.exit 0/\σ=⟨[],[(616,.arr 1 (q.2.2.2.2.2.2.2.2.2.map Qt)),(617,.arr 6 (q.2.2.2.2.2.2.2.2.1.map QR)),(618,.var [.sl 7 (q.1.map Qr),.sl 3 (q.2.1.map Qq),.sl 14 (q.2.2.1.map Qh),.I q.2.2.2.1,.I q.2.2.2.2.1,.I q.2.2.2.2.2.1,.map 619,.own 616 q.2.2.2.2.2.2.2.2.2.length,.own 617 q.2.2.2.2.2.2.2.2.1.length,.b q.2.2.2.2.2.2.1]),(619,.map (QC V.s V.I q.2.2.2.2.2.2.2.1))]⟩) c1 rfl ?_ ?_
 ·rintro ⟨a3,c8,c9,d0,d1,d2,e3,e4,e5,k,e6⟩ o σ rfl h
  refine tg_ i [6] ?_
  refine bq_ i h [.T,2] rfl (λw h=>?_) [.F,2,.K [] [616,617,618,619]] rfl λw h=>?_
  ·refine AK.meet (λσ=>∃a9:(L_ QL),∃b0:(L_ QP),∃b1:(L_ QH),∃b2:Int,∃b3:Int,∃b4:Int,∃b5:Bool,∃b6:(L_ (ByteArray×Int)),∃a4:(L_ QW),∃a5:(L_ QMk),σ=⟨[(0,.L 618),(1,.I at_11),(4,.sl 1 (l.map Qe)),(45,.sl 4 (f.1.map Qj)),(46,.I (f.1.length:Int)),(47,.I a3)],[(616,.arr 1 (a5.map Qt)),(617,.arr 6 (a4.map QR)),(618,.var [.sl 7 (a9.map Qr),.sl 3 (b0.map Qq),.sl 14 (b1.map Qh),.I b2,.I b3,.I b4,.map 619,.own 616 a5.length,.own 617 a4.length,.b b5]),(619,.map (QC V.s V.I b6))]⟩/\Ks a3 a9 b0 b1 b2 b3 b4 b5 b6 a4 a5=some o) ?_ ?_
   ·obtain⟨g,c2,h⟩:=Qz h
    obtain⟨c3,c4,h⟩:=Qz h
    refine Qp i [3,.o (.row (Qj g)),.A (Qj g),2,.O 8 (.var (Qj g)),3,.K [0,1,4,8,45,46,47] [8,616,617,618,619]] Z (a3_ (Xd c2) Z Z) ?_
    refine AK.draw2 Qw i mixed [.N,.N,.N,.E (.agg (Qa (Qf.mk c8 c9 d0 d1 d2))),.N,.E (.agg (Qj g)),.B (.C3 (.tup [.sl 1 (c3.1.map Qe),.I c3.2])),.N,.N,.N,.N,.N] [] [] [0,1,4,8,9,10,45,46,47] [8,616,617,618,619] rfl rfl rfl ⟨⟨⟨U,rfl⟩,rfl⟩,(Ig _ _ _ _ c4)⟩ rfl (by kernel_rfl) rfl rfl rfl ?_
    refine tg_ i [6] ?_
    refine AK.meet (λσ=>∃p:Int,∃x:(L_ QL),∃y:(L_ QP),∃z:(L_ QH),∃D:Int,∃P:Int,∃a0:Int,∃a6:Bool,∃b7:(L_ (ByteArray×Int)),∃t:(L_ QMk),σ=⟨[(0,.L 618),(1,.I at_11),(4,.sl 1 (l.map Qe)),lk_ 8,(11,.I p),(45,.sl 4 (f.1.map Qj)),(46,.I (f.1.length:Int)),(47,.I a3)],[(8,.var (Qj g)),(616,.arr 1 (t.map Qt)),(617,.arr 6 (k.map QR)),(618,.var [.sl 7 (x.map Qr),.sl 3 (y.map Qq),.sl 14 (z.map Qh),.I D,.I P,.I a0,.map 619,.own 616 t.length,.own 617 k.length,.b a6]),(619,.map (QC V.s V.I b7))]⟩/\Kt a3 k at_11 g p x y z D P a0 a6 b7 t=some o) ?_ ?_
    ·refine tg_ i [6] ?_
     rcases XS h with⟨a1,h⟩|⟨a1,h⟩
     ·obtain⟨j,c5,h⟩:=Qz h
      refine Qp i [.T,3,.cm (.fn) [(618,618),(619,619),(616,616),(617,617)] [(616,616),(617,617),(618,618),(619,619)] [616,617] [.d,.d] [(616,.arr 1 (j.2.1.map Qt)),(617,.arr 6 (k.map QR)),(618,.var [.sl 7 (j.2.2.1.map Qr),.sl 3 (j.2.2.2.1.map Qq),.sl 14 (j.2.2.2.2.1.map Qh),.I j.2.2.2.2.2.1,.I j.2.2.2.2.2.2.1,.I j.2.2.2.2.2.2.2.1,.map 619,.own 616 j.2.1.length,.own 617 k.length,.b j.2.2.2.2.2.2.2.2.1]),(619,.map (QC V.s V.I j.2.2.2.2.2.2.2.2.2))] (.I j.1),2,.K [0,1,4,8,11,45,46,47] [8,616,617,618,619]] Z (a2_ a1 (Hg _ _ _ _ _ _ _ _ _ _ _ _ c5)) ?_
      exact AK.met (ex_ _ (ex_ _ (ex_ _ (ex_ _ (ex_ _ (ex_ _ (ex_ _ (ex_ _ (ex_ _ (ex_ _ (an_ Z h)))))))))))
     refine Qp i [.F,1,.K [0,1,4,8,11,45,46,47] [8,616,617,618,619]] Z (A a1) ?_
     exact AK.met (ex_ _ (ex_ _ (ex_ _ (ex_ _ (ex_ _ (ex_ _ (ex_ _ (ex_ _ (ex_ _ (ex_ _ (an_ Z h)))))))))))
    rintro σ ⟨p,x,y,z,D,P,a0,a6,b7,t,rfl,h⟩
    refine tg_ i [7] ?_
    rcases XS h with⟨a2,h⟩|⟨a2,h⟩
    ·refine Qp i [.T,7,.O 618 (.var [.sl 7 (x.map Qr),.sl 3 (y.map Qq),.sl 14 (z.map Qh),.I D,.I P,.I a0,.map 619,.own 616 t.length,.own 617 k.length,.b false]),5,.K [0,1,4,45,46,47] [616,617,618,619]] Z (a2_ a2 Z) ?_
     exact AK.met (ex_ _ (ex_ _ (ex_ _ (ex_ _ (ex_ _ (ex_ _ (ex_ _ (ex_ _ (ex_ _ (ex_ _ (an_ Z h)))))))))))
    obtain⟨c6,h⟩:=Tb h
    refine Qp i [.F,2,.K [0,1,4,8,11,45,46,47] [8,616,617,618,619]] Z (A a2) ?_
    refine AK.draw2 Qw i mixed [.a .no none true,.N,.N,.N,.N,.N,.N,.N,.E (.agg (Qj g)),.E (.agg (QR (QW.mk at_11 p g))),.a (.bd []) (some ([],.sl 6 (([(QW.mk at_11 p g)]:L_ QW).map QR))) false,.m (.app ((k++[(QW.mk at_11 p g)]).map QR) (k++[(QW.mk at_11 p g)]).length),.N,.N,.N,.m .s] [0,1,4,8,11,45,46,47] [8,616,619] [0,1,4,45,46,47] [616,617,618,619] rfl rfl rfl ⟨⟨⟨⟨U,rfl⟩,rfl⟩,rfl⟩,⟨Qc,Ja c6 Qc,Ya,Jr Qc⟩⟩ rfl (by kernel_rfl) rfl rfl rfl ?_
    refine Qp i [.O 618 (.var [.sl 7 (x.map Qr),.sl 3 (y.map Qq),.sl 14 (z.map Qh),.I D,.I P,.I a0,.map 619,.own 616 t.length,.own 617 (k++[(QW.mk at_11 p g)]).length,.b a6]),1,.K [0,1,4,45,46,47] [616,617,618,619]] Z (A Z) ?_
    exact AK.met (ex_ _ (ex_ _ (ex_ _ (ex_ _ (ex_ _ (ex_ _ (ex_ _ (ex_ _ (ex_ _ (ex_ _ (an_ Z h)))))))))))
   rintro σ ⟨a9,b0,b1,b2,b3,b4,b5,b6,a4,a5,rfl,h⟩
   refine tg_ i [4,.K [0,1,4,45,46,47] [616,617,618,619]] ?_
   cases h
   exact Zt Z Z
  cases h
  exact Qa1 Z (an_ Z Z)
 obtain⟨d3,d4,d5,d6,d7,d8,d9,e0,e1,e2⟩:=c7
 replace h:Hm d3 d4 d5 d6 d7 d8 d9 e0 e1 e2=some r:=h
 rintro e σ ⟨rfl,rfl⟩
 refine tg_ i [1,.K [] [616,617,618,619]] ?_
 cases h
 refine AK.done ?_
 exact ex_ [] (an_ U (gives r4_))

end Go.Proofs
