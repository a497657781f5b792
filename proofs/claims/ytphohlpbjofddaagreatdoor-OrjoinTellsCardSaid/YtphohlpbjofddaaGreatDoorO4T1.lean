/- What functions of the program do, as functions over plain data, and the walks that show it: printed by a program. -/
import Derived.Test.YtphohlpbjofddaaGreatDoorO4V3
import Derived.Test.YtphohlpbjofddaaGreatDoorProg
set_option linter.all false
set_option maxRecDepth 100000
set_option maxHeartbeats 4000000
noncomputable section
namespace Go.Proofs
open Go Go.RowKit Go.Vm Go.Proofs.Tryz
structure QM where
 Name:ByteArray
 Kind:Int
 Lo:Int
 Hi:Int
 Names:(List ByteArray)
 First:Int
 Then:Int
structure Xh where
 Name:ByteArray
 Colour:Int
 First:(List (Int×Int))
structure Yd where
 Name:ByteArray
 Colour:Int
structure Qi where
 Kind:Int
 Num:Int
 Kids:(List Qi)
structure Xk where
 Place:Int
 Expr:Qi
structure QL where
 Name:ByteArray
 Vars:(List Yd)
 Guard:Qi
 Join:Int
 Split:Int
 Ins:(List Xk)
 Outs:(List Xk)
 Cancel:(List Int)
 After:Int
 Many:(Int×Int×Int)
structure Qn where
 Colours:(List QM)
 Places:(List Xh)
 Tasks:(List QL)
 From:Int
 To:Int
structure Qh where
 Task:Int
 Vars:(List Int)
 Ins:(List Int)
 Outs:(List Int)
structure QX where
 net:Qn
 m:(List (List (Int×Int)))
 task:QL
 env:(List Int)
structure XZ where
 all:(List QM)
 sizes:(List Int)
 k:Int
structure Ec where
 Kind:Int
 At:Int
def Ki (x:ByteArray):L_ V:=[.s x]
def Qb (x:Int):L_ V:=[.i .i64 x]
def QmQ (l:L_ Int):∀r∈l.map Qb,∀v∈r,v.sca=true:=QoL (λ_=>rfl) l
def Qpo (x:(L_ ByteArray)):L_ V:=[.sl 1 (x.map Ki)]
def Qt (x:QM):L_ V:=[.s x.Name,.i .i64 x.Kind,.i .i64 x.Lo,.i .i64 x.Hi,.sl 1 (x.Names.map Ki),.i .i64 x.First,.i .i64 x.Then]
def Qkc (x:(L_ QM)):L_ V:=[.sl 7 (x.map Qt)]
def Qo (x:(Int×Int)):L_ V:=[.i .i64 x.1,.i .i64 x.2]
def Qe (x:(L_ (Int×Int))):L_ V:=[.sl 2 (x.map Qo)]
def QK (x:Xh):L_ V:=[.s x.Name,.i .i64 x.Colour,.sl 2 (x.First.map Qo)]
def Qk0 (x:(L_ Xh)):L_ V:=[.sl 3 (x.map QK)]
def QY (x:Yd):L_ V:=[.s x.Name,.i .i64 x.Colour]
def Km (x:(L_ Yd)):L_ V:=[.sl 2 (x.map QY)]
mutual
def QaO : Qi->L_ V
 | ⟨h,j,D⟩=>[.i .i64 h,.i .i64 j,.sl 3 (Jb D)]
def Jb : L_ Qi->L_ (L_ V)
 | []=>[]
 | e::es=>QaO e::Jb es
end
def Qm (x:Qi):L_ V:=[.i .i64 x.Kind,.i .i64 x.Num,.sl 3 (Jb x.Kids)]
def Qje : ∀x:Qi,QaO x=Qm x
 | ⟨h,j,D⟩=>by rw[QaO];rfl
def Ip : ∀l:L_ Qi,Jb l=l.map Qm
 | []=>by rw[Jb];rfl
 | e::es=>by rw[Jb,Ip es,Qje];rfl
def EN (l:L_ Qi):(Jb l).length=l.length:=by rw[Ip,Ii]
def Jc {l:L_ Qi}{j:Int}{x:Qi}(h:idx l j=some x):0<=j/\(Jb l)[j.toNat]? = some (Qm x):=by rw[Ip];exact QI h
def Xa (x:Xk):L_ V:=[.i .i64 x.Place,.i .i64 x.Expr.Kind,.i .i64 x.Expr.Num,.sl 3 (Jb x.Expr.Kids)]
def QmR (x:(L_ Xk)):L_ V:=[.sl 4 (x.map Xa)]
def Qz (x:(L_ Int)):L_ V:=[.sl 1 (x.map Qb)]
def QhU (x:(Int×Int×Int)):L_ V:=[.i .i64 x.1,.i .i64 x.2.1,.i .i64 x.2.2]
def Qk (x:QL):L_ V:=[.s x.Name,.sl 2 (x.Vars.map QY),.i .i64 x.Guard.Kind,.i .i64 x.Guard.Num,.sl 3 (Jb x.Guard.Kids),.i .i64 x.Join,.i .i64 x.Split,.sl 4 (x.Ins.map Xa),.sl 4 (x.Outs.map Xa),.sl 1 (x.Cancel.map Qb),.i .i64 x.After,.i .i64 x.Many.1,.i .i64 x.Many.2.1,.i .i64 x.Many.2.2]
def QlV (x:(L_ QL)):L_ V:=[.sl 14 (x.map Qk)]
def Qa (x:Qn):L_ V:=[.sl 7 (x.Colours.map Qt),.sl 3 (x.Places.map QK),.sl 14 (x.Tasks.map Qk),.i .i64 x.From,.i .i64 x.To]
def Qf (x:Qh):L_ V:=[.i .i64 x.Task,.sl 1 (x.Vars.map Qb),.sl 1 (x.Ins.map Qb),.sl 1 (x.Outs.map Qb)]
def Qu (x:(L_ (L_ (Int×Int)))):L_ V:=[.sl 1 (x.map Qe)]
def YK (x:Int):L_ V:=[.i .u8 x]
def Xj (x:(L_ (L_ Int))):L_ V:=[.sl 1 (x.map Qz)]
def QD (x:QX):L_ V:=[.sl 7 (x.net.Colours.map Qt),.sl 3 (x.net.Places.map QK),.sl 14 (x.net.Tasks.map Qk),.i .i64 x.net.From,.i .i64 x.net.To,.sl 1 (x.m.map Qe),.s x.task.Name,.sl 2 (x.task.Vars.map QY),.i .i64 x.task.Guard.Kind,.i .i64 x.task.Guard.Num,.sl 3 (Jb x.task.Guard.Kids),.i .i64 x.task.Join,.i .i64 x.task.Split,.sl 4 (x.task.Ins.map Xa),.sl 4 (x.task.Outs.map Xa),.sl 1 (x.task.Cancel.map Qb),.i .i64 x.task.After,.i .i64 x.task.Many.1,.i .i64 x.task.Many.2.1,.i .i64 x.task.Many.2.2,.sl 1 (x.env.map Qb)]
def Xw (x:XZ):L_ V:=[.sl 7 (x.all.map Qt),.sl 1 (x.sizes.map Qb),.i .i64 x.k]
def QlW (x:(L_ Qh)):L_ V:=[.sl 4 (x.map Qf)]
def WV (x:Ec):L_ V:=[.i .i64 x.Kind,.i .i64 x.At]
def Up (fn:Nat):Bm:=Qpk Tryz.f261 0 fn
def Yw (fn:Nat):Bm:=Qpk Tryz.f40 0 fn
def Qn0 : Go.Shelf.Ren:=⟨λ| 20=>39 | n=>n,λ| 0=>0 | 3=>3 | 4=>4 | 22=>29 | n=>n,λn=>n⟩
def QmS : Lays2.n20 Tryz.prog Qn0 where
 mixed:=by kernel_rfl
 f20:=Tryz.func39.trans (congrArg some (by kernel_rfl))
 t0:=Tryz.underlying0
 a0:=Tryz.isAgg0
 z0:=Tryz.sizeOf0
 v0:=Tryz.zeroValue0
 t3:=Tryz.underlying3
 a3:=Tryz.isAgg3
 z3:=Tryz.sizeOf3
 v3:=Tryz.zeroValue3
 t4:=Tryz.underlying4
 a4:=Tryz.isAgg4
 z4:=Tryz.sizeOf4
 v4:=Tryz.zeroValue4
 t22:=Tryz.underlying29
 a22:=Tryz.isAgg29
 z22:=Tryz.sizeOf29
 v22:=Tryz.zeroValue29
 i3:=by kernel_rfl
def QpO (a0 h j D b1 b2:Int):EqT Tryz.prog 52 [.int .i64 a0,.int .i64 h,.int .i64 j] [.int .i64 D,.int .i64 b1,.int .i64 b2] ((a0==D)&&((h==b1)&&(j==b2))):=by
 refine⟨by kernel_rfl,λw=>?_⟩
 have u3:=Tryz.underlying3
 have g3:=Tryz.isAgg3
 have z3:=Tryz.sizeOf3
 show(Op.equalIn (9999+1) 52 (.agg #[.int .i64 a0,.int .i64 h,.int .i64 j]) (.agg #[.int .i64 D,.int .i64 b1,.int .i64 b2])).run Tryz.prog w=_
 rw[Op.equalIn]
 simp only[Xc,run_underlying Tryz.underlying52,Xm]
 simp only[Std.Legacy.Range.forIn_eq_forIn_range',Std.Legacy.Range.size,Nat.sub_zero,Nat.add_sub_cancel,Nat.div_one,List.range'_succ,List.range'_zero,List.forIn_cons,List.forIn_nil]
 go_simp
 by_cases h0:a0=D<;>by_cases h1:h=b1<;>by_cases h2:j=b2<;>simp[h0,h1,h2]
def QpP (a0 h j b1:Int):EqT Tryz.prog 64 [.int .i64 a0,.int .i64 h] [.int .i64 j,.int .i64 b1] ((a0==j)&&(h==b1)):=by
 refine⟨by kernel_rfl,λw=>?_⟩
 have u3:=Tryz.underlying3
 have g3:=Tryz.isAgg3
 have z3:=Tryz.sizeOf3
 show(Op.equalIn (9999+1) 64 (.agg #[.int .i64 a0,.int .i64 h]) (.agg #[.int .i64 j,.int .i64 b1])).run Tryz.prog w=_
 rw[Op.equalIn]
 simp only[Xc,run_underlying Tryz.underlying64,Xm]
 simp only[Std.Legacy.Range.forIn_eq_forIn_range',Std.Legacy.Range.size,Nat.sub_zero,Nat.add_sub_cancel,Nat.div_one,List.range'_succ,List.range'_zero,List.forIn_cons,List.forIn_nil]
 go_simp
 by_cases D:a0=j<;>by_cases h1:h=b1<;>simp[D,h1]
def QoO : Qci Tryz.prog 91 1=some (1,false,1):=by kernel_rfl
def QoP : Qci Tryz.prog 91 2=some (2,false,1):=by kernel_rfl
def Qn1 : Go.Shelf.Ren:=⟨λ| 157=>263 | 199=>272 | 229=>271 | 261=>275 | 311=>276 | 312=>277 | n=>n,λ| 0=>0 | 3=>3 | 4=>4 | 5=>5 | 9=>9 | 21=>21 | 31=>89 | 40=>257 | 46=>118 | 49=>270 | 51=>164 | 119=>255 | 141=>265 | 152=>261 | 154=>263 | 193=>266 | 194=>267 | 196=>269 | 198=>272 | 201=>275 | 226=>277 | 227=>278 | n=>n,λ| 0=>0 | 6=>1 | n=>n⟩
def QmT : Lays.n157 Tryz.prog Qn1 where
 mixed:=by kernel_rfl
 f157:=Tryz.func263.trans (congrArg some (by kernel_rfl))
 f199:=Tryz.func272.trans (congrArg some (by kernel_rfl))
 f229:=Tryz.func271.trans (congrArg some (by kernel_rfl))
 f261:=Tryz.func275.trans (congrArg some (by kernel_rfl))
 f311:=Tryz.func276.trans (congrArg some (by kernel_rfl))
 f312:=Tryz.func277.trans (congrArg some (by kernel_rfl))
 t0:=Tryz.underlying0
 a0:=Tryz.isAgg0
 z0:=Tryz.sizeOf0
 v0:=Tryz.zeroValue0
 t3:=Tryz.underlying3
 a3:=Tryz.isAgg3
 z3:=Tryz.sizeOf3
 v3:=Tryz.zeroValue3
 t4:=Tryz.underlying4
 a4:=Tryz.isAgg4
 z4:=Tryz.sizeOf4
 v4:=Tryz.zeroValue4
 t5:=Tryz.underlying5
 a5:=Tryz.isAgg5
 z5:=Tryz.sizeOf5
 v5:=Tryz.zeroValue5
 t9:=Tryz.underlying9
 a9:=Tryz.isAgg9
 z9:=Tryz.sizeOf9
 v9:=Tryz.zeroValue9
 t21:=Tryz.underlying21
 a21:=Tryz.isAgg21
 z21:=Tryz.sizeOf21
 v21:=Tryz.zeroValue21
 t31:=Tryz.underlying89
 a31:=Tryz.isAgg89
 z31:=Tryz.sizeOf89
 v31:=Tryz.zeroValue89
 t40:=Tryz.underlying257
 a40:=Tryz.isAgg257
 z40:=Tryz.sizeOf257
 v40:=Tryz.zeroValue257
 t46:=Tryz.underlying118
 a46:=Tryz.isAgg118
 z46:=Tryz.sizeOf118
 v46:=Tryz.zeroValue118
 t49:=Tryz.underlying270
 a49:=Tryz.isAgg270
 z49:=Tryz.sizeOf270
 v49:=Tryz.zeroValue270
 t51:=Tryz.underlying164
 a51:=Tryz.isAgg164
 z51:=Tryz.sizeOf164
 v51:=Tryz.zeroValue164
 t119:=Tryz.underlying255
 a119:=Tryz.isAgg255
 z119:=Tryz.sizeOf255
 t141:=Tryz.underlying265
 a141:=Tryz.isAgg265
 z141:=Tryz.sizeOf265
 v141:=Tryz.zeroValue265
 t152:=Tryz.underlying261
 a152:=Tryz.isAgg261
 z152:=Tryz.sizeOf261
 v152:=Tryz.zeroValue261
 t154:=Tryz.underlying263
 a154:=Tryz.isAgg263
 z154:=Tryz.sizeOf263
 v154:=Tryz.zeroValue263
 t193:=Tryz.underlying266
 a193:=Tryz.isAgg266
 z193:=Tryz.sizeOf266
 v193:=Tryz.zeroValue266
 t194:=Tryz.underlying267
 a194:=Tryz.isAgg267
 z194:=Tryz.sizeOf267
 v194:=Tryz.zeroValue267
 t196:=Tryz.underlying269
 a196:=Tryz.isAgg269
 z196:=Tryz.sizeOf269
 v196:=Tryz.zeroValue269
 t198:=Tryz.underlying272
 a198:=Tryz.isAgg272
 z198:=Tryz.sizeOf272
 v198:=Tryz.zeroValue272
 t201:=Tryz.underlying275
 a201:=Tryz.isAgg275
 z201:=Tryz.sizeOf275
 v201:=Tryz.zeroValue275
 t226:=Tryz.underlying277
 a226:=Tryz.isAgg277
 z226:=Tryz.sizeOf277
 v226:=Tryz.zeroValue277
 t227:=Tryz.underlying278
 a227:=Tryz.isAgg278
 z227:=Tryz.sizeOf278
 v227:=Tryz.zeroValue278
 g0:=by kernel_rfl
 g6:=by kernel_rfl
def Qcj : Qch Tryz.prog 166 .u64=true:=by kernel_rfl
def QeE : Qch Tryz.prog 3 .i64=true:=by kernel_rfl
def Qn2 : Qch Tryz.prog 5 .u8=true:=by kernel_rfl
def Cm : UJ Tryz.prog 3 (V.i .i64) (Value.int .i64):=UJ.int (by kernel_rfl)
def QeF : UJ Tryz.prog 9 V.s Value.string:=UJ.str (by kernel_rfl)
def mixed : Tryz.prog.follows .mixedOrders=true:=by kernel_rfl
def GO : PW Tryz.prog 146=some (3,3):=by kernel_rfl
def QaP : PW Tryz.prog 68=some (9,4):=by kernel_rfl
def QlX : PW Tryz.prog 72=some (3,3):=by kernel_rfl
def Qn3 : Go.Shelf.Ren:=⟨λ| 125=>75 | 128=>134 | 129=>135 | 189=>38 | 215=>199 | 216=>131 | 257=>74 | 294=>125 | 295=>126 | 296=>127 | 297=>128 | 298=>129 | 299=>130 | 300=>132 | 301=>133 | 328=>194 | 329=>195 | 330=>196 | 331=>197 | 332=>198 | 343=>239 | n=>n,λ| 0=>0 | 3=>3 | 4=>4 | 5=>5 | 9=>9 | 28=>29 | 46=>118 | 51=>164 | 53=>166 | 131=>73 | 182=>156 | 183=>157 | 218=>204 | 222=>208 | 228=>235 | 229=>236 | n=>n,λn=>n⟩
def QmU : Lays.n189 Tryz.prog Qn3 where
 mixed:=by kernel_rfl
 f125:=Tryz.func75.trans (congrArg some (by kernel_rfl))
 f128:=Tryz.func134.trans (congrArg some (by kernel_rfl))
 f129:=Tryz.func135.trans (congrArg some (by kernel_rfl))
 f189:=Tryz.func38.trans (congrArg some (by kernel_rfl))
 f215:=Tryz.func199.trans (congrArg some (by kernel_rfl))
 f216:=Tryz.func131.trans (congrArg some (by kernel_rfl))
 f257:=Tryz.func74.trans (congrArg some (by kernel_rfl))
 f294:=Tryz.func125.trans (congrArg some (by kernel_rfl))
 f295:=Tryz.func126.trans (congrArg some (by kernel_rfl))
 f296:=Tryz.func127.trans (congrArg some (by kernel_rfl))
 f297:=Tryz.func128.trans (congrArg some (by kernel_rfl))
 f298:=Tryz.func129.trans (congrArg some (by kernel_rfl))
 f299:=Tryz.func130.trans (congrArg some (by kernel_rfl))
 f300:=Tryz.func132.trans (congrArg some (by kernel_rfl))
 f301:=Tryz.func133.trans (congrArg some (by kernel_rfl))
 f328:=Tryz.func194.trans (congrArg some (by kernel_rfl))
 f329:=Tryz.func195.trans (congrArg some (by kernel_rfl))
 f330:=Tryz.func196.trans (congrArg some (by kernel_rfl))
 f331:=Tryz.func197.trans (congrArg some (by kernel_rfl))
 f332:=Tryz.func198.trans (congrArg some (by kernel_rfl))
 f343:=Tryz.func239.trans (congrArg some (by kernel_rfl))
 t0:=Tryz.underlying0
 a0:=Tryz.isAgg0
 z0:=Tryz.sizeOf0
 v0:=Tryz.zeroValue0
 t3:=Tryz.underlying3
 a3:=Tryz.isAgg3
 z3:=Tryz.sizeOf3
 v3:=Tryz.zeroValue3
 t4:=Tryz.underlying4
 a4:=Tryz.isAgg4
 z4:=Tryz.sizeOf4
 v4:=Tryz.zeroValue4
 t5:=Tryz.underlying5
 a5:=Tryz.isAgg5
 z5:=Tryz.sizeOf5
 v5:=Tryz.zeroValue5
 t9:=Tryz.underlying9
 a9:=Tryz.isAgg9
 z9:=Tryz.sizeOf9
 v9:=Tryz.zeroValue9
 t28:=Tryz.underlying29
 a28:=Tryz.isAgg29
 z28:=Tryz.sizeOf29
 v28:=Tryz.zeroValue29
 t46:=Tryz.underlying118
 a46:=Tryz.isAgg118
 z46:=Tryz.sizeOf118
 v46:=Tryz.zeroValue118
 t51:=Tryz.underlying164
 a51:=Tryz.isAgg164
 z51:=Tryz.sizeOf164
 v51:=Tryz.zeroValue164
 t53:=Tryz.underlying166
 a53:=Tryz.isAgg166
 z53:=Tryz.sizeOf166
 v53:=Tryz.zeroValue166
 t131:=Tryz.underlying73
 a131:=Tryz.isAgg73
 z131:=Tryz.sizeOf73
 v131:=Tryz.zeroValue73
 t182:=Tryz.underlying156
 a182:=Tryz.isAgg156
 z182:=Tryz.sizeOf156
 v182:=Tryz.zeroValue156
 t183:=Tryz.underlying157
 a183:=Tryz.isAgg157
 z183:=Tryz.sizeOf157
 v183:=Tryz.zeroValue157
 t218:=Tryz.underlying204
 a218:=Tryz.isAgg204
 z218:=Tryz.sizeOf204
 v218:=Tryz.zeroValue204
 t222:=Tryz.underlying208
 a222:=Tryz.isAgg208
 z222:=Tryz.sizeOf208
 v222:=Tryz.zeroValue208
 t228:=Tryz.underlying235
 a228:=Tryz.isAgg235
 z228:=Tryz.sizeOf235
 v228:=Tryz.zeroValue235
 t229:=Tryz.underlying236
 a229:=Tryz.isAgg236
 z229:=Tryz.sizeOf236
 v229:=Tryz.zeroValue236
def Qpp : Tryz.prog.underlying 102=some (.slice 5):=by kernel_rfl
def Qpq : Tryz.prog.underlying 119=some (.slice 29):=by kernel_rfl
def QpQ : Tryz.prog.underlying 28=some (.slice 59):=by kernel_rfl
def QpR : Tryz.prog.underlying 29=some (.slice 3):=by kernel_rfl
def QpS : Tryz.prog.underlying 59=some (.slice 64):=by kernel_rfl
def QaQ : LJ Tryz.prog 3 ((V.i .i64) 0):=LJ.one (v:=.int .i64 0) (by kernel_rfl)
def Qn4 : LJ Tryz.prog 4 (V.b false):=LJ.one (v:=.bool false) (by kernel_rfl)
def Qqv : XW Tryz.prog 3=some [.i .i64 0]:=by kernel_rfl
def Qqw : XW Tryz.prog 5=some [.i .u8 0]:=by kernel_rfl
def Qqx : XW Tryz.prog 9=some [.s (⟨#[]⟩:ByteArray)]:=by kernel_rfl
def QpT : XW Tryz.prog 26=some [.lit (.slice none 0 0),.lit (.slice none 0 0),.lit (.slice none 0 0),.i .i64 0,.i .i64 0]:=by kernel_rfl
def QpU : XW Tryz.prog 28=some [.lit (.slice none 0 0)]:=by kernel_rfl
def QoB : XW Tryz.prog 29=some [.lit (.slice none 0 0)]:=by kernel_rfl
def QpV : XW Tryz.prog 31=some [.i .i64 0,.lit (.slice none 0 0),.lit (.slice none 0 0),.lit (.slice none 0 0)]:=by kernel_rfl
def QpW : XW Tryz.prog 39=some [.lit (.slice none 0 0)]:=by kernel_rfl
def QpX : XW Tryz.prog 50=some [.i .i64 0,.i .i64 0,.lit (.slice none 0 0)]:=by kernel_rfl
def QpY : XW Tryz.prog 52=some [.i .i64 0,.i .i64 0,.i .i64 0]:=by kernel_rfl
def QpZ : XW Tryz.prog 54=some [.s (⟨#[]⟩:ByteArray),.lit (.slice none 0 0),.i .i64 0,.i .i64 0,.lit (.slice none 0 0),.i .i64 0,.i .i64 0,.lit (.slice none 0 0),.lit (.slice none 0 0),.lit (.slice none 0 0),.i .i64 0,.i .i64 0,.i .i64 0,.i .i64 0]:=by kernel_rfl
def Qp0 : XW Tryz.prog 56=some [.i .i64 0]:=by kernel_rfl
def Qp1 : XW Tryz.prog 59=some [.lit (.slice none 0 0)]:=by kernel_rfl
def Qp2 : XW Tryz.prog 64=some [.i .i64 0,.i .i64 0]:=by kernel_rfl
def Qp3 : XW Tryz.prog 77=some [.i .i64 0,.i .i64 0,.i .i64 0,.lit (.slice none 0 0)]:=by kernel_rfl
def Qp4 : XW Tryz.prog 82=some [.lit (.slice none 0 0),.lit (.slice none 0 0),.lit (.slice none 0 0),.i .i64 0,.i .i64 0,.lit (.slice none 0 0),.s (⟨#[]⟩:ByteArray),.lit (.slice none 0 0),.i .i64 0,.i .i64 0,.lit (.slice none 0 0),.i .i64 0,.i .i64 0,.lit (.slice none 0 0),.lit (.slice none 0 0),.lit (.slice none 0 0),.i .i64 0,.i .i64 0,.i .i64 0,.i .i64 0,.lit (.slice none 0 0)]:=by kernel_rfl
def Qp5 : XW Tryz.prog 91=some [.s (⟨#[]⟩:ByteArray),.i .i64 0,.i .i64 0,.i .i64 0,.lit (.slice none 0 0),.i .i64 0,.i .i64 0]:=by kernel_rfl
def Qp6 : XW Tryz.prog 93=some [.s (⟨#[]⟩:ByteArray),.i .i64 0,.lit (.slice none 0 0)]:=by kernel_rfl
def Qp7 : XW Tryz.prog 97=some [.i .i64 0,.i .i64 0]:=by kernel_rfl
def Qpr : XW Tryz.prog 119=some [.lit (.slice none 0 0)]:=by kernel_rfl
def Qps : XW Tryz.prog 132=some [.s (⟨#[]⟩:ByteArray),.i .i64 0]:=by kernel_rfl
def PJ : XW Tryz.prog 136=some [.lit (.nilFunc),.i .i64 0]:=by kernel_rfl
def Qpt : XW Tryz.prog 183=some [.lit (.nilFunc)]:=by kernel_rfl
def Qpu : XW Tryz.prog 188=some [.lit (.nilFunc)]:=by kernel_rfl
def Qpv : XW Tryz.prog 196=some [.lit (.slice none 0 0),.lit (.slice none 0 0),.i .i64 0]:=by kernel_rfl
def Qpw : XW Tryz.prog 224=some [.lit (.nilFunc)]:=by kernel_rfl
def ZK : Ea:={ ag:=[(3,false),(9,false),(22,false),(23,false),(24,false),(26,true),(28,false),(29,false),(31,true),(32,false),(39,false),(47,false),(48,false),(50,true),(51,false),(52,true),(54,true),(56,false),(59,false),(64,true),(77,true),(82,true),(85,false),(89,false),(91,true),(93,true),(97,true),(119,false),(132,true),(136,true),(146,false),(183,false),(188,false),(191,false),(196,true),(224,false)],sz:=[(3,1),(26,5),(28,1),(29,1),(31,4),(39,1),(50,3),(52,3),(54,14),(56,1),(59,1),(64,2),(77,4),(82,21),(91,7),(93,3),(97,2),(119,1),(132,2),(136,2),(183,1),(188,1),(196,3),(224,1)],fo:=[(26,[0,1,2,3,4]),(31,[0,1,2,3]),(50,[0,1,2]),(54,[0,1,2,5,6,7,8,9,10,11]),(77,[0,1]),(82,[0,5,6,20]),(91,[0,1,2,3,4,5,6]),(93,[0,1,2]),(132,[0,1]),(136,[0,1]),(196,[0,1,2])],sp:=[(26,[(0,1),(1,1),(2,1),(3,1),(4,1)]),(31,[(0,1),(1,1),(2,1),(3,1)]),(50,[(0,1),(1,1),(2,1)]),(54,[(0,1),(1,1),(2,3),(5,1),(6,1),(7,1),(8,1),(9,1),(10,1),(11,3)]),(77,[(0,1),(1,3)]),(82,[(0,5),(5,1),(6,14),(20,1)]),(91,[(0,1),(1,1),(2,1),(3,1),(4,1),(5,1),(6,1)]),(93,[(0,1),(1,1),(2,1)]),(97,[(0,1),(1,1)]),(136,[(0,1),(1,1)]),(196,[(0,1),(1,1),(2,1)])],es:=[(22,(91,7,80)),(23,(93,3,48)),(24,(54,14,200)),(28,(59,1,24)),(29,(3,1,8)),(35,(28,1,24)),(39,(31,4,80)),(47,(132,2,24)),(48,(50,3,40)),(51,(77,4,48)),(59,(64,2,16)),(89,(9,1,16)),(102,(5,1,1)),(119,(29,1,24)),(168,(3,1,8)),(177,(136,2,16))],ar:=[(52,(3,1)),(64,(2,1))],zv:=[(3,[.i .i64 0]),(5,[.i .u8 0]),(9,[.s (⟨#[]⟩:ByteArray)]),(26,[.lit (.slice none 0 0),.lit (.slice none 0 0),.lit (.slice none 0 0),.i .i64 0,.i .i64 0]),(28,[.lit (.slice none 0 0)]),(29,[.lit (.slice none 0 0)]),(31,[.i .i64 0,.lit (.slice none 0 0),.lit (.slice none 0 0),.lit (.slice none 0 0)]),(39,[.lit (.slice none 0 0)]),(50,[.i .i64 0,.i .i64 0,.lit (.slice none 0 0)]),(52,[.i .i64 0,.i .i64 0,.i .i64 0]),(54,[.s (⟨#[]⟩:ByteArray),.lit (.slice none 0 0),.i .i64 0,.i .i64 0,.lit (.slice none 0 0),.i .i64 0,.i .i64 0,.lit (.slice none 0 0),.lit (.slice none 0 0),.lit (.slice none 0 0),.i .i64 0,.i .i64 0,.i .i64 0,.i .i64 0]),(56,[.i .i64 0]),(59,[.lit (.slice none 0 0)]),(64,[.i .i64 0,.i .i64 0]),(77,[.i .i64 0,.i .i64 0,.i .i64 0,.lit (.slice none 0 0)]),(82,[.lit (.slice none 0 0),.lit (.slice none 0 0),.lit (.slice none 0 0),.i .i64 0,.i .i64 0,.lit (.slice none 0 0),.s (⟨#[]⟩:ByteArray),.lit (.slice none 0 0),.i .i64 0,.i .i64 0,.lit (.slice none 0 0),.i .i64 0,.i .i64 0,.lit (.slice none 0 0),.lit (.slice none 0 0),.lit (.slice none 0 0),.i .i64 0,.i .i64 0,.i .i64 0,.i .i64 0,.lit (.slice none 0 0)]),(91,[.s (⟨#[]⟩:ByteArray),.i .i64 0,.i .i64 0,.i .i64 0,.lit (.slice none 0 0),.i .i64 0,.i .i64 0]),(93,[.s (⟨#[]⟩:ByteArray),.i .i64 0,.lit (.slice none 0 0)]),(97,[.i .i64 0,.i .i64 0]),(119,[.lit (.slice none 0 0)]),(132,[.s (⟨#[]⟩:ByteArray),.i .i64 0]),(136,[.lit (.nilFunc),.i .i64 0]),(183,[.lit (.nilFunc)]),(188,[.lit (.nilFunc)]),(196,[.lit (.slice none 0 0),.lit (.slice none 0 0),.i .i64 0]),(224,[.lit (.nilFunc)])],sb:=[9],bo:=[4],cc:=[],en:=[8,9,10,11,12,13,14,15,16,17,18,19,20,21,22,23,25,26,27,28,29,30,31,32,33,34,35,36,37,38,39,40,41,42,43,44,45,46,48,49,50,51,52,53,54,55,56,57,58,59,60,61,62,63,64,65,66,67,68,69,70,71,72,73,76,77,78,79,80,81,82,83,84,85,86,87,88,89,90,92,93,94,95,96,97,98,99,100,101,102,103,104,105,106,107,108,109,110,111,112,113,114,115,116,117,118,119,120,121,122,123,124,136,137,138,139,140,141,142,143,144,145,146,147,148,149,150,151,152,153,154,155,156,157,158,159,160,161,162,163,164,165,166,167,168,169,170,171,172,173,174,175,176,177,178,179,180,181,182,183,184,185,186,187,188,189,190,191,192,193,200,201,202,203,204,205,206,207,208,209,210,211,212,213,214,215,216,217,218,219,220,221,222,223,224,225,226,227,228,229,230,231,232,233,234,235,236,237,238,240,241,242,243,244,245,246,247,248,249,250,251,252,253,254,255,256,257,258,259,260,261,262,263,264,265,266,267,268,269,270,273,274] }
def QN : De Tryz.prog ZK:=Ea.ok (by kernel_rfl) (Wl.2 ⟨Qqv,Wl.2 ⟨Qqw,Wl.2 ⟨Qqx,Wl.2 ⟨QpT,Wl.2 ⟨QpU,Wl.2 ⟨QoB,Wl.2 ⟨QpV,Wl.2 ⟨QpW,Wl.2 ⟨QpX,Wl.2 ⟨QpY,Wl.2 ⟨QpZ,Wl.2 ⟨Qp0,Wl.2 ⟨Qp1,Wl.2 ⟨Qp2,Wl.2 ⟨Qp3,Wl.2 ⟨Qp4,Wl.2 ⟨Qp5,Wl.2 ⟨Qp6,Wl.2 ⟨Qp7,Wl.2 ⟨Qpr,Wl.2 ⟨Qps,Wl.2 ⟨PJ,Wl.2 ⟨Qpt,Wl.2 ⟨Qpu,Wl.2 ⟨Qpv,Wl.2 ⟨Qpw,λ_ h=>(by cases h)⟩⟩⟩⟩⟩⟩⟩⟩⟩⟩⟩⟩⟩⟩⟩⟩⟩⟩⟩⟩⟩⟩⟩⟩⟩⟩)
def QJ {C:Xq}{Q:Exit->St->Prop}{n:Nat}{pt D:Pt}{ks j:L_ Fr}{σ σ1:St}{φ:Prop}(hC:Jo Tryz.prog C n)(ds:L_ Aw)(e:Vm.go Tryz.prog C ZK n ds pt ks σ True=some ⟨D,j,σ1,φ⟩)(hφ:φ)(h:AK Tryz.prog C Q D j σ1):AK Tryz.prog C Q pt ks σ:=AK.go QN hC ds e hφ h
abbrev QBg := L_ (Int×Int)
abbrev QMk := L_ QBg
abbrev LI_ := L_ Int
abbrev QLL := L_ (L_ Int)
abbrev QSB := L_ (ByteArray×Bool)
def U : True:=trivial
def an_ {a b:Prop}(x:a)(y:b):a/\b:=⟨x,y⟩
def ex_ {α:Sort _}{p:α->Prop}(w:α)(h:p w):∃x,p x:=⟨w,h⟩
end Go.Proofs
namespace Go.Vm
open Go Go.RowKit
noncomputable abbrev Aw.K (a b:L_ Nat):Aw:=.keep a b
noncomputable abbrev Aw.S (a:Nat)(b:V):Aw:=.say a b
noncomputable abbrev Aw.O (a:Nat)(b:Ob):Aw:=.sayO a b
noncomputable abbrev Aw.T:Aw:=.br true
noncomputable abbrev Aw.F:Aw:=.br false
noncomputable abbrev Dw.N:Dw:=.a .no none false
noncomputable abbrev Dw.B (h:KU):Dw:=.a h none false
noncomputable abbrev Dw.E (v:V):Dw:=.a .no (some ([],v)) false
noncomputable abbrev V.Y:V:=.lit (.slice none 0 0)
noncomputable abbrev V.I (n:Int):V:=.i .i64 n
noncomputable abbrev V.L (n:Nat):V:=.loc n 0 0
noncomputable abbrev Aw.A (x:L_ V):Aw:=.v .no [] (.agg x)
noncomputable instance dn_ (n:Nat):OfNat Aw n:=⟨.n n⟩
noncomputable abbrev KU.C1 (v:V):KU:=.c false [.d] v
noncomputable abbrev KU.C2 (v:V):KU:=.c false [.d,.d] v
noncomputable abbrev KU.C3 (v:V):KU:=.c false [.d,.d,.d] v
noncomputable abbrev KU.C4 (v:V):KU:=.c false [.d,.d,.d,.d] v
noncomputable abbrev KU.C5 (v:V):KU:=.c false [.d,.d,.d,.d,.d] v
noncomputable abbrev KU.C6 (v:V):KU:=.c false [.d,.d,.d,.d,.d,.d] v
noncomputable abbrev KU.C7 (v:V):KU:=.c false [.d,.d,.d,.d,.d,.d,.d] v
noncomputable abbrev KU.C8 (v:V):KU:=.c false [.d,.d,.d,.d,.d,.d,.d,.d] v
end Go.Vm
namespace Go.Proofs
open Go Go.RowKit Go.Vm Go.Proofs.Tryz
def bg_ {α:Type}{c:Bool}{x y:O_ α}{r:α}{G:Prop}(h:(bif c then x else y)=some r)(f:c=true->x=some r->G)(g:c=false->y=some r->G):G:=by
 cases c
 ·exact g rfl h
 exact f rfl h
noncomputable abbrev lk_ (n:Nat):Nat×V:=(n,.loc n 0 0)
def A {h:Prop}(j:h):True/\h:=⟨trivial,j⟩
def a2_ {h j:Prop}(D:h)(h1:j):(True/\h)/\j:=⟨⟨trivial,D⟩,h1⟩
def a3_ {h j D:Prop}(h0:h)(h1:j)(h2:D):((True/\h)/\j)/\D:=⟨⟨⟨trivial,h0⟩,h1⟩,h2⟩
def a4_ {h j D x3:Prop}(h0:h)(h1:j)(h2:D)(h3:x3):(((True/\h)/\j)/\D)/\x3:=⟨⟨⟨⟨trivial,h0⟩,h1⟩,h2⟩,h3⟩
def a5_ {h j D x3 x4:Prop}(h0:h)(h1:j)(h2:D)(h3:x3)(h4:x4):((((True/\h)/\j)/\D)/\x3)/\x4:=⟨⟨⟨⟨⟨trivial,h0⟩,h1⟩,h2⟩,h3⟩,h4⟩
def a6_ {h j D x3 x4 x5:Prop}(h0:h)(h1:j)(h2:D)(h3:x3)(h4:x4)(h5:x5):(((((True/\h)/\j)/\D)/\x3)/\x4)/\x5:=⟨⟨⟨⟨⟨⟨trivial,h0⟩,h1⟩,h2⟩,h3⟩,h4⟩,h5⟩
def a7_ {h j D x3 x4 x5 x6:Prop}(h0:h)(h1:j)(h2:D)(h3:x3)(h4:x4)(h5:x5)(h6:x6):((((((True/\h)/\j)/\D)/\x3)/\x4)/\x5)/\x6:=⟨⟨⟨⟨⟨⟨⟨trivial,h0⟩,h1⟩,h2⟩,h3⟩,h4⟩,h5⟩,h6⟩
def a8_ {h j D x3 x4 x5 x6 x7:Prop}(h0:h)(h1:j)(h2:D)(h3:x3)(h4:x4)(h5:x5)(h6:x6)(h7:x7):(((((((True/\h)/\j)/\D)/\x3)/\x4)/\x5)/\x6)/\x7:=⟨⟨⟨⟨⟨⟨⟨⟨trivial,h0⟩,h1⟩,h2⟩,h3⟩,h4⟩,h5⟩,h6⟩,h7⟩
def a9_ {h j D x3 x4 x5 x6 x7 x8:Prop}(h0:h)(h1:j)(h2:D)(h3:x3)(h4:x4)(h5:x5)(h6:x6)(h7:x7)(h8:x8):((((((((True/\h)/\j)/\D)/\x3)/\x4)/\x5)/\x6)/\x7)/\x8:=⟨⟨⟨⟨⟨⟨⟨⟨⟨trivial,h0⟩,h1⟩,h2⟩,h3⟩,h4⟩,h5⟩,h6⟩,h7⟩,h8⟩
def aB_ {D x1 x2 x3 x4 x5 x6 x7 x8 x9 h:Prop}(h0:D)(h1:x1)(h2:x2)(h3:x3)(h4:x4)(h5:x5)(h6:x6)(h7:x7)(h8:x8)(h9:x9)(j:h):((((((((((True/\D)/\x1)/\x2)/\x3)/\x4)/\x5)/\x6)/\x7)/\x8)/\x9)/\h:=⟨⟨⟨⟨⟨⟨⟨⟨⟨⟨⟨trivial,h0⟩,h1⟩,h2⟩,h3⟩,h4⟩,h5⟩,h6⟩,h7⟩,h8⟩,h9⟩,j⟩
def aC_ {x0 x1 x2 x3 x4 x5 x6 x7 x8 x9 h j:Prop}(h0:x0)(h1:x1)(h2:x2)(h3:x3)(h4:x4)(h5:x5)(h6:x6)(h7:x7)(h8:x8)(h9:x9)(D:h)(h11:j):(((((((((((True/\x0)/\x1)/\x2)/\x3)/\x4)/\x5)/\x6)/\x7)/\x8)/\x9)/\h)/\j:=⟨⟨⟨⟨⟨⟨⟨⟨⟨⟨⟨⟨trivial,h0⟩,h1⟩,h2⟩,h3⟩,h4⟩,h5⟩,h6⟩,h7⟩,h8⟩,h9⟩,D⟩,h11⟩
def r1_ {α:Type}{a0:α}:a0=a0/\True:=⟨rfl,trivial⟩
def r2_ {α:Type}{a0 h:α}:a0=a0/\h=h/\True:=⟨rfl,rfl,trivial⟩
def r3_ {α:Type}{a0 h j:α}:a0=a0/\h=h/\j=j/\True:=⟨rfl,rfl,rfl,trivial⟩
def r4_ {α:Type}{a0 h j a3:α}:a0=a0/\h=h/\j=j/\a3=a3/\True:=⟨rfl,rfl,rfl,rfl,trivial⟩
def r5_ {α:Type}{a0 h j a3 a4:α}:a0=a0/\h=h/\j=j/\a3=a3/\a4=a4/\True:=⟨rfl,rfl,rfl,rfl,rfl,trivial⟩
def r6_ {α:Type}{a0 h j a3 a4 a5:α}:a0=a0/\h=h/\j=j/\a3=a3/\a4=a4/\a5=a5/\True:=⟨rfl,rfl,rfl,rfl,rfl,rfl,trivial⟩
def rB_ {α:Type}{a0 j D a3 a4 a5 a6 a7 a8 a9 h:α}:a0=a0/\j=j/\D=D/\a3=a3/\a4=a4/\a5=a5/\a6=a6/\a7=a7/\a8=a8/\a9=a9/\h=h/\True:=⟨rfl,rfl,rfl,rfl,rfl,rfl,rfl,rfl,rfl,rfl,rfl,trivial⟩
def rD_ {α:Type}{a0 a1 a2 a3 a4 a5 a6 a7 a8 a9 h j D:α}:a0=a0/\a1=a1/\a2=a2/\a3=a3/\a4=a4/\a5=a5/\a6=a6/\a7=a7/\a8=a8/\a9=a9/\h=h/\j=j/\D=D/\True:=⟨rfl,rfl,rfl,rfl,rfl,rfl,rfl,rfl,rfl,rfl,rfl,rfl,rfl,trivial⟩
def rF_ {α:Type}{a0 a1 a2 a3 a4 a5 a6 a7 a8 a9 h j D a13 a14:α}:a0=a0/\a1=a1/\a2=a2/\a3=a3/\a4=a4/\a5=a5/\a6=a6/\a7=a7/\a8=a8/\a9=a9/\h=h/\j=j/\D=D/\a13=a13/\a14=a14/\True:=⟨rfl,rfl,rfl,rfl,rfl,rfl,rfl,rfl,rfl,rfl,rfl,rfl,rfl,rfl,rfl,trivial⟩
def wk_ {f:FuncId}{fn:Func}{c:Code}{args:L_ V}{hs:L_ (Nat×Ob)}{j:V->L_ (Nat×Ob)->Prop}(n:Nat)(hf:Tryz.prog.funcs[f]? = some fn)(h:∀C:Xq,Jo Tryz.prog C n->AK Tryz.prog C (Zh Tryz.prog fn.results.toList j) (.c c) [] ⟨Mw 0 args,hs⟩)(hb:fn.body=some c:=by rfl)(hn:fn.ntmps=n:=by rfl)(D:(Nat.ble args.length n&&Nat.ble n 617)=true:=by rfl):QP Tryz.prog f args hs j:=QP.walk n hf hb hn D h
def bq_ {C:Xq}{Q:Exit->St->Prop}{n:Nat}{pt p1 p2:Pt}{ks k1 k2:L_ Fr}{σ s1 s2:St}{α:Type}{c:Bool}{x y:O_ α}{r:α}(hC:Jo Tryz.prog C n)(h:(bif c then x else y)=some r)(j:L_ Aw)(e:Vm.go Tryz.prog C ZK n j pt ks σ True=some ⟨p1,k1,s1,True/\c=true⟩)(f:c=true->x=some r->AK Tryz.prog C Q p1 k1 s1)(D:L_ Aw)(e2:Vm.go Tryz.prog C ZK n D pt ks σ True=some ⟨p2,k2,s2,True/\c=false⟩)(g:c=false->y=some r->AK Tryz.prog C Q p2 k2 s2):AK Tryz.prog C Q pt ks σ:=by
 cases c
 ·exact AK.go QN hC D e2 ⟨trivial,rfl⟩ (g rfl h)
 exact AK.go QN hC j e ⟨trivial,rfl⟩ (f rfl h)
def mt_ {C:Xq}{Q:Exit->St->Prop}{ks:L_ Fr}{σ:St}:AK Tryz.prog C Q (.x .normal) (.cut (λs=>s=σ)::ks) σ:=AK.met rfl
def cb_ {a b:Bool}(h:a=b):V.b a=V.b b:=congrArg V.b h
def tc_ {a b:Bool}(h:a=b):True/\V.b a=V.b b:=⟨trivial,congrArg V.b h⟩
def Qkd : Exit->Bool
 | .normal=>true
 | .ret=>true
 | _=>false
def tg_ {C:Xq}{Q:Exit->St->Prop}{n:Nat}{pt D:Pt}{ks j:L_ Fr}{σ σ1:St}(hC:Jo Tryz.prog C n)(ds:L_ Aw)(h:AK Tryz.prog C Q D j σ1)(e:Vm.go Tryz.prog C ZK n ds pt ks σ True=some ⟨D,j,σ1,True⟩:=by rfl):AK Tryz.prog C Q pt ks σ:=AK.go QN hC ds e trivial h
def QhV {c:Bool}{β:Type}{f:Unit->O_ β}{r:β}(h:(chk c).bind f=some r):c=true/\f ()=some r:=by
 obtain⟨_,k,h⟩:=Qw h
 exact⟨QhI k,h⟩
def Z {α:Sort _}{a:α}:a=a:=rfl
def B {α β:Type}{a:O_ α}{k:α->O_ β}{r:β}{G:Prop}(h:a.bind k=some r)(f:∀x,a=some x->k x=some r->G):G:=by
 obtain⟨x,j,D⟩:=Qw h
 exact f x j D
def X {c:Bool}{β:Type}{k:Unit->O_ β}{r:β}{G:Prop}(h:(chk c).bind k=some r)(f:c=true->k ()=some r->G):G:=by
 obtain⟨_,j,D⟩:=Qw h
 exact f (QhI j) D
def I {α:Type}{c:Bool}{x y:O_ α}{r:α}{G:Prop}(h:(bif c then x else y)=some r)(f:c=true->x=some r->G)(g:c=false->y=some r->G):G:=by
 cases c
 ·exact g rfl h
 exact f rfl h
def bO_ (c:Bool){G:Prop}(f:c=true->G)(g:c=false->G):G:=by
 cases c
 ·exact g rfl
 exact f rfl
def toS (σ s:St):O_ St:=match GD σ.fr (s.fr.map Prod.fst)with
 | some a=>match GD σ.hp (s.hp.map Prod.fst)with
  | some b=>bif St.closed ⟨a,b⟩then some ⟨a,b⟩else none
  | none=>none
 | none=>none
def QaR {P:Program}{C:Xq}{Q:Exit->St->Prop}{pt:Pt}{ks:L_ Fr}{σ s:St}(e:toS σ s=some s)(k:AK P C Q pt ks s):AK P C Q pt ks σ:=by
 unfold toS at e
 split at e
 ·rename_i a D
  split at e
  ·rename_i b hb
   replace e:=XJ e
   obtain⟨hc,e⟩:=e
   cases e
   exact AK.weaken (λh w j=>R.to j (Qj6 (ON D)) (Qj7 (ON hb)) hc) k
  cases e
 cases e
section
variable {P:Program}{C:Xq}{Q:Exit->St->Prop}{ks:L_ Fr}{σ:St}{pt:Pt}
def M {s0:St}(e:toS σ s0=some s0):AK P C Q (.x .normal) (.cut (λs=>s=s0)::ks) σ:=QaR e (AK.met rfl)
def Y {c:Code}(s0:St)(f:AK P C Q (.c c) (.cut (λs=>s=s0)::ks) σ)(g:AK P C Q (.x .normal) ks s0):AK P C Q (.c c) ks σ:=AK.meetX _ f λ_ e=>e▸g
def me_ {β:Type}{E:β->St}{K:β->Prop}{v:β}(h:K v)(e:toS σ (E v)=some (E v)):AK P C Q (.x .normal) (.cut (λs=>∃v,s=E v/\K v)::ks) σ:=QaR e (AK.met ⟨v,rfl,h⟩)
def mE_ {β:Type}{x y:Code}(E:β->St)(K:β->Prop)(f:AK P C Q (.c x) (.cut (λs=>∃v,s=E v/\K v)::ks) σ)(g:∀v,K v->AK P C Q (.c y) ks (E v)):AK P C Q (.c (.seq x y)) ks σ:=AK.meet _ f λ_ ⟨v,e,h⟩=>e▸g v h
def rS {τ ρ:Type}(E:τ->St)(X:ρ->Exit×St)(o:τ⊕ρ):Exit->St->Prop:=QjW (λt s=>s=E t) (λq e s=>e=(X q).1/\s=(X q).2) o
def lp_ {τ ρ α:Type}{body:τ->O_ (τ⊕ρ)}{s0:τ}{k:ρ->O_ α}{r:α}{c:Code}(h:(Qs body s0).bind k=some r)(E:τ->St)(X:ρ->Exit×St)(e:toS σ (E s0)=some (E s0))
  (f:∀t o,body t=some o->AK P C (rS E X o) (.c c) [] (E t)) (g:∀q,k q=some r->AK P C Q (.x (X q).1) ks (X q).2):AK P C Q (.c (.loop c)) ks σ:=by
 obtain⟨q,D,h2⟩:=Qw h
 refine QaR e (AK.loop (λt s=>s=E t) (λq e s=>e=(X q).1/\s=(X q).2) D rfl (λt o s j hb=>j▸f t o hb) λe s j=>?_)
 obtain⟨rfl,rfl⟩:=j
 exact g q h2
def lq_ {τ ρ ρ' α:Type}{body:τ->O_ (τ⊕(ρ⊕ρ'))}{s0:τ}{k:ρ⊕ρ'->O_ α}{r:α}{c:Code}(h:(Qs body s0).bind k=some r)(E:τ->St)(X:ρ->Exit×St)(Y:ρ'->Exit×St)(e:toS σ (E s0)=some (E s0))
  (f:∀t o,body t=some o->AK P C (rS E (Sum.elim X Y) o) (.c c) [] (E t)) (g:∀q,k (.inl q)=some r->AK P C Q (.x (X q).1) ks (X q).2) (j:∀q,k (.inr q)=some r->AK P C Q (.x (Y q).1) ks (Y q).2):AK P C Q (.c (.loop c)) ks σ:=
 lp_ h E (Sum.elim X Y) e f λq=>match q with
  | .inl q=>g q
  | .inr q=>j q
def rN_ {τ ρ:Type}{E:τ->St}{X:ρ->Exit×St}{o:τ⊕ρ}{t:τ}(h:some (.inl t)=some o)(e:toS σ (E t)=some (E t)):AK P C (rS E X o) (.x .normal) [] σ:=by
 cases h
 exact QaR e (AK.done ⟨t,rfl,rfl⟩)
def rX_ {τ ρ:Type}{E:τ->St}{X:ρ->Exit×St}{o:τ⊕ρ}{q:ρ}{i:Nat}(h:some (.inr q)=some o)(e:((X q).1,toS σ (X q).2)=(.exit i,some (X q).2)):AK P C (rS E X o) (.x (.exit i)) [] σ:=by
 cases h
 exact QaR (congrArg Prod.snd e) (AK.done ⟨q,rfl,(congrArg Prod.fst e).symm,rfl⟩)
def rR_ {τ ρ:Type}{E:τ->St}{X:ρ->Exit×St}{o:τ⊕ρ}{q:ρ}(h:some (.inr q)=some o)(e:((X q).1,toS σ (X q).2)=(.ret,some (X q).2)):AK P C (rS E X o) (.x .ret) [] σ:=by
 cases h
 exact QaR (congrArg Prod.snd e) (AK.done ⟨q,rfl,(congrArg Prod.fst e).symm,rfl⟩)
def mu_ {s0:St}{K:Prop}(h:K)(e:toS σ s0=some s0):AK P C Q (.x .normal) (.cut (λs=>s=s0/\K)::ks) σ:=QaR e (AK.met ⟨rfl,h⟩)
def mU_ {x y:Code}(s0:St)(K:Prop)(f:AK P C Q (.c x) (.cut (λs=>s=s0/\K)::ks) σ)(g:K->AK P C Q (.c y) ks s0):AK P C Q (.c (.seq x y)) ks σ:=AK.meet _ f λ_ ⟨e,h⟩=>e▸g h
def mf_ {β γ:Type}{E:β->γ->St}{K:β->γ->Prop}{v:β}{u:γ}(h:K v u)(e:toS σ (E v u)=some (E v u)):AK P C Q (.x .normal) (.cut (λs=>∃v u,s=E v u/\K v u)::ks) σ:=QaR e (AK.met ⟨v,u,rfl,h⟩)
def mF_ {β γ:Type}{x y:Code}(E:β->γ->St)(K:β->γ->Prop)(f:AK P C Q (.c x) (.cut (λs=>∃v u,s=E v u/\K v u)::ks) σ)(g:∀v u,K v u->AK P C Q (.c y) ks (E v u)):AK P C Q (.c (.seq x y)) ks σ:=AK.meet _ f λ_ ⟨v,u,e,h⟩=>e▸g v u h
def cS {β:Type}(E:β->St)(v:β)(s:St):Prop:=s=E v
def mq_ {β:Type}{E:β->St}{v u:β}(h:some v=some u)(e:toS σ (E v)=some (E v)):AK P C Q (.x .normal) (.cut (cS E u)::ks) σ:=by
 cases h
 exact QaR e (AK.met rfl)
def mV_ {β α:Type}{c:Code}{a:O_ β}{k:β->O_ α}{r:α}(h:a.bind k=some r)(E:β->St)(f:∀x,a=some x->AK P C Q (.c c) (.cut (cS E x)::ks) σ)(g:∀x,k x=some r->AK P C Q (.x .normal) ks (E x)):AK P C Q (.c c) ks σ:=by
 obtain⟨x,j,D⟩:=Qw h
 exact AK.meetX _ (f x j) λs (e:s=E x)=>e▸g x D
end
def no_ {α:Type}(_:α):L_ (Nat×Ob):=[]
def CT {α:Type}(f:Nat)(us:L_ V)(h:L_ (Nat×Ob))(o:O_ α)(V:α->V)(O:α->L_ (Nat×Ob)):Prop:=∀r,o=some r->QP Tryz.prog f us h (Gives (V r) (O r))
def QlY {α:Type}(h:L_ ResultVar)(V:α->V)(O:α->L_ (Nat×Ob))(r:α):Exit->St->Prop:=Zh Tryz.prog h (Gives (V r) (O r))
def W {α:Type}{f:FuncId}{fn:Func}{c:Code}{args:L_ V}{D:L_ (Nat×Ob)}{o:O_ α}{V:α->V}{O:α->L_ (Nat×Ob)}(n:Nat)(hf:Tryz.prog.funcs[f]? = some fn)(j:(fn.body,fn.ntmps,Nat.ble args.length n&&Nat.ble n 617)=(some c,n,true))(h:∀C:Xq,Jo Tryz.prog C n->∀r,o=some r->AK Tryz.prog C (QlY fn.results.toList V O r) (.c c) [] ⟨Mw 0 args,D⟩):CT f args D o V O:=λ_ e=>QP.walk n hf (congrArg (λx=>x.1) j) (congrArg (λx=>x.2.1) j) (congrArg (λx=>x.2.2) j) λC hC=>h C hC _ e
section
variable {α:Type}{a q:α}{C:Xq}{t u x:Nat}{O:α->L_ (Nat×Ob)}{σ:St}{e:Exit}
def E {r:α->V}(h:some a=some q)(k:(Qkd e,Go.Vm.look σ.fr t)=(true,some (r a)))(hs:EL σ.hp (O a)):AK Tryz.prog C (QlY [.tmp t] r O q) (.x e) [] σ:=by
 have D:=congrArg Prod.fst k
 have j:=congrArg Prod.snd k
 cases h
 cases e<;>first | exact AK.done ⟨[_],⟨j,trivial⟩,gives hs⟩|cases D
def F {v w:V}{r:α->V}(h:some a=some q)(k:(Qkd e,Go.Vm.look σ.fr t,Go.Vm.look σ.fr u)=(true,some v,some w))(h4:r a=.tup [v,w])(hs:EL σ.hp (O a)):AK Tryz.prog C (QlY [.tmp t,.tmp u] r O q) (.x e) [] σ:=by
 have he:=congrArg (λx=>x.1) k
 have j:=congrArg (λx=>x.2.1) k
 have D:=congrArg (λx=>x.2.2) k
 cases h
 cases e<;>first | exact AK.done ⟨[_,_],⟨j,D,trivial⟩,h4▸gives hs⟩|cases he
def e3_ {v w z:V}{r:α->V}(h:some a=some q)(k:(Qkd e,Go.Vm.look σ.fr t,Go.Vm.look σ.fr u,Go.Vm.look σ.fr x)=(true,some v,some w,some z))(h4:r a=.tup [v,w,z])(hs:EL σ.hp (O a)):AK Tryz.prog C (QlY [.tmp t,.tmp u,.tmp x] r O q) (.x e) [] σ:=by
 have he:=congrArg (λx=>x.1) k
 have j:=congrArg (λx=>x.2.1) k
 have D:=congrArg (λx=>x.2.2.1) k
 have h5:=congrArg (λx=>x.2.2.2) k
 cases h
 cases e<;>first | exact AK.done ⟨[_,_,_],⟨j,D,h5,trivial⟩,h4▸gives hs⟩|cases he
end
def G {C:Xq}{Q:Exit->St->Prop}{n:Nat}{pt D:Pt}{ks j:L_ Fr}{σ σ1:St}{φ:Prop}(hC:Jo Tryz.prog C n)(ds:L_ Aw)(e:Vm.go Tryz.prog C ZK n ds pt ks σ True=some ⟨D,j,σ1,φ⟩)(hφ:φ)(h:AK Tryz.prog C Q D j σ1):AK Tryz.prog C Q pt ks σ:=AK.go QN hC ds e hφ h
def H {C:Xq}{Q:Exit->St->Prop}{n:Nat}{pt D:Pt}{ks j:L_ Fr}{σ σ1:St}(hC:Jo Tryz.prog C n)(ds:L_ Aw)(e:Vm.go Tryz.prog C ZK n ds pt ks σ True=some ⟨D,j,σ1,True⟩)(h:AK Tryz.prog C Q D j σ1):AK Tryz.prog C Q pt ks σ:=AK.go QN hC ds e trivial h
def J {C:Xq}{Q:Exit->St->Prop}{n:Nat}{pt D:Pt}{ks j:L_ Fr}{σ σ1:St}{x:Prop}(hC:Jo Tryz.prog C n)(ds:L_ Aw)(e:Vm.go Tryz.prog C ZK n ds pt ks σ True=some ⟨D,j,σ1,True/\x⟩)(a:x)(h:AK Tryz.prog C Q D j σ1):AK Tryz.prog C Q pt ks σ:=G hC ds e ⟨trivial,a⟩ h
def K {C:Xq}{Q:Exit->St->Prop}{n:Nat}{pt D:Pt}{ks j:L_ Fr}{σ σ1:St}{x y:Prop}(hC:Jo Tryz.prog C n)(ds:L_ Aw)(e:Vm.go Tryz.prog C ZK n ds pt ks σ True=some ⟨D,j,σ1,(True/\x)/\y⟩)(a:x)(b:y)(h:AK Tryz.prog C Q D j σ1):AK Tryz.prog C Q pt ks σ:=G hC ds e ⟨⟨trivial,a⟩,b⟩ h
def g3_ {C:Xq}{Q:Exit->St->Prop}{n:Nat}{pt D:Pt}{ks j:L_ Fr}{σ σ1:St}{x y z:Prop}(hC:Jo Tryz.prog C n)(ds:L_ Aw)(e:Vm.go Tryz.prog C ZK n ds pt ks σ True=some ⟨D,j,σ1,((True/\x)/\y)/\z⟩)(a:x)(b:y)(c:z)(h:AK Tryz.prog C Q D j σ1):AK Tryz.prog C Q pt ks σ:=G hC ds e ⟨⟨⟨trivial,a⟩,b⟩,c⟩ h
def g4_ {C:Xq}{Q:Exit->St->Prop}{n:Nat}{pt D:Pt}{ks j:L_ Fr}{σ σ1:St}{x y z u:Prop}(hC:Jo Tryz.prog C n)(ds:L_ Aw)(e:Vm.go Tryz.prog C ZK n ds pt ks σ True=some ⟨D,j,σ1,(((True/\x)/\y)/\z)/\u⟩)(a:x)(b:y)(c:z)(d:u)(h:AK Tryz.prog C Q D j σ1):AK Tryz.prog C Q pt ks σ:=G hC ds e ⟨⟨⟨⟨trivial,a⟩,b⟩,c⟩,d⟩ h
def L {C:Xq}{Q:Exit->St->Prop}{n:Nat}{pt D:Pt}{ks j:L_ Fr}{σ σ1:St}{x y:Bool}(hC:Jo Tryz.prog C n)(ds:L_ Aw)(e:Vm.go Tryz.prog C ZK n ds pt ks σ True=some ⟨D,j,σ1,True/\V.b x=V.b y⟩)(a:x=y)(h:AK Tryz.prog C Q D j σ1):AK Tryz.prog C Q pt ks σ:=G hC ds e ⟨trivial,congrArg V.b a⟩ h
def dr_ {id n:Nat}{C:Xq}{Q:Exit->St->Prop}{ops:Array Oper}{ks:L_ Fr}{base:St}{sf fr:L_ (Nat×V)}{sh hp:L_ (Nat×Ob)}{D:L_ (It×Nat)}{ms:L_ XX}{B:St}{φ:Prop}(hN:Jo Tryz.prog C n)(ds:L_ Dw)(j h ts os:L_ Nat)(hS:(GD base.fr j,GD base.hp h)=(some sf,some sh))(e:Uo Tryz.prog C ZK n ops ⟨sf,sh⟩ ds ops.toList 0 [] [] base True=some ⟨D,ms,B,φ⟩)(hφ:φ)(hf:(GD (LK ms D++B.fr) ts,GD (HE ms D++B.hp) os,St.closed ⟨fr,hp⟩)=(some fr,some hp,true))(k:AK Tryz.prog C Q (.x .normal) ks ⟨fr,hp⟩)(hl:ds.length=ops.size:=by rfl)(hk:okV ops base ⟨sf,sh⟩ ⟨D,ms,B,φ⟩=true:=by kernel_rfl):AK Tryz.prog C Q (.c (.region id ops true)) ks base:=AK.draw2 QN hN mixed ds j h ts os (congrArg (λx=>x.1) hS) (congrArg (λx=>x.2) hS) e hφ hl hk (congrArg (λx=>x.1) hf) (congrArg (λx=>x.2.1) hf) (congrArg (λx=>x.2.2) hf) k
abbrev Qqy (a0 a1:V):L_ V:=[.J,.J,a0,.J,.J,.J,.J,a1,.J,.J,.J,.J,.J]
abbrev Zn (a0:V):L_ V:=[.J,.J,a0,.J,.J,.J,.J,.J,.J,.J,.J,.J,.J]
abbrev Qqz (a0 a1 a2 a3 a4 a5 a6 a7 a8:V):L_ V:=[.J,.J,.J,.J,a0,a1,a2,a3,a4,.J,a5,a6,a7,.J,.J,.J,.J,.J,.J,.J,.J,.J,.J,.J,.J,.J,.J,.J,.J,.J,.J,.J,.J,.J,.J,.J,.J,.J,.J,.J,.J,.J,.J,.J,.J,.J,.J,.J,.J,.J,.J,.J,.J,.J,a8,.J,.J,.J,.J,.J,.J,.J,.J,.J,.J,.J,.J,.J,.J,.J,.J,.J,.J,.J,.J,.J,.J,.J,.J,.J,.J,.J,.J,.J,.J,.J,.J,.J,.J,.J,.J,.J,.J,.J,.J,.J,.J,.J,.J,.J,.J,.J,.J,.J,.J,.J,.J,.J,.J]
abbrev DU (a0 a1 a2 a3 a4 a5 a6 a7:V):L_ V:=[.J,.J,.J,.J,a0,a1,a2,a3,a4,.J,a5,a6,a7,.J,.J,.J,.J,.J,.J,.J,.J,.J,.J,.J,.J,.J,.J,.J,.J,.J,.J,.J,.J,.J,.J,.J,.J,.J,.J,.J,.J,.J,.J,.J,.J,.J,.J,.J,.J,.J,.J,.J,.J,.J,.J,.J,.J,.J,.J,.J,.J,.J,.J,.J,.J,.J,.J,.J,.J,.J,.J,.J,.J,.J,.J,.J,.J,.J,.J,.J,.J,.J,.J,.J,.J,.J,.J,.J,.J,.J,.J,.J,.J,.J,.J,.J,.J,.J,.J,.J,.J,.J,.J,.J,.J,.J,.J,.J,.J]
def Qet  : O_ Qn:=some (Qn.mk ([(QM.mk (⟨#[110]⟩:ByteArray) 2 0 0 ([(⟨#[107]⟩:ByteArray)]:L_ ByteArray) 0 0)]:L_ QM) ([(Xh.mk (⟨#[97]⟩:ByteArray) 0 ([]:QBg)),(Xh.mk (⟨#[98]⟩:ByteArray) 0 ([]:QBg)),(Xh.mk (⟨#[99]⟩:ByteArray) 0 ([]:QBg)),(Xh.mk (⟨#[100]⟩:ByteArray) 0 ([]:QBg))]:L_ Xh) ([(QL.mk (⟨#[117]⟩:ByteArray) ([]:(L_ Yd)) (Qi.mk 1 1 ([]:(L_ Qi))) 1 1 ([(Xk.mk 2 (Qi.mk 1 0 ([]:(L_ Qi))))]:L_ Xk) ([(Xk.mk 1 (Qi.mk 1 0 ([]:(L_ Qi))))]:L_ Xk) ([]:LI_) 0 (0,0,0)),(QL.mk (⟨#[116]⟩:ByteArray) ([]:(L_ Yd)) (Qi.mk 1 1 ([]:(L_ Qi))) 3 1 ([(Xk.mk 0 (Qi.mk 1 0 ([]:(L_ Qi)))),(Xk.mk 1 (Qi.mk 1 0 ([]:(L_ Qi))))]:L_ Xk) ([(Xk.mk 3 (Qi.mk 1 0 ([]:(L_ Qi))))]:L_ Xk) ([]:LI_) 0 (0,0,0))]:L_ QL) 0 3)
def QhW  : CT 26 [] [] (Qet ) (λr=>(.agg (Qa r))) no_:=by
 refine W 33 func26 rfl λC a r h=>?_
 refine QJ a [7,.v .no [none,none,some 3] (.agg (Qm (Qi.mk 1 0 ([]:(L_ Qi))))),2,.O 1 (.var (Qm (Qi.mk 1 0 ([]:(L_ Qi))))),4,.v .no [none,none,some 3] (.agg (Qm (Qi.mk 1 1 ([]:(L_ Qi))))),2,.O 2 (.var (Qm (Qi.mk 1 1 ([]:(L_ Qi))))),4,.v (.bd []) [] (.sl 1 (([(⟨#[107]⟩:ByteArray)]:L_ ByteArray).map Ki)),.A (Qt (QM.mk (⟨#[110]⟩:ByteArray) 2 0 0 ([(⟨#[107]⟩:ByteArray)]:L_ ByteArray) 0 0)),.v (.bd []) [] (.sl 7 (([(QM.mk (⟨#[110]⟩:ByteArray) 2 0 0 ([(⟨#[107]⟩:ByteArray)]:L_ ByteArray) 0 0)]:L_ QM).map Qt)),.v .no [none,none,some 2] (.agg (QK (Xh.mk (⟨#[97]⟩:ByteArray) 0 ([]:QBg)))),.v .no [none,none,some 2] (.agg (QK (Xh.mk (⟨#[98]⟩:ByteArray) 0 ([]:QBg)))),.v .no [none,none,some 2] (.agg (QK (Xh.mk (⟨#[99]⟩:ByteArray) 0 ([]:QBg)))),.v .no [none,none,some 2] (.agg (QK (Xh.mk (⟨#[100]⟩:ByteArray) 0 ([]:QBg)))),.v (.bd []) [] (.sl 3 (([(Xh.mk (⟨#[97]⟩:ByteArray) 0 ([]:QBg)),(Xh.mk (⟨#[98]⟩:ByteArray) 0 ([]:QBg)),(Xh.mk (⟨#[99]⟩:ByteArray) 0 ([]:QBg)),(Xh.mk (⟨#[100]⟩:ByteArray) 0 ([]:QBg))]:L_ Xh).map QK)),.A (Qm (Qi.mk 1 1 ([]:(L_ Qi)))),.A (Qm (Qi.mk 1 0 ([]:(L_ Qi)))),.A (Xa (Xk.mk 2 (Qi.mk 1 0 ([]:(L_ Qi))))),.v (.bd []) [] (.sl 4 (([(Xk.mk 2 (Qi.mk 1 0 ([]:(L_ Qi))))]:L_ Xk).map Xa)),.A (Qm (Qi.mk 1 0 ([]:(L_ Qi)))),.A (Xa (Xk.mk 1 (Qi.mk 1 0 ([]:(L_ Qi))))),.v (.bd []) [] (.sl 4 (([(Xk.mk 1 (Qi.mk 1 0 ([]:(L_ Qi))))]:L_ Xk).map Xa)),.v .no [none,some 2,none,none,none,none,none,none,none,some 1,none,none,none,none] (.agg (Qk (QL.mk (⟨#[117]⟩:ByteArray) ([]:(L_ Yd)) (Qi.mk 1 1 ([]:(L_ Qi))) 1 1 ([(Xk.mk 2 (Qi.mk 1 0 ([]:(L_ Qi))))]:L_ Xk) ([(Xk.mk 1 (Qi.mk 1 0 ([]:(L_ Qi))))]:L_ Xk) ([]:LI_) 0 (0,0,0)))),.A (Qm (Qi.mk 1 1 ([]:(L_ Qi)))),.A (Qm (Qi.mk 1 0 ([]:(L_ Qi)))),.A (Xa (Xk.mk 0 (Qi.mk 1 0 ([]:(L_ Qi))))),.A (Qm (Qi.mk 1 0 ([]:(L_ Qi)))),.A (Xa (Xk.mk 1 (Qi.mk 1 0 ([]:(L_ Qi))))),.v (.bd []) [] (.sl 4 (([(Xk.mk 0 (Qi.mk 1 0 ([]:(L_ Qi)))),(Xk.mk 1 (Qi.mk 1 0 ([]:(L_ Qi))))]:L_ Xk).map Xa)),.A (Qm (Qi.mk 1 0 ([]:(L_ Qi)))),.A (Xa (Xk.mk 3 (Qi.mk 1 0 ([]:(L_ Qi))))),.v (.bd []) [] (.sl 4 (([(Xk.mk 3 (Qi.mk 1 0 ([]:(L_ Qi))))]:L_ Xk).map Xa)),.v .no [none,some 2,none,none,none,none,none,none,none,some 1,none,none,none,none] (.agg (Qk (QL.mk (⟨#[116]⟩:ByteArray) ([]:(L_ Yd)) (Qi.mk 1 1 ([]:(L_ Qi))) 3 1 ([(Xk.mk 0 (Qi.mk 1 0 ([]:(L_ Qi)))),(Xk.mk 1 (Qi.mk 1 0 ([]:(L_ Qi))))]:L_ Xk) ([(Xk.mk 3 (Qi.mk 1 0 ([]:(L_ Qi))))]:L_ Xk) ([]:LI_) 0 (0,0,0)))),.v (.bd []) [] (.sl 14 (([(QL.mk (⟨#[117]⟩:ByteArray) ([]:(L_ Yd)) (Qi.mk 1 1 ([]:(L_ Qi))) 1 1 ([(Xk.mk 2 (Qi.mk 1 0 ([]:(L_ Qi))))]:L_ Xk) ([(Xk.mk 1 (Qi.mk 1 0 ([]:(L_ Qi))))]:L_ Xk) ([]:LI_) 0 (0,0,0)),(QL.mk (⟨#[116]⟩:ByteArray) ([]:(L_ Yd)) (Qi.mk 1 1 ([]:(L_ Qi))) 3 1 ([(Xk.mk 0 (Qi.mk 1 0 ([]:(L_ Qi)))),(Xk.mk 1 (Qi.mk 1 0 ([]:(L_ Qi))))]:L_ Xk) ([(Xk.mk 3 (Qi.mk 1 0 ([]:(L_ Qi))))]:L_ Xk) ([]:LI_) 0 (0,0,0))]:L_ QL).map Qk)),.A (Qa (Qn.mk ([(QM.mk (⟨#[110]⟩:ByteArray) 2 0 0 ([(⟨#[107]⟩:ByteArray)]:L_ ByteArray) 0 0)]:L_ QM) ([(Xh.mk (⟨#[97]⟩:ByteArray) 0 ([]:QBg)),(Xh.mk (⟨#[98]⟩:ByteArray) 0 ([]:QBg)),(Xh.mk (⟨#[99]⟩:ByteArray) 0 ([]:QBg)),(Xh.mk (⟨#[100]⟩:ByteArray) 0 ([]:QBg))]:L_ Xh) ([(QL.mk (⟨#[117]⟩:ByteArray) ([]:(L_ Yd)) (Qi.mk 1 1 ([]:(L_ Qi))) 1 1 ([(Xk.mk 2 (Qi.mk 1 0 ([]:(L_ Qi))))]:L_ Xk) ([(Xk.mk 1 (Qi.mk 1 0 ([]:(L_ Qi))))]:L_ Xk) ([]:LI_) 0 (0,0,0)),(QL.mk (⟨#[116]⟩:ByteArray) ([]:(L_ Yd)) (Qi.mk 1 1 ([]:(L_ Qi))) 3 1 ([(Xk.mk 0 (Qi.mk 1 0 ([]:(L_ Qi)))),(Xk.mk 1 (Qi.mk 1 0 ([]:(L_ Qi))))]:L_ Xk) ([(Xk.mk 3 (Qi.mk 1 0 ([]:(L_ Qi))))]:L_ Xk) ([]:LI_) 0 (0,0,0))]:L_ QL) 0 3)),1,.O 0 (.var (Qa (Qn.mk ([(QM.mk (⟨#[110]⟩:ByteArray) 2 0 0 ([(⟨#[107]⟩:ByteArray)]:L_ ByteArray) 0 0)]:L_ QM) ([(Xh.mk (⟨#[97]⟩:ByteArray) 0 ([]:QBg)),(Xh.mk (⟨#[98]⟩:ByteArray) 0 ([]:QBg)),(Xh.mk (⟨#[99]⟩:ByteArray) 0 ([]:QBg)),(Xh.mk (⟨#[100]⟩:ByteArray) 0 ([]:QBg))]:L_ Xh) ([(QL.mk (⟨#[117]⟩:ByteArray) ([]:(L_ Yd)) (Qi.mk 1 1 ([]:(L_ Qi))) 1 1 ([(Xk.mk 2 (Qi.mk 1 0 ([]:(L_ Qi))))]:L_ Xk) ([(Xk.mk 1 (Qi.mk 1 0 ([]:(L_ Qi))))]:L_ Xk) ([]:LI_) 0 (0,0,0)),(QL.mk (⟨#[116]⟩:ByteArray) ([]:(L_ Yd)) (Qi.mk 1 1 ([]:(L_ Qi))) 3 1 ([(Xk.mk 0 (Qi.mk 1 0 ([]:(L_ Qi)))),(Xk.mk 1 (Qi.mk 1 0 ([]:(L_ Qi))))]:L_ Xk) ([(Xk.mk 3 (Qi.mk 1 0 ([]:(L_ Qi))))]:L_ Xk) ([]:LI_) 0 (0,0,0))]:L_ QL) 0 3))),3,.K [0] [0]] Z ⟨⟨⟨⟨⟨⟨⟨⟨⟨⟨⟨⟨⟨⟨⟨⟨⟨⟨⟨⟨⟨⟨⟨⟨⟨⟨⟨⟨⟨⟨⟨⟨⟨U,Z⟩,Z⟩,Z⟩,Z⟩,Z⟩,Z⟩,Z⟩,Z⟩,Z⟩,Z⟩,Z⟩,Z⟩,Z⟩,Z⟩,Z⟩,Z⟩,Z⟩,Z⟩,Z⟩,Z⟩,Z⟩,Z⟩,Z⟩,Z⟩,Z⟩,Z⟩,Z⟩,Z⟩,Z⟩,Z⟩,Z⟩,Z⟩,Z⟩ ?_
 cases h
 exact AK.done (ex_ [_] (an_ (an_ (ex_ _ (ex_ _ (an_ Z (an_ Z (Or.inl (an_ (QN.ag Z) (an_ (QN.sz Z) Z))))))) U) (gives U)))
def QeG (c:Int)(a:Int)(b:LI_):O_ ((Int×LI_)⊕LI_):=bif (0<=a)then (chk (0<=(Qj (8*a)))).bind λ_=>(chk (b.length+([(IntKind.u8.wrap (YW .i64 c (Qj (8*a))))]:L_ Int).length<=4294967296)).bind λ_=>some (.inl ((Qj (a-1)),(b++([(IntKind.u8.wrap (YW .i64 c (Qj (8*a))))]:L_ Int))))else some (.inr b)
def QeH (b:Int)(a:LI_):O_ ((Int×LI_)⊕LI_):=some (.inl ((Qj (b+1)),a))
def QeI (d:LI_)(a:Int)(b:Int)(e:LI_):O_ ((Int×LI_)⊕LI_):=bif (b<(d.length:Int))then (idx d b).bind λc=>(Qs (λst=>QeG c st.1 st.2) ((Qj (a-1)),e)).bind (λq=>QeH b q)else some (.inr e)
def QeJ (a:LI_):O_ LI_:=some a
def PX (a:Int)(b:LI_):O_ LI_:=(Qs (λst=>QeI b a st.1 st.2) (0,([]:L_ Int))).bind (λq=>QeJ q)
def QeK (a g):CT 113 [.Y,.I a,.sl 1 (g.map Qb)] [] (PX a g) (λr=>(.own 600 r.length)) (λr=>[(600,.arr 1 (r.map YK))]):=
 W 32 func113 Z λC c r h=>g3_ c [9,.o (.ln g.length),4,.adopt 0 22 1,.O 22 (.arr 1 (([]:L_ Int).map YK)),.S 0 (.own 22 ([]:L_ Int).length)] Z Qc Z (congrArg (λn=>V.own 22 n) (by simp))<|lp_ h (λst=>⟨[(0,.own 22 st.2.length),(1,.I a),(10,.sl 1 (g.map Qb)),(11,.I (g.length:Int)),(12,.I st.1)],[(22,.arr 1 (st.2.map YK))]⟩) (λq=>(.exit 0,⟨[(0,.own 22 q.length)],[(22,.arr 1 (q.map YK))]⟩)) Z (λ⟨s,w⟩ o h=>H c [6] Z<|I h (λd h=>B h λb j h=>K c [.T,6,.o (.row (Qb b)),12] Z d (QI j)<|lp_ h (λst=>⟨[(0,.own 22 st.2.length),(1,.I a),(8,.I b),(9,.I st.1),(10,.sl 1 (g.map Qb)),(11,.I (g.length:Int)),(12,.I s)],[(22,.arr 1 (st.2.map YK))]⟩) (λq=>(.exit 2,⟨[(0,.own 22 q.length),(1,.I a),(10,.sl 1 (g.map Qb)),(11,.I (g.length:Int)),(12,.I s)],[(22,.arr 1 (q.map YK))]⟩)) Z (λ⟨e,k⟩ o h=>H c [7] Z<|I h (λf h=>X h λl h=>X h λm h=>G c [.T,9,.o (.any (.I (YW .i64 b (Qj (8*e)))) none),.o (.any (.i .u8 (IntKind.u8.wrap (YW .i64 b (Qj (8*e))))) none),.v (.bd []) [] (.sl 1 (([(IntKind.u8.wrap (YW .i64 b (Qj (8*e))))]:L_ Int).map YK)),.app ((k++([(IntKind.u8.wrap (YW .i64 b (Qj (8*e))))]:L_ Int)).map YK) (k++([(IntKind.u8.wrap (YW .i64 b (Qj (8*e))))]:L_ Int)).length,9] Z (a5_ f (λσ p t _=>Ql.shr Z Z (QZ c.n Z) (p _ _ Z) (p _ _ Z) (Xn l)) (λσ p t _=>Ql.convI Z Z (QZ c.n Z) (p _ _ Z) QeE Qn2) Z ⟨Qc,Yk m Qc,XG,YC Qc⟩)<|rN_ h Z) λf h=>J c [.F,2] Z f<|rX_ h Z) λu h=>H c [7] Z<|rN_ h Z) λd h=>J c [.F,2] Z d<|rX_ h Z) λx h=>H c [9,.K [6] [22],.ren 22 600] Z<|E h Z r1_
def WW (d:QBg)(a:Int)(c:Int):O_ ((Int×Int)⊕(Unit⊕Unit)):=
 bif (c<(d.length:Int))then
 (idx d c).bind λb=>
 bif ((b.1<=a)||((b.2<1)||(1048576<b.2)))then
 some (.inr (.inl ()))
 else
 some (.inl (b.1,(Qj (c+1))))
 else
 some (.inr (.inr ()))
def OO : O_ Bool:=some false
def OP : O_ Bool:=some true
def GE (a:QBg):O_ Bool:=(Qs (λst=>WW a st.1 st.2) ((-1),0)).bind (Sum.elim (λq=>OO) (λq=>OP))
def Iq (i):CT 90 [.sl 2 (i.map Qo)] [] (GE i) V.b no_:=
 W 29 func90 Z λC f r h=>J f [14,.o (.ln i.length),4] Z Qc<|lq_ h (λst=>⟨[(3,.I st.1),(6,.sl 2 (i.map Qo)),(7,.I (i.length:Int)),(8,.I st.2)],[]⟩) (λq=>(.ret,⟨[(2,.b false)],[]⟩)) (λq=>(.exit 0,⟨[],[]⟩)) Z (λ⟨a,l⟩ o h=>H f [6] Z<|I h (λj h=>B h λd k h=>g4_ f [.T,6,.o (.row (Qo d)),.A (Qo d),2,.O 5 (.var (Qo d)),4] Z j (QI k) Z Z<|Y ⟨[lk_ 5,(6,.sl 2 (i.map Qo)),(7,.I (i.length:Int)),(8,.I l),(25,.b ((d.1<=a)||((d.2<1)||(1048576<d.2))))],[(5,.var (Qo d))]⟩ (H f [6] Z<|bO_ (decide (d.1<=a)) (λc=>G f [.S 16 (.b true),10,.S 25 (.b ((d.1<=a)||((d.2<1)||(1048576<d.2))))] Z ⟨(tc_ c),(cb_ (KB c Z))⟩<|M Z) λc=>L f [.S 16 (.b false),5] Z c<|bO_ (decide (d.2<1)) (λe=>G f [.S 21 (.b true),5,.S 25 (.b ((d.1<=a)||((d.2<1)||(1048576<d.2))))] Z ⟨(tc_ e),(cb_ (Yj c (KB e Z)))⟩<|M Z) λe=>G f [.S 21 (.b false),5,.S 25 (.b ((d.1<=a)||((d.2<1)||(1048576<d.2))))] Z ⟨(tc_ e),(cb_ (Yj c (Yj e Z)))⟩<|M Z)<|H f [1] Z<|I h (λg h=>J f [.T,9] Z g<|rR_ h Z) λg h=>J f [.F,13] Z g<|rN_ h Z) λj h=>J f [.F,2] Z j<|rX_ h Z) (λ_ h=>H f [2] Z<|E h Z U) (λ_ h=>H f [8] Z<|E h Z U)
def Uq (c:Int)(a:Int)(b:LI_):O_ ((Int×LI_)⊕LI_):=bif (0<=a)then (chk (0<=(Qj (8*a)))).bind λ_=>(chk (b.length+([(IntKind.u8.wrap (YW .i64 c (Qj (8*a))))]:L_ Int).length<=4294967296)).bind λ_=>some (.inl ((Qj (a-1)),(b++([(IntKind.u8.wrap (YW .i64 c (Qj (8*a))))]:L_ Int))))else some (.inr b)
def SL (b:Int)(a:LI_):O_ ((Int×LI_)⊕LI_):=some (.inl ((Qj (b+1)),a))
def Cn (d:LI_)(a:Int)(b:Int)(e:LI_):O_ ((Int×LI_)⊕LI_):=bif (b<(d.length:Int))then (idx d b).bind λc=>(Qs (λst=>Uq c st.1 st.2) ((Qj (a-1)),e)).bind (λq=>SL b q)else some (.inr e)
def QeL (a:LI_):O_ LI_:=some a
def Af (b:LI_)(a:Int)(c:LI_):O_ LI_:=(Qs (λst=>Cn c a st.1 st.2) (0,b)).bind (λq=>QeL q)
def SM (s a g):CT 113 [.own 615 s.length,.I a,.sl 1 (g.map Qb)] [(615,.arr 1 (s.map YK))] (Af s a g) (λr=>(.own 615 r.length)) (λr=>[(615,.arr 1 (r.map YK))]):=
 W 32 func113 Z λC c r h=>J c [9,.o (.ln g.length),4] Z Qc<|lp_ h (λst=>⟨[(0,.own 615 st.2.length),(1,.I a),(10,.sl 1 (g.map Qb)),(11,.I (g.length:Int)),(12,.I st.1)],[(615,.arr 1 (st.2.map YK))]⟩) (λq=>(.exit 0,⟨[(0,.own 615 q.length)],[(615,.arr 1 (q.map YK))]⟩)) Z (λ⟨t,y⟩ o h=>H c [6] Z<|I h (λd h=>B h λb j h=>K c [.T,6,.o (.row (Qb b)),12] Z d (QI j)<|lp_ h (λst=>⟨[(0,.own 615 st.2.length),(1,.I a),(8,.I b),(9,.I st.1),(10,.sl 1 (g.map Qb)),(11,.I (g.length:Int)),(12,.I t)],[(615,.arr 1 (st.2.map YK))]⟩) (λq=>(.exit 2,⟨[(0,.own 615 q.length),(1,.I a),(10,.sl 1 (g.map Qb)),(11,.I (g.length:Int)),(12,.I t)],[(615,.arr 1 (q.map YK))]⟩)) Z (λ⟨e,k⟩ o h=>H c [7] Z<|I h (λf h=>X h λl h=>X h λm h=>G c [.T,9,.o (.any (.I (YW .i64 b (Qj (8*e)))) none),.o (.any (.i .u8 (IntKind.u8.wrap (YW .i64 b (Qj (8*e))))) none),.v (.bd []) [] (.sl 1 (([(IntKind.u8.wrap (YW .i64 b (Qj (8*e))))]:L_ Int).map YK)),.app ((k++([(IntKind.u8.wrap (YW .i64 b (Qj (8*e))))]:L_ Int)).map YK) (k++([(IntKind.u8.wrap (YW .i64 b (Qj (8*e))))]:L_ Int)).length,9] Z (a5_ f (λσ p u _=>Ql.shr Z Z (QZ c.n Z) (p _ _ Z) (p _ _ Z) (Xn l)) (λσ p u _=>Ql.convI Z Z (QZ c.n Z) (p _ _ Z) QeE Qn2) Z ⟨Qc,Yk m Qc,XG,YC Qc⟩)<|rN_ h Z) λf h=>J c [.F,2] Z f<|rX_ h Z) λw h=>H c [7] Z<|rN_ h Z) λd h=>J c [.F,2] Z d<|rX_ h Z) λx h=>H c [9] Z<|E h Z r1_
def MB (a:QBg):O_ Bool:=(GE a).bind λb=>bif (!b)then some true else bif (65535<(a.length:Int))then some true else bif (0<(a.length:Int))then (idx a (Qj ((a.length:Int)-1))).bind λc=>some (decide (4294967295<c.1))else some false
def Co (b:QBg)(a:Int)(c:LI_):O_ ((Int×LI_)⊕LI_):=bif (a<(b.length:Int))then (idx b a).bind λd=>(Af c 4 ([d.1,d.2]:L_ Int)).bind λe=>some (.inl ((Qj (a+1)),e))else some (.inr c)
def SN (b:Int)(a:LI_):O_ ((Int×LI_)⊕(Unit⊕LI_)):=some (.inl ((Qj (b+1)),a))
def SO (b:LI_)(a:QBg)(e:Int)(c:Bool):O_ ((Int×LI_)⊕(Unit⊕LI_)):=bif c then some (.inr (.inl ()))else (Af b 2 ([(a.length:Int)]:L_ Int)).bind λd=>(Qs (λst=>Co a st.1 st.2) (0,d)).bind (λq=>SN e q)
def Cp (e:QMk)(c:Int)(a:LI_):O_ ((Int×LI_)⊕(Unit⊕LI_)):=bif (c<(e.length:Int))then (idx e c).bind λb=>(MB b).bind (λd=>SO a b c d)else some (.inr (.inr a))
def QeM : O_ (LI_×Int):=some (([]:L_ Int),1)
def QeN (a:LI_):O_ (LI_×Int):=some (a,0)
def CY (a:QMk):O_ (LI_×Int):=bif (64<(a.length:Int))then some (([]:L_ Int),1)else (PX 1 ([(a.length:Int)]:L_ Int)).bind λb=>(Qs (λst=>Cp a st.1 st.2) (0,b)).bind (Sum.elim (λq=>QeM) (λq=>QeN q))
def QeO (f):CT 56 [.sl 1 (f.map Qe)] [] (CY f) (λr=>(.tup [.sl 1 (r.1.map YK),.I r.2])) no_:=
 W 66 func56 Z λC a r h=>J a [10,.o (.ln f.length),3] Z Qc<|I h (λs h=>J a [.T,8,.denil 2 [some 1]] Z s<|F h Z Z U) λs h=>B h λx7 a1 h=>G a [.F,5,.o (.ln f.length),.v (.bd []) [] (.sl 1 (([(f.length:Int)]:L_ Int).map Qb)),.cm (.fn) [] [(15,600)] [] [.d,.d,.d] [(600,.arr 1 (x7.map YK))] (.own 600 x7.length),7,.o (.ln f.length),4] Z (a5_ s Qc Z (QeK _ _ _ a1) Qc)<|lq_ h (λst=>⟨[(4,.own 15 st.2.length),(16,.sl 1 (f.map Qe)),(17,.I (f.length:Int)),(18,.I st.1)],[(15,.arr 1 (st.2.map YK))]⟩) (λq=>(.ret,⟨[(2,.Y),(3,.I 1)],[]⟩)) (λq=>(.exit 0,⟨[(4,.own 15 q.length)],[(15,.arr 1 (q.map YK))]⟩)) Z (λ⟨x9,u⟩ o h=>H a [6] Z<|I h (λg h=>B h λe w h=>K a [.T,6,.o (.row (Qe e)),6] Z g (QI w)<|mV_ h (λt=>⟨[(4,.own 15 u.length),(6,.sl 2 (e.map Qo)),(16,.sl 1 (f.map Qe)),(17,.I (f.length:Int)),(18,.I x9),(44,.b t)],[(15,.arr 1 (u.map YK))]⟩) (λt h=>B h λa2 x h=>J a [2,.o (.C1 (.b a2)),2] Z (Iq _ _ x)<|I h (λi h=>L a [.S 25 (.b true),20] Z i<|mq_ h Z) λi h=>G a [.S 25 (.b false),1,.o (.ln e.length),3] Z ⟨(tc_ i),Qc⟩<|I h (λj h=>L a [.S 30 (.b true),15] Z j<|mq_ h Z) λj h=>G a [.S 30 (.b false),1,.o (.ln e.length),2] Z ⟨(tc_ j),Qc⟩<|I h (λk h=>B h λa3 y h=>G a [.S 34 (.b true),2,.o (.ln e.length),1,.o (.row (Qo a3)),6] Z ⟨⟨(tc_ k),Qc⟩,(QI y)⟩<|mq_ h Z) λk h=>L a [.S 34 (.b false),11] Z k<|mq_ h Z) λt h=>H a [1] Z<|I h (λl h=>J a [.T,10] Z l<|rR_ h Z) λl h=>B h λz D h=>G a [.F,6,.o (.ln e.length),.v (.bd []) [] (.sl 1 (([(e.length:Int)]:L_ Int).map Qb)),.cm (.fn) [(615,15)] [(15,615)] [15] [.d,.d,.d] [(615,.arr 1 (z.map YK))] (.own 615 z.length),6,.o (.ln e.length),4] Z (a5_ l Qc Z (SM _ _ _ _ D) Qc)<|lp_ h (λst=>⟨[(4,.own 15 st.2.length),(16,.sl 1 (f.map Qe)),(17,.I (f.length:Int)),(18,.I x9),(50,.sl 2 (e.map Qo)),(51,.I (e.length:Int)),(52,.I st.1)],[(15,.arr 1 (st.2.map YK))]⟩) (λq=>(.exit 2,⟨[(4,.own 15 q.length),(16,.sl 1 (f.map Qe)),(17,.I (f.length:Int)),(18,.I x9)],[(15,.arr 1 (q.map YK))]⟩)) Z (λ⟨a5,a6⟩ o h=>H a [6] Z<|I h (λm h=>B h λp N h=>B h λP a0 h=>G a [.T,6,.o (.row (Qo p)),.A (Qo p),2,.O 8 (.var (Qo p)),8,.v (.bd []) [] (.sl 1 (([p.1,p.2]:L_ Int).map Qb)),.cm (.fn) [(615,15)] [(15,615)] [15] [.d,.d,.d] [(615,.arr 1 (P.map YK))] (.own 615 P.length),8] Z (a6_ m (QI N) Z Z Z (SM _ _ _ _ a0))<|rN_ h Z) λm h=>J a [.F,2] Z m<|rX_ h Z) λa7 h=>H a [7] Z<|rN_ h Z) λg h=>J a [.F,2] Z g<|rX_ h Z) (λ_ h=>H a [2,.denil 2 [some 1]] Z<|F h Z Z U) (λa4 h=>J a [10,.frz 15 (a4.map YK) [2] []] Z (A (YA Qc))<|F h Z Z U)
def BI (a:QMk):O_ ByteArray:=(CY a).bind λb=>some (Mg b.1)
def NE (e):CT 29 [.sl 1 (e.map Qe)] [] (BI e) V.s no_:=
 W 12 func29 Z λC f r h=>B h λa b h=>K f [8,.o (.C1 (.tup [.sl 1 (a.1.map YK),.I a.2])),10,.o (.any (.s (Mg a.1)) none),4] Z (QeO _ _ b) (λσ g i _=>Ql.b2s Z Z (QZ f.n Z) (g _ _ Z) Z Qpp Qn2 (QN.sb Z))<|E h Z U
def Jx (a:QMk):O_ QMk:=(chk ((([]:L_ QBg).length+a.length)*24<=140737488355328)).bind λ_=>some (([]:L_ QBg)++a)
def Hw (b):CT 57 [.sl 1 (b.map Qe)] [] (Jx b) (λr=>(.own 600 r.length)) (λr=>[(600,.arr 1 (r.map Qe))]):=by
 refine W 8 func57 rfl λC a r h=>?_
 unfold Jx at h
 refine tg_ a [9] ?_
 refine AK.eqNil rfl rfl rfl (QZ a.n rfl) rfl rfl QpQ ?_ ?_
 ·intro c
  replace h:some ([]:L_ QBg)=some r:=by simpa[chk,List.map_eq_nil_iff.1 c] using h
  exact K a [10,.adopt 2 600 1,.O 600 (.arr 1 (([]:L_ QBg).map Qe)),.S 2 (.own 600 ([]:L_ QBg).length)] Z Z Z<|E h Z r1_
 exact X h λd h=>g3_ a [8,.O 5 (.arr 1 (([]:L_ QBg).map Qe)),.S 5 (.own 5 ([]:L_ QBg).length),1,.x (λσ=>σ.app 5 1 7 (([]:L_ QBg)++b).length ((([]:L_ QBg)++b).map Qe)),4,.K [2] [5],.ren 5 600] Z Z Z (Ql.appSB (by_:=24) (zs:=[.Y]) (e:=59) (e':=59) (z':=1) (by':=24) Z Z (QZ a.n Z) Z Z Z Qc (by kernel_rfl) (by kernel_rfl) (by kernel_rfl) Z (by decide) (by decide) (Qdk d Qc) Z XG (YC Qc))<|E h Z r1_
def KV (a:QBg):O_ QBg:=(chk ((([]:L_ (Int×Int)).length+a.length)*16<=140737488355328)).bind λ_=>some (([]:L_ (Int×Int))++a)
def Nr (b):CT 58 [.sl 2 (b.map Qo)] [] (KV b) (λr=>(.own 600 r.length)) (λr=>[(600,.arr 2 (r.map Qo))]):=by
 refine W 8 func58 rfl λC a r h=>?_
 unfold KV at h
 refine tg_ a [9] ?_
 refine AK.eqNil rfl rfl rfl (QZ a.n rfl) rfl rfl QpS ?_ ?_
 ·intro c
  replace h:some ([]:L_ (Int×Int))=some r:=by simpa[chk,List.map_eq_nil_iff.1 c] using h
  exact K a [10,.adopt 2 600 2,.O 600 (.arr 2 (([]:L_ (Int×Int)).map Qo)),.S 2 (.own 600 ([]:L_ (Int×Int)).length)] Z Z Z<|E h Z r1_
 exact X h λd h=>g3_ a [8,.O 5 (.arr 2 (([]:L_ (Int×Int)).map Qo)),.S 5 (.own 5 ([]:L_ (Int×Int)).length),1,.x (λσ=>σ.app 5 2 7 (([]:L_ (Int×Int))++b).length ((([]:L_ (Int×Int))++b).map Qo)),4,.K [2] [5],.ren 5 600] Z Z Z (Ql.appSB (by_:=16) (zs:=[.I 0,.I 0]) (e:=64) (e':=64) (z':=2) (by':=16) Z Z (QZ a.n Z) Z Z Z Qc (by kernel_rfl) (by kernel_rfl) (by kernel_rfl) Z (by decide) (by decide) (Qdk d Qc) Z XG (YC Qc))<|E h Z r1_
def Ir (e:QMk)(a:Int)(b:QMk):O_ ((Int×QMk)⊕QMk):=bif (a<(e.length:Int))then (idx b a).bind λc=>(KV c).bind λd=>(idx b a).bind λf=>some (.inl ((Qj (a+1)),(b.set a.toNat d)))else some (.inr b)
def QhX (a:QMk):O_ QMk:=some a
def LM (b:QMk):O_ QMk:=(Jx b).bind λa=>(Qs (λst=>Ir a st.1 st.2) (0,a)).bind (λq=>QhX q)
def ZL (s):CT 30 [.sl 1 (s.map Qe)] [] (LM s) (λr=>(.own 600 r.length)) (λr=>[(600,.arr 1 (r.map Qe))]):=
 W 22 func30 Z λC f r h=>B h λi j h=>J f [8,.o (.co false [.d] 1 (i.map Qe) i.length),12] Z ⟨(Hw _ _ j),Qc,.inl Z⟩<|lp_ h (λst=>⟨[(3,.own 7 st.2.length),(8,.own 7 st.2.length),(9,.I (i.length:Int)),(10,.I st.1)],[(7,.arr 1 (st.2.map Qe))]⟩) (λq=>(.exit 0,⟨[(3,.own 7 q.length)],[(7,.arr 1 (q.map Qe))]⟩)) Z (λ⟨k,l⟩ o h=>H f [6] Z<|I h (λb h=>B h λm c h=>B h λa g h=>B h λp e h=>G f [.T,8,.o (.row (Qe m)),8,.o (.co false [.d] 2 (a.map Qo) a.length),1,.frz 18 (a.map Qo) [18] [],.st (Qe p) ((l.set k.toNat a).map Qe),7,.S 3 (.own 7 (l.set k.toNat a).length),.S 8 (.own 7 (l.set k.toNat a).length)] Z (a9_ b (Yv c Z) (XO (Ys c).2) ⟨(Nr _ _ g),Qc,.inl Z⟩ (Yv e Z) (A (YA Qc)) ⟨(XO (Ys e).2),BC Z⟩ (congrArg (λn=>V.own 7 n) (by simp)) (congrArg (λn=>V.own 7 n) (by simp)))<|rN_ h Z) λb h=>J f [.F,2] Z b<|rX_ h Z) λt h=>H f [9,.K [2] [7],.ren 7 600] Z<|E h Z r1_
def ED (a:QLL):O_ QLL:=some a
def Qdq (b:Int)(a:Int)(c:LI_):O_ ((Int×LI_)⊕LI_):=bif (a<b)then (chk (c.length+([a]:L_ Int).length<=4294967296)).bind λ_=>some (.inl ((Qj (a+1)),(c++([a]:L_ Int))))else some (.inr c)
def Qdr (a:LI_):O_ QLL:=some ([a]:L_ LI_)
def Qds (b:Int)(a:Int)(c:QLL):O_ ((Int×QLL)⊕QLL):=bif (a<b)then (chk (c.length+([([a]:L_ Int)]:L_ LI_).length<=4294967296)).bind λ_=>some (.inl ((Qj (a+1)),(c++([([a]:L_ Int)]:L_ LI_))))else some (.inr c)
def Qdt (a:QLL):O_ QLL:=ED a
def Lf (a:Int)(b:LI_):O_ ((Int×LI_)⊕LI_):=some (.inl ((Qj (a+1)),b))
def Qdu (c:Int)(h:Int)(a:Int)(b:LI_):O_ ((Int×LI_)⊕LI_):=bif (a<c)then (chk (0<=a)).bind λ_=>bif ((Dh .i64 (YW .i64 h a) 1)==1)then (chk (b.length+([a]:L_ Int).length<=4294967296)).bind λ_=>Lf a (b++([a]:L_ Int))else Lf a b else some (.inr b)
def Qdv (a:QLL)(h:Int)(b:LI_):O_ ((Int×QLL)⊕QLL):=(chk (a.length+([b]:L_ LI_).length<=4294967296)).bind λ_=>some (.inl ((Qj (h+1)),(a++([b]:L_ LI_))))
def Qdw (a:Int)(h:Int)(b:QLL):O_ ((Int×QLL)⊕QLL):=(chk (0<=a)).bind λ_=>bif (h<(QlQ .i64 1 a))then (Qs (λst=>Qdu a h st.1 st.2) (0,([]:L_ Int))).bind (λq=>Qdv b h q)else some (.inr b)
def Qck (a:QLL):O_ QLL:=ED a
def Yx (b:Int)(a:Int):O_ QLL:=
 bif ((a<0)||((16<a)||((b==3)&&(4<a))))then
 some ([]:L_ LI_)
 else
 bif (b==1)then
 (Qs (λst=>Qdq a st.1 st.2) (0,([]:L_ Int))).bind (λq=>Qdr q)
 else
 bif (b==2)then
 (Qs (λst=>Qds a st.1 st.2) (0,([]:L_ LI_))).bind (λq=>Qdt q)
 else
 bif (b==3)then
 (Qs (λst=>Qdw a st.1 st.2) (1,([]:L_ LI_))).bind (λq=>Qck q)
 else
 ED ([]:L_ LI_)
def Lg (d a):CT 76 [.I d,.I a] [] (Yx d a) (λr=>(.own 600 r.length)) (λr=>[(600,.arr 1 (r.map Qz))]):=
 W 79 func76 Z λC c r h=>H c [7] Z<|Y ⟨[(0,.I d),(1,.I a),(25,.b ((a<0)||((16<a)||((d==3)&&(4<a)))))],[]⟩ (H c [4] Z<|bO_ (decide (a<0)) (λf=>G c [.S 14 (.b true),12,.S 25 (.b ((a<0)||((16<a)||((d==3)&&(4<a)))))] Z ⟨(tc_ f),(cb_ (KB f Z))⟩<|M Z) λf=>L c [.S 14 (.b false),4] Z f<|bO_ (decide (16<a)) (λi=>G c [.S 18 (.b true),8,.S 25 (.b ((a<0)||((16<a)||((d==3)&&(4<a)))))] Z ⟨(tc_ i),(cb_ (Yj f (KB i Z)))⟩<|M Z) λi=>L c [.S 18 (.b false),3] Z i<|bO_ (d==3) (λj=>G c [.S 21 (.b true),5,.S 25 (.b ((a<0)||((16<a)||((d==3)&&(4<a)))))] Z ⟨(tc_ j),(cb_ (Yj f (Yj i (XL j Z))))⟩<|M Z) λj=>G c [.S 21 (.b false),5,.S 25 (.b ((a<0)||((16<a)||((d==3)&&(4<a)))))] Z ⟨(tc_ j),(cb_ (Yj f (Yj i (Yp j Z))))⟩<|M Z)<|H c [1] Z<|I h (λP h=>g3_ c [.T,7,.adopt 4 600 1,.O 600 (.arr 1 (([]:L_ LI_).map Qz)),.S 4 (.own 600 ([]:L_ LI_).length)] Z P Z Z<|E h Z r1_) λP h=>J c [.F,7] Z P<|mE_ (λk:QLL=>⟨[(5,.own 604 k.length)],[(604,.arr 1 (k.map Qz))]⟩) (λk=>ED k=some r) (H c [12] Z<|I h (λl h=>g3_ c [.T,13,.adopt 6 33 1,.O 33 (.arr 1 (([]:L_ Int).map Qb)),.S 6 (.own 33 ([]:L_ Int).length)] Z l Z (congrArg (λn=>V.own 33 n) (by simp))<|lp_ h (λst=>⟨[(6,.own 33 st.2.length),(29,.I a),(30,.I st.1)],[(33,.arr 1 (st.2.map Qb))]⟩) (λq=>(.exit 1,⟨[(6,.own 33 q.length)],[(33,.arr 1 (q.map Qb))]⟩)) Z (λ⟨a0,a2⟩ o h=>H c [6] Z<|I h (λm h=>X h λa3 h=>g3_ c [.T,13,.v (.bd []) [] (.sl 1 (([a0]:L_ Int).map Qb)),.app ((a2++([a0]:L_ Int)).map Qb) (a2++([a0]:L_ Int)).length,8] Z m Z ⟨Qc,Yk a3 Qc,XG,YC Qc⟩<|rN_ h Z) λm h=>J c [.F,2] Z m<|rX_ h Z) λa1 h=>g3_ c [5,.frz 33 (a1.map Qb) [6,38] [],1,.O 39 (.arr 1 (([a1]:L_ LI_).map Qz)),.S 39 (.own 39 ([a1]:L_ LI_).length),6,.K [4] [39],.ren 39 600] Z (a2_ (YA Qc) (YA Qc)) Z Z<|E h Z r1_) λl h=>J c [.F,6] Z l<|I h (λp h=>g3_ c [.T,7,.adopt 5 46 1,.O 46 (.arr 1 (([]:L_ LI_).map Qz)),.S 5 (.own 46 ([]:L_ LI_).length)] Z p Z (congrArg (λn=>V.own 46 n) (by simp))<|lp_ h (λst=>⟨[(5,.own 46 st.2.length),(42,.I a),(43,.I st.1)],[(46,.arr 1 (st.2.map Qz))]⟩) (λq=>(.exit 3,⟨[(5,.own 46 q.length)],[(46,.arr 1 (q.map Qz))]⟩)) Z (λ⟨z,a4⟩ o h=>H c [6] Z<|I h (λs h=>X h λa5 h=>g4_ c [.T,13,.v (.bd []) [] (.sl 1 (([z]:L_ Int).map Qb)),.v (.bd []) [] (.sl 1 (([([z]:L_ Int)]:L_ LI_).map Qz)),.app ((a4++([([z]:L_ Int)]:L_ LI_)).map Qz) (a4++([([z]:L_ Int)]:L_ LI_)).length,8] Z s Z Z ⟨Qc,Yk a5 Qc,XG,YC Qc⟩<|rN_ h Z) λs h=>J c [.F,2] Z s<|rX_ h Z) λb1 h=>H c [2,.ren 46 604] Z<|me_ h Z) λp h=>J c [.F,6] Z p<|I h (λt h=>g3_ c [.T,6,.adopt 5 74 1,.O 74 (.arr 1 (([]:L_ LI_).map Qz)),.S 5 (.own 74 ([]:L_ LI_).length)] Z t Z (congrArg (λn=>V.own 74 n) (by simp))<|lp_ h (λst=>⟨[(1,.I a),(5,.own 74 st.2.length),(9,.I st.1)],[(74,.arr 1 (st.2.map Qz))]⟩) (λq=>(.exit 5,⟨[(5,.own 74 q.length)],[(74,.arr 1 (q.map Qz))]⟩)) Z (λ⟨set_33,e⟩ o h=>X h λa6 h=>J c [5,.o (.any (.I (QlQ .i64 1 a)) none),3] Z (λσ N h2 _=>Ql.shl Z Z (QZ c.n Z) (N _ _ Z) (N _ _ Z) (Xn a6))<|I h (λu h=>g3_ c [.T,17,.adopt 10 69 1,.O 69 (.arr 1 (([]:L_ Int).map Qb)),.S 10 (.own 69 ([]:L_ Int).length)] Z u Z (congrArg (λn=>V.own 69 n) (by simp))<|lp_ h (λst=>⟨[(1,.I a),(5,.own 74 e.length),(9,.I set_33),(10,.own 69 st.2.length),(60,.I a),(61,.I st.1)],[(69,.arr 1 (st.2.map Qb)),(74,.arr 1 (e.map Qz))]⟩) (λq=>(.exit 7,⟨[(1,.I a),(5,.own 74 e.length),(9,.I set_33),(10,.own 69 q.length)],[(69,.arr 1 (q.map Qb)),(74,.arr 1 (e.map Qz))]⟩)) Z (λ⟨g,a7⟩ o h=>H c [6] Z<|I h (λw h=>J c [.T,2] Z w<|mE_ (λx:LI_=>⟨[(1,.I a),(5,.own 74 e.length),(9,.I set_33),(10,.own 69 x.length),(60,.I a),(61,.I g)],[(69,.arr 1 (x.map Qb)),(74,.arr 1 (e.map Qz))]⟩) (λx=>Lf g x=some o) (X h λa8 h=>K c [11,.o (.any (.I (YW .i64 set_33 g)) none),.o (.any (.I (Dh .i64 (YW .i64 set_33 g) 1)) none),3] Z (λσ N h2 _=>Ql.shr Z Z (QZ c.n Z) (N _ _ Z) (N _ _ Z) (Xn a8)) (λσ N h2 _=>Ql.andB Z Z (QZ c.n Z) (N _ _ Z) (N _ _ Z))<|I h (λy h=>X h λa9 h=>g3_ c [.T,3,.v (.bd []) [] (.sl 1 (([g]:L_ Int).map Qb)),.app ((a7++([g]:L_ Int)).map Qb) (a7++([g]:L_ Int)).length,3] Z y Z ⟨Qc,Yk a9 Qc,XG,YC Qc⟩<|me_ h Z) λy h=>J c [.F,2] Z y<|me_ h Z) λx h=>H c [4] Z<|rN_ h Z) λw h=>J c [.F,2] Z w<|rX_ h Z) λD h=>X h λb0 h=>g3_ c [5,.frz 69 (D.map Qb) [10,75] [],.v (.bd []) [] (.sl 1 (([D]:L_ LI_).map Qz)),.app ((e++([D]:L_ LI_)).map Qz) (e++([D]:L_ LI_)).length,9] Z (a2_ (YA Qc) (YA Qc)) Z ⟨Qc,Yk b0 Qc,XG,YC Qc⟩<|rN_ h Z) λu h=>J c [.F,2] Z u<|rX_ h Z) λb2 h=>H c [2,.ren 74 604] Z<|me_ h Z) λt h=>g3_ c [.F,2,.adopt 5 604 1,.O 604 (.arr 1 (([]:L_ LI_).map Qz)),.S 5 (.own 604 ([]:L_ LI_).length)] Z t Z (congrArg (λn=>V.own 604 n) (by simp))<|me_ h Z) λk h=>H c [7,.K [4] [604],.ren 604 600] Z<|E h Z r1_
def Vs (a:Qn)(b:QL):O_ (Qn×QL):=some (a,b)
def Qcl (a b):CT 77 [.agg (Qa a),.agg (Qk b)] [] (Vs a b) (λ_=>(.clo (.func 136) [] [.L 3,.L 2])) (λr=>[(2,.var (Qa r.1)),(3,.var (Qk r.2))]):=
 W 6 func77 Z λC c r h=>H c [14] Z<|E h Z r2_
def Yn (a:LI_):O_ LI_:=(chk ((([]:L_ Int).length+a.length)*8<=140737488355328)).bind λ_=>some (([]:L_ Int)++a)
def Kq (b):CT 81 [.sl 1 (b.map Qb)] [] (Yn b) (λr=>(.own 600 r.length)) (λr=>[(600,.arr 1 (r.map Qb))]):=by
 refine W 8 func81 rfl λC a r h=>?_
 unfold Yn at h
 refine tg_ a [9] ?_
 refine AK.eqNil rfl rfl rfl (QZ a.n rfl) rfl rfl QpR ?_ ?_
 ·intro c
  replace h:some ([]:L_ Int)=some r:=by simpa[chk,List.map_eq_nil_iff.1 c] using h
  exact K a [10,.adopt 2 600 1,.O 600 (.arr 1 (([]:L_ Int).map Qb)),.S 2 (.own 600 ([]:L_ Int).length)] Z Z Z<|E h Z r1_
 exact X h λd h=>g3_ a [8,.O 5 (.arr 1 (([]:L_ Int).map Qb)),.S 5 (.own 5 ([]:L_ Int).length),1,.x (λσ=>σ.app 5 1 7 (([]:L_ Int)++b).length ((([]:L_ Int)++b).map Qb)),4,.K [2] [5],.ren 5 600] Z Z Z (Ql.appSB (by_:=8) (zs:=[.I 0]) (e:=3) (e':=3) (z':=1) (by':=8) Z Z (QZ a.n Z) Z Z Z Qc (by kernel_rfl) (by kernel_rfl) (by kernel_rfl) Z (by decide) (by decide) (Qdk d Qc) Z XG (YC Qc))<|E h Z r1_
def Ag (a:Int)(b:Int):O_ Int:=bif (b<a)then some 0 else some (Qj ((Qj (min2 (IntKind.u64.wrap ((IntKind.u64.wrap b)-(IntKind.u64.wrap a))) 1024))+1))
def QeP (a b):CT 264 [.I a,.I b] [] (Ag a b) V.I no_:=
 W 16 func264 Z λC d r h=>H d [13] Z<|I h (λc h=>J d [.T,7] Z c<|E h Z U) λc h=>g4_ d [.F,5,.o (.any (.i .u64 (IntKind.u64.wrap b)) none),1,.o (.any (.i .u64 (IntKind.u64.wrap a)) none),2,.o (.any (.I (Qj (min2 (IntKind.u64.wrap ((IntKind.u64.wrap b)-(IntKind.u64.wrap a))) 1024))) none),5] Z c (λσ e f _=>Ql.convI Z Z (QZ d.n Z) (e _ _ Z) QeE Qcj) (λσ e f _=>Ql.convI Z Z (QZ d.n Z) (e _ _ Z) QeE Qcj) (λσ e f _=>Ql.convI Z Z (QZ d.n Z) (e _ _ Z) Qcj QeE)<|E h Z U
def Ed (a:Int):O_ Bool:=
 some (bif (97<=a)then((a<=122)||((65<=a)&&(a<=90)))else((65<=a)&&(a<=90)))
def PK (a):CT 251 [.i .u8 a] [] (Ed a) V.b no_:=
 W 17 func251 Z λC e r h=>H e [6] Z<|Y ⟨[(2,.b (bif (97<=a)then((a<=122)||((65<=a)&&(a<=90)))else((65<=a)&&(a<=90))))],[]⟩ (H e [4] Z<|bO_ (decide (97<=a)) (λc=>L e [.S 5 (.b true),4] Z c<|bO_ (decide (a<=122)) (λd=>G e [.S 9 (.b true),9,.S 2 (.b (bif (97<=a)then((a<=122)||((65<=a)&&(a<=90)))else((65<=a)&&(a<=90))))] Z ⟨(tc_ d),(cb_ (My c (KB d Z)))⟩<|M Z) λd=>L e [.S 9 (.b false),3] Z d<|bO_ (decide (65<=a)) (λf=>G e [.S 12 (.b true),6,.S 2 (.b (bif (97<=a)then((a<=122)||((65<=a)&&(a<=90)))else((65<=a)&&(a<=90))))] Z ⟨(tc_ f),(cb_ (My c (Yj d (XL f Z))))⟩<|M Z) λf=>G e [.S 12 (.b false),6,.S 2 (.b (bif (97<=a)then((a<=122)||((65<=a)&&(a<=90)))else((65<=a)&&(a<=90))))] Z ⟨(tc_ f),(cb_ (My c (Yj d (Yp f Z))))⟩<|M Z) λc=>L e [.S 5 (.b false),7] Z c<|bO_ (decide (65<=a)) (λg=>G e [.S 12 (.b true),6,.S 2 (.b (bif (97<=a)then((a<=122)||((65<=a)&&(a<=90)))else((65<=a)&&(a<=90))))] Z ⟨(tc_ g),(cb_ (Zj c (XL g Z)))⟩<|M Z) λg=>G e [.S 12 (.b false),6,.S 2 (.b (bif (97<=a)then((a<=122)||((65<=a)&&(a<=90)))else((65<=a)&&(a<=90))))] Z ⟨(tc_ g),(cb_ (Zj c (Yp g Z)))⟩<|M Z)<|H e [2] Z<|E h Z U
def Cq (a:ByteArray):O_ Bool:=bif (JF a (⟨#[]⟩:ByteArray))then some true else bif (32<(a.size:Int))then some true else (sidx a 0).bind λb=>(Ed b).bind λc=>some (!c)
def MC (a:Int):O_ Bool:=(Ed a).bind λb=>bif (!b)then bif (a<48)then some (a != 95)else bif (57<a)then some (a != 95)else some false else some false
def ME (a:Int)(b:Bool):O_ (Int⊕(Unit⊕Unit)):=bif b then some (.inr (.inl ()))else some (.inl (Qj (a+1)))
def Gh (d:ByteArray)(a:Int):O_ (Int⊕(Unit⊕Unit)):=bif (a<(d.size:Int))then (sidx d a).bind λb=>(MC b).bind (λc=>ME a c)else some (.inr (.inr ()))
def MF : O_ Bool:=some false
def MG : O_ Bool:=some true
def MH (a:ByteArray)(b:Bool):O_ Bool:=bif b then some false else (Qs (λst=>Gh a st) 0).bind (Sum.elim (λq=>MF) (λq=>MG))
def WF (a:ByteArray):O_ Bool:=(Cq a).bind (λb=>MH a b)
def MI (l):CT 208 [.s l] [] (WF l) V.b no_:=
 W 42 func208 Z λC a r h=>H a [7] Z<|mV_ h (λw=>⟨[(0,.s l),(17,.b w)],[]⟩) (λw h=>H a [4] Z<|I h (λm h=>L a [.S 7 (.b true),11] Z m<|mq_ h Z) λm h=>L a [.S 7 (.b false),5] Z m<|I h (λp h=>L a [.S 12 (.b true),6] Z p<|mq_ h Z) λp h=>B h λO x h=>B h λP y h=>G a [.S 12 (.b false),1,.o (.num O),.o (.C1 (.b P)),3] Z ⟨⟨(tc_ p),x⟩,(PK _ _ y)⟩<|mq_ h Z) λw h=>H a [1] Z<|I h (λe h=>J a [.T,7] Z e<|E h Z U) λe h=>J a [.F,11] Z e<|lq_ h (λst=>⟨[(0,.s l),(19,.I (l.size:Int)),(20,.I st)],[]⟩) (λq=>(.ret,⟨[(2,.b false)],[]⟩)) (λq=>(.exit 0,⟨[],[]⟩)) Z (λz o h=>H a [6] Z<|I h (λf h=>B h λD u h=>K a [.T,14,.o (.num D),4] Z f u<|mV_ h (λt=>⟨[(0,.s l),(19,.I (l.size:Int)),(20,.I z),(40,.b t)],[]⟩) (λt h=>B h λN v h=>J a [2,.o (.C1 (.b N)),2] Z (PK _ _ v)<|I h (λg h=>L a [.S 29 (.b true),3] Z g<|I h (λi h=>L a [.S 32 (.b true),9] Z i<|mq_ h Z) λi h=>L a [.S 32 (.b false),5] Z i<|I h (λj h=>L a [.S 37 (.b true),4] Z j<|mq_ h Z) λj h=>L a [.S 37 (.b false),4] Z j<|mq_ h Z) λg h=>L a [.S 29 (.b false),12] Z g<|mq_ h Z) λt h=>H a [1] Z<|I h (λk h=>J a [.T,8] Z k<|rR_ h Z) λk h=>J a [.F,7] Z k<|rN_ h Z) λf h=>J a [.F,2] Z f<|rX_ h Z) (λ_ h=>H a [2] Z<|E h Z U) (λ_ h=>H a [8] Z<|E h Z U)
def Lh (a:ByteArray)(c:QSB):O_ Bool:=(WF a).bind λb=>bif (!b)then some true else some ((QW c a).getD false)
def Li (c:Int)(d:QSB)(a:ByteArray)(b:Bool):O_ ((Int×QSB)⊕(Unit⊕Unit)):=bif b then some (.inr (.inl ()))else some (.inl ((Qj (c+1)),(Ja Rm d a true)))
def We (d:(L_ ByteArray))(b:Int)(e:QSB):O_ ((Int×QSB)⊕(Unit⊕Unit)):=bif (b<(d.length:Int))then (idx d b).bind λa=>(Lh a e).bind (λc=>Li b e a c)else some (.inr (.inr ()))
def Lj : O_ Bool:=some false
def Lk : O_ Bool:=some true
def Ue (a:(L_ ByteArray)):O_ Bool:=(Qs (λst=>We a st.1 st.2) (0,([]:QSB))).bind (Sum.elim (λq=>Lj) (λq=>Lk))
def Qdx (m):CT 265 [.sl 1 (m.map Ki)] [] (Ue m) V.b no_:=
 W 24 func265 Z λC a r h=>K a [8,.O 6 (.map (QT V.s V.b ([]:QSB))),7,.o (.ln m.length),4] Z Z Qc<|lq_ h (λst=>⟨[(3,.map 6),(7,.sl 1 (m.map Ki)),(8,.I (m.length:Int)),(9,.I st.1)],[(6,.map (QT V.s V.b st.2))]⟩) (λq=>(.ret,⟨[(2,.b false)],[]⟩)) (λq=>(.exit 0,⟨[],[]⟩)) Z (λ⟨P,u⟩ o h=>H a [6] Z<|I h (λp h=>B h λg w h=>K a [.T,6,.o (.row (Ki g)),6] Z p (QI w)<|mV_ h (λt=>⟨[(3,.map 6),(5,.s g),(7,.sl 1 (m.map Ki)),(8,.I (m.length:Int)),(9,.I P),(20,.b t)],[(6,.map (QT V.s V.b u))]⟩) (λt h=>B h λD y h=>J a [2,.o (.C1 (.b D)),2] Z (MI _ _ y)<|I h (λi h=>L a [.S 16 (.b true),5] Z i<|mq_ h Z) λi h=>G a [.S 16 (.b false),2,.o (.any (.b ((QW u g).getD false)) none),2] Z ⟨(tc_ i),(λσ N h2 _=>Ql.lookup (e:=V.s) (f:=V.b) (l:=u) (k:=g) (z:=false) Z Z (QZ a.n Z) (N _ _ Z) (h2 _ _ Z) (N _ _ Z) QaP QeF Qn4 Z)⟩<|mq_ h Z) λt h=>H a [1] Z<|I h (λj h=>J a [.T,9] Z j<|rR_ h Z) λj h=>K a [.F,5,.x (λσ=>σ.set 6 (.map (QT V.s V.b (Ja Rm u g true)))),7] Z j (Ql.mapUpdate (e:=V.s) (f:=V.b) (l:=u) (k:=g) (v:=true) Rm Z Z Z Z Z Z QaP QeF Z)<|rN_ h Z) λp h=>J a [.F,2] Z p<|rX_ h Z) (λ_ h=>H a [2] Z<|E h Z U) (λ_ h=>H a [8] Z<|E h Z U)
def WM : O_ Int:=some 0
def Ah (b:QM)(a:LI_):O_ Int:=bif (b.Kind==1)then (Ag b.Lo b.Hi).bind λe=>some e else bif (b.Kind==2)then (Ue b.Names).bind λf=>bif f then some (b.Names.length:Int)else WM else bif (b.Kind==3)then bif ((0<=(min2 b.First b.Then))&&((max2 b.First b.Then)<(a.length:Int)))then (idx a b.First).bind λc=>(idx a b.Then).bind λd=>some (Qj (c*d))else WM else WM
def QeQ (g e):CT 254 [.agg (Qt g),.sl 1 (e.map Qb)] [] (Ah g e) V.I no_:=
 W 51 func254 Z λC f r h=>H f [6] Z<|mU_ ⟨[],[]⟩ (WM=some r) (H f [13] Z<|I h (λl h=>B h λx t h=>K f [.T,6,.o (.C2 (.I x)),6] Z l (QeP _ _ _ t)<|E h Z U) λl h=>J f [.F,6] Z l<|I h (λm h=>B h λy u h=>K f [.T,4,.o (.C1 (.b y)),2] Z m (Qdx _ _ u)<|I h (λp h=>K f [.T,4,.o (.ln g.Names.length),6] Z p Qc<|E h Z U) λp h=>J f [.F,2] Z p<|mu_ h Z) λm h=>J f [.F,6] Z m<|I h (λj h=>J f [.T,1] Z j<|Y ⟨[(1,.sl 1 (e.map Qb)),lk_ 2,(39,.b ((0<=(min2 g.First g.Then))&&((max2 g.First g.Then)<(e.length:Int))))],[(2,.var (Qt g))]⟩ (H f [8] Z<|bO_ (decide (0<=(min2 g.First g.Then))) (λi=>G f [.S 30 (.b true),6,.o (.ln e.length),3,.S 39 (.b ((0<=(min2 g.First g.Then))&&((max2 g.First g.Then)<(e.length:Int))))] Z ⟨⟨(tc_ i),Qc⟩,(cb_ (XL i Z))⟩<|M Z) λi=>G f [.S 30 (.b false),10,.S 39 (.b ((0<=(min2 g.First g.Then))&&((max2 g.First g.Then)<(e.length:Int))))] Z ⟨(tc_ i),(cb_ (Yp i Z))⟩<|M Z)<|H f [1] Z<|I h (λk h=>B h λv q h=>B h λw s h=>G f [.T,1,.K [1,2] [2]] Z (A k) <| 
  dr_ f [.N,.N,.N,.B (.row (Qb v)),.N,.N,.N,.N,.B (.row (Qb w)),.N,.N,.N] [] [] [4] [] Z Z (a2_ (QI q) (QI s)) Z <|
  H f [4] Z<|E h Z U) λk h=>J f [.F,2] Z k<|mu_ h Z) λj h=>J f [.F,2] Z j<|mu_ h Z) λh=>H f [6] Z<|E h Z U
def Ll (a:QM)(d:QSB)(b:Int):O_ Bool:=(WF a.Name).bind λc=>bif (!c)then some true else bif ((QW d a.Name).getD false)then some true else bif (b<1)then some true else some (decide (1024<b))
def Lm (a:LI_)(b:Int)(e:Int)(f:QSB)(c:QM)(d:Bool):O_ ((Int×QSB×LI_)⊕(Unit⊕LI_)):=bif d then some (.inr (.inl ()))else (chk (a.length+([b]:L_ Int).length<=4294967296)).bind λ_=>some (.inl ((Qj (e+1)),(Ja Rm f c.Name true),(a++([b]:L_ Int))))
def Wf (f:(L_ QM))(d:Int)(g:QSB)(a:LI_):O_ ((Int×QSB×LI_)⊕(Unit⊕LI_)):=bif (d<(f.length:Int))then (idx f d).bind λb=>(Ah b a).bind λc=>(Ll b g c).bind (λe=>Lm a c d g b e)else some (.inr (.inr a))
def Qdy : O_ (LI_×Bool):=some (([]:L_ Int),false)
def Qdz (a:LI_):O_ (LI_×Bool):=some (a,true)
def Gi (a:(L_ QM)):O_ (LI_×Bool):=bif (32<(a.length:Int))then some (([]:L_ Int),false)else (Qs (λst=>Wf a st.1 st.2.1 st.2.2) (0,([]:QSB),([]:L_ Int))).bind (Sum.elim (λq=>Qdy) (λq=>Qdz q))
def Rn (y):CT 211 [.sl 7 (y.map Qt)] [] (Gi y) (λr=>(.tup [.sl 1 (r.1.map Qb),.b r.2])) no_:=
 W 49 func211 Z λC a r h=>J a [10,.o (.ln y.length),3] Z Qc<|I h (λD h=>J a [.T,8,.denil 2 [some 1]] Z D<|F h Z Z U) λD h=>G a [.F,5,.O 12 (.map (QT V.s V.b ([]:QSB))),12,.o (.ln y.length),4,.adopt 5 43 1,.O 43 (.arr 1 (([]:L_ Int).map Qb)),.S 5 (.own 43 ([]:L_ Int).length)] Z (a5_ D Z Qc Z (congrArg (λn=>V.own 43 n) (by simp)))<|lq_ h (λst=>⟨[(4,.map 12),(5,.own 43 st.2.2.length),(13,.sl 7 (y.map Qt)),(14,.I (y.length:Int)),(15,.I st.1)],[(12,.map (QT V.s V.b st.2.1)),(43,.arr 1 (st.2.2.map Qb))]⟩) (λq=>(.ret,⟨[(2,.Y),(3,.b false)],[]⟩)) (λq=>(.exit 0,⟨[(5,.own 43 q.length)],[(43,.arr 1 (q.map Qb))]⟩)) Z (λ⟨x8,P,i⟩ o h=>H a [6] Z<|I h (λj h=>B h λg a0 h=>B h λm a1 h=>G a [.T,6,.o (.row (Qt g)),.A (Qt g),2,.O 7 (.var (Qt g)),4,.A (Qt g),1,.o (.c true [.d,.o (i.map Qb)] (.I m)),5] Z (a6_ j (QI a0) Z Z Z ⟨(Sl Z),(QeQ _ _ _ a1)⟩)<|mV_ h (λN=>⟨[(4,.map 12),(5,.own 43 i.length),lk_ 7,(8,.I m),(13,.sl 7 (y.map Qt)),(14,.I (y.length:Int)),(15,.I x8),(39,.b N)],[(7,.var (Qt g)),(12,.map (QT V.s V.b P)),(43,.arr 1 (i.map Qb))]⟩) (λN h=>B h λa4 a2 h=>J a [3,.o (.C1 (.b a4)),2] Z (MI _ _ a2)<|I h (λp h=>L a [.S 26 (.b true),14] Z p<|mq_ h Z) λp h=>G a [.S 26 (.b false),3,.o (.any (.b ((QW P g.Name).getD false)) none),2] Z ⟨(tc_ p),(λσ h1 h2 _=>Ql.lookup (e:=V.s) (f:=V.b) (l:=P) (k:=g.Name) (z:=false) Z Z (QZ a.n Z) (h1 _ _ Z) (h2 _ _ Z) (h1 _ _ Z) QaP QeF Qn4 Z)⟩<|I h (λt h=>L a [.S 32 (.b true),8] Z t<|mq_ h Z) λt h=>L a [.S 32 (.b false),4] Z t<|I h (λu h=>L a [.S 36 (.b true),4] Z u<|mq_ h Z) λu h=>L a [.S 36 (.b false),4] Z u<|mq_ h Z) λN h=>H a [1] Z<|I h (λw h=>J a [.T,10] Z w<|rR_ h Z) λw h=>X h λa3 h=>g4_ a [.F,7,.x (λσ=>σ.set 12 (.map (QT V.s V.b (Ja Rm P g.Name true)))),5,.v (.bd []) [] (.sl 1 (([m]:L_ Int).map Qb)),.app ((i++([m]:L_ Int)).map Qb) (i++([m]:L_ Int)).length,8] Z w (Ql.mapUpdate (e:=V.s) (f:=V.b) (l:=P) (k:=g.Name) (v:=true) Rm Z Z Z Z Z Z QaP QeF Z) Z ⟨Qc,Yk a3 Qc,XG,YC Qc⟩<|rN_ h Z) λj h=>J a [.F,2] Z j<|rX_ h Z) (λ_ h=>H a [2,.denil 2 [some 1]] Z<|F h Z Z U) (λa5 h=>J a [10,.frz 43 (a5.map Qb) [2] []] Z (A (YA Qc))<|F h Z Z U)
def Ww (a:(L_ QM))(b:Int):O_ (Bool×XZ):=
 (Gi a).bind λc=>
 bif ((!c.2)||((b<0)||((a.length:Int)<=b)))then
 some (false,(XZ.mk ([]:(L_ QM)) ([]:LI_) 0))
 else
 some (true,(XZ.mk a c.1 b))
def OQ (i e):CT 184 [.sl 7 (i.map Qt),.I e] [] (Ww i e) (λr=>(.tup [.agg (Xw r.2),.b r.1])) no_:=by
 refine W 30 func184 rfl λC k r h=>?_
 obtain⟨j,l,h⟩:=Qw h
 refine QJ k [9,.o (.C1 (.tup [.sl 1 (j.1.map Qb),.b j.2])),9] Z (A (Rn _ _ l)) ?_
 refine AK.meetX (λσ=>σ=⟨[(0,.sl 7 (i.map Qt)),(1,.I e),lk_ 4,(6,.sl 1 (j.1.map Qb)),(24,.b ((!j.2)||((e<0)||((i.length:Int)<=e))))],[(4,.var [.Y,.Y,.I 0])]⟩) ?_ ?_
 ·exact H k [4] Z<|bO_ (!j.2) (λf=>G k [.S 15 (.b true),10,.S 24 (.b ((!j.2)||((e<0)||((i.length:Int)<=e))))] Z ⟨(tc_ f),(cb_ (KB f Z))⟩<|M Z) λf=>L k [.S 15 (.b false),4] Z f<|bO_ (decide (e<0)) (λa=>G k [.S 19 (.b true),6,.S 24 (.b ((!j.2)||((e<0)||((i.length:Int)<=e))))] Z ⟨(tc_ a),(cb_ (Yj f (KB a Z)))⟩<|M Z) λa=>G k [.S 19 (.b false),2,.o (.ln i.length),3,.S 24 (.b ((!j.2)||((e<0)||((i.length:Int)<=e))))] Z ⟨⟨(tc_ a),Qc⟩,(cb_ (Yj f (Yj a Z)))⟩<|M Z
 rintro σ rfl
 refine tg_ k [1] ?_
 refine bg_ h (λg h=>QJ k [.T,2,.v .no [some 7,some 1,none] (.agg (Xw (XZ.mk ([]:(L_ QM)) ([]:LI_) 0))),1,.O 4 (.var (Xw (XZ.mk ([]:(L_ QM)) ([]:LI_) 0))),5,.K [4,5] [4]] rfl (a3_ g rfl rfl) ?_) λg h=>QJ k [.F,7,.A (Xw (XZ.mk i j.1 e)),1,.O 4 (.var (Xw (XZ.mk i j.1 e))),4,.K [4,5] [4]] rfl (a3_ g rfl rfl) ?_
 ·cases h
  exact AK.done (ex_ [_,_] (an_ (an_ (ex_ _ (ex_ _ (an_ Z (an_ Z (Or.inl (an_ (QN.ag Z) (an_ (QN.sz Z) Z))))))) (an_ Z U)) (gives U)))
 cases h
 exact AK.done (ex_ [_,_] (an_ (an_ (ex_ _ (ex_ _ (an_ Z (an_ Z (Or.inl (an_ (QN.ag Z) (an_ (QN.sz Z) Z))))))) (an_ Z U)) (gives U)))
def Ga (a:Int)(b:XZ):O_ Bool:=bif (0<=a)then (idx b.sizes b.k).bind λc=>some (decide (a<c))else some false
def OI (a:Bool):O_ Bool:=some a
def JT (a:XZ)(b:Int):O_ Bool:=(Ga b a).bind (λc=>OI c)
def OJ (f g):CT 200 [.agg (Xw f),.I g] [] (JT f g) V.b no_:=
 W 17 func200 Z λC c r h=>H c [7] Z<|mV_ h (λd=>⟨[(4,.b d)],[]⟩) (λd h=>H c [4] Z<|I h (λa h=>B h λi e h=>G c [.S 7 (.b true),5,.o (.row (Qb i)),5] Z ⟨(tc_ a),(QI e)⟩<|mq_ h Z) λa h=>L c [.S 7 (.b false),11] Z a<|mq_ h Z) λd h=>H c [2] Z<|E h Z U
def Jr (a:XZ):O_ QM:=(idx a.all a.k).bind λb=>some b
def AT (c):CT 201 [.agg (Xw c)] [] (Jr c) (λr=>(.agg (Qt r))) no_:=by
 refine W 9 func201 rfl λC d r h=>?_
 obtain⟨a,b,h⟩:=Qw h
 refine QJ d [12,.o (.row (Qt a)),.A (Qt a),1,.O 2 (.var (Qt a)),3,.K [2] [2]] Z (a3_ (QI b) Z Z) ?_
 cases h
 exact AK.done (ex_ [_] (an_ (an_ (ex_ _ (ex_ _ (an_ Z (an_ Z (Or.inl (an_ (QN.ag Z) (an_ (QN.sz Z) Z))))))) U) (gives U)))
def Ax (b:(Bool×XZ))(c:Int):O_ Bool:=bif (!b.1)then some true else (JT b.2 c).bind λa=>some (!a)
def Ay (c:(Bool×XZ))(d:Int)(e:Bool):O_ (Int×Bool):=bif e then some (0,false)else (Jr c.2).bind λa=>bif (a.Kind==1)then (Jr c.2).bind λb=>some ((Qj (b.Lo+d)),true)else some (d,true)
def Wn (c:(L_ QM))(d:Int)(a:Int):O_ (Int×Bool):=(Ww c d).bind λb=>(Ax b a).bind (λe=>Ay b a e)
def Qcm (x y q):CT 138 [.sl 7 (x.map Qt),.I y,.I q] [] (Wn x y q) (λr=>(.tup [.I r.1,.b r.2])) no_:=
 W 36 func138 Z λC a r h=>B h λi s h=>K a [10,.o (.C2 (.tup [.agg (Xw i.2),.b i.1])),5,.O 8 (.var (Xw i.2)),6] Z (OQ _ _ _ s) Z<|mV_ h (λt=>⟨[(2,.I q),lk_ 8,(16,.b t)],[(8,.var (Xw i.2))]⟩) (λt h=>H a [4] Z<|I h (λe h=>L a [.S 19 (.b true),7] Z e<|mq_ h Z) λe h=>B h λu j h=>G a [.S 19 (.b false),.A (Xw i.2),1,.o (.C2 (.b u)),4] Z ⟨⟨(tc_ e),Z⟩,(OJ _ _ _ j)⟩<|mq_ h Z) λt h=>H a [1] Z<|I h (λf h=>J a [.T,9] Z f<|F h Z Z U) λf h=>B h λk l h=>g4_ a [.F,2,.A (Xw i.2),.o (.C1 (.agg (Qt k))),.o (.any (.I k.Kind) none),4] Z f Z (AT _ _ l) (λσ w z _=>Ql.field Z Z (QZ a.n Z) (w _ _ Z) QoO Z)<|I h (λg h=>B h λm p h=>g4_ a [.T,2,.A (Xw i.2),.o (.C1 (.agg (Qt m))),.o (.any (.I m.Lo) none),9] Z g Z (AT _ _ p) (λσ w z _=>Ql.field Z Z (QZ a.n Z) (w _ _ Z) QoP Z)<|F h Z Z U) λg h=>J a [.F,11] Z g<|F h Z Z U
def WG (d:QL)(b:LI_)(h:Qn)(a:Int)(c:LI_):O_ ((Int×LI_)⊕(Unit⊕LI_)):=bif (a<(d.Vars.length:Int))then (idx d.Vars a).bind λf=>(idx b a).bind λg=>(Wn h.Colours f.Colour g).bind λe=>bif (!e.2)then some (.inr (.inl ()))else (idx c a).bind λi=>some (.inl ((Qj (a+1)),(c.set a.toNat e.1)))else some (.inr (.inr c))
def Qjf : O_ (LI_×Int):=some (([]:L_ Int),1)
def Qjg (a:LI_):O_ (LI_×Int):=some (a,0)
def WH (d:Qn)(a:Int)(c:LI_):O_ (LI_×Int):=
 bif ((a<0)||((d.Tasks.length:Int)<=a))then
 some (([]:L_ Int),3)
 else
 (idx d.Tasks a).bind λb=>
 bif ((c.length:Int) != (b.Vars.length:Int))then
 some (([]:L_ Int),1)
 else
 (chk (decide (0<=(b.Vars.length:Int))&&decide ((b.Vars.length:Int)<=(b.Vars.length:Int))&&decide ((b.Vars.length:Int)<=4294967296))).bind λ_=>
 (Qs (λst=>WG b c d st.1 st.2) (0,(List.replicate (b.Vars.length:Int).toNat (0:Int)))).bind (Sum.elim (λq=>Qjf) (λq=>Qjg q))
def PY (t e f):CT 82 [.agg (Qa t),.I e,.sl 1 (f.map Qb)] [] (WH t e f) (λr=>(.tup [.sl 1 (r.1.map Qb),.I r.2])) no_:=
 W 64 func82 Z λC g r h=>H g [9] Z<|Y ⟨[(1,.I e),(2,.sl 1 (f.map Qb)),lk_ 3,(22,.b ((e<0)||((t.Tasks.length:Int)<=e)))],[(3,.var (Qa t))]⟩ (H g [4] Z<|bO_ (decide (e<0)) (λj=>G g [.S 16 (.b true),7,.S 22 (.b ((e<0)||((t.Tasks.length:Int)<=e)))] Z ⟨(tc_ j),(cb_ (KB j Z))⟩<|M Z) λj=>G g [.S 16 (.b false),3,.o (.ln t.Tasks.length),3,.S 22 (.b ((e<0)||((t.Tasks.length:Int)<=e)))] Z ⟨⟨(tc_ j),Qc⟩,(cb_ (Yj j Z))⟩<|M Z)<|H g [1] Z<|I h (λk h=>J g [.T,8,.denil 6 [some 1]] Z k<|F h Z Z U) λk h=>B h λi x h=>g4_ g [.F,7,.o (.row (Qk i)),9,.o (.ln f.length),1,.o (.ln i.Vars.length),3] Z k (QI x) Qc Qc<|I h (λl h=>J g [.T,8,.denil 6 [some 1]] Z l<|F h Z Z U) λl h=>X h λy h=>G g [.F,5,.o (.ln i.Vars.length),.o (.rows ((List.replicate (i.Vars.length:Int).toNat (0:Int)).map Qb)),.S 36 (.own 36 (List.replicate (i.Vars.length:Int).toNat (0:Int)).length),7,.o (.ln i.Vars.length),4] Z (a5_ l Qc ⟨y,QjM Z⟩ (by simp) Qc)<|lq_ h (λst=>⟨[(2,.sl 1 (f.map Qb)),lk_ 3,(9,.own 36 st.2.length),(37,.sl 2 (i.Vars.map QY)),(38,.I (i.Vars.length:Int)),(39,.I st.1)],[(3,.var (Qa t)),(36,.arr 1 (st.2.map Qb))]⟩) (λq=>(.ret,⟨[(6,.Y),(7,.I 1)],[]⟩)) (λq=>(.exit 0,⟨[(9,.own 36 q.length)],[(36,.arr 1 (q.map Qb))]⟩)) Z (λ⟨z,D⟩ o h=>H g [6] Z<|I h (λm h=>B h λw P h=>B h λa2 a0 h=>B h λs a1 h=>G g [.T,7,.o (.row (QY w)),.A (QY w),3,.O 11 (.var (QY w)),3,.K [2,3,9,10,11,37,38,39] [3,11,36]] Z (a4_ m (QI P) Z Z) <| 
  dr_ g [.N,.N,.N,.N,.N,.N,.B (.row (Qb a2)),.N,.B (.C3 (.tup [.I s.1,.b s.2])),.N,.N,.N,.N,.N] [] [] [2,3,9,10,12,13,37,38,39] [3,36] Z Z (a2_ (QI a0) (Qcm _ _ _ _ a1)) Z <|
  H g [8] Z<|I h (λp h=>J g [.T,10] Z p<|rR_ h Z) λp h=>B h λa3 u h=>g4_ g [.F,7,.st (Qb a3) ((D.set z.toNat s.1).map Qb),7,.S 9 (.own 36 (D.set z.toNat s.1).length)] Z p (Yv u Z) ⟨(XO (Ys u).2),BC Z⟩ (congrArg (λn=>V.own 36 n) (by simp))<|rN_ h Z) λm h=>J g [.F,2] Z m<|rX_ h Z) (λ_ h=>H g [2,.denil 6 [some 1]] Z<|F h Z Z U) (λa4 h=>J g [10,.frz 36 (a4.map Qb) [6] []] Z (A (YA Qc))<|F h Z Z U)
def YE (c:Qn)(f:QMk)(a:Int)(b:LI_):O_ (Int×QX):=(WH c a b).bind λd=>bif (d.2 != 0)then some (d.2,(QX.mk (Qn.mk ([]:(L_ QM)) ([]:(L_ Xh)) ([]:(L_ QL)) 0 0) ([]:QMk) (QL.mk (⟨#[]⟩:ByteArray) ([]:(L_ Yd)) (Qi.mk 0 0 ([]:(L_ Qi))) 0 0 ([]:(L_ Xk)) ([]:(L_ Xk)) ([]:LI_) 0 (0,0,0)) ([]:LI_)))else (idx c.Tasks a).bind λe=>some (0,(QX.mk c f e d.1))
def Vt (i l b e):CT 41 [.agg (Qa i),.sl 1 (l.map Qe),.I b,.sl 1 (e.map Qb)] [] (YE i l b e) (λr=>(.tup [.agg (QD r.2),.I r.1])) no_:=by
 refine W 32 func41 rfl λC j r h=>?_
 obtain⟨p,q,h⟩:=Qw h
 refine QJ j [9,.A (Qa i),2,.o (.C3 (.tup [.sl 1 (p.1.map Qb),.I p.2])),14] Z (a2_ Z (PY _ _ _ _ q)) ?_
 rcases Xr h with⟨f,h⟩|⟨f,h⟩
 ·refine QJ j [.T,2,.v .no [some 7,some 3,some 14,none,none,some 1,none,some 2,none,none,some 3,none,none,some 4,some 4,some 1,none,none,none,none,some 1] (.agg (QD (QX.mk (Qn.mk ([]:(L_ QM)) ([]:(L_ Xh)) ([]:(L_ QL)) 0 0) ([]:QMk) (QL.mk (⟨#[]⟩:ByteArray) ([]:(L_ Yd)) (Qi.mk 0 0 ([]:(L_ Qi))) 0 0 ([]:(L_ Xk)) ([]:(L_ Xk)) ([]:LI_) 0 (0,0,0)) ([]:LI_)))),2,.O 8 (.var (QD (QX.mk (Qn.mk ([]:(L_ QM)) ([]:(L_ Xh)) ([]:(L_ QL)) 0 0) ([]:QMk) (QL.mk (⟨#[]⟩:ByteArray) ([]:(L_ Yd)) (Qi.mk 0 0 ([]:(L_ Qi))) 0 0 ([]:(L_ Xk)) ([]:(L_ Xk)) ([]:LI_) 0 (0,0,0)) ([]:LI_)))),5,.K [8,9] [8]] Z (a3_ f Z Z) ?_
  cases h
  exact AK.done (ex_ [_,_] (an_ (an_ (ex_ _ (ex_ _ (an_ Z (an_ Z (Or.inl (an_ (QN.ag Z) (an_ (QN.sz Z) Z))))))) (an_ Z U)) (gives U)))
 obtain⟨g,k,h⟩:=Qw h
 refine QJ j [.F,3,.K [1,2,4,8,9,10] [4,8]] Z (A f) ?_
 refine AK.draw2 QN j mixed [.E (.agg (Qa i)),.N,.N,.N,.N,.B (.row (Qk g)),.E (.agg (Qk g)),.N,.E (.agg (QD (QX.mk i l g p.1))),.m .s,.m .s] [] [] [8,9] [8] rfl rfl rfl ⟨⟨⟨⟨U,rfl⟩,(QI k)⟩,rfl⟩,rfl⟩ rfl (by kernel_rfl) rfl rfl rfl ?_
 refine QJ j [.O 8 (.var (QD (QX.mk i l g p.1))),2,.K [8,9] [8]] Z (A Z) ?_
 cases h
 exact AK.done (ex_ [_,_] (an_ (an_ (ex_ _ (ex_ _ (an_ Z (an_ Z (Or.inl (an_ (QN.ag Z) (an_ (QN.sz Z) Z))))))) (an_ Z U)) (gives U)))
def NF (c:Qi)(h:Qi->O_ Int)(d:Int)(a:Int):O_ ((Int×Int)⊕Int):=bif (a<(c.Kids.length:Int))then (idx c.Kids a).bind λe=>(h e).bind λb=>some (.inl ((max2 d b),(Qj (a+1))))else some (.inr d)
def Vu (a:Int):O_ Int:=some (Qj (a+1))
def Iu (h:Qi->O_ Int)(a:Qi):O_ Int:=(Qs (λst=>NF a h st.1 st.2) (0,0)).bind (λq=>Vu q)
def Kk : Nat->Qi->O_ Int
 | 0,_=>none
 | n+1,a=>Iu (Kk n) a
def NG (a:Qi):O_ Int:=Kk (SizeOf.sizeOf a) a
def QdA (D:Qi->O_ Int)(hrec_expr_Depth:∀(a:Qi) {r:Int},D a=some r->QP prog 202 [.agg (Qm a)] [] (Gives (.I r) []))(a:Qi):CT 202 [.agg (Qm a)] [] (Iu D a) V.I no_:=
 W 20 func202 Z λC e r h=>J e [16,.o (.ln a.Kids.length),4] Z (EN _)<|lp_ h (λst=>⟨[(3,.I st.1),(7,.sl 3 (Jb a.Kids)),(8,.I (a.Kids.length:Int)),(9,.I st.2)],[]⟩) (λq=>(.exit 0,⟨[(3,.I q)],[]⟩)) Z (λ⟨k,l⟩ o h=>H e [6] Z<|I h (λb h=>B h λg i h=>B h λj f h=>G e [.T,6,.o (.row (Qm g)),.A (Qm g),2,.O 5 (.var (Qm g)),4,.A (Qm g),.o (.C1 (.I j)),9] Z (a6_ b (Jc i) Z Z Z (hrec_expr_Depth _ f))<|rN_ h Z) λb h=>J e [.F,2] Z b<|rX_ h Z) λm h=>H e [10] Z<|E h Z U
def Ro : ∀(fuel:Nat) (a:Qi) {r:Int},Kk fuel a=some r->QP prog 202 [.agg (Qm a)] [] (Gives (.I r) [])
 | 0,_,_,h=>by cases h
 | n+1,a,_,h=>QdA (Kk n) (λ_ _ h=>Ro n _ h) a _ h
def Qgt (a){r}(h:NG a=some r):QP prog 202 [.agg (Qm a)] [] (Gives (.I r) []):=Ro _ a h
def OR (c:Qi)(h:Qi->O_ Int)(d:Int)(a:Int):O_ ((Int×Int)⊕Int):=bif (a<(c.Kids.length:Int))then (idx c.Kids a).bind λe=>(h e).bind λb=>some (.inl ((Qj (d+b)),(Qj (a+1))))else some (.inr d)
def ZM (a:Int):O_ Int:=some a
def Mh (h:Qi->O_ Int)(a:Qi):O_ Int:=(Qs (λst=>OR a h st.1 st.2) (1,0)).bind (λq=>ZM q)
def KQ : Nat->Qi->O_ Int
 | 0,_=>none
 | n+1,a=>Mh (KQ n) a
def Pq (a:Qi):O_ Int:=KQ (SizeOf.sizeOf a) a
def QeR (D:Qi->O_ Int)(hrec_expr_Size:∀(a:Qi) {r:Int},D a=some r->QP prog 203 [.agg (Qm a)] [] (Gives (.I r) []))(a:Qi):CT 203 [.agg (Qm a)] [] (Mh D a) V.I no_:=
 W 19 func203 Z λC e r h=>J e [16,.o (.ln a.Kids.length),4] Z (EN _)<|lp_ h (λst=>⟨[(3,.I st.1),(7,.sl 3 (Jb a.Kids)),(8,.I (a.Kids.length:Int)),(9,.I st.2)],[]⟩) (λq=>(.exit 0,⟨[(3,.I q)],[]⟩)) Z (λ⟨k,l⟩ o h=>H e [6] Z<|I h (λb h=>B h λg i h=>B h λj f h=>G e [.T,6,.o (.row (Qm g)),.A (Qm g),2,.O 5 (.var (Qm g)),4,.A (Qm g),.o (.C1 (.I j)),9] Z (a6_ b (Jc i) Z Z Z (hrec_expr_Size _ f))<|rN_ h Z) λb h=>J e [.F,2] Z b<|rX_ h Z) λm h=>H e [9] Z<|E h Z U
def SP : ∀(fuel:Nat) (a:Qi) {r:Int},KQ fuel a=some r->QP prog 203 [.agg (Qm a)] [] (Gives (.I r) [])
 | 0,_,_,h=>by cases h
 | n+1,a,_,h=>QeR (KQ n) (λ_ _ h=>SP n _ h) a _ h
def QhY (a){r}(h:Pq a=some r):QP prog 203 [.agg (Qm a)] [] (Gives (.I r) []):=SP _ a h
def Uf (a:Int)(b:Bool):O_ Int:=bif b then some 1 else bif (a==5)then some 2 else bif (a==6)then some 3 else some (-1)
def Ug (a:Int)(b:Bool):O_ Int:=bif b then some 0 else bif (a==3)then Uf a (a==3)else Uf a (a==4)
def LN (a:Int):O_ Int:=bif (a==1)then Ug a (a==1)else Ug a (a==2)
def QhZ (a):CT 240 [.I a] [] (LN a) V.I no_:=
 W 14 func240 Z λC c r h=>H c [12] Z<|mE_ (λk:Bool=>⟨[(3,.I a),(4,.b k)],[]⟩) (λk=>Ug a k=some r) (H c [6] Z<|I h (λd h=>J c [.T,1] Z d<|me_ h Z) λd h=>J c [.F,4] Z d<|me_ h Z) λk h=>I h (λf h=>J c [.T,8] Z f<|E h Z U) λf h=>J c [.F] Z f<|mE_ (λl:Bool=>⟨[(3,.I a),(7,.b l)],[]⟩) (λl=>Uf a l=some r) (H c [6] Z<|I h (λe h=>J c [.T,1] Z e<|me_ h Z) λe h=>J c [.F,4] Z e<|me_ h Z) λl h=>I h (λg h=>J c [.T,8] Z g<|E h Z U) λg h=>J c [.F,6] Z g<|I h (λi h=>J c [.T,8] Z i<|E h Z U) λi h=>J c [.F,6] Z i<|I h (λj h=>J c [.T,8] Z j<|E h Z U) λj h=>J c [.F,9] Z j<|E h Z U
def HG (Yg:Int):O_ Bool:=some ((1<=Yg)&&(Yg<=11))
def Qgu (Yg):CT 241 [.I Yg] [] (HG Yg) V.b no_:=
 W 9 func241 Z λC c r h=>H c [6] Z<|Y ⟨[(2,.b ((1<=Yg)&&(Yg<=11)))],[]⟩ (H c [4] Z<|bO_ (decide (1<=Yg)) (λa=>G c [.S 5 (.b true),5,.S 2 (.b ((1<=Yg)&&(Yg<=11)))] Z ⟨(tc_ a),(cb_ (XL a Z))⟩<|M Z) λa=>G c [.S 5 (.b false),5,.S 2 (.b ((1<=Yg)&&(Yg<=11)))] Z ⟨(tc_ a),(cb_ (Yp a Z))⟩<|M Z)<|H c [2] Z<|E h Z U
def Iv (h:Qi->Int->O_ Bool)(a:Qi)(b:Int):O_ Bool:=(h a b).bind λc=>some (!c)
def QdB (D:Qi->Int->O_ Bool)(hrec_expr_parts:∀(i:Qi) (a:Int) {r:Bool},D i a=some r->QP prog 204 [.agg (Qm i),.I a] [] (Gives (.b r) []))(e:Qi)(f:Int):CT 243 [.agg (Qm e),.L 617] [(617,.var (Qb f))] (Iv D e f) V.b (λ_=>[(617,.var (Qb f))]):=
 W 8 func243 Z λC j r h=>B h λk g h=>K j [8,.A (Qm e),1,.o (.C2 (.b k)),5] Z Z (hrec_expr_parts _ _ g)<|E h Z r1_
def XB (c:(L_ Qi))(h:Qi->Int->O_ Bool)(d:Int)(a:Int):O_ (Int⊕(Int⊕Unit)):=bif (a<(c.length:Int))then (idx c a).bind λe=>(Iv h e d).bind λb=>bif b then some (.inr (.inl a))else some (.inl (Qj (a+1)))else some (.inr (.inr ()))
def CZ (a:Int):O_ Int:=some a
def Fa : O_ Int:=some (-1)
def Jd (h:Qi->Int->O_ Bool)(a:(L_ Qi))(b:Int):O_ Int:=(Qs (λst=>XB a h b st) 0).bind (Sum.elim (λq=>CZ q) (λq=>Fa))
def Fb (D:Qi->Int->O_ Bool)(hrec_expr_parts:∀(m:Qi) (a:Int) {r:Bool},D m a=some r->QP prog 204 [.agg (Qm m),.I a] [] (Gives (.b r) []))(i:(L_ Qi))(f:Int):CT 258 [.sl 3 (Jb i),.clo (.func 243) [] [.L 617]] [(617,.var (Qb f))] (Jd D i f) V.I (λ_=>[(617,.var (Qb f))]):=
 W 19 func258 Z λC e r h=>J e [9,.o (.ln i.length),4] Z (EN _)<|lq_ h (λst=>⟨[(0,.sl 3 (Jb i)),(1,.clo (.func 243) [] [.L 617]),(7,.I (i.length:Int)),(8,.I st)],[(617,.var (Qb f))]⟩) (λq=>(.ret,⟨[(4,.I q)],[(617,.var (Qb f))]⟩)) (λq=>(.exit 0,⟨[],[(617,.var (Qb f))]⟩)) Z (λs o h=>H e [6] Z<|I h (λg h=>B h λp k h=>B h λl j h=>g4_ e [.T,15,.o (.row (Qm p)),.A (Qm p),.cm (.clo) [(617,617)] [(617,617)] [] [.d,.d] [(617,.var (Qb f))] (.b l),2] Z g (Jc k) Z (QdB D hrec_expr_parts _ _ _ j)<|I h (λc h=>J e [.T,9] Z c<|rR_ h Z) λc h=>J e [.F,7] Z c<|rN_ h Z) λg h=>J e [.F,2] Z g<|rX_ h Z) (λt h=>H e [2] Z<|E h Z r1_) (λ_ h=>H e [8] Z<|E h Z r1_)
def XC (h:Qi->Int->O_ Bool)(a:(L_ Qi))(b:Int):O_ Bool:=(Jd h a b).bind λc=>some (decide (0<=c))
def BJ (D:Qi->Int->O_ Bool)(hrec_expr_parts:∀(f:Qi) (a:Int) {r:Bool},D f a=some r->QP prog 204 [.agg (Qm f),.I a] [] (Gives (.b r) []))(g:(L_ Qi))(c:Int):CT 242 [.sl 3 (Jb g),.clo (.func 243) [] [.L 617]] [(617,.var (Qb c))] (XC D g c) V.b (λ_=>[(617,.var (Qb c))]):=
 W 9 func242 Z λC i r h=>B h λj e h=>J i [9,.cm (.fn) [(617,617)] [(617,617)] [] [.d,.d] [(617,.var (Qb c))] (.I j),5] Z (Fb D hrec_expr_parts _ _ _ e)<|E h Z r1_
def NH (b:Qi):O_ Bool:=bif (b.Kind==5)then (HG b.Num).bind λa=>some (!a)else some false
def NI (h:Qi->Int->O_ Bool)(d:Qi)(a:Int)(b:Bool):O_ Bool:=bif b then some false else (XC h d.Kids a).bind λc=>some (!c)
def BK (h:Qi->Int->O_ Bool)(b:Qi)(a:Int):O_ Bool:=
 (LN b.Kind).bind λd=>
 bif ((b.Kids.length:Int) != d)then
 some false
 else
 bif ((b.Kind==2)&&((b.Num<0)||(a<=b.Num)))then
 some false
 else
 (NH b).bind (λc=>NI h b a c)
def Yy : Nat->Qi->Int->O_ Bool
 | 0,_,_=>none
 | n+1,b,a=>BK (Yy n) b a
def NJ (b:Qi)(a:Int):O_ Bool:=Yy (SizeOf.sizeOf b) b a
def QdC (D:Qi->Int->O_ Bool)(hrec_expr_parts:∀(f:Qi) (e:Int) {r:Bool},D f e=some r->QP prog 204 [.agg (Qm f),.I e] [] (Gives (.b r) []))(f:Qi)(e:Int):CT 204 [.agg (Qm f),.I e] [] (BK D f e) V.b no_:=
 W 43 func204 Z λC g r h=>B h λx u h=>H g [10,.K [2,3] [2,3]] Z <| 
  dr_ g [.N,.N,.B (.ln f.Kids.length),.N,.N,.B (.C1 (.I x)),.N,.N] [] [] [2,3,5] [2,3] Z Z (a2_ (EN _) (QhZ _ _ u)) Z <|
  H g [1] Z<|I h (λp h=>J g [.T,8] Z p<|E h Z U) λp h=>J g [.F,1] Z p<|Y ⟨[lk_ 2,lk_ 3,(13,.b ((f.Kind==2)&&((f.Num<0)||(e<=f.Num))))],[(2,.var (Qm f)),(3,.var (Qb e))]⟩ (H g [5] Z<|bO_ (f.Kind==2) (λi=>L g [.S 17 (.b true),4] Z i<|bO_ (decide (f.Num<0)) (λj=>G g [.S 21 (.b true),8,.S 13 (.b ((f.Kind==2)&&((f.Num<0)||(e<=f.Num))))] Z ⟨(tc_ j),(cb_ (XL i (KB j Z)))⟩<|M Z) λj=>G g [.S 21 (.b false),8,.S 13 (.b ((f.Kind==2)&&((f.Num<0)||(e<=f.Num))))] Z ⟨(tc_ j),(cb_ (XL i (Yj j Z)))⟩<|M Z) λi=>G g [.S 17 (.b false),12,.S 13 (.b ((f.Kind==2)&&((f.Num<0)||(e<=f.Num))))] Z ⟨(tc_ i),(cb_ (Yp i Z))⟩<|M Z)<|H g [1] Z<|I h (λk h=>J g [.T,8] Z k<|E h Z U) λk h=>J g [.F,1] Z k<|mV_ h (λq=>⟨[lk_ 2,lk_ 3,(28,.b q)],[(2,.var (Qm f)),(3,.var (Qb e))]⟩) (λq h=>H g [5] Z<|I h (λl h=>B h λv s h=>G g [.S 32 (.b true),2,.o (.C1 (.b v)),4] Z ⟨(tc_ l),(Qgu _ _ s)⟩<|mq_ h Z) λl h=>L g [.S 32 (.b false),7] Z l<|mq_ h Z) λq h=>H g [1] Z<|I h (λm h=>J g [.T,8] Z m<|E h Z U) λm h=>B h λw t h=>K g [.F,8,.cm (.fn) [(617,3)] [(3,617)] [] [.d,.d] [(617,.var (Qb e))] (.b w),5] Z m (BJ D hrec_expr_parts _ _ _ t)<|E h Z U
def Rp : ∀(fuel:Nat) (c:Qi) (a:Int) {r:Bool},Yy fuel c a=some r->QP prog 204 [.agg (Qm c),.I a] [] (Gives (.b r) [])
 | 0,_,_,_,h=>by cases h
 | n+1,c,a,_,h=>QdC (Yy n) (λ_ _ _ h=>Rp n _ _ h) c a _ h
def Qgv (c a){r}(h:NJ c a=some r):QP prog 204 [.agg (Qm c),.I a] [] (Gives (.b r) []):=Rp _ c a h
def NK (b:Qi)(a:Int):O_ Bool:=(NG b).bind λd=>bif (d<=40)then (Pq b).bind λe=>bif (e<=400)then (NJ b a).bind λc=>some c else some false else some false
def Qgw (a:Bool):O_ Bool:=some a
def GP (b:Qi)(a:Int):O_ Bool:=(NK b a).bind (λc=>Qgw c)
def NL (i a):CT 139 [.agg (Qm i),.I a] [] (GP i a) V.b no_:=
 W 18 func139 Z λC e r h=>H e [7] Z<|mV_ h (λk=>⟨[(4,.b k)],[]⟩) (λk h=>B h λq l h=>K e [1,.A (Qm i),.o (.C1 (.I q)),2] Z Z (Qgt _ l)<|I h (λf h=>B h λs m h=>G e [.S 8 (.b true),.A (Qm i),.o (.C1 (.I s)),3] Z ⟨⟨(tc_ f),Z⟩,(QhY _ m)⟩<|I h (λg h=>B h λp j h=>G e [.S 13 (.b true),.A (Qm i),1,.o (.C2 (.b p)),3] Z ⟨⟨(tc_ g),Z⟩,(Qgv _ _ j)⟩<|mq_ h Z) λg h=>L e [.S 13 (.b false),6] Z g<|mq_ h Z) λf h=>L e [.S 8 (.b false),11] Z f<|mq_ h Z) λk h=>H e [2] Z<|E h Z U
def JM (b:LI_)(a:Int)(c:Bool):O_ (LI_⊕(LI_⊕(LI_⊕(LI_⊕LI_)))):=bif c then some (.inr (.inr (.inl b)))else bif (a==5)then some (.inr (.inr (.inr (.inl b))))else some (.inr (.inr (.inr (.inr b))))
def Kr (b:LI_)(a:Int):O_ (LI_⊕(LI_⊕(LI_⊕(LI_⊕LI_)))):=bif (a==1)then some (.inl b)else bif (a==2)then some (.inr (.inl b))else bif (a==3)then JM b a (a==3)else JM b a (a==4)
def GQ (k a){r}(h:Kr k a=some r):QP prog 205 [.sl 1 (k.map Qb),.I a] [] ((Sum.elim (λq=>(Gives (.clo (.func 244) [.sl 1 (q.map Qb)] []) [])) (Sum.elim (λq=>(Gives (.clo (.func 245) [.sl 1 (q.map Qb)] []) [])) (Sum.elim (λq=>(Gives (.clo (.func 246) [.sl 1 (q.map Qb)] []) [])) (Sum.elim (λq=>(Gives (.clo (.func 247) [.sl 1 (q.map Qb)] []) [])) (λq=>(Gives (.clo (.func 248) [.sl 1 (q.map Qb)] []) [])))))) r):=by
 refine wk_ 25 func205 λC c=>?_
 refine tg_ c [18] ?_
 refine bq_ c h [.T,10,.K [4] []] rfl (λg h=>?_) [.F,6] rfl λg h=>?_
 ·cases h
  exact AK.done (ex_ [_] (an_ (an_ Z U) (gives U)))
 refine bq_ c h [.T,10,.K [4] []] rfl (λi h=>?_) [.F] rfl λi h=>?_
 ·cases h
  exact AK.done (ex_ [_] (an_ (an_ Z U) (gives U)))
 refine AK.meet (λσ=>∃j:Bool,σ=⟨[(0,.sl 1 (k.map Qb)),(5,.I a),(14,.b j)],[]⟩/\JM k a j=some r) ?_ ?_
 ·refine tg_ c [6] ?_
  refine bq_ c h [.T,1,.K [0,5,14] []] rfl (λd h=>?_) [.F,4,.K [0,5,14] []] rfl λd h=>?_
  ·exact AK.met (ex_ _ (an_ Z h))
  exact AK.met (ex_ _ (an_ Z h))
 rintro σ ⟨j,rfl,h⟩
 refine bq_ c h [.T,10,.K [4] []] rfl (λe h=>?_) [.F,6] rfl λe h=>?_
 ·cases h
  exact AK.done (ex_ [_] (an_ (an_ Z U) (gives U)))
 refine bq_ c h [.T,10,.K [4] []] rfl (λf h=>?_) [.F,11,.K [4] []] rfl λf h=>?_
 ·cases h
  exact AK.done (ex_ [_] (an_ (an_ Z U) (gives U)))
 cases h
 exact AK.done (ex_ [_] (an_ (an_ Z U) (gives U)))
def Rq (b:LI_)(a:Qi):O_ (Int×Int):=some (a.Num,0)
def QaS (a b):CT 244 [.sl 1 (a.map Qb),.agg (Qm b)] [] (Rq a b) (λr=>(.tup [.I r.1,.I r.2])) no_:=
 W 8 func244 Z λC c r h=>H c [16] Z<|F h Z Z U
def UK (a:LI_)(b:Qi):O_ (Int×Int):=(idx a b.Num).bind λc=>some (c,0)
def Zo (b c):CT 245 [.sl 1 (b.map Qb),.agg (Qm c)] [] (UK b c) (λr=>(.tup [.I r.1,.I r.2])) no_:=
 W 11 func245 Z λC d r h=>B h λe a h=>J d [12,.o (.row (Qb e)),6] Z (QI a)<|F h Z Z U
def Cr (a:Int)(b:Int):O_ (Int×Int):=bif (((decide (a<0))==(decide (b<0)))&&((decide ((Qj (a+b))<0)) != (decide (a<0))))then some (0,6)else some ((Qj (a+b)),0)
def Qjh (a d):CT 266 [.I a,.I d] [] (Cr a d) (λr=>(.tup [.I r.1,.I r.2])) no_:=
 W 23 func266 Z λC e r h=>H e [16] Z<|Y ⟨[(6,.I (Qj (a+d))),(21,.b (((decide (a<0))==(decide (d<0)))&&((decide ((Qj (a+d))<0)) != (decide (a<0)))))],[]⟩ (H e [7] Z<|bO_ ((decide (a<0))==(decide (d<0))) (λc=>G e [.S 15 (.b true),7,.S 21 (.b (((decide (a<0))==(decide (d<0)))&&((decide ((Qj (a+d))<0)) != (decide (a<0)))))] Z ⟨(tc_ c),(cb_ (XL c Z))⟩<|M Z) λc=>G e [.S 15 (.b false),7,.S 21 (.b (((decide (a<0))==(decide (d<0)))&&((decide ((Qj (a+d))<0)) != (decide (a<0)))))] Z ⟨(tc_ c),(cb_ (Yp c Z))⟩<|M Z)<|H e [1] Z<|I h (λf h=>J e [.T,8] Z f<|F h Z Z U) λf h=>J e [.F,10] Z f<|F h Z Z U
def Wg (a:Int)(b:Int):O_ (Int×Int):=bif (((decide (a<0)) != (decide (b<0)))&&((decide ((Qj (a-b))<0)) != (decide (a<0))))then some (0,6)else some ((Qj (a-b)),0)
def QaT (a d):CT 267 [.I a,.I d] [] (Wg a d) (λr=>(.tup [.I r.1,.I r.2])) no_:=
 W 23 func267 Z λC e r h=>H e [16] Z<|Y ⟨[(6,.I (Qj (a-d))),(21,.b (((decide (a<0)) != (decide (d<0)))&&((decide ((Qj (a-d))<0)) != (decide (a<0)))))],[]⟩ (H e [7] Z<|bO_ ((decide (a<0)) != (decide (d<0))) (λc=>G e [.S 15 (.b true),7,.S 21 (.b (((decide (a<0)) != (decide (d<0)))&&((decide ((Qj (a-d))<0)) != (decide (a<0)))))] Z ⟨(tc_ c),(cb_ (XL c Z))⟩<|M Z) λc=>G e [.S 15 (.b false),7,.S 21 (.b (((decide (a<0)) != (decide (d<0)))&&((decide ((Qj (a-d))<0)) != (decide (a<0)))))] Z ⟨(tc_ c),(cb_ (Yp c Z))⟩<|M Z)<|H e [1] Z<|I h (λf h=>J e [.T,8] Z f<|F h Z Z U) λf h=>J e [.F,10] Z f<|F h Z Z U
def AU (a:Int):O_ Int:=bif (a<0)then some (IntKind.u64.wrap (0-(IntKind.u64.wrap a)))else some (IntKind.u64.wrap a)
def ZN (c):CT 274 [.I c] [] (AU c) (λr=>(.i .u64 r)) no_:=
 W 10 func274 Z λC b r h=>H b [12] Z<|I h (λa h=>K b [.T,3,.o (.any (.i .u64 (IntKind.u64.wrap c)) none),6] Z a (λσ d e _=>Ql.convI Z Z (QZ b.n Z) (d _ _ Z) QeE Qcj)<|E h Z U) λa h=>K b [.F,5,.o (.any (.i .u64 (IntKind.u64.wrap c)) none),4] Z a (λσ d e _=>Ql.convI Z Z (QZ b.n Z) (d _ _ Z) QeE Qcj)<|E h Z U
def DH (a:Int)(b:Int):O_ (Int×Int):=some ((IntKind.u64.wrap ((IntKind.u64.wrap ((IntKind.u64.wrap ((YW .u64 a 32)*(YW .u64 b 32)))+(YW .u64 (IntKind.u64.wrap ((IntKind.u64.wrap ((YW .u64 a 32)*(Dh .u64 b 4294967295)))+(YW .u64 (IntKind.u64.wrap ((Dh .u64 a 4294967295)*(Dh .u64 b 4294967295))) 32))) 32)))+(YW .u64 (IntKind.u64.wrap ((Dh .u64 (IntKind.u64.wrap ((IntKind.u64.wrap ((YW .u64 a 32)*(Dh .u64 b 4294967295)))+(YW .u64 (IntKind.u64.wrap ((Dh .u64 a 4294967295)*(Dh .u64 b 4294967295))) 32))) 4294967295)+(IntKind.u64.wrap ((Dh .u64 a 4294967295)*(YW .u64 b 32))))) 32))),(IntKind.u64.wrap (a*b)))
def QaU (b c):CT 273 [.i .u64 b,.i .u64 c] [] (DH b c) (λr=>(.tup [.i .u64 r.1,.i .u64 r.2])) no_:=
 W 51 func273 Z λC d r h=>G d [9,.o (.any (.i .u64 (Dh .u64 b 4294967295)) none),6,.o (.any (.i .u64 (YW .u64 b 32)) none),6,.o (.any (.i .u64 (Dh .u64 c 4294967295)) none),6,.o (.any (.i .u64 (YW .u64 c 32)) none),17,.o (.any (.i .u64 (YW .u64 (IntKind.u64.wrap ((Dh .u64 b 4294967295)*(Dh .u64 c 4294967295))) 32)) none),7,.o (.any (.i .u64 (Dh .u64 (IntKind.u64.wrap ((IntKind.u64.wrap ((YW .u64 b 32)*(Dh .u64 c 4294967295)))+(YW .u64 (IntKind.u64.wrap ((Dh .u64 b 4294967295)*(Dh .u64 c 4294967295))) 32))) 4294967295)) none),6,.o (.any (.i .u64 (YW .u64 (IntKind.u64.wrap ((IntKind.u64.wrap ((YW .u64 b 32)*(Dh .u64 c 4294967295)))+(YW .u64 (IntKind.u64.wrap ((Dh .u64 b 4294967295)*(Dh .u64 c 4294967295))) 32))) 32)) none),21,.o (.any (.i .u64 (YW .u64 (IntKind.u64.wrap ((Dh .u64 (IntKind.u64.wrap ((IntKind.u64.wrap ((YW .u64 b 32)*(Dh .u64 c 4294967295)))+(YW .u64 (IntKind.u64.wrap ((Dh .u64 b 4294967295)*(Dh .u64 c 4294967295))) 32))) 4294967295)+(IntKind.u64.wrap ((Dh .u64 b 4294967295)*(YW .u64 c 32))))) 32)) none),13] Z (a8_ (λσ a e _=>Ql.andB Z Z (QZ d.n Z) (a _ _ Z) (a _ _ Z)) (λσ a e _=>Ql.shr Z Z (QZ d.n Z) (a _ _ Z) (a _ _ Z) (by decide)) (λσ a e _=>Ql.andB Z Z (QZ d.n Z) (a _ _ Z) (a _ _ Z)) (λσ a e _=>Ql.shr Z Z (QZ d.n Z) (a _ _ Z) (a _ _ Z) (by decide)) (λσ a e _=>Ql.shr Z Z (QZ d.n Z) (a _ _ Z) (a _ _ Z) (by decide)) (λσ a e _=>Ql.andB Z Z (QZ d.n Z) (a _ _ Z) (a _ _ Z)) (λσ a e _=>Ql.shr Z Z (QZ d.n Z) (a _ _ Z) (a _ _ Z) (by decide)) (λσ a e _=>Ql.shr Z Z (QZ d.n Z) (a _ _ Z) (a _ _ Z) (by decide)))<|F h Z Z U
def Wh (b:(Int×Int))(c:Int)(d:Int)(a:Int):O_ (Int×Int):=
 bif ((0<b.1)||(a<b.2))then
 some (0,6)
 else
 some ((Qj (c*d)),0)
def Uh (a:Int)(b:Int):O_ (Int×Int):=(AU a).bind λd=>(AU b).bind λe=>(DH d e).bind λc=>bif ((decide (a<0)) != (decide (b<0)))then Wh c a b (IntKind.u64.wrap (9223372036854775807+1))else Wh c a b 9223372036854775807
def QdD (l m):CT 268 [.I l,.I m] [] (Uh l m) (λr=>(.tup [.I r.1,.I r.2])) no_:=
 W 34 func268 Z λC g r h=>B h λt p h=>B h λu q h=>B h λf s h=>g3_ g [9,.o (.C1 (.i .u64 t)),1,.o (.C1 (.i .u64 u)),.o (.C2 (.tup [.i .u64 f.1,.i .u64 f.2])),12] Z (ZN _ _ p) (ZN _ _ q) (QaU _ _ _ s)<|mE_ (λa:Int=>⟨[(0,.I l),(1,.I m),(6,.i .u64 f.1),(7,.i .u64 f.2),(8,.i .u64 a)],[]⟩) (λa=>Wh f l m a=some r) (H g [9] Z<|I h (λj h=>J g [.T,5] Z j<|me_ h Z) λj h=>J g [.F,1] Z j<|me_ h Z) λa h=>H g [2] Z<|Y ⟨[(0,.I l),(1,.I m),(30,.b ((0<f.1)||(a<f.2)))],[]⟩ (H g [4] Z<|bO_ (decide (0<f.1)) (λe=>G g [.S 26 (.b true),5,.S 30 (.b ((0<f.1)||(a<f.2)))] Z ⟨(tc_ e),(cb_ (KB e Z))⟩<|M Z) λe=>G g [.S 26 (.b false),5,.S 30 (.b ((0<f.1)||(a<f.2)))] Z ⟨(tc_ e),(cb_ (Yj e Z))⟩<|M Z)<|H g [1] Z<|I h (λk h=>J g [.T,8] Z k<|F h Z Z U) λk h=>J g [.F,12] Z k<|F h Z Z U
def Ks (b:Int)(a:Int):O_ (Int×Int×Int):=bif (a==0)then some (0,0,7)else bif ((b==(-9223372036854775808))&&(a==(-1)))then some (0,0,6)else (chk (a != 0)).bind λ_=>(chk (a != 0)).bind λ_=>some ((Qj (Int.tdiv b a)),(Int.tmod b a),0)
def PL (e g):CT 269 [.I e,.I g] [] (Ks e g) (λr=>(.tup [.I r.1,.I r.2.1,.I r.2.2])) no_:=
 W 23 func269 Z λC c r h=>H c [16] Z<|I h (λf h=>J c [.T,10,.K [4,5,6] []] Z f<|e3_ h Z Z U) λf h=>J c [.F,1] Z f<|Y ⟨[(0,.I e),(1,.I g),(10,.b ((e==(-9223372036854775808))&&(g==(-1))))],[]⟩ (H c [4] Z<|bO_ (e==(-9223372036854775808)) (λa=>G c [.S 13 (.b true),5,.S 10 (.b ((e==(-9223372036854775808))&&(g==(-1))))] Z ⟨(tc_ a),(cb_ (XL a Z))⟩<|M Z) λa=>G c [.S 13 (.b false),5,.S 10 (.b ((e==(-9223372036854775808))&&(g==(-1))))] Z ⟨(tc_ a),(cb_ (Yp a Z))⟩<|M Z)<|H c [1] Z<|I h (λd h=>J c [.T,10,.K [4,5,6] []] Z d<|e3_ h Z Z U) λd h=>X h λi h=>X h λj h=>G c [.F,4,.K [0,1] []] Z (A d) <| 
  dr_ c [.N,.N,.N,.N,.N,.N,.N,.N,.N] [] [] [4,5,6] [] Z Z (a2_ (neZ i) (neZ j)) Z <|
  H c [2,.K [4,5,6] []] Z<|e3_ h Z Z U
def Jy (a:Bool):O_ (Int×Int):=bif a then some (1,0)else some (0,0)
def DQ (c):CT 270 [.b c] [] (Jy c) (λr=>(.tup [.I r.1,.I r.2])) no_:=
 W 5 func270 Z λC d r h=>H d [12] Z<|I h (λa h=>J d [.T,8] Z a<|F h Z Z U) λa h=>J d [.F,9] Z a<|F h Z Z U
def NM (c:Int)(d:Int):O_ (Int×Int):=bif (c != 0)then (Jy (d != 0)).bind λa=>some (a.1,a.2)else (Jy false).bind λb=>some (b.1,b.2)
def SQ (a:Int)(b:Int):O_ (Int×Int):=some (a,b)
def NN (c:Int)(d:Int):O_ (Int×Int):=bif (c != 0)then (Jy true).bind λa=>some (a.1,a.2)else (Jy (d != 0)).bind λb=>some (b.1,b.2)
def SR (a:Int)(b:Int):O_ (Int×Int):=some (a,b)
def Js (Yg:Int)(a:Int)(b:Int):O_ (Int×Int):=bif (Yg==1)then (Cr a b).bind λk=>some (k.1,k.2)else bif (Yg==2)then (Wg a b).bind λc=>some (c.1,c.2)else bif (Yg==3)then (Uh a b).bind λd=>some (d.1,d.2)else bif (Yg==4)then (Ks a b).bind λe=>some (e.1,e.2.2)else bif (Yg==5)then (Ks a b).bind λf=>some (f.2.1,f.2.2)else bif (Yg==6)then (Jy (a==b)).bind λg=>some (g.1,g.2)else bif (Yg==7)then (Jy (a != b)).bind λh=>some (h.1,h.2)else bif (Yg==8)then (Jy (decide (a<b))).bind λi=>some (i.1,i.2)else bif (Yg==9)then (Jy (decide (a<=b))).bind λj=>some (j.1,j.2)else bif (Yg==10)then (NM a b).bind (λv=>SQ v.1 v.2)else bif (Yg==11)then (NN a b).bind (λv=>SR v.1 v.2)else some (0,1)
def NO (Yg a2 b3):CT 260 [.I Yg,.I a2,.I b3] [] (Js Yg a2 b3) (λr=>(.tup [.I r.1,.I r.2])) no_:=
 W 112 func260 Z λC a r h=>H a [19] Z<|I h (λu h=>B h λx9 b8 h=>K a [.T,4,.o (.C2 (.tup [.I x9.1,.I x9.2])),9] Z u (Qjh _ _ _ b8)<|F h Z Z U) λu h=>J a [.F,6] Z u<|I h (λe h=>B h λy z h=>K a [.T,4,.o (.C2 (.tup [.I y.1,.I y.2])),9] Z e (QaT _ _ _ z)<|F h Z Z U) λe h=>J a [.F,6] Z e<|I h (λf h=>B h λD N h=>K a [.T,4,.o (.C2 (.tup [.I D.1,.I D.2])),9] Z f (QdD _ _ _ N)<|F h Z Z U) λf h=>J a [.F,6] Z f<|I h (λg h=>B h λw O h=>K a [.T,4,.o (.C2 (.tup [.I w.1,.I w.2.1,.I w.2.2])),20] Z g (PL _ _ _ O)<|F h Z Z U) λg h=>J a [.F,6] Z g<|I h (λi h=>B h λx P h=>K a [.T,4,.o (.C2 (.tup [.I x.1,.I x.2.1,.I x.2.2])),20] Z i (PL _ _ _ P)<|F h Z Z U) λi h=>J a [.F,6] Z i<|I h (λj h=>B h λa0 a1 h=>K a [.T,5,.o (.C1 (.tup [.I a0.1,.I a0.2])),9] Z j (DQ _ _ a1)<|F h Z Z U) λj h=>J a [.F,6] Z j<|I h (λk h=>B h λa3 a4 h=>K a [.T,5,.o (.C1 (.tup [.I a3.1,.I a3.2])),9] Z k (DQ _ _ a4)<|F h Z Z U) λk h=>J a [.F,6] Z k<|I h (λl h=>B h λa5 a6 h=>K a [.T,5,.o (.C1 (.tup [.I a5.1,.I a5.2])),9] Z l (DQ _ _ a6)<|F h Z Z U) λl h=>J a [.F,6] Z l<|I h (λm h=>B h λa7 a8 h=>K a [.T,5,.o (.C1 (.tup [.I a7.1,.I a7.2])),9] Z m (DQ _ _ a8)<|F h Z Z U) λm h=>J a [.F,6] Z m<|I h (λp h=>J a [.T,1] Z p<|mV_ h (λv=>⟨[(6,.I v.1),(7,.I v.2)],[]⟩) (λv h=>H a [4] Z<|I h (λq h=>B h λa9 b0 h=>G a [.S 94 (.b true),3,.o (.C1 (.tup [.I a9.1,.I a9.2])),5] Z ⟨(tc_ q),(DQ _ _ b0)⟩<|mq_ h Z) λq h=>B h λb1 b2 h=>G a [.S 94 (.b false),3,.o (.C1 (.tup [.I b1.1,.I b1.2])),5] Z ⟨(tc_ q),(DQ _ _ b2)⟩<|mq_ h Z) λ⟨b9,c0⟩ h=>H a [4] Z<|F h Z Z U) λp h=>J a [.F,6] Z p<|I h (λs h=>J a [.T,1] Z s<|mV_ h (λv=>⟨[(6,.I v.1),(7,.I v.2)],[]⟩) (λv h=>H a [4] Z<|I h (λt h=>B h λb4 b5 h=>G a [.S 105 (.b true),3,.o (.C1 (.tup [.I b4.1,.I b4.2])),5] Z ⟨(tc_ t),(DQ _ _ b5)⟩<|mq_ h Z) λt h=>B h λb6 b7 h=>G a [.S 105 (.b false),3,.o (.C1 (.tup [.I b6.1,.I b6.2])),5] Z ⟨(tc_ t),(DQ _ _ b7)⟩<|mq_ h Z) λ⟨c1,c2⟩ h=>H a [4] Z<|F h Z Z U) λs h=>J a [.F,10] Z s<|F h Z Z U
def NP (b:Int):O_ (Int×Int):=(Js 2 0 b).bind λa=>some (a.1,a.2)
def Qji (b):CT 259 [.I b] [] (NP b) (λr=>(.tup [.I r.1,.I r.2])) no_:=
 W 8 func259 Z λC f r h=>B h λe a h=>J f [9,.o (.C3 (.tup [.I e.1,.I e.2])),7] Z (NO _ _ _ _ a)<|F h Z Z U
def EE (h:LI_->Qi->O_ (Int×Int))(e:LI_)(d:Qi):O_ (Int×Int):=(idx d.Kids 0).bind λf=>(h e f).bind λc=>bif (c.2 != 0)then some (0,c.2)else bif (d.Kind==3)then (NP c.1).bind λa=>some (a.1,a.2)else (Js 6 c.1 0).bind λb=>some (b.1,b.2)
def QaV (D:LI_->Qi->O_ (Int×Int))(hrec_expr_env_eval:∀(e:LI_) (f:Qi) {r:(Int×Int)},D e f=some r->QP prog 140 [.sl 1 (e.map Qb),.agg (Qm f)] [] (Gives (.tup [.I r.1,.I r.2]) []))(e:LI_)(f:Qi):CT 246 [.sl 1 (e.map Qb),.agg (Qm f)] [] (EE D e f) (λr=>(.tup [.I r.1,.I r.2])) no_:=
 W 33 func246 Z λC g r h=>B h λq m h=>B h λs p h=>g3_ g [12,.o (.row (Qm q)),.A (Qm q),.o (.C2 (.tup [.I s.1,.I s.2])),16] Z (Jc m) Z (hrec_expr_env_eval _ _ p)<|I h (λb h=>J g [.T,10] Z b<|F h Z Z U) λb h=>J g [.F,8] Z b<|I h (λa h=>B h λi j h=>K g [.T,3,.o (.C1 (.tup [.I i.1,.I i.2])),9] Z a (Qji _ _ j)<|F h Z Z U) λa h=>B h λk l h=>K g [.F,6,.o (.C3 (.tup [.I k.1,.I k.2])),7] Z a (NO _ _ _ _ l)<|F h Z Z U
def Wi (f:(Int×Int))(g:Qi)(j:LI_->Qi->O_ (Int×Int))(h:LI_)(d:Bool):O_ (Int×Int):=bif d then (Js 7 f.1 0).bind λb=>some (b.1,b.2)else (idx g.Kids 1).bind λe=>(j h e).bind λa=>bif (a.2 != 0)then some (0,a.2)else (Js g.Num f.1 a.1).bind λc=>some (c.1,c.2)
def Iw (h:LI_->Qi->O_ (Int×Int))(c:LI_)(b:Qi):O_ (Int×Int):=(idx b.Kids 0).bind λd=>(h c d).bind λa=>bif (a.2 != 0)then some (0,a.2)else bif ((b.Num==10)&&(a.1==0))then Wi a b h c ((b.Num==10)&&(a.1==0))else bif (b.Num==11)then Wi a b h c (a.1 != 0)else Wi a b h c false
def QdE (rec_expr_env_eval:LI_->Qi->O_ (Int×Int))(hrec_expr_env_eval:∀(m:LI_) (f:Qi) {r:(Int×Int)},rec_expr_env_eval m f=some r->QP prog 140 [.sl 1 (m.map Qb),.agg (Qm f)] [] (Gives (.tup [.I r.1,.I r.2]) []))(m:LI_)(f:Qi):CT 247 [.sl 1 (m.map Qb),.agg (Qm f)] [] (Iw rec_expr_env_eval m f) (λr=>(.tup [.I r.1,.I r.2])) no_:=
 W 60 func247 Z λC e r h=>B h λP N h=>B h λp O h=>g3_ e [12,.o (.row (Qm P)),.A (Qm P),.o (.C2 (.tup [.I p.1,.I p.2])),16] Z (Jc N) Z (hrec_expr_env_eval _ _ O)<|I h (λq h=>J e [.T,10] Z q<|F h Z Z U) λq h=>J e [.F] Z q<|mE_ (λl:Bool=>⟨[(0,.sl 1 (m.map Qb)),lk_ 3,(6,.I p.1),(22,.b l)],[(3,.var (Qm f))]⟩) (λl=>Wi p f rec_expr_env_eval m l=some r) (H e [1] Z<|Y ⟨[(0,.sl 1 (m.map Qb)),lk_ 3,(6,.I p.1),(22,.b ((f.Num==10)&&(p.1==0)))],[(3,.var (Qm f))]⟩ (H e [5] Z<|bO_ (f.Num==10) (λa=>G e [.S 26 (.b true),5,.S 22 (.b ((f.Num==10)&&(p.1==0)))] Z ⟨(tc_ a),(cb_ (XL a Z))⟩<|M Z) λa=>G e [.S 26 (.b false),5,.S 22 (.b ((f.Num==10)&&(p.1==0)))] Z ⟨(tc_ a),(cb_ (Yp a Z))⟩<|M Z)<|H e [1] Z<|I h (λg h=>J e [.T,1] Z g<|me_ h Z) λg h=>J e [.F,5] Z g<|I h (λi h=>L e [.S 33 (.b true),5] Z i<|me_ h Z) λi h=>L e [.S 33 (.b false),5] Z i<|me_ h Z) λl h=>I h (λj h=>B h λs t h=>K e [.T,3,.o (.C3 (.tup [.I s.1,.I s.2])),9] Z j (NO _ _ _ _ t)<|F h Z Z U) λj h=>B h λu w h=>B h λx y h=>g4_ e [.F,8,.o (.row (Qm u)),.A (Qm u),.o (.C2 (.tup [.I x.1,.I x.2])),14] Z j (Jc w) Z (hrec_expr_env_eval _ _ y)<|I h (λk h=>J e [.T,9] Z k<|F h Z Z U) λk h=>B h λz D h=>K e [.F,8,.o (.C3 (.tup [.I z.1,.I z.2])),7] Z k (NO _ _ _ _ D)<|F h Z Z U
def Bo (j:LI_->Qi->O_ (Int×Int))(c:LI_)(d:Qi):O_ (Int×Int):=(idx d.Kids 0).bind λh=>(j c h).bind λe=>bif (e.2 != 0)then some (0,e.2)else bif (e.1 != 0)then (idx d.Kids 1).bind λf=>(j c f).bind λa=>some (a.1,a.2)else (idx d.Kids 2).bind λg=>(j c g).bind λb=>some (b.1,b.2)
def QaW (rec_expr_env_eval:LI_->Qi->O_ (Int×Int))(D:∀(e:LI_) (f:Qi) {r:(Int×Int)},rec_expr_env_eval e f=some r->QP prog 140 [.sl 1 (e.map Qb),.agg (Qm f)] [] (Gives (.tup [.I r.1,.I r.2]) []))(e:LI_)(f:Qi):CT 248 [.sl 1 (e.map Qb),.agg (Qm f)] [] (Bo rec_expr_env_eval e f) (λr=>(.tup [.I r.1,.I r.2])) no_:=
 W 40 func248 Z λC g r h=>B h λw t h=>B h λx u h=>g3_ g [12,.o (.row (Qm w)),.A (Qm w),.o (.C2 (.tup [.I x.1,.I x.2])),16] Z (Jc t) Z (D _ _ u)<|I h (λb h=>J g [.T,10] Z b<|F h Z Z U) λb h=>J g [.F,7] Z b<|I h (λa h=>B h λi j h=>B h λk l h=>g4_ g [.T,5,.o (.row (Qm i)),.A (Qm i),.o (.C2 (.tup [.I k.1,.I k.2])),9] Z a (Jc j) Z (D _ _ l)<|F h Z Z U) λa h=>B h λm p h=>B h λq s h=>g4_ g [.F,8,.o (.row (Qm m)),.A (Qm m),.o (.C2 (.tup [.I q.1,.I q.2])),7] Z a (Jc p) Z (D _ _ s)<|F h Z Z U
def PM (b:Qi)(c:LI_):O_ (Int×Int):=(Rq c b).bind λa=>some (a.1,a.2)
def WX (b:Qi)(c:LI_):O_ (Int×Int):=(UK c b).bind λa=>some (a.1,a.2)
def JN (h:LI_->Qi->O_ (Int×Int))(c:Qi)(b:LI_):O_ (Int×Int):=(EE h b c).bind λa=>some (a.1,a.2)
def WY (h:LI_->Qi->O_ (Int×Int))(c:Qi)(b:LI_):O_ (Int×Int):=(Iw h b c).bind λa=>some (a.1,a.2)
def WZ (h:LI_->Qi->O_ (Int×Int))(c:Qi)(b:LI_):O_ (Int×Int):=(Bo h b c).bind λa=>some (a.1,a.2)
def EF (h:LI_->Qi->O_ (Int×Int))(b:LI_)(a:Qi):O_ (Int×Int):=(Kr b a.Kind).bind λc=>(Sum.elim (λq=>PM a q) (Sum.elim (λq=>WX a q) (Sum.elim (λq=>JN h a q) (Sum.elim (λq=>WY h a q) (λq=>WZ h a q))))) c
def Xx : Nat->LI_->Qi->O_ (Int×Int)
 | 0,_,_=>none
 | n+1,a,b=>EF (Xx n) a b
def FV (b:LI_)(a:Qi):O_ (Int×Int):=Xx (SizeOf.sizeOf a) b a
def QaX (rec_expr_env_eval:LI_->Qi->O_ (Int×Int))(hrec_expr_env_eval:∀(o:LI_) (e:Qi) {r:(Int×Int)},rec_expr_env_eval o e=some r->QP prog 140 [.sl 1 (o.map Qb),.agg (Qm e)] [] (Gives (.tup [.I r.1,.I r.2]) []))(o:LI_)(e:Qi):CT 140 [.sl 1 (o.map Qb),.agg (Qm e)] [] (EF rec_expr_env_eval o e) (λr=>(.tup [.I r.1,.I r.2])) no_:=by
 refine W 14 func140 rfl λC b r h=>?_
 refine tg_ b [8] ?_
 obtain⟨S,f,h⟩:=Qw h
 rcases S with(O | (P | (j | (k | l))))
 ·exact have h:PM e O=some r:=h;B h λp q h=>H b [.K [0,3,4,5] [3]] Z <| 
    dr_ b [.N,.N,.N,.B (.any (.clo (.func 244) [.sl 1 (O.map Qb)] []) none),.E (.agg (Qm e)),.B (.C2 (.tup [.I p.1,.I p.2])),.N,.N,.m .s,.m .s] [] [] [4,5] [] Z Z (a3_ (λσ g i _=>Ql.callSame (md:=.cm (.fn) [] [] [] [.d,.d] [] (.clo (.func 244) [.sl 1 (O.map Qb)] []) []) QN b g i Z (A (GQ _ _ f))) Z (QaS _ _ _ q)) Z <|
    H b [2] Z<|F h Z Z U
 ·exact have h:WX e P=some r:=h;B h λt u h=>H b [.K [0,3,4,5] [3]] Z <| 
    dr_ b [.N,.N,.N,.B (.any (.clo (.func 245) [.sl 1 (P.map Qb)] []) none),.E (.agg (Qm e)),.B (.C2 (.tup [.I t.1,.I t.2])),.N,.N,.m .s,.m .s] [] [] [4,5] [] Z Z (a3_ (λσ g i _=>Ql.callSame (md:=.cm (.fn) [] [] [] [.d,.d] [] (.clo (.func 245) [.sl 1 (P.map Qb)] []) []) QN b g i Z (A (GQ _ _ f))) Z (Zo _ _ _ u)) Z <|
    H b [2] Z<|F h Z Z U
 ·exact have h:JN rec_expr_env_eval e j=some r:=h;B h λv w h=>H b [.K [0,3,4,5] [3]] Z <| 
    dr_ b [.N,.N,.N,.B (.any (.clo (.func 246) [.sl 1 (j.map Qb)] []) none),.E (.agg (Qm e)),.B (.C2 (.tup [.I v.1,.I v.2])),.N,.N,.m .s,.m .s] [] [] [4,5] [] Z Z (a3_ (λσ g i _=>Ql.callSame (md:=.cm (.fn) [] [] [] [.d,.d] [] (.clo (.func 246) [.sl 1 (j.map Qb)] []) []) QN b g i Z (A (GQ _ _ f))) Z (QaV rec_expr_env_eval hrec_expr_env_eval _ _ _ w)) Z <|
    H b [2] Z<|F h Z Z U
 ·exact have h:WY rec_expr_env_eval e k=some r:=h;B h λx y h=>H b [.K [0,3,4,5] [3]] Z <| 
    dr_ b [.N,.N,.N,.B (.any (.clo (.func 247) [.sl 1 (k.map Qb)] []) none),.E (.agg (Qm e)),.B (.C2 (.tup [.I x.1,.I x.2])),.N,.N,.m .s,.m .s] [] [] [4,5] [] Z Z (a3_ (λσ g i _=>Ql.callSame (md:=.cm (.fn) [] [] [] [.d,.d] [] (.clo (.func 247) [.sl 1 (k.map Qb)] []) []) QN b g i Z (A (GQ _ _ f))) Z (QdE rec_expr_env_eval hrec_expr_env_eval _ _ _ y)) Z <|
    H b [2] Z<|F h Z Z U
 exact have h:WZ rec_expr_env_eval e l=some r:=h;B h λz D h=>H b [.K [0,3,4,5] [3]] Z <| 
   dr_ b [.N,.N,.N,.B (.any (.clo (.func 248) [.sl 1 (l.map Qb)] []) none),.E (.agg (Qm e)),.B (.C2 (.tup [.I z.1,.I z.2])),.N,.N,.m .s,.m .s] [] [] [4,5] [] Z Z (a3_ (λσ g i _=>Ql.callSame (md:=.cm (.fn) [] [] [] [.d,.d] [] (.clo (.func 248) [.sl 1 (l.map Qb)] []) []) QN b g i Z (A (GQ _ _ f))) Z (QaW rec_expr_env_eval hrec_expr_env_eval _ _ _ D)) Z <|
   H b [2] Z<|F h Z Z U
def NQ : ∀(fuel:Nat) (a:LI_) (b:Qi) {r:(Int×Int)},Xx fuel a b=some r->QP prog 140 [.sl 1 (a.map Qb),.agg (Qm b)] [] (Gives (.tup [.I r.1,.I r.2]) [])
 | 0,_,_,_,h=>by cases h
 | n+1,a,b,_,h=>QaX (Xx n) (λ_ _ _ h=>NQ n _ _ h) a b _ h
def Qcn (a b){r}(h:FV a b=some r):QP prog 140 [.sl 1 (a.map Qb),.agg (Qm b)] [] (Gives (.tup [.I r.1,.I r.2]) []):=NQ _ a b h
def AV (b:Qi)(a:LI_):O_ (Int×Int):=(GP b (a.length:Int)).bind λd=>bif (!d)then some (0,1)else (FV a b).bind λc=>some (c.1,c.2)
def ZO (f a):CT 83 [.agg (Qm f),.sl 1 (a.map Qb)] [] (AV f a) (λr=>(.tup [.I r.1,.I r.2])) no_:=
 W 16 func83 Z λC g r h=>B h λl i h=>g3_ g [10,.A (Qm f),1,.o (.ln a.length),.o (.C2 (.b l)),3] Z Z Qc (NL _ _ _ i)<|I h (λe h=>J g [.T,8] Z e<|F h Z Z U) λe h=>B h λk j h=>g3_ g [.F,5,.A (Qm f),.o (.C2 (.tup [.I k.1,.I k.2])),7] Z e Z (Qcn _ _ j)<|F h Z Z U
def Xu (b:QX):O_ Int:=(AV b.task.Guard b.env).bind λa=>bif (a.2 != 0)then some a.2 else bif (a.1==0)then some 9 else some 0
def HH (f):CT 42 [.agg (QD f)] [] (Xu f) V.I no_:=
 W 21 func42 Z λC e r h=>B h λi g h=>K e [10,.A (Qm f.task.Guard),2,.o (.C2 (.tup [.I i.1,.I i.2])),16] Z Z (ZO _ _ _ g)<|I h (λa h=>J e [.T,9] Z a<|E h Z U) λa h=>J e [.F,7] Z a<|I h (λb h=>J e [.T,8] Z b<|E h Z U) λb h=>J e [.F,9] Z b<|E h Z U
def Dg (a:QLL):O_ QLL:=(chk ((([]:L_ LI_).length+a.length)*24<=140737488355328)).bind λ_=>some (([]:L_ LI_)++a)
def OS (b):CT 79 [.sl 1 (b.map Qz)] [] (Dg b) (λr=>(.own 600 r.length)) (λr=>[(600,.arr 1 (r.map Qz))]):=by
 refine W 8 func79 rfl λC a r h=>?_
 unfold Dg at h
 refine tg_ a [9] ?_
 refine AK.eqNil rfl rfl rfl (QZ a.n rfl) rfl rfl Qpq ?_ ?_
 ·intro c
  replace h:some ([]:L_ LI_)=some r:=by simpa[chk,List.map_eq_nil_iff.1 c] using h
  exact K a [10,.adopt 2 600 1,.O 600 (.arr 1 (([]:L_ LI_).map Qz)),.S 2 (.own 600 ([]:L_ LI_).length)] Z Z Z<|E h Z r1_
 exact X h λd h=>g3_ a [8,.O 5 (.arr 1 (([]:L_ LI_).map Qz)),.S 5 (.own 5 ([]:L_ LI_).length),1,.x (λσ=>σ.app 5 1 7 (([]:L_ LI_)++b).length ((([]:L_ LI_)++b).map Qz)),4,.K [2] [5],.ren 5 600] Z Z Z (Ql.appSB (by_:=24) (zs:=[.Y]) (e:=29) (e':=29) (z':=1) (by':=24) Z Z (QZ a.n Z) Z Z Z Qc (by kernel_rfl) (by kernel_rfl) (by kernel_rfl) Z (by decide) (by decide) (Qdk d Qc) Z XG (YC Qc))<|E h Z r1_
def JO (c:(Bool×XZ))(a:Int):O_ (Int×Bool):=(JT c.2 a).bind λb=>bif (!b)then some (0,false)else some (a,true)
def Wo (d:(L_ QM))(e:Int)(b:Int):O_ (Int×Bool):=
 (Ww d e).bind λc=>
 bif (!c.1)then
 some (0,false)
 else
 (Jr c.2).bind λa=>
 bif (a.Kind==1)then
 bif ((b<a.Lo)||(a.Hi<b))then
 some (0,false)
 else
 JO c (Qj (b-a.Lo))
 else
 JO c b
def Qco (w x k):CT 141 [.sl 7 (w.map Qt),.I x,.I k] [] (Wo w x k) (λr=>(.tup [.I r.1,.b r.2])) no_:=
 W 43 func141 Z λC f r h=>B h λm t h=>K f [10,.o (.C2 (.tup [.agg (Xw m.2),.b m.1])),5,.O 8 (.var (Xw m.2)),10] Z (OQ _ _ _ t) Z<|I h (λp h=>J f [.T,8] Z p<|F h Z Z U) λp h=>J f [.F,2] Z p<|mE_ (λl:Int=>⟨[(2,.I l),lk_ 8],[(8,.var (Xw m.2))]⟩) (λl=>JO m l=some r) (B h λa q h=>g3_ f [2,.A (Xw m.2),.o (.C1 (.agg (Qt a))),2,.O 10 (.var (Qt a)),9] Z Z (AT _ _ q) Z<|I h (λg h=>J f [.T,2] Z g<|Y ⟨[(2,.I k),lk_ 8,lk_ 10,(33,.b ((k<a.Lo)||(a.Hi<k)))],[(8,.var (Xw m.2)),(10,.var (Qt a))]⟩ (H f [6] Z<|bO_ (decide (k<a.Lo)) (λe=>G f [.S 28 (.b true),6,.S 33 (.b ((k<a.Lo)||(a.Hi<k)))] Z ⟨(tc_ e),(cb_ (KB e Z))⟩<|M Z) λe=>G f [.S 28 (.b false),6,.S 33 (.b ((k<a.Lo)||(a.Hi<k)))] Z ⟨(tc_ e),(cb_ (Yj e Z))⟩<|M Z)<|H f [1] Z<|I h (λi h=>J f [.T,9] Z i<|F h Z Z U) λi h=>J f [.F,9] Z i<|me_ h Z) λg h=>J f [.F,1] Z g<|me_ h Z) λl h=>B h λu s h=>K f [3,.A (Xw m.2),1,.o (.C2 (.b u)),3] Z Z (OJ _ _ _ s)<|I h (λj h=>J f [.T,8] Z j<|F h Z Z U) λj h=>J f [.F,10] Z j<|F h Z Z U
def Dx (a:QBg):O_ Unit:=some ()
def LO (a):CT 207 [.map 617] [(617,.map (QT V.I V.I a))] (Dx a) (λ_=>(.clo (.func 250) [] [.L 1])) (λ_=>[(1,.var [.map 617]),(617,.map (QT V.I V.I a))]):=
 W 4 func207 Z λC b r h=>H b [13] Z<|E h Z r2_
def KW (a:LI_)(b:Int):O_ LI_:=(chk (a.length+([b]:L_ Int).length<=4294967296)).bind λ_=>some (a++([b]:L_ Int))
def FB (D j:Nat)(a:LI_)(c:Int){r:LI_}(h:KW a c=some r):PI prog D (Up j) (Qqy (.L 618) (.I c)) [(617,.lp D (Up j) (Zn (.L 618)) 0),(618,.var [.own 615 a.length]),(615,.arr 1 (a.map Qb))] (Gives (.b true) [(615,.arr 1 (r.map Qb)),(617,.lp D (Up j) (Zn (.L 618)) 0),(618,.var [.own 615 r.length])]):=by
 refine PI.walk (b:=617) 13 rfl rfl λC e=>?_
 refine tg_ e [3] ?_
 refine AK.done (an_ rfl (ex_ _ (an_ rfl ?_)))
 obtain⟨d,h⟩:=QhV h
 refine QJ e [4,.v (.bd []) [] (.sl 1 (([c]:L_ Int).map Qb)),.app ((a++([c]:L_ Int)).map Qb) (a++([c]:L_ Int)).length,1,.O 618 (.var [.own 615 (a++([c]:L_ Int)).length]),2,.K [] [615,617,618]] Z (a3_ Z ⟨Qc,Yk d Qc,XG,YC Qc⟩ Z) ?_
 cases h
 refine AK.done ?_
 exact ex_ _ (an_ Z (gives r3_))
def Ix (lpl lpf:Nat)(c:LI_)(i:QBg)(hlen:c.length+i.length<=4294967296):QP prog 250 [.clo (.yield lpl) [] [],.L 619] [(617,.lp lpl (Up lpf) (Zn (.L 618)) 0),(618,.var [.own 615 c.length]),(615,.arr 1 (c.map Qb)),(619,.var [.map 620]),(620,.map (QT V.I V.I i))] (λv hs=>∃r:L_ Int,r.Perm (c++i.map Prod.fst)/\Gives (.tup []) [(615,.arr 1 (r.map Qb)),(617,.lp lpl (Up lpf) (Zn (.L 618)) 0),(618,.var [.own 615 r.length]),(619,.var [.map 620]),(620,.map (QT V.I V.I i))] v hs):=by
 refine wk_ 14 func250 λC a=>?_
 refine tg_ a [3] ?_
 refine AK.openMap (b:=620) Cm rfl λk l L4 p s=>?_
 refine QJ a [.x (λσ=>(σ.set 5 (.itr k l #[] none)).put 5 (.L 5)),3,.K [0,5] [5,615,617,618,619,620]] Z (A (Ql.range (b:=620) Z Z (QZ a.n Z) Z Z GO Z)) ?_
 have hL0:YG L4 #[]=L4:=by simp[YG]
 have z:(c++(YG L4 #[]).map (λq=>q.2.1)).Perm (c++i.map Prod.fst):=by
  rw[hL0]
  refine List.Perm.append_left c ?_
  have:=s.map Prod.fst
  rwa[RS]at this
 refine AK.range (body:=QlT) (λ(_:Nat) seen σ=>∃(cur:O_ Nat) (st:L_ Int),(st++(YG L4 seen).map (λq=>q.2.1)).Perm (c++i.map Prod.fst)/\σ=⟨[(0,.clo (.yield lpl) [] []),lk_ 5],[(5,.itr k l seen cur),(615,.arr 1 (st.map Qb)),(617,.lp lpl (Up lpf) (Zn (.L 618)) 0),(618,.var [.own 615 st.length]),(619,.var [.map 620]),(620,.mapX k l (Fz V.I V.I L4) (QT V.I V.I i))]⟩) (λ(q:Empty) _ _=>False) (λ_ e σ=>∃st:L_ Int,st.Perm (c++i.map Prod.fst)/\e=.exit 0/\σ=⟨[],[(615,.arr 1 (st.map Qb)),(617,.lp lpl (Up lpf) (Zn (.L 618)) 0),(618,.var [.own 615 st.length]),(619,.var [.map 620]),(620,.mapX k l (Fz V.I V.I L4) (QT V.I V.I i))]⟩) p s (QmP i 0) (ex_ _ (ex_ c (an_ z rfl))) ?_ ?_
 ·rintro P seen σ ⟨cur,o,hpp,rfl⟩ hex
  refine tg_ a [2] ?_
  refine AK.nextT (b:=5) (m:=620) rfl rfl rfl (QZ a.n rfl) rfl rfl rfl rfl ?_ ?_
  ·intro hleft
   refine tg_ a [7,.K [] [615,617,618,619,620]] ?_
   exact AK.done (Or.inl (an_ hleft (an_ (λh=>(by cases h)) (ex_ o (an_ (by simpa[hleft] using hpp) (an_ Z Z))))))
  intro D y S u
  have hpk:=(QaC p u).map (λq=>q.2.1)
  have w:((o++[y])++(YG L4 (seen.push D)).map (λq=>q.2.1)).Perm (c++i.map Prod.fst):=List.Perm.trans (by simpa using (List.Perm.append_left o hpk).symm) hpp
  have O:o.length+([y]:L_ Int).length<=4294967296:=by
   have:=w.length_eq
   simp at this ⊢
   omega
  have t:KW o y=some (o++[y]):=by
   unfold KW
   rw[QB O];rfl
  obtain⟨j,hxe⟩:∃x,x=o++[y]:=⟨_,rfl⟩
  rw[<-hxe]at t w
  refine QJ a [10,.x (λσ=>σ.put 8 (.tup [.I y,.I S])),8,.x (λσ=>(σ.after [615] [(615,.arr 1 (j.map Qb)),(617,.lp lpl (Up lpf) (Zn (.L 618)) 0),(618,.var [.own 615 j.length])]).put 12 (.b true)),6,.K [0,5] [5,615,617,618,619,620]] Z (a2_ (Ql.entryT (b:=5) (m:=620) (e:=V.I) (f:=V.I) Z Z (QZ a.n Z) Z u Z Z) (Ql.yieldV (b:=617) (M:=[(617,617),(618,618),(615,615)]) (N:=[(615,615),(617,617),(618,618)]) (dead:=[615]) (ms:=[.d,.d,.d,.d,.d,.d,.d,.d,.d,.d,.d,.d,.d]) (outs:=[(615,.arr 1 (j.map Qb)),(617,.lp lpl (Up lpf) (Zn (.L 618)) 0),(618,.var [.own 615 j.length])]) (r:=.b true) Z Z Z Z Z Z Z (QZ a.n Z) a.g Z Z (FB _ _ _ _ t))) ?_
  exact AK.done (Or.inr (ex_ _ (an_ u (Or.inl (ex_ (P+1) (an_ Z (an_ Z (ex_ _ (ex_ j (an_ w Z))))))))))
 rintro e σ ⟨o,hpp,rfl,rfl⟩
 refine tg_ a [1] ?_
 refine AK.closeMap (b:=620) rfl ?_
 refine tg_ a [.K [] [615,617,618,619,620]] ?_
 refine AK.done ?_
 exact ex_ [] (an_ U (ex_ o (an_ hpp (gives r5_))))
def OH (a:QBg)(h:a.length<=4294967296):QP prog 261 [.Y,.clo (.func 250) [] [.L 617]] [(617,.var [.map 618]),(618,.map (QT V.I V.I a))] (λv hs=>∃r:L_ Int,r.Perm (a.map Prod.fst)/\Gives (.own 600 r.length) [(600,.arr 1 (r.map Qb)),(617,.var [.map 618]),(618,.map (QT V.I V.I a))] v hs):=by
 refine QP.walkR 13 func261 Z ntmps261 Z λC c hR=>?_
 refine tg_ c [13,.K [2,4,6] [2,617,618]] ?_
 refine QJ c [.adoptO 2 0 607 1,.O 607 (.arr 1 (([]:L_ Int).map Qb)),.O 2 (.var [.own 607 ([]:L_ Int).length])] Z (a2_ Z Z) ?_
 refine AK.rangeFE (ι:=L_ Int) (Φ:=λx=>x.Perm (a.map Prod.fst)) 614 [2] [(617,614),(618,2),(615,607),(619,617),(620,618)] [(607,615),(614,617),(2,618),(617,619),(618,620)] [607] [.d,.d] Up c hR (λ_=>rfl) rfl rfl rfl rfl λlpl D=>?_
 refine ex_ (λb:L_ Int=>[(615,.arr 1 (b.map Qb)),(617,.lp lpl (Up D) (Zn (.L 618)) 0),(618,.var [.own 615 b.length]),(619,.var [.map 620]),(620,.map (QT V.I V.I a))]) (ex_ (λ_=>.tup []) (ex_ (λb=>_) (ex_ _ (ex_ _ (an_ rfl (an_ rfl (an_ (Ix _ _ ([]:L_ Int) a (by simpa using h)) λb=>ex_ _ (ex_ (Zn (.L 2)) (ex_ 0 (an_ rfl (an_ rfl (an_ (bne_iff_ne.1 (show(0 != 1)=true from rfl)) λj=>?_))))))))))))
 refine Qpj Z ?_
 refine tg_ c [9,.K [4] [607,617,618],.ren 607 600,.K [4] [600,617,618]] ?_
 exact AK.done (ex_ [_] (an_ (an_ Z U) (ex_ b (an_ j (gives r3_)))))
def TV (a:QBg)(h:a.length<=4294967296):QP prog 249 [.clo (.func 250) [] [.L 617]] [(617,.var [.map 618]),(618,.map (QT V.I V.I a))] (λv D=>∃r:L_ Int,r.Perm (a.map Prod.fst)/\Gives (.own 600 r.length) [(600,.arr 1 (r.map Qb)),(617,.var [.map 618]),(618,.map (QT V.I V.I a))] v D):=by
 refine wk_ 5 func249 λC c=>?_
 refine tg_ c [8] ?_
 refine AK.callE (ι:=L_ Int) (Φ:=λx=>x.Perm (a.map Prod.fst)) [(617,617),(618,618)] [(4,600),(617,617),(618,618)] [] [.d,.d] (λb=>[(600,.arr 1 (b.map Qb)),(617,.var [.map 618]),(618,.map (QT V.I V.I a))]) (λb=>(.own 600 b.length)) (λb=>_) rfl c (YZ.fn rfl rfl rfl) rfl (QZ c.n rfl) rfl rfl (OH a h) (λb=>ex_ _ rfl) λb j=>?_
 refine tg_ c [4,.K [2] [4,617,618],.ren 4 600,.K [2] [600,617,618]] ?_
 exact AK.done (ex_ [_] (an_ (an_ Z U) (ex_ b (an_ j (gives r3_)))))
def JC (l:L_ Int):O_ LI_:=(chk (l.length<4611686018427387904)).bind λ_=>some (Df l)
def Ur (l){r}(h:JC l=some r):QP prog 38 [.own 617 l.length] [(617,.arr 1 (l.map Qb))] (Gives (.tup []) [(617,.arr 1 (r.map Qb))]):=by
 obtain⟨_,a,h⟩:=Qw h
 cases h
 exact QkX QmU l (Xn (QhI a))
def FC (a:QBg):O_ LI_:=(chk (a.length<=4294967296)).bind λ_=>some (Df (a.map Prod.fst))
def Zp (a):CT 206 [.clo (.func 250) [] [.L 617]] [(617,.var [.map 618]),(618,.map (QT V.I V.I a))] (FC a) (λr=>(.own 600 r.length)) (λr=>[(600,.arr 1 (r.map Qb)),(617,.var [.map 618]),(618,.map (QT V.I V.I a))]):=by
 refine W 9 func206 rfl λC e r h=>?_
 obtain⟨_,j,h⟩:=Qw h
 replace j:=Xn (QhI j)
 cases h
 refine tg_ e [8] ?_
 refine AK.callE (ι:=L_ Int) (Φ:=λx=>x.Perm (a.map Prod.fst)) [(617,617),(618,618)] [(5,600),(617,617),(618,618)] [] [.d] (λb=>[(600,.arr 1 (b.map Qb)),(617,.var [.map 618]),(618,.map (QT V.I V.I a))]) (λb=>(.own 600 b.length)) (λb=>_) rfl e (YZ.fn rfl rfl rfl) rfl (QZ e.n rfl) rfl rfl (TV a j) (λb=>ex_ _ rfl) λb D=>?_
 have f:JC b=some (Df (a.map Prod.fst)):=by
  unfold JC
  rw[QB (by have:=D.length_eq;simp at this;omega),QlU D];rfl
 have c:(Df (a.map Prod.fst)).length=b.length:=by rw[DP,D.length_eq]
 refine QJ e [6,.cm (.fn) [(617,5)] [(5,617)] [] [.d] [(617,.arr 1 (((Df (a.map Prod.fst))).map Qb))] (.tup []),.S 3 (.own 5 (Df (a.map Prod.fst)).length),.S 5 (.own 5 (Df (a.map Prod.fst)).length),.S 6 (.own 5 (Df (a.map Prod.fst)).length),9,.K [2] [5,617,618],.ren 5 600,.K [2] [600,617,618]] Z (a4_ (Ur _ f) (by simp[c]) (by simp[c]) (by simp[c])) ?_
 exact AK.done (ex_ [_] (an_ (an_ Z U) (gives r3_)))
def Gb (b:Int)(a:QBg):O_ ((Int×QBg)⊕QBg):=some (.inl ((Qj (b+1)),a))
def Ws (e:LI_)(d:QBg)(b:Int)(c:QBg):O_ ((Int×QBg)⊕QBg):=bif (b<(e.length:Int))then (idx e b).bind λa=>bif (0<((QW d a).getD 0))then (chk (c.length+([(a,((QW d a).getD 0))]:L_ (Int×Int)).length<=4294967296)).bind λ_=>Gb b (c++([(a,((QW d a).getD 0))]:L_ (Int×Int)))else Gb b c else some (.inr c)
def QbA (a:QBg):O_ QBg:=some a
def Gj (a:QBg):O_ QBg:=(Dx a).bind λc=>(FC a).bind λb=>(Qs (λst=>Ws b a st.1 st.2) (0,([]:L_ (Int×Int)))).bind (λq=>QbA q)
def FD (b):CT 147 [.map 617] [(617,.map (QT V.I V.I b))] (Gj b) (λr=>(.own 600 r.length)) (λr=>[(600,.arr 2 (r.map Qo)),(617,.map (QT V.I V.I b))]):=
 W 28 func147 Z λC c r h=>B h λP u h=>B h λm w h=>g4_ c [14,.cm (.fn) [(617,617)] [(7,1),(617,617)] [] [.d] [(1,.var [.map 617]),(617,.map (QT V.I V.I b))] (.clo (.func 250) [] [.L 1]),.cm (.fn) [(617,7),(618,617)] [(8,600),(7,617),(617,618)] [] [.d] [(600,.arr 1 (m.map Qb)),(617,.var [.map 618]),(618,.map (QT V.I V.I b))] (.own 600 m.length),5,.adopt 3 18 2,.O 18 (.arr 2 (([]:L_ (Int×Int)).map Qo)),.S 3 (.own 18 ([]:L_ (Int×Int)).length)] Z (LO _ _ u) (Zp _ _ w) Z (congrArg (λn=>V.own 18 n) (by simp))<|lp_ h (λst=>⟨[(0,.map 617),(3,.own 18 st.2.length),(8,.own 8 m.length),(9,.I (m.length:Int)),(10,.I st.1)],[(8,.arr 1 (m.map Qb)),(18,.arr 2 (st.2.map Qo)),(617,.map (QT V.I V.I b))]⟩) (λq=>(.exit 0,⟨[(3,.own 18 q.length)],[(18,.arr 2 (q.map Qo)),(617,.map (QT V.I V.I b))]⟩)) Z (λ⟨y,D⟩ o h=>H c [6] Z<|I h (λg h=>J c [.T,2] Z g<|mE_ (λi:QBg=>⟨[(0,.map 617),(3,.own 18 i.length),(8,.own 8 m.length),(9,.I (m.length:Int)),(10,.I y)],[(8,.arr 1 (m.map Qb)),(18,.arr 2 (i.map Qo)),(617,.map (QT V.I V.I b))]⟩) (λi=>Gb y i=some o) (B h λa p h=>g3_ c [4,.o (.row (Qb a)),7,.o (.any (.I ((QW b a).getD 0)) none),3] Z (Yv p Z) (XO (Ys p).2) (λσ s x _=>Ql.lookup (e:=V.I) (f:=V.I) (l:=b) (k:=a) (z:=0) Z Z (QZ c.n Z) (s _ _ Z) (x _ _ Z) (s _ _ Z) GO Cm QaQ Z)<|I h (λj h=>X h λt h=>G c [.T,5,.o (.any (.I ((QW b a).getD 0)) none),.A (Qo (a,((QW b a).getD 0))),.v (.bd []) [] (.sl 2 (([(a,((QW b a).getD 0))]:L_ (Int×Int)).map Qo)),.app ((D++([(a,((QW b a).getD 0))]:L_ (Int×Int))).map Qo) (D++([(a,((QW b a).getD 0))]:L_ (Int×Int))).length,3] Z (a5_ j (λσ s x _=>Ql.lookup (e:=V.I) (f:=V.I) (l:=b) (k:=a) (z:=0) Z Z (QZ c.n Z) (s _ _ Z) (x _ _ Z) (s _ _ Z) GO Cm QaQ Z) Z Z ⟨Qc,Yk t Qc,XG,YC Qc⟩)<|me_ h Z) λj h=>J c [.F,2] Z j<|me_ h Z) λi h=>H c [4] Z<|rN_ h Z) λg h=>J c [.F,2] Z g<|rX_ h Z) λN h=>H c [9,.K [2] [18,617],.ren 18 600] Z<|E h Z r2_
def Pr (b:Int)(a:QBg):O_ ((Int×QBg)⊕QBg):=some (.inl ((Qj (b+1)),a))
def AW (d:LI_)(b:Int)(c:QBg):O_ ((Int×QBg)⊕QBg):=bif (b<(d.length:Int))then (idx d b).bind λa=>bif (0<=a)then Pr b (Ja FU c a (min2 (Qj (((QW c a).getD 0)+1)) 1048576))else Pr b c else some (.inr c)
def Zq (b:QBg):O_ QBg:=(Gj b).bind λa=>some a
def QaY (a:LI_):O_ QBg:=(Qs (λst=>AW a st.1 st.2) (0,([]:QBg))).bind (λq=>Zq q)
def Qk1 (i):CT 142 [.sl 1 (i.map Qb)] [] (QaY i) (λr=>(.own 600 r.length)) (λr=>[(600,.arr 2 (r.map Qo))]):=
 W 25 func142 Z λC c r h=>K c [8,.O 6 (.map (QT V.I V.I ([]:QBg))),7,.o (.ln i.length),4] Z Z Qc<|lp_ h (λst=>⟨[(3,.map 6),(7,.sl 1 (i.map Qb)),(8,.I (i.length:Int)),(9,.I st.1)],[(6,.map (QT V.I V.I st.2))]⟩) (λq=>(.exit 0,⟨[(3,.map 6)],[(6,.map (QT V.I V.I q))]⟩)) Z (λ⟨u,m⟩ o h=>H c [6] Z<|I h (λj h=>J c [.T,2] Z j<|mE_ (λg:QBg=>⟨[(3,.map 6),(7,.sl 1 (i.map Qb)),(8,.I (i.length:Int)),(9,.I u)],[(6,.map (QT V.I V.I g))]⟩) (λg=>Pr u g=some o) (B h λa p h=>J c [3,.o (.row (Qb a)),10] Z (QI p)<|I h (λb h=>g3_ c [.T,5,.o (.any (.I ((QW m a).getD 0)) none),2,.x (λσ=>σ.set 6 (.map (QT V.I V.I (Ja FU m a (min2 (Qj (((QW m a).getD 0)+1)) 1048576))))),2] Z b (λσ w y _=>Ql.lookup (e:=V.I) (f:=V.I) (l:=m) (k:=a) (z:=0) Z Z (QZ c.n Z) (w _ _ Z) (y _ _ Z) (w _ _ Z) GO Cm QaQ Z) (Ql.mapUpdate (e:=V.I) (f:=V.I) (l:=m) (k:=a) (v:=(min2 (Qj (((QW m a).getD 0)+1)) 1048576)) FU Z Z Z Z Z Z GO Cm Z)<|me_ h Z) λb h=>J c [.F,2] Z b<|me_ h Z) λg h=>H c [4] Z<|rN_ h Z) λj h=>J c [.F,2] Z j<|rX_ h Z) λD h=>B h λs t h=>J c [5,.cm (.fn) [(617,6)] [(24,600),(6,617)] [] [.d] [(600,.arr 2 (s.map Qo)),(617,.map (QT V.I V.I D))] (.own 600 s.length),4,.K [2] [24],.ren 24 600] Z (FD _ _ t)<|E h Z r1_
def AX (c:QBg)(b:Int)(d:QBg):O_ ((Int×QBg)⊕QBg):=bif (b<(c.length:Int))then (idx c b).bind λa=>some (.inl ((Qj (b+1)),(Ja FU d a.1 a.2)))else some (.inr d)
def Qeu (a:QBg):O_ (Unit⊕QBg):=some (.inr a)
def MJ (a:QBg):O_ (Unit⊕QBg):=(GE a).bind λb=>bif (!b)then some (.inl ())else (Qs (λst=>AX a st.1 st.2) (0,([]:QBg))).bind (λq=>Qeu q)
def Ud (m){r}(h:MJ m=some r):QP prog 112 [.sl 2 (m.map Qo)] [] ((Sum.elim (λq=>(Gives (.tup [.lit (.map none),.b false]) [])) (λq=>(Gives (.tup [.map 601,.b true]) [(601,.map (QT V.I V.I q))]))) r):=by
 refine wk_ 24 func112 λC i=>?_
 obtain⟨y,t,h⟩:=Qw h
 refine QJ i [10,.o (.C1 (.b y)),3] Z (A (Iq _ _ t)) ?_
 refine bg_ h (λj h=>QJ i [.T,8,.K [2,3] []] rfl (A j) ?_) λj h=>QJ i [.F,5,.O 10 (.map (QT V.I V.I ([]:QBg))),7,.o (.ln m.length),4,.K [4,11,12,13] [10]] rfl (a3_ j rfl Qc) ?_
 ·cases h
  exact AK.done (ex_ [_,_] (an_ (an_ Z (an_ Z U)) (gives U)))
 obtain⟨u,p,h⟩:=Qw h
 refine AK.loop (body:=(λst=>AX m st.1 st.2)) (λst σ=>σ=⟨[(4,.map 10),(11,.sl 2 (m.map Qo)),(12,.I (m.length:Int)),(13,.I st.1)],[(10,.map (QT V.I V.I st.2))]⟩) (λq e σ=>e=.exit 0/\σ=⟨[(4,.map 10)],[(10,.map (QT V.I V.I q))]⟩) p rfl ?_ ?_
 ·rintro ⟨z,w⟩ o σ rfl h
  refine tg_ i [6] ?_
  rcases Xr h with⟨g,h⟩|⟨g,h⟩
  ·obtain⟨a,s,h⟩:=Qw h
   refine QJ i [.T,6,.o (.row (Qo a)),.A (Qo a),2,.O 6 (.var (Qo a)),8,.x (λσ=>σ.set 10 (.map (QT V.I V.I (Ja FU w a.1 a.2)))),7,.K [4,11,12,13] [10]] Z (a5_ g (QI s) Z Z (Ql.mapUpdate (e:=V.I) (f:=V.I) (l:=w) (k:=a.1) (v:=a.2) FU Z Z Z Z Z Z GO Cm Z)) ?_
   cases h
   exact QeB Z Z
  refine QJ i [.F,2,.K [4] [10]] Z (A g) ?_
  cases h
  exact QhM Z (an_ Z Z)
 replace h:Qeu u=some r:=h
 rintro e σ ⟨rfl,rfl⟩
 refine tg_ i [10,.K [2,3] [10],.ren 10 601,.K [2,3] [601]] ?_
 cases h
 exact AK.done (ex_ [_,_] (an_ (an_ Z (an_ Z U)) (gives r1_)))
def Qbn (a:Unit):O_ (Unit⊕(QBg⊕(QBg⊕(QBg×QBg)))):=some (.inl ())
def Qbo (a:QBg):O_ (Unit⊕(QBg⊕(QBg⊕(QBg×QBg)))):=some (.inr (.inl a))
def PZ (a:QBg)(b:Unit):O_ (Unit⊕(QBg⊕(QBg⊕(QBg×QBg)))):=(MJ a).bind (Sum.elim (λq=>Qbn q) (λq=>Qbo q))
def Qbp (a:QBg)(b:Unit):O_ (Unit⊕(QBg⊕(QBg⊕(QBg×QBg)))):=some (.inr (.inr (.inl a)))
def Qbq (b:QBg)(a:QBg):O_ (Unit⊕(QBg⊕(QBg⊕(QBg×QBg)))):=some (.inr (.inr (.inr (b,a))))
def Ra (b:QBg)(a:QBg):O_ (Unit⊕(QBg⊕(QBg⊕(QBg×QBg)))):=(MJ b).bind (Sum.elim (λq=>Qbp a q) (λq=>Qbq a q))
def Iy (b:QBg)(a:QBg):O_ (Unit⊕(QBg⊕(QBg⊕(QBg×QBg)))):=(MJ b).bind (Sum.elim (λq=>PZ a q) (λq=>Ra a q))
def JA (s j){r}(h:Iy s j=some r):QP prog 145 [.sl 2 (s.map Qo),.sl 2 (j.map Qo)] [] ((Sum.elim (λq=>(Gives (.tup [.lit (.map none),.lit (.map none),.b false]) [])) (Sum.elim (λq=>(Gives (.tup [.lit (.map none),.map 603,.b false]) [(603,.map (QT V.I V.I q))])) (Sum.elim (λq=>(Gives (.tup [.map 602,.lit (.map none),.b false]) [(602,.map (QT V.I V.I q))])) (λq=>(Gives (.tup [.map 602,.map 603,.b true]) [(602,.map (QT V.I V.I q.1)),(603,.map (QT V.I V.I q.2))]))))) r):=by
 refine wk_ 25 func145 λC e=>?_
 obtain⟨t,f,h⟩:=Qw h
 refine tg_ e [10] ?_
 rcases t with(u | k)
 ·replace h:PZ j u=some r:=h
  obtain⟨l,a,h⟩:=Qw h
  refine QJ e [.cm (.fn) [] [] [] [.d] [] (.tup [.lit (.map none),.b false]),10] Z (A (Ud _ f)) ?_
  rcases l with(m | g)
  ·replace h:Qbn m=some r:=h
   refine QJ e [.cm (.fn) [] [] [] [.d] [] (.tup [.lit (.map none),.b false]),21,.K [4,5,6] []] Z (A (Ud _ a)) ?_
   cases h
   exact AK.done (ex_ [_,_,_] (an_ (an_ Z (an_ Z (an_ Z U))) (gives U)))
  replace h:Qbo g=some r:=h
  refine QJ e [.cm (.fn) [] [(16,601)] [] [.d] [(601,.map (QT V.I V.I g))] (.tup [.map 601,.b true]),21,.K [4,5,6] [16],.ren 16 603,.K [4,5,6] [603]] Z (A (Ud _ a)) ?_
  cases h
  exact AK.done (ex_ [_,_,_] (an_ (an_ Z (an_ Z (an_ Z U))) (gives r1_)))
 replace h:Ra j k=some r:=h
 obtain⟨o,c,h⟩:=Qw h
 refine QJ e [.cm (.fn) [] [(11,601)] [] [.d] [(601,.map (QT V.I V.I k))] (.tup [.map 601,.b true]),10] Z (A (Ud _ f)) ?_
 rcases o with(p | i)
 ·replace h:Qbp k p=some r:=h
  refine QJ e [.cm (.fn) [] [] [] [.d] [] (.tup [.lit (.map none),.b false]),21,.K [4,5,6] [11],.ren 11 602,.K [4,5,6] [602]] Z (A (Ud _ c)) ?_
  cases h
  exact AK.done (ex_ [_,_,_] (an_ (an_ Z (an_ Z (an_ Z U))) (gives r1_)))
 replace h:Qbq k i=some r:=h
 refine QJ e [.cm (.fn) [] [(16,601)] [] [.d] [(601,.map (QT V.I V.I i))] (.tup [.map 601,.b true]),21,.K [4,5,6] [11,16],.ren 11 602,.K [4,5,6] [16,602],.ren 16 603,.K [4,5,6] [602,603]] Z (A (Ud _ c)) ?_
 cases h
 exact AK.done (ex_ [_,_,_] (an_ (an_ Z (an_ Z (an_ Z U))) (gives r2_)))
def Qcp (a:Unit):O_ (QBg×Int):=some (([]:L_ (Int×Int)),1)
def Qcq (a:QBg):O_ (QBg×Int):=some (([]:L_ (Int×Int)),1)
def Qcr (a:QBg):O_ (QBg×Int):=some (([]:L_ (Int×Int)),1)
def BL (b:QBg)(a:Int)(c:Int):O_ (QBg⊕Unit):=bif (1048576<((QW (Ja FU b a (Qj (((QW b a).getD 0)+c))) a).getD 0))then some (.inr ())else some (.inl (Ja FU b a (Qj (((QW b a).getD 0)+c))))
def NR (a:QBg):O_ (QBg×Int):=(Gj a).bind λb=>some (b,0)
def SS : O_ (QBg×Int):=some (([]:L_ (Int×Int)),2)
def ST (a:(QBg×QBg)):O_ (QBg×Int):=(CX (λst p=>BL st p.1 p.2) a.1 a.2).bind (Sum.elim (λq=>NR q) (λq=>SS))
def Je (a:QBg)(b:QBg):O_ (QBg×Int):=(Iy a b).bind (Sum.elim (λq=>Qcp q) (Sum.elim (λq=>Qcq q) (Sum.elim (λq=>Qcr q) (λq=>ST q))))
def Qcs (a1 b2):CT 96 [.sl 2 (a1.map Qo),.sl 2 (b2.map Qo)] [] (Je a1 b2) (λr=>(.tup [.sl 2 (r.1.map Qo),.I r.2])) no_:=by
 refine W 38 func96 rfl λC g r h=>?_
 obtain⟨x7,w,h⟩:=Qw h
 refine tg_ g [10] ?_
 rcases x7 with(a8 | (a9 | (P | y)))
 ·exact have h:Qcp a8=some r:=h;J g [.cm (.fn) [] [] [] [.d,.d] [] (.tup [.lit (.map none),.lit (.map none),.b false]),25,.denil 4 [some 2]] Z (JA _ _ w)<|F h Z Z U
 ·exact have h:Qcq a9=some r:=h;J g [.cm (.fn) [] [(14,603)] [] [.d,.d] [(603,.map (QT V.I V.I a9))] (.tup [.lit (.map none),.map 603,.b false]),25,.denil 4 [some 2]] Z (JA _ _ w)<|F h Z Z U
 ·exact have h:Qcr P=some r:=h;J g [.cm (.fn) [] [(14,602)] [] [.d,.d] [(602,.map (QT V.I V.I P))] (.tup [.map 602,.lit (.map none),.b false]),25,.denil 4 [some 2]] Z (JA _ _ w)<|F h Z Z U
 replace h:ST y=some r:=h
 refine QJ g [.cm (.fn) [] [(14,602),(610,603)] [] [.d,.d] [(602,.map (QT V.I V.I y.1)),(603,.map (QT V.I V.I y.2))] (.tup [.map 602,.map 603,.b true]),23] Z (A (JA _ _ w)) ?_
 refine AK.openMapK (b:=610) Cm rfl λs t L12 D a2 N=>?_
 refine QJ g [.x (λσ=>(σ.set 21 (.itr s t #[] none)).put 21 (.L 21)),3,.K [6,21] [14,21,610]] Z (A (Ql.range (b:=610) Z Z (QZ g.n Z) Z Z GO Z)) ?_
 obtain⟨a3,S,h⟩:=Qw h
 refine AK.range (body:=(λst p=>BL st p.1 p.2)) (λst seen σ=>∃cur:O_ Nat,σ=⟨[(6,.map 14),lk_ 21],[(14,.map (QT V.I V.I st)),(21,.itr s t seen cur),(610,.mapX s t (Fz V.I V.I L12) (QT V.I V.I y.2))]⟩) (λq e σ=>e=.ret/\σ=⟨[(4,.Y),(5,.I 2)],[]⟩) (λst e σ=>e=.exit 0/\σ=⟨[(6,.map 14)],[(14,.map (QT V.I V.I st))]⟩) D N S (ex_ _ rfl) ?_ ?_
 ·rintro a seen σ ⟨cur,rfl⟩ hex
  refine tg_ g [2] ?_
  refine AK.nextT (b:=21) (m:=610) rfl rfl rfl (QZ g.n rfl) rfl rfl rfl rfl ?_ ?_
  ·intro hleft
   refine tg_ g [7,.K [6] [14]] ?_
   exact AK.done (Or.inl (an_ hleft (an_ (λh=>(by cases h)) (an_ Z Z))))
  intro a4 c j i
  obtain⟨o,h⟩:=hex _ i
  have ho:=h
  replace h:BL a c j=some o:=h
  refine QJ g [10,.x (λσ=>σ.put 24 (.tup [.I c,.I j])),10,.o (.any (.I ((QW a c).getD 0)) none),2,.x (λσ=>σ.set 14 (.map (QT V.I V.I (Ja FU a c (Qj (((QW a c).getD 0)+j)))))),6,.o (.any (.I ((QW (Ja FU a c (Qj (((QW a c).getD 0)+j))) c).getD 0)) none),3] Z (a4_ (Ql.entryT (b:=21) (m:=610) (e:=V.I) (f:=V.I) Z Z (QZ g.n Z) Z i Z Z) (λσ h1 h2 _=>Ql.lookup (e:=V.I) (f:=V.I) (l:=a) (k:=c) (z:=0) Z Z (QZ g.n Z) (h1 _ _ Z) (h2 _ _ Z) (h1 _ _ Z) GO Cm QaQ Z) (Ql.mapUpdate (e:=V.I) (f:=V.I) (l:=a) (k:=c) (v:=(Qj (((QW a c).getD 0)+j))) FU Z Z Z Z Z Z GO Cm Z) (λσ h1 h2 _=>Ql.lookup (e:=V.I) (f:=V.I) (l:=(Ja FU a c (Qj (((QW a c).getD 0)+j)))) (k:=c) (z:=0) Z Z (QZ g.n Z) (h1 _ _ Z) (h2 _ _ Z) (h1 _ _ Z) GO Cm QaQ Z)) ?_
  refine bq_ g h [.T,8,.K [4,5] []] rfl (λu h=>?_) [.F,2,.K [6,21] [14,21,610]] rfl λu h=>?_
  ·cases h
   exact AK.done (Or.inr (ex_ _ (an_ i (Or.inr (ex_ _ (an_ ho (an_ (λh=>(by cases h)) (an_ Z Z))))))))
  cases h
  exact AK.done (Or.inr (ex_ _ (an_ i (Or.inl (ex_ _ (an_ ho (an_ Z (ex_ _ Z))))))))
 rcases a3 with(a | _)
 ·replace h:NR a=some r:=h
  unfold NR at h
  rintro e σ ⟨rfl,rfl⟩
  exact B h λO a0 h=>K g [5,.cm (.fn) [(617,14)] [(37,600),(14,617)] [] [.d] [(600,.arr 2 (O.map Qo)),(617,.map (QT V.I V.I a))] (.own 600 O.length),5,.frz 37 (O.map Qo) [4] []] Z (FD _ _ a0) (A (YA Qc))<|F h Z Z U
 replace h:SS=some r:=h
 unfold SS at h
 rintro e σ ⟨rfl,rfl⟩
 exact H g [2,.denil 4 [some 2]] Z<|F h Z Z U
def KJ (a:LI_)(j:(L_ Xk))(h:LI_)(k:Qn)(e:Int)(c:QMk):O_ ((Int×QMk)⊕(Int⊕QMk)):=
 bif (e<(a.length:Int))then
 (idx a e).bind λd=>
 bif ((d<0)||((j.length:Int)<=d))then
 some (.inr (.inl 11))
 else
 (idx j d).bind λl=>
 (AV l.Expr h).bind λf=>
 bif (f.2 != 0)then
 some (.inr (.inl f.2))
 else
 (idx j d).bind λb=>
 bif ((b.Place<0)||((k.Places.length:Int)<=b.Place))then
 some (.inr (.inl 3))
 else
 (idx k.Places b.Place).bind λm=>
 (Wo k.Colours m.Colour f.1).bind λi=>
 bif (!i.2)then
 some (.inr (.inl 8))
 else
 (idx c b.Place).bind λn=>
 (QaY ([i.1]:L_ Int)).bind λo=>
 (Je n o).bind λg=>
 (idx c b.Place).bind λp=>
 bif (g.2 != 0)then
 some (.inr (.inl g.2))
 else
 some (.inl ((Qj (e+1)),(c.set b.Place.toNat g.1)))
 else
 some (.inr (.inr c))
def QeS (a:Int):O_ (QMk×Int):=some (([]:L_ QBg),a)
def QeT (a:QMk):O_ (QMk×Int):=some (a,0)
def XS (b:Qn)(d:(L_ Xk))(a:LI_)(c:LI_):O_ (QMk×Int):=(chk (decide (0<=(b.Places.length:Int))&&decide ((b.Places.length:Int)<=(b.Places.length:Int))&&decide ((b.Places.length:Int)<=4294967296))).bind λ_=>(Qs (λst=>KJ a d c b st.1 st.2) (0,(List.replicate (b.Places.length:Int).toNat (([]:QBg):QBg)))).bind (Sum.elim (λq=>QeS q) (λq=>QeT q))
def Us (t P e k):CT 87 [.agg (Qa t),.sl 4 (P.map Xa),.sl 1 (e.map Qb),.sl 1 (k.map Qb)] [] (XS t P e k) (λr=>(.tup [.sl 1 (r.1.map Qe),.I r.2])) no_:=
 W 97 func87 Z λC g r h=>X h λb6 h=>K g [11,.o (.ln t.Places.length),.o (.rows (List.replicate (t.Places.length:Int).toNat [.Y]))] Z Qc ⟨b6,Z⟩<|AK.denilA (b:=21) [some 2] Z (Qgr (f:=Qe) (x:=([]:QBg)) Z)<|K g [.S 21 (.own 21 (List.replicate (t.Places.length:Int).toNat (([]:QBg):QBg)).length),7,.o (.ln e.length),4] Z (by simp) Qc<|lq_ h (λst=>⟨[(1,.sl 4 (P.map Xa)),(3,.sl 1 (k.map Qb)),lk_ 4,(10,.own 21 st.2.length),(22,.sl 1 (e.map Qb)),(23,.I (e.length:Int)),(24,.I st.1)],[(4,.var (Qa t)),(21,.arr 1 (st.2.map Qe))]⟩) (λq=>(.ret,⟨[(8,.Y),(9,.I q)],[]⟩)) (λq=>(.exit 0,⟨[(10,.own 21 q.length)],[(21,.arr 1 (q.map Qe))]⟩)) Z (λ⟨a5,s⟩ o h=>H g [6] Z<|I h (λu h=>B h λj a6 h=>K g [.T,6,.o (.row (Qb j)),6] Z u (QI a6)<|Y ⟨[(1,.sl 4 (P.map Xa)),(3,.sl 1 (k.map Qb)),lk_ 4,(10,.own 21 s.length),(12,.I j),(22,.sl 1 (e.map Qb)),(23,.I (e.length:Int)),(24,.I a5),(35,.b ((j<0)||((P.length:Int)<=j)))],[(4,.var (Qa t)),(21,.arr 1 (s.map Qe))]⟩ (H g [4] Z<|bO_ (decide (j<0)) (λl=>G g [.S 30 (.b true),6,.S 35 (.b ((j<0)||((P.length:Int)<=j)))] Z ⟨(tc_ l),(cb_ (KB l Z))⟩<|M Z) λl=>G g [.S 30 (.b false),2,.o (.ln P.length),3,.S 35 (.b ((j<0)||((P.length:Int)<=j)))] Z ⟨⟨(tc_ l),Qc⟩,(cb_ (Yj l Z))⟩<|M Z)<|H g [1] Z<|I h (λw h=>J g [.T,10] Z w<|rR_ h Z) λw h=>B h λa7 a8 h=>B h λa3 a9 h=>g4_ g [.F,6,.o (.row (Xa a7)),1,.A (Qm a7.Expr),1,.o (.C2 (.tup [.I a3.1,.I a3.2])),14] Z w (QI a8) Z (ZO _ _ _ a9)<|I h (λy h=>J g [.T,11] Z y<|rR_ h Z) λy h=>B h λi b0 h=>K g [.F,6,.o (.row (Xa i)),7] Z y (QI b0)<|Y ⟨[(1,.sl 4 (P.map Xa)),(3,.sl 1 (k.map Qb)),lk_ 4,(10,.own 21 s.length),(13,.I a3.1),(15,.I i.Place),(22,.sl 1 (e.map Qb)),(23,.I (e.length:Int)),(24,.I a5),(62,.b ((i.Place<0)||((t.Places.length:Int)<=i.Place)))],[(4,.var (Qa t)),(21,.arr 1 (s.map Qe))]⟩ (H g [4] Z<|bO_ (decide (i.Place<0)) (λp=>G g [.S 56 (.b true),7,.S 62 (.b ((i.Place<0)||((t.Places.length:Int)<=i.Place)))] Z ⟨(tc_ p),(cb_ (KB p Z))⟩<|M Z) λp=>G g [.S 56 (.b false),3,.o (.ln t.Places.length),3,.S 62 (.b ((i.Place<0)||((t.Places.length:Int)<=i.Place)))] Z ⟨⟨(tc_ p),Qc⟩,(cb_ (Yj p Z))⟩<|M Z)<|H g [1] Z<|I h (λz h=>J g [.T,10] Z z<|rR_ h Z) λz h=>B h λb7 b1 h=>B h λa4 b2 h=>G g [.F,3,.K [1,3,4,10,13,15,22,23,24] [4,21]] Z (A z) <| 
  dr_ g [.N,.N,.N,.N,.N,.B (.row (QK b7)),.N,.N,.N,.B (.C3 (.tup [.I a4.1,.b a4.2])),.N,.N,.N,.N,.N] [] [] [1,3,4,10,15,16,17,22,23,24] [4,21] Z Z (a2_ (QI b1) (Qco _ _ _ _ b2)) Z <|
  H g [8] Z<|I h (λD h=>J g [.T,10] Z D<|rR_ h Z) λD h=>B h λb8 a1 h=>B h λb3 b4 h=>B h λa0 b5 h=>B h λb9 a2 h=>G g [.F,3,.K [1,3,4,10,15,16,22,23,24] [4,21]] Z (A D) <| 
  dr_ g [.N,.N,.N,.N,.N,.B (.row (Qe b8)),.N,.a (.bd []) (some ([],.sl 1 (([a4.1]:L_ Int).map Qb))) false,.B (.cd false [.d] 2 (b3.map Qo) b3.length),.B (.C2 (.tup [.sl 2 (a0.1.map Qo),.I a0.2])),.a .no none true true,.N,.a .no none true,.N,.m (.st (Qe b9) ((s.set i.Place.toNat a0.1).map Qe)),.N] [1,3,4,10,15,16,22,23,24] [4] [1,3,4,10,14,22,23,24] [4,21] Z Z (a7_ (Yv a1 Z) (XO (Ys a1).2) Z ⟨(Qk1 _ _ b4),Qc⟩ (Qcs _ _ _ b5) (Yv a2 Z) ⟨(XO (Ys a2).2),BC Z⟩) Z <|
  H g [7] Z<|I h (λO h=>J g [.T,10] Z O<|rR_ h Z) λO h=>K g [.F,7,.S 10 (.own 21 (s.set i.Place.toNat a0.1).length)] Z O (congrArg (λn=>V.own 21 n) (by simp))<|rN_ h Z) λu h=>J g [.F,2] Z u<|rX_ h Z) (λc1 h=>H g [2,.denil 8 [some 1]] Z<|F h Z Z U) (λc0 h=>J g [10,.frz 21 (c0.map Qe) [8] []] Z (A (YA Qc))<|F h Z Z U)
def XN (b:QX)(a:LI_):O_ Int:=(XS b.net b.task.Outs a b.env).bind λc=>some c.2
def LP (b a):CT 45 [.agg (QD b),.sl 1 (a.map Qb)] [] (XN b a) V.I no_:=
 W 20 func45 Z λC g r h=>B h λf e h=>K g [9,.A (Qa b.net),6,.o (.C4 (.tup [.sl 1 (f.1.map Qe),.I f.2])),14] Z Z (Us _ _ _ _ _ e)<|E h Z U
def BM (a:LI_)(b:QX):O_ Bool:=(XN b a).bind λc=>some (c != 0)
def Rr (a e):CT 80 [.sl 1 (a.map Qb),.L 617] [(617,.var (QD e))] (BM a e) V.b (λ_=>[(617,.var (QD e))]):=
 W 8 func80 Z λC g r h=>B h λi f h=>K g [7,.A (QD e),1,.o (.C2 (.I i)),5] Z Z (LP _ _ _ f)<|E h Z r1_
def WN (c:QLL)(d:QX)(a:Int):O_ (Int⊕(Int⊕Unit)):=bif (a<(c.length:Int))then (idx c a).bind λe=>(BM e d).bind λb=>bif b then some (.inr (.inl a))else some (.inl (Qj (a+1)))else some (.inr (.inr ()))
def MK (a:Int):O_ Int:=some a
def ML : O_ Int:=some (-1)
def KF (a:QLL)(b:QX):O_ Int:=(Qs (λst=>WN a b st) 0).bind (Sum.elim (λq=>MK q) (λq=>ML))
def MM (c f):CT 137 [.own 617 c.length,.clo (.func 80) [] [.L 618]] [(617,.arr 1 (c.map Qz)),(618,.var (QD f))] (KF c f) V.I (λ_=>[(617,.arr 1 (c.map Qz)),(618,.var (QD f))]):=
 W 19 func137 Z λC e r h=>H e [14] Z<|lq_ h (λst=>⟨[(0,.own 617 c.length),(1,.clo (.func 80) [] [.L 618]),(7,.I (c.length:Int)),(8,.I st)],[(617,.arr 1 (c.map Qz)),(618,.var (QD f))]⟩) (λq=>(.ret,⟨[(4,.I q)],[(617,.arr 1 (c.map Qz)),(618,.var (QD f))]⟩)) (λq=>(.exit 0,⟨[],[(617,.arr 1 (c.map Qz)),(618,.var (QD f))]⟩)) Z (λm o h=>H e [6] Z<|I h (λg h=>B h λl i h=>B h λk j h=>g4_ e [.T,16,.o (.row (Qz l)),.cm (.clo) [(617,618)] [(618,617)] [] [.d,.d] [(617,.var (QD f))] (.b k),2] Z g (Yv i Z) (XO (Ys i).2) (Rr _ _ _ j)<|I h (λa h=>J e [.T,9] Z a<|rR_ h Z) λa h=>J e [.F,7] Z a<|rN_ h Z) λg h=>J e [.F,2] Z g<|rX_ h Z) (λp h=>H e [2] Z<|E h Z r2_) (λ_ h=>H e [8] Z<|E h Z r2_)
def Wx (a:Int)(b:Int)(c:QLL):O_ ((Int×Int×QLL)⊕(Int×QLL)):=some (.inl (b,(Qj (a+1)),c))
def JG (f:QX)(c:Int)(b:Int)(a:QLL):O_ ((Int×Int×QLL)⊕(Int×QLL)):=bif (b<(a.length:Int))then (idx a b).bind λd=>(BM d f).bind λe=>bif (!e)then (idx a c).bind λg=>Wx b (Qj (c+1)) (a.set c.toNat d)else Wx b c a else some (.inr (c,a))
def JH (a:Int)(b:QLL):O_ QLL:=(chk (decide (0<=a)&&decide (a.toNat<=b.length))).bind λ_=>(chk (decide (0<=a)&&decide (a.toNat<=(b.take a.toNat++List.replicate (b.length-a.toNat) (([]:LI_):LI_)).length))).bind λ_=>some ((b.take a.toNat++List.replicate (b.length-a.toNat) (([]:LI_):LI_)).take a.toNat)
def Kt (a:QLL)(c:QX):O_ QLL:=(KF a c).bind λb=>bif (b==(-1))then some a else (Qs (λst=>JG c st.1 st.2.1 st.2.2) (b,(Qj (b+1)),a)).bind (λq=>JH q.1 q.2)
def LQ (P p):CT 78 [.own 617 P.length,.clo (.func 80) [] [.L 618]] [(617,.arr 1 (P.map Qz)),(618,.var (QD p))] (Kt P p) (λr=>(.own 617 r.length)) (λr=>[(617,.arr 1 (r.map Qz)),(618,.var (QD p))]):=by
 refine W 42 func78 rfl λC g r h=>?_
 obtain⟨x5,a0,h⟩:=Qw h
 refine QJ g [9,.cm (.fn) [(617,617),(618,618)] [(617,617),(618,618)] [] [.d,.d] [(617,.arr 1 (P.map Qz)),(618,.var (QD p))] (.I x5),10] Z (A (MM _ _ _ a0)) ?_
 rcases Xr h with⟨v,h⟩|⟨v,h⟩
 ·exact J g [.T,8] Z v<|E h Z r2_
 refine QJ g [.F,11,.K [0,1,5,6] [617,618]] Z (A v) ?_
 obtain⟨a1,z,h⟩:=Qw h
 refine AK.loop (body:=(λst=>JG p st.1 st.2.1 st.2.2)) (λst σ=>σ=⟨[(0,.own 617 st.2.2.length),(1,.clo (.func 80) [] [.L 618]),(5,.I st.1),(6,.I st.2.1)],[(617,.arr 1 (st.2.2.map Qz)),(618,.var (QD p))]⟩) (λq e σ=>e=.exit 0/\σ=⟨[(0,.own 617 q.2.length),(5,.I q.1)],[(617,.arr 1 (q.2.map Qz)),(618,.var (QD p))]⟩) z rfl ?_ ?_
 ·rintro ⟨i9,D,N⟩ o σ rfl h
  refine tg_ g [9] ?_
  refine bq_ g h [.T,2] rfl (λk h=>?_) [.F,2,.K [0,5] [617,618]] rfl λk h=>?_
  ·refine AK.meet (λσ=>∃w:Int,∃s:QLL,σ=⟨[(0,.own 617 s.length),(1,.clo (.func 80) [] [.L 618]),(5,.I w),(6,.I D)],[(617,.arr 1 (s.map Qz)),(618,.var (QD p))]⟩/\Wx D w s=some o) ?_ ?_
   ·obtain⟨y,t,h⟩:=Qw h
    obtain⟨a2,O,h⟩:=Qw h
    refine QJ g [6,.o (.row (Qz y)),7,.cm (.clo) [(617,618)] [(618,617)] [] [.d,.d] [(617,.var (QD p))] (.b a2),3] Z (a3_ (Yv t Z) (XO (Ys t).2) (Rr _ _ _ O)) ?_
    rcases Xr h with⟨m,h⟩|⟨m,h⟩
    ·obtain⟨a3,u,h⟩:=Qw h
     refine QJ g [.T,6,.st (Qz a3) ((N.set i9.toNat y).map Qz),8,.S 0 (.own 617 (N.set i9.toNat y).length),.K [0,1,5,6] [617,618]] Z (a4_ m (Yv u Z) ⟨(XO (Ys u).2),BC Z⟩ (congrArg (λn=>V.own 617 n) (by simp))) ?_
     exact AK.met (ex_ _ (ex_ _ (an_ Z h)))
    refine QJ g [.F,2,.K [0,1,5,6] [617,618]] Z (A m) ?_
    exact AK.met (ex_ _ (ex_ _ (an_ Z h)))
   rintro σ ⟨w,s,rfl,h⟩
   refine tg_ g [5,.K [0,1,5,6] [617,618]] ?_
   cases h
   exact QeB Z Z
  cases h
  exact QhM Z (an_ Z Z)
 obtain⟨a,c⟩:=a1
 replace h:JH a c=some r:=h
 rintro e σ ⟨rfl,rfl⟩
 refine tg_ g [6] ?_
 obtain⟨i,h⟩:=QhV h
 refine AK.clearTail (b:=617) (l:=a.toNat) (n:=c.length) rfl rfl rfl rfl rfl rfl (QZ g.n rfl) rfl rfl Qc (QN.es rfl) QoB rfl rfl rfl (UR.val rfl (Xn (Qce i)) rfl) (Xn (PH i)) rfl ?_
 refine AK.denilA (b:=617) [some 1] rfl (Qpl (f:=Qz) (x:=(([]:LI_):LI_)) (λ_=>rfl) rfl) ?_
 obtain⟨j,h⟩:=QhV h
 refine QJ g [.S 0 (.own 617 (c.take a.toNat++List.replicate (c.length-a.toNat) (([]:LI_):LI_)).length),.S 36 (.own 617 (c.take a.toNat++List.replicate (c.length-a.toNat) (([]:LI_):LI_)).length),6] Z (a2_ (QmO (Xn (PH i))) (QmO (Xn (PH i)))) ?_
 have a4:a.toNat=((c.take a.toNat++List.replicate (c.length-a.toNat) (([]:LI_):LI_)).take a.toNat).length:=by rw[Wm,LG (Xn (PH j))]
 exact K g [.x (λσ=>(σ.set 617 (.arr 1 (((c.take a.toNat++List.replicate (c.length-a.toNat) (([]:LI_):LI_)).take a.toNat).map Qz))).put 41 (.own 617 a.toNat)),.S 41 (.own 617 ((c.take a.toNat++List.replicate (c.length-a.toNat) (([]:LI_):LI_)).take a.toNat).length),4] Z (Ql.sliceO Z Z (QZ g.n Z) Z Z (QN.es Z) UR.no (UR.val Z (Xn (Qce j)) Z) (Xn (PH j)) (by simp)) (Qpe (Xn (PH j)))<|E h Z r2_
def Wy (a:QBg)(b:Int)(c:Int):O_ (Unit⊕Unit):=bif (((QW a b).getD 0)<c)then some (.inr ())else some (.inl ())
def AY : O_ Bool:=some true
def AZ : O_ Bool:=some false
def Gc (a:QBg)(b:QBg):O_ Bool:=(CX (λst p=>Wy b p.1 p.2) () a).bind (Sum.elim (λq=>AY) (λq=>AZ))
def LR (s g):CT 146 [.map 617,.map 618] [(617,.map (QT V.I V.I s)),(618,.map (QT V.I V.I g))] (Gc s g) V.b (λ_=>[(617,.map (QT V.I V.I s)),(618,.map (QT V.I V.I g))]):=by
 refine W 19 func146 rfl λC a r h=>?_
 refine tg_ a [9] ?_
 refine AK.openMap (b:=617) Cm rfl λc d L5 t u=>?_
 refine QJ a [.x (λσ=>(σ.set 8 (.itr c d #[] none)).put 8 (.L 8)),3,.K [1,8] [8,617,618]] Z (A (Ql.range (b:=617) Z Z (QZ a.n Z) Z Z GO Z)) ?_
 obtain⟨y,v,h⟩:=Qw h
 refine AK.range (body:=(λst p=>Wy g p.1 p.2)) (λst seen σ=>∃cur:O_ Nat,σ=⟨[(1,.map 618),lk_ 8],[(8,.itr c d seen cur),(617,.mapX c d (Fz V.I V.I L5) (QT V.I V.I s)),(618,.map (QT V.I V.I g))]⟩) (λq e σ=>e=.ret/\σ=⟨[(4,.b false)],[(617,.mapX c d (Fz V.I V.I L5) (QT V.I V.I s)),(618,.map (QT V.I V.I g))]⟩) (λst e σ=>e=.exit 0/\σ=⟨[],[(617,.mapX c d (Fz V.I V.I L5) (QT V.I V.I s)),(618,.map (QT V.I V.I g))]⟩) t u v (ex_ _ rfl) ?_ ?_
 ·rintro _ seen σ ⟨cur,rfl⟩ hex
  refine tg_ a [2] ?_
  refine AK.nextT (b:=8) (m:=617) rfl rfl rfl (QZ a.n rfl) rfl rfl rfl rfl ?_ ?_
  ·intro hleft
   refine tg_ a [7,.K [] [617,618]] ?_
   exact AK.done (Or.inl (an_ hleft (an_ (λh=>(by cases h)) (an_ Z Z))))
  intro O w D i
  obtain⟨o,h⟩:=hex _ i
  have ho:=h
  replace h:Wy g w D=some o:=h
  refine QJ a [10,.x (λσ=>σ.put 11 (.tup [.I w,.I D])),11,.o (.any (.I ((QW g w).getD 0)) none),3] Z (a2_ (Ql.entryT (b:=8) (m:=617) (e:=V.I) (f:=V.I) Z Z (QZ a.n Z) Z i Z Z) (λσ N P _=>Ql.lookup (e:=V.I) (f:=V.I) (l:=g) (k:=w) (z:=0) Z Z (QZ a.n Z) (N _ _ Z) (P _ _ Z) (N _ _ Z) GO Cm QaQ Z)) ?_
  refine bq_ a h [.T,7,.K [4] [617,618]] rfl (λj h=>?_) [.F,2,.K [1,8] [8,617,618]] rfl λj h=>?_
  ·cases h
   exact AK.done (Or.inr (ex_ _ (an_ i (Or.inr (ex_ _ (an_ ho (an_ (λh=>(by cases h)) (an_ Z Z))))))))
  cases h
  exact AK.done (Or.inr (ex_ _ (an_ i (Or.inl (ex_ _ (an_ ho (an_ Z (ex_ _ Z))))))))
 rcases y with(_ | _)
 ·replace h:AY=some r:=h
  unfold AY at h
  rintro e σ ⟨rfl,rfl⟩
  exact H a [8] Z<|AK.closeMap (b:=617) Z<|E h Z r2_
 replace h:AZ=some r:=h
 unfold AZ at h
 rintro e σ ⟨rfl,rfl⟩
 exact H a [2] Z<|AK.closeMap (b:=617) Z<|E h Z r2_
def Vv (a:Unit):O_ Bool:=some false
def Vx (a:QBg):O_ Bool:=some false
def Vy (a:QBg):O_ Bool:=some false
def NS (b:(QBg×QBg)):O_ Bool:=(Gc b.1 b.2).bind λa=>some a
def HI (a:QBg)(b:QBg):O_ Bool:=(Iy a b).bind (Sum.elim (λq=>Vv q) (Sum.elim (λq=>Vx q) (Sum.elim (λq=>Vy q) (λq=>NS q))))
def Qgx (i j):CT 143 [.sl 2 (i.map Qo),.sl 2 (j.map Qo)] [] (HI i j) V.b no_:=by
 refine W 21 func143 rfl λC c r h=>?_
 obtain⟨m,a,h⟩:=Qw h
 refine tg_ c [9] ?_
 rcases m with(o | (k | (l | e)))
 ·exact have h:Vv o=some r:=h;J c [.cm (.fn) [] [] [] [.d,.d] [] (.tup [.lit (.map none),.lit (.map none),.b false]),21] Z (JA _ _ a)<|E h Z U
 ·exact have h:Vx k=some r:=h;J c [.cm (.fn) [] [(11,603)] [] [.d,.d] [(603,.map (QT V.I V.I k))] (.tup [.lit (.map none),.map 603,.b false]),21] Z (JA _ _ a)<|E h Z U
 ·exact have h:Vy l=some r:=h;J c [.cm (.fn) [] [(11,602)] [] [.d,.d] [(602,.map (QT V.I V.I l))] (.tup [.map 602,.lit (.map none),.b false]),21] Z (JA _ _ a)<|E h Z U
 exact have h:NS e=some r:=h;B h λg f h=>K c [.cm (.fn) [] [(11,602),(610,603)] [] [.d,.d] [(602,.map (QT V.I V.I e.1)),(603,.map (QT V.I V.I e.2))] (.tup [.map 602,.map 603,.b true]),15,.cm (.fn) [(617,11),(618,610)] [(11,617),(610,618)] [] [.d,.d] [(617,.map (QT V.I V.I e.1)),(618,.map (QT V.I V.I e.2))] (.b g),5] Z (JA _ _ a) (LR _ _ _ f)<|E h Z U
def Xb (d:QMk)(e:QMk)(a:Int):O_ (Int⊕(Unit⊕Unit)):=bif (a<(d.length:Int))then (idx d a).bind λf=>(idx e a).bind λb=>(HI f b).bind λc=>bif (!c)then some (.inr (.inl ()))else some (.inl (Qj (a+1)))else some (.inr (.inr ()))
def Dl : O_ Bool:=some false
def Dm : O_ Bool:=some true
def XK (a:QMk)(b:QMk):O_ Bool:=bif ((a.length:Int) != (b.length:Int))then some false else (Qs (λst=>Xb a b st) 0).bind (Sum.elim (λq=>Dl) (λq=>Dm))
def Dn (i l):CT 46 [.sl 1 (i.map Qe),.sl 1 (l.map Qe),.clo (.func 143) [] []] [] (XK i l) V.b no_:=
 W 32 func46 Z λC e r h=>K e [9,.o (.ln i.length),1,.o (.ln l.length),3] Z Qc Qc<|I h (λf h=>J e [.T,7] Z f<|E h Z U) λf h=>K e [.F,6,.o (.ln i.length),4] Z f Qc<|lq_ h (λst=>⟨[(1,.sl 1 (l.map Qe)),(2,.clo (.func 143) [] []),(15,.sl 1 (i.map Qe)),(16,.I (i.length:Int)),(17,.I st)],[]⟩) (λq=>(.ret,⟨[(6,.b false)],[]⟩)) (λq=>(.exit 0,⟨[],[]⟩)) Z (λu o h=>H e [6] Z<|I h (λg h=>B h λt m h=>B h λp j h=>B h λs k h=>g4_ e [.T,7,.o (.row (Qe t)),9,.o (.row (Qe p)),9,.o (.C2 (.b s)),3] Z g (QI m) (QI j) (Qgx _ _ _ k)<|I h (λa h=>J e [.T,8] Z a<|rR_ h Z) λa h=>J e [.F,7] Z a<|rN_ h Z) λg h=>J e [.F,2] Z g<|rX_ h Z) (λ_ h=>H e [2] Z<|E h Z U) (λ_ h=>H e [8] Z<|E h Z U)
def Ew (a:QMk)(b:QMk):O_ Bool:=(XK a b).bind λc=>some c
def SU (a e):CT 88 [.sl 1 (a.map Qe),.sl 1 (e.map Qe)] [] (Ew a e) V.b no_:=
 W 8 func88 Z λC f r h=>B h λg c h=>J f [9,.cm (.fn) [] [] [] [.d,.d,.d] [] (.b g),4] Z (Dn _ _ _ c)<|E h Z U
def YH (b:LI_)(c:Int)(a:Int):O_ (Int⊕(Int⊕Unit)):=bif (a<(b.length:Int))then (idx b a).bind λd=>bif (c==d)then some (.inr (.inl a))else some (.inl (Qj (a+1)))else some (.inr (.inr ()))
def EO (a:Int):O_ Int:=some a
def EP : O_ Int:=some (-1)
def Wz (a:LI_)(b:Int):O_ Int:=(Qs (λst=>YH a b st) 0).bind (Sum.elim (λq=>EO q) (λq=>EP))
def RZ (d e):CT 144 [.sl 1 (d.map Qb),.I e] [] (Wz d e) V.I no_:=
 W 19 func144 Z λC b r h=>J b [9,.o (.ln d.length),4] Z Qc<|lq_ h (λst=>⟨[(0,.sl 1 (d.map Qb)),(1,.I e),(7,.I (d.length:Int)),(8,.I st)],[]⟩) (λq=>(.ret,⟨[(4,.I q)],[]⟩)) (λq=>(.exit 0,⟨[],[]⟩)) Z (λi o h=>H b [6] Z<|I h (λc h=>B h λg f h=>K b [.T,15,.o (.row (Qb g)),4] Z c (QI f)<|I h (λa h=>J b [.T,9] Z a<|rR_ h Z) λa h=>J b [.F,7] Z a<|rN_ h Z) λc h=>J b [.F,2] Z c<|rX_ h Z) (λj h=>H b [2] Z<|E h Z U) (λ_ h=>H b [8] Z<|E h Z U)
def Yh (a:LI_)(b:Int):O_ Bool:=(Wz a b).bind λc=>some (decide (0<=c))
def BN (e f):CT 89 [.sl 1 (e.map Qb),.I f] [] (Yh e f) V.b no_:=
 W 9 func89 Z λC g r h=>B h λi a h=>J g [9,.o (.C2 (.I i)),5] Z (RZ _ _ _ a)<|E h Z U
def Kl (a:Int):O_ (Int⊕(Unit⊕Unit)):=some (.inl (Qj (a+1)))
def Ba (a:(QMk×Int))(c:QX):O_ Bool:=bif (a.2==0)then (Ew a.1 c.m).bind λb=>some b else some false
def Bb (a:Int)(b:Bool):O_ (Int⊕(Unit⊕Unit)):=bif b then some (.inr (.inl ()))else Kl a
def XV (d:QX)(b:LI_)(a:Int):O_ (Int⊕(Unit⊕Unit)):=bif (a<(d.task.Ins.length:Int))then (Yh b a).bind λf=>bif f then Kl a else (Yn b).bind λc=>(chk (c.length+([a]:L_ Int).length<=4294967296)).bind λ_=>(JC (c++([a]:L_ Int))).bind λe=>(chk (e.length=(c++([a]:L_ Int)).length)).bind λ_=>(XS d.net d.task.Ins e d.env).bind λg=>(Ba g d).bind (λh=>Bb a h)else some (.inr (.inr ()))
def Zr : O_ Int:=some 11
def Zs : O_ Int:=some 0
def Xo (b:QX)(a:LI_):O_ Int:=(XS b.net b.task.Ins a b.env).bind λc=>bif (c.2 != 0)then some c.2 else (Ew c.1 b.m).bind λd=>bif (!d)then some 10 else bif (b.task.Join != 3)then some 0 else (Qs (λst=>XV b a st) 0).bind (Sum.elim (λq=>Zr) (λq=>Zs))
def LS (g e):CT 44 [.agg (QD g),.sl 1 (e.map Qb)] [] (Xo g e) V.I no_:=
 W 76 func44 Z λC a r h=>B h λx5 a1 h=>K a [9,.A (Qa g.net),6,.o (.C4 (.tup [.sl 1 (x5.1.map Qe),.I x5.2])),16] Z Z (Us _ _ _ _ _ a1)<|I h (λt h=>J a [.T,9] Z t<|E h Z U) λt h=>B h λx7 a2 h=>K a [.F,5,.o (.C2 (.b x7)),4] Z t (SU _ _ _ a2)<|I h (λu h=>J a [.T,8] Z u<|E h Z U) λu h=>J a [.F,9] Z u<|I h (λw h=>J a [.T,8] Z w<|E h Z U) λw h=>K a [.F,9,.o (.ln g.task.Ins.length),4] Z w Qc<|lq_ h (λst=>⟨[(1,.sl 1 (e.map Qb)),lk_ 2,(41,.I (g.task.Ins.length:Int)),(42,.I st)],[(2,.var (QD g))]⟩) (λq=>(.ret,⟨[(4,.I 11)],[]⟩)) (λq=>(.exit 1,⟨[],[]⟩)) Z (λf o h=>H a [6] Z<|I h (λi h=>J a [.T,2] Z i<|mU_ ⟨[(1,.sl 1 (e.map Qb)),lk_ 2,(41,.I (g.task.Ins.length:Int)),(42,.I f)],[(2,.var (QD g))]⟩ (Kl f=some o) (B h λa3 y h=>J a [12,.o (.C2 (.b a3)),2] Z (BN _ _ _ y)<|I h (λj h=>J a [.T,3] Z j<|mu_ h Z) λj h=>B h λs z h=>X h λD h=>B h λk N h=>X h λl h=>B h λO P h=>G a [.F,5,.o (.co false [.d] 1 (s.map Qb) s.length),1,.v (.bd []) [] (.sl 1 (([f]:L_ Int).map Qb)),.app ((s++([f]:L_ Int)).map Qb) (s++([f]:L_ Int)).length,6,.cm (.fn) [(617,49)] [(49,617)] [] [.d] [(617,.arr 1 (k.map Qb))] (.tup []),.S 8 (.own 49 k.length),.S 52 (.own 49 k.length),.S 53 (.own 49 k.length),5,.A (Qa g.net),6,.frz 49 (k.map Qb) [8,52,53,61] [],.o (.C4 (.tup [.sl 1 (O.1.map Qe),.I O.2])),8] Z (aB_ j ⟨(Kq _ _ z),Qc,.inl Z⟩ Z ⟨Qc,Yk D Qc,XG,YC Qc⟩ (Ur _ N) (by simp[Xn l]) (by simp[Xn l]) (by simp[Xn l]) Z (a4_ (YA Qc) (YA Qc) (YA Qc) (YA Qc)) (Us _ _ _ _ _ P))<|mV_ h (λx=>⟨[(1,.sl 1 (e.map Qb)),lk_ 2,(41,.I (g.task.Ins.length:Int)),(42,.I f),(74,.b x)],[(2,.var (QD g))]⟩) (λx h=>H a [4] Z<|I h (λm h=>B h λa4 a0 h=>G a [.S 69 (.b true),3,.o (.C2 (.b a4)),2] Z ⟨(tc_ m),(SU _ _ _ a0)⟩<|mq_ h Z) λm h=>L a [.S 69 (.b false),6] Z m<|mq_ h Z) λx h=>H a [1] Z<|I h (λp h=>J a [.T,8] Z p<|rR_ h Z) λp h=>J a [.F,2] Z p<|mu_ h Z) λh=>H a [4] Z<|rN_ h Z) λi h=>J a [.F,2] Z i<|rX_ h Z) (λ_ h=>H a [2] Z<|E h Z U) (λ_ h=>H a [8] Z<|E h Z U)
def HJ (a:(Int×QX)):O_ Bool:=bif (a.1 != 0)then some true else (Xu a.2).bind λb=>some (b != 0)
def KK (a:Int)(b:(L_ Qh)):O_ ((Int×(L_ Qh))⊕((L_ Qh)⊕(L_ Qh))):=some (.inl ((Qj (a+1)),b))
def Dy (f:QLL)(j:LI_)(h:LI_)(g:Int)(k:Int)(e:Int)(a:(L_ Qh)):O_ ((Int×(L_ Qh))⊕((L_ Qh)⊕(L_ Qh))):=bif (e<(f.length:Int))then (idx f e).bind λi=>(Yn j).bind λb=>(Yn h).bind λc=>(Yn i).bind λd=>(chk (a.length+([(Qh.mk g b c d)]:L_ Qh).length<=4294967296)).bind λ_=>bif (((a++[(Qh.mk g b c d)]).length:Int)==k)then some (.inr (.inl (a++[(Qh.mk g b c d)])))else some (.inl ((Qj (e+1)),(a++[(Qh.mk g b c d)])))else some (.inr (.inr a))
def HK (a:(L_ Qh)):O_ ((Int×(L_ Qh))⊕((L_ Qh)⊕(L_ Qh))):=some (.inr (.inl a))
def Ut (a:Int)(b:(L_ Qh)):O_ ((Int×(L_ Qh))⊕((L_ Qh)⊕(L_ Qh))):=KK a b
def Dz (g:QLL)(d:(Int×QX))(e:QLL)(h:LI_)(i:Int)(j:Int)(a:Int)(b:(L_ Qh)):O_ ((Int×(L_ Qh))⊕((L_ Qh)⊕(L_ Qh))):=bif (a<(g.length:Int))then (idx g a).bind λc=>(Xo d.2 c).bind λf=>bif (f != 0)then KK a b else (Qs (λst=>Dy e h c i j st.1 st.2) (0,b)).bind (Sum.elim (λq=>HK q) (λq=>Ut a q))else some (.inr (.inr b))
def HL (a:(L_ Qh)):O_ ((L_ Qh)⊕(L_ Qh)):=some (.inl a)
def HN (a:(L_ Qh)):O_ ((L_ Qh)⊕(L_ Qh)):=some (.inr a)
def DA (e:(L_ Qh))(f:QLL)(a:(Int×QX))(g:QLL)(h:LI_)(i:Int)(j:Int)(b:Bool):O_ ((L_ Qh)⊕(L_ Qh)):=bif b then some (.inr e)else (Dg f).bind λc=>(Kt c a.2).bind λd=>(Qs (λst=>Dz g a d h i j st.1 st.2) (0,e)).bind (Sum.elim (λq=>HL q) (λq=>HN q))
def Ee (e:Qn)(f:QMk)(c:Int)(g:Int)(k:(L_ Qh))(h:QLL)(i:QLL)(j:(L_ Qh))(d:LI_):O_ ((L_ Qh)⊕(L_ Qh)):=(YE e f c d).bind λa=>(HJ a).bind (λb=>DA j i a h d c g b)
def HO (lpl lpf:Nat)(y:Qn)(z:QMk)(k:Int)(w:Int)(l:(L_ Qh))(j:QLL)(x:QLL)(l8:(L_ Qh))(D:LI_){r:((L_ Qh)⊕(L_ Qh))}(h:Ee y z k w l j x l8 D=some r):PI prog lpl (Yw lpf) (Qqz (.L 618) (.L 619) (.L 620) (.L 621) (.L 622) (.L 623) (.L 624) (.L 625) (.sl 1 (D.map Qb))) [(617,.lp lpl (Yw lpf) (DU (.L 618) (.L 619) (.L 620) (.L 621) (.L 622) (.L 623) (.L 624) (.L 625)) 0),(618,.var (Qa y)),(619,.var (Qu z)),(620,.var (Qb k)),(621,.var (Qb w)),(622,.var [.own 615 l.length]),(615,.arr 4 (l.map Qf)),(623,.var (Xj j)),(624,.var (Xj x)),(625,.var [.own 616 l8.length]),(616,.arr 4 (l8.map Qf))] ((Sum.elim (λq=>(Gives (.b false) [(615,.arr 4 (l.map Qf)),(616,.arr 4 (q.map Qf)),(617,.lp lpl (Yw lpf) (DU (.L 618) (.L 619) (.L 620) (.L 621) (.L 622) (.L 623) (.L 624) (.L 625)) 2),(618,.var (Qa y)),(619,.var (Qu z)),(620,.var (Qb k)),(621,.var (Qb w)),(622,.var [.own 616 q.length]),(623,.var (Xj j)),(624,.var (Xj x)),(625,.var [.own 616 q.length])])) (λq=>(Gives (.b true) [(615,.arr 4 (l.map Qf)),(616,.arr 4 (q.map Qf)),(617,.lp lpl (Yw lpf) (DU (.L 618) (.L 619) (.L 620) (.L 621) (.L 622) (.L 623) (.L 624) (.L 625)) 0),(618,.var (Qa y)),(619,.var (Qu z)),(620,.var (Qb k)),(621,.var (Qb w)),(622,.var [.own 615 l.length]),(623,.var (Xj j)),(624,.var (Xj x)),(625,.var [.own 616 q.length])]))) r):=by
 refine PI.walk (b:=617) 109 rfl rfl λC i=>?_
 refine tg_ i [3] ?_
 refine AK.done (an_ rfl (ex_ _ (an_ rfl ?_)))
 obtain⟨f,b1,h⟩:=Qw h
 refine QJ i [3,.A (Qa y),3,.o (.C4 (.tup [.agg (QD f.2),.I f.1])),5,.O 14 (.var (QD f.2)),5] Z (a3_ Z (Vt _ _ _ _ _ b1) Z) ?_
 obtain⟨a9,b2,h⟩:=Qw h
 replace h:DA l8 x f j D k w a9=some r:=h
 refine AK.meetX (λσ=>σ=⟨[(6,.L 620),(7,.L 621),(8,.L 622),(10,.L 623),(11,.L 624),(12,.L 625),(13,.sl 1 (D.map Qb)),lk_ 14,(69,.b a9)],[(14,.var (QD f.2)),(615,.arr 4 (l.map Qf)),(616,.arr 4 (l8.map Qf)),(617,.lp lpl (Yw lpf) (DU (.L 618) (.L 619) (.L 620) (.L 621) (.L 622) (.L 623) (.L 624) (.L 625)) 1),(618,.var (Qa y)),(619,.var (Qu z)),(620,.var (Qb k)),(621,.var (Qb w)),(622,.var [.own 615 l.length]),(623,.var (Xj j)),(624,.var (Xj x)),(625,.var [.own 616 l8.length])]⟩) ?_ ?_
 ·replace h:=b2
  refine tg_ i [4] ?_
  rcases Xr h with⟨P,h⟩|⟨P,h⟩
  ·refine QJ i [.S 65 (.b true),5,.K [6,7,8,10,11,12,13,14,69] [14,615,616,617,618,619,620,621,622,623,624,625]] Z (tc_ P) ?_
   cases h
   exact mt_
  obtain⟨c5,b3,h⟩:=Qw h
  refine QJ i [.S 65 (.b false),.A (QD f.2),.o (.C1 (.I c5)),3,.K [6,7,8,10,11,12,13,14,69] [14,615,616,617,618,619,620,621,622,623,624,625]] Z ⟨⟨(tc_ P),Z⟩,(HH _ _ b3)⟩ ?_
  cases h
  exact mt_
 rintro σ rfl
 replace h:DA l8 x f j D k w a9=some r:=h
 refine tg_ i [1] ?_
 rcases Xr h with⟨a0,h⟩|⟨a0,h⟩
 ·refine QJ i [.T,3,.K [] [615,616,617,618,619,620,621,622,623,624,625]] Z (A a0) ?_
  cases h
  refine AK.done ?_
  exact ex_ _ (an_ Z (gives rB_))
 obtain⟨b4,b5,h⟩:=Qw h
 obtain⟨g,b6,h⟩:=Qw h
 refine QJ i [.F,5,.o (.co false [.d] 1 (b4.map Qz) b4.length),1,.cm (.fn) [(617,71),(618,14)] [(71,617),(14,618)] [] [.d,.d] [(617,.arr 1 (g.map Qz)),(618,.var (QD f.2))] (.own 617 g.length),6,.o (.ln j.length),4,.K [6,7,8,12,13,14,16,74,75,76] [14,71,615,616,617,618,619,620,621,622,623,624,625]] Z (a4_ a0 ⟨(OS _ _ b5),Qc,.inl Z⟩ (LQ _ _ _ b6) Qc) ?_
 obtain⟨c6,b7,h⟩:=Qw h
 refine AK.loop (body:=(λst=>Dz j f g D k w st.1 st.2)) (λst σ=>σ=⟨[(6,.L 620),(7,.L 621),(8,.L 622),(12,.L 625),(13,.sl 1 (D.map Qb)),lk_ 14,(16,.own 71 g.length),(74,.sl 1 (j.map Qz)),(75,.I (j.length:Int)),(76,.I st.1)],[(14,.var (QD f.2)),(71,.arr 1 (g.map Qz)),(615,.arr 4 (l.map Qf)),(616,.arr 4 (st.2.map Qf)),(617,.lp lpl (Yw lpf) (DU (.L 618) (.L 619) (.L 620) (.L 621) (.L 622) (.L 623) (.L 624) (.L 625)) 1),(618,.var (Qa y)),(619,.var (Qu z)),(620,.var (Qb k)),(621,.var (Qb w)),(622,.var [.own 615 l.length]),(623,.var (Xj j)),(624,.var (Xj x)),(625,.var [.own 616 st.2.length])]⟩) (Sum.elim (λq e σ=>e=.ret/\σ=⟨[],[(615,.arr 4 (l.map Qf)),(616,.arr 4 (q.map Qf)),(617,.lp lpl (Yw lpf) (DU (.L 618) (.L 619) (.L 620) (.L 621) (.L 622) (.L 623) (.L 624) (.L 625)) 1),(618,.var (Qa y)),(619,.var (Qu z)),(620,.var (Qb k)),(621,.var (Qb w)),(622,.var [.own 616 q.length]),(623,.var (Xj j)),(624,.var (Xj x)),(625,.var [.own 616 q.length])]⟩) (λq e σ=>e=.exit 2/\σ=⟨[],[(615,.arr 4 (l.map Qf)),(616,.arr 4 (q.map Qf)),(617,.lp lpl (Yw lpf) (DU (.L 618) (.L 619) (.L 620) (.L 621) (.L 622) (.L 623) (.L 624) (.L 625)) 1),(618,.var (Qa y)),(619,.var (Qu z)),(620,.var (Qb k)),(621,.var (Qb w)),(622,.var [.own 615 l.length]),(623,.var (Xj j)),(624,.var (Xj x)),(625,.var [.own 616 q.length])]⟩)) b7 rfl ?_ ?_
 ·rintro ⟨a1,d4⟩ o σ rfl h
  refine tg_ i [6] ?_
  refine bq_ i h [.T,2] rfl (λa2 h=>?_) [.F,2,.K [] [615,616,617,618,619,620,621,622,623,624,625]] rfl λa2 h=>?_
  ·refine AK.meet (λσ=>∃a6:(L_ Qh),σ=⟨[(6,.L 620),(7,.L 621),(8,.L 622),(12,.L 625),(13,.sl 1 (D.map Qb)),lk_ 14,(16,.own 71 g.length),(74,.sl 1 (j.map Qz)),(75,.I (j.length:Int)),(76,.I a1)],[(14,.var (QD f.2)),(71,.arr 1 (g.map Qz)),(615,.arr 4 (l.map Qf)),(616,.arr 4 (a6.map Qf)),(617,.lp lpl (Yw lpf) (DU (.L 618) (.L 619) (.L 620) (.L 621) (.L 622) (.L 623) (.L 624) (.L 625)) 1),(618,.var (Qa y)),(619,.var (Qu z)),(620,.var (Qb k)),(621,.var (Qb w)),(622,.var [.own 615 l.length]),(623,.var (Xj j)),(624,.var (Xj x)),(625,.var [.own 616 a6.length])]⟩/\KK a1 a6=some o) ?_ ?_
   ·obtain⟨b0,b8,h⟩:=Qw h
    obtain⟨c7,b9,h⟩:=Qw h
    refine QJ i [3,.o (.row (Qz b0)),7,.A (QD f.2),1,.o (.C2 (.I c7)),3] Z (a3_ (QI b8) Z (LS _ _ _ b9)) ?_
    refine bq_ i h [.T,3,.K [6,7,8,12,13,14,16,74,75,76] [14,71,615,616,617,618,619,620,621,622,623,624,625]] rfl (λa3 h=>?_) [.F,10,.K [6,7,8,12,13,14,16,18,74,75,76,84,85,86] [14,71,615,616,617,618,619,620,621,622,623,624,625]] rfl λa3 h=>?_
    ·exact AK.met (ex_ _ (an_ Z h))
    obtain⟨c8,c0,h⟩:=Qw h
    refine AK.loop (body:=(λst=>Dy g D b0 k w st.1 st.2)) (λst σ=>σ=⟨[(6,.L 620),(7,.L 621),(8,.L 622),(12,.L 625),(13,.sl 1 (D.map Qb)),lk_ 14,(16,.own 71 g.length),(18,.sl 1 (b0.map Qb)),(74,.sl 1 (j.map Qz)),(75,.I (j.length:Int)),(76,.I a1),(84,.own 71 g.length),(85,.I (g.length:Int)),(86,.I st.1)],[(14,.var (QD f.2)),(71,.arr 1 (g.map Qz)),(615,.arr 4 (l.map Qf)),(616,.arr 4 (st.2.map Qf)),(617,.lp lpl (Yw lpf) (DU (.L 618) (.L 619) (.L 620) (.L 621) (.L 622) (.L 623) (.L 624) (.L 625)) 1),(618,.var (Qa y)),(619,.var (Qu z)),(620,.var (Qb k)),(621,.var (Qb w)),(622,.var [.own 615 l.length]),(623,.var (Xj j)),(624,.var (Xj x)),(625,.var [.own 616 st.2.length])]⟩) (Sum.elim (λq e σ=>e=.ret/\σ=⟨[],[(615,.arr 4 (l.map Qf)),(616,.arr 4 (q.map Qf)),(617,.lp lpl (Yw lpf) (DU (.L 618) (.L 619) (.L 620) (.L 621) (.L 622) (.L 623) (.L 624) (.L 625)) 1),(618,.var (Qa y)),(619,.var (Qu z)),(620,.var (Qb k)),(621,.var (Qb w)),(622,.var [.own 616 q.length]),(623,.var (Xj j)),(624,.var (Xj x)),(625,.var [.own 616 q.length])]⟩) (λq e σ=>e=.exit 4/\σ=⟨[(6,.L 620),(7,.L 621),(8,.L 622),(12,.L 625),(13,.sl 1 (D.map Qb)),lk_ 14,(16,.own 71 g.length),(74,.sl 1 (j.map Qz)),(75,.I (j.length:Int)),(76,.I a1)],[(14,.var (QD f.2)),(71,.arr 1 (g.map Qz)),(615,.arr 4 (l.map Qf)),(616,.arr 4 (q.map Qf)),(617,.lp lpl (Yw lpf) (DU (.L 618) (.L 619) (.L 620) (.L 621) (.L 622) (.L 623) (.L 624) (.L 625)) 1),(618,.var (Qa y)),(619,.var (Qu z)),(620,.var (Qb k)),(621,.var (Qb w)),(622,.var [.own 615 l.length]),(623,.var (Xj j)),(624,.var (Xj x)),(625,.var [.own 616 q.length])]⟩)) c0 rfl ?_ ?_
    ·rintro ⟨d5,a7⟩ o σ rfl h
     refine tg_ i [6] ?_
     rcases Xr h with⟨a4,h⟩|⟨a4,h⟩
     ·obtain⟨c9,a8,h⟩:=Qw h
      obtain⟨p,c1,h⟩:=Qw h
      obtain⟨t,c2,h⟩:=Qw h
      obtain⟨u,c3,h⟩:=Qw h
      obtain⟨c4,h⟩:=QhV h
      refine QJ i [.T,7,.o (.row (Qz c9)),4,.K [6,7,8,12,13,14,16,18,20,74,75,76,84,85,86] [14,71,615,616,617,618,619,620,621,622,623,624,625]] Z (a3_ a4 (Yv a8 Z) (XO (Ys a8).2)) ?_
      refine AK.draw2 QN i mixed [.N,.N,.N,.B (.cd false [.d] 1 (p.map Qb) p.length),.N,.B (.cd false [.d] 1 (t.map Qb) t.length),.N,.B (.cd false [.d] 1 (u.map Qb) u.length),.E (.agg (Qf (Qh.mk k p t u))),.a (.bd []) (some ([],.sl 4 (([(Qh.mk k p t u)]:L_ Qh).map Qf))) false,.m (.app ((a7++[(Qh.mk k p t u)]).map Qf) (a7++[(Qh.mk k p t u)]).length),.m .s] [] [] [6,7,8,12,13,14,16,18,74,75,76,84,85,86] [14,71,615,616,617,618,619,620,621,622,623,624,625] rfl rfl rfl ⟨⟨⟨⟨⟨⟨U,⟨(Kq _ _ c1),Qc⟩⟩,⟨(Kq _ _ c2),Qc⟩⟩,⟨(Kq _ _ c3),Qc⟩⟩,rfl⟩,rfl⟩,⟨Qc,Yk c4 Qc,XG,YC Qc⟩⟩ rfl (by kernel_rfl) rfl rfl rfl ?_
      refine QJ i [.O 625 (.var [.own 616 (a7++[(Qh.mk k p t u)]).length]),9] Z (A Z) ?_
      refine bg_ h (λa5 h=>QJ i [.T,4,.O 622 (.var [.own 616 (a7++[(Qh.mk k p t u)]).length]),5,.K [] [615,616,617,618,619,620,621,622,623,624,625]] rfl (a2_ a5 rfl) ?_) λa5 h=>QJ i [.F,7,.K [6,7,8,12,13,14,16,18,74,75,76,84,85,86] [14,71,615,616,617,618,619,620,621,622,623,624,625]] rfl (A a5) ?_
      ·cases h
       exact QlA Z (an_ Z Z)
      cases h
      exact QeB Z Z
     refine QJ i [.F,2,.K [6,7,8,12,13,14,16,74,75,76] [14,71,615,616,617,618,619,620,621,622,623,624,625]] Z (A a4) ?_
     cases h
     exact QhM Z (an_ Z Z)
    rcases c8 with(d0 | d1)
    ·replace h:HK d0=some o:=h
     rintro e σ ⟨rfl,rfl⟩
     refine tg_ i [3,.K [] [615,616,617,618,619,620,621,622,623,624,625]] ?_
     cases h
     exact QlA Z (an_ Z Z)
    replace h:Ut a1 d1=some o:=h
    unfold Ut at h
    rintro e σ ⟨rfl,rfl⟩
    refine tg_ i [2,.K [6,7,8,12,13,14,16,74,75,76] [14,71,615,616,617,618,619,620,621,622,623,624,625]] ?_
    exact AK.met (ex_ _ (an_ Z h))
   rintro σ ⟨a6,rfl,h⟩
   refine tg_ i [4,.K [6,7,8,12,13,14,16,74,75,76] [14,71,615,616,617,618,619,620,621,622,623,624,625]] ?_
   cases h
   exact QeB Z Z
  cases h
  exact QhM Z (an_ Z Z)
 rcases c6 with(d2 | d3)
 ·replace h:HL d2=some r:=h
  rintro e σ ⟨rfl,rfl⟩
  refine tg_ i [2,.K [] [615,616,617,618,619,620,621,622,623,624,625]] ?_
  cases h
  refine AK.done ?_
  exact ex_ _ (an_ Z (gives rB_))
 replace h:HN d3=some r:=h
 rintro e σ ⟨rfl,rfl⟩
 refine tg_ i [2,.K [] [615,616,617,618,619,620,621,622,623,624,625]] ?_
 cases h
 refine AK.done ?_
 exact ex_ _ (an_ Z (gives rB_))
def Yl (c:(L_ QM))(a:Int):O_ Int:=(Ww c a).bind λb=>bif (!b.1)then some 0 else (idx b.2.sizes a).bind λd=>some d
def Cs (j k):CT 110 [.sl 7 (j.map Qt),.I k] [] (Yl j k) V.I no_:=
 W 20 func110 Z λC e r h=>B h λf g h=>K e [9,.o (.C2 (.tup [.agg (Xw f.2),.b f.1])),5,.O 5 (.var (Xw f.2)),10] Z (OQ _ _ _ g) Z<|I h (λa h=>J e [.T,7] Z a<|E h Z U) λa h=>B h λl i h=>K e [.F,7,.o (.row (Qb l)),5] Z a (QI i)<|E h Z U
def NT (a:(L_ Qh)):O_ ((LI_×(L_ Qh))⊕((L_ Qh)⊕(L_ Qh))):=some (.inr (.inr a))
def Ct (h:Int)(a:LI_)(f:QL)(b:Qn):O_ Bool:=bif (0<=h)then (idx a h).bind λc=>(idx f.Vars h).bind λd=>(Yl b.Colours d.Colour).bind λe=>some (decide (e<=(Qj (c+1))))else some false
def EQ (a:LI_)(h:Int)(b:Bool):O_ ((Int×LI_)⊕(Int×LI_)):=bif b then (idx a h).bind λc=>some (.inl ((Qj (h-1)),(a.set h.toNat 0)))else some (.inr (h,a))
def Jf (d:QL)(b:Qn)(h:Int)(a:LI_):O_ ((Int×LI_)⊕(Int×LI_)):=(Ct h a d b).bind (λc=>EQ a h c)
def ER (b:(L_ Qh))(h:Int)(a:LI_):O_ ((LI_×(L_ Qh))⊕((L_ Qh)⊕(L_ Qh))):=bif (h<0)then some (.inr (.inl b))else (idx a h).bind λc=>(idx a h).bind λd=>some (.inl ((a.set h.toNat (Qj (c+1))),b))
def ES (d:QL)(b:Qn)(a:LI_)(c:(L_ Qh)):O_ ((LI_×(L_ Qh))⊕((L_ Qh)⊕(L_ Qh))):=(Qs (λst=>Jf d b st.1 st.2) ((Qj ((a.length:Int)-1)),a)).bind (λq=>ER c q.1 q.2)
def ET (e:Qn)(f:QMk)(g:Int)(h:Int)(i:(L_ Qh))(j:QLL)(k:QLL)(l:QL)(b:Qn)(a:LI_)(c:(L_ Qh)):O_ ((LI_×(L_ Qh))⊕((L_ Qh)⊕(L_ Qh))):=(Yn a).bind λd=>(Ee e f g h i j k c d).bind (Sum.elim (λq=>NT q) (λq=>ES l b a q))
def NU (a:(L_ Qh)):O_ ((L_ Qh)⊕(L_ Qh)):=some (.inl a)
def NV (a:(L_ Qh)):O_ ((L_ Qh)⊕(L_ Qh)):=some (.inr a)
def Bp (c:Qn)(d:QMk)(e:Int)(f:Int)(g:(L_ Qh))(h:QLL)(i:QLL)(j:(L_ Qh))(a:QL)(b:Qn):O_ ((L_ Qh)⊕(L_ Qh)):=(chk (decide (0<=(a.Vars.length:Int))&&decide ((a.Vars.length:Int)<=(a.Vars.length:Int))&&decide ((a.Vars.length:Int)<=4294967296))).bind λ_=>(Qs (λst=>ET c d e f g h i a b st.1 st.2) ((List.replicate (a.Vars.length:Int).toNat (0:Int)),j)).bind (Sum.elim (λq=>NU q) (λq=>NV q))
def NW (lpl lpf:Nat)(m:Qn)(p:QMk)(s:Int)(t:Int)(j:(L_ Qh))(u:QLL)(v:QLL)(l8:(L_ Qh))(l:QL)(f:Qn){r:((L_ Qh)⊕(L_ Qh))}(h:Bp m p s t j u v l8 l f=some r):QP prog 136 [.clo (.yield lpl) [] [],.L 626,.L 627] [(617,.lp lpl (Yw lpf) (DU (.L 618) (.L 619) (.L 620) (.L 621) (.L 622) (.L 623) (.L 624) (.L 625)) 0),(618,.var (Qa m)),(619,.var (Qu p)),(620,.var (Qb s)),(621,.var (Qb t)),(622,.var [.own 615 j.length]),(615,.arr 4 (j.map Qf)),(623,.var (Xj u)),(624,.var (Xj v)),(625,.var [.own 616 l8.length]),(616,.arr 4 (l8.map Qf)),(626,.var (Qk l)),(627,.var (Qa f))] ((Sum.elim (λq=>(Gives (.tup []) [(615,.arr 4 (j.map Qf)),(616,.arr 4 (q.map Qf)),(617,.lp lpl (Yw lpf) (DU (.L 618) (.L 619) (.L 620) (.L 621) (.L 622) (.L 623) (.L 624) (.L 625)) 0),(618,.var (Qa m)),(619,.var (Qu p)),(620,.var (Qb s)),(621,.var (Qb t)),(622,.var [.own 615 j.length]),(623,.var (Xj u)),(624,.var (Xj v)),(625,.var [.own 616 q.length]),(626,.var (Qk l)),(627,.var (Qa f))])) (λq=>(Gives (.tup []) [(615,.arr 4 (j.map Qf)),(616,.arr 4 (q.map Qf)),(617,.lp lpl (Yw lpf) (DU (.L 618) (.L 619) (.L 620) (.L 621) (.L 622) (.L 623) (.L 624) (.L 625)) 2),(618,.var (Qa m)),(619,.var (Qu p)),(620,.var (Qb s)),(621,.var (Qb t)),(622,.var [.own 616 q.length]),(623,.var (Xj u)),(624,.var (Xj v)),(625,.var [.own 616 q.length]),(626,.var (Qk l)),(627,.var (Qa f))]))) r):=by
 refine wk_ 50 func136 λC k=>?_
 obtain⟨a8,h⟩:=QhV h
 refine QJ k [4,.o (.ln l.Vars.length),.o (.rows ((List.replicate (l.Vars.length:Int).toNat (0:Int)).map Qb)),.S 9 (.own 9 (List.replicate (l.Vars.length:Int).toNat (0:Int)).length),4,.K [0,1,2,4] [9,615,616,617,618,619,620,621,622,623,624,625,626,627]] Z (a3_ Qc ⟨a8,QjM Z⟩ (by simp)) ?_
 obtain⟨b6,a9,h⟩:=Qw h
 refine AK.loop (body:=(λst=>ET m p s t j u v l f st.1 st.2)) (λst σ=>σ=⟨[(0,.clo (.yield lpl) [] []),(1,.L 626),(2,.L 627),(4,.own 9 st.1.length)],[(9,.arr 1 (st.1.map Qb)),(615,.arr 4 (j.map Qf)),(616,.arr 4 (st.2.map Qf)),(617,.lp lpl (Yw lpf) (DU (.L 618) (.L 619) (.L 620) (.L 621) (.L 622) (.L 623) (.L 624) (.L 625)) 0),(618,.var (Qa m)),(619,.var (Qu p)),(620,.var (Qb s)),(621,.var (Qb t)),(622,.var [.own 615 j.length]),(623,.var (Xj u)),(624,.var (Xj v)),(625,.var [.own 616 st.2.length]),(626,.var (Qk l)),(627,.var (Qa f))]⟩) (Sum.elim (λq e σ=>e=.ret/\σ=⟨[],[(615,.arr 4 (j.map Qf)),(616,.arr 4 (q.map Qf)),(617,.lp lpl (Yw lpf) (DU (.L 618) (.L 619) (.L 620) (.L 621) (.L 622) (.L 623) (.L 624) (.L 625)) 0),(618,.var (Qa m)),(619,.var (Qu p)),(620,.var (Qb s)),(621,.var (Qb t)),(622,.var [.own 615 j.length]),(623,.var (Xj u)),(624,.var (Xj v)),(625,.var [.own 616 q.length]),(626,.var (Qk l)),(627,.var (Qa f))]⟩) (λq e σ=>e=.ret/\σ=⟨[],[(615,.arr 4 (j.map Qf)),(616,.arr 4 (q.map Qf)),(617,.lp lpl (Yw lpf) (DU (.L 618) (.L 619) (.L 620) (.L 621) (.L 622) (.L 623) (.L 624) (.L 625)) 2),(618,.var (Qa m)),(619,.var (Qu p)),(620,.var (Qb s)),(621,.var (Qb t)),(622,.var [.own 616 q.length]),(623,.var (Xj u)),(624,.var (Xj v)),(625,.var [.own 616 q.length]),(626,.var (Qk l)),(627,.var (Qa f))]⟩)) a9 rfl ?_ ?_
 ·rintro ⟨b0,c6⟩ o σ rfl h
  obtain⟨a4,b1,h⟩:=Qw h
  obtain⟨b7,P,h⟩:=Qw h
  refine QJ k [6,.o (.co true [.o (b0.map Qb)] 1 (a4.map Qb) a4.length),.frz 12 (a4.map Qb) [12] []] Z (a2_ ⟨(Sl Z),⟨(Kq _ _ b1),Qc,.inr (QmQ _)⟩⟩ (A (YA Qc))) ?_
  rcases b7 with(w | i)
  ·replace h:NT w=some o:=h
   refine QJ k [.x (λσ=>(σ.after [615,616] [(615,.arr 4 (j.map Qf)),(616,.arr 4 (w.map Qf)),(617,.lp lpl (Yw lpf) (DU (.L 618) (.L 619) (.L 620) (.L 621) (.L 622) (.L 623) (.L 624) (.L 625)) 2),(618,.var (Qa m)),(619,.var (Qu p)),(620,.var (Qb s)),(621,.var (Qb t)),(622,.var [.own 616 w.length]),(623,.var (Xj u)),(624,.var (Xj v)),(625,.var [.own 616 w.length])]).put 13 (.b false)),7,.K [] [615,616,617,618,619,620,621,622,623,624,625,626,627]] Z (A (Ql.yieldV (b:=617) (M:=[(617,617),(618,618),(619,619),(620,620),(621,621),(622,622),(615,615),(623,623),(624,624),(625,625),(616,616)]) (N:=[(615,615),(616,616),(617,617),(618,618),(619,619),(620,620),(621,621),(622,622),(623,623),(624,624),(625,625)]) (dead:=[615,616]) (ms:=[.d,.d,.d,.d,.d,.d,.d,.d,.d,.d,.d,.d,.d,.d,.d,.d,.d,.d,.d,.d,.d,.d,.d,.d,.d,.d,.d,.d,.d,.d,.d,.d,.d,.d,.d,.d,.d,.d,.d,.d,.d,.d,.d,.d,.d,.d,.d,.d,.d,.d,.d,.d,.d,.d,.d,.d,.d,.d,.d,.d,.d,.d,.d,.d,.d,.d,.d,.d,.d,.d,.d,.d,.d,.d,.d,.d,.d,.d,.d,.d,.d,.d,.d,.d,.d,.d,.d,.d,.d,.d,.d,.d,.d,.d,.d,.d,.d,.d,.d,.d,.d,.d,.d,.d,.d,.d,.d,.d,.d]) (outs:=[(615,.arr 4 (j.map Qf)),(616,.arr 4 (w.map Qf)),(617,.lp lpl (Yw lpf) (DU (.L 618) (.L 619) (.L 620) (.L 621) (.L 622) (.L 623) (.L 624) (.L 625)) 2),(618,.var (Qa m)),(619,.var (Qu p)),(620,.var (Qb s)),(621,.var (Qb t)),(622,.var [.own 616 w.length]),(623,.var (Xj u)),(624,.var (Xj v)),(625,.var [.own 616 w.length])]) (r:=.b false) Z Z Z Z Z Z Z (QZ k.n Z) k.g Z Z (HO _ _ _ _ _ _ _ _ _ _ _ P))) ?_
   cases h
   exact QlA Z (an_ Z Z)
  replace h:ES l f b0 i=some o:=h
  refine QJ k [.x (λσ=>(σ.after [615,616] [(615,.arr 4 (j.map Qf)),(616,.arr 4 (i.map Qf)),(617,.lp lpl (Yw lpf) (DU (.L 618) (.L 619) (.L 620) (.L 621) (.L 622) (.L 623) (.L 624) (.L 625)) 0),(618,.var (Qa m)),(619,.var (Qu p)),(620,.var (Qb s)),(621,.var (Qb t)),(622,.var [.own 615 j.length]),(623,.var (Xj u)),(624,.var (Xj v)),(625,.var [.own 616 i.length])]).put 13 (.b true)),16,.K [0,1,2,4,5] [9,615,616,617,618,619,620,621,622,623,624,625,626,627]] Z (A (Ql.yieldV (b:=617) (M:=[(617,617),(618,618),(619,619),(620,620),(621,621),(622,622),(615,615),(623,623),(624,624),(625,625),(616,616)]) (N:=[(615,615),(616,616),(617,617),(618,618),(619,619),(620,620),(621,621),(622,622),(623,623),(624,624),(625,625)]) (dead:=[615,616]) (ms:=[.d,.d,.d,.d,.d,.d,.d,.d,.d,.d,.d,.d,.d,.d,.d,.d,.d,.d,.d,.d,.d,.d,.d,.d,.d,.d,.d,.d,.d,.d,.d,.d,.d,.d,.d,.d,.d,.d,.d,.d,.d,.d,.d,.d,.d,.d,.d,.d,.d,.d,.d,.d,.d,.d,.d,.d,.d,.d,.d,.d,.d,.d,.d,.d,.d,.d,.d,.d,.d,.d,.d,.d,.d,.d,.d,.d,.d,.d,.d,.d,.d,.d,.d,.d,.d,.d,.d,.d,.d,.d,.d,.d,.d,.d,.d,.d,.d,.d,.d,.d,.d,.d,.d,.d,.d,.d,.d,.d,.d]) (outs:=[(615,.arr 4 (j.map Qf)),(616,.arr 4 (i.map Qf)),(617,.lp lpl (Yw lpf) (DU (.L 618) (.L 619) (.L 620) (.L 621) (.L 622) (.L 623) (.L 624) (.L 625)) 0),(618,.var (Qa m)),(619,.var (Qu p)),(620,.var (Qb s)),(621,.var (Qb t)),(622,.var [.own 615 j.length]),(623,.var (Xj u)),(624,.var (Xj v)),(625,.var [.own 616 i.length])]) (r:=.b true) Z Z Z Z Z Z Z (QZ k.n Z) k.g Z Z (HO _ _ _ _ _ _ _ _ _ _ _ P))) ?_
  obtain⟨b8,b2,h⟩:=Qw h
  refine AK.loop (body:=(λst=>Jf l f st.1 st.2)) (λst σ=>σ=⟨[(0,.clo (.yield lpl) [] []),(1,.L 626),(2,.L 627),(4,.own 9 st.2.length),(5,.I st.1)],[(9,.arr 1 (st.2.map Qb)),(615,.arr 4 (j.map Qf)),(616,.arr 4 (i.map Qf)),(617,.lp lpl (Yw lpf) (DU (.L 618) (.L 619) (.L 620) (.L 621) (.L 622) (.L 623) (.L 624) (.L 625)) 0),(618,.var (Qa m)),(619,.var (Qu p)),(620,.var (Qb s)),(621,.var (Qb t)),(622,.var [.own 615 j.length]),(623,.var (Xj u)),(624,.var (Xj v)),(625,.var [.own 616 i.length]),(626,.var (Qk l)),(627,.var (Qa f))]⟩) (λq e σ=>e=.exit 2/\σ=⟨[(0,.clo (.yield lpl) [] []),(1,.L 626),(2,.L 627),(4,.own 9 q.2.length),(5,.I q.1)],[(9,.arr 1 (q.2.map Qb)),(615,.arr 4 (j.map Qf)),(616,.arr 4 (i.map Qf)),(617,.lp lpl (Yw lpf) (DU (.L 618) (.L 619) (.L 620) (.L 621) (.L 622) (.L 623) (.L 624) (.L 625)) 0),(618,.var (Qa m)),(619,.var (Qu p)),(620,.var (Qb s)),(621,.var (Qb t)),(622,.var [.own 615 j.length]),(623,.var (Xj u)),(624,.var (Xj v)),(625,.var [.own 616 i.length]),(626,.var (Qk l)),(627,.var (Qa f))]⟩) b2 rfl ?_ ?_
  ·rintro ⟨at_25,y⟩ o σ rfl h
   refine tg_ k [2] ?_
   obtain⟨a5,b3,h⟩:=Qw h
   replace h:EQ y at_25 a5=some o:=h
   refine AK.meetX (λσ=>σ=⟨[(0,.clo (.yield lpl) [] []),(1,.L 626),(2,.L 627),(4,.own 9 y.length),(5,.I at_25),(36,.b a5)],[(9,.arr 1 (y.map Qb)),(615,.arr 4 (j.map Qf)),(616,.arr 4 (i.map Qf)),(617,.lp lpl (Yw lpf) (DU (.L 618) (.L 619) (.L 620) (.L 621) (.L 622) (.L 623) (.L 624) (.L 625)) 0),(618,.var (Qa m)),(619,.var (Qu p)),(620,.var (Qb s)),(621,.var (Qb t)),(622,.var [.own 615 j.length]),(623,.var (Xj u)),(624,.var (Xj v)),(625,.var [.own 616 i.length]),(626,.var (Qk l)),(627,.var (Qa f))]⟩) ?_ ?_
   ·replace h:=b3
    refine tg_ k [.K [0,1,2,4,5] [9,615,616,617,618,619,620,621,622,623,624,625,626,627]] ?_
    rcases Xr h with⟨z,h⟩|⟨z,h⟩
    ·obtain⟨b9,a0,h⟩:=Qw h
     obtain⟨c0,b4,h⟩:=Qw h
     obtain⟨c1,b5,h⟩:=Qw h
     refine AK.draw2 QN k mixed [.N,.N,.E (.b true),.N,.N,.N,.B (.row (Qb b9)),.N,.N,.N,.N,.N,.N,.B (.row (QY c0)),.N,.N,.B (.C2 (.I c1)),.N,.N] [] [] [0,1,2,4,5,36] [9,615,616,617,618,619,620,621,622,623,624,625,626,627] rfl rfl rfl ⟨⟨⟨⟨(tc_ z),(Yv a0 rfl)⟩,(XO (Ys a0).2)⟩,(QI b4)⟩,(Cs _ _ _ b5)⟩ rfl (by kernel_rfl) rfl rfl rfl ?_
     refine tg_ k [.K [0,1,2,4,5,36] [9,615,616,617,618,619,620,621,622,623,624,625,626,627]] ?_
     cases h
     exact mt_
    refine AK.draw2 QN k mixed [.N,.N,.E (.b false),.N,.N,.N,.N,.N,.N,.N,.N,.N,.N,.N,.N,.N,.N,.N,.N] [] [] [0,1,2,4,5,36] [9,615,616,617,618,619,620,621,622,623,624,625,626,627] rfl rfl rfl (tc_ z) rfl (by kernel_rfl) rfl rfl rfl ?_
    refine tg_ k [.K [0,1,2,4,5,36] [9,615,616,617,618,619,620,621,622,623,624,625,626,627]] ?_
    cases h
    exact mt_
   rintro σ rfl
   replace h:EQ y at_25 a5=some o:=h
   refine tg_ k [1] ?_
   rcases Xr h with⟨D,h⟩|⟨D,h⟩
   ·obtain⟨c2,a1,h⟩:=Qw h
    refine QJ k [.T,8,.st (Qb c2) ((y.set at_25.toNat 0).map Qb),8,.S 4 (.own 9 (y.set at_25.toNat 0).length),.K [0,1,2,4,5] [9,615,616,617,618,619,620,621,622,623,624,625,626,627]] Z (a4_ D (Yv a1 Z) ⟨(XO (Ys a1).2),BC Z⟩ (congrArg (λn=>V.own 9 n) (by simp))) ?_
    cases h
    exact QeB Z Z
   refine QJ k [.F,2,.K [0,1,2,4,5] [9,615,616,617,618,619,620,621,622,623,624,625,626,627]] Z (A D) ?_
   cases h
   exact QhM Z (an_ Z Z)
  obtain⟨at_29,a6⟩:=b8
  replace h:ER i at_29 a6=some o:=h
  rintro e σ ⟨rfl,rfl⟩
  refine tg_ k [9] ?_
  rcases Xr h with⟨O,h⟩|⟨O,h⟩
  ·refine QJ k [.T,3,.K [] [615,616,617,618,619,620,621,622,623,624,625,626,627]] Z (A O) ?_
   cases h
   exact QlA Z (an_ Z Z)
  obtain⟨a7,a2,h⟩:=Qw h
  obtain⟨c3,a3,h⟩:=Qw h
  refine QJ k [.F,6,.o (.row (Qb a7)),2,.st (Qb c3) ((a6.set at_29.toNat (Qj (a7+1))).map Qb),2,.S 4 (.own 9 (a6.set at_29.toNat (Qj (a7+1))).length),.K [0,1,2,4] [9,615,616,617,618,619,620,621,622,623,624,625,626,627]] Z (a6_ O (Yv a2 Z) (XO (Ys a2).2) (Yv a3 Z) ⟨(XO (Ys a3).2),BC Z⟩ (congrArg (λn=>V.own 9 n) (by simp))) ?_
  cases h
  exact QeB Z Z
 rcases b6 with(c4 | c5)
 ·replace h:NU c4=some r:=h
  rintro e σ ⟨rfl,rfl⟩
  refine tg_ k [1,.K [] [615,616,617,618,619,620,621,622,623,624,625,626,627]] ?_
  cases h
  refine AK.done ?_
  exact ex_ [] (an_ U (gives rD_))
 replace h:NV c5=some r:=h
 rintro e σ ⟨rfl,rfl⟩
 refine tg_ k [1,.K [] [615,616,617,618,619,620,621,622,623,624,625,626,627]] ?_
 cases h
 refine AK.done ?_
 exact ex_ [] (an_ U (gives rD_))
def Vz (a:(L_ Qh)):O_ (L_ Qh):=some a
def VA (a:(L_ Qh)):O_ (L_ Qh):=some a
def BO (e:Qn)(h:QMk)(a:Int)(b:Int):O_ (L_ Qh):=
 bif ((a<0)||(((e.Tasks.length:Int)<=a)||(b<1)))then
 some ([]:L_ Qh)
 else
 (idx e.Tasks a).bind λc=>
 (Yx c.Join (c.Ins.length:Int)).bind λf=>
 (Yx c.Split (c.Outs.length:Int)).bind λg=>
 (Vs e c).bind λd=>
 (Bp e h a b ([]:L_ Qh) f g ([]:L_ Qh) d.2 d.1).bind (Sum.elim (λq=>Vz q) (λq=>VA q))
def Qgy (k y c e){r}(h:BO k y c e=some r):QP prog 40 [.agg (Qa k),.sl 1 (y.map Qe),.I c,.I e] [] (Gives (.sl 4 (r.map Qf)) []):=by
 refine QP.walkR 109 func40 Z ntmps40 Z λC f hR=>?_
 refine tg_ f [11] ?_
 refine AK.meetX (λσ=>σ=⟨[lk_ 4,lk_ 5,lk_ 6,lk_ 7,lk_ 8,(33,.b ((c<0)||(((k.Tasks.length:Int)<=c)||(e<1))))],[(4,.var (Qa k)),(5,.var (Qu y)),(6,.var (Qb c)),(7,.var (Qb e)),(8,.var [.Y])]⟩) ?_ ?_
 ·exact H f [4] Z<|bO_ (decide (c<0)) (λg=>G f [.S 23 (.b true),11,.S 33 (.b ((c<0)||(((k.Tasks.length:Int)<=c)||(e<1))))] Z ⟨(tc_ g),(cb_ (KB g Z))⟩<|M Z) λg=>G f [.S 23 (.b false),3,.o (.ln k.Tasks.length),3] Z ⟨(tc_ g),Qc⟩<|bO_ (decide ((k.Tasks.length:Int)<=c)) (λl=>G f [.S 30 (.b true),4,.S 33 (.b ((c<0)||(((k.Tasks.length:Int)<=c)||(e<1))))] Z ⟨(tc_ l),(cb_ (Yj g (KB l Z)))⟩<|M Z) λl=>G f [.S 30 (.b false),4,.S 33 (.b ((c<0)||(((k.Tasks.length:Int)<=c)||(e<1))))] Z ⟨(tc_ l),(cb_ (Yj g (Yj l Z)))⟩<|M Z
 rintro σ rfl
 refine tg_ f [1] ?_
 rcases Xr h with⟨p,h⟩|⟨p,h⟩
 ·refine QJ f [.T,3,.O 8 (.var [.Y]),4,.denilO 8 [some 4],.O 8 (.var (QlW ([]:L_ Qh))),.K [8] [8]] Z (a3_ p Z Z) ?_
  cases h
  exact AK.done (ex_ [_] (an_ (an_ (ex_ _ (ex_ _ (an_ Z (an_ Z (Or.inr (an_ (QN.ag Z) Z)))))) U) (gives U)))
 obtain⟨i,z,h⟩:=Qw h
 obtain⟨q,D,h⟩:=Qw h
 obtain⟨t,P,h⟩:=Qw h
 refine QJ f [.F,7,.o (.row (Qk i)),.A (Qk i),2,.O 9 (.var (Qk i)),3,.K [4,5,6,7,8,9] [4,5,6,7,8,9]] Z (a4_ p (QI z) Z Z) ?_
 refine AK.draw2 QN f mixed [.N,.N,.N,.N,.B (.ln i.Ins.length),.B (.cd false [.d,.d] 1 (q.map Qz) q.length),.N,.N,.N,.N,.B (.ln i.Outs.length),.B (.cd false [.d,.d] 1 (t.map Qz) t.length),.N,.N,.m .s,.m .s] [] [] [4,5,6,7,8,9,10,11] [4,5,6,7,8,9,10,11] rfl rfl rfl ⟨⟨⟨⟨U,Qc⟩,⟨(Lg _ _ _ D),Qc⟩⟩,Qc⟩,⟨(Lg _ _ _ P),Qc⟩⟩ rfl (by kernel_rfl) rfl rfl rfl ?_
 obtain⟨j,a0,h⟩:=Qw h
 refine QJ f [.O 10 (.var (Xj q)),.O 11 (.var (Xj t)),9,.A (Qa k),.A (Qk i),.cm (.fn) [] [(53,2),(610,3)] [] [.d,.d] [(2,.var (Qa j.1)),(3,.var (Qk j.2))] (.clo (.func 136) [] [.L 3,.L 2]),3,.K [4,5,6,7,8,10,11,12,53] [4,5,6,7,8,10,11,12,53,610]] Z (a5_ Z Z Z Z (Qcl _ _ _ a0)) ?_
 obtain⟨a1,x,h⟩:=Qw h
 refine QJ f [.adoptO 8 0 608 4,.O 608 (.arr 4 (([]:L_ Qh).map Qf)),.O 8 (.var [.own 608 ([]:L_ Qh).length]),.adoptO 12 0 609 4,.O 609 (.arr 4 (([]:L_ Qh).map Qf)),.O 12 (.var [.own 609 ([]:L_ Qh).length])] Z (a4_ Z Z Z Z) ?_
 rcases a1 with(u | w)
 ·replace h:Vz u=some r:=h
  refine AK.rangeF 614 [4,5,6,7,8,10,11,12] [(617,614),(618,4),(619,5),(620,6),(621,7),(622,8),(615,608),(623,10),(624,11),(625,12),(616,609),(626,610),(627,53)] [(608,615),(609,616),(614,617),(4,618),(5,619),(6,620),(7,621),(8,622),(10,623),(11,624),(12,625),(610,626),(53,627)] [608,609] [.d,.d,.d] Yw f hR (λ_=>rfl) rfl rfl rfl rfl λlpl lpf=>?_
  refine ex_ [(615,.arr 4 (([]:L_ Qh).map Qf)),(616,.arr 4 (u.map Qf)),(617,.lp lpl (Yw lpf) (DU (.L 618) (.L 619) (.L 620) (.L 621) (.L 622) (.L 623) (.L 624) (.L 625)) 0),(618,.var (Qa k)),(619,.var (Qu y)),(620,.var (Qb c)),(621,.var (Qb e)),(622,.var [.own 615 ([]:L_ Qh).length]),(623,.var (Xj q)),(624,.var (Xj t)),(625,.var [.own 616 u.length]),(626,.var (Qk j.2)),(627,.var (Qa j.1))] (ex_ (.tup []) (ex_ _ (ex_ _ (ex_ (DU (.L 4) (.L 5) (.L 6) (.L 7) (.L 8) (.L 10) (.L 11) (.L 12)) (ex_ 0 (an_ rfl ?_))))))
  refine an_ (NW _ _ _ _ _ _ _ _ _ _ _ _ x) (an_ rfl (an_ (bne_iff_ne.1 (show(0 != 1)=true from rfl)) ?_))
  refine Qpj Z ?_
  refine QJ f [6,.O 8 (.var [.own 609 u.length]),3,.frz 609 (u.map Qf) [] [8],.K [8] [8]] Z (a2_ Z (A ⟨(YA Qc),U⟩)) ?_
  cases h
  exact AK.done (ex_ [_] (an_ (an_ (ex_ _ (ex_ _ (an_ Z (an_ Z (Or.inr (an_ (QN.ag Z) Z)))))) U) (gives U)))
 replace h:VA w=some r:=h
 refine AK.rangeF 614 [4,5,6,7,8,10,11,12] [(617,614),(618,4),(619,5),(620,6),(621,7),(622,8),(615,608),(623,10),(624,11),(625,12),(616,609),(626,610),(627,53)] [(608,615),(609,616),(614,617),(4,618),(5,619),(6,620),(7,621),(8,622),(10,623),(11,624),(12,625),(610,626),(53,627)] [608,609] [.d,.d,.d] Yw f hR (λ_=>rfl) rfl rfl rfl rfl λlpl lpf=>?_
 refine ex_ [(615,.arr 4 (([]:L_ Qh).map Qf)),(616,.arr 4 (w.map Qf)),(617,.lp lpl (Yw lpf) (DU (.L 618) (.L 619) (.L 620) (.L 621) (.L 622) (.L 623) (.L 624) (.L 625)) 2),(618,.var (Qa k)),(619,.var (Qu y)),(620,.var (Qb c)),(621,.var (Qb e)),(622,.var [.own 616 w.length]),(623,.var (Xj q)),(624,.var (Xj t)),(625,.var [.own 616 w.length]),(626,.var (Qk j.2)),(627,.var (Qa j.1))] (ex_ (.tup []) (ex_ _ (ex_ _ (ex_ (DU (.L 4) (.L 5) (.L 6) (.L 7) (.L 8) (.L 10) (.L 11) (.L 12)) (ex_ 2 (an_ rfl ?_))))))
 refine an_ (NW _ _ _ _ _ _ _ _ _ _ _ _ x) (an_ rfl (an_ (bne_iff_ne.1 (show(2 != 1)=true from rfl)) ?_))
 refine Qqt Z ?_
 refine QJ f [3,.frz 609 (w.map Qf) [] [8],.K [8] [8]] Z (A (A ⟨(YA Qc),U⟩)) ?_
 cases h
 exact AK.done (ex_ [_] (an_ (an_ (ex_ _ (ex_ _ (an_ Z (an_ Z (Or.inr (an_ (QN.ag Z) Z)))))) U) (gives U)))
def DR (e:Qn)(f:QMk)(a:Int)(d:Int)(c:(L_ Qh)):O_ ((Int×(L_ Qh))⊕(L_ Qh)):=bif (d<(e.Tasks.length:Int))then (BO e f d (Qj (a-(c.length:Int)))).bind λb=>(chk (c.length+b.length<=4294967296)).bind λ_=>some (.inl ((Qj (d+1)),(c++b)))else some (.inr c)
def Qjj (a:(L_ Qh)):O_ (L_ Qh):=some a
def EU (b:Qn)(c:QMk)(a:Int):O_ (L_ Qh):=(Qs (λst=>DR b c a st.1 st.2) (0,([]:L_ Qh))).bind (λq=>Qjj q)
def Rb (f k a):CT 22 [.agg (Qa f),.sl 1 (k.map Qe),.I a] [] (EU f k a) (λr=>(.own 600 r.length)) (λr=>[(600,.arr 4 (r.map Qf))]):=
 W 27 func22 Z λC g r h=>g3_ g [16,.o (.ln f.Tasks.length),4,.adopt 7 15 4,.O 15 (.arr 4 (([]:L_ Qh).map Qf)),.S 7 (.own 15 ([]:L_ Qh).length)] Z Qc Z (congrArg (λn=>V.own 15 n) (by simp))<|lp_ h (λst=>⟨[(1,.sl 1 (k.map Qe)),(2,.I a),lk_ 3,(7,.own 15 st.2.length),(11,.I (f.Tasks.length:Int)),(12,.I st.1)],[(3,.var (Qa f)),(15,.arr 4 (st.2.map Qf))]⟩) (λq=>(.exit 0,⟨[(7,.own 15 q.length)],[(15,.arr 4 (q.map Qf))]⟩)) Z (λ⟨p,l⟩ o h=>H g [6] Z<|I h (λb h=>B h λe i h=>X h λj h=>g4_ g [.T,12,.A (Qa f),6,.o (.C4 (.sl 4 (e.map Qf))),.app ((l++e).map Qf) (l++e).length,8] Z b Z (Qgy _ _ _ _ i) ⟨Qc,Yk j Qc,XG,YC Qc⟩<|rN_ h Z) λb h=>J g [.F,2] Z b<|rX_ h Z) λm h=>H g [9,.K [6] [15],.ren 15 600] Z<|E h Z r1_
def Ku (c:LI_)(d:LI_)(a:Int):O_ (Int⊕(Unit⊕Unit)):=bif (a<(c.length:Int))then (idx c a).bind λe=>(idx d a).bind λb=>bif (e != b)then some (.inr (.inl ()))else some (.inl (Qj (a+1)))else some (.inr (.inr ()))
def Sa : O_ Bool:=some false
def Sb : O_ Bool:=some true
def Jk (a:LI_)(b:LI_):O_ Bool:=bif ((a.length:Int) != (b.length:Int))then some false else (Qs (λst=>Ku a b st) 0).bind (Sum.elim (λq=>Sa) (λq=>Sb))
def Sc (g j):CT 86 [.sl 1 (g.map Qb),.sl 1 (j.map Qb)] [] (Jk g j) V.b no_:=
 W 26 func86 Z λC c r h=>K c [9,.o (.ln g.length),1,.o (.ln j.length),3] Z Qc Qc<|I h (λe h=>J c [.T,7] Z e<|E h Z U) λe h=>K c [.F,6,.o (.ln g.length),4] Z e Qc<|lq_ h (λst=>⟨[(0,.sl 1 (g.map Qb)),(1,.sl 1 (j.map Qb)),(12,.I (g.length:Int)),(13,.I st)],[]⟩) (λq=>(.ret,⟨[(4,.b false)],[]⟩)) (λq=>(.exit 0,⟨[],[]⟩)) Z (λp o h=>H c [6] Z<|I h (λf h=>B h λm k h=>B h λl i h=>G c [.T,11,.K [0,1,5,12,13] []] Z (A f) <| 
  dr_ c [.N,.N,.B (.row (Qb m)),.N,.N,.N,.B (.row (Qb l)),.N,.N] [] [] [0,1,12,13,24] [] Z Z (a2_ (QI k) (QI i)) Z <|
  H c [1] Z<|I h (λd h=>J c [.T,8] Z d<|rR_ h Z) λd h=>J c [.F,7] Z d<|rN_ h Z) λf h=>J c [.F,2] Z f<|rX_ h Z) (λ_ h=>H c [2] Z<|E h Z U) (λ_ h=>H c [8] Z<|E h Z U)
def FW (a:LI_)(b:LI_):O_ Bool:=(Jk a b).bind λc=>some c
def Qct (f a):CT 85 [.sl 1 (f.map Qb),.L 617] [(617,.var (Qz a))] (FW f a) V.b (λ_=>[(617,.var (Qz a))]):=
 W 7 func85 Z λC g r h=>B h λi e h=>J g [9,.o (.C2 (.b i)),4] Z (Sc _ _ _ e)<|E h Z r1_
def Yi (c:QLL)(d:LI_)(a:Int):O_ (Int⊕(Int⊕Unit)):=bif (a<(c.length:Int))then (idx c a).bind λe=>(FW e d).bind λb=>bif b then some (.inr (.inl a))else some (.inl (Qj (a+1)))else some (.inr (.inr ()))
def MN (a:Int):O_ Int:=some a
def MO : O_ Int:=some (-1)
def KG (a:QLL)(b:LI_):O_ Int:=(Qs (λst=>Yi a b st) 0).bind (Sum.elim (λq=>MN q) (λq=>MO))
def MP (g e):CT 137 [.sl 1 (g.map Qz),.clo (.func 85) [] [.L 617]] [(617,.var (Qz e))] (KG g e) V.I (λ_=>[(617,.var (Qz e))]):=
 W 19 func137 Z λC c r h=>J c [9,.o (.ln g.length),4] Z Qc<|lq_ h (λst=>⟨[(0,.sl 1 (g.map Qz)),(1,.clo (.func 85) [] [.L 617]),(7,.I (g.length:Int)),(8,.I st)],[(617,.var (Qz e))]⟩) (λq=>(.ret,⟨[(4,.I q)],[(617,.var (Qz e))]⟩)) (λq=>(.exit 0,⟨[],[(617,.var (Qz e))]⟩)) Z (λm o h=>H c [6] Z<|I h (λf h=>B h λl j h=>B h λk i h=>g3_ c [.T,15,.o (.row (Qz l)),1,.cm (.clo) [(617,617)] [(617,617)] [] [.d,.d] [(617,.var (Qz e))] (.b k),2] Z f (QI j) (Qct _ _ _ i)<|I h (λa h=>J c [.T,9] Z a<|rR_ h Z) λa h=>J c [.F,7] Z a<|rN_ h Z) λf h=>J c [.F,2] Z f<|rX_ h Z) (λp h=>H c [2] Z<|E h Z r1_) (λ_ h=>H c [8] Z<|E h Z r1_)
def KH (a:QLL)(b:LI_):O_ Bool:=(KG a b).bind λc=>some (decide (0<=c))
def MQ (e a):CT 84 [.sl 1 (e.map Qz),.clo (.func 85) [] [.L 617]] [(617,.var (Qz a))] (KH e a) V.b (λ_=>[(617,.var (Qz a))]):=
 W 9 func84 Z λC f r h=>B h λg c h=>J f [9,.cm (.fn) [(617,617)] [(617,617)] [] [.d,.d] [(617,.var (Qz a))] (.I g),5] Z (MP _ _ _ c)<|E h Z r1_
def DS (a:Int)(b:Int)(c:LI_):O_ Bool:=(Yx a b).bind λd=>(KH d c).bind λe=>some e
def SV (a c e):CT 43 [.I a,.I c,.sl 1 (e.map Qb)] [] (DS a c e) V.b no_:=
 W 12 func43 Z λC j r h=>B h λf g h=>B h λk i h=>g3_ j [10,.o (.co false [.d,.d] 1 (f.map Qz) f.length),1,.frz 9 (f.map Qz) [9] [],.cm (.fn) [(617,5)] [(5,617)] [] [.d,.d] [(617,.var (Qz e))] (.b k),4] Z ⟨(Lg _ _ _ g),Qc,.inl Z⟩ (A (YA Qc)) (MQ _ _ _ i)<|E h Z U
def Az (a:(Int×QX))(d:Qh):O_ Bool:=(DS a.2.task.Join (a.2.task.Ins.length:Int) d.Ins).bind λb=>bif (!b)then some true else (DS a.2.task.Split (a.2.task.Outs.length:Int) d.Outs).bind λc=>some (!c)
def AA (c:(Int×QX))(d:Qh)(e:Bool):O_ Int:=bif e then some 11 else (Xo c.2 d.Ins).bind λa=>bif (a != 0)then some a else (XN c.2 d.Outs).bind λb=>some b
def Jg (b:(Int×QX))(c:Qh)(a:Int):O_ Int:=bif (a != 0)then some a else (Az b c).bind (λd=>AA b c d)
def Ye (d:Qn)(e:QMk)(b:Qh):O_ Int:=(YE d e b.Task b.Vars).bind λa=>bif (a.1==0)then (Xu a.2).bind λc=>Jg a b c else Jg a b a.1
def VB (w m2 m):CT 23 [.agg (Qa w),.sl 1 (m2.map Qe),.agg (Qf m)] [] (Ye w m2 m) V.I no_:=
 W 62 func23 Z λC a r h=>B h λf x h=>g3_ a [9,.A (Qa w),5,.o (.C4 (.tup [.agg (QD f.2),.I f.1])),5,.O 7 (.var (QD f.2)),3] Z Z (Vt _ _ _ _ _ x) Z<|mE_ (λe:Int=>⟨[lk_ 5,lk_ 7,(8,.I e)],[(5,.var (Qf m)),(7,.var (QD f.2))]⟩) (λe=>Jg f m e=some r) (H a [6] Z<|I h (λg h=>B h λy p h=>g3_ a [.T,1,.A (QD f.2),.o (.C1 (.I y)),2] Z g Z (HH _ _ p)<|me_ h Z) λg h=>J a [.F,1] Z g<|me_ h Z) λe h=>H a [7] Z<|I h (λl h=>J a [.T,8] Z l<|E h Z U) λl h=>J a [.F,4] Z l<|mV_ h (λz=>⟨[lk_ 5,lk_ 7,(50,.b z)],[(5,.var (Qf m)),(7,.var (QD f.2))]⟩) (λz h=>B h λD q h=>K a [7,.o (.ln f.2.task.Ins.length),2,.o (.C3 (.b D)),2] Z Qc (SV _ _ _ _ q)<|I h (λi h=>L a [.S 38 (.b true),13] Z i<|mq_ h Z) λi h=>B h λN s h=>G a [.S 38 (.b false),6,.o (.ln f.2.task.Outs.length),2,.o (.C3 (.b N)),3] Z ⟨⟨(tc_ i),Qc⟩,(SV _ _ _ _ s)⟩<|mq_ h Z) λz h=>H a [1] Z<|I h (λj h=>J a [.T,7] Z j<|E h Z U) λj h=>B h λP t h=>g3_ a [.F,5,.A (QD f.2),2,.o (.C2 (.I P)),9] Z j Z (LS _ _ _ t)<|I h (λk h=>J a [.T,8] Z k<|E h Z U) λk h=>B h λa0 u h=>g3_ a [.F,4,.A (QD f.2),2,.o (.C2 (.I a0)),4] Z k Z (LP _ _ _ u)<|E h Z U
def WA (c:Qn)(b:Qh):O_ (QMk×Int):=(WH c b.Task b.Vars).bind λd=>bif (d.2 != 0)then some (([]:L_ QBg),d.2)else (idx c.Tasks b.Task).bind λe=>(XS c e.Ins b.Ins d.1).bind λa=>some (a.1,a.2)
def Qgz (i l):CT 92 [.agg (Qa i),.agg (Qf l)] [] (WA i l) (λr=>(.tup [.sl 1 (r.1.map Qe),.I r.2])) no_:=
 W 34 func92 Z λC e r h=>B h λp j h=>K e [10,.A (Qa i),4,.o (.C3 (.tup [.sl 1 (p.1.map Qb),.I p.2])),14] Z Z (PY _ _ _ _ j)<|I h (λb h=>J e [.T,9,.denil 4 [some 1]] Z b<|F h Z Z U) λb h=>B h λq k h=>B h λf g h=>G e [.F,3,.K [2,3,4,5,6] [2,3]] Z (A b) <| 
  dr_ e [.E (.agg (Qa i)),.N,.N,.N,.N,.B (.row (Qk q)),.N,.N,.N,.N,.N,.B (.C4 (.tup [.sl 1 (f.1.map Qe),.I f.2])),.N,.N,.m .s,.m .s] [] [] [4,5] [] Z Z (a3_ Z (QI k) (Us _ _ _ _ _ g)) Z <|
  H e [2] Z<|F h Z Z U
def Qbr (a:Unit):O_ (QBg×Int):=some (([]:L_ (Int×Int)),1)
def Qbs (a:QBg):O_ (QBg×Int):=some (([]:L_ (Int×Int)),1)
def Qbt (a:QBg):O_ (QBg×Int):=some (([]:L_ (Int×Int)),1)
noncomputable def Ai (j:QBg)(h:Int)(D:Int):O_ (QBg⊕Empty):=some (.inl (Ja FU j h (Qj (((QW j h).getD 0)-D))))
def Mi (a:QBg):O_ (QBg×Int):=(Gj a).bind λb=>some (b,0)
noncomputable def Rc (h:(QBg×QBg)):O_ (QBg×Int):=(Gc h.2 h.1).bind λj=>bif (!j)then some (([]:L_ (Int×Int)),10)else (CX (λst p=>Ai st p.1 p.2) h.1 h.2).bind (Sum.elim (λq=>Mi q) (λq=>Empty.elim q))
def Jh (a:QBg)(b:QBg):O_ (QBg×Int):=(Iy a b).bind (Sum.elim (λq=>Qbr q) (Sum.elim (λq=>Qbs q) (Sum.elim (λq=>Qbt q) (λq=>Rc q))))
def Qjk (a1 b2):CT 94 [.sl 2 (a1.map Qo),.sl 2 (b2.map Qo)] [] (Jh a1 b2) (λr=>(.tup [.sl 2 (r.1.map Qo),.I r.2])) no_:=by
 refine W 40 func94 rfl λC g r h=>?_
 obtain⟨x7,w,h⟩:=Qw h
 refine tg_ g [10] ?_
 rcases x7 with(a8 | (a9 | (P | i)))
 ·exact have h:Qbr a8=some r:=h;J g [.cm (.fn) [] [] [] [.d,.d] [] (.tup [.lit (.map none),.lit (.map none),.b false]),28,.denil 4 [some 2]] Z (JA _ _ w)<|F h Z Z U
 ·exact have h:Qbs a9=some r:=h;J g [.cm (.fn) [] [(14,603)] [] [.d,.d] [(603,.map (QT V.I V.I a9))] (.tup [.lit (.map none),.map 603,.b false]),28,.denil 4 [some 2]] Z (JA _ _ w)<|F h Z Z U
 ·exact have h:Qbt P=some r:=h;J g [.cm (.fn) [] [(14,602)] [] [.d,.d] [(602,.map (QT V.I V.I P))] (.tup [.map 602,.lit (.map none),.b false]),28,.denil 4 [some 2]] Z (JA _ _ w)<|F h Z Z U
 replace h:Rc i=some r:=h
 obtain⟨a3,S,h⟩:=Qw h
 refine QJ g [.cm (.fn) [] [(14,602),(610,603)] [] [.d,.d] [(602,.map (QT V.I V.I i.1)),(603,.map (QT V.I V.I i.2))] (.tup [.map 602,.map 603,.b true]),23,.cm (.fn) [(617,610),(618,14)] [(610,617),(14,618)] [] [.d,.d] [(617,.map (QT V.I V.I i.2)),(618,.map (QT V.I V.I i.1))] (.b a3),4] Z (a2_ (JA _ _ w) (LR _ _ _ S)) ?_
 rcases Xr h with⟨j,h⟩|⟨j,h⟩
 ·exact J g [.T,9,.denil 4 [some 2]] Z j<|F h Z Z U
 refine QJ g [.F,7] Z (A j) ?_
 refine AK.openMapK (b:=610) Cm rfl λs t L14 D a4 N=>?_
 refine QJ g [.x (λσ=>(σ.set 27 (.itr s t #[] none)).put 27 (.L 27)),3,.K [6,27] [14,27,610]] Z (A (Ql.range (b:=610) Z Z (QZ g.n Z) Z Z GO Z)) ?_
 obtain⟨a5,a0,h⟩:=Qw h
 refine AK.range (body:=(λst p=>Ai st p.1 p.2)) (λst seen σ=>∃cur:O_ Nat,σ=⟨[(6,.map 14),lk_ 27],[(14,.map (QT V.I V.I st)),(27,.itr s t seen cur),(610,.mapX s t (Fz V.I V.I L14) (QT V.I V.I i.2))]⟩) (λ(q:Empty) _ _=>False) (λst e σ=>e=.exit 1/\σ=⟨[(6,.map 14)],[(14,.map (QT V.I V.I st))]⟩) D N a0 (ex_ _ rfl) ?_ ?_
 ·rintro a seen σ ⟨cur,rfl⟩ hex
  refine tg_ g [2] ?_
  refine AK.nextT (b:=27) (m:=610) rfl rfl rfl (QZ g.n rfl) rfl rfl rfl rfl ?_ ?_
  ·intro hleft
   refine tg_ g [7,.K [6] [14]] ?_
   exact AK.done (Or.inl (an_ hleft (an_ (λh=>(by cases h)) (an_ Z Z))))
  intro a6 c y u
  obtain⟨o,h⟩:=hex _ u
  have ho:=h
  replace h:Ai a c y=some o:=h
  refine QJ g [10,.x (λσ=>σ.put 30 (.tup [.I c,.I y])),9,.o (.any (.I ((QW a c).getD 0)) none),2,.x (λσ=>σ.set 14 (.map (QT V.I V.I (Ja FU a c (Qj (((QW a c).getD 0)-y)))))),2,.K [6,27] [14,27,610]] Z (a3_ (Ql.entryT (b:=27) (m:=610) (e:=V.I) (f:=V.I) Z Z (QZ g.n Z) Z u Z Z) (λσ h1 h2 _=>Ql.lookup (e:=V.I) (f:=V.I) (l:=a) (k:=c) (z:=0) Z Z (QZ g.n Z) (h1 _ _ Z) (h2 _ _ Z) (h1 _ _ Z) GO Cm QaQ Z) (Ql.mapUpdate (e:=V.I) (f:=V.I) (l:=a) (k:=c) (v:=(Qj (((QW a c).getD 0)-y))) FU Z Z Z Z Z Z GO Cm Z)) ?_
  cases h
  exact AK.done (Or.inr (ex_ _ (an_ u (Or.inl (ex_ _ (an_ ho (an_ Z (ex_ _ Z))))))))
 rcases a5 with(a | q)
 ·replace h:Mi a=some r:=h
  unfold Mi at h
  rintro e σ ⟨rfl,rfl⟩
  exact B h λO a2 h=>K g [5,.cm (.fn) [(617,14)] [(39,600),(14,617)] [] [.d] [(600,.arr 2 (O.map Qo)),(617,.map (QT V.I V.I a))] (.own 600 O.length),5,.frz 39 (O.map Qo) [4] []] Z (FD _ _ a2) (A (YA Qc))<|F h Z Z U
 exact q.elim
def JU (f:QMk)(g:QMk)(c:Int)(a:QMk):O_ ((Int×QMk)⊕(Int⊕QMk)):=bif (c<((List.replicate (min2 (f.length:Int) (g.length:Int)).toNat (([]:QBg):QBg)).length:Int))then (idx f c).bind λd=>(idx g c).bind λe=>(Jh d e).bind λb=>(idx a c).bind λh=>bif (b.2 != 0)then some (.inr (.inl b.2))else some (.inl ((Qj (c+1)),(a.set c.toNat b.1)))else some (.inr (.inr a))
def QeU (a:Int):O_ (QMk×Int):=some (([]:L_ QBg),a)
def QeV (a:QMk):O_ (QMk×Int):=some (a,0)
def WI (a:QMk)(b:QMk):O_ (QMk×Int):=(chk (decide (0<=(min2 (a.length:Int) (b.length:Int)))&&decide ((min2 (a.length:Int) (b.length:Int))<=(min2 (a.length:Int) (b.length:Int)))&&decide ((min2 (a.length:Int) (b.length:Int))<=4294967296))).bind λ_=>(Qs (λst=>JU a b st.1 st.2) (0,(List.replicate (min2 (a.length:Int) (b.length:Int)).toNat (([]:QBg):QBg)))).bind (Sum.elim (λq=>QeU q) (λq=>QeV q))
def QeW (l p):CT 93 [.sl 1 (l.map Qe),.sl 1 (p.map Qe),.clo (.func 94) [] []] [] (WI l p) (λr=>(.tup [.sl 1 (r.1.map Qe),.I r.2])) no_:=
 W 43 func93 Z λC e r h=>X h λy h=>g3_ e [9,.o (.ln l.length),1,.o (.ln p.length),1,.o (.rows (List.replicate (min2 (l.length:Int) (p.length:Int)).toNat [.Y]))] Z Qc Qc ⟨y,Z⟩<|AK.denilA (b:=16) [some 2] Z (Qgr (f:=Qe) (x:=([]:QBg)) Z)<|J e [.S 16 (.own 16 (List.replicate (min2 (l.length:Int) (p.length:Int)).toNat (([]:QBg):QBg)).length),12] Z (by simp)<|lq_ h (λst=>⟨[(0,.sl 1 (l.map Qe)),(1,.sl 1 (p.map Qe)),(2,.clo (.func 94) [] []),(8,.own 16 st.2.length),(18,.I ((List.replicate (min2 (l.length:Int) (p.length:Int)).toNat (([]:QBg):QBg)).length:Int)),(19,.I st.1)],[(16,.arr 1 (st.2.map Qe))]⟩) (λq=>(.ret,⟨[(6,.Y),(7,.I q)],[]⟩)) (λq=>(.exit 0,⟨[(8,.own 16 q.length)],[(16,.arr 1 (q.map Qe))]⟩)) Z (λ⟨x9,t⟩ o h=>H e [6] Z<|I h (λg h=>B h λz u h=>B h λD v h=>B h λj w h=>B h λO k h=>G e [.T,16,.K [0,1,2,8,9,10,18,19] [16]] Z (A g) <| 
  dr_ e [.N,.N,.N,.N,.N,.B (.row (Qe z)),.N,.N,.N,.B (.row (Qe D)),.N,.B (.C2 (.tup [.sl 2 (j.1.map Qo),.I j.2])),.a .no none true true,.N,.a .no none true,.N,.m (.st (Qe O) ((t.set x9.toNat j.1).map Qe)),.m .s] [0,1,2,8,9,10,18,19] [] [0,1,2,8,10,18,19] [16] Z Z (a5_ (QI u) (QI v) (Qjk _ _ _ w) (Yv k Z) ⟨(XO (Ys k).2),BC Z⟩) Z <|
  H e [7] Z<|I h (λi h=>J e [.T,10] Z i<|rR_ h Z) λi h=>K e [.F,7,.S 8 (.own 16 (t.set x9.toNat j.1).length)] Z i (congrArg (λn=>V.own 16 n) (by simp))<|rN_ h Z) λg h=>J e [.F,2] Z g<|rX_ h Z) (λa0 h=>H e [2,.denil 6 [some 1]] Z<|F h Z Z U) (λP h=>J e [10,.frz 16 (P.map Qe) [6] []] Z (A (YA Qc))<|F h Z Z U)
def GF (c:Qn)(d:QMk)(e:Qh):O_ (QMk×Int):=(Ye c d e).bind λf=>bif (f != 0)then some (([]:L_ QBg),f)else (WA c e).bind λa=>bif (a.2 != 0)then some (([]:L_ QBg),a.2)else (WI d a.1).bind λb=>some (b.1,b.2)
def Qh0 (k p l):CT 48 [.agg (Qa k),.sl 1 (p.map Qe),.agg (Qf l)] [] (GF k p l) (λr=>(.tup [.sl 1 (r.1.map Qe),.I r.2])) no_:=
 W 32 func48 Z λC e r h=>B h λq m h=>g3_ e [11,.A (Qa k),1,.A (Qf l),.o (.C3 (.I q)),9] Z Z Z (VB _ _ _ _ m)<|I h (λb h=>J e [.T,9,.denil 6 [some 1]] Z b<|F h Z Z U) λb h=>B h λf g h=>g4_ e [.F,4,.A (Qa k),.A (Qf l),.o (.C2 (.tup [.sl 1 (f.1.map Qe),.I f.2])),14] Z b Z Z (Qgz _ _ _ g)<|I h (λa h=>J e [.T,9,.denil 6 [some 1]] Z a<|F h Z Z U) λa h=>B h λi j h=>K e [.F,6,.cm (.fn) [] [] [] [.d,.d,.d] [] (.tup [.sl 1 (i.1.map Qe),.I i.2]),7] Z a (QeW _ _ _ j)<|F h Z Z U
def HP (c:Qn)(b:Qh):O_ (QMk×Int):=(WH c b.Task b.Vars).bind λd=>bif (d.2 != 0)then some (([]:L_ QBg),d.2)else (idx c.Tasks b.Task).bind λe=>(XS c e.Outs b.Outs d.1).bind λa=>some (a.1,a.2)
def QgA (i l):CT 95 [.agg (Qa i),.agg (Qf l)] [] (HP i l) (λr=>(.tup [.sl 1 (r.1.map Qe),.I r.2])) no_:=
 W 34 func95 Z λC e r h=>B h λp j h=>K e [10,.A (Qa i),4,.o (.C3 (.tup [.sl 1 (p.1.map Qb),.I p.2])),14] Z Z (PY _ _ _ _ j)<|I h (λb h=>J e [.T,9,.denil 4 [some 1]] Z b<|F h Z Z U) λb h=>B h λq k h=>B h λf g h=>G e [.F,3,.K [2,3,4,5,6] [2,3]] Z (A b) <| 
  dr_ e [.E (.agg (Qa i)),.N,.N,.N,.N,.B (.row (Qk q)),.N,.N,.N,.N,.N,.B (.C4 (.tup [.sl 1 (f.1.map Qe),.I f.2])),.N,.N,.m .s,.m .s] [] [] [4,5] [] Z Z (a3_ Z (QI k) (Us _ _ _ _ _ g)) Z <|
  H e [2] Z<|F h Z Z U
def YR (f:QMk)(g:QMk)(c:Int)(a:QMk):O_ ((Int×QMk)⊕(Int⊕QMk)):=bif (c<((List.replicate (min2 (f.length:Int) (g.length:Int)).toNat (([]:QBg):QBg)).length:Int))then (idx f c).bind λd=>(idx g c).bind λe=>(Je d e).bind λb=>(idx a c).bind λh=>bif (b.2 != 0)then some (.inr (.inl b.2))else some (.inl ((Qj (c+1)),(a.set c.toNat b.1)))else some (.inr (.inr a))
def FE (a:Int):O_ (QMk×Int):=some (([]:L_ QBg),a)
def FF (a:QMk):O_ (QMk×Int):=some (a,0)
def JV (a:QMk)(b:QMk):O_ (QMk×Int):=(chk (decide (0<=(min2 (a.length:Int) (b.length:Int)))&&decide ((min2 (a.length:Int) (b.length:Int))<=(min2 (a.length:Int) (b.length:Int)))&&decide ((min2 (a.length:Int) (b.length:Int))<=4294967296))).bind λ_=>(Qs (λst=>YR a b st.1 st.2) (0,(List.replicate (min2 (a.length:Int) (b.length:Int)).toNat (([]:QBg):QBg)))).bind (Sum.elim (λq=>FE q) (λq=>FF q))
def QbB (l p):CT 93 [.sl 1 (l.map Qe),.sl 1 (p.map Qe),.clo (.func 96) [] []] [] (JV l p) (λr=>(.tup [.sl 1 (r.1.map Qe),.I r.2])) no_:=
 W 43 func93 Z λC e r h=>X h λy h=>g3_ e [9,.o (.ln l.length),1,.o (.ln p.length),1,.o (.rows (List.replicate (min2 (l.length:Int) (p.length:Int)).toNat [.Y]))] Z Qc Qc ⟨y,Z⟩<|AK.denilA (b:=16) [some 2] Z (Qgr (f:=Qe) (x:=([]:QBg)) Z)<|J e [.S 16 (.own 16 (List.replicate (min2 (l.length:Int) (p.length:Int)).toNat (([]:QBg):QBg)).length),12] Z (by simp)<|lq_ h (λst=>⟨[(0,.sl 1 (l.map Qe)),(1,.sl 1 (p.map Qe)),(2,.clo (.func 96) [] []),(8,.own 16 st.2.length),(18,.I ((List.replicate (min2 (l.length:Int) (p.length:Int)).toNat (([]:QBg):QBg)).length:Int)),(19,.I st.1)],[(16,.arr 1 (st.2.map Qe))]⟩) (λq=>(.ret,⟨[(6,.Y),(7,.I q)],[]⟩)) (λq=>(.exit 0,⟨[(8,.own 16 q.length)],[(16,.arr 1 (q.map Qe))]⟩)) Z (λ⟨x9,t⟩ o h=>H e [6] Z<|I h (λg h=>B h λz u h=>B h λD v h=>B h λj w h=>B h λO k h=>G e [.T,16,.K [0,1,2,8,9,10,18,19] [16]] Z (A g) <| 
  dr_ e [.N,.N,.N,.N,.N,.B (.row (Qe z)),.N,.N,.N,.B (.row (Qe D)),.N,.B (.C2 (.tup [.sl 2 (j.1.map Qo),.I j.2])),.a .no none true true,.N,.a .no none true,.N,.m (.st (Qe O) ((t.set x9.toNat j.1).map Qe)),.m .s] [0,1,2,8,9,10,18,19] [] [0,1,2,8,10,18,19] [16] Z Z (a5_ (QI u) (QI v) (Qcs _ _ _ w) (Yv k Z) ⟨(XO (Ys k).2),BC Z⟩) Z <|
  H e [7] Z<|I h (λi h=>J e [.T,10] Z i<|rR_ h Z) λi h=>K e [.F,7,.S 8 (.own 16 (t.set x9.toNat j.1).length)] Z i (congrArg (λn=>V.own 16 n) (by simp))<|rN_ h Z) λg h=>J e [.F,2] Z g<|rX_ h Z) (λa0 h=>H e [2,.denil 6 [some 1]] Z<|F h Z Z U) (λP h=>J e [10,.frz 16 (P.map Qe) [6] []] Z (A (YA Qc))<|F h Z Z U)
def Da (a:Int)(b:QMk):O_ ((Int×QMk)⊕QMk):=some (.inl ((Qj (a+1)),b))
def YL (d:QL)(b:Int)(a:QMk):O_ ((Int×QMk)⊕QMk):=bif (b<(d.Cancel.length:Int))then (idx d.Cancel b).bind λc=>bif ((0<=c)&&(c<(a.length:Int)))then (idx a c).bind λe=>Da b (a.set c.toNat ([]:L_ (Int×Int)))else Da b a else some (.inr a)
def Gk (c:(QMk×Int))(b:QMk):O_ (QMk×Int):=(JV b c.1).bind λa=>some (a.1,a.2)
def Dp (d:Qn)(f:QMk)(e:Qh):O_ (QMk×Int):=(HP d e).bind λa=>bif (a.2 != 0)then some (([]:L_ QBg),a.2)else (LM f).bind λb=>(idx d.Tasks e.Task).bind λc=>(Qs (λst=>YL c st.1 st.2) (0,b)).bind (λq=>Gk a q)
def Qh1 (O m2 P):CT 49 [.agg (Qa O),.sl 1 (m2.map Qe),.agg (Qf P)] [] (Dp O m2 P) (λr=>(.tup [.sl 1 (r.1.map Qe),.I r.2])) no_:=
 W 53 func49 Z λC g r h=>B h λt a0 h=>g3_ g [10,.A (Qa O),.A (Qf P),.o (.C2 (.tup [.sl 1 (t.1.map Qe),.I t.2])),14] Z Z Z (QgA _ _ _ a0)<|I h (λp h=>J g [.T,9,.denil 6 [some 1]] Z p<|F h Z Z U) λp h=>B h λu w h=>B h λe y h=>g4_ g [.F,5,.o (.co false [.d] 1 (u.map Qe) u.length),10,.o (.row (Qk e)),2,.o (.ln e.Cancel.length),4] Z p ⟨(ZL _ _ w),Qc,.inl Z⟩ (QI y) Qc<|lp_ h (λst=>⟨[(8,.sl 1 (t.1.map Qe)),(10,.own 23 st.2.length),(30,.sl 1 (e.Cancel.map Qb)),(31,.I (e.Cancel.length:Int)),(32,.I st.1)],[(23,.arr 1 (st.2.map Qe))]⟩) (λq=>(.exit 0,⟨[(8,.sl 1 (t.1.map Qe)),(10,.own 23 q.length)],[(23,.arr 1 (q.map Qe))]⟩)) Z (λ⟨s,i⟩ o h=>H g [6] Z<|I h (λj h=>J g [.T,2] Z j<|mE_ (λk:QMk=>⟨[(8,.sl 1 (t.1.map Qe)),(10,.own 23 k.length),(30,.sl 1 (e.Cancel.map Qb)),(31,.I (e.Cancel.length:Int)),(32,.I s)],[(23,.arr 1 (k.map Qe))]⟩) (λk=>Da s k=some o) (B h λa z h=>J g [3,.o (.row (Qb a)),5] Z (QI z)<|Y ⟨[(8,.sl 1 (t.1.map Qe)),(10,.own 23 i.length),(12,.I a),(30,.sl 1 (e.Cancel.map Qb)),(31,.I (e.Cancel.length:Int)),(32,.I s),(43,.b ((0<=a)&&(a<(i.length:Int))))],[(23,.arr 1 (i.map Qe))]⟩ (H g [4] Z<|bO_ (decide (0<=a)) (λf=>G g [.S 38 (.b true),6,.S 43 (.b ((0<=a)&&(a<(i.length:Int))))] Z ⟨(tc_ f),(cb_ (XL f Z))⟩<|M Z) λf=>G g [.S 38 (.b false),6,.S 43 (.b ((0<=a)&&(a<(i.length:Int))))] Z ⟨(tc_ f),(cb_ (Yp f Z))⟩<|M Z)<|H g [1] Z<|I h (λl h=>B h λa1 m h=>g4_ g [.T,4,.x (λσ=>σ.set 23 (.arr 1 ((i.set a.toNat ([]:L_ (Int×Int))).map Qe))),2,.S 10 (.own 23 (i.set a.toNat ([]:L_ (Int×Int))).length)] Z l (Yv m Z) (Ql.storeNil (zz:=2) (r:=Qe a1) Z Z Z Z (XO (Ys m).2) Z (QN.sz Z) Z (BC Z)) (congrArg (λn=>V.own 23 n) (by simp))<|me_ h Z) λl h=>J g [.F,2] Z l<|me_ h Z) λk h=>H g [4] Z<|rN_ h Z) λj h=>J g [.F,2] Z j<|rX_ h Z) λa2 h=>B h λD N h=>K g [6,.frz 23 (a2.map Qe) [10,48] [],.cm (.fn) [] [] [] [.d,.d,.d] [] (.tup [.sl 1 (D.1.map Qe),.I D.2]),7] Z (a2_ (YA Qc) (YA Qc)) (QbB _ _ _ N)<|F h Z Z U
def Wp (c:Qn)(e:QMk)(d:Qh):O_ (QMk×Int):=(GF c e d).bind λb=>bif (b.2 != 0)then some (([]:L_ QBg),b.2)else (Dp c b.1 d).bind λa=>some (a.1,a.2)
def Qke (f k g):CT 25 [.agg (Qa f),.sl 1 (k.map Qe),.agg (Qf g)] [] (Wp f k g) (λr=>(.tup [.sl 1 (r.1.map Qe),.I r.2])) no_:=
 W 26 func25 Z λC i r h=>B h λl j h=>g3_ i [10,.A (Qa f),1,.A (Qf g),.o (.C3 (.tup [.sl 1 (l.1.map Qe),.I l.2])),14] Z Z Z (Qh0 _ _ _ _ j)<|I h (λa h=>J i [.T,9,.denil 6 [some 1]] Z a<|F h Z Z U) λa h=>B h λb e h=>g4_ i [.F,4,.A (Qa f),1,.A (Qf g),.o (.C3 (.tup [.sl 1 (b.1.map Qe),.I b.2])),7] Z a Z Z (Qh1 _ _ _ _ e)<|F h Z Z U
def DI (a:Int)(b:QSB)(c:(L_ QMk)):O_ ((Int×QSB×(L_ QMk))⊕((L_ QMk)⊕(QSB×(L_ QMk)))):=some (.inl ((Qj (a+1)),b,c))
def Ln (a:(QMk×Int))(b:QSB):O_ Bool:=bif (a.2 != 0)then some true else (BI a.1).bind λc=>some ((QW b c).getD false)
def Lp (d:Int)(e:QSB)(a:(L_ QMk))(b:Int)(c:(QMk×Int))(f:Bool):O_ ((Int×QSB×(L_ QMk))⊕((L_ QMk)⊕(QSB×(L_ QMk)))):=bif f then DI d e a else bif ((a.length:Int)==(min2 (max2 0 b) 4096))then some (.inr (.inl a))else (BI c.1).bind λg=>(chk (a.length+([c.1]:L_ QMk).length<=4294967296)).bind λ_=>DI d (Ja Rm e g true) (a++([c.1]:L_ QMk))
def Bq (f:(L_ Qh))(a:Int)(D:Int)(k:Qn)(b:Int)(c:Int)(d:QSB)(e:(L_ QMk)):O_ ((Int×QSB×(L_ QMk))⊕((L_ QMk)⊕(QSB×(L_ QMk)))):=bif (c<(f.length:Int))then (idx f c).bind λg=>bif (g.Task==a)then DI c d e else (idx e D).bind λi=>(Wp k i g).bind λh=>(Ln h d).bind (λj=>Lp c d e b h j)else some (.inr (.inr (d,e)))
def Lq (a:(L_ QMk)):O_ ((Int×QSB×(L_ QMk))⊕((L_ QMk)⊕(L_ QMk))):=some (.inr (.inl a))
def Lr (h:Int)(a:QSB)(b:(L_ QMk)):O_ ((Int×QSB×(L_ QMk))⊕((L_ QMk)⊕(L_ QMk))):=some (.inl ((Qj (h+1)),a,b))
def Br (g:Qn)(a:Int)(b:Int)(h:Int)(d:QSB)(c:(L_ QMk)):O_ ((Int×QSB×(L_ QMk))⊕((L_ QMk)⊕(L_ QMk))):=bif (h<(c.length:Int))then (idx c h).bind λe=>(EU g e 9223372036854775807).bind λf=>(Qs (λst=>Bq f a h g b st.1 st.2.1 st.2.2) (0,d,c)).bind (Sum.elim (λq=>Lq q) (λq=>Lr h q.1 q.2))else some (.inr (.inr c))
def QdF (a:(L_ QMk)):O_ ((L_ QMk)×Bool):=some (a,false)
def QdG (a:(L_ QMk)):O_ ((L_ QMk)×Bool):=some (a,true)
def Ui (f:Qn)(e:QMk)(b:Int)(a:Int):O_ ((L_ QMk)×Bool):=bif ((min2 (max2 0 a) 4096)==0)then some (([]:L_ QMk),false)else (BI e).bind λc=>(LM e).bind λd=>(Qs (λst=>Br f b a st.1 st.2.1 st.2.2) (0,(Ja Rm ([]:QSB) c true),([d]:L_ QMk))).bind (Sum.elim (λq=>QdF q) (λq=>QdG q))
def Ls (n1 m2 g i):CT 11 [.agg (Qa n1),.sl 1 (m2.map Qe),.I g,.I i] [] (Ui n1 m2 g i) (λr=>(.tup [.sl 1 (r.1.map Qu),.b r.2])) no_:=
 W 83 func11 Z λC j r h=>H j [22] Z<|I h (λa9 h=>J j [.T,8,.denil 8 [some 1]] Z a9<|F h Z Z U) λa9 h=>B h λb0 b5 h=>B h λt b6 h=>G j [.F,5,.O 23 (.map (QT V.s V.b ([]:QSB))),1,.o (.C1 (.s b0)),.x (λσ=>σ.set 23 (.map (QT V.s V.b (Ja Rm ([]:QSB) b0 true)))),7,.o (.co false [.d] 1 (t.map Qe) t.length),.frz 28 (t.map Qe) [28] [],1,.O 29 (.arr 1 (([t]:L_ QMk).map Qu)),.S 29 (.own 29 ([t]:L_ QMk).length),10] Z (a8_ a9 Z (NE _ _ b5) (Ql.insert (e:=V.s) (f:=V.b) (l:=([]:QSB)) (k:=b0) (v:=true) Rm Z Z Z Z Z Z QaP QeF Z) ⟨(ZL _ _ b6),Qc,.inl Z⟩ (A (YA Qc)) Z Z)<|lq_ h (λst=>⟨[(2,.I g),lk_ 4,(10,.I (min2 (max2 0 i) 4096)),(11,.map 23),(12,.own 29 st.2.2.length),(13,.I st.1)],[(4,.var (Qa n1)),(23,.map (QT V.s V.b st.2.1)),(29,.arr 1 (st.2.2.map Qu))]⟩) (λq=>(.ret,⟨[(8,.own 29 q.length),(9,.b false)],[(29,.arr 1 (q.map Qu))]⟩)) (λq=>(.exit 0,⟨[(12,.own 29 q.length)],[(29,.arr 1 (q.map Qu))]⟩)) Z (λ⟨at_13,c6,c7⟩ o h=>H j [9] Z<|I h (λu h=>B h λc2 a6 h=>B h λm b7 h=>G j [.T,5,.K [2,4,10,11,12,13] [4,23,29]] Z (A u) <| 
  dr_ j [.E (.agg (Qa n1)),.N,.N,.N,.B (.row (Qu c2)),.B (.co false [.d,.d,.d] 4 (m.map Qf) m.length),.N,.N] [] [] [2,4,10,11,12,13,41,42,43] [4,23,29,41] Z Z (a4_ Z (Yv a6 Z) (XO (Ys a6).2) ⟨(Rb _ _ _ _ b7),Qc,.inl Z⟩) Z <|
  H j [2] Z<|lq_ h (λst=>⟨[(2,.I g),lk_ 4,(10,.I (min2 (max2 0 i) 4096)),(11,.map 23),(12,.own 29 st.2.2.length),(13,.I at_13),(41,.own 41 m.length),(42,.I (m.length:Int)),(43,.I st.1)],[(4,.var (Qa n1)),(23,.map (QT V.s V.b st.2.1)),(29,.arr 1 (st.2.2.map Qu)),(41,.arr 4 (m.map Qf))]⟩) (λq=>(.ret,⟨[(8,.own 29 q.length),(9,.b false)],[(29,.arr 1 (q.map Qu))]⟩)) (λq=>(.exit 2,⟨[(2,.I g),lk_ 4,(10,.I (min2 (max2 0 i) 4096)),(11,.map 23),(12,.own 29 q.2.length),(13,.I at_13)],[(4,.var (Qa n1)),(23,.map (QT V.s V.b q.1)),(29,.arr 1 (q.2.map Qu))]⟩)) Z (λ⟨b1,w,a3⟩ o h=>H j [6] Z<|I h (λy h=>J j [.T,2] Z y<|mF_ (λ(a4:QSB) (D:(L_ QMk))=>⟨[(2,.I g),lk_ 4,(10,.I (min2 (max2 0 i) 4096)),(11,.map 23),(12,.own 29 D.length),(13,.I at_13),(41,.own 41 m.length),(42,.I (m.length:Int)),(43,.I b1)],[(4,.var (Qa n1)),(23,.map (QT V.s V.b a4)),(29,.arr 1 (D.map Qu)),(41,.arr 4 (m.map Qf))]⟩) (λa4 D=>DI b1 a4 D=some o) (B h λa5 a7 h=>g4_ j [4,.v (.row (Qf a5)) [] (.agg (Qf a5)),2,.O 15 (.var (Qf a5)),11] Z (Yv a7 Z) (XO (Ys a7).2) Z Z<|I h (λP h=>J j [.T,3] Z P<|mf_ h Z) λP h=>B h λc3 a8 h=>B h λp b8 h=>G j [.F,3,.K [2,4,10,11,12,13,15,41,42,43] [4,15,23,29,41]] Z (A P) <| 
  dr_ j [.E (.agg (Qa n1)),.N,.N,.N,.B (.row (Qu c3)),.E (.agg (Qf a5)),.B (.C3 (.tup [.sl 1 (p.1.map Qe),.I p.2])),.N,.N,.N,.N,.N] [] [] [2,4,10,11,12,13,16,17,41,42,43] [4,23,29,41] Z Z (a5_ Z (Yv a8 Z) (XO (Ys a8).2) Z (Qke _ _ _ _ b8)) Z <|
  H j [3] Z<|mV_ h (λb2=>⟨[(2,.I g),lk_ 4,(10,.I (min2 (max2 0 i) 4096)),(11,.map 23),(12,.own 29 a3.length),(13,.I at_13),(16,.sl 1 (p.1.map Qe)),(41,.own 41 m.length),(42,.I (m.length:Int)),(43,.I b1),(68,.b b2)],[(4,.var (Qa n1)),(23,.map (QT V.s V.b w)),(29,.arr 1 (a3.map Qu)),(41,.arr 4 (m.map Qf))]⟩) (λb2 h=>H j [4] Z<|I h (λa0 h=>L j [.S 63 (.b true),6] Z a0<|mq_ h Z) λa0 h=>B h λb3 b9 h=>G j [.S 63 (.b false),2,.o (.C1 (.s b3)),.o (.any (.b ((QW w b3).getD false)) none),2] Z ⟨⟨(tc_ a0),(NE _ _ b9)⟩,(λσ h1 h2 _=>Ql.lookup (e:=V.s) (f:=V.b) (l:=w) (k:=b3) (z:=false) Z Z (QZ j.n Z) (h1 _ _ Z) (h2 _ _ Z) (h1 _ _ Z) QaP QeF Qn4 Z)⟩<|mq_ h Z) λb2 h=>H j [1] Z<|I h (λa1 h=>J j [.T,3] Z a1<|mf_ h Z) λa1 h=>J j [.F,11] Z a1<|I h (λa2 h=>J j [.T,11] Z a2<|rR_ h Z) λa2 h=>B h λb4 c0 h=>X h λc1 h=>G j [.F,6,.o (.C1 (.s b4)),.x (λσ=>σ.set 23 (.map (QT V.s V.b (Ja Rm w b4 true)))),5,.v (.bd []) [] (.sl 1 (([p.1]:L_ QMk).map Qu)),.app ((a3++([p.1]:L_ QMk)).map Qu) (a3++([p.1]:L_ QMk)).length,3] Z (a5_ a2 (NE _ _ c0) (Ql.mapUpdate (e:=V.s) (f:=V.b) (l:=w) (k:=b4) (v:=true) Rm Z Z Z Z Z Z QaP QeF Z) Z ⟨Qc,Yk c1 Qc,XG,YC Qc⟩)<|mf_ h Z) λa4 D h=>H j [4] Z<|rN_ h Z) λy h=>J j [.F,2] Z y<|rX_ h Z) (λc8 h=>H j [3] Z<|rR_ h Z) (λ⟨c9,d0⟩ h=>H j [8] Z<|rN_ h Z)) λu h=>J j [.F,2] Z u<|rX_ h Z) (λc4 h=>J j [2,.frz 29 (c4.map Qu) [8] []] Z (A (YA Qc))<|F h Z Z U) (λc5 h=>J j [10,.frz 29 (c5.map Qu) [8] []] Z (A (YA Qc))<|F h Z Z U)
def DB (l:L_ Int):O_ LI_:=(chk (l.length<4611686018427387904)).bind λ_=>some (Dv l)
def PN (l){r}(h:DB l=some r):QP prog 39 [.own 617 l.length] [(617,.arr 1 (l.map Qb))] (Gives (.own 617 r.length) [(617,.arr 1 (r.map Qb))]):=by
 obtain⟨_,a,h⟩:=Qw h
 cases h
 exact QkY QmS l (Xn (QhI a))
def EG (a:Int)(b:LI_):O_ ((Int×LI_)⊕LI_):=some (.inl ((Qj (a+1)),b))
def Lt (a:Xk)(c:QMk):O_ Bool:=bif (0<=a.Place)then bif (a.Place<(c.length:Int))then (idx c a.Place).bind λb=>some ((b.length:Int)==0)else some false else some false
def Lu (a:LI_)(b:Xk)(c:Int)(d:Bool):O_ ((Int×LI_)⊕LI_):=bif d then (chk (a.length+([b.Place]:L_ Int).length<=4294967296)).bind λ_=>EG c (a++([b.Place]:L_ Int))else EG c a
def EH (e:QL)(f:QMk)(a:Int)(b:LI_):O_ ((Int×LI_)⊕LI_):=bif (a<(e.Ins.length:Int))then (idx e.Ins a).bind λc=>(Lt c f).bind (λd=>Lu b c a d)else some (.inr b)
def EI (a:LI_):O_ LI_:=(JC a).bind λb=>(chk (b.length=a.length)).bind λ_=>(DB b).bind λc=>some c
def JD (b:Qn)(c:QMk)(a:Int):O_ LI_:=
 bif ((a<0)||((b.Tasks.length:Int)<=a))then
 some ([]:L_ Int)
 else
 (idx b.Tasks a).bind λd=>
 (Qs (λst=>EH d c st.1 st.2) (0,([]:L_ Int))).bind (λq=>EI q)
def Lv (t u a):CT 20 [.agg (Qa t),.sl 1 (u.map Qe),.I a] [] (JD t u a) (λr=>(.own 600 r.length)) (λr=>[(600,.arr 1 (r.map Qb))]):=
 W 59 func20 Z λC c r h=>H c [8] Z<|Y ⟨[(1,.sl 1 (u.map Qe)),(2,.I a),lk_ 3,(18,.b ((a<0)||((t.Tasks.length:Int)<=a)))],[(3,.var (Qa t))]⟩ (H c [4] Z<|bO_ (decide (a<0)) (λf=>G c [.S 12 (.b true),7,.S 18 (.b ((a<0)||((t.Tasks.length:Int)<=a)))] Z ⟨(tc_ f),(cb_ (KB f Z))⟩<|M Z) λf=>G c [.S 12 (.b false),3,.o (.ln t.Tasks.length),3,.S 18 (.b ((a<0)||((t.Tasks.length:Int)<=a)))] Z ⟨⟨(tc_ f),Qc⟩,(cb_ (Yj f Z))⟩<|M Z)<|H c [1] Z<|I h (λw h=>g3_ c [.T,7,.adopt 6 600 1,.O 600 (.arr 1 (([]:L_ Int).map Qb)),.S 6 (.own 600 ([]:L_ Int).length)] Z w Z Z<|E h Z r1_) λw h=>B h λp a4 h=>G c [.F,13,.o (.row (Qk p)),2,.o (.ln p.Ins.length),4,.adopt 7 49 1,.O 49 (.arr 1 (([]:L_ Int).map Qb)),.S 7 (.own 49 ([]:L_ Int).length)] Z (a5_ w (QI a4) Qc Z (congrArg (λn=>V.own 49 n) (by simp)))<|lp_ h (λst=>⟨[(1,.sl 1 (u.map Qe)),(7,.own 49 st.2.length),(24,.sl 4 (p.Ins.map Xa)),(25,.I (p.Ins.length:Int)),(26,.I st.1)],[(49,.arr 1 (st.2.map Qb))]⟩) (λq=>(.exit 0,⟨[(7,.own 49 q.length)],[(49,.arr 1 (q.map Qb))]⟩)) Z (λ⟨x,m⟩ o h=>H c [6] Z<|I h (λg h=>J c [.T,2] Z g<|mE_ (λi:LI_=>⟨[(1,.sl 1 (u.map Qe)),(7,.own 49 i.length),(24,.sl 4 (p.Ins.map Xa)),(25,.I (p.Ins.length:Int)),(26,.I x)],[(49,.arr 1 (i.map Qb))]⟩) (λi=>EG x i=some o) (B h λe D h=>g3_ c [3,.o (.row (Xa e)),.A (Xa e),2,.O 9 (.var (Xa e)),3] Z (QI D) Z Z<|mV_ h (λy=>⟨[(1,.sl 1 (u.map Qe)),(7,.own 49 m.length),lk_ 9,(24,.sl 4 (p.Ins.map Xa)),(25,.I (p.Ins.length:Int)),(26,.I x),(48,.b y)],[(9,.var (Xa e)),(49,.arr 1 (m.map Qb))]⟩) (λy h=>H c [5] Z<|I h (λj h=>G c [.S 33 (.b true),3,.o (.ln u.length),3] Z ⟨(tc_ j),Qc⟩<|I h (λk h=>B h λN P h=>G c [.S 40 (.b true),3,.o (.row (Qe N)),1,.o (.ln N.length),3] Z ⟨⟨(tc_ k),(QI P)⟩,Qc⟩<|mq_ h Z) λk h=>L c [.S 40 (.b false),9] Z k<|mq_ h Z) λj h=>L c [.S 33 (.b false),16] Z j<|mq_ h Z) λy h=>H c [1] Z<|I h (λl h=>X h λa0 h=>g3_ c [.T,4,.v (.bd []) [] (.sl 1 (([e.Place]:L_ Int).map Qb)),.app ((m++([e.Place]:L_ Int)).map Qb) (m++([e.Place]:L_ Int)).length,3] Z l Z ⟨Qc,Yk a0 Qc,XG,YC Qc⟩<|me_ h Z) λl h=>J c [.F,2] Z l<|me_ h Z) λi h=>H c [4] Z<|rN_ h Z) λg h=>J c [.F,2] Z g<|rX_ h Z) λa5 h=>B h λz a1 h=>X h λs h=>B h λa2 a3 h=>g4_ c [5,.cm (.fn) [(617,49)] [(49,617)] [] [.d] [(617,.arr 1 (z.map Qb))] (.tup []),.S 7 (.own 49 z.length),.S 55 (.own 49 z.length),5,.cm (.fn) [(617,49)] [(49,617)] [] [.d] [(617,.arr 1 (a2.map Qb))] (.own 617 a2.length),4,.K [6] [49],.ren 49 600] Z (Ur _ a1) (by simp[Xn s]) (by simp[Xn s]) (PN _ a3)<|E h Z r1_
def MR (a:Int)(b:QMk):O_ Bool:=(idx b a).bind λc=>some (decide (0<(c.length:Int)))
def QbC (d a):CT 64 [.I d,.L 617] [(617,.var (Qu a))] (MR d a) V.b (λ_=>[(617,.var (Qu a))]):=
 W 10 func64 Z λC f r h=>B h λe c h=>K f [9,.o (.row (Qe e)),1,.o (.ln e.length),5] Z (QI c) Qc<|E h Z r1_
def JW (c:LI_)(d:QMk)(a:Int):O_ (Int⊕(Int⊕Unit)):=bif (a<(c.length:Int))then (idx c a).bind λe=>(MR e d).bind λb=>bif b then some (.inr (.inl a))else some (.inl (Qj (a+1)))else some (.inr (.inr ()))
def Uu (a:Int):O_ Int:=some a
def MS : O_ Int:=some (-1)
def DV (a:LI_)(b:QMk):O_ Int:=(Qs (λst=>JW a b st) 0).bind (Sum.elim (λq=>Uu q) (λq=>MS))
def MT (g e):CT 118 [.sl 1 (g.map Qb),.clo (.func 64) [] [.L 617]] [(617,.var (Qu e))] (DV g e) V.I (λ_=>[(617,.var (Qu e))]):=
 W 19 func118 Z λC c r h=>J c [9,.o (.ln g.length),4] Z Qc<|lq_ h (λst=>⟨[(0,.sl 1 (g.map Qb)),(1,.clo (.func 64) [] [.L 617]),(7,.I (g.length:Int)),(8,.I st)],[(617,.var (Qu e))]⟩) (λq=>(.ret,⟨[(4,.I q)],[(617,.var (Qu e))]⟩)) (λq=>(.exit 0,⟨[],[(617,.var (Qu e))]⟩)) Z (λm o h=>H c [6] Z<|I h (λf h=>B h λl j h=>B h λk i h=>g3_ c [.T,15,.o (.row (Qb l)),1,.cm (.clo) [(617,617)] [(617,617)] [] [.d,.d] [(617,.var (Qu e))] (.b k),2] Z f (QI j) (QbC _ _ _ i)<|I h (λa h=>J c [.T,9] Z a<|rR_ h Z) λa h=>J c [.F,7] Z a<|rN_ h Z) λf h=>J c [.F,2] Z f<|rX_ h Z) (λp h=>H c [2] Z<|E h Z r1_) (λ_ h=>H c [8] Z<|E h Z r1_)
def JX (a:LI_)(b:QMk):O_ Bool:=(DV a b).bind λc=>some (decide (0<=c))
def Iz (e a):CT 63 [.sl 1 (e.map Qb),.clo (.func 64) [] [.L 617]] [(617,.var (Qu a))] (JX e a) V.b (λ_=>[(617,.var (Qu a))]):=
 W 9 func63 Z λC f r h=>B h λg c h=>J f [9,.cm (.fn) [(617,617)] [(617,617)] [] [.d,.d] [(617,.var (Qu a))] (.I g),5] Z (MT _ _ _ c)<|E h Z r1_
def Bs (e:((L_ QMk)×Bool))(a:LI_)(b:Int):O_ ((LI_×Int)⊕(Unit⊕Unit)):=bif (b<(e.1.length:Int))then (idx e.1 b).bind λc=>(JX a c).bind λd=>bif d then some (.inr (.inl ()))else some (.inl (a,(Qj (b+1))))else some (.inr (.inr ()))
def QdH : O_ Int:=some 0
def Lw (a:((L_ QMk)×Bool)):O_ Int:=bif (!a.2)then some 2 else some 1
def IA (c:Qn)(d:QMk)(a:Int)(b:Int):O_ Int:=(JD c d a).bind λf=>(Ui c d a b).bind λe=>(Qs (λst=>Bs e st.1 st.2) (f,0)).bind (Sum.elim (λq=>QdH) (λq=>Lw e))
def QdI (t z e a):CT 36 [.agg (Qa t),.sl 1 (z.map Qe),.I e,.I a] [] (IA t z e a) V.I no_:=
 W 38 func36 Z λC j r h=>B h λu w h=>B h λk x h=>G j [8,.A (Qa t),2,.o (.co false [.d,.d,.d] 1 (u.map Qb) u.length),5,.A (Qa t),3,.o (.C4 (.tup [.sl 1 (k.1.map Qu),.b k.2])),11,.o (.ln k.1.length),4,.frz 17 (u.map Qb) [9] []] Z (a6_ Z ⟨(Lv _ _ _ _ w),Qc,.inl Z⟩ Z (Ls _ _ _ _ _ x) Qc (A (YA Qc)))<|lq_ h (λst=>⟨[(9,.sl 1 (st.1.map Qb)),(11,.b k.2),(26,.sl 1 (k.1.map Qu)),(27,.I (k.1.length:Int)),(28,.I st.2)],[]⟩) (λq=>(.ret,⟨[(8,.I 0)],[]⟩)) (λq=>(.exit 0,⟨[(11,.b k.2)],[]⟩)) Z (λ⟨m,D⟩ o h=>H j [6] Z<|I h (λf h=>B h λl p h=>B h λy s h=>g4_ j [.T,6,.o (.row (Qu l)),3,.O 13 (.var (Qu l)),6,.cm (.fn) [(617,13)] [(13,617)] [] [.d,.d] [(617,.var (Qu l))] (.b y),2] Z f (QI p) Z (Iz _ _ _ s)<|I h (λg h=>J j [.T,8] Z g<|rR_ h Z) λg h=>J j [.F,7] Z g<|rN_ h Z) λf h=>J j [.F,2] Z f<|rX_ h Z) (λ_ h=>H j [2] Z<|E h Z U) (λ_ h=>H j [9] Z<|I h (λi h=>J j [.T,7] Z i<|E h Z U) λi h=>J j [.F,8] Z i<|E h Z U)
def Db (b:Qn)(e:QMk)(c:Qh)(a:Int):O_ Int:=(Ye b e c).bind λf=>bif (f != 0)then some 0 else (idx b.Tasks c.Task).bind λg=>bif (g.Join != 3)then some 1 else (IA b e c.Task a).bind λd=>some d
def DJ (i p j a):CT 17 [.agg (Qa i),.sl 1 (p.map Qe),.agg (Qf j),.I a] [] (Db i p j a) V.I no_:=
 W 30 func17 Z λC f r h=>B h λq k h=>g3_ f [11,.A (Qa i),1,.A (Qf j),.o (.C3 (.I q)),4] Z Z Z (VB _ _ _ _ k)<|I h (λe h=>J f [.T,8] Z e<|E h Z U) λe h=>B h λs l h=>K f [.F,6,.o (.row (Qk s)),6] Z e (QI l)<|I h (λb h=>J f [.T,8] Z b<|E h Z U) λb h=>B h λm g h=>g3_ f [.F,5,.A (Qa i),4,.o (.C4 (.I m)),4] Z b Z (QdI _ _ _ _ _ g)<|E h Z U
def Uv (b:Int)(a:Bool)(c:(L_ Qh))(d:QBg):O_ ((Bool×Int×(L_ Qh)×QBg)⊕(Bool×(L_ Qh))):=some (.inl (a,(Qj (b+1)),c,d))
def Uw (c:Qh)(d:(L_ Qh))(e:Int)(a:Bool)(b:QBg):O_ ((Bool×Int×(L_ Qh)×QBg)⊕(Bool×(L_ Qh))):=bif (((QW b c.Task).getD 0)==1)then (chk (d.length+([c]:L_ Qh).length<=4294967296)).bind λ_=>Uv e a (d++([c]:L_ Qh)) b else bif (((QW b c.Task).getD 0)==2)then Uv e false d b else Uv e a d b
def WO (h:(L_ Qh))(i:Qn)(j:QMk)(b:Int)(a:Bool)(d:Int)(e:(L_ Qh))(f:QBg):O_ ((Bool×Int×(L_ Qh)×QBg)⊕(Bool×(L_ Qh))):=bif (d<(h.length:Int))then (idx h d).bind λc=>bif (!(QW f c.Task).isSome)then (Db i j c b).bind λg=>Uw c e d a (Ja FU f c.Task g)else Uw c e d a f else some (.inr (a,e))
def MU (a:Bool)(b:(L_ Qh)):O_ ((L_ Qh)×Bool):=some (b,a)
def Fc (c:Qn)(d:QMk)(a:Int)(b:Int):O_ ((L_ Qh)×Bool):=(EU c d b).bind λe=>(Qs (λst=>WO e c d a st.1 st.2.1 st.2.2.1 st.2.2.2) (true,0,([]:L_ Qh),([]:QBg))).bind (λq=>MU q.1 q.2)
def SW (n1 m2 g u):CT 14 [.agg (Qa n1),.sl 1 (m2.map Qe),.I g,.I u] [] (Fc n1 m2 g u) (λr=>(.tup [.sl 4 (r.1.map Qf),.b r.2])) no_:=by
 refine W 59 func14 rfl λC p r h=>?_
 obtain⟨t,b2,h⟩:=Qw h
 refine QJ p [20,.O 17 (.map (QT V.I V.I ([]:QBg))),6,.A (Qa n1),2,.o (.co false [.d,.d,.d] 4 (t.map Qf) t.length),5,.adopt 10 50 4,.O 50 (.arr 4 (([]:L_ Qh).map Qf)),.S 10 (.own 50 ([]:L_ Qh).length),.K [1,2,4,10,11,12,21,22,23] [4,17,21,50]] Z (a5_ Z Z ⟨(Rb _ _ _ _ b2),Qc,.inl Z⟩ Z (congrArg (λn=>V.own 50 n) (by simp))) ?_
 obtain⟨b3,a8,h⟩:=Qw h
 refine AK.loop (body:=(λst=>WO t n1 m2 g st.1 st.2.1 st.2.2.1 st.2.2.2)) (λst σ=>σ=⟨[(1,.sl 1 (m2.map Qe)),(2,.I g),lk_ 4,(10,.own 50 st.2.2.1.length),(11,.b st.1),(12,.map 17),(21,.own 21 t.length),(22,.I (t.length:Int)),(23,.I st.2.1)],[(4,.var (Qa n1)),(17,.map (QT V.I V.I st.2.2.2)),(21,.arr 4 (t.map Qf)),(50,.arr 4 (st.2.2.1.map Qf))]⟩) (λq e σ=>e=.exit 0/\σ=⟨[(10,.own 50 q.2.length),(11,.b q.1)],[(50,.arr 4 (q.2.map Qf))]⟩) a8 rfl ?_ ?_
 ·rintro ⟨s,a3,w,x⟩ o σ rfl h
  refine tg_ p [6] ?_
  refine bq_ p h [.T,2] rfl (λy h=>?_) [.F,2,.K [10,11] [50]] rfl λy h=>?_
  ·refine AK.meet (λσ=>∃j:Bool,∃a4:(L_ Qh),∃a6:QBg,σ=⟨[(1,.sl 1 (m2.map Qe)),(2,.I g),lk_ 4,(10,.own 50 a4.length),(11,.b j),(12,.map 17),(21,.own 21 t.length),(22,.I (t.length:Int)),(23,.I a3)],[(4,.var (Qa n1)),(17,.map (QT V.I V.I a6)),(21,.arr 4 (t.map Qf)),(50,.arr 4 (a4.map Qf))]⟩/\Uv a3 j a4 a6=some o) ?_ ?_
   ·obtain⟨i,a5,h⟩:=Qw h
    refine QJ p [4,.v (.row (Qf i)) [] (.agg (Qf i)),2,.O 14 (.var (Qf i)),2] Z (a4_ (Yv a5 Z) (XO (Ys a5).2) Z Z) ?_
    refine AK.meet (λσ=>∃D:QBg,σ=⟨[(1,.sl 1 (m2.map Qe)),(2,.I g),lk_ 4,(10,.own 50 w.length),(11,.b s),(12,.map 17),lk_ 14,(21,.own 21 t.length),(22,.I (t.length:Int)),(23,.I a3)],[(4,.var (Qa n1)),(14,.var (Qf i)),(17,.map (QT V.I V.I D)),(21,.arr 4 (t.map Qf)),(50,.arr 4 (w.map Qf))]⟩/\Uw i w a3 s D=some o) ?_ ?_
    ·refine QJ p [5,.o (.any (.tup [.I ((QW x i.Task).getD 0),.b (QW x i.Task).isSome]) none),13] Z (A (λσ h1 h2 _=>Ql.lookupOk (e:=V.I) (f:=V.I) (l:=x) (k:=i.Task) (z:=0) Z Z (QZ p.n Z) (h1 _ _ Z) (h2 _ _ Z) (h1 _ _ Z) QlX Cm QaQ Z Z)) ?_
     rcases Xr h with⟨P,h⟩|⟨P,h⟩
     ·obtain⟨a7,a9,h⟩:=Qw h
      refine QJ p [.T,.K [1,2,4,10,11,12,14,21,22,23] [4,14,17,21,50]] Z (A P) ?_
      refine AK.draw2 QN p mixed [.N,.N,.N,.E (.agg (Qa n1)),.N,.E (.agg (Qf i)),.N,.B (.C4 (.I a7)),.m (.any ⟨[],[(17,.map (QT V.I V.I (Ja FU x i.Task a7)))],none⟩)] [] [] [1,2,4,10,11,12,14,21,22,23] [4,14,17,21,50] rfl rfl rfl ⟨⟨⟨⟨U,rfl⟩,rfl⟩,(DJ _ _ _ _ _ a9)⟩,(λσ h1 h2=>Ql.mapUpdate (e:=V.I) (f:=V.I) (l:=x) (k:=i.Task) (v:=a7) FU rfl rfl (h1 _ _ rfl) (h2 _ _ rfl) (h1 _ _ rfl) (h1 _ _ rfl) QlX Cm rfl)⟩ rfl (by kernel_rfl) rfl rfl rfl ?_
      refine tg_ p [.K [1,2,4,10,11,12,14,21,22,23] [4,14,17,21,50]] ?_
      exact AK.met (ex_ _ (an_ Z h))
     refine QJ p [.F,1,.K [1,2,4,10,11,12,14,21,22,23] [4,14,17,21,50]] Z (A P) ?_
     exact AK.met (ex_ _ (an_ Z h))
    rintro σ ⟨D,rfl,h⟩
    refine QJ p [5,.o (.any (.I ((QW D i.Task).getD 0)) none),9] Z (A (λσ h1 h2 _=>Ql.lookup (e:=V.I) (f:=V.I) (l:=D) (k:=i.Task) (z:=0) Z Z (QZ p.n Z) (h1 _ _ Z) (h2 _ _ Z) (h1 _ _ Z) QlX Cm QaQ Z)) ?_
    rcases Xr h with⟨a0,h⟩|⟨a0,h⟩
    ·obtain⟨b0,h⟩:=QhV h
     refine QJ p [.T,2,.A (Qf i),.v (.bd []) [] (.sl 4 (([i]:L_ Qh).map Qf)),.app ((w++([i]:L_ Qh)).map Qf) (w++([i]:L_ Qh)).length,4,.K [1,2,4,10,11,12,21,22,23] [4,17,21,50]] Z (a4_ a0 Z Z ⟨Qc,Yk b0 Qc,XG,YC Qc⟩) ?_
     exact AK.met (ex_ _ (ex_ _ (ex_ _ (an_ Z h))))
    refine QJ p [.F,6] Z (A a0) ?_
    refine bq_ p h [.T,5,.K [1,2,4,10,11,12,21,22,23] [4,17,21,50]] rfl (λa1 h=>?_) [.F,3,.K [1,2,4,10,11,12,21,22,23] [4,17,21,50]] rfl λa1 h=>?_
    ·exact AK.met (ex_ _ (ex_ _ (ex_ _ (an_ Z h))))
    exact AK.met (ex_ _ (ex_ _ (ex_ _ (an_ Z h))))
   rintro σ ⟨j,a4,a6,rfl,h⟩
   refine tg_ p [4,.K [1,2,4,10,11,12,21,22,23] [4,17,21,50]] ?_
   cases h
   exact QeB Z Z
  cases h
  exact QhM Z (an_ Z Z)
 obtain⟨a2,b1⟩:=b3
 replace h:MU a2 b1=some r:=h
 unfold MU at h
 rintro e σ ⟨rfl,rfl⟩
 exact J p [11,.frz 50 (b1.map Qf) [8] []] Z (A (YA Qc))<|F h Z Z U
def FX (c:LI_)(d:LI_)(a:Int):O_ (Int⊕(Unit⊕Unit)):=bif (a<(c.length:Int))then (idx c a).bind λe=>(idx d a).bind λb=>bif (e != b)then some (.inr (.inl ()))else some (.inl (Qj (a+1)))else some (.inr (.inr ()))
def QgB : O_ Bool:=some false
def QgC : O_ Bool:=some true
def WB (a:LI_)(b:LI_):O_ Bool:=bif ((a.length:Int) != (b.length:Int))then some false else (Qs (λst=>FX a b st) 0).bind (Sum.elim (λq=>QgB) (λq=>QgC))
def Ef (g j):CT 19 [.sl 1 (g.map Qb),.sl 1 (j.map Qb)] [] (WB g j) V.b no_:=
 W 26 func19 Z λC c r h=>K c [9,.o (.ln g.length),1,.o (.ln j.length),3] Z Qc Qc<|I h (λe h=>J c [.T,7] Z e<|E h Z U) λe h=>J c [.F,9] Z e<|lq_ h (λst=>⟨[(0,.sl 1 (g.map Qb)),(1,.sl 1 (j.map Qb)),(5,.I st)],[]⟩) (λq=>(.ret,⟨[(4,.b false)],[]⟩)) (λq=>(.exit 0,⟨[],[]⟩)) Z (λp o h=>J c [5,.o (.ln g.length),3] Z Qc<|I h (λf h=>B h λm k h=>B h λl i h=>G c [.T,5,.K [0,1,5] []] Z (A f) <| 
  dr_ c [.N,.N,.B (.row (Qb m)),.N,.N,.N,.B (.row (Qb l)),.N,.N] [] [] [0,1,5,25] [] Z Z (a2_ (QI k) (QI i)) Z <|
  H c [1] Z<|I h (λd h=>J c [.T,8] Z d<|rR_ h Z) λd h=>J c [.F,8] Z d<|rN_ h Z) λf h=>J c [.F,2] Z f<|rX_ h Z) (λ_ h=>H c [2] Z<|E h Z U) (λ_ h=>H c [8] Z<|E h Z U)
def QeX (a:Qn)(e:((L_ QMk)×Bool))(f:((L_ Qh)×Bool)):O_ Bool:=(Db a ([([(0,1)]:L_ (Int×Int)),([]:QBg),([(0,1)]:L_ (Int×Int)),([]:QBg)]:L_ QBg) (Qh.mk 1 ([]:LI_) ([0]:L_ Int) ([0]:L_ Int)) 10).bind λg=>bif (g==0)then (Db a ([([(0,1)]:L_ (Int×Int)),([]:QBg),([]:QBg),([]:QBg)]:L_ QBg) (Qh.mk 1 ([]:LI_) ([0]:L_ Int) ([0]:L_ Int)) 10).bind λh=>bif (h==1)then (Db a ([([(0,1)]:L_ (Int×Int)),([]:QBg),([(0,1)]:L_ (Int×Int)),([]:QBg)]:L_ QBg) (Qh.mk 1 ([]:LI_) ([0]:L_ Int) ([0]:L_ Int)) 1).bind λb=>bif (b==2)then bif ((e.1.length:Int)==2)then bif e.2 then bif ((f.1.length:Int)==1)then bif f.2 then (JD a ([([(0,1)]:L_ (Int×Int)),([]:QBg),([]:QBg),([]:QBg)]:L_ QBg) 1).bind λc=>(WB c ([1]:L_ Int)).bind λd=>some d else some false else some false else some false else some false else some false else some false else some false
def QeY (a:Bool):O_ Bool:=some a
def Re  : O_ Bool:=(Qet).bind λa=>(Ui a ([([(0,1)]:L_ (Int×Int)),([]:QBg),([(0,1)]:L_ (Int×Int)),([]:QBg)]:L_ QBg) 1 10).bind λb=>(Fc a ([([(0,1)]:L_ (Int×Int)),([]:QBg),([(0,1)]:L_ (Int×Int)),([]:QBg)]:L_ QBg) 10 10).bind λc=>(QeX a b c).bind (λd=>QeY d)
def QeZ  : CT 8 [] [] (Re ) V.b no_:=
 W 78 func8 Z λC a r h=>B h λl u h=>B h λw x h=>B h λy z h=>G a [7,.o (.c false [] (.agg (Qa l))),2,.O 1 (.var (Qa l)),4,.A (Qo (0,1)),1,.O 10 (.arr 2 (([(0,1)]:L_ (Int×Int)).map Qo)),.S 10 (.own 10 ([(0,1)]:L_ (Int×Int)).length),5,.v (.bd []) [] (.sl 1 (([0]:L_ Int).map Qb)),.v (.bd []) [] (.sl 1 (([0]:L_ Int).map Qb)),.v .no [none,some 1,none,none] (.agg (Qf (Qh.mk 1 ([]:LI_) ([0]:L_ Int) ([0]:L_ Int)))),2,.O 3 (.var (Qf (Qh.mk 1 ([]:LI_) ([0]:L_ Int) ([0]:L_ Int)))),4,.A (Qa l),2,.frz 10 (([(0,1)]:L_ (Int×Int)).map Qo) [2,10,16,17] [],.v (.bd [none,some 2,none,some 2]) [] (.sl 1 (([([(0,1)]:L_ (Int×Int)),([]:QBg),([(0,1)]:L_ (Int×Int)),([]:QBg)]:L_ QBg).map Qe)),.o (.C4 (.tup [.sl 1 (w.1.map Qu),.b w.2])),9,.A (Qa l),2,.v (.bd [none,some 2,none,some 2]) [] (.sl 1 (([([(0,1)]:L_ (Int×Int)),([]:QBg),([(0,1)]:L_ (Int×Int)),([]:QBg)]:L_ QBg).map Qe)),.o (.C4 (.tup [.sl 4 (y.1.map Qf),.b y.2])),8] Z ⟨⟨⟨⟨⟨⟨⟨⟨⟨⟨⟨⟨⟨⟨⟨⟨U,(QhW _  u)⟩,Z⟩,Z⟩,Z⟩,Z⟩,Z⟩,Z⟩,Z⟩,Z⟩,Z⟩,(a4_ (YA Qc) (YA Qc) (YA Qc) (YA Qc))⟩,Z⟩,(Ls _ _ _ _ _ x)⟩,Z⟩,Z⟩,(SW _ _ _ _ _ z)⟩<|mV_ h (λD=>⟨[(0,.b D)],[]⟩) (λD h=>B h λx7 N h=>g4_ a [1,.A (Qa l),2,.v (.bd [none,some 2,none,some 2]) [] (.sl 1 (([([(0,1)]:L_ (Int×Int)),([]:QBg),([(0,1)]:L_ (Int×Int)),([]:QBg)]:L_ QBg).map Qe)),.A (Qf (Qh.mk 1 ([]:LI_) ([0]:L_ Int) ([0]:L_ Int))),.o (.C4 (.I x7)),2] Z Z Z Z (DJ _ _ _ _ _ N)<|I h (λm h=>B h λx9 P h=>G a [.S 37 (.b true),.A (Qa l),1,.v (.bd [none,some 2,some 2,some 2]) [] (.sl 1 (([([(0,1)]:L_ (Int×Int)),([]:QBg),([]:QBg),([]:QBg)]:L_ QBg).map Qe)),.A (Qf (Qh.mk 1 ([]:LI_) ([0]:L_ Int) ([0]:L_ Int))),.o (.C4 (.I x9)),3] Z ⟨⟨⟨⟨(tc_ m),Z⟩,Z⟩,Z⟩,(DJ _ _ _ _ _ P)⟩<|I h (λe h=>B h λT q h=>G a [.S 45 (.b true),.A (Qa l),2,.v (.bd [none,some 2,none,some 2]) [] (.sl 1 (([([(0,1)]:L_ (Int×Int)),([]:QBg),([(0,1)]:L_ (Int×Int)),([]:QBg)]:L_ QBg).map Qe)),.A (Qf (Qh.mk 1 ([]:LI_) ([0]:L_ Int) ([0]:L_ Int))),.o (.C4 (.I T)),3] Z ⟨⟨⟨⟨(tc_ e),Z⟩,Z⟩,Z⟩,(DJ _ _ _ _ _ q)⟩<|I h (λf h=>G a [.S 54 (.b true),1,.o (.ln w.1.length),3] Z ⟨(tc_ f),Qc⟩<|I h (λg h=>L a [.S 59 (.b true),3] Z g<|I h (λi h=>G a [.S 62 (.b true),1,.o (.ln y.1.length),3] Z ⟨(tc_ i),Qc⟩<|I h (λj h=>L a [.S 67 (.b true),3] Z j<|I h (λk h=>B h λp s h=>B h λa0 t h=>G a [.S 70 (.b true),.A (Qa l),1,.v (.bd [none,some 2,some 2,some 2]) [] (.sl 1 (([([(0,1)]:L_ (Int×Int)),([]:QBg),([]:QBg),([]:QBg)]:L_ QBg).map Qe)),.o (.co false [.d,.d,.d] 1 (p.map Qb) p.length),.v (.bd []) [] (.sl 1 (([1]:L_ Int).map Qb)),.o (.c true [.o (p.map Qb),.d] (.b a0)),3] Z ⟨⟨⟨⟨⟨(tc_ k),Z⟩,Z⟩,⟨(Lv _ _ _ _ s),Qc,.inl Z⟩⟩,Z⟩,⟨(Sl Z),(Ef _ _ _ t)⟩⟩<|mq_ h Z) λk h=>L a [.S 70 (.b false),9] Z k<|mq_ h Z) λj h=>L a [.S 67 (.b false),12] Z j<|mq_ h Z) λi h=>L a [.S 62 (.b false),17] Z i<|mq_ h Z) λg h=>L a [.S 59 (.b false),20] Z g<|mq_ h Z) λf h=>L a [.S 54 (.b false),25] Z f<|mq_ h Z) λe h=>L a [.S 45 (.b false),34] Z e<|mq_ h Z) λm h=>L a [.S 37 (.b false),42] Z m<|mq_ h Z) λD h=>H a [2] Z<|E h Z U
def OT (f:Qi)(h:Qi->Int->O_ Int)(a:Int)(c:Int)(d:Int):O_ ((Int×Int)⊕(Unit⊕Int)):=bif (d<(f.Kids.length:Int))then (idx f.Kids d).bind λe=>(h e (Qj (a-1))).bind λb=>bif (b==0)then some (.inr (.inl ()))else bif ((Qj ((Qj (c-500))+b))<=1)then some (.inr (.inl ()))else some (.inl ((Qj ((Qj (c-500))+b)),(Qj (d+1))))else some (.inr (.inr c))
def Qh2 : O_ Int:=some 0
def Qh3 (a:Int):O_ Int:=some (Qj (a-1))
def Rf (h:Qi->Int->O_ Int)(b:Qi)(a:Int):O_ Int:=
 bif ((a<=0)||(9<(b.Kids.length:Int)))then
 some 0
 else
 (Qs (λst=>OT b h a st.1 st.2) (500,0)).bind (Sum.elim (λq=>Qh2) (λq=>Qh3 q))
def Ex : Nat->Qi->Int->O_ Int
 | 0,_,_=>none
 | n+1,b,a=>Rf (Ex n) b a
def Zt (b:Qi)(a:Int):O_ Int:=Ex (SizeOf.sizeOf b) b a
def Qe0 (D:Qi->Int->O_ Int)(hrec_law04_few:∀(f:Qi) (a:Int) {r:Int},D f a=some r->QP prog 148 [.agg (Qm f),.I a] [] (Gives (.I r) []))(f:Qi)(a:Int):CT 148 [.agg (Qm f),.I a] [] (Rf D f a) V.I no_:=
 W 41 func148 Z λC e r h=>H e [8] Z<|Y ⟨[(1,.I a),lk_ 2,(15,.b ((a<=0)||(9<(f.Kids.length:Int))))],[(2,.var (Qm f))]⟩ (H e [4] Z<|bO_ (decide (a<=0)) (λg=>G e [.S 10 (.b true),6,.S 15 (.b ((a<=0)||(9<(f.Kids.length:Int))))] Z ⟨(tc_ g),(cb_ (KB g Z))⟩<|M Z) λg=>G e [.S 10 (.b false),2,.o (.ln f.Kids.length),3,.S 15 (.b ((a<=0)||(9<(f.Kids.length:Int))))] Z ⟨⟨(tc_ g),EN _⟩,(cb_ (Yj g Z))⟩<|M Z)<|H e [1] Z<|I h (λl h=>J e [.T,7] Z l<|E h Z U) λl h=>J e [.F,14] Z l<|lq_ h (λst=>⟨[(1,.I a),lk_ 2,(5,.I st.1),(6,.I st.2)],[(2,.var (Qm f))]⟩) (λq=>(.ret,⟨[(4,.I 0)],[]⟩)) (λq=>(.exit 0,⟨[(5,.I q)],[]⟩)) Z (λ⟨w,x⟩ o h=>J e [6,.o (.ln f.Kids.length),3] Z (EN _)<|I h (λi h=>B h λm p h=>B h λt s h=>g4_ e [.T,9,.o (.row (Qm m)),.A (Qm m),2,.o (.C2 (.I t)),10] Z i (Jc p) Z (hrec_law04_few _ _ s)<|I h (λj h=>J e [.T,9] Z j<|rR_ h Z) λj h=>J e [.F,17] Z j<|I h (λk h=>J e [.T,8] Z k<|rR_ h Z) λk h=>J e [.F,8] Z k<|rN_ h Z) λi h=>J e [.F,2] Z i<|rX_ h Z) (λ_ h=>H e [2] Z<|E h Z U) (λu h=>H e [10] Z<|E h Z U)
def SX : ∀(fuel:Nat) (b:Qi) (a:Int) {r:Int},Ex fuel b a=some r->QP prog 148 [.agg (Qm b),.I a] [] (Gives (.I r) [])
 | 0,_,_,_,h=>by cases h
 | n+1,b,a,_,h=>Qe0 (Ex n) (λ_ _ _ h=>SX n _ _ h) b a _ h
def Qh4 (b a){r}(h:Zt b a=some r):QP prog 148 [.agg (Qm b),.I a] [] (Gives (.I r) []):=SX _ b a h
def Fu (a:Qi):O_ Bool:=(Zt a 60).bind λb=>some (decide (0<b))
def OU (a):CT 97 [.agg (Qm a)] [] (Fu a) V.b no_:=
 W 6 func97 Z λC f r h=>B h λg e h=>K f [8,.A (Qm a),.o (.C2 (.I g)),5] Z Z (Qh4 _ _ e)<|E h Z U
def ZP (d:Qn)(e:Int)(a:Int)(b:QM):O_ Bool:=(idx d.Colours e).bind λc=>bif (100<(c.Name.size:Int))then some true else some (decide (400<(Qj (a+(b.Names.length:Int)))))
def OV (e:Qn)(f:Int)(a:Int):O_ (Int⊕(Unit⊕Unit)):=(idx e.Colours f).bind λb=>bif (a<(b.Names.length:Int))then (idx e.Colours f).bind λc=>(idx c.Names a).bind λd=>bif (100<(d.size:Int))then some (.inr (.inl ()))else some (.inl (Qj (a+1)))else some (.inr (.inr ()))
def Qh5 : O_ ((Int×Int)⊕(Unit⊕Int)):=some (.inr (.inl ()))
def Qh6 (a:Int)(b:QM)(c:Int):O_ ((Int×Int)⊕(Unit⊕Int)):=some (.inl ((Qj (a+(b.Names.length:Int))),(Qj (c+1))))
def ZQ (e:Qn)(d:Int)(a:Int)(b:QM)(c:Bool):O_ ((Int×Int)⊕(Unit⊕Int)):=bif c then some (.inr (.inl ()))else (Qs (λst=>OV e d st) 0).bind (Sum.elim (λq=>Qh5) (λq=>Qh6 a b d))
def OW (c:Qn)(a:Int)(d:Int):O_ ((Int×Int)⊕(Unit⊕Int)):=bif (d<(c.Colours.length:Int))then (idx c.Colours d).bind λb=>(ZP c d a b).bind (λe=>ZQ c d a b e)else some (.inr (.inr a))
def Qh7 : O_ Bool:=some false
def OX (c:Qn)(a:Int)(b:Int):O_ ((Int×Int)⊕(Unit⊕Int)):=bif (b<(c.Places.length:Int))then (idx c.Places b).bind λd=>(idx c.Places b).bind λe=>bif (100<(e.Name.size:Int))then some (.inr (.inl ()))else some (.inl ((Qj (a+(d.First.length:Int))),(Qj (b+1))))else some (.inr (.inr a))
def Qh8 : O_ Bool:=some false
def NX (b:QL)(a:Int):O_ (Int⊕(Unit⊕Unit)):=bif (a<(b.Vars.length:Int))then (idx b.Vars a).bind λc=>bif (100<(c.Name.size:Int))then some (.inr (.inl ()))else some (.inl (Qj (a+1)))else some (.inr (.inr ()))
def QgD : O_ ((Int×Int)⊕(Unit⊕Unit)):=some (.inr (.inl ()))
def NY (c:QL)(a:Bool)(b:Int):O_ ((Bool×Int)⊕Bool):=bif (b<(c.Ins.length:Int))then (idx c.Ins b).bind λd=>(Fu d.Expr).bind λe=>some (.inl ((a&&e),(Qj (b+1))))else some (.inr a)
def NZ (c:QL)(a:Bool)(b:Int):O_ ((Bool×Int)⊕Bool):=bif (b<(c.Outs.length:Int))then (idx c.Outs b).bind λd=>(Fu d.Expr).bind λe=>some (.inl ((a&&e),(Qj (b+1))))else some (.inr a)
def Oa (a:Int)(b:QL)(d:Int)(c:Bool):O_ ((Int×Int)⊕(Unit⊕Unit)):=bif (!c)then some (.inr (.inl ()))else some (.inl ((Qj ((Qj ((Qj ((Qj (a+(b.Vars.length:Int)))+(b.Ins.length:Int)))+(b.Outs.length:Int)))+(b.Cancel.length:Int))),(Qj (d+1))))
def Oc (b:QL)(a:Int)(d:Int)(c:Bool):O_ ((Int×Int)⊕(Unit⊕Unit)):=(Qs (λst=>NZ b st.1 st.2) (c,0)).bind (λq=>Oa a b d q)
def Od (b:QL)(a:Int)(c:Int):O_ ((Int×Int)⊕(Unit⊕Unit)):=(Fu b.Guard).bind λd=>(Qs (λst=>NY b st.1 st.2) (d,0)).bind (λq=>Oc b a c q)
def Oe (d:Qn)(b:Int)(c:Int):O_ ((Int×Int)⊕(Unit⊕Unit)):=
 bif (c<(d.Tasks.length:Int))then
 (idx d.Tasks c).bind λa=>
 bif ((200<(Qj ((Qj ((Qj ((Qj (b+(a.Vars.length:Int)))+(a.Ins.length:Int)))+(a.Outs.length:Int)))+(a.Cancel.length:Int))))||(100<(a.Name.size:Int)))then
 some (.inr (.inl ()))
 else
 (Qs (λst=>NX a st) 0).bind (Sum.elim (λq=>QgD) (λq=>Od a b c))
 else
 some (.inr (.inr ()))
def QgE : O_ Bool:=some false
def QgF (a:Int):O_ Bool:=some (decide (a<=400))
def Og (b:Qn)(a:Int):O_ Bool:=(Qs (λst=>Oe b st.1 st.2) (0,0)).bind (Sum.elim (λq=>QgE) (λq=>QgF a))
def Oh (b:Qn)(a:Int):O_ Bool:=(Qs (λst=>OX b st.1 st.2) (a,0)).bind (Sum.elim (λq=>Qh8) (λq=>Og b q))
def Ps (a:Qn):O_ Bool:=
 bif ((40<(a.Colours.length:Int))||((70<(a.Places.length:Int))||(70<(a.Tasks.length:Int))))then
 some false
 else
 (Qs (λst=>OW a st.1 st.2) (0,0)).bind (Sum.elim (λq=>Qh7) (λq=>Oh a q))
def Qh9 (i):CT 50 [.agg (Qa i)] [] (Ps i) V.b no_:=
 W 201 func50 Z λC f r h=>H f [8] Z<|Y ⟨[lk_ 1,(31,.b ((40<(i.Colours.length:Int))||((70<(i.Places.length:Int))||(70<(i.Tasks.length:Int)))))],[(1,.var (Qa i))]⟩ (J f [3,.o (.ln i.Colours.length),2] Z Qc<|bO_ (decide (40<(i.Colours.length:Int))) (λu=>G f [.S 20 (.b true),12,.S 31 (.b ((40<(i.Colours.length:Int))||((70<(i.Places.length:Int))||(70<(i.Tasks.length:Int)))))] Z ⟨(tc_ u),(cb_ (KB u Z))⟩<|M Z) λu=>G f [.S 20 (.b false),2,.o (.ln i.Places.length),3] Z ⟨(tc_ u),Qc⟩<|bO_ (decide (70<(i.Places.length:Int))) (λw=>G f [.S 26 (.b true),6,.S 31 (.b ((40<(i.Colours.length:Int))||((70<(i.Places.length:Int))||(70<(i.Tasks.length:Int)))))] Z ⟨(tc_ w),(cb_ (Yj u (KB w Z)))⟩<|M Z) λw=>G f [.S 26 (.b false),2,.o (.ln i.Tasks.length),3,.S 31 (.b ((40<(i.Colours.length:Int))||((70<(i.Places.length:Int))||(70<(i.Tasks.length:Int)))))] Z ⟨⟨(tc_ w),Qc⟩,(cb_ (Yj u (Yj w Z)))⟩<|M Z)<|H f [1] Z<|I h (λb1 h=>J f [.T,7] Z b1<|E h Z U) λb1 h=>J f [.F,14] Z b1<|lq_ h (λst=>⟨[lk_ 1,(3,.I st.1),(4,.I st.2)],[(1,.var (Qa i))]⟩) (λq=>(.ret,⟨[(2,.b false)],[]⟩)) (λq=>(.exit 0,⟨[lk_ 1,(3,.I q)],[(1,.var (Qa i))]⟩)) Z (λ⟨j,i9⟩ o h=>J f [6,.o (.ln i.Colours.length),3] Z Qc<|I h (λx h=>B h λy b3 h=>g3_ f [.T,10,.o (.row (Qt y)),2,.o (.ln y.Names.length),6] Z x (QI b3) Qc<|mV_ h (λb2=>⟨[lk_ 1,(3,.I (Qj (j+(y.Names.length:Int)))),(4,.I i9),(59,.b b2)],[(1,.var (Qa i))]⟩) (λb2 h=>B h λd3 b4 h=>J f [4,.o (.row (Qt d3)),5] Z (QI b4)<|I h (λz h=>L f [.S 56 (.b true),4] Z z<|mq_ h Z) λz h=>L f [.S 56 (.b false),4] Z z<|mq_ h Z) λb2 h=>H f [1] Z<|I h (λD h=>J f [.T,9] Z D<|rR_ h Z) λD h=>J f [.F,8] Z D<|lq_ h (λst=>⟨[lk_ 1,(3,.I (Qj (j+(y.Names.length:Int)))),(4,.I i9),(5,.I st)],[(1,.var (Qa i))]⟩) (λq=>(.ret,⟨[(2,.b false)],[]⟩)) (λq=>(.exit 2,⟨[lk_ 1,(3,.I (Qj (j+(y.Names.length:Int)))),(4,.I i9)],[(1,.var (Qa i))]⟩)) Z (λe3 o h=>B h λb5 b6 h=>K f [7,.o (.row (Qt b5)),2,.o (.ln b5.Names.length),3] Z (QI b6) Qc<|I h (λN h=>B h λd4 b7 h=>B h λd5 b8 h=>g3_ f [.T,9,.o (.row (Qt d4)),3,.o (.row (Ki d5)),5] Z N (QI b7) (QI b8)<|I h (λP h=>J f [.T,8] Z P<|rR_ h Z) λP h=>J f [.F,8] Z P<|rN_ h Z) λN h=>J f [.F,2] Z N<|rX_ h Z) (λ_ h=>H f [3] Z<|rR_ h Z) (λ_ h=>H f [8] Z<|rN_ h Z)) λx h=>J f [.F,2] Z x<|rX_ h Z) (λ_ h=>H f [2] Z<|E h Z U) (λb9 h=>H f [9] Z<|lq_ h (λst=>⟨[lk_ 1,(3,.I st.1),(6,.I st.2)],[(1,.var (Qa i))]⟩) (λq=>(.ret,⟨[(2,.b false)],[]⟩)) (λq=>(.exit 4,⟨[lk_ 1,(3,.I q)],[(1,.var (Qa i))]⟩)) Z (λ⟨c0,e4⟩ o h=>J f [6,.o (.ln i.Places.length),3] Z Qc<|I h (λa0 h=>B h λc1 c2 h=>B h λd6 c3 h=>g4_ f [.T,10,.o (.row (QK c1)),2,.o (.ln c1.First.length),9,.o (.row (QK d6)),6] Z a0 (QI c2) Qc (QI c3)<|I h (λa1 h=>J f [.T,8] Z a1<|rR_ h Z) λa1 h=>J f [.F,8] Z a1<|rN_ h Z) λa0 h=>J f [.F,2] Z a0<|rX_ h Z) (λ_ h=>H f [2] Z<|E h Z U) (λe h=>H f [14] Z<|lq_ h (λst=>⟨[lk_ 1,(3,.I e),(7,.I st.1),(8,.I st.2)],[(1,.var (Qa i))]⟩) (λq=>(.ret,⟨[(2,.b false)],[]⟩)) (λq=>(.exit 6,⟨[(3,.I e)],[]⟩)) Z (λ⟨g,k⟩ o h=>J f [6,.o (.ln i.Tasks.length),3] Z Qc<|I h (λa2 h=>B h λa c4 h=>G f [.T,9,.o (.row (Qk a)),.A (Qk a),2,.O 9 (.var (Qk a)),7,.o (.ln a.Vars.length),3,.o (.ln a.Ins.length),3,.o (.ln a.Outs.length),3,.o (.ln a.Cancel.length),6] Z (a8_ a2 (QI c4) Z Z Qc Qc Qc Qc)<|Y ⟨[lk_ 1,(3,.I e),(7,.I (Qj ((Qj ((Qj ((Qj (g+(a.Vars.length:Int)))+(a.Ins.length:Int)))+(a.Outs.length:Int)))+(a.Cancel.length:Int)))),(8,.I k),lk_ 9,(142,.b ((200<(Qj ((Qj ((Qj ((Qj (g+(a.Vars.length:Int)))+(a.Ins.length:Int)))+(a.Outs.length:Int)))+(a.Cancel.length:Int))))||(100<(a.Name.size:Int))))],[(1,.var (Qa i)),(9,.var (Qk a))]⟩ (H f [4] Z<|bO_ (decide (200<(Qj ((Qj ((Qj ((Qj (g+(a.Vars.length:Int)))+(a.Ins.length:Int)))+(a.Outs.length:Int)))+(a.Cancel.length:Int))))) (λl=>G f [.S 137 (.b true),6,.S 142 (.b ((200<(Qj ((Qj ((Qj ((Qj (g+(a.Vars.length:Int)))+(a.Ins.length:Int)))+(a.Outs.length:Int)))+(a.Cancel.length:Int))))||(100<(a.Name.size:Int))))] Z ⟨(tc_ l),(cb_ (KB l Z))⟩<|M Z) λl=>G f [.S 137 (.b false),6,.S 142 (.b ((200<(Qj ((Qj ((Qj ((Qj (g+(a.Vars.length:Int)))+(a.Ins.length:Int)))+(a.Outs.length:Int)))+(a.Cancel.length:Int))))||(100<(a.Name.size:Int))))] Z ⟨(tc_ l),(cb_ (Yj l Z))⟩<|M Z)<|H f [1] Z<|I h (λa3 h=>J f [.T,9] Z a3<|rR_ h Z) λa3 h=>J f [.F,9] Z a3<|lq_ h (λst=>⟨[lk_ 1,(3,.I e),(7,.I (Qj ((Qj ((Qj ((Qj (g+(a.Vars.length:Int)))+(a.Ins.length:Int)))+(a.Outs.length:Int)))+(a.Cancel.length:Int)))),(8,.I k),lk_ 9,(10,.I st)],[(1,.var (Qa i)),(9,.var (Qk a))]⟩) (λq=>(.ret,⟨[(2,.b false)],[]⟩)) (λq=>(.exit 8,⟨[lk_ 1,(3,.I e),(7,.I (Qj ((Qj ((Qj ((Qj (g+(a.Vars.length:Int)))+(a.Ins.length:Int)))+(a.Outs.length:Int)))+(a.Cancel.length:Int)))),(8,.I k),lk_ 9],[(1,.var (Qa i)),(9,.var (Qk a))]⟩)) Z (λe5 o h=>J f [6,.o (.ln a.Vars.length),3] Z Qc<|I h (λa4 h=>B h λd7 c5 h=>K f [.T,9,.o (.row (QY d7)),6] Z a4 (QI c5)<|I h (λa5 h=>J f [.T,8] Z a5<|rR_ h Z) λa5 h=>J f [.F,8] Z a5<|rN_ h Z) λa4 h=>J f [.F,2] Z a4<|rX_ h Z) (λ_ h=>H f [4] Z<|rR_ h Z) (λ_ h=>B h λd8 c6 h=>K f [5,.A (Qm a.Guard),.o (.C1 (.b d8)),10] Z Z (OU _ _ c6)<|lp_ h (λst=>⟨[lk_ 1,(3,.I e),(7,.I (Qj ((Qj ((Qj ((Qj (g+(a.Vars.length:Int)))+(a.Ins.length:Int)))+(a.Outs.length:Int)))+(a.Cancel.length:Int)))),(8,.I k),lk_ 9,(11,.b st.1),(12,.I st.2)],[(1,.var (Qa i)),(9,.var (Qk a))]⟩) (λq=>(.exit 10,⟨[lk_ 1,(3,.I e),(7,.I (Qj ((Qj ((Qj ((Qj (g+(a.Vars.length:Int)))+(a.Ins.length:Int)))+(a.Outs.length:Int)))+(a.Cancel.length:Int)))),(8,.I k),lk_ 9,(11,.b q)],[(1,.var (Qa i)),(9,.var (Qk a))]⟩)) Z (λ⟨s,d9⟩ o h=>J f [6,.o (.ln a.Ins.length),3] Z Qc<|I h (λa6 h=>B h λc7 c8 h=>B h λa9 c9 h=>g4_ f [.T,9,.o (.row (Xa c7)),1,.A (Qm c7.Expr),.o (.C1 (.b a9)),3] Z a6 (QI c8) Z (OU _ _ c9)<|Y ⟨[lk_ 1,(3,.I e),(7,.I (Qj ((Qj ((Qj ((Qj (g+(a.Vars.length:Int)))+(a.Ins.length:Int)))+(a.Outs.length:Int)))+(a.Cancel.length:Int)))),(8,.I k),lk_ 9,(11,.b (s&&a9)),(12,.I d9)],[(1,.var (Qa i)),(9,.var (Qk a))]⟩ (H f [3] Z<|bO_ s (λm=>G f [.S 176 (.b true),4,.S 11 (.b (s&&a9))] Z ⟨(tc_ m),(cb_ (XL m Z))⟩<|M Z) λm=>G f [.S 176 (.b false),4,.S 11 (.b (s&&a9))] Z ⟨(tc_ m),(cb_ (Yp m Z))⟩<|M Z)<|H f [7] Z<|rN_ h Z) λa6 h=>J f [.F,2] Z a6<|rX_ h Z) λe1 h=>H f [9] Z<|lp_ h (λst=>⟨[lk_ 1,(3,.I e),(7,.I (Qj ((Qj ((Qj ((Qj (g+(a.Vars.length:Int)))+(a.Ins.length:Int)))+(a.Outs.length:Int)))+(a.Cancel.length:Int)))),(8,.I k),lk_ 9,(11,.b st.1),(14,.I st.2)],[(1,.var (Qa i)),(9,.var (Qk a))]⟩) (λq=>(.exit 12,⟨[lk_ 1,(3,.I e),(7,.I (Qj ((Qj ((Qj ((Qj (g+(a.Vars.length:Int)))+(a.Ins.length:Int)))+(a.Outs.length:Int)))+(a.Cancel.length:Int)))),(8,.I k),(11,.b q)],[(1,.var (Qa i))]⟩)) Z (λ⟨t,e0⟩ o h=>J f [6,.o (.ln a.Outs.length),3] Z Qc<|I h (λa7 h=>B h λd0 d1 h=>B h λb0 d2 h=>g4_ f [.T,9,.o (.row (Xa d0)),1,.A (Qm d0.Expr),.o (.C1 (.b b0)),3] Z a7 (QI d1) Z (OU _ _ d2)<|Y ⟨[lk_ 1,(3,.I e),(7,.I (Qj ((Qj ((Qj ((Qj (g+(a.Vars.length:Int)))+(a.Ins.length:Int)))+(a.Outs.length:Int)))+(a.Cancel.length:Int)))),(8,.I k),lk_ 9,(11,.b (t&&b0)),(14,.I e0)],[(1,.var (Qa i)),(9,.var (Qk a))]⟩ (H f [3] Z<|bO_ t (λp=>G f [.S 194 (.b true),4,.S 11 (.b (t&&b0))] Z ⟨(tc_ p),(cb_ (XL p Z))⟩<|M Z) λp=>G f [.S 194 (.b false),4,.S 11 (.b (t&&b0))] Z ⟨(tc_ p),(cb_ (Yp p Z))⟩<|M Z)<|H f [7] Z<|rN_ h Z) λa7 h=>J f [.F,2] Z a7<|rX_ h Z) λe2 h=>H f [8] Z<|I h (λa8 h=>J f [.T,8] Z a8<|rR_ h Z) λa8 h=>J f [.F,8] Z a8<|rN_ h Z)) λa2 h=>J f [.F,2] Z a2<|rX_ h Z) (λ_ h=>H f [2] Z<|E h Z U) (λ_ h=>H f [10] Z<|E h Z U)))
def OY (c:QMk)(d:Int)(a:Int):O_ ((Int×Int)⊕Int):=bif ((a<(c.length:Int))&&(a<100))then (idx c a).bind λb=>some (.inl ((Qj (d+(b.length:Int))),(Qj (a+1))))else some (.inr d)
def Qia (a:QMk)(b:Int):O_ Bool:=some (((a.length:Int)<=70)&&(b<=300))
def Pu (a:QMk):O_ Bool:=(Qs (λst=>OY a st.1 st.2) (0,0)).bind (λq=>Qia a q)
def Qib (c):CT 51 [.sl 1 (c.map Qe)] [] (Pu c) V.b no_:=
 W 29 func51 Z λC d r h=>H d [17] Z<|lp_ h (λst=>⟨[(0,.sl 1 (c.map Qe)),(3,.I st.1),(4,.I st.2)],[]⟩) (λq=>(.exit 0,⟨[(0,.sl 1 (c.map Qe)),(3,.I q)],[]⟩)) Z (λ⟨l,g⟩ o h=>H d [2] Z<|Y ⟨[(0,.sl 1 (c.map Qe)),(3,.I l),(4,.I g),(12,.b ((g<(c.length:Int))&&(g<100)))],[]⟩ (J d [3,.o (.ln c.length),2] Z Qc<|bO_ (decide (g<(c.length:Int))) (λe=>G d [.S 9 (.b true),4,.S 12 (.b ((g<(c.length:Int))&&(g<100)))] Z ⟨(tc_ e),(cb_ (XL e Z))⟩<|M Z) λe=>G d [.S 9 (.b false),4,.S 12 (.b ((g<(c.length:Int))&&(g<100)))] Z ⟨(tc_ e),(cb_ (Yp e Z))⟩<|M Z)<|H d [1] Z<|I h (λf h=>B h λi j h=>g3_ d [.T,8,.o (.row (Qe i)),1,.o (.ln i.length),10] Z f (QI j) Qc<|rN_ h Z) λf h=>J d [.F,2] Z f<|rX_ h Z) λk h=>H d [3] Z<|Y ⟨[(2,.b (((c.length:Int)<=70)&&(k<=300)))],[]⟩ (J d [2,.o (.ln c.length),2] Z Qc<|bO_ (decide ((c.length:Int)<=70)) (λa=>G d [.S 25 (.b true),5,.S 2 (.b (((c.length:Int)<=70)&&(k<=300)))] Z ⟨(tc_ a),(cb_ (XL a Z))⟩<|M Z) λa=>G d [.S 25 (.b false),5,.S 2 (.b (((c.length:Int)<=70)&&(k<=300)))] Z ⟨(tc_ a),(cb_ (Yp a Z))⟩<|M Z)<|H d [2] Z<|E h Z U
def Fd (a:Qn):O_ Bool:=some (((a.Places.length:Int)<=64)&&((a.Tasks.length:Int)<=64))
def Qe1 (a):CT 99 [.L 617] [(617,.var (Qa a))] (Fd a) V.b (λ_=>[(617,.var (Qa a))]):=
 W 12 func99 Z λC d r h=>H d [6] Z<|Y ⟨[(1,.b (((a.Places.length:Int)<=64)&&((a.Tasks.length:Int)<=64)))],[(617,.var (Qa a))]⟩ (J d [3,.o (.ln a.Places.length),2] Z Qc<|bO_ (decide ((a.Places.length:Int)<=64)) (λc=>G d [.S 6 (.b true),2,.o (.ln a.Tasks.length),4,.S 1 (.b (((a.Places.length:Int)<=64)&&((a.Tasks.length:Int)<=64)))] Z ⟨⟨(tc_ c),Qc⟩,(cb_ (XL c Z))⟩<|M Z) λc=>G d [.S 6 (.b false),7,.S 1 (.b (((a.Places.length:Int)<=64)&&((a.Tasks.length:Int)<=64)))] Z ⟨(tc_ c),(cb_ (Yp c Z))⟩<|M Z)<|H d [2] Z<|E h Z r1_

end Go.Proofs
