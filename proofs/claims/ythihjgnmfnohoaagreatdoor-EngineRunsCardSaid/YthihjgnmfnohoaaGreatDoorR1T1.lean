/- Walks through the program. -/
import Derived.Test.YthihjgnmfnohoaaGreatDoorR1V3
import Derived.Test.YthihjgnmfnohoaaGreatDoorR1V3
import Derived.Test.YthihjgnmfnohoaaGreatDoorR1V3
import Derived.Test.YthihjgnmfnohoaaGreatDoorProg
set_option linter.all false
set_option maxRecDepth 100000
set_option maxHeartbeats 4000000
noncomputable section
namespace Go.Proofs
open Go Go.RowKit Go.Vm Go.Proofs.Tryz
structure QR where
 Name:ByteArray
 Kind:Int
 Lo:Int
 Hi:Int
 Names:(List ByteArray)
 First:Int
 Then:Int
structure XR where
 Name:ByteArray
 Colour:Int
 First:(List (Int×Int))
structure Je where
 Name:ByteArray
 Colour:Int
structure Qn where
 Kind:Int
 Num:Int
 Kids:(List Qn)
structure Jf where
 Place:Int
 Expr:Qn
structure QW where
 Name:ByteArray
 Vars:(List Je)
 Guard:Qn
 Join:Int
 Split:Int
 Ins:(List Jf)
 Outs:(List Jf)
 Cancel:(List Int)
 After:Int
 Many:(Int×Int×Int)
structure Qh where
 Colours:(List QR)
 Places:(List XR)
 Tasks:(List QW)
 From:Int
 To:Int
structure Qo where
 Task:Int
 Vars:(List Int)
 Ins:(List Int)
 Outs:(List Int)
structure Xh where
 Do:Int
 Id:Int
 Mode:Qo
 Num:Int
structure QZ where
 Most:Int
 Enough:Int
 Open:Int
 Done:Int
 Failed:Int
structure Qg where
 Id:Int
 Mode:Qo
 Batch:QZ
 Until:Int
structure Qz where
 M:(List (List (Int×Int)))
 Items:(List Qg)
 Next:Int
 Now:Int
structure Qu where
 Err:Int
 Id:Int
 Closed:(List Int)
structure QK where
 net:Qh
 now:Qz
 call:Xh
structure Ji where
 all:(List QR)
 sizes:(List Int)
 k:Int
structure Xm where
 net:Qh
 m:(List (List (Int×Int)))
 task:QW
 env:(List Int)
structure Qe where
 id:Int
 at_:Int
 place:Int
structure TT where
 Kind:Int
 At:Int
structure QI where
 L:(List (Int×Int))
def Hm (x:ByteArray):L_ V:=[.s x]
def Qb (x:Int):L_ V:=[.i .i64 x]
def QrD (l:L_ Int):∀r∈l.map Qb,∀v∈r,v.sca=true:=QtX (λ_=>rfl) l
def QrE (x:(L_ ByteArray)):L_ V:=[.sl 1 (x.map Hm)]
def XI (x:QR):L_ V:=[.s x.Name,.i .i64 x.Kind,.i .i64 x.Lo,.i .i64 x.Hi,.sl 1 (x.Names.map Hm),.i .i64 x.First,.i .i64 x.Then]
def QfN (x:(L_ QR)):L_ V:=[.sl 7 (x.map XI)]
def Qy (x:(Int×Int)):L_ V:=[.i .i64 x.1,.i .i64 x.2]
def Ql (x:(L_ (Int×Int))):L_ V:=[.sl 2 (x.map Qy)]
def Xk (x:XR):L_ V:=[.s x.Name,.i .i64 x.Colour,.sl 2 (x.First.map Qy)]
def QhY (x:(L_ XR)):L_ V:=[.sl 3 (x.map Xk)]
def Yz (x:Je):L_ V:=[.s x.Name,.i .i64 x.Colour]
def Aq (x:(L_ Je)):L_ V:=[.sl 2 (x.map Yz)]
mutual
def Qec : Qn->L_ V
 | ⟨h,O,x2⟩=>[.i .i64 h,.i .i64 O,.sl 3 (Wc x2)]
def Wc : L_ Qn->L_ (L_ V)
 | []=>[]
 | e::es=>Qec e::Wc es
end
def QS (x:Qn):L_ V:=[.i .i64 x.Kind,.i .i64 x.Num,.sl 3 (Wc x.Kids)]
def Qnw : ∀x:Qn,Qec x=QS x
 | ⟨h,O,x2⟩=>by rw[Qec];rfl
def MF : ∀l:L_ Qn,Wc l=l.map QS
 | []=>by rw[Wc];rfl
 | e::es=>by rw[Wc,MF es,Qnw];rfl
def Ab (l:L_ Qn):(Wc l).length=l.length:=by rw[MF,EA]
def JL {l:L_ Qn}{j:Int}{x:Qn}(h:idx l j=some x):0<=j/\(Wc l)[j.toNat]? = some (QS x):=by rw[MF];exact Xw h
def Kj (x:Jf):L_ V:=[.i .i64 x.Place,.i .i64 x.Expr.Kind,.i .i64 x.Expr.Num,.sl 3 (Wc x.Expr.Kids)]
def Qm6 (x:(L_ Jf)):L_ V:=[.sl 4 (x.map Kj)]
def XA (x:(L_ Int)):L_ V:=[.sl 1 (x.map Qb)]
def ZT (x:(Int×Int×Int)):L_ V:=[.i .i64 x.1,.i .i64 x.2.1,.i .i64 x.2.2]
def QC (x:QW):L_ V:=[.s x.Name,.sl 2 (x.Vars.map Yz),.i .i64 x.Guard.Kind,.i .i64 x.Guard.Num,.sl 3 (Wc x.Guard.Kids),.i .i64 x.Join,.i .i64 x.Split,.sl 4 (x.Ins.map Kj),.sl 4 (x.Outs.map Kj),.sl 1 (x.Cancel.map Qb),.i .i64 x.After,.i .i64 x.Many.1,.i .i64 x.Many.2.1,.i .i64 x.Many.2.2]
def Qj7 (x:(L_ QW)):L_ V:=[.sl 14 (x.map QC)]
def Qf (x:Qh):L_ V:=[.sl 7 (x.Colours.map XI),.sl 3 (x.Places.map Xk),.sl 14 (x.Tasks.map QC),.i .i64 x.From,.i .i64 x.To]
def QE (x:Qo):L_ V:=[.i .i64 x.Task,.sl 1 (x.Vars.map Qb),.sl 1 (x.Ins.map Qb),.sl 1 (x.Outs.map Qb)]
def YF (x:Xh):L_ V:=[.i .i64 x.Do,.i .i64 x.Id,.i .i64 x.Mode.Task,.sl 1 (x.Mode.Vars.map Qb),.sl 1 (x.Mode.Ins.map Qb),.sl 1 (x.Mode.Outs.map Qb),.i .i64 x.Num]
def GJ (x:(L_ (L_ (Int×Int)))):L_ V:=[.sl 1 (x.map Ql)]
def XK (x:QZ):L_ V:=[.i .i64 x.Most,.i .i64 x.Enough,.i .i64 x.Open,.i .i64 x.Done,.i .i64 x.Failed]
def Qp (x:Qg):L_ V:=[.i .i64 x.Id,.i .i64 x.Mode.Task,.sl 1 (x.Mode.Vars.map Qb),.sl 1 (x.Mode.Ins.map Qb),.sl 1 (x.Mode.Outs.map Qb),.i .i64 x.Batch.Most,.i .i64 x.Batch.Enough,.i .i64 x.Batch.Open,.i .i64 x.Batch.Done,.i .i64 x.Batch.Failed,.i .i64 x.Until]
def Xv (x:Qz):L_ V:=[.sl 1 (x.M.map Ql),.sl 11 (x.Items.map Qp),.i .i64 x.Next,.i .i64 x.Now]
def QF (x:Qu):L_ V:=[.i .i64 x.Err,.i .i64 x.Id,.sl 1 (x.Closed.map Qb)]
def QT (x:QK):L_ V:=[.sl 7 (x.net.Colours.map XI),.sl 3 (x.net.Places.map Xk),.sl 14 (x.net.Tasks.map QC),.i .i64 x.net.From,.i .i64 x.net.To,.sl 1 (x.now.M.map Ql),.sl 11 (x.now.Items.map Qp),.i .i64 x.now.Next,.i .i64 x.now.Now,.i .i64 x.call.Do,.i .i64 x.call.Id,.i .i64 x.call.Mode.Task,.sl 1 (x.call.Mode.Vars.map Qb),.sl 1 (x.call.Mode.Ins.map Qb),.sl 1 (x.call.Mode.Outs.map Qb),.i .i64 x.call.Num]
def Lj (x:Ji):L_ V:=[.sl 7 (x.all.map XI),.sl 1 (x.sizes.map Qb),.i .i64 x.k]
def Jv (x:Xm):L_ V:=[.sl 7 (x.net.Colours.map XI),.sl 3 (x.net.Places.map Xk),.sl 14 (x.net.Tasks.map QC),.i .i64 x.net.From,.i .i64 x.net.To,.sl 1 (x.m.map Ql),.s x.task.Name,.sl 2 (x.task.Vars.map Yz),.i .i64 x.task.Guard.Kind,.i .i64 x.task.Guard.Num,.sl 3 (Wc x.task.Guard.Kids),.i .i64 x.task.Join,.i .i64 x.task.Split,.sl 4 (x.task.Ins.map Kj),.sl 4 (x.task.Outs.map Kj),.sl 1 (x.task.Cancel.map Qb),.i .i64 x.task.After,.i .i64 x.task.Many.1,.i .i64 x.task.Many.2.1,.i .i64 x.task.Many.2.2,.sl 1 (x.env.map Qb)]
def Qs (x:Qe):L_ V:=[.i .i64 x.id,.i .i64 x.at_,.i .i64 x.place]
def JU (x:(L_ (L_ Int))):L_ V:=[.sl 1 (x.map XA)]
def QqD (x:(L_ Qo)):L_ V:=[.sl 4 (x.map QE)]
def QrF (x:TT):L_ V:=[.i .i64 x.Kind,.i .i64 x.At]
def XD (x:QI):L_ V:=[.sl 2 (x.L.map Qy)]
def WZ (fn:Nat):CO:=QuP Tryz.f103 0 fn
def AO (fn:Nat):CO:=QuP Tryz.f270 0 fn
def QqE (a0 h O b0 b1 b2:Int):EqT prog 64 [.int .i64 a0,.int .i64 h,.int .i64 O] [.int .i64 b0,.int .i64 b1,.int .i64 b2] ((a0==b0)&&((h==b1)&&(O==b2))):=by
 refine⟨by kernel_rfl,λw=>?_⟩;have u3:=underlying3;have g3:=isAgg3;have z3:=sizeOf3;show(Op.equalIn (9999+1) 64 (.agg #[.int .i64 a0,.int .i64 h,.int .i64 O]) (.agg #[.int .i64 b0,.int .i64 b1,.int .i64 b2])).run prog w=_;rw[Op.equalIn];simp only[Xd,run_underlying underlying64,Xf];simp only[Std.Legacy.Range.forIn_eq_forIn_range',Std.Legacy.Range.size,Nat.sub_zero,Nat.add_sub_cancel,Nat.div_one,List.range'_succ,List.range'_zero,List.forIn_cons,List.forIn_nil]
 go_simp
 by_cases h0:a0=b0<;>by_cases h1:h=b1<;>by_cases h2:O=b2<;>simp[h0,h1,h2]
def QtB (a0 h O b1:Int):EqT prog 86 [.int .i64 a0,.int .i64 h] [.int .i64 O,.int .i64 b1] ((a0==O)&&(h==b1)):=by
 refine⟨by kernel_rfl,λw=>?_⟩;have u3:=underlying3;have g3:=isAgg3;have z3:=sizeOf3;show(Op.equalIn (9999+1) 86 (.agg #[.int .i64 a0,.int .i64 h]) (.agg #[.int .i64 O,.int .i64 b1])).run prog w=_;rw[Op.equalIn];simp only[Xd,run_underlying underlying86,Xf];simp only[Std.Legacy.Range.forIn_eq_forIn_range',Std.Legacy.Range.size,Nat.sub_zero,Nat.add_sub_cancel,Nat.div_one,List.range'_succ,List.range'_zero,List.forIn_cons,List.forIn_nil]
 go_simp
 by_cases h0:a0=O<;>by_cases h1:h=b1<;>simp[h0,h1]
def QvJ (a0 h O a3 a4 b0 b1 b2 b3 b4:Int):EqT prog 91 [.int .i64 a0,.int .i64 h,.int .i64 O,.int .i64 a3,.int .i64 a4] [.int .i64 b0,.int .i64 b1,.int .i64 b2,.int .i64 b3,.int .i64 b4] ((a0==b0)&&((h==b1)&&((O==b2)&&((a3==b3)&&(a4==b4))))):=by
 refine⟨by kernel_rfl,λw=>?_⟩;have u3:=underlying3;have g3:=isAgg3;have z3:=sizeOf3;have hS:prog.underlying 91=some (.struct (prog.fieldsOf 91)):=by kernel_rfl
 have hp:prog.stoodInHeld 91=false:=by kernel_rfl
 show(Op.equalIn (9999+1) 91 (.agg #[.int .i64 a0,.int .i64 h,.int .i64 O,.int .i64 a3,.int .i64 a4]) (.agg #[.int .i64 b0,.int .i64 b1,.int .i64 b2,.int .i64 b3,.int .i64 b4])).run prog w=_;rw[run_equalIn_agg w 9999 91 _ _ hS hp];simp only[Program.fieldsOf,underlying91]
 go_simp
 by_cases h0:a0=b0<;>by_cases h1:h=b1<;>by_cases h2:O=b2<;>by_cases h3:a3=b3<;>by_cases h4:a4=b4<;>simp[h0,h1,h2,h3,h4]
def Qt4 : QfL prog 74 1=some (1,false,1):=by kernel_rfl
def Qt5 : QfL prog 74 2=some (2,false,1):=by kernel_rfl
def QsZ : Go.Shelf.Ren:=⟨λ| 157=>318 | 199=>342 | 229=>341 | 261=>350 | 311=>353 | 312=>354 | n=>n,λ| 0=>0 | 3=>3 | 4=>4 | 5=>5 | 9=>9 | 21=>21 | 31=>72 | 40=>336 | 46=>265 | 49=>351 | 51=>309 | 119=>334 | 141=>345 | 152=>341 | 154=>343 | 193=>347 | 194=>348 | 196=>350 | 198=>353 | 201=>356 | 226=>362 | 227=>363 | n=>n,λ| 0=>0 | 6=>1 | n=>n⟩
def QrG : Lays.n157 prog QsZ where
 mixed:=by kernel_rfl
 f157:=func318.trans (congrArg some (by kernel_rfl))
 f199:=func342.trans (congrArg some (by kernel_rfl))
 f229:=func341.trans (congrArg some (by kernel_rfl))
 f261:=func350.trans (congrArg some (by kernel_rfl))
 f311:=func353.trans (congrArg some (by kernel_rfl))
 f312:=func354.trans (congrArg some (by kernel_rfl))
 t0:=underlying0
 a0:=isAgg0
 z0:=sizeOf0
 v0:=zeroValue0
 t3:=underlying3
 a3:=isAgg3
 z3:=sizeOf3
 v3:=zeroValue3
 t4:=underlying4
 a4:=isAgg4
 z4:=sizeOf4
 v4:=zeroValue4
 t5:=underlying5
 a5:=isAgg5
 z5:=sizeOf5
 v5:=zeroValue5
 t9:=underlying9
 a9:=isAgg9
 z9:=sizeOf9
 v9:=zeroValue9
 t21:=underlying21
 a21:=isAgg21
 z21:=sizeOf21
 v21:=zeroValue21
 t31:=underlying72
 a31:=isAgg72
 z31:=sizeOf72
 v31:=zeroValue72
 t40:=underlying336
 a40:=isAgg336
 z40:=sizeOf336
 v40:=zeroValue336
 t46:=underlying265
 a46:=isAgg265
 z46:=sizeOf265
 v46:=zeroValue265
 t49:=underlying351
 a49:=isAgg351
 z49:=sizeOf351
 v49:=zeroValue351
 t51:=underlying309
 a51:=isAgg309
 z51:=sizeOf309
 v51:=zeroValue309
 t119:=underlying334
 a119:=isAgg334
 z119:=sizeOf334
 t141:=underlying345
 a141:=isAgg345
 z141:=sizeOf345
 v141:=zeroValue345
 t152:=underlying341
 a152:=isAgg341
 z152:=sizeOf341
 v152:=zeroValue341
 t154:=underlying343
 a154:=isAgg343
 z154:=sizeOf343
 v154:=zeroValue343
 t193:=underlying347
 a193:=isAgg347
 z193:=sizeOf347
 v193:=zeroValue347
 t194:=underlying348
 a194:=isAgg348
 z194:=sizeOf348
 v194:=zeroValue348
 t196:=underlying350
 a196:=isAgg350
 z196:=sizeOf350
 v196:=zeroValue350
 t198:=underlying353
 a198:=isAgg353
 z198:=sizeOf353
 v198:=zeroValue353
 t201:=underlying356
 a201:=isAgg356
 z201:=sizeOf356
 v201:=zeroValue356
 t226:=underlying362
 a226:=isAgg362
 z226:=sizeOf362
 v226:=zeroValue362
 t227:=underlying363
 a227:=isAgg363
 z227:=sizeOf363
 v227:=zeroValue363
 g0:=by kernel_rfl
 g6:=by kernel_rfl
def QfO : Qj6 prog 108=true:=by kernel_rfl
def QqF : Go.Shelf.Ren:=⟨λ| 22=>233 | 29=>284 | 30=>285 | n=>n,λ| 24=>31 | 9=>93 | n=>n,λn=>n⟩
def QpG : QfM prog QqF "slices.Insert[[]baldric/api.Item,baldric/api.Item]" "slices.overlaps[baldric/api.Item]" 93 11 136 (.agg #[.int .i64 0,.int .i64 0,.slice none 0 0,.slice none 0 0,.slice none 0 0,.int .i64 0,.int .i64 0,.int .i64 0,.int .i64 0,.int .i64 0,.int .i64 0]) where
 mixed:=by kernel_rfl
 f22:=func233.trans (congrArg some (by kernel_rfl))
 f29:=func284.trans (congrArg some (by kernel_rfl))
 nm:=by kernel_rfl
 nx:=by kernel_rfl
 fd:=by kernel_rfl
 t0:=underlying0
 t3:=underlying3
 t4:=underlying4
 t24:=underlying31
 zE:=sizeOf93
 iE:=by kernel_rfl
 zc:=by kernel_rfl
 z0:=by decide
 small:=by decide
def QoJ : QlW prog 3 .i64=true:=by kernel_rfl
def QfP : QlW prog 311 .u64=true:=by kernel_rfl
def Ac : UZ prog 3 (V.i .i64) (Value.int .i64):=UZ.int (by kernel_rfl)
def QqG : UZ prog 9 V.s Value.string:=UZ.str (by kernel_rfl)
def QqH : (Bo prog 286 "Pop" = some (382,true)∧Qic prog 286=true)∨(Bo prog 286 "Pop" = some (382,false)∧Qaj prog 286=true):=.inl ⟨by kernel_rfl,by kernel_rfl⟩
def QpH : (Bo prog 286 "Push" = some (383,true)∧Qic prog 286=true)∨(Bo prog 286 "Push" = some (383,false)∧Qaj prog 286=true):=.inl ⟨by kernel_rfl,by kernel_rfl⟩
def mixed : prog.follows .mixedOrders=true:=by kernel_rfl
def QoK : OQ prog 115=some (3,3):=by kernel_rfl
def EL : OQ prog 119=some (3,3):=by kernel_rfl
def QrH : OQ prog 248=some (3,4):=by kernel_rfl
def Qj8 : OQ prog 260=some (9,4):=by kernel_rfl
def QoL : OQ prog 276=some (3,281):=by kernel_rfl
def Qj9 : Bo prog 286 "Len" = some (379,false)∧QbL prog 286 278=true∧UD prog 278=some false:=⟨by kernel_rfl,by kernel_rfl,by kernel_rfl⟩
def QcK : Bo prog 286 "Less" = some (380,false)∧QbL prog 286 278=true∧UD prog 278=some false:=⟨by kernel_rfl,by kernel_rfl,by kernel_rfl⟩
def QcL : Bo prog 286 "Swap" = some (381,false)∧QbL prog 286 278=true∧UD prog 278=some false:=⟨by kernel_rfl,by kernel_rfl,by kernel_rfl⟩
def Qs0 : Go.Shelf.Ren:=⟨λ| 125=>272 | 128=>315 | 129=>316 | 189=>198 | 215=>340 | 216=>312 | 257=>271 | 294=>306 | 295=>307 | 296=>308 | 297=>309 | 298=>310 | 299=>311 | 300=>313 | 301=>314 | 328=>335 | 329=>336 | 330=>337 | 331=>338 | 332=>339 | 343=>349 | n=>n,λ| 0=>0 | 3=>3 | 4=>4 | 5=>5 | 9=>9 | 28=>44 | 46=>265 | 51=>309 | 53=>311 | 131=>117 | 182=>301 | 183=>302 | 218=>328 | 222=>332 | 228=>338 | 229=>339 | n=>n,λn=>n⟩
def QrI : Lays.n189 prog Qs0 where
 mixed:=by kernel_rfl
 f125:=func272.trans (congrArg some (by kernel_rfl))
 f128:=func315.trans (congrArg some (by kernel_rfl))
 f129:=func316.trans (congrArg some (by kernel_rfl))
 f189:=func198.trans (congrArg some (by kernel_rfl))
 f215:=func340.trans (congrArg some (by kernel_rfl))
 f216:=func312.trans (congrArg some (by kernel_rfl))
 f257:=func271.trans (congrArg some (by kernel_rfl))
 f294:=func306.trans (congrArg some (by kernel_rfl))
 f295:=func307.trans (congrArg some (by kernel_rfl))
 f296:=func308.trans (congrArg some (by kernel_rfl))
 f297:=func309.trans (congrArg some (by kernel_rfl))
 f298:=func310.trans (congrArg some (by kernel_rfl))
 f299:=func311.trans (congrArg some (by kernel_rfl))
 f300:=func313.trans (congrArg some (by kernel_rfl))
 f301:=func314.trans (congrArg some (by kernel_rfl))
 f328:=func335.trans (congrArg some (by kernel_rfl))
 f329:=func336.trans (congrArg some (by kernel_rfl))
 f330:=func337.trans (congrArg some (by kernel_rfl))
 f331:=func338.trans (congrArg some (by kernel_rfl))
 f332:=func339.trans (congrArg some (by kernel_rfl))
 f343:=func349.trans (congrArg some (by kernel_rfl))
 t0:=underlying0
 a0:=isAgg0
 z0:=sizeOf0
 v0:=zeroValue0
 t3:=underlying3
 a3:=isAgg3
 z3:=sizeOf3
 v3:=zeroValue3
 t4:=underlying4
 a4:=isAgg4
 z4:=sizeOf4
 v4:=zeroValue4
 t5:=underlying5
 a5:=isAgg5
 z5:=sizeOf5
 v5:=zeroValue5
 t9:=underlying9
 a9:=isAgg9
 z9:=sizeOf9
 v9:=zeroValue9
 t28:=underlying44
 a28:=isAgg44
 z28:=sizeOf44
 v28:=zeroValue44
 t46:=underlying265
 a46:=isAgg265
 z46:=sizeOf265
 v46:=zeroValue265
 t51:=underlying309
 a51:=isAgg309
 z51:=sizeOf309
 v51:=zeroValue309
 t53:=underlying311
 a53:=isAgg311
 z53:=sizeOf311
 v53:=zeroValue311
 t131:=underlying117
 a131:=isAgg117
 z131:=sizeOf117
 v131:=zeroValue117
 t182:=underlying301
 a182:=isAgg301
 z182:=sizeOf301
 v182:=zeroValue301
 t183:=underlying302
 a183:=isAgg302
 z183:=sizeOf302
 v183:=zeroValue302
 t218:=underlying328
 a218:=isAgg328
 z218:=sizeOf328
 v218:=zeroValue328
 t222:=underlying332
 a222:=isAgg332
 z222:=sizeOf332
 v222:=zeroValue332
 t228:=underlying338
 a228:=isAgg338
 z228:=sizeOf338
 v228:=zeroValue338
 t229:=underlying339
 a229:=isAgg339
 z229:=sizeOf339
 v229:=zeroValue339
def QuV : prog.underlying 212=some (.slice 44):=by kernel_rfl
def QvK : prog.underlying 30=some (.slice 76):=by kernel_rfl
def QvL : prog.underlying 31=some (.slice 93):=by kernel_rfl
def QvM : prog.underlying 44=some (.slice 3):=by kernel_rfl
def QvN : prog.underlying 76=some (.slice 86):=by kernel_rfl
def QuW : prog.underlying 281=some (.pointer 284):=by kernel_rfl
def QuX : HV prog 281 (.lit (.pointer none)):=HV.one (v:=.pointer none) (by kernel_rfl)
def Qed : HV prog 3 ((V.i .i64) 0):=HV.one (v:=.int .i64 0) (by kernel_rfl)
def Qs1 : HV prog 4 (V.b false):=HV.one (v:=.bool false) (by kernel_rfl)
def Qwq : XZ prog 3=some [.i .i64 0]:=by kernel_rfl
def Qwr : XZ prog 9=some [.s (⟨#[]⟩:ByteArray)]:=by kernel_rfl
def QvO : XZ prog 26=some [.Y,.Y,.Y,.i .i64 0,.i .i64 0]:=by kernel_rfl
def QvP : XZ prog 33=some [.Y,.Y,.i .i64 0,.i .i64 0]:=by kernel_rfl
def QtC : XZ prog 44=some [.Y]:=by kernel_rfl
def QvQ : XZ prog 46=some [.i .i64 0,.Y,.Y,.Y]:=by kernel_rfl
def QvR : XZ prog 48=some [.i .i64 0,.i .i64 0,.i .i64 0,.Y,.Y,.Y,.i .i64 0]:=by kernel_rfl
def QvS : XZ prog 49=some [.i .i64 0]:=by kernel_rfl
def QvT : XZ prog 51=some [.i .i64 0,.i .i64 0,.Y]:=by kernel_rfl
def QvU : XZ prog 54=some [.Y]:=by kernel_rfl
def QvV : XZ prog 62=some [.i .i64 0,.i .i64 0,.Y]:=by kernel_rfl
def QvW : XZ prog 64=some [.i .i64 0,.i .i64 0,.i .i64 0]:=by kernel_rfl
def QvX : XZ prog 66=some [.s (⟨#[]⟩:ByteArray),.Y,.i .i64 0,.i .i64 0,.Y,.i .i64 0,.i .i64 0,.Y,.Y,.Y,.i .i64 0,.i .i64 0,.i .i64 0,.i .i64 0]:=by kernel_rfl
def QvY : XZ prog 74=some [.s (⟨#[]⟩:ByteArray),.i .i64 0,.i .i64 0,.i .i64 0,.Y,.i .i64 0,.i .i64 0]:=by kernel_rfl
def QvZ : XZ prog 76=some [.Y]:=by kernel_rfl
def Qv0 : XZ prog 78=some [.s (⟨#[]⟩:ByteArray),.i .i64 0,.Y]:=by kernel_rfl
def Qv1 : XZ prog 80=some [.i .i64 0,.i .i64 0,.i .i64 0,.Y]:=by kernel_rfl
def Qv2 : XZ prog 86=some [.i .i64 0,.i .i64 0]:=by kernel_rfl
def Qv3 : XZ prog 91=some [.i .i64 0,.i .i64 0,.i .i64 0,.i .i64 0,.i .i64 0]:=by kernel_rfl
def Qv4 : XZ prog 93=some [.i .i64 0,.i .i64 0,.Y,.Y,.Y,.i .i64 0,.i .i64 0,.i .i64 0,.i .i64 0,.i .i64 0,.i .i64 0]:=by kernel_rfl
def Qv5 : XZ prog 97=some [.i .i64 0,.i .i64 0]:=by kernel_rfl
def QuY : XZ prog 107=some [.Y,.Y,.Y,.i .i64 0,.i .i64 0,.Y,.Y,.i .i64 0,.i .i64 0,.i .i64 0,.i .i64 0,.i .i64 0,.Y,.Y,.Y,.i .i64 0]:=by kernel_rfl
def QuZ : XZ prog 124=some [.s (⟨#[]⟩:ByteArray),.i .i64 0]:=by kernel_rfl
def Vl : XZ prog 128=some [.lit (.nilFunc),.i .i64 0]:=by kernel_rfl
def Qu0 : XZ prog 171=some [.lit (.nilFunc)]:=by kernel_rfl
def Qu1 : XZ prog 176=some [.lit (.nilFunc)]:=by kernel_rfl
def Qu2 : XZ prog 186=some [.Y,.Y,.i .i64 0]:=by kernel_rfl
def Qu3 : XZ prog 212=some [.Y]:=by kernel_rfl
def Qu4 : XZ prog 218=some [.Y,.Y,.Y,.i .i64 0,.i .i64 0,.Y,.s (⟨#[]⟩:ByteArray),.Y,.i .i64 0,.i .i64 0,.Y,.i .i64 0,.i .i64 0,.Y,.Y,.Y,.i .i64 0,.i .i64 0,.i .i64 0,.i .i64 0,.Y]:=by kernel_rfl
def Qu5 : XZ prog 235=some [.lit (.nilFunc)]:=by kernel_rfl
def Qu6 : XZ prog 255=some [.Y]:=by kernel_rfl
def Qu7 : XZ prog 280=some [.Y,.lit (.map none)]:=by kernel_rfl
def Qu8 : XZ prog 281=some [.lit (.pointer none)]:=by kernel_rfl
def Qu9 : XZ prog 284=some [.i .i64 0,.i .i64 0,.i .i64 0]:=by kernel_rfl
def EM : Uh:={ ag:=[(3,false),(9,false),(22,false),(23,false),(24,false),(26,true),(28,false),(30,false),(31,false),(33,true),(44,false),(46,true),(48,true),(49,false),(51,true),(54,false),(59,false),(60,false),(62,true),(63,false),(64,true),(66,true),(72,false),(74,true),(75,false),(76,false),(78,true),(80,true),(86,true),(91,true),(93,true),(97,true),(119,false),(124,true),(128,true),(171,false),(176,false),(179,false),(181,false),(186,true),(212,false),(218,true),(235,false),(276,false),(278,false),(281,false)],sz:=[(3,1),(26,5),(30,1),(31,1),(33,4),(44,1),(46,4),(48,7),(49,1),(51,3),(54,1),(62,3),(64,3),(66,14),(74,7),(75,1),(76,1),(78,3),(80,4),(86,2),(91,5),(93,11),(97,2),(124,2),(128,2),(171,1),(176,1),(186,3),(212,1),(218,21),(235,1),(278,1),(281,1)],fo:=[(26,[0,1,2,3,4]),(33,[0,1,2,3]),(46,[0,1,2,3]),(48,[0,1,2,6]),(51,[0,1,2]),(62,[0,1,2]),(66,[0,1,2,5,6,7,8,9,10,11]),(74,[0,1,2,3,4,5,6]),(78,[0,1,2]),(80,[0,1]),(91,[0,1,2,3,4]),(93,[0,1,5,10]),(107,[0,5,9]),(124,[0,1]),(128,[0,1]),(186,[0,1,2]),(218,[0,5,6,20]),(255,[0]),(280,[0,1]),(284,[0,1,2])],sp:=[(26,[(0,1),(1,1),(2,1),(3,1),(4,1)]),(33,[(0,1),(1,1),(2,1),(3,1)]),(46,[(0,1),(1,1),(2,1),(3,1)]),(48,[(0,1),(1,1),(2,4),(6,1)]),(51,[(0,1),(1,1),(2,1)]),(62,[(0,1),(1,1),(2,1)]),(66,[(0,1),(1,1),(2,3),(5,1),(6,1),(7,1),(8,1),(9,1),(10,1),(11,3)]),(74,[(0,1),(1,1),(2,1),(3,1),(4,1),(5,1),(6,1)]),(78,[(0,1),(1,1),(2,1)]),(80,[(0,1),(1,3)]),(91,[(0,1),(1,1),(2,1),(3,1),(4,1)]),(93,[(0,1),(1,4),(5,5),(10,1)]),(97,[(0,1),(1,1)]),(107,[(0,5),(5,4),(9,7)]),(128,[(0,1),(1,1)]),(186,[(0,1),(1,1),(2,1)]),(218,[(0,5),(5,1),(6,14),(20,1)]),(255,[(0,1)]),(280,[(0,1),(1,1)]),(284,[(0,1),(1,1),(2,1)])],es:=[(22,(74,7,80)),(23,(78,3,48)),(24,(66,14,200)),(27,(48,7,104)),(30,(76,1,24)),(31,(93,11,136)),(37,(51,3,40)),(44,(3,1,8)),(54,(46,4,80)),(59,(124,2,24)),(60,(62,3,40)),(63,(80,4,48)),(72,(9,1,16)),(75,(86,2,16)),(76,(86,2,16)),(165,(128,2,16)),(212,(44,1,24)),(278,(281,1,8)),(291,(3,1,8))],ar:=[(64,(3,1)),(86,(2,1))],zv:=[(3,[.i .i64 0]),(9,[.s (⟨#[]⟩:ByteArray)]),(26,[.Y,.Y,.Y,.i .i64 0,.i .i64 0]),(33,[.Y,.Y,.i .i64 0,.i .i64 0]),(44,[.Y]),(46,[.i .i64 0,.Y,.Y,.Y]),(48,[.i .i64 0,.i .i64 0,.i .i64 0,.Y,.Y,.Y,.i .i64 0]),(49,[.i .i64 0]),(51,[.i .i64 0,.i .i64 0,.Y]),(54,[.Y]),(62,[.i .i64 0,.i .i64 0,.Y]),(64,[.i .i64 0,.i .i64 0,.i .i64 0]),(66,[.s (⟨#[]⟩:ByteArray),.Y,.i .i64 0,.i .i64 0,.Y,.i .i64 0,.i .i64 0,.Y,.Y,.Y,.i .i64 0,.i .i64 0,.i .i64 0,.i .i64 0]),(74,[.s (⟨#[]⟩:ByteArray),.i .i64 0,.i .i64 0,.i .i64 0,.Y,.i .i64 0,.i .i64 0]),(76,[.Y]),(78,[.s (⟨#[]⟩:ByteArray),.i .i64 0,.Y]),(80,[.i .i64 0,.i .i64 0,.i .i64 0,.Y]),(86,[.i .i64 0,.i .i64 0]),(91,[.i .i64 0,.i .i64 0,.i .i64 0,.i .i64 0,.i .i64 0]),(93,[.i .i64 0,.i .i64 0,.Y,.Y,.Y,.i .i64 0,.i .i64 0,.i .i64 0,.i .i64 0,.i .i64 0,.i .i64 0]),(97,[.i .i64 0,.i .i64 0]),(107,[.Y,.Y,.Y,.i .i64 0,.i .i64 0,.Y,.Y,.i .i64 0,.i .i64 0,.i .i64 0,.i .i64 0,.i .i64 0,.Y,.Y,.Y,.i .i64 0]),(124,[.s (⟨#[]⟩:ByteArray),.i .i64 0]),(128,[.lit (.nilFunc),.i .i64 0]),(171,[.lit (.nilFunc)]),(176,[.lit (.nilFunc)]),(186,[.Y,.Y,.i .i64 0]),(212,[.Y]),(218,[.Y,.Y,.Y,.i .i64 0,.i .i64 0,.Y,.s (⟨#[]⟩:ByteArray),.Y,.i .i64 0,.i .i64 0,.Y,.i .i64 0,.i .i64 0,.Y,.Y,.Y,.i .i64 0,.i .i64 0,.i .i64 0,.i .i64 0,.Y]),(235,[.lit (.nilFunc)]),(255,[.Y]),(280,[.Y,.lit (.map none)]),(281,[.lit (.pointer none)]),(284,[.i .i64 0,.i .i64 0,.i .i64 0])],sb:=[9],bo:=[4],cc:=[281,286],en:=[4,5,6,7,8,9,10,11,12,13,14,15,16,17,18,19,20,21,22,23,24,25,26,27,28,29,30,31,32,33,34,35,36,37,38,39,40,41,42,43,44,45,46,47,48,49,50,51,52,53,54,55,56,57,58,59,60,61,62,63,64,65,66,67,68,69,70,71,72,73,74,75,76,77,78,79,80,81,82,83,84,85,86,87,88,89,90,91,92,93,94,95,96,97,98,99,100,101,102,103,104,106,107,108,109,110,111,112,113,114,115,116,117,118,119,120,121,122,123,124,125,126,127,128,129,130,131,132,133,134,135,136,137,138,139,140,141,142,143,144,145,146,147,148,149,150,151,152,153,154,155,156,157,158,159,160,161,162,163,164,165,166,167,168,169,170,171,174,175,176,177,178,179,180,181,182,183,184,185,186,187,188,189,190,191,192,197,198,199,200,201,202,203,204,205,206,207,208,209,210,211,212,213,214,215,216,217,218,219,220,221,222,223,224,225,226,227,228,229,230,231,232,233,234,235,236,237,238,239,240,241,242,243,244,245,246,247,248,249,250,251,252,253,257,258,259,260,261,262,263,264,265,270,273,274,275,276,277,278,279,280,281,282,283,286,287,288,289,290,291,292,293,294,295,296,297,298,299,300,301,304,317,318,319,320,321,323,324,325,326,327,328,329,330,331,332,344,345,346,347,348,351,352,355,356,357,358,359,360,361,379,380,381,382,383] }
def QA : Gc prog EM:=Uh.ok (by kernel_rfl) (JT.2 ⟨Qwq,JT.2 ⟨Qwr,JT.2 ⟨QvO,JT.2 ⟨QvP,JT.2 ⟨QtC,JT.2 ⟨QvQ,JT.2 ⟨QvR,JT.2 ⟨QvS,JT.2 ⟨QvT,JT.2 ⟨QvU,JT.2 ⟨QvV,JT.2 ⟨QvW,JT.2 ⟨QvX,JT.2 ⟨QvY,JT.2 ⟨QvZ,JT.2 ⟨Qv0,JT.2 ⟨Qv1,JT.2 ⟨Qv2,JT.2 ⟨Qv3,JT.2 ⟨Qv4,JT.2 ⟨Qv5,JT.2 ⟨QuY,JT.2 ⟨QuZ,JT.2 ⟨Vl,JT.2 ⟨Qu0,JT.2 ⟨Qu1,JT.2 ⟨Qu2,JT.2 ⟨Qu3,JT.2 ⟨Qu4,JT.2 ⟨Qu5,JT.2 ⟨Qu6,JT.2 ⟨Qu7,JT.2 ⟨Qu8,JT.2 ⟨Qu9,λ_ h=>(by cases h)⟩⟩⟩⟩⟩⟩⟩⟩⟩⟩⟩⟩⟩⟩⟩⟩⟩⟩⟩⟩⟩⟩⟩⟩⟩⟩⟩⟩⟩⟩⟩⟩⟩⟩)
def Yq {C:Xr}{Q:Exit->St->Prop}{n:Nat}{pt pt1:Pt}{ks ks1:L_ Fr}{σ σ1:St}{φ:Prop}(O:JK prog C n)(ds:L_ CL)(e:Vm.go prog C EM n ds pt ks σ True=some ⟨pt1,ks1,σ1,φ⟩)(hφ:φ)(h:AK prog C Q pt1 ks1 σ1):AK prog C Q pt ks σ:=AK.go QA O ds e hφ h
abbrev QBg := L_ (Int×Int)
abbrev QMk := L_ QBg
abbrev LI_ := L_ Int
abbrev QLL := L_ (L_ Int)
abbrev QSB := L_ (ByteArray×Bool)
def U : True:=trivial
def an_ {a b:Prop}(x:a)(y:b):a/\b:=⟨x,y⟩
def ex_ {α:Sort _}{p:α->Prop}(w:α)(h:p w):∃x,p x:=⟨w,h⟩
end Go.Proofs
namespace Go.Vm
open Go Go.RowKit
noncomputable abbrev CL.K (a b:L_ Nat):CL:=.keep a b
noncomputable abbrev CL.S (a:Nat)(b:V):CL:=.say a b
noncomputable abbrev CL.O (a:Nat)(b:Ob):CL:=.sayO a b
noncomputable abbrev CL.T:CL:=.br true
noncomputable abbrev CL.F:CL:=.br false
noncomputable abbrev Dw.N:Dw:=.a .no none false
noncomputable abbrev Dw.B (h:WK):Dw:=.a h none false
noncomputable abbrev Dw.E (v:V):Dw:=.a .no (some ([],v)) false
noncomputable abbrev V.I (n:Int):V:=.i .i64 n
noncomputable abbrev V.L (n:Nat):V:=.loc n 0 0
noncomputable abbrev CL.A (x:L_ V):CL:=.v .no [] (.agg x)
noncomputable instance dn_ (n:Nat):OfNat CL n:=⟨.n n⟩
noncomputable abbrev WK.C1 (v:V):WK:=.c false [.d] v
noncomputable abbrev WK.C2 (v:V):WK:=.c false [.d,.d] v
noncomputable abbrev WK.C3 (v:V):WK:=.c false [.d,.d,.d] v
noncomputable abbrev WK.C4 (v:V):WK:=.c false [.d,.d,.d,.d] v
noncomputable abbrev WK.C5 (v:V):WK:=.c false [.d,.d,.d,.d,.d] v
noncomputable abbrev WK.C6 (v:V):WK:=.c false [.d,.d,.d,.d,.d,.d] v
noncomputable abbrev WK.C7 (v:V):WK:=.c false [.d,.d,.d,.d,.d,.d,.d] v
noncomputable abbrev WK.C8 (v:V):WK:=.c false [.d,.d,.d,.d,.d,.d,.d,.d] v
end Go.Vm
namespace Go.Proofs
open Go Go.RowKit Go.Vm Go.Proofs.Tryz
def bg_ {α:Type}{c:Bool}{x y:O_ α}{r:α}{G:Prop}(h:(bif c then x else y)=some r)(f:c=true->x=some r->G)(g:c=false->y=some r->G):G:=by
 cases c
 ·exact g rfl h
 exact f rfl h
noncomputable abbrev lk_ (n:Nat):Nat×V:=(n,.loc n 0 0)
def a1_ {h:Prop}(O:h):True/\h:=⟨trivial,O⟩
def a2_ {h O:Prop}(h0:h)(h1:O):(True/\h)/\O:=⟨⟨trivial,h0⟩,h1⟩
def a3_ {h O x2:Prop}(h0:h)(h1:O)(h2:x2):((True/\h)/\O)/\x2:=⟨⟨⟨trivial,h0⟩,h1⟩,h2⟩
def a4_ {h O x2 x3:Prop}(h0:h)(h1:O)(h2:x2)(h3:x3):(((True/\h)/\O)/\x2)/\x3:=⟨⟨⟨⟨trivial,h0⟩,h1⟩,h2⟩,h3⟩
def a5_ {h O x2 x3 x4:Prop}(h0:h)(h1:O)(h2:x2)(h3:x3)(h4:x4):((((True/\h)/\O)/\x2)/\x3)/\x4:=⟨⟨⟨⟨⟨trivial,h0⟩,h1⟩,h2⟩,h3⟩,h4⟩
def a6_ {h O x2 x3 x4 x5:Prop}(h0:h)(h1:O)(h2:x2)(h3:x3)(h4:x4)(h5:x5):(((((True/\h)/\O)/\x2)/\x3)/\x4)/\x5:=⟨⟨⟨⟨⟨⟨trivial,h0⟩,h1⟩,h2⟩,h3⟩,h4⟩,h5⟩
def a7_ {h O x2 x3 x4 x5 x6:Prop}(h0:h)(h1:O)(h2:x2)(h3:x3)(h4:x4)(h5:x5)(h6:x6):((((((True/\h)/\O)/\x2)/\x3)/\x4)/\x5)/\x6:=⟨⟨⟨⟨⟨⟨⟨trivial,h0⟩,h1⟩,h2⟩,h3⟩,h4⟩,h5⟩,h6⟩
def a8_ {h O x2 x3 x4 x5 x6 x7:Prop}(h0:h)(h1:O)(h2:x2)(h3:x3)(h4:x4)(h5:x5)(h6:x6)(h7:x7):(((((((True/\h)/\O)/\x2)/\x3)/\x4)/\x5)/\x6)/\x7:=⟨⟨⟨⟨⟨⟨⟨⟨trivial,h0⟩,h1⟩,h2⟩,h3⟩,h4⟩,h5⟩,h6⟩,h7⟩
def a9_ {h O x2 x3 x4 x5 x6 x7 x8:Prop}(h0:h)(h1:O)(h2:x2)(h3:x3)(h4:x4)(h5:x5)(h6:x6)(h7:x7)(h8:x8):((((((((True/\h)/\O)/\x2)/\x3)/\x4)/\x5)/\x6)/\x7)/\x8:=⟨⟨⟨⟨⟨⟨⟨⟨⟨trivial,h0⟩,h1⟩,h2⟩,h3⟩,h4⟩,h5⟩,h6⟩,h7⟩,h8⟩
def aB_ {x0 x1 x2 x3 x4 x5 x6 x7 x8 x9 h:Prop}(h0:x0)(h1:x1)(h2:x2)(h3:x3)(h4:x4)(h5:x5)(h6:x6)(h7:x7)(h8:x8)(h9:x9)(O:h):((((((((((True/\x0)/\x1)/\x2)/\x3)/\x4)/\x5)/\x6)/\x7)/\x8)/\x9)/\h:=⟨⟨⟨⟨⟨⟨⟨⟨⟨⟨⟨trivial,h0⟩,h1⟩,h2⟩,h3⟩,h4⟩,h5⟩,h6⟩,h7⟩,h8⟩,h9⟩,O⟩
def r1_ {α:Type}{a0:α}:a0=a0/\True:=⟨rfl,trivial⟩
def r2_ {α:Type}{a0 h:α}:a0=a0/\h=h/\True:=⟨rfl,rfl,trivial⟩
def r3_ {α:Type}{a0 h O:α}:a0=a0/\h=h/\O=O/\True:=⟨rfl,rfl,rfl,trivial⟩
def r4_ {α:Type}{a0 h O a3:α}:a0=a0/\h=h/\O=O/\a3=a3/\True:=⟨rfl,rfl,rfl,rfl,trivial⟩
def r5_ {α:Type}{a0 h O a3 a4:α}:a0=a0/\h=h/\O=O/\a3=a3/\a4=a4/\True:=⟨rfl,rfl,rfl,rfl,rfl,trivial⟩
def rB_ {α:Type}{a0 O a2 a3 a4 a5 a6 a7 a8 a9 h:α}:a0=a0/\O=O/\a2=a2/\a3=a3/\a4=a4/\a5=a5/\a6=a6/\a7=a7/\a8=a8/\a9=a9/\h=h/\True:=⟨rfl,rfl,rfl,rfl,rfl,rfl,rfl,rfl,rfl,rfl,rfl,trivial⟩
def wk_ {f:FuncId}{fn:Func}{c:Code}{args:L_ V}{hs:H_}{O:V->H_->Prop}(n:Nat)(hf:prog.funcs[f]? = some fn)(h:∀C:Xr,JK prog C n->AK prog C (QcC prog fn.results.toList O) (.c c) [] ⟨Nv 0 args,hs⟩)(hb:fn.body=some c:=by rfl)(hn:fn.ntmps=n:=by rfl)(hle:(Nat.ble args.length n&&Nat.ble n 619)=true:=by rfl):QP prog f args hs O:=QP.walk n hf hb hn hle h
def mt_ {C:Xr}{Q:Exit->St->Prop}{ks:L_ Fr}{σ:St}:AK prog C Q (.x .normal) (.cut (λs=>s=σ)::ks) σ:=AK.met rfl
def cb_ {a b:Bool}(h:a=b):V.b a=V.b b:=congrArg V.b h
def tc_ {a b:Bool}(h:a=b):True/\V.b a=V.b b:=⟨trivial,congrArg V.b h⟩
def Qs2 : Exit->Bool
 | .normal=>true
 | .ret=>true
 | _=>false
def tg_ {C:Xr}{Q:Exit->St->Prop}{n:Nat}{pt pt1:Pt}{ks ks1:L_ Fr}{σ σ1:St}(O:JK prog C n)(ds:L_ CL)(h:AK prog C Q pt1 ks1 σ1)(e:Vm.go prog C EM n ds pt ks σ True=some ⟨pt1,ks1,σ1,True⟩:=by rfl):AK prog C Q pt ks σ:=AK.go QA O ds e trivial h
def Qws {c:Bool}{β:Type}{f:Unit->O_ β}{r:β}(h:(chk c).bind f=some r):c=true/\f ()=some r:=by
 obtain⟨_,k,h⟩:=QU h;exact⟨QlM k,h⟩
def Z {α:Sort _}{a:α}:a=a:=rfl
def bE_ {α β:Type}{a:O_ α}{k:α->O_ β}{r:β}{G:Prop}(h:a.bind k=some r)(f:∀x,a=some x->k x=some r->G):G:=by
 obtain⟨x,O,h2⟩:=QU h;exact f x O h2
def cB_ {c:Bool}{β:Type}{k:Unit->O_ β}{r:β}{G:Prop}(h:(chk c).bind k=some r)(f:c=true->k ()=some r->G):G:=by
 obtain⟨_,O,h2⟩:=QU h;exact f (QlM O) h2
def bf_ {α:Type}{c:Bool}{x y:O_ α}{r:α}{G:Prop}(h:(bif c then x else y)=some r)(f:c=true->x=some r->G)(g:c=false->y=some r->G):G:=by
 cases c
 ·exact g rfl h
 exact f rfl h
def Ns (σ s:St):O_ St:=match Xy σ.fr (s.fr.map Prod.fst)with
 | some a=>match Xy σ.hp (s.hp.map Prod.fst)with
  | some b=>bif St.closed ⟨a,b⟩then some ⟨a,b⟩else none
  | none=>none
 | none=>none
def IL {P:Program}{C:Xr}{Q:Exit->St->Prop}{pt:Pt}{ks:L_ Fr}{σ s:St}(e:Ns σ s=some s)(k:AK P C Q pt ks s):AK P C Q pt ks σ:=by
 unfold Ns at e;split at e
 ·rename_i a ha;split at e
  ·rename_i b hb;replace e:=Ya e;obtain⟨hc,e⟩:=e;cases e;exact AK.weaken (λh w O=>R.to O (QoB (OR ha)) (Qig (OR hb)) hc) k
  cases e
 cases e
def rS {τ ρ:Type}(E:τ->St)(X:ρ->Exit×St)(o:τ⊕ρ):Exit->St->Prop:=Qoq (λt s=>s=E t) (λq e s=>e=(X q).1/\s=(X q).2) o
def cS {β:Type}(E:β->St)(v:β)(s:St):Prop:=s=E v
def no_ {α:Type}(_:α):H_:=[]
def CP {α:Type}(f:Nat)(us:L_ V)(O:H_)(o:O_ α)(h:α->V->H_->Prop):Prop:=∀r,o=some r->QP prog f us O (h r)
def CT {α:Type}(f:Nat)(us:L_ V)(h:H_)(o:O_ α)(V:α->V)(O:α->H_):Prop:=CP f us h o λr=>Gives (V r) (O r)
def Qs3 {α:Type}(O:L_ ResultVar)(h:α->V->H_->Prop)(r:α):Exit->St->Prop:=QcC prog O (h r)
def AF {α:Type}(C:Xr)(n:Nat)(o:O_ α)(r:α)(Q:Exit->St->Prop)(pt:Pt)(ks:L_ Fr)(σ:St):Prop:=JK prog C n->o=some r->AK prog C Q pt ks σ
def pl_ (C:Xr)(n k:Nat)(pt:Pt)(ks:L_ Fr)(σ:St):O_ Cfg:=plain prog C EM n k pt ks σ True
def YG {C:Xr}{n k:Nat}{pt pt1:Pt}{ks ks1:L_ Fr}{σ σ1:St}{φ:Prop}{Q:Exit->St->Prop}(O:JK prog C n)(e:pl_ C n k pt ks σ=some ⟨pt1,ks1,σ1,φ⟩)(hφ:φ)(h:AK prog C Q pt1 ks1 σ1):AK prog C Q pt ks σ:=by
 refine AK.go QA O [.n k] ?_ hφ h;unfold pl_ at e;simp only[Vm.go,e]
def brA (C:Xr)(n k:Nat)(pt:Pt)(ks:L_ Fr)(σ:St):O_ (Bool×L_ Fr×Pt×St×Pt×St×Prop):=match pl_ C n k pt ks σ with
 | some ⟨.c (.cond p x y),ks1,s,φ⟩=>match s.opd p with
  | some (.b c)=>some (c,ks1,.c x,s,.c y,s,φ)
  | _=>none
 | some ⟨.o ops (o::l),ks1,s,φ⟩=>match o.guard with
  | some (j,_)=>match ops[j]? with
   | some h=>match h.dst with
    | some d=>match Go.Vm.look s.fr d with
     | some (.b c)=>some (c,ks1,.o ops (o::l),s.put d (.b true),.o ops (o::l),s.put d (.b false),φ)
     | _=>none
    | none=>none
   | none=>none
  | none=>none
 | _=>none
def Qka {C:Xr}{n k:Nat}{pt p q:Pt}{ks ks1:L_ Fr}{σ s t:St}{c:Bool}{Q:Exit->St->Prop}(hC:JK prog C n)(e:brA C n k pt ks σ=some (c,ks1,p,s,q,t,True))(f:c=true->AK prog C Q p ks1 s)(g:c=false->AK prog C Q q ks1 t):AK prog C Q pt ks σ:=by
 unfold brA at e;split at e
 ·rename_i p x y ks1 s φ hp;split at e
  ·rename_i c h;cases e;refine YG hC hp trivial ?_;cases c
   ·exact YE.cond_false h (g rfl)
   exact YE.cond_true h (f rfl)
  cases e
 ·rename_i ops o l ks1 s φ hp;split at e
  ·split at e
   ·split at e
    ·split at e
     ·rename_i d _ c h;cases e;refine YG hC hp trivial ?_;cases c
      ·exact AK.weaken (λa w O=>R.say ⟨_,h,rfl⟩ O) (g rfl)
      exact AK.weaken (λa w O=>R.say ⟨_,h,rfl⟩ O) (f rfl)
     cases e
    cases e
   cases e
  cases e
 cases e
def enA (C:Xr)(n k:Nat)(pt:Pt)(ks:L_ Fr)(σ s:St):O_ (Exit×L_ Fr×St×Prop):=match pl_ C n k pt ks σ with
 | some ⟨.x e,ks1,t,φ⟩=>match Ns t s with
  | some h=>some (e,ks1,h,φ)
  | none=>none
 | _=>none
def QqI {C:Xr}{n k:Nat}{pt:Pt}{ks ks1:L_ Fr}{σ s:St}{x:Exit}{Q:Exit->St->Prop}(O:JK prog C n)(e:enA C n k pt ks σ s=some (x,ks1,s,True))(h:AK prog C Q (.x x) ks1 s):AK prog C Q pt ks σ:=by
 unfold enA at e;split at e
 ·rename_i hp;split at e
  ·rename_i hs;cases e;exact YG O hp trivial (IL hs h)
  cases e
 cases e
def enP {C:Xr}{n k:Nat}{pt p:Pt}{ks ks1:L_ Fr}{σ σ1 s:St}{Q:Exit->St->Prop}(O:JK prog C n)(e:(pl_ C n k pt ks σ,Ns σ1 s)=(some ⟨p,ks1,σ1,True⟩,some s))(h:AK prog C Q p ks1 s):AK prog C Q pt ks σ:=YG O (congrArg Prod.fst e) trivial (IL (congrArg Prod.snd e) h)
def jn (d:S_×H_)(a:S_)(b:H_):St:=⟨d.1++a,d.2++b⟩
def wP_ {α:Type}{f:FuncId}{fn:Func}{c:Code}{args:L_ V}{hs:H_}{o:O_ α}{O:α->V->H_->Prop}(n:Nat)(hf:prog.funcs[f]? = some fn)(hb:(fn.body,fn.ntmps,Nat.ble args.length n&&Nat.ble n 619)=(some c,n,true))(h:∀{C:Xr} {r:α},AF C n o r (Qs3 fn.results.toList O r) (.c c) [] ⟨Nv 0 args,hs⟩):CP f args hs o O:=λ_ e=>QP.walk n hf (congrArg (λx=>x.1) hb) (congrArg (λx=>x.2.1) hb) (congrArg (λx=>x.2.2) hb) λ_ hC=>h hC e
def W {α:Type}{f:FuncId}{fn:Func}{c:Code}{args:L_ V}{hs:H_}{o:O_ α}{V:α->V}{O:α->H_}(n:Nat)(hf:prog.funcs[f]? = some fn)(hb:(fn.body,fn.ntmps,Nat.ble args.length n&&Nat.ble n 619)=(some c,n,true))(h:∀{C:Xr} {r:α},AF C n o r (Qs3 fn.results.toList (λr=>Gives (V r) (O r)) r) (.c c) [] ⟨Nv 0 args,hs⟩):CT f args hs o V O:=wP_ n hf hb h
section
variable {α β:Type}{C:Xr}{n:Nat}{Q:Exit->St->Prop}{r:α}{o:O_ α}{pt pt1:Pt}{ks ks1:L_ Fr}{σ σ1:St}{φ:Prop}
def gA_ (ds:L_ CL)(e:Vm.go prog C EM n ds pt ks σ True=some ⟨pt1,ks1,σ1,φ⟩)(hφ:φ)(h:AF C n o r Q pt1 ks1 σ1):AF C n o r Q pt ks σ:=λO a=>AK.go QA O ds e hφ (h O a)
def K (ds:L_ CL)(e:Vm.go prog C EM n ds pt ks σ True=some ⟨pt1,ks1,σ1,φ⟩)(hφ:JK prog C n->φ)(h:AF C n o r Q pt1 ks1 σ1):AF C n o r Q pt ks σ:=λO a=>AK.go QA O ds e (hφ O) (h O a)
def gT_ (ds:L_ CL)(e:Vm.go prog C EM n ds pt ks σ True=some ⟨pt1,ks1,σ1,True⟩)(h:AF C n o r Q pt1 ks1 σ1):AF C n o r Q pt ks σ:=gA_ ds e trivial h
def G {x:Prop}(ds:L_ CL)(e:Vm.go prog C EM n ds pt ks σ True=some ⟨pt1,ks1,σ1,True/\x⟩)(a:x)(h:AF C n o r Q pt1 ks1 σ1):AF C n o r Q pt ks σ:=gA_ ds e ⟨trivial,a⟩ h
def g2_ {x y:Prop}(ds:L_ CL)(e:Vm.go prog C EM n ds pt ks σ True=some ⟨pt1,ks1,σ1,(True/\x)/\y⟩)(a:x)(b:y)(h:AF C n o r Q pt1 ks1 σ1):AF C n o r Q pt ks σ:=gA_ ds e ⟨⟨trivial,a⟩,b⟩ h
def g3_ {x y z:Prop}(ds:L_ CL)(e:Vm.go prog C EM n ds pt ks σ True=some ⟨pt1,ks1,σ1,((True/\x)/\y)/\z⟩)(a:x)(b:y)(c:z)(h:AF C n o r Q pt1 ks1 σ1):AF C n o r Q pt ks σ:=gA_ ds e ⟨⟨⟨trivial,a⟩,b⟩,c⟩ h
def gP_ (k:Nat)(e:pl_ C n k pt ks σ=some ⟨pt1,ks1,σ1,True⟩)(h:AF C n o r Q pt1 ks1 σ1):AF C n o r Q pt ks σ:=λO a=>YG O e trivial (h O a)
def B {a:O_ β}{f:β->O_ α}(h:∀v,a=some v->AF C n (f v) r Q pt ks σ):AF C n (a.bind f) r Q pt ks σ:=λhC e=>bE_ e λx O h2=>h x O hC h2
def kA_ {c:Bool}{f:Unit->O_ α}(h:c=true->AF C n (f ()) r Q pt ks σ):AF C n ((chk c).bind f) r Q pt ks σ:=λhC e=>cB_ e λO h2=>h O hC h2
def I {c:Bool}{x y:O_ α}{p q:Pt}{s t:St}(k:Nat)(e:brA C n k pt ks σ=some (c,ks1,p,s,q,t,True))(f:AF C n x r Q p ks1 s)(g:AF C n y r Q q ks1 t):AF C n (bif c then x else y) r Q pt ks σ:=λO a=>bf_ a (λh b=>Qka O e (λ_=>f O b) λu=>Bool.noConfusion (h.symm.trans u)) λh b=>Qka O e (λu=>Bool.noConfusion (h.symm.trans u)) λ_=>g O b
def H {c:Bool}{p q:Pt}{s t:St}(k:Nat)(e:brA C n k pt ks σ=some (c,ks1,p,s,q,t,True))(f:c=true->AF C n o r Q p ks1 s)(g:c=false->AF C n o r Q q ks1 t):AF C n o r Q pt ks σ:=λO a=>Qka O e (λh=>f h O a) λh=>g h O a
def J {row:β->L_ V}{l:L_ β}{j:Int}{f:β->O_ α}{σ1:β->St}(k:Nat)(e:(λd=>Vm.go prog C EM n [.n k,.o (.row (row d))] pt ks σ True)=λd=>some ⟨pt1,ks1,σ1 d,True/\(0<=j/\(l.map row)[j.toNat]? = some (row d))⟩)(h:∀d,AF C n (f d) r Q pt1 ks1 (σ1 d)):AF C n ((idx l j).bind f) r Q pt ks σ:=λO a=>bE_ a λd h1 h2=>AK.go QA O _ (congrFun e d) ⟨trivial,Xw h1⟩ (h d O h2)
def N {row:β->L_ V}{l:L_ β}(k:Nat)(e:Vm.go prog C EM n [.n k,.o (.ln l.length)] pt ks σ True=some ⟨pt1,ks1,σ1,True/\(l.map row).length=l.length⟩)(h:AF C n o r Q pt1 ks1 σ1):AF C n o r Q pt ks σ:=gA_ _ e ⟨trivial,Qw⟩ h
def xR_ {rw:L_ β->L_ (L_ V)}{row:β->L_ V}{l:L_ β}{j:Int}{f:β->O_ α}{σ1:β->St}(k:Nat)(p:∀{l:L_ β} {j:Int} {d:β},idx l j=some d->0<=j/\(rw l)[j.toNat]? = some (row d))(e:(λd=>Vm.go prog C EM n [.n k,.o (.row (row d))] pt ks σ True)=λd=>some ⟨pt1,ks1,σ1 d,True/\(0<=j/\(rw l)[j.toNat]? = some (row d))⟩)(h:∀d,idx l j=some d->AF C n (f d) r Q pt1 ks1 (σ1 d)):AF C n ((idx l j).bind f) r Q pt ks σ:=λhC a=>bE_ a λd O h2=>AK.go QA hC _ (congrFun e d) ⟨trivial,p O⟩ (h d O hC h2)
def nR_ {rw:L_ β->L_ (L_ V)}{l:L_ β}(k:Nat)(p:∀l,(rw l).length=l.length)(e:Vm.go prog C EM n [.n k,.o (.ln l.length)] pt ks σ True=some ⟨pt1,ks1,σ1,True/\(rw l).length=l.length⟩)(h:AF C n o r Q pt1 ks1 σ1):AF C n o r Q pt ks σ:=gA_ _ e ⟨trivial,p _⟩ h
def dM_ : L_ V->L_ Vm.Mode
 | []=>[]
 | _::l=>.d::dM_ l
def A {a:O_ β}{f:β->O_ α}{fn:Nat}{us:L_ V}{W:β->V}{σ1:β->St}(k:Nat)(c:CT fn us [] a W no_)(e:(λv=>Vm.go prog C EM n [.n k,.o (.c false (dM_ us) (W v))] pt ks σ True)=λv=>some ⟨pt1,ks1,σ1 v,True/\QP prog fn us [] (Gives (W v) [])⟩)(h:∀v,AF C n (f v) r Q pt1 ks1 (σ1 v)):AF C n (a.bind f) r Q pt ks σ:=λO b=>bE_ b λd h1 h2=>AK.go QA O _ (congrFun e d) ⟨trivial,c _ h1⟩ (h d O h2)
def oC_ {a:O_ (L_ β)}{f:L_ β->O_ α}{fn:Nat}{us:L_ V}{z:Nat}{row:β->L_ V}{σ1:L_ β->St}(k:Nat)(ms:L_ Vm.Mode)(c:CT fn us [] a (λv=>.own 600 v.length) λv=>[(600,.arr z (v.map row))])(e:(λv=>Vm.go prog C EM n [.n k,.o (.co false ms z (v.map row) v.length)] pt ks σ True)=λv=>some ⟨pt1,ks1,σ1 v,True/\(QP prog fn us [] (Gives (.own 600 v.length) [(600,.arr z (v.map row))])/\(v.map row).length=v.length/\(false=false\/∀r∈v.map row,∀v∈r,v.sca=true))⟩)(h:∀v,AF C n (f v) r Q pt1 ks1 (σ1 v)):AF C n (a.bind f) r Q pt ks σ:=λO b=>bE_ b λd h1 h2=>AK.go QA O _ (congrFun e d) ⟨trivial,c _ h1,Qw,.inl rfl⟩ (h d O h2)
def zA_ {a:O_ β}{f:β->O_ α}{fn:Nat}{us:L_ V}{hs:H_}{W:β->V}{O:β->H_}{σ1:β->St}(k:Nat)(en:Ent)(M N:L_ (Nat×Nat))(dead:L_ Nat)(c:CT fn us hs a W O)(e:(λv=>Vm.go prog C EM n [.n k,.cm en M N dead (dM_ us) (O v) (W v)] pt ks σ True)=λv=>some ⟨pt1,ks1,σ1 v,True/\QP prog fn us hs (Gives (W v) (O v))⟩)(h:∀v,AF C n (f v) r Q pt1 ks1 (σ1 v)):AF C n (a.bind f) r Q pt ks σ:=λhC b=>bE_ b λd h1 h2=>AK.go QA hC _ (congrFun e d) ⟨trivial,c _ h1⟩ (h d hC h2)
def sw_ : L_ (Nat×Nat)->L_ (Nat×Nat)
 | []=>[]
 | (a,b)::l=>(b,a)::sw_ l
def S {a:O_ β}{f:β->O_ α}{fn:Nat}{us:L_ V}{hs:H_}{W:β->V}{O:β->H_}{σ1:β->St}(k:Nat)(en:Ent)(M:L_ (Nat×Nat))(c:CT fn us hs a W O)(e:(λv=>Vm.go prog C EM n [.n k,.cm en M (sw_ M) [] (dM_ us) (O v) (W v)] pt ks σ True)=λv=>some ⟨pt1,ks1,σ1 v,True/\QP prog fn us hs (Gives (W v) (O v))⟩)(h:∀v,AF C n (f v) r Q pt1 ks1 (σ1 v)):AF C n (a.bind f) r Q pt ks σ:=zA_ k en M _ _ c e h
def M {v:α}{E:α->St}{O:L_ Fr}(k:Nat)(e:(pl_ C n k pt ks σ,Ns σ1 (E v))=(some ⟨.x .normal,.cut (cS E r)::O,σ1,True⟩,some (E v))):AF C n (some v) r Q pt ks σ:=λhC h=>enP hC e (by cases h;exact mt_)
def tA_ {s0:St}{h:L_ Fr}(k:Nat)(e:(pl_ C n k pt ks σ,Ns σ1 s0)=(some ⟨.x .normal,.cut (λs=>s=s0)::h,σ1,True⟩,some s0)):AF C n o r Q pt ks σ:=λO _=>enP O e (AK.met rfl)
def Y {s0:St}{O:L_ Fr}{b b':Bool}(k x:Nat)(e:(pl_ C n k pt ks σ,Go.Vm.look σ1.fr x,Go.Vm.look s0.fr x,Ns (σ1.put x (.b b)) s0)=(some ⟨.x .normal,.cut (λs=>s=s0)::O,σ1,True⟩,some (.b b'),some (.b b),some s0))(h:b'=b):AF C n o r Q pt ks σ:=λhC _=>by
 simp only[Prod.mk.injEq]at e;obtain⟨e1,e2,-,e4⟩:=e;subst h;exact YG hC e1 trivial (AK.weaken (λa w hR=>R.say ⟨_,e2,rfl⟩ hR) (IL e4 (AK.met rfl)))
def P {E:β->St}{K:β->O_ α}{v:β}{O:L_ Fr}(k:Nat)(e:pl_ C n k pt ks σ=some ⟨.x .normal,.cut (λs=>∃v,s=E v/\K v=some r)::O,σ1,True⟩){o:O_ α}(a:(K v,Ns σ1 (E v))=(o,some (E v))):AF C n o r Q pt ks σ:=λhC h=>YG hC e trivial (IL (congrArg Prod.snd a) (AK.met ⟨v,rfl,(congrArg Prod.fst a).trans h⟩))
def uA_ {s0:St}{O:L_ Fr}(k:Nat){o':O_ α}(e:pl_ C n k pt ks σ=some ⟨.x .normal,.cut (λs=>s=s0/\o'=some r)::O,σ1,True⟩)(a:(o',Ns σ1 s0)=(o,some s0)):AF C n o r Q pt ks σ:=λhC h=>YG hC e trivial (IL (congrArg Prod.snd a) (AK.met ⟨rfl,(congrArg Prod.fst a).trans h⟩))
def fA_ {γ:Type}{E:β->γ->St}{K:β->γ->O_ α}{v:β}{u:γ}{O:L_ Fr}(k:Nat)(e:pl_ C n k pt ks σ=some ⟨.x .normal,.cut (λs=>∃v u,s=E v u/\K v u=some r)::O,σ1,True⟩){o:O_ α}(a:(K v u,Ns σ1 (E v u))=(o,some (E v u))):AF C n o r Q pt ks σ:=λhC h=>YG hC e trivial (IL (congrArg Prod.snd a) (AK.met ⟨v,u,rfl,(congrArg Prod.fst a).trans h⟩))
def mV_ {a:O_ β}{f:β->O_ α}{c:Code}{fr:S_}{hp:H_}(k:Nat)(ts os:L_ Nat)(E:β->S_×H_)(e:(pl_ C n k pt ks σ,Xy σ1.fr ts,Xy σ1.hp os)=(some ⟨.c c,ks1,σ1,True⟩,some fr,some hp))(g:∀{x},AF C n a x Q (.c c) (.cut (cS (λx=>jn (E x) fr hp) x)::ks1) σ1)(h:∀x,AF C n (f x) r Q (.x .normal) ks1 (jn (E x) fr hp)):AF C n (a.bind f) r Q pt ks σ:=λO b=>bE_ b λx h1 h2=>YG O (congrArg Prod.fst e) trivial (AK.meetX _ (g O h1) λs (e:s=jn (E x) fr hp)=>e▸h x O h2)
def T {c:Code}{fr:S_}{hp:H_}(k:Nat)(ts os:L_ Nat)(s0:S_×H_)(e:(pl_ C n k pt ks σ,Xy σ1.fr ts,Xy σ1.hp os)=(some ⟨.c c,ks1,σ1,True⟩,some fr,some hp))(g:AF C n o r Q (.c c) (.cut (λs=>s=jn s0 fr hp)::ks1) σ1)(h:AF C n o r Q (.x .normal) ks1 (jn s0 fr hp)):AF C n o r Q pt ks σ:=λO b=>YG O (congrArg Prod.fst e) trivial (AK.meetX _ (g O b) λ_ e=>e▸h O b)
def mE_ {c d:Code}{fr:S_}{hp:H_}(k:Nat)(ts os:L_ Nat)(E:β->S_×H_)(K:β->O_ α)(e:(pl_ C n k pt ks σ,Xy σ1.fr ts,Xy σ1.hp os)=(some ⟨.c (.seq c d),ks1,σ1,True⟩,some fr,some hp))(g:AF C n o r Q (.c c) (.cut (λs=>∃v,s=jn (E v) fr hp/\K v=some r)::ks1) σ1)(h:∀x,AF C n (K x) r Q (.c d) ks1 (jn (E x) fr hp)):AF C n o r Q pt ks σ:=λO b=>YG O (congrArg Prod.fst e) trivial (AK.meet _ (g O b) λ_ ⟨v,e,a⟩=>e▸h v O a)
def mU_ {c d:Code}{fr:S_}{hp:H_}(k:Nat)(ts os:L_ Nat)(s0:S_×H_)(o':O_ α)(e:(pl_ C n k pt ks σ,Xy σ1.fr ts,Xy σ1.hp os)=(some ⟨.c (.seq c d),ks1,σ1,True⟩,some fr,some hp))(g:AF C n o r Q (.c c) (.cut (λs=>s=jn s0 fr hp/\o'=some r)::ks1) σ1)(h:AF C n o' r Q (.c d) ks1 (jn s0 fr hp)):AF C n o r Q pt ks σ:=λO b=>YG O (congrArg Prod.fst e) trivial (AK.meet _ (g O b) λ_ ⟨e,a⟩=>e▸h O a)
def mF_ {γ:Type}{c d:Code}{fr:S_}{hp:H_}(k:Nat)(ts os:L_ Nat)(E:β->γ->S_×H_)(K:β->γ->O_ α)(e:(pl_ C n k pt ks σ,Xy σ1.fr ts,Xy σ1.hp os)=(some ⟨.c (.seq c d),ks1,σ1,True⟩,some fr,some hp))(g:AF C n o r Q (.c c) (.cut (λs=>∃v u,s=jn (E v u) fr hp/\K v u=some r)::ks1) σ1)(h:∀x y,AF C n (K x y) r Q (.c d) ks1 (jn (E x y) fr hp)):AF C n o r Q pt ks σ:=λO b=>YG O (congrArg Prod.fst e) trivial (AK.meet _ (g O b) λ_ ⟨v,u,e,a⟩=>e▸h v u O a)
def lA_ {τ ρ:Type}{body:τ->O_ (τ⊕ρ)}{s0:τ}{f:ρ->O_ α}{c:Code}{fr:S_}{hp:H_}{fs:S_}{O:H_}(k:Nat)(ts os:L_ Nat)(E:τ->S_×H_)(us vs:L_ Nat)(X:ρ->Exit×S_×H_)(e:(pl_ C n k pt ks σ,Xy σ1.fr ts,Xy σ1.hp os,Xy σ1.fr us,Xy σ1.hp vs,Ns σ1 (jn (E s0) fr hp))=(some ⟨.c (.loop c),ks1,σ1,True⟩,some fr,some hp,some fs,some O,some (jn (E s0) fr hp)))(g:∀t {o},AF C n (body t) o (rS (λt=>jn (E t) fr hp) (λq=>((X q).1,jn (X q).2 fs O)) o) (.c c) [] (jn (E t) fr hp))(h:∀q,AF C n (f q) r Q (.x (X q).1) ks1 (jn (X q).2 fs O)):AF C n ((Qt body s0).bind f) r Q pt ks σ:=λhC b=>bE_ b λq h1 h2=>YG hC (congrArg Prod.fst e) trivial (IL (congrArg (λx=>x.2.2.2.2.2) e) (AK.loop (λt s=>s=jn (E t) fr hp) (λq e s=>e=(X q).1/\s=jn (X q).2 fs O) h1 rfl (λt o s O hb=>O▸g t hC hb) λe s O=>by obtain⟨rfl,rfl⟩:=O;exact h q hC h2))
def F {τ ρ ρ':Type}{body:τ->O_ (τ⊕(ρ⊕ρ'))}{s0:τ}{f:ρ->O_ α}{f':ρ'->O_ α}{c:Code}{fr:S_}{hp:H_}{fs fu:S_}{O hu:H_}(k:Nat)(ts os:L_ Nat)(E:τ->S_×H_)(us vs:L_ Nat)(X:ρ->Exit×S_×H_)(xs ys:L_ Nat)(Y:ρ'->Exit×S_×H_)(e:(pl_ C n k pt ks σ,Xy σ1.fr ts,Xy σ1.hp os,Xy σ1.fr us,Xy σ1.hp vs,Xy σ1.fr xs,Xy σ1.hp ys,Ns σ1 (jn (E s0) fr hp))=(some ⟨.c (.loop c),ks1,σ1,True⟩,some fr,some hp,some fs,some O,some fu,some hu,some (jn (E s0) fr hp)))(g:∀t {o},AF C n (body t) o (rS (λt=>jn (E t) fr hp) (Sum.elim (λq=>((X q).1,jn (X q).2 fs O)) λq=>((Y q).1,jn (Y q).2 fu hu)) o) (.c c) [] (jn (E t) fr hp))(h:∀q,AF C n (f q) r Q (.x (X q).1) ks1 (jn (X q).2 fs O))(h':∀q,AF C n (f' q) r Q (.x (Y q).1) ks1 (jn (Y q).2 fu hu)):AF C n ((Qt body s0).bind (Sum.elim f f')) r Q pt ks σ:=λhC b=>bE_ b λq h1 h2=>YG hC (congrArg Prod.fst e) trivial (IL (congrArg (λx=>x.2.2.2.2.2.2.2) e) (AK.loop (λt s=>s=jn (E t) fr hp) (λq e s=>e=(Sum.elim (λq=>((X q).1,jn (X q).2 fs O)) (λq=>((Y q).1,jn (Y q).2 fu hu)) q).1/\s=(Sum.elim (λq=>((X q).1,jn (X q).2 fs O)) (λq=>((Y q).1,jn (Y q).2 fu hu)) q).2) h1 rfl (λt o s O hb=>O▸g t hC hb) λe s O=>match q,O,h2 with
 | .inl q,O,h2=>by obtain⟨rfl,rfl⟩:=O;exact h q hC h2
 | .inr q,O,h2=>by obtain⟨rfl,rfl⟩:=O;exact h' q hC h2))
end
section
variable {C:Xr}{n:Nat}{pt:Pt}{ks:L_ Fr}{σ:St}{τ ρ:Type}{ee:τ->St}{xx:ρ->Exit×St}{o:τ⊕ρ}
def R {t:τ}(k:Nat)(e:enA C n k pt ks σ (ee t)=some (.normal,[],ee t,True)):AF C n (some (.inl t)) o (rS ee xx o) pt ks σ:=λO h=>QqI O e (by cases h;exact AK.done ⟨t,rfl,rfl⟩)
def X {q:ρ}{i:Nat}(k:Nat)(e:(enA C n k pt ks σ (xx q).2,(xx q).1)=(some (.exit i,[],(xx q).2,True),.exit i)):AF C n (some (.inr q)) o (rS ee xx o) pt ks σ:=λO h=>QqI O (congrArg Prod.fst e) (by cases h;exact AK.done ⟨q,rfl,(congrArg Prod.snd e).symm,rfl⟩)
def L {q:ρ}(k:Nat)(e:(enA C n k pt ks σ (xx q).2,(xx q).1)=(some (.ret,[],(xx q).2,True),.ret)):AF C n (some (.inr q)) o (rS ee xx o) pt ks σ:=λO h=>QqI O (congrArg Prod.fst e) (by cases h;exact AK.done ⟨q,rfl,(congrArg Prod.snd e).symm,rfl⟩)
end
def Qva (s:St):ResultVar->O_ V
 | .tmp t=>Go.Vm.look s.fr t
 | .cell p T=>match Go.Vm.look s.fr p with
  | some (.loc b 0 0)=>match Go.Vm.look s.hp b with
   | some (.var h)=>match Go.Vm.look EM.ag T with
    | some true=>match Go.Vm.look EM.sz T with
     | some k=>bif Nat.beq k h.length then some (.agg h)else none
     | none=>none
    | some false=>match h with
     | [v]=>some v
     | _=>none
    | none=>none
   | _=>none
  | _=>none
def QqJ (s:St):L_ ResultVar->O_ (L_ V)
 | []=>some []
 | x::l=>match Qva s x with
  | some v=>match QqJ s l with
   | some vs=>some (v::vs)
   | none=>none
  | none=>none
def Qvb {s:St}:∀{l:L_ ResultVar} {vs:L_ V},QqJ s l=some vs->Res prog s l vs:=by
 intro l
 induction l with
 | nil=>intro vs h;cases h;trivial
 | cons x l ih=>
  intro vs h;rw[QqJ]at h;split at h
  ·rename_i v O;split at h
   ·rename_i us hu;cases h;cases x with
    | tmp t=>exact⟨O,ih hu⟩
    | cell p T=>
     refine⟨?_,ih hu⟩;dsimp only[Qva]at O;split at O
     ·rename_i b h1;split at O
      ·rename_i cs h2;split at O
       ·rename_i h3;split at O
        ·rename_i k h4;replace O:=Ya O;cases O.2;exact⟨b,cs,h1,h2,.inl ⟨QA.ag h3,(QA.sz h4).trans (congrArg some (Ye O.1)),rfl⟩⟩
        cases O
       ·rename_i h3;split at O
        ·cases O;exact⟨b,_,h1,h2,.inr ⟨QA.ag h3,rfl⟩⟩
        cases O
       cases O
      cases O
     cases O
   cases h
  cases h
section
variable {α:Type}{a q:α}{C:Xr}{n:Nat}{pt:Pt}{ks ks1:L_ Fr}{σ s:St}
def E {p:α->V->H_->Prop}{O:L_ ResultVar}{v:V}{vs:L_ V}{out:H_}{x:Exit}(k:Nat)(e:(pl_ C n k pt ks σ,Qs2 x,QqJ s O,QfA vs,p a,Xy s.hp (keys out))=(some ⟨.x x,[],s,True⟩,true,some vs,v,Gives v out,some out)):AF C n (some a) q (Qs3 O p q) pt ks σ:=λhC h=>by
 simp only[Prod.mk.injEq]at e;obtain⟨e1,e2,e3,rfl,e5,e6⟩:=e;refine YG hC e1 trivial (AK.done ?_);cases h;have:p a (QfA vs) s.hp:=e5▸gives (Qig (OR e6));cases x<;>first | exact⟨vs,Qvb e3,this⟩|cases e2
end
section
variable {α β γ δ ε ζ:Type}{C:Xr}{n:Nat}{r:α}{o:O_ α}{Q:Exit->St->Prop}{pt pt1:Pt}{ks ks1:L_ Fr}{σ σ1:St}
def QcM (O:JK prog C n)(h:o=some r)(t:AF C n o r Q pt ks σ):AK prog C Q pt ks σ:=t O h
def QlZ (f:AK prog C Q pt1 ks1 σ1->AK prog C Q pt ks σ)(h:AF C n o r Q pt1 ks1 σ1):AF C n o r Q pt ks σ:=λO a=>f (h O a)
def pA_ {l y:L_ β}{f:Unit->O_ α}(k z:Nat)(row:β->L_ V)(e:Vm.go prog C EM n [.n k,.v (.bd []) [] (.sl z (y.map row)),.app ((l++y).map row) (l++y).length] pt ks σ True=some ⟨pt1,ks1,σ1,(True/\V.sl z (y.map row)=.sl z (y.map row))/\((l.map row).length=l.length/\decide (l.length+(y.map row).length<=4294967296)=true/\l.map row++y.map row=(l++y).map row/\l.length+(y.map row).length=(l++y).length)⟩)(h:AF C n (f ()) r Q pt1 ks1 σ1):AF C n ((chk (l.length+y.length<=4294967296)).bind f) r Q pt ks σ:=λO a=>cB_ a λh1 h2=>AK.go QA O _ e ⟨⟨trivial,rfl⟩,Qw,HY h1 Qw,KV,Ui Qw⟩ (h O h2)
def pB_ {l y:L_ β}{f:Unit->O_ α}(k:Nat)(row:β->L_ V)(e:Vm.go prog C EM n [.n k,.app ((l++y).map row) (l++y).length] pt ks σ True=some ⟨pt1,ks1,σ1,True/\((l.map row).length=l.length/\decide (l.length+(y.map row).length<=4294967296)=true/\l.map row++y.map row=(l++y).map row/\l.length+(y.map row).length=(l++y).length)⟩)(h:AF C n (f ()) r Q pt1 ks1 σ1):AF C n ((chk (l.length+y.length<=4294967296)).bind f) r Q pt ks σ:=λO a=>cB_ a λh1 h2=>AK.go QA O _ e ⟨trivial,Qw,HY h1 Qw,KV,Ui Qw⟩ (h O h2)
def aD_ (k t b z:Nat)(e:Vm.go prog C EM n [.n k,.adopt t b z] pt ks σ True=some ⟨pt1,ks1,σ1,True⟩)(h:AF C n o r Q pt1 ks1 σ1):AF C n o r Q pt ks σ:=gT_ _ e h
def zF_ {row:β->L_ V}{l:L_ β}(k b:Nat)(O os:L_ Nat)(e:Vm.go prog C EM n [.n k,.frz b (l.map row) O os] pt ks σ True=some ⟨pt1,ks1,σ1,True/\(True/\(l.length<=(l.map row).length/\(l.map row).take l.length=l.map row))⟩)(h:AF C n o r Q pt1 ks1 σ1):AF C n o r Q pt ks σ:=gA_ _ e ⟨trivial,trivial,Wb Qw⟩ h
def cV_ {γ:Type}{row:γ->L_ V}{l:L_ γ}{a:O_ β}{f:β->O_ α}{fn:Nat}{us:L_ V}{W:β->V}{σ1:β->St}(k:Nat)(ms:L_ Vm.Mode)(c:CT fn us [] a W no_)(e:(λv=>Vm.go prog C EM n [.n k,.o (.c true ms (W v))] pt ks σ True)=λv=>some ⟨pt1,ks1,σ1 v,True/\((l.length<=(l.map row).length/\(l.map row).take l.length=l.map row)/\QP prog fn us [] (Gives (W v) []))⟩)(h:∀v,AF C n (f v) r Q pt1 ks1 (σ1 v)):AF C n (a.bind f) r Q pt ks σ:=λO b=>bE_ b λd h1 h2=>AK.go QA O _ (congrFun e d) ⟨trivial,QlQ rfl,c _ h1⟩ (h d O h2)
def vI_ {φ:Prop}(k b d:Nat)(e:Vm.go prog C EM n [.n k,.o (.any (.loc b 0 d) none)] pt ks σ True=some ⟨pt1,ks1,σ1,True/\φ⟩)(h:AF C n o r Q pt1 ks1 σ1)(p:JK prog C n->φ:=by exact λO σ h1 h2 _=>Qc.idxV rfl rfl (QJ O.n rfl) (h1 _ _ rfl) (h1 _ _ rfl) (QA.es rfl) (h2 _ _ rfl) (by decide)):AF C n o r Q pt ks σ:=λO a=>AK.go QA O _ e ⟨trivial,p O⟩ (h O a)
def zN_ {row:β->L_ V}{l:L_ β}{ops:Array Oper}{op:Oper}{rest:L_ Oper}{x y:Operand}{T U d z t:Nat}(k:Nat)(hT:prog.underlying T=some (.slice t))(o':O_ α)(e:(pl_ C n k pt ks σ,op.guard,op.op,op.dst,Nat.ble (d+1) n,σ1.opd x,σ1.opd y)=(some ⟨.o ops (op::rest),ks1,σ1,True⟩,none,.binOp .eql T x y U,some d,true,some (.sl z (l.map row)),some (.Y)))(h1:AF C n o' r Q (.o ops rest) ks1 (σ1.put d (.b true)))(h2:AF C n o r Q (.o ops rest) ks1 (σ1.put d (.b false)))(h0:l=[]->o=o':=by intro h;subst h;rfl):AF C n o r Q pt ks σ:=λO a=>by
 simp only[Prod.mk.injEq]at e;obtain⟨e1,e2,e3,e4,e5,e6,e7⟩:=e;exact YG O e1 trivial (AK.eqNil e2 e3 e4 (QJ O.n e5) e6 e7 hT (λh=>h1 O ((h0 (List.map_eq_nil_iff.1 h)).symm.trans a)) (h2 O a))
def Qvc {γ1 γ2:Type}{c d:Code}{fr:S_}{hp:H_}(k:Nat)(ts os:L_ Nat)(E:β->γ1->γ2->S_×H_)(K:β->γ1->γ2->O_ α)(e:(pl_ C n k pt ks σ,Xy σ1.fr ts,Xy σ1.hp os)=(some ⟨.c (.seq c d),ks1,σ1,True⟩,some fr,some hp))(g:AF C n o r Q (.c c) (.cut (λs=>∃v0 O v2,s=jn (E v0 O v2) fr hp/\K v0 O v2=some r)::ks1) σ1)(h:∀v0 O v2,AF C n (K v0 O v2) r Q (.c d) ks1 (jn (E v0 O v2) fr hp)):AF C n o r Q pt ks σ:=λhC b=>YG hC (congrArg Prod.fst e) trivial (AK.meet _ (g hC b) λ_ ⟨v0,O,v2,e,a⟩=>e▸h v0 O v2 hC a)
def QoM {γ1 γ2:Type}{E:β->γ1->γ2->St}{K:β->γ1->γ2->O_ α}{v0:β}{O:γ1}{v2:γ2}{ks0:L_ Fr}(k:Nat)(e:pl_ C n k pt ks σ=some ⟨.x .normal,.cut (λs=>∃v0 O v2,s=E v0 O v2/\K v0 O v2=some r)::ks0,σ1,True⟩){o:O_ α}(a:(K v0 O v2,Ns σ1 (E v0 O v2))=(o,some (E v0 O v2))):AF C n o r Q pt ks σ:=λhC h=>YG hC e trivial (IL (congrArg Prod.snd a) (AK.met ⟨v0,O,v2,rfl,(congrArg Prod.fst a).trans h⟩))
def nO_ : AF C n (none:O_ α) r Q pt ks σ:=λ_ h=>by cases h
def jF_ {c:Bool}{x y:O_ α}(f:c=true->AF C n x r Q pt ks σ)(g:c=false->AF C n y r Q pt ks σ):AF C n (bif c then x else y) r Q pt ks σ:=λO a=>bf_ a (λh b=>f h O b) λh b=>g h O b
def s2_ {a:O_ (β⊕γ)}{f:β->O_ α}{g:γ->O_ α}(h1:∀v,a=some (.inl v)->AF C n (f v) r Q pt ks σ)(h2:∀v,a=some (.inr v)->AF C n (g v) r Q pt ks σ):AF C n (a.bind (Sum.elim f g)) r Q pt ks σ:=λO b=>bE_ b λx h a=>match x,h,a with
 | .inl v,h,a=>h1 v h O a
 | .inr v,h,a=>h2 v h O a
def s3_ {a:O_ (β⊕(γ⊕δ))}{f:β->O_ α}{g:γ->O_ α}{k:δ->O_ α}(O:∀v,a=some (.inl v)->AF C n (f v) r Q pt ks σ)(h2:∀v,a=some (.inr (.inl v))->AF C n (g v) r Q pt ks σ)(h3:∀v,a=some (.inr (.inr v))->AF C n (k v) r Q pt ks σ):AF C n (a.bind (Sum.elim f (Sum.elim g k))) r Q pt ks σ:=s2_ O λv h=>match v,h with
 | .inl v,h=>h2 v h
 | .inr v,h=>h3 v h
def s4_ {a:O_ (β⊕(γ⊕(δ⊕ε)))}{f:β->O_ α}{g:γ->O_ α}{k:δ->O_ α}{l:ε->O_ α}(O:∀v,a=some (.inl v)->AF C n (f v) r Q pt ks σ)(h2:∀v,a=some (.inr (.inl v))->AF C n (g v) r Q pt ks σ)(h3:∀v,a=some (.inr (.inr (.inl v)))->AF C n (k v) r Q pt ks σ)(h4:∀v,a=some (.inr (.inr (.inr v)))->AF C n (l v) r Q pt ks σ):AF C n (a.bind (Sum.elim f (Sum.elim g (Sum.elim k l)))) r Q pt ks σ:=s3_ O h2 λv h=>match v,h with
 | .inl v,h=>h3 v h
 | .inr v,h=>h4 v h
def s5_ {a:O_ (β⊕(γ⊕(δ⊕(ε⊕ζ))))}{f:β->O_ α}{g:γ->O_ α}{k:δ->O_ α}{l:ε->O_ α}{m:ζ->O_ α}(O:∀v,a=some (.inl v)->AF C n (f v) r Q pt ks σ)(h2:∀v,a=some (.inr (.inl v))->AF C n (g v) r Q pt ks σ)(h3:∀v,a=some (.inr (.inr (.inl v)))->AF C n (k v) r Q pt ks σ)(h4:∀v,a=some (.inr (.inr (.inr (.inl v))))->AF C n (l v) r Q pt ks σ)(h5:∀v,a=some (.inr (.inr (.inr (.inr v))))->AF C n (m v) r Q pt ks σ):AF C n (a.bind (Sum.elim f (Sum.elim g (Sum.elim k (Sum.elim l m))))) r Q pt ks σ:=s4_ O h2 h3 λv h=>match v,h with
 | .inl v,h=>h4 v h
 | .inr v,h=>h5 v h
def lN_ {c:Code}(k m:Nat)(e:pl_ C n k pt ks σ=some ⟨.c (.loop c),ks1,σ1,True⟩)(h:AF C n o r Q (.c c) (.cut (Rnd prog C Q ks1 c (m-1))::ks1) σ1)(hm:(m-1)+1=m:=by rfl):AF C n o r Q pt ks σ:=λO a=>YG O e trivial (AK.loopN m (hm▸AK.rnd (h O a)))
def rd_ {c:Code}{O:L_ Fr}{m:Nat}(k:Nat)(e:pl_ C n k pt ks σ=some ⟨.x .normal,.cut (Rnd prog C Q O c (m+1))::O,σ1,True⟩)(h:AF C n o r Q (.c c) (.cut (Rnd prog C Q O c m)::O) σ1):AF C n o r Q pt ks σ:=λhC a=>YG hC e trivial (AK.met (AK.rnd (h hC a)))
def vA_ {l:L_ β}{j:Int}{f:β->O_ α}{σ1:β->St}(k:Nat)(row:β->L_ V)(e:(λd=>Vm.go prog C EM n [.n k,.o (.row (row d))] pt ks σ True)=λd=>some ⟨pt1,ks1,σ1 d,(True/\(0<=j/\j<(l.length:Int)))/\(l.map row)[j.toNat]? = some (row d)⟩)(h:∀d,AF C n (f d) r Q pt1 ks1 (σ1 d)):AF C n ((idx l j).bind f) r Q pt ks σ:=λhC a=>bE_ a λd O h2=>AK.go QA hC _ (congrFun e d) ⟨⟨trivial,YZ O rfl⟩,Xz (Jd O).2⟩ (h d hC h2)
end
def dz_ : L_ (Nat×Dw)->L_ Dw
 | []=>[]
 | (k,d)::l=>List.replicate k (.a .no none false)++d::dz_ l
def UF {α:Type}{o:O_ α}{r:α}{id n:Nat}{C:Xr}{Q:Exit->St->Prop}{ops:Array Oper}{ks ks1:L_ Fr}{pt:Pt}{σ base:St}{sf fr:S_}{sh hp:H_}{ri:L_ (It×Nat)}{ms:L_ Yr}{B:St}{φ:Prop}(k:Nat)(e0:pl_ C n k pt ks σ=some ⟨.c (.region id ops true),ks1,base,True⟩)(ds:L_ Dw)(sts O ts os:L_ Nat)(hS:(Xy base.fr sts,Xy base.hp O)=(some sf,some sh))(e:UE prog C EM n ops ⟨sf,sh⟩ ds ops.toList 0 [] [] base True=some ⟨ri,ms,B,φ⟩)(hφ:JK prog C n->φ)(hf:(Xy (LY ms ri++B.fr) ts,Xy (Ia ms ri++B.hp) os,St.closed ⟨fr,hp⟩)=(some fr,some hp,true))(h:AF C n o r Q (.x .normal) ks1 ⟨fr,hp⟩)(hl:ds.length=ops.size:=by rfl)(hk:okV ops base ⟨sf,sh⟩ ⟨ri,ms,B,φ⟩=true:=by kernel_rfl):AF C n o r Q pt ks σ:=λhN a=>YG hN e0 trivial (AK.draw2 QA hN mixed ds sts O ts os (congrArg (λx=>x.1) hS) (congrArg (λx=>x.2) hS) e (hφ hN) hl hk (congrArg (λx=>x.1) hf) (congrArg (λx=>x.2.1) hf) (congrArg (λx=>x.2.2) hf) (h hN a))
def D {α:Type}{o:O_ α}{r:α}{id n:Nat}{C:Xr}{Q:Exit->St->Prop}{ops:Array Oper}{ks ks1:L_ Fr}{pt:Pt}{σ base:St}{sf fr:S_}{sh hp:H_}{ri:L_ (It×Nat)}{ms:L_ Yr}{B:St}{φ:Prop}(k:Nat)(e0:pl_ C n k pt ks σ=some ⟨.c (.region id ops true),ks1,base,True⟩)(ds:L_ Dw)(sts O ts os:L_ Nat)(hS:(Xy base.fr sts,Xy base.hp O)=(some sf,some sh))(e:UE prog C EM n ops ⟨sf,sh⟩ ds ops.toList 0 [] [] base True=some ⟨ri,ms,B,φ⟩)(hφ:φ)(hf:(Xy (LY ms ri++B.fr) ts,Xy (Ia ms ri++B.hp) os,St.closed ⟨fr,hp⟩)=(some fr,some hp,true))(h:AF C n o r Q (.x .normal) ks1 ⟨fr,hp⟩)(hl:ds.length=ops.size:=by rfl)(hk:okV ops base ⟨sf,sh⟩ ⟨ri,ms,B,φ⟩=true:=by kernel_rfl):AF C n o r Q pt ks σ:=λhN a=>YG hN e0 trivial (AK.draw2 QA hN mixed ds sts O ts os (congrArg (λx=>x.1) hS) (congrArg (λx=>x.2) hS) e hφ hl hk (congrArg (λx=>x.1) hf) (congrArg (λx=>x.2.1) hf) (congrArg (λx=>x.2.2) hf) (h hN a))
def mk_ : True:=trivial
end Go.Proofs
namespace Go.Vm
noncomputable abbrev V.G{α:Type}(f:α->L_ V)(x:α):V:=.agg (f x)
noncomputable abbrev V.M{α:Type}(z:Nat)(f:α->L_ V)(l:L_ α):V:=.sl z (l.map f)
noncomputable abbrev V.P{α:Type}(o:Nat)(l:L_ α):V:=.own o l.length
noncomputable abbrev Ob.W{α:Type}(f:α->L_ V)(x:α):Ob:=.var (f x)
noncomputable abbrev Ob.R{α:Type}(z:Nat)(f:α->L_ V)(l:L_ α):Ob:=.arr z (l.map f)
end Go.Vm
namespace Go.Proofs
open Go Go.RowKit Go.Vm Go.Proofs.Tryz
open Option renaming some→Q,bind→j_
open Sum renaming inl→y_,inr→i_
variable (a e:Int)(k:QZ)(r:Bool)(d i0:QBg)(m:(L_ Qg))(c:Int)(b:Qh)(g:Int)(m0:ByteArray)(h j0:QMk)(t:Qo)(c0:Qn)(j:Int)(i:LI_)(e0:Int)(n:QK)(f:Qz)(f1:(L_ ByteArray))(h0:(L_ QR))(o j2:Int)(h3:Qn->O_ Int)(d3:Qn)(k2:LI_->Qn->O_ (Int×Int))(g1:LI_)(i1:Qn)(f0:(L_ (O_ Nat)))(g2:(L_ (Int×(O_ Nat))))(k1:(L_ Qe))(e3:Qz)(g0:Xh)(l:QW)(p:Int)(j3:(QBg×QBg))(m1:Qn->Int->O_ Bool)(c2:Qn)(k0:Int)(l3:LI_)(q g3:Qg)(j1:Int)(c1:QMk)(i3:(QMk×Int))(d4:QMk)(d2:QLL)(d1:(Int×Int×Int))(f3:Int)(d0:Bool)(e1:QBg)(l0:Qh)(s:Int)(m3:(Bool×Ji))(c3:Int)(e2:LI_)(c4:(L_ Qn))(f2:Int)
abbrev Qwt (a0 a1:V):L_ V:=[.J,.J,a0,.J,.J,.J,.J,a1,.J,.J,.J,.J,.J]
abbrev QcN (a0:V):L_ V:=[.J,.J,a0,.J,.J,.J,.J,.J,.J,.J,.J,.J,.J]
abbrev Qwu (a0 a1 a2 a3 a4 a5 a6 a7 a8:V):L_ V:=[.J,.J,.J,.J,a0,a1,a2,a3,a4,.J,a5,a6,a7,.J,.J,.J,.J,.J,.J,.J,.J,.J,.J,.J,.J,.J,.J,.J,.J,.J,.J,.J,.J,.J,.J,.J,.J,.J,.J,.J,.J,.J,.J,.J,.J,.J,.J,.J,.J,.J,.J,.J,.J,.J,a8,.J,.J,.J,.J,.J,.J,.J,.J,.J,.J,.J,.J,.J,.J,.J,.J,.J,.J,.J,.J,.J,.J,.J,.J,.J,.J,.J,.J,.J,.J,.J,.J,.J,.J,.J,.J,.J,.J,.J,.J,.J,.J,.J,.J,.J,.J,.J,.J,.J,.J,.J,.J,.J,.J]
abbrev OS (a0 a1 a2 a3 a4 a5 a6 a7:V):L_ V:=[.J,.J,.J,.J,a0,a1,a2,a3,a4,.J,a5,a6,a7,.J,.J,.J,.J,.J,.J,.J,.J,.J,.J,.J,.J,.J,.J,.J,.J,.J,.J,.J,.J,.J,.J,.J,.J,.J,.J,.J,.J,.J,.J,.J,.J,.J,.J,.J,.J,.J,.J,.J,.J,.J,.J,.J,.J,.J,.J,.J,.J,.J,.J,.J,.J,.J,.J,.J,.J,.J,.J,.J,.J,.J,.J,.J,.J,.J,.J,.J,.J,.J,.J,.J,.J,.J,.J,.J,.J,.J,.J,.J,.J,.J,.J,.J,.J,.J,.J,.J,.J,.J,.J,.J,.J,.J,.J,.J,.J]
def QhZ  : O_ Qh:=Q (Qh.mk ([(QR.mk (⟨#[110]⟩:ByteArray) 2 0 0 ([(⟨#[107]⟩:ByteArray)]:L_ ByteArray) 0 0)]:L_ QR) ([(XR.mk (⟨#[97]⟩:ByteArray) 0 ([]:QBg)),(XR.mk (⟨#[98]⟩:ByteArray) 0 ([]:QBg))]:L_ XR) ([(QW.mk (⟨#[116]⟩:ByteArray) ([]:(L_ Je)) (Qn.mk 1 1 ([]:(L_ Qn))) 1 1 ([(Jf.mk 0 (Qn.mk 1 0 ([]:(L_ Qn))))]:L_ Jf) ([(Jf.mk 1 (Qn.mk 1 0 ([]:(L_ Qn))))]:L_ Jf) ([]:LI_) 2 (1,3,2))]:L_ QW) 0 1)
def Ql0 : CT 12 [] [] (QhZ ) (λr=>(.G Qf r)) no_:=
 W 22 func12 Z<|gA_ [7,.v .no [none,none,Q 3] (.agg (QS (Qn.mk 1 0 ([]:(L_ Qn))))),6,.v .no [none,none,Q 3] (.agg (QS (Qn.mk 1 1 ([]:(L_ Qn))))),6,.v (.bd []) [] (.sl 1 (([(⟨#[107]⟩:ByteArray)]:L_ ByteArray).map Hm)),1,.v (.bd []) [] (.sl 7 (([(QR.mk (⟨#[110]⟩:ByteArray) 2 0 0 ([(⟨#[107]⟩:ByteArray)]:L_ ByteArray) 0 0)]:L_ QR).map XI)),.v .no [none,none,Q 2] (.agg (Xk (XR.mk (⟨#[97]⟩:ByteArray) 0 ([]:QBg)))),.v .no [none,none,Q 2] (.agg (Xk (XR.mk (⟨#[98]⟩:ByteArray) 0 ([]:QBg)))),.v (.bd []) [] (.sl 3 (([(XR.mk (⟨#[97]⟩:ByteArray) 0 ([]:QBg)),(XR.mk (⟨#[98]⟩:ByteArray) 0 ([]:QBg))]:L_ XR).map Xk)),3,.v (.bd []) [] (.sl 4 (([(Jf.mk 0 (Qn.mk 1 0 ([]:(L_ Qn))))]:L_ Jf).map Kj)),2,.v (.bd []) [] (.sl 4 (([(Jf.mk 1 (Qn.mk 1 0 ([]:(L_ Qn))))]:L_ Jf).map Kj)),1,.v .no [none,Q 2,none,none,none,none,none,none,none,Q 1,none,none,none,none] (.agg (QC (QW.mk (⟨#[116]⟩:ByteArray) ([]:(L_ Je)) (Qn.mk 1 1 ([]:(L_ Qn))) 1 1 ([(Jf.mk 0 (Qn.mk 1 0 ([]:(L_ Qn))))]:L_ Jf) ([(Jf.mk 1 (Qn.mk 1 0 ([]:(L_ Qn))))]:L_ Jf) ([]:LI_) 2 (1,3,2)))),.v (.bd []) [] (.sl 14 (([(QW.mk (⟨#[116]⟩:ByteArray) ([]:(L_ Je)) (Qn.mk 1 1 ([]:(L_ Qn))) 1 1 ([(Jf.mk 0 (Qn.mk 1 0 ([]:(L_ Qn))))]:L_ Jf) ([(Jf.mk 1 (Qn.mk 1 0 ([]:(L_ Qn))))]:L_ Jf) ([]:LI_) 2 (1,3,2))]:L_ QW).map QC)),5] Z (aB_ Z Z Z Z Z Z Z Z Z Z Z)<|E 0 Z
def Kk:O_ QBg:=j_ (chk ((([]:QBg).length+d.length)*16<=140737488355328)) λ_=>Q (([]:QBg)++d)
def Bx {a}:CT 30 [.M 2 Qy a] [] (Kk a) (λr=>(.P 600 r)) (λr=>[(600,.R 2 Qy r)]):=
 W 8 func30 Z<|zN_ 9 QvN (Q ([]:QBg)) Z (aD_ 10 2 600 2 Z<|E 0 Z)<|kA_ λb=>K [8,.O 5 (.arr 2 (([]:QBg).map Qy)),.S 5 (.own 5 ([]:QBg).length),1,.x (λσ=>σ.app 5 2 7 (([]:QBg)++a).length ((([]:QBg)++a).map Qy)),4,.ren 5 600] Z (λc=>(a3_ Z Z (Qc.appSB (by_:=16) (zs:=[.I 0,.I 0]) (e:=86) (e':=86) (z':=2) (by':=16) Z Z (QJ c.n Z) Z Z Z Qw (by kernel_rfl) (by kernel_rfl) (by kernel_rfl) Z (by decide) (by decide) (PC b Qw) Z KV (Ui Qw))))<|E 0 Z
def Gv (a:QBg):O_ Unit:=Q ()
def NR {a}:CT 107 [.map 619] [(619,.map (QM V.I V.I a))] (Gv a) (λ_=>(.clo (.func 199) [] [.L 1])) (λ_=>[(1,.var [.map 619]),(619,.map (QM V.I V.I a))]):=
 W 4 func107 Z<|E 13 Z
def WL:O_ LI_:=j_ (chk ((i.length+([e0]:L_ Int).length)*8<=140737488355328)) λ_=>Q (i++([e0]:L_ Int))
def IM (lpl lpf:Nat)(a:LI_)(c:Int){r:LI_}(h:WL a c=Q r):Vj prog lpl (AO lpf) (Qwt (.L 620) (.I c)) [(619,.lp lpl (AO lpf) (QcN (.L 620)) 0),(620,.var [.P 617 a]),(617,.R 1 Qb a)] (Gives (.b true) [(617,.R 1 Qb r),(619,.lp lpl (AO lpf) (QcN (.L 620)) 0),(620,.var [.P 617 r])]):=by
 refine Vj.walk (b:=619) 13 rfl rfl λC d=>?_;refine tg_ d [3] ?_;refine AK.done (an_ rfl (ex_ _ (an_ rfl ?_)));exact QcM d h<|kA_ λf=>K [4,.v (.bd []) [] (.sl 1 (([c]:L_ Int).map Qb)),.x (λσ=>σ.app 617 1 11 (a++([c]:L_ Int)).length ((a++([c]:L_ Int)).map Qb)),1,.O 620 (.var [.own 617 (a++([c]:L_ Int)).length]),2,.K [] [617,619,620]] Z (λd=>(a3_ Z (Qc.appSB (by_:=8) (zs:=[.I 0]) (e:=3) (e':=3) (z':=1) (by':=8) Z Z (QJ d.n Z) Z Z Z Qw (by kernel_rfl) (by kernel_rfl) (by kernel_rfl) Z (by decide) (by decide) (PC f Qw) Z KV (Ui Qw)) Z))<|(λd h=>by
   cases h;refine AK.done ?_;exact ex_ _ (an_ Z (gives r3_)))
def MG (lpl lpf:Nat)(c:LI_)(i:QBg)(hlen:c.length+i.length<=17592186044416):QP prog 199 [.clo (.yield lpl) [] [],.L 621] [(619,.lp lpl (AO lpf) (QcN (.L 620)) 0),(620,.var [.P 617 c]),(617,.R 1 Qb c),(621,.var [.map 622]),(622,.map (QM V.I V.I i))] (λv hs=>∃r:L_ Int,r.Perm (c++i.map Prod.fst)/\Gives (.tup []) [(617,.R 1 Qb r),(619,.lp lpl (AO lpf) (QcN (.L 620)) 0),(620,.var [.P 617 r]),(621,.var [.map 622]),(622,.map (QM V.I V.I i))] v hs):=by
 refine wk_ 14 func199 λC a=>?_;refine tg_ a [3] ?_;refine AK.openMap (b:=622) Ac rfl λk l L4 p s=>?_;refine Yq a [.x (λσ=>(σ.set 5 (.itr k l #[] none)).put 5 (.L 5)),3,.K [0,5] [5,617,619,620,621,622]] rfl (a1_ (Qc.range (b:=622) rfl rfl (QJ a.n rfl) rfl rfl EL rfl)) ?_;have hL0:YR L4 #[]=L4:=by simp[YR]
 have z:(c++(YR L4 #[]).map (λq=>q.2.1)).Perm (c++i.map Prod.fst):=by
  rw[hL0];refine List.Perm.append_left c ?_;have:=s.map Prod.fst;rwa[TM]at this
 refine AK.range (body:=QqA) (λ(_:Nat) seen σ=>∃(cur:O_ Nat) (st:L_ Int),(st++(YR L4 seen).map (λq=>q.2.1)).Perm (c++i.map Prod.fst)/\σ=⟨[(0,.clo (.yield lpl) [] []),lk_ 5],[(5,.itr k l seen cur),(617,.R 1 Qb st),(619,.lp lpl (AO lpf) (QcN (.L 620)) 0),(620,.var [.P 617 st]),(621,.var [.map 622]),(622,.mapX k l (IK V.I V.I L4) (QM V.I V.I i))]⟩) (λ(q:Empty) _ _=>False) (λ_ e σ=>∃st:L_ Int,st.Perm (c++i.map Prod.fst)/\e=.exit 0/\σ=⟨[],[(617,.R 1 Qb st),(619,.lp lpl (AO lpf) (QcN (.L 620)) 0),(620,.var [.P 617 st]),(621,.var [.map 622]),(622,.mapX k l (IK V.I V.I L4) (QM V.I V.I i))]⟩) p s (QrB i 0) (ex_ _ (ex_ c (an_ z rfl))) ?_ ?_
 ·rintro n0 seen σ ⟨cur,o,hpp,rfl⟩ hex;refine tg_ a [2] ?_;refine AK.nextT (b:=5) (m:=622) rfl rfl rfl (QJ a.n rfl) rfl rfl rfl rfl ?_ ?_
  ·intro hleft;refine tg_ a [7,.K [] [617,619,620,621,622]] ?_;exact AK.done (Or.inl (an_ hleft (an_ (λh=>(by cases h)) (ex_ o (an_ (by simpa[hleft] using hpp) (an_ Z Z))))))
  intro O y v9 u;have hpk:=(Qd3 p u).map (λq=>q.2.1);have w:((o++[y])++(YR L4 (seen.push O)).map (λq=>q.2.1)).Perm (c++i.map Prod.fst):=List.Perm.trans (by simpa using (List.Perm.append_left o hpk).symm) hpp;have a0:(o.length+([y]:L_ Int).length)*8<=140737488355328:=by
   have:=w.length_eq;simp at this ⊢;omega
  have t:WL o y=Q (o++[y]):=by
   unfold WL;rw[Qi a0];rfl
  obtain⟨j,hxe⟩:∃x,x=o++[y]:=⟨_,rfl⟩;rw[<-hxe]at t w;refine Yq a [10,.x (λσ=>σ.put 8 (.tup [.I y,.I v9])),8,.x (λσ=>(σ.after [617] [(617,.R 1 Qb j),(619,.lp lpl (AO lpf) (QcN (.L 620)) 0),(620,.var [.P 617 j])]).put 12 (.b true)),6,.K [0,5] [5,617,619,620,621,622]] rfl (a2_ (Qc.entryT (b:=5) (m:=622) (e:=V.I) (f:=V.I) rfl rfl (QJ a.n rfl) rfl u rfl rfl) (Qc.yieldV (b:=619) (M:=[(619,619),(620,620),(617,617)]) (N:=[(617,617),(619,619),(620,620)]) (dead:=[617]) (ms:=(List.replicate 13 .d)) (outs:=[(617,.R 1 Qb j),(619,.lp lpl (AO lpf) (QcN (.L 620)) 0),(620,.var [.P 617 j])]) (r:=.b true) rfl rfl rfl rfl rfl rfl rfl (QJ a.n rfl) a.g rfl rfl (IM _ _ _ _ t))) ?_;exact AK.done (Or.inr (ex_ _ (an_ u (Or.inl (ex_ (n0+1) (an_ Z (an_ Z (ex_ _ (ex_ j (an_ w Z))))))))))
 rintro e σ ⟨o,hpp,rfl,rfl⟩;refine tg_ a [1] ?_;refine AK.closeMap (b:=622) rfl ?_;refine tg_ a [.K [] [617,619,620,621,622]] ?_;refine AK.done ?_;exact ex_ [] (an_ U (ex_ o (an_ hpp (gives r5_))))
def Sv (a:QBg)(h:a.length<=17592186044416):QP prog 270 [.Y,.clo (.func 199) [] [.L 619]] [(619,.var [.map 620]),(620,.map (QM V.I V.I a))] (λv hs=>∃r:L_ Int,r.Perm (a.map Prod.fst)/\Gives (.P 600 r) [(600,.R 1 Qb r),(619,.var [.map 620]),(620,.map (QM V.I V.I a))] v hs):=by
 refine QP.walkR 13 func270 Z ntmps270 Z λC c hR=>?_;refine tg_ c [13,.K [2,4,6] [2,619,620]] ?_;refine Yq c [.adoptO 2 0 607 1,.O 607 (.arr 1 (([]:L_ Int).map Qb)),.O 2 (.var [.own 607 ([]:L_ Int).length])] rfl (a2_ rfl rfl) ?_;refine AK.rangeFE (ι:=L_ Int) (Φ:=λx=>x.Perm (a.map Prod.fst)) 615 [2] [(619,615),(620,2),(617,607),(621,619),(622,620)] [(607,617),(615,619),(2,620),(619,621),(620,622)] [607] [.d,.d] AO c hR (λ_=>rfl) rfl rfl rfl rfl λlpl lpf=>?_;refine ex_ (λb:L_ Int=>[(617,.R 1 Qb b),(619,.lp lpl (AO lpf) (QcN (.L 620)) 0),(620,.var [.P 617 b]),(621,.var [.map 622]),(622,.map (QM V.I V.I a))]) (ex_ (λ_=>.tup []) (ex_ (λb=>_) (ex_ _ (ex_ _ (an_ rfl (an_ rfl (an_ (MG _ _ ([]:L_ Int) a (by simpa using h)) λb=>ex_ _ (ex_ (QcN (.L 2)) (ex_ 0 (an_ rfl (an_ rfl (an_ (bne_iff_ne.1 (show(0 != 1)=true from rfl)) λhpp=>?_))))))))))));refine QuO Z ?_;refine tg_ c [9,.K [4] [607,619,620],.ren 607 600,.K [4] [600,619,620]] ?_;refine AK.done ?_;exact ex_ [_] (an_ (an_ Z U) (ex_ b (an_ hpp (gives r3_))))
def Qbn (a:QBg)(h:a.length<=17592186044416):QP prog 197 [.clo (.func 199) [] [.L 619]] [(619,.var [.map 620]),(620,.map (QM V.I V.I a))] (λv hs=>∃r:L_ Int,r.Perm (a.map Prod.fst)/\Gives (.P 600 r) [(600,.R 1 Qb r),(619,.var [.map 620]),(620,.map (QM V.I V.I a))] v hs):=by
 refine wk_ 5 func197 λC c=>?_;refine tg_ c [8] ?_;refine AK.callE (ι:=L_ Int) (Φ:=λx=>x.Perm (a.map Prod.fst)) [(619,619),(620,620)] [(4,600),(619,619),(620,620)] [] [.d,.d] (λb=>[(600,.R 1 Qb b),(619,.var [.map 620]),(620,.map (QM V.I V.I a))]) (λb=>(.P 600 b)) (λb=>_) rfl c (Ju.fn rfl rfl rfl) rfl (QJ c.n rfl) rfl rfl (Sv a h) (λb=>ex_ _ rfl) λb O=>?_;refine tg_ c [4,.K [2] [4,619,620],.ren 4 600,.K [2] [600,619,620]] ?_;refine AK.done ?_;exact ex_ [_] (an_ (an_ Z U) (ex_ b (an_ O (gives r3_))))
def Wm (l:L_ Int):O_ LI_:=j_ (chk (l.length<4611686018427387904)) λ_=>Q (GO l)
def Ma (l){r}(h:Wm l=Q r):QP prog 198 [.P 619 l] [(619,.R 1 Qb l)] (Gives (.tup []) [(619,.R 1 Qb r)]):=by
 obtain⟨_,a,h⟩:=QU h;cases h;exact QpE QrI l (Xc (QlM a))
def IN:O_ LI_:=j_ (chk (d.length<=17592186044416)) λ_=>Q (GO (d.map Prod.fst))
def QcO {a}:CT 106 [.clo (.func 199) [] [.L 619]] [(619,.var [.map 620]),(620,.map (QM V.I V.I a))] (IN a) (λr=>(.P 600 r)) (λr=>[(600,.R 1 Qb r),(619,.var [.map 620]),(620,.map (QM V.I V.I a))]):=
 W 9 func106 Z<|B λ_ O=>(λe h=>by
   replace O:=Xc (QlM O);cases h;refine tg_ e [8] ?_;refine AK.callE (ι:=L_ Int) (Φ:=λx=>x.Perm (a.map Prod.fst)) [(619,619),(620,620)] [(5,600),(619,619),(620,620)] [] [.d] (λb=>[(600,.R 1 Qb b),(619,.var [.map 620]),(620,.map (QM V.I V.I a))]) (λb=>(.P 600 b)) (λb=>_) rfl e (Ju.fn rfl rfl rfl) rfl (QJ e.n rfl) rfl rfl (Qbn a O) (λb=>ex_ _ rfl) λb hpp=>?_;have f:Wm b=Q (GO (a.map Prod.fst)):=by
    unfold Wm;rw[Qi (by have:=hpp.length_eq;simp at this;omega),QqB hpp];rfl
   have c:(GO (a.map Prod.fst)).length=b.length:=by rw[Ha,hpp.length_eq]
   refine Yq e [6,.cm (.fn) [(619,5)] [(5,619)] [] [.d] [(619,.arr 1 (((GO (a.map Prod.fst))).map Qb))] (.tup []),.S 3 (.own 5 (GO (a.map Prod.fst)).length),.S 5 (.own 5 (GO (a.map Prod.fst)).length),.S 6 (.own 5 (GO (a.map Prod.fst)).length),9,.K [2] [5,619,620],.ren 5 600,.K [2] [600,619,620]] rfl (a4_ (Ma _ f) (by simp[c]) (by simp[c]) (by simp[c])) ?_;refine AK.done ?_;exact ex_ [_] (an_ (an_ Z U) (gives r3_)))
def GW:O_ ((Int×QBg)⊕QBg):=Q (y_ ((Qm (a+1)),d))
def Dp (c:QBg):O_ ((Int×QBg)⊕QBg):=bif (s<(i.length:Int))then j_ (idx i s) λa=>bif (0<((Xa e1 a).getD 0))then j_ (chk ((c.length+([(a,((Xa e1 a).getD 0))]:QBg).length)*16<=140737488355328)) λ_=>GW s (c++([(a,((Xa e1 a).getD 0))]:QBg))else GW s c else Q (i_ c)
def Ed:O_ QBg:=j_ (Gv d) λc=>j_ (IN d) λb=>j_ (Qt (λst=>Dp b d st.1 st.2) (0,([]:QBg))) (λq=>Q q)
def IP {c}:CT 58 [.map 619] [(619,.map (QM V.I V.I c))] (Ed c) (λr=>(.P 600 r)) (λr=>[(600,.R 2 Qy r),(619,.map (QM V.I V.I c))]):=
 W 28 func58 Z<|zA_ 14 .fn [(619,619)] [(7,1),(619,619)] [] NR Z λl=>zA_ 0 .fn [(619,7),(620,619)] [(8,600),(7,619),(619,620)] [] QcO Z λm=>aD_ 5 3 18 2 Z<|lA_ 0 [0,8,9] [8,619] (λst=>([(3,.P 18 st.2),(10,.I st.1)],[(18,.R 2 Qy st.2)])) [] [619] (λq=>(.exit 0,([(3,.P 18 q)],[(18,.R 2 Qy q)]))) Z (λ⟨j,i⟩=>I 6 Z (mE_ 2 [0,8,9,10] [8,619] (λb:QBg=>([(3,.P 18 b)],[(18,.R 2 Qy b)])) (λb=>GW j b) Z (vA_ 4 Qb Z λa=>K [7,.o (.any (.I ((Xa c a).getD 0)) none),3] Z (λg=>(a1_ (λσ d h _=>Qc.lookup (z:=0) Z Z (QJ g.n Z) (d _ _ Z) (h _ _ Z) (d _ _ Z) EL Ac Qed Z)))<|I 0 Z (kA_ λf=>K [5,.o (.any (.I ((Xa c a).getD 0)) none),1,.v (.bd []) [] (.sl 2 (([(a,((Xa c a).getD 0))]:QBg).map Qy)),.x (λσ=>σ.app 18 2 25 (i++([(a,((Xa c a).getD 0))]:QBg)).length ((i++([(a,((Xa c a).getD 0))]:QBg)).map Qy)),3] Z (λg=>(a3_ (λσ d h _=>Qc.lookup (z:=0) Z Z (QJ g.n Z) (d _ _ Z) (h _ _ Z) (d _ _ Z) EL Ac Qed Z) Z (Qc.appSB (by_:=16) (zs:=[.I 0,.I 0]) (e:=86) (e':=86) (z':=2) (by':=16) Z Z (QJ g.n Z) Z Z Z Qw (by kernel_rfl) (by kernel_rfl) (by kernel_rfl) Z (by decide) (by decide) (PC f Qw) Z KV (Ui Qw))))<|P 0 Z Z)<|P 2 Z Z) λb=>R 4 Z)<|X 2 Z) λk=>gT_ [9,.ren 18 600] Z<|E 0 Z
def TU:O_ ((Int×QBg)⊕QBg):=Q (y_ ((Qm (a+1)),d))
def Cy:O_ ((Int×QBg)⊕QBg):=bif (e0<(i.length:Int))then j_ (idx i e0) λa=>bif (0<=a)then TU e0 (Jl Ey e1 a (min2 (Qm (((Xa e1 a).getD 0)+1)) 1048576))else TU e0 e1 else Q (i_ e1)
def QcP:O_ QBg:=j_ (Ed d) λa=>Q a
def SN:O_ QBg:=j_ (Qt (λst=>Cy i st.1 st.2) (0,([]:QBg))) (λq=>QcP q)
def Qh0 {d}:CT 32 [.M 1 Qb d] [] (SN d) (λr=>(.P 600 r)) (λr=>[(600,.R 2 Qy r)]):=
 W 25 func32 Z<|N 15 Z<|lA_ 4 [3,7,8] [] (λst=>([(9,.I st.1)],[(6,.map (QM V.I V.I st.2))])) [3] [] (λq=>(.exit 0,([],[(6,.map (QM V.I V.I q))]))) Z (λ⟨h,c⟩=>I 6 Z (mE_ 2 [3,7,8,9] [] (λb:QBg=>([],[(6,.map (QM V.I V.I b))])) (λb=>TU h b) Z (J 3 Z λa=>I 10 Z (K [5,.o (.any (.I ((Xa c a).getD 0)) none),2,.x (λσ=>σ.set 6 (.map (QM V.I V.I (Jl Ey c a (min2 (Qm (((Xa c a).getD 0)+1)) 1048576))))),2] Z (λi=>(a2_ (λσ g j _=>Qc.lookup (z:=0) Z Z (QJ i.n Z) (g _ _ Z) (j _ _ Z) (g _ _ Z) EL Ac Qed Z) (Qc.mapUpdate (e:=V.I) (f:=V.I) (l:=c) (k:=a) (v:=(min2 (Qm (((Xa c a).getD 0)+1)) 1048576)) Ey Z Z Z Z Z Z EL Ac Z)))<|P 0 Z Z)<|P 2 Z Z) λb=>R 4 Z)<|X 2 Z) λp=>zA_ 5 .fn [(619,6)] [(24,600),(6,619)] [] IP Z λm=>gT_ [4,.ren 24 600] Z<|E 0 Z
def DT:O_ ((Int×Int)⊕(Unit⊕Unit)):=
 bif (g<(d.length:Int))then
 j_ (idx d g) λb=>
 bif ((b.1<=c)||((b.2<1)||(1048576<b.2)))then
 Q (i_ (y_ ()))
 else
 Q (y_ (b.1,(Qm (g+1))))
 else
 Q (i_ (i_ ()))
def SO : O_ Bool:=Q false
def SP : O_ Bool:=Q true
def Gl:O_ Bool:=j_ (Qt (λst=>DT d st.1 st.2) ((-1),0)) (Sum.elim (λq=>SO) (λq=>SP))
def Fh {f}:CT 53 [.M 2 Qy f] [] (Gl f) V.b no_:=
 W 29 func53 Z<|N 14 Z<|F 4 [6,7] [] (λst=>([(3,.I st.1),(8,.I st.2)],[])) [] [] (λq=>(.ret,([(2,.b false)],[]))) [] [] (λq=>(.exit 0,([],[]))) Z (λ⟨d,g⟩=>I 6 Z (J 6 Z λe=>T 7 [5,6,7,8] [5] ([(25,.b ((e.1<=d)||((e.2<1)||(1048576<e.2))))],[]) Z (H 6 Z (λa=>Y 10 25 Z (YW a Z)) λa=>H 5 Z (λc=>Y 5 25 Z (Xe a (YW c Z))) λc=>Y 5 25 Z (Xe a (Xe c Z)))<|I 1 Z (L 9 Z)<|R 13 Z)<|X 2 Z) (λ_=>E 2 Z) (λ_=>E 8 Z)
def Ix:O_ ((Int×QBg)⊕QBg):=bif (c<(d.length:Int))then j_ (idx d c) λa=>Q (y_ ((Qm (c+1)),(Jl Ey e1 a.1 a.2)))else Q (i_ e1)
def OT:O_ (Unit⊕QBg):=j_ (Gl d) λb=>bif (!b)then Q (y_ ())else j_ (Qt (λst=>Ix d st.1 st.2) (0,([]:QBg))) (λq=>Q (i_ q))
def Ar {c}:CP 74 [.M 2 Qy c] [] (OT c) ((Sum.elim (λq=>(Gives (.tup [.lit (.map none),.b false]) [])) (λq=>(Gives (.tup [.map 601,.b true]) [(601,.map (QM V.I V.I q))])))):=
 wP_ 24 func74 Z<|A 10 Fh Z λh=>I 3 Z (E 8 Z)<|N 12 Z<|lA_ 4 [4,11,12] [] (λst=>([(13,.I st.1)],[(10,.map (QM V.I V.I st.2))])) [4] [] (λq=>(.exit 0,([],[(10,.map (QM V.I V.I q))]))) Z (λ⟨i,d⟩=>I 6 Z (J 6 Z λa=>G [11,.x (λσ=>σ.set 10 (.map (QM V.I V.I (Jl Ey d a.1 a.2)))),7] Z (Qc.mapUpdate (e:=V.I) (f:=V.I) (l:=d) (k:=a.1) (v:=a.2) Ey Z Z Z Z Z Z EL Ac Z)<|R 0 Z)<|X 2 Z) λg=>gT_ [10,.ren 10 601] Z<|E 0 Z
def QeQ (b:Unit):O_ (Unit⊕(QBg⊕(QBg⊕(QBg×QBg)))):=j_ (OT d) (Sum.elim (λq=>Q (y_ ())) (λq=>Q (i_ (y_ q))))
def QeR:O_ (Unit⊕(QBg⊕(QBg⊕(QBg×QBg)))):=j_ (OT d) (Sum.elim (λq=>Q (i_ (i_ (y_ i0)))) (λq=>Q (i_ (i_ (i_ (i0,q))))))
def MH:O_ (Unit⊕(QBg⊕(QBg⊕(QBg×QBg)))):=j_ (OT d) (Sum.elim (λq=>QeQ i0 q) (λq=>QeR i0 q))
def Kh {h i}:CP 57 [.M 2 Qy h,.M 2 Qy i] [] (MH h i) ((Sum.elim (λq=>(Gives (.tup [.lit (.map none),.lit (.map none),.b false]) [])) (Sum.elim (λq=>(Gives (.tup [.lit (.map none),.map 603,.b false]) [(603,.map (QM V.I V.I q))])) (Sum.elim (λq=>(Gives (.tup [.map 602,.lit (.map none),.b false]) [(602,.map (QM V.I V.I q))])) (λq=>(Gives (.tup [.map 602,.map 603,.b true]) [(602,.map (QM V.I V.I q.1)),(603,.map (QM V.I V.I q.2))])))))):=
 wP_ 25 func57 Z<|gP_ 10 Z<|s2_ (λm e=>G [.cm (.fn) [] [] [] [.d] [] (.tup [.lit (.map none),.b false]),10] Z (Ar _ e)<|s2_ (λj a=>G [.cm (.fn) [] [] [] [.d] [] (.tup [.lit (.map none),.b false]),21] Z (Ar _ a)<|E 0 Z) λf a=>G [.cm (.fn) [] [(16,601)] [] [.d] [(601,.map (QM V.I V.I f))] (.tup [.map 601,.b true]),21,.ren 16 603] Z (Ar _ a)<|E 0 Z) λk e=>G [.cm (.fn) [] [(11,601)] [] [.d] [(601,.map (QM V.I V.I k))] (.tup [.map 601,.b true]),10] Z (Ar _ e)<|s2_ (λl c=>G [.cm (.fn) [] [] [] [.d] [] (.tup [.lit (.map none),.b false]),21,.ren 11 602] Z (Ar _ c)<|E 0 Z) λg c=>G [.cm (.fn) [] [(16,601)] [] [.d] [(601,.map (QM V.I V.I g))] (.tup [.map 601,.b true]),21,.ren 11 602,.ren 16 603] Z (Ar _ c)<|E 0 Z
def Fi:O_ (QBg⊕Unit):=bif (1048576<((Xa (Jl Ey d c (Qm (((Xa d c).getD 0)+g))) c).getD 0))then Q (i_ ())else Q (y_ (Jl Ey d c (Qm (((Xa d c).getD 0)+g))))
def Qap:O_ (QBg×Int):=j_ (Ed d) λb=>Q (b,0)
def Qaq : O_ (QBg×Int):=Q (([]:QBg),2)
def QfQ:O_ (QBg×Int):=j_ (HZ (λst p=>Fi st p.1 p.2) j3.1 j3.2) (Sum.elim (λq=>Qap q) (λq=>Qaq))
def JB:O_ (QBg×Int):=j_ (MH d i0) (Sum.elim (λq=>Q (([]:QBg),1)) (Sum.elim (λq=>Q (([]:QBg),1)) (Sum.elim (λq=>Q (([]:QBg),1)) (λq=>QfQ q))))
def Qar {a1 b2}:CT 31 [.M 2 Qy a1,.M 2 Qy b2] [] (JB a1 b2) (λr=>(.tup [.M 2 Qy r.1,.I r.2])) no_:=
 W 38 func31 Z<|@λC r=>gP_ 10 Z<|s4_ (λa8 i=>G [.cm (.fn) [] [] [] [.d,.d] [] (.tup [.lit (.map none),.lit (.map none),.b false]),25,.denil 4 [Q 2]] Z (Kh _ i)<|E 0 Z) (λa9 i=>G [.cm (.fn) [] [(14,603)] [] [.d,.d] [(603,.map (QM V.I V.I a9))] (.tup [.lit (.map none),.map 603,.b false]),25,.denil 4 [Q 2]] Z (Kh _ i)<|E 0 Z) (λa5 i=>G [.cm (.fn) [] [(14,602)] [] [.d,.d] [(602,.map (QM V.I V.I a5))] (.tup [.map 602,.lit (.map none),.b false]),25,.denil 4 [Q 2]] Z (Kh _ i)<|E 0 Z) λy i=>G [.cm (.fn) [] [(14,602),(611,603)] [] [.d,.d] [(602,.map (QM V.I V.I y.1)),(603,.map (QM V.I V.I y.2))] (.tup [.map 602,.map 603,.b true]),23] Z (Kh _ i)<|λg h=>AK.openMapK (b:=611) Ac Z λt u L12 O a6 a0=>QcM g h<|K [.x (λσ=>(σ.set 21 (.itr t u #[] none)).put 21 (.L 21)),3,.K [6,21] [14,21,611]] Z (λg=>(a1_ (Qc.range (b:=611) Z Z (QJ g.n Z) Z Z EL Z)))<|B λa7 a3=>(λg h=>by
   refine AK.range (body:=(λst p=>Fi st p.1 p.2)) (λst seen σ=>∃cur:O_ Nat,σ=⟨[(6,.map 14),lk_ 21],[(14,.map (QM V.I V.I st)),(21,.itr t u seen cur),(611,.mapX t u (IK V.I V.I L12) (QM V.I V.I y.2))]⟩) (λq e σ=>e=.ret/\σ=⟨[(4,.Y),(5,.I 2)],[]⟩) (λst e σ=>e=.exit 0/\σ=⟨[(6,.map 14)],[(14,.map (QM V.I V.I st))]⟩) O a0 a3 (ex_ _ rfl) ?_ ?_
   ·rintro a seen σ ⟨cur,rfl⟩ hex;refine tg_ g [2] ?_;refine AK.nextT (b:=21) (m:=611) rfl rfl rfl (QJ g.n rfl) rfl rfl rfl rfl ?_ ?_
    ·intro hleft;refine tg_ g [7,.K [6] [14]] ?_;exact AK.done (Or.inl (an_ hleft (an_ (λh=>(by cases h)) (an_ Z Z))))
    intro b0 c s j;obtain⟨o,h⟩:=hex _ j;have ho:=h;replace h:Fi a c s=Q o:=h;refine Yq g [10,.x (λσ=>σ.put 24 (.tup [.I c,.I s])),10,.o (.any (.I ((Xa a c).getD 0)) none),2,.x (λσ=>σ.set 14 (.map (QM V.I V.I (Jl Ey a c (Qm (((Xa a c).getD 0)+s)))))),6,.o (.any (.I ((Xa (Jl Ey a c (Qm (((Xa a c).getD 0)+s))) c).getD 0)) none),3] rfl (a4_ (Qc.entryT (b:=21) (m:=611) (e:=V.I) (f:=V.I) rfl rfl (QJ g.n rfl) rfl j rfl rfl) (λσ h1 h2 _=>Qc.lookup (z:=0) rfl rfl (QJ g.n rfl) (h1 _ _ rfl) (h2 _ _ rfl) (h1 _ _ rfl) EL Ac Qed rfl) (Qc.mapUpdate (e:=V.I) (f:=V.I) (l:=a) (k:=c) (v:=(Qm (((Xa a c).getD 0)+s))) Ey rfl rfl rfl rfl rfl rfl EL Ac rfl) (λσ h1 h2 _=>Qc.lookup (e:=V.I) (f:=V.I) (l:=(Jl Ey a c (Qm (((Xa a c).getD 0)+s)))) (k:=c) (z:=0) rfl rfl (QJ g.n rfl) (h1 _ _ rfl) (h2 _ _ rfl) (h1 _ _ rfl) EL Ac Qed rfl)) ?_;refine bg_ h (λw h=>Yq g [.T,8,.K [4,5] []] rfl (a1_ w) ?_) λw h=>Yq g [.F,2,.K [6,21] [14,21,611]] rfl (a1_ w) ?_
    ·cases h;exact AK.done (Or.inr (ex_ _ (an_ j (Or.inr (ex_ _ (an_ ho (an_ (λh=>(by cases h)) (an_ Z Z))))))))
    cases h;exact AK.done (Or.inr (ex_ _ (an_ j (Or.inl (ex_ _ (an_ ho (an_ Z (ex_ _ Z))))))))
   rcases a7 with(a | _)
   ·replace h:Qap a=Q r:=h;rintro e σ ⟨rfl,rfl⟩;obtain⟨a2,a4,h⟩:=QU h;refine Yq g [5,.cm (.fn) [(619,14)] [(37,600),(14,619)] [] [.d] [(600,.R 2 Qy a2),(619,.map (QM V.I V.I a))] (.P 600 a2),5,.frz 37 (a2.map Qy) [4] [],.K [4,5] []] rfl (a2_ (IP _ a4) (a1_ (Wb Qw))) ?_;exact E 0 Z g h
   replace h:Qaq=Q r:=h;unfold Qaq at h;rintro e σ ⟨rfl,rfl⟩;refine tg_ g [2,.denil 4 [Q 2],.K [4,5] []] ?_;exact E 0 Z g h)
def Uk:O_ ((Int×QMk)⊕QMk):=j_ (chk ((h.length+([e1]:L_ QBg).length)*24<=140737488355328)) λ_=>Q (y_ ((Qm (j+1)),(h++([e1]:L_ QBg))))
def PX:O_ ((Int×QMk)⊕QMk):=bif (g<(b.Places.length:Int))then j_ (idx b.Places g) λf=>j_ (Kk f.First) λa=>bif (g==b.From)then j_ (SN ([0]:L_ Int)) λd=>j_ (JB a d) λc=>bif (c.2==0)then Uk h g c.1 else Uk h g a else Uk h g a else Q (i_ h)
def AP:O_ QMk:=j_ (Qt (λst=>PX b st.1 st.2) (0,([]:L_ QBg))) (λq=>Q q)
def QbM {g}:CT 17 [.G Qf g] [] (AP g) (λr=>(.P 600 r)) (λr=>[(600,.R 1 Ql r)]):=
 W 40 func17 Z<|N 16 Z<|aD_ 4 3 34 1 Z<|lA_ 0 [1,10,11] [1] (λst=>([(3,.P 34 st.2),(12,.I st.1)],[(34,.R 1 Ql st.2)])) [] [] (λq=>(.exit 0,([(3,.P 34 q)],[(34,.R 1 Ql q)]))) Z (λ⟨h,c⟩=>I 6 Z (J 7 Z λi=>oC_ 10 [.d] Bx Z λf=>mE_ 3 [1,3,10,11,12] [1,34] (λa:QBg=>([(6,.M 2 Qy a)],[])) (λa=>Uk c h a) Z (I 8 Z (G [3,.v (.bd []) [] (.sl 1 (([0]:L_ Int).map Qb))] Z Z<|oC_ 0 [.d] Qh0 Z λj=>zF_ 0 27 [27] [] Z<|G [.frz 19 (f.map Qy) [6,19,25] []] Z (a3_ (Wb Qw) (Wb Qw) (Wb Qw))<|A 0 Qar Z λk=>I 13 Z (P 4 Z Z)<|P 1 Z Z)<|zF_ 1 19 [6] [] Z<|P 0 Z Z) λa=>kA_ λb=>K [3,.v (.bd []) [] (.sl 1 (([a]:L_ QBg).map Ql)),.x (λσ=>σ.app 34 1 37 (c++([a]:L_ QBg)).length ((c++([a]:L_ QBg)).map Ql)),8] Z (λl=>(a2_ Z (Qc.appSB (by_:=24) (zs:=[.Y]) (e:=76) (e':=76) (z':=1) (by':=24) Z Z (QJ l.n Z) Z Z Z Qw (by kernel_rfl) (by kernel_rfl) (by kernel_rfl) Z (by decide) (by decide) (PC b Qw) Z KV (Ui Qw))))<|R 0 Z)<|X 2 Z) λm=>gT_ [9,.ren 34 600] Z<|E 0 Z
def Mb:O_ Qz:=j_ (AP b) λa=>Q (Qz.mk a ([]:L_ Qg) 1 0)
def QbN {a}:CT 5 [.G Qf a] [] (Mb a) (λr=>(.G Xv r)) no_:=
 W 6 func5 Z<|oC_ 9 [.d] QbM Z λb=>G [5,.frz 4 (b.map Ql) [] [2],.denilO 2 [none,Q 11,none,none]] Z (a1_ ⟨(Wb Qw),U⟩)<|E 0 Z
def Da:O_ QMk:=j_ (chk ((([]:L_ QBg).length+h.length)*24<=140737488355328)) λ_=>Q (([]:L_ QBg)++h)
def LL {a}:CT 75 [.M 1 Ql a] [] (Da a) (λr=>(.P 600 r)) (λr=>[(600,.R 1 Ql r)]):=
 W 8 func75 Z<|zN_ 9 QvK (Q ([]:L_ QBg)) Z (aD_ 10 2 600 1 Z<|E 0 Z)<|kA_ λb=>K [8,.O 5 (.arr 1 (([]:L_ QBg).map Ql)),.S 5 (.own 5 ([]:L_ QBg).length),1,.x (λσ=>σ.app 5 1 7 (([]:L_ QBg)++a).length ((([]:L_ QBg)++a).map Ql)),4,.ren 5 600] Z (λc=>(a3_ Z Z (Qc.appSB (by_:=24) (zs:=[.Y]) (e:=76) (e':=76) (z':=1) (by':=24) Z Z (QJ c.n Z) Z Z Z Qw (by kernel_rfl) (by kernel_rfl) (by kernel_rfl) Z (by decide) (by decide) (PC b Qw) Z KV (Ui Qw))))<|E 0 Z
def MI:O_ ((Int×QMk)⊕QMk):=bif (j<(h.length:Int))then j_ (idx c1 j) λc=>j_ (Kk c) λd=>j_ (idx c1 j) λf=>Q (y_ ((Qm (j+1)),(c1.set j.toNat d)))else Q (i_ c1)
def NS:O_ QMk:=j_ (Da h) λa=>j_ (Qt (λst=>MI a st.1 st.2) (0,a)) (λq=>Q q)
def Qdf {g}:CT 39 [.M 1 Ql g] [] (NS g) (λr=>(.P 600 r)) (λr=>[(600,.R 1 Ql r)]):=
 W 22 func39 Z<|oC_ 8 [.d] LL Z λi=>lA_ 12 [9] [] (λst=>([(3,.P 7 st.2),(8,.P 7 st.2),(10,.I st.1)],[(7,.R 1 Ql st.2)])) [] [] (λq=>(.exit 0,([(3,.P 7 q)],[(7,.R 1 Ql q)]))) Z (λ⟨c,e⟩=>I 6 Z (vA_ 8 Ql Z λh=>oC_ 8 [.d] Bx Z λb=>B λf a=>G [1] Z (YZ a Z)<|zF_ 0 18 [18] [] Z<|g3_ [.st (Ql f) ((e.set c.toNat b).map Ql),7,.S 3 (.own 7 (e.set c.toNat b).length),.S 8 (.own 7 (e.set c.toNat b).length)] Z ⟨(Xz (Jd a).2),EI Z⟩ (congrArg (λn=>V.own 7 n) (by simp)) (congrArg (λn=>V.own 7 n) (by simp))<|R 0 Z)<|X 2 Z) λj=>gT_ [9,.ren 7 600] Z<|E 0 Z
def KB:O_ (L_ Qg):=j_ (chk ((([]:L_ Qg).length+m.length)*136<=140737488355328)) λ_=>Q (([]:L_ Qg)++m)
def MJ {a}:CT 40 [.M 11 Qp a] [] (KB a) (λr=>(.P 600 r)) (λr=>[(600,.R 11 Qp r)]):=
 W 8 func40 Z<|zN_ 9 QvL (Q ([]:L_ Qg)) Z (aD_ 10 2 600 11 Z<|E 0 Z)<|kA_ λb=>K [8,.O 5 (.arr 11 (([]:L_ Qg).map Qp)),.S 5 (.own 5 ([]:L_ Qg).length),1,.x (λσ=>σ.app 5 11 7 (([]:L_ Qg)++a).length ((([]:L_ Qg)++a).map Qp)),4,.ren 5 600] Z (λc=>(a3_ Z Z (Qc.appSB (by_:=136) (zs:=[.I 0,.I 0,.Y,.Y,.Y,.I 0,.I 0,.I 0,.I 0,.I 0,.I 0]) (e:=93) (e':=93) (z':=11) (by':=136) Z Z (QJ c.n Z) Z Z Z Qw (by kernel_rfl) (by kernel_rfl) (by kernel_rfl) Z (by decide) (by decide) (PC b Qw) Z KV (Ui Qw))))<|E 0 Z
def Xt:O_ LI_:=j_ (chk ((([]:L_ Int).length+i.length)*8<=140737488355328)) λ_=>Q (([]:L_ Int)++i)
def XV {a}:CT 41 [.M 1 Qb a] [] (Xt a) (λr=>(.P 600 r)) (λr=>[(600,.R 1 Qb r)]):=
 W 8 func41 Z<|zN_ 9 QvM (Q ([]:L_ Int)) Z (aD_ 10 2 600 1 Z<|E 0 Z)<|kA_ λb=>K [8,.O 5 (.arr 1 (([]:L_ Int).map Qb)),.S 5 (.own 5 ([]:L_ Int).length),1,.x (λσ=>σ.app 5 1 7 (([]:L_ Int)++a).length ((([]:L_ Int)++a).map Qb)),4,.ren 5 600] Z (λc=>(a3_ Z Z (Qc.appSB (by_:=8) (zs:=[.I 0]) (e:=3) (e':=3) (z':=1) (by':=8) Z Z (QJ c.n Z) Z Z Z Qw (by kernel_rfl) (by kernel_rfl) (by kernel_rfl) Z (by decide) (by decide) (PC b Qw) Z KV (Ui Qw))))<|E 0 Z
def Ca (d:(L_ Qg)):O_ ((Int×(L_ Qg))⊕(L_ Qg)):=bif (c<(m.length:Int))then j_ (idx d c) λa=>j_ (Xt a.Mode.Vars) λe=>j_ (Xt a.Mode.Ins) λf=>j_ (Xt a.Mode.Outs) λg=>j_ (idx d c) λb=>Q (y_ ((Qm (c+1)),(d.set c.toNat (Qg.mk b.Id (Qo.mk a.Mode.Task e f g) b.Batch b.Until))))else Q (i_ d)
def Yw:O_ Qz:=j_ (NS f.M) λc=>j_ (KB f.Items) λb=>j_ (Qt (λst=>Ca b st.1 st.2) (0,b)) (λq=>Q (Qz.mk c q f.Next f.Now))
def YP {g}:CT 21 [.G Xv g] [] (Yw g) (λr=>(.G Xv r)) no_:=
 W 43 func21 Z<|B λj p=>B λx t=>D 7 Z [.N,.N,.B (.cd false [.d] 1 (j.map Ql) j.length),.N,.N,.B (.co false [.d] 11 (x.map Qp) x.length),.N,.m .s,.N,.m .s] [] [] [1,2] [1,2,11] Z Z (a2_ ⟨(Qdf _ p),Qw⟩ ⟨(MJ _ t),Qw,.inl Z⟩) Z<|lA_ 11 [1,2,16] [2] (λst=>([(15,.P 11 st.2),(17,.I st.1)],[(1,.var [.M 1 Ql j,.P 11 st.2,.I g.Next,.I g.Now]),(11,.R 11 Qp st.2)])) [1,2] [2] (λq=>(.exit 0,([],[(1,.var [.M 1 Ql j,.P 11 q,.I g.Next,.I g.Now]),(11,.R 11 Qp q)]))) Z (λ⟨u,v⟩=>I 6 Z (vA_ 8 Qp Z λh=>B λc k=>B λe l=>B λf o=>B λb i=>D 13 Z [.N,.N,.N,.N,.N,.N,.N,.B (.cd false [.d] 1 (c.map Qb) c.length),.N,.N,.B (.cd false [.d] 1 (e.map Qb) e.length),.N,.N,.B (.cd false [.d] 1 (f.map Qb) f.length),.E (.agg (QE (Qo.mk h.Mode.Task c e f))),.N,.N,.m (.st (Qp b) ((v.set u.toNat (Qg.mk b.Id (Qo.mk h.Mode.Task c e f) b.Batch b.Until)).map Qp))] [] [] [1,2,15,16,17] [1,2,11] Z Z (a6_ ⟨(XV _ k),Qw⟩ ⟨(XV _ l),Qw⟩ ⟨(XV _ o),Qw⟩ Z (YZ i Z) ⟨(Xz (Jd i).2),EI Z⟩) Z<|g2_ [6,.S 15 (.own 11 (v.set u.toNat (Qg.mk b.Id (Qo.mk h.Mode.Task c e f) b.Batch b.Until)).length),.O 1 (.var [.M 1 Ql j,.own 11 (v.set u.toNat (Qg.mk b.Id (Qo.mk h.Mode.Task c e f) b.Batch b.Until)).length,.I g.Next,.I g.Now])] Z (congrArg (λn=>V.own 11 n) (by simp)) (congrArg (λn=>Ob.var [.M 1 Ql j,.own 11 n,.I g.Next,.I g.Now]) (by simp))<|R 0 Z)<|X 2 Z) λw=>G [9,.frz 11 (w.map Qp) [] [2]] Z (a1_ ⟨(Wb Qw),U⟩)<|E 0 Z
def Wn : O_ (Unit⊕(Unit⊕(Unit⊕(Unit⊕Unit)))):=Q (y_ ())
def Cb:O_ (Unit⊕(Unit⊕(Unit⊕(Unit⊕Unit)))):=bif (n.call.Do==1)then Q (i_ (y_ ()))else bif (n.call.Do==2)then Wn else bif (n.call.Do==3)then Wn else bif (n.call.Do==4)then Wn else bif (n.call.Do==5)then Q (i_ (i_ (y_ ())))else bif (n.call.Do==6)then Q (i_ (i_ (i_ (y_ ()))))else Q (i_ (i_ (i_ (i_ ()))))
def DU {a}:CP 42 [.L 619] [(619,.W QT a)] (Cb a) ((Sum.elim (λq=>(Gives (.clo (.func 77) [.L 619] []) [(619,.W QT a)])) (Sum.elim (λq=>(Gives (.clo (.func 76) [.L 619] []) [(619,.W QT a)])) (Sum.elim (λq=>(Gives (.clo (.func 78) [.L 619] []) [(619,.W QT a)])) (Sum.elim (λq=>(Gives (.clo (.func 79) [.L 619] []) [(619,.W QT a)])) (λq=>(Gives (.lit (.nilFunc)) [(619,.W QT a)]))))))):=
 wP_ 28 func42 Z<|mU_ 20 [0] [619] ([],[]) (Wn) Z (I 13 Z (E 25 Z)<|I 9 Z (uA_ 8 Z Z)<|I 9 Z (uA_ 8 Z Z)<|I 9 Z (uA_ 8 Z Z)<|I 9 Z (E 25 Z)<|I 8 Z (E 24 Z)<|E 21 Z)<|E 16 Z
def BN:O_ Int:=bif (e<a)then Q 0 else Q (Qm ((Qm (min2 (IntKind.u64.wrap ((IntKind.u64.wrap e)-(IntKind.u64.wrap a))) 1024))+1))
def Qii {a b}:CT 319 [.I a,.I b] [] (BN a b) V.I no_:=
 W 16 func319 Z<|I 13 Z (E 7 Z)<|K [5,.o (.any (.i .u64 (IntKind.u64.wrap b)) none),1,.o (.any (.i .u64 (IntKind.u64.wrap a)) none),2,.o (.any (.I (Qm (min2 (IntKind.u64.wrap ((IntKind.u64.wrap b)-(IntKind.u64.wrap a))) 1024))) none),5] Z (λd=>(a3_ (λσ c e _=>Qc.convI Z Z (QJ d.n Z) (c _ _ Z) QoJ QfP) (λσ c e _=>Qc.convI Z Z (QJ d.n Z) (c _ _ Z) QoJ QfP) (λσ c e _=>Qc.convI Z Z (QJ d.n Z) (c _ _ Z) QfP QoJ)))<|E 0 Z
def Ul:O_ Bool:=
 Q (bif (97<=a)then((a<=122)||((65<=a)&&(a<=90)))else((65<=a)&&(a<=90)))
def Vn {d}:CT 273 [.i .u8 d] [] (Ul d) V.b no_:=
 W 17 func273 Z<|T 6 [] [] ([(2,.b (bif (97<=d)then((d<=122)||((65<=d)&&(d<=90)))else((65<=d)&&(d<=90))))],[]) Z (H 4 Z (λa=>H 4 Z (λc=>Y 9 2 Z (OP a (YW c Z))) λc=>H 3 Z (λe=>Y 6 2 Z (OP a (Xe c (XW e Z)))) λe=>Y 6 2 Z (OP a (Xe c (Yy e Z)))) λa=>H 7 Z (λf=>Y 6 2 Z (QcE a (XW f Z))) λf=>Y 6 2 Z (QcE a (Yy f Z)))<|E 2 Z
def Hn (a:ByteArray):O_ Bool:=bif (Kq a (⟨#[]⟩:ByteArray))then Q true else bif (32<(a.size:Int))then Q true else (sidx a 0).bind λb=>(Ul b).bind λc=>Q (!c)
def OU:O_ Bool:=j_ (Ul a) λb=>bif (!b)then bif (a<48)then Q (a != 95)else bif (57<a)then Q (a != 95)else Q false else Q false
def OV:O_ (Int⊕(Unit⊕Unit)):=bif r then Q (i_ (y_ ()))else Q (y_ (Qm (a+1)))
def Ee:O_ (Int⊕(Unit⊕Unit)):=bif (j<(m0.size:Int))then j_ (sidx m0 j) λb=>j_ (OU b) (λc=>OV j c)else Q (i_ (i_ ()))
def OW : O_ Bool:=Q false
def OX : O_ Bool:=Q true
def OY:O_ Bool:=bif d0 then Q false else j_ (Qt (λst=>Ee m0 st) 0) (Sum.elim (λq=>OW) (λq=>OX))
def DB:O_ Bool:=j_ (Hn m0) (λb=>OY m0 b)
def OZ {f}:CT 200 [.s f] [] (DB f) V.b no_:=
 W 42 func200 Z<|mV_ 7 [0] [] (λg=>([(17,.b g)],[])) Z (I 4 Z (M 11 Z)<|I 5 Z (M 6 Z)<|B λh d=>G [1,.o (.num h)] Z d<|A 0 Vn Z λk=>M 3 Z) λg=>I 1 Z (E 7 Z)<|F 11 [0,19] [] (λst=>([(20,.I st)],[])) [] [] (λq=>(.ret,([(2,.b false)],[]))) [] [] (λq=>(.exit 0,([],[]))) Z (λi=>I 6 Z (B λe a=>G [14,.o (.num e),4] Z a<|mV_ 0 [0,19,20] [] (λc=>([(40,.b c)],[])) Z (A 2 Vn Z λj=>I 2 Z (I 3 Z (M 9 Z)<|I 5 Z (M 4 Z)<|M 4 Z)<|M 12 Z) λc=>I 1 Z (L 8 Z)<|R 7 Z)<|X 2 Z) (λ_=>E 2 Z) (λ_=>E 8 Z)
def Nz (c:QSB):O_ Bool:=j_ (DB m0) λb=>bif (!b)then Q true else Q ((Xa c m0).getD false)
def NA (d:QSB)(c:ByteArray)(b:Bool):O_ ((Int×QSB)⊕(Unit⊕Unit)):=bif b then Q (i_ (y_ ()))else Q (y_ ((Qm (a+1)),(Jl ltS d c true)))
def Db (e:QSB):O_ ((Int×QSB)⊕(Unit⊕Unit)):=bif (o<(f1.length:Int))then j_ (idx f1 o) λa=>j_ (Nz a e) (λc=>NA o e a c)else Q (i_ (i_ ()))
def NB : O_ Bool:=Q false
def NC : O_ Bool:=Q true
def Ax:O_ Bool:=j_ (Qt (λst=>Db f1 st.1 st.2) (0,([]:QSB))) (Sum.elim (λq=>NB) (λq=>NC))
def Qg4 {g}:CT 320 [.M 1 Hm g] [] (Ax g) V.b no_:=
 W 24 func320 Z<|N 15 Z<|F 4 [3,7,8] [] (λst=>([(9,.I st.1)],[(6,.map (QM V.s V.b st.2))])) [] [] (λq=>(.ret,([(2,.b false)],[]))) [] [] (λq=>(.exit 0,([],[]))) Z (λ⟨p,d⟩=>I 6 Z (J 6 Z λa=>mV_ 6 [3,5,7,8,9] [6] (λc=>([(20,.b c)],[])) Z (A 2 OZ Z λi=>I 2 Z (M 5 Z)<|K [2,.o (.any (.b ((Xa d a).getD false)) none),2] Z (λj=>(a1_ (λσ h m _=>Qc.lookup (z:=false) Z Z (QJ j.n Z) (h _ _ Z) (m _ _ Z) (h _ _ Z) Qj8 QqG Qs1 Z)))<|M 0 Z) λc=>I 1 Z (L 9 Z)<|G [5,.x (λσ=>σ.set 6 (.map (QM V.s V.b (Jl ltS d a true)))),7] Z (Qc.mapUpdate (e:=V.s) (f:=V.b) (l:=d) (k:=a) (v:=true) ltS Z Z Z Z Z Z Qj8 QqG Z)<|R 0 Z)<|X 2 Z) (λ_=>E 2 Z) (λ_=>E 8 Z)
def DL : O_ Int:=Q 0
def BO (b:QR)(a:LI_):O_ Int:=bif (b.Kind==1)then j_ (BN b.Lo b.Hi) λe=>Q e else bif (b.Kind==2)then j_ (Ax b.Names) λf=>bif f then Q (b.Names.length:Int)else DL else bif (b.Kind==3)then bif ((0<=(min2 b.First b.Then))&&((max2 b.First b.Then)<(a.length:Int)))then j_ (idx a b.First) λc=>j_ (idx a b.Then) λd=>Q (Qm (c*d))else DL else DL
def Qij {e c}:CT 276 [.G XI e,.M 1 Qb c] [] (BO e c) V.I no_:=
 W 51 func276 Z<|mU_ 6 [] [] ([],[]) (DL) Z (I 13 Z (A 6 Qii Z λj=>E 6 Z)<|I 6 Z (A 4 Qg4 Z λk=>I 2 Z (N 4 Z<|E 6 Z)<|uA_ 2 Z Z)<|I 6 Z (T 1 [1,2] [2] ([(39,.b ((0<=(min2 e.First e.Then))&&((max2 e.First e.Then)<(c.length:Int))))],[]) Z (H 8 Z (λd=>N 6 Z<|Y 3 39 Z (XW d Z)) λd=>Y 10 39 Z (Yy d Z))<|I 1 Z (B λh f=>B λi g=>D 1 Z (dz_ [(3,.B (.row (Qb h))),(4,.B (.row (Qb i))),(2,.N)]) [] [] [4] [] Z Z (a2_ (Xw f) (Xw g)) Z<|E 4 Z)<|uA_ 2 Z Z)<|uA_ 2 Z Z)<|E 6 Z
def ND (a:QR)(d:QSB)(b:Int):O_ Bool:=j_ (DB a.Name) λc=>bif (!c)then Q true else bif ((Xa d a.Name).getD false)then Q true else bif (b<1)then Q true else Q (decide (1024<b))
def NE (f:QSB)(c:QR)(d:Bool):O_ ((Int×QSB×LI_)⊕(Unit⊕LI_)):=bif d then Q (i_ (y_ ()))else j_ (chk (i.length+([e0]:L_ Int).length<=4294967296)) λ_=>Q (y_ ((Qm (o+1)),(Jl ltS f c.Name true),(i++([e0]:L_ Int))))
def Dc (g:QSB)(a:LI_):O_ ((Int×QSB×LI_)⊕(Unit⊕LI_)):=bif (o<(h0.length:Int))then j_ (idx h0 o) λb=>j_ (BO b a) λc=>j_ (ND b g c) (λe=>NE a c o g b e)else Q (i_ (i_ a))
def Ef:O_ (LI_×Bool):=bif (32<(h0.length:Int))then Q (([]:L_ Int),false)else j_ (Qt (λst=>Dc h0 st.1 st.2.1 st.2.2) (0,([]:QSB),([]:L_ Int))) (Sum.elim (λq=>Q (([]:L_ Int),false)) (λq=>Q (q,true)))
def VT {h}:CT 203 [.M 7 XI h] [] (Ef h) (λr=>(.tup [.M 1 Qb r.1,.b r.2])) no_:=
 W 49 func203 Z<|N 10 Z<|I 3 Z (gT_ [8,.denil 2 [Q 1]] Z<|E 0 Z)<|N 17 Z<|aD_ 4 5 43 1 Z<|F 0 [4,13,14] [] (λst=>([(5,.P 43 st.2.2),(15,.I st.1)],[(12,.map (QM V.s V.b st.2.1)),(43,.R 1 Qb st.2.2)])) [] [] (λq=>(.ret,([(2,.Y),(3,.b false)],[]))) [] [] (λq=>(.exit 0,([(5,.P 43 q)],[(43,.R 1 Qb q)]))) Z (λ⟨y,g,j⟩=>I 6 Z (J 6 Z λa=>cV_ 9 [.d,.o _] Qij Z λm=>mV_ 5 [4,5,7,8,13,14,15] [7,12,43] (λc=>([(39,.b c)],[])) Z (A 3 OZ Z λp=>I 2 Z (M 14 Z)<|K [3,.o (.any (.b ((Xa g a.Name).getD false)) none),2] Z (λt=>(a1_ (λσ i u _=>Qc.lookup (z:=false) Z Z (QJ t.n Z) (i _ _ Z) (u _ _ Z) (i _ _ Z) Qj8 QqG Qs1 Z)))<|I 0 Z (M 8 Z)<|I 4 Z (M 4 Z)<|M 4 Z) λc=>I 1 Z (L 10 Z)<|G [7,.x (λσ=>σ.set 12 (.map (QM V.s V.b (Jl ltS g a.Name true)))),5] Z (Qc.mapUpdate (e:=V.s) (f:=V.b) (l:=g) (k:=a.Name) (v:=true) ltS Z Z Z Z Z Z Qj8 QqG Z)<|pA_ 0 1 Qb Z<|R 8 Z)<|X 2 Z) (λ_=>gT_ [2,.denil 2 [Q 1]] Z<|E 0 Z) (λw=>zF_ 10 43 [2] [] Z<|E 0 Z)
def Du:O_ (Bool×Ji):=
 j_ (Ef h0) λc=>
 bif ((!c.2)||((o<0)||((h0.length:Int)<=o)))then
 Q (false,(Ji.mk ([]:(L_ QR)) ([]:LI_) 0))
 else
 Q (true,(Ji.mk h0 c.1 o))
def SQ {e d}:CT 145 [.M 7 XI e,.I d] [] (Du e d) (λr=>(.tup [.G Lj r.2,.b r.1])) no_:=
 W 30 func145 Z<|A 9 VT Z λf=>T 9 [0,1,4,6] [4] ([(24,.b ((!f.2)||((d<0)||((e.length:Int)<=d))))],[]) Z (H 4 Z (λc=>Y 10 24 Z (YW c Z)) λc=>H 4 Z (λa=>Y 6 24 Z (Xe c (YW a Z))) λa=>N 2 Z<|Y 3 24 Z (Xe c (Xe a Z)))<|I 1 Z (G [2,.v .no [Q 7,Q 1,none] (.agg (Lj (Ji.mk ([]:(L_ QR)) ([]:LI_) 0))),6] Z Z<|E 0 Z)<|E 13 Z
def YL:O_ Int:=j_ (Du h0 o) λb=>bif (!b.1)then Q 0 else j_ (idx b.2.sizes o) λd=>Q d
def Ho {a b}:CT 72 [.M 7 XI a,.I b] [] (YL a b) V.I no_:=
 W 20 func72 Z<|A 9 SQ Z λc=>I 15 Z (E 7 Z)<|J 7 Z λd=>E 5 Z
def PY:O_ Bool:=j_ (Gl d) λa=>bif (!a)then Q true else bif (0<(d.length:Int))then j_ (idx d (Qm ((d.length:Int)-1))) λb=>Q (decide (c<=b.1))else Q false
def PZ:O_ (Int⊕(Unit⊕Unit)):=bif r then Q (i_ (y_ ()))else Q (y_ (Qm (a+1)))
def Um:O_ (Int⊕(Unit⊕Unit)):=bif (s<(h.length:Int))then j_ (idx h s) λg=>j_ (idx l0.Places s) λb=>j_ (YL l0.Colours b.Colour) λc=>j_ (PY g c) (λd=>PZ s d)else Q (i_ (i_ ()))
def AQ:O_ Bool:=bif ((h.length:Int) != (b.Places.length:Int))then Q false else j_ (Qt (λst=>Um h b st) 0) (Sum.elim (λq=>Q false) (λq=>Q true))
def QbO {j k}:CT 36 [.G Qf j,.M 1 Ql k] [] (AQ j k) V.b no_:=
 W 50 func36 Z<|N 10 Z<|N 2 Z<|I 3 Z (E 7 Z)<|N 6 Z<|F 4 [2,14,15] [2] (λst=>([(16,.I st)],[])) [] [] (λq=>(.ret,([(4,.b false)],[]))) [] [] (λq=>(.exit 0,([],[]))) Z (λn=>I 6 Z (J 7 Z λo=>B λh e=>B λi f=>D 6 Z (dz_ [(5,.B (.row (Xk h))),(2,.B (.C2 (.I i))),(0,.N)]) [] [] [2,6,7,14,15,16] [2] Z Z (a2_ (Xw e) (Ho _ f)) Z<|mV_ 2 [2,14,15,16] [2] (λg=>([(48,.b g)],[])) Z (A 2 Fh Z λl=>I 2 Z (M 16 Z)<|N 1 Z<|I 2 Z (N 2 Z<|J 1 Z λm=>M 7 Z)<|M 12 Z) λg=>I 1 Z (L 8 Z)<|R 7 Z)<|X 2 Z) (λ_=>E 2 Z) (λ_=>E 8 Z)
def DC:O_ Bool:=Q ((e<=a)&&(a<=c))
def DM {e a c}:CT 228 [.I e,.I a,.I c] [] (DC e a c) V.b no_:=
 W 15 func228 Z<|T 6 [] [] ([(6,.b ((a<=e)&&(e<=c)))],[]) Z (H 5 Z (λd=>Y 6 6 Z (XW d Z)) λd=>Y 6 6 Z (Yy d Z))<|E 2 Z
def Fj:O_ Int:=Q (Qm ((Qm (k.Open+k.Done))+k.Failed))
def QbP {a}:CT 242 [.G XK a] [] (Fj a) V.I no_:=
 W 11 func242 Z<|E 20 Z
def Lk:O_ Bool:=j_ (DC k.Most 1 16) λb=>bif (!b)then Q true else j_ (DC k.Enough 1 k.Most) λc=>Q (!c)
def Yi:O_ (Int⊕(Unit⊕Unit)):=bif (c<(([k.Open,k.Done,k.Failed]:L_ Int).length:Int))then j_ (idx ([k.Open,k.Done,k.Failed]:L_ Int) c) λa=>j_ (DC a 0 k.Most) λd=>bif (!d)then Q (i_ (y_ ()))else Q (y_ (Qm (c+1)))else Q (i_ (i_ ()))
def Ra:O_ Bool:=j_ (Fj k) λa=>j_ (DC a 1 k.Most) λb=>Q b
def Gw:O_ Bool:=bif r then Q false else j_ (Qt (λst=>Yi k st) 0) (Sum.elim (λq=>Q false) (λq=>Ra k))
def Jw:O_ Bool:=j_ (Lk k) (λb=>Gw k b)
def Ll {e}:CT 158 [.G XK e] [] (Jw e) V.b no_:=
 W 40 func158 Z<|mV_ 8 [1] [1] (λj=>([(16,.b j)],[])) Z (A 3 DM Z λo=>I 2 Z (M 8 Z)<|A 4 DM Z λp=>M 3 Z) λj=>I 1 Z (E 7 Z)<|G [11,.v (.bd []) [] (.sl 1 (([e.Open,e.Done,e.Failed]:L_ Int).map Qb))] Z Z<|N 0 Z<|F 4 [1,23,24] [1] (λst=>([(25,.I st)],[])) [] [] (λq=>(.ret,([(2,.b false)],[]))) [1] [1] (λq=>(.exit 0,([],[]))) Z (λk=>I 6 Z (J 6 Z λl=>A 9 DM Z λm=>I 3 Z (L 8 Z)<|R 7 Z)<|X 2 Z) (λ_=>E 2 Z) (λ_=>B λh f=>B λi g=>D 3 Z [.N,.B (.C1 (.I h)),.N,.N,.B (.C3 (.b i)),.N] [] [] [2] [] Z Z (a2_ (QbP _ f) (DM _ g)) Z<|E 2 Z)
def MK:O_ Bool:=j_ (Jw k) λb=>bif b then bif (k.Enough<=k.Done)then Q true else Q (k.Open==0)else Q false
def SR:O_ Bool:=Q r
def Kr:O_ Bool:=j_ (MK k) (λb=>SR b)
def SS {a}:CT 151 [.G XK a] [] (Kr a) V.b no_:=
 W 17 func151 Z<|mV_ 7 [] [] (λc=>([(2,.b c)],[])) Z (A 2 Ll Z λd=>I 1 Z (I 6 Z (M 7 Z)<|M 7 Z)<|M 13 Z) λc=>E 2 Z
def Pa:O_ Bool:=bif (q.Id<=j1)then Q true else bif (f3<=q.Id)then Q true else bif (q.Until<0)then Q true else j_ (Jw q.Batch) λc=>bif (!c)then Q true else j_ (Kr q.Batch) λd=>Q d
def Qas:O_ ((Int×Int)⊕(Unit⊕Unit)):=bif d0 then Q (i_ (y_ ()))else Q (y_ (q.Id,(Qm (j1+1))))
def Eg:O_ ((Int×Int)⊕(Unit⊕Unit)):=bif (j<(m.length:Int))then j_ (idx m j) λb=>j_ (Pa b g c) (λd=>Qas b j d)else Q (i_ (i_ ()))
def Ot:O_ Bool:=j_ (Qt (λst=>Eg m c st.1 st.2) (0,0)) (Sum.elim (λq=>Q false) (λq=>Q (decide ((m.length:Int)<=64))))
def Qim {d next_2}:CT 80 [.M 11 Qp d,.I next_2] [] (Ot d next_2) V.b no_:=
 W 46 func80 Z<|N 14 Z<|F 4 [0,1,8,9] [] (λst=>([(5,.I st.1),(10,.I st.2)],[])) [] [] (λq=>(.ret,([(4,.b false)],[]))) [0] [] (λq=>(.exit 0,([],[]))) Z (λ⟨c,h⟩=>I 6 Z (J 6 Z λe=>mV_ 7 [0,1,7,8,9,10] [7] (λa=>([(39,.b a)],[])) Z (I 6 Z (M 22 Z)<|I 6 Z (M 16 Z)<|I 5 Z (M 11 Z)<|A 2 Ll Z λf=>I 3 Z (M 5 Z)<|A 2 SS Z λg=>M 2 Z) λa=>I 1 Z (L 9 Z)<|R 13 Z)<|X 2 Z) (λ_=>E 2 Z) (λ_=>N 5 Z<|E 5 Z)
def GX (b:Ji):O_ Bool:=bif (0<=a)then j_ (idx b.sizes b.k) λc=>Q (decide (a<c))else Q false
def SA:O_ Bool:=Q r
def KC (a:Ji)(b:Int):O_ Bool:=j_ (GX b a) (λc=>SA c)
def SB {a c}:CT 291 [.G Lj a,.I c] [] (KC a c) V.b no_:=
 W 17 func291 Z<|mV_ 7 [] [] (λd=>([(4,.b d)],[])) Z (I 4 Z (J 5 Z λe=>M 5 Z)<|M 11 Z) λd=>E 2 Z
def JX (a:Ji):O_ QR:=j_ (idx a.all a.k) λb=>Q b
def Cz {a}:CT 292 [.G Lj a] [] (JX a) (λr=>(.G XI r)) no_:=
 W 9 func292 Z<|J 12 Z λb=>E 5 Z
def Cc:O_ Bool:=bif (!m3.1)then Q true else j_ (KC m3.2 c3) λa=>Q (!a)
def Cd (e:Bool):O_ (Int×Bool):=bif e then Q (0,false)else j_ (JX m3.2) λa=>bif (a.Kind==1)then j_ (JX m3.2) λb=>Q ((Qm (b.Lo+c3)),true)else Q (c3,true)
def Dj:O_ (Int×Bool):=j_ (Du h0 o) λb=>j_ (Cc b j2) (λe=>Cd b j2 e)
def QfS {f g h}:CT 243 [.M 7 XI f,.I g,.I h] [] (Dj f g h) (λr=>(.tup [.I r.1,.b r.2])) no_:=
 W 36 func243 Z<|A 10 SQ Z λl=>mV_ 11 [2,8] [8] (λi=>([(16,.b i)],[])) Z (I 4 Z (M 7 Z)<|A 2 SB Z λj=>M 4 Z) λi=>I 1 Z (E 9 Z)<|A 3 Cz Z λa=>K [.o (.any (.I a.Kind) none),4] Z (λc=>(a1_ (λσ d k _=>Qc.field Z Z (QJ c.n Z) (d _ _ Z) Qt4 Z)))<|I 0 Z (A 3 Cz Z λe=>K [.o (.any (.I e.Lo) none),9] Z (λc=>(a1_ (λσ d k _=>Qc.field Z Z (QJ c.n Z) (d _ _ Z) Qt5 Z)))<|E 0 Z)<|E 11 Z
def DD:O_ ((Int×LI_)⊕(Unit⊕LI_)):=bif (s<(l.Vars.length:Int))then j_ (idx l.Vars s) λf=>j_ (idx l3 s) λg=>j_ (Dj l0.Colours f.Colour g) λe=>bif (!e.2)then Q (i_ (y_ ()))else j_ (idx e2 s) λi=>Q (y_ ((Qm (s+1)),(e2.set s.toNat e.1)))else Q (i_ (i_ e2))
def WM:O_ (LI_×Int):=
 bif ((g<0)||((b.Tasks.length:Int)<=g))then
 Q (([]:L_ Int),3)
 else
 j_ (idx b.Tasks g) λa=>
 bif ((i.length:Int) != (a.Vars.length:Int))then
 Q (([]:L_ Int),1)
 else
 j_ (chk (decide (0<=(a.Vars.length:Int))&&decide ((a.Vars.length:Int)<=(a.Vars.length:Int))&&decide ((a.Vars.length:Int)<=4294967296))) λ_=>
 j_ (Qt (λst=>DD a i b st.1 st.2) (0,(List.replicate (a.Vars.length:Int).toNat (0:Int)))) (Sum.elim (λq=>Q (([]:L_ Int),1)) (λq=>Q (q,0)))
def VF {t e f}:CT 160 [.G Qf t,.I e,.M 1 Qb f] [] (WM t e f) (λr=>(.tup [.M 1 Qb r.1,.I r.2])) no_:=
 W 64 func160 Z<|T 9 [1,2,3] [3] ([(22,.b ((e<0)||((t.Tasks.length:Int)<=e)))],[]) Z (H 4 Z (λi=>Y 7 22 Z (YW i Z)) λi=>N 3 Z<|Y 3 22 Z (Xe i Z))<|I 1 Z (gT_ [8,.denil 6 [Q 1]] Z<|E 0 Z)<|J 7 Z λj=>N 9 Z<|N 1 Z<|I 3 Z (gT_ [8,.denil 6 [Q 1]] Z<|E 0 Z)<|N 5 Z<|kA_ λk=>g2_ [.o (.rows ((List.replicate (j.Vars.length:Int).toNat (0:Int)).map Qb)),.S 36 (.own 36 (List.replicate (j.Vars.length:Int).toNat (0:Int)).length),7] Z ⟨k,Qri Z⟩ (by simp)<|N 0 Z<|F 4 [2,3,37,38] [3] (λst=>([(9,.P 36 st.2),(39,.I st.1)],[(36,.R 1 Qb st.2)])) [] [] (λq=>(.ret,([(6,.Y),(7,.I 1)],[]))) [] [] (λq=>(.exit 0,([(9,.P 36 q)],[(36,.R 1 Qb q)]))) Z (λ⟨l,m⟩=>I 6 Z (J 7 Z λw=>B λu p=>B λg s=>D 7 Z (dz_ [(6,.B (.row (Qb u))),(1,.B (.C3 (.tup [.I g.1,.b g.2]))),(4,.N)]) [] [] [2,3,9,10,12,13,37,38,39] [3,36] Z Z (a2_ (Xw p) (QfS _ s)) Z<|I 8 Z (L 10 Z)<|B λv h=>g3_ [7,.st (Qb v) ((m.set l.toNat g.1).map Qb),7,.S 9 (.own 36 (m.set l.toNat g.1).length)] Z (YZ h Z) ⟨(Xz (Jd h).2),EI Z⟩ (congrArg (λn=>V.own 36 n) (by simp))<|R 0 Z)<|X 2 Z) (λ_=>gT_ [2,.denil 6 [Q 1]] Z<|E 0 Z) (λx=>zF_ 10 36 [6] [] Z<|E 0 Z)
def Rb:O_ ((Int×Int)⊕Int):=bif (k0<(c0.Kids.length:Int))then j_ (idx c0.Kids k0) λe=>j_ (h3 e) λb=>Q (y_ ((max2 p b),(Qm (k0+1))))else Q (i_ p)
def QbQ:O_ Int:=Q (Qm (a+1))
def ML:O_ Int:=j_ (Qt (λst=>Rb d3 h3 st.1 st.2) (0,0)) (λq=>QbQ q)
def KW : Nat->Qn->O_ Int
 | 0,_=>none
 | n+1,a=>ML (KW n) a
def Rc:O_ Int:=KW (SizeOf.sizeOf c0) c0
def Qg7 {O:Qn->O_ Int}{hrec_expr_Depth:∀(a:Qn) {r:Int},O a=Q r->QP prog 215 [.G QS a] [] (Gives (.I r) [])}{a:Qn}:CT 215 [.G QS a] [] (ML O a) V.I no_:=
 W 20 func215 Z<|nR_ 16 Ab Z<|lA_ 4 [7,8] [] (λst=>([(3,.I st.1),(9,.I st.2)],[])) [] [] (λq=>(.exit 0,([(3,.I q)],[]))) Z (λ⟨g,h⟩=>I 6 Z (xR_ 6 JL Z λi f=>B λe b=>G [8,.o (.C1 (.I e)),9] Z (hrec_expr_Depth _ b)<|R 0 Z)<|X 2 Z) λj=>E 10 Z
def VU : ∀(fuel:Nat) (a:Qn) {r:Int},KW fuel a=Q r->QP prog 215 [.G QS a] [] (Gives (.I r) [])
 | 0,_,_,h=>by cases h
 | n+1,a,_,h=>@Qg7 (KW n) (λ_ _ h=>VU n _ h) a _ h
def Qkf (a){r}(h:Rc a=Q r):QP prog 215 [.G QS a] [] (Gives (.I r) []):=VU _ a h
def SU:O_ ((Int×Int)⊕Int):=bif (k0<(c0.Kids.length:Int))then j_ (idx c0.Kids k0) λe=>j_ (h3 e) λb=>Q (y_ ((Qm (p+b)),(Qm (k0+1))))else Q (i_ p)
def Qdg:O_ Int:=Q a
def Ou:O_ Int:=j_ (Qt (λst=>SU d3 h3 st.1 st.2) (1,0)) (λq=>Qdg q)
def WG : Nat->Qn->O_ Int
 | 0,_=>none
 | n+1,a=>Ou (WG n) a
def TV:O_ Int:=WG (SizeOf.sizeOf c0) c0
def Qin {O:Qn->O_ Int}{hrec_expr_Size:∀(a:Qn) {r:Int},O a=Q r->QP prog 216 [.G QS a] [] (Gives (.I r) [])}{a:Qn}:CT 216 [.G QS a] [] (Ou O a) V.I no_:=
 W 19 func216 Z<|nR_ 16 Ab Z<|lA_ 4 [7,8] [] (λst=>([(3,.I st.1),(9,.I st.2)],[])) [] [] (λq=>(.exit 0,([(3,.I q)],[]))) Z (λ⟨g,h⟩=>I 6 Z (xR_ 6 JL Z λi f=>B λe b=>G [8,.o (.C1 (.I e)),9] Z (hrec_expr_Size _ b)<|R 0 Z)<|X 2 Z) λj=>E 9 Z
def Qat : ∀(fuel:Nat) (a:Qn) {r:Int},WG fuel a=Q r->QP prog 216 [.G QS a] [] (Gives (.I r) [])
 | 0,_,_,h=>by cases h
 | n+1,a,_,h=>@Qin (WG n) (λ_ _ h=>Qat n _ h) a _ h
def Ql2 (a){r}(h:TV a=Q r):QP prog 216 [.G QS a] [] (Gives (.I r) []):=Qat _ a h
def Ay:O_ Int:=bif r then Q 1 else bif (a==5)then Q 2 else bif (a==6)then Q 3 else Q (-1)
def Az:O_ Int:=bif r then Q 0 else bif (a==3)then Ay a (a==3)else Ay a (a==4)
def NT:O_ Int:=bif (a==1)then Az a (a==1)else Az a (a==2)
def Ql3 {a}:CT 278 [.I a] [] (NT a) V.I no_:=
 W 14 func278 Z<|mE_ 12 [3] [] (λc:Bool=>([(4,.b c)],[])) (λc=>Az a c) Z (I 6 Z (P 1 Z Z)<|P 4 Z Z) λc=>I 0 Z (E 8 Z)<|mE_ 0 [3] [] (λd:Bool=>([(7,.b d)],[])) (λd=>Ay a d) Z (I 6 Z (P 1 Z Z)<|P 4 Z Z) λd=>I 0 Z (E 8 Z)<|I 6 Z (E 8 Z)<|I 6 Z (E 8 Z)<|E 9 Z
def Mc:O_ Bool:=Q ((1<=a)&&(a<=11))
def Qkg {JE}:CT 279 [.I JE] [] (Mc JE) V.b no_:=
 W 9 func279 Z<|T 6 [] [] ([(2,.b ((1<=JE)&&(JE<=11)))],[]) Z (H 4 Z (λa=>Y 5 2 Z (XW a Z)) λa=>Y 5 2 Z (Yy a Z))<|E 2 Z
def MM:O_ Bool:=j_ (m1 c2 k0) λc=>Q (!c)
def Qg8 {O:Qn->Int->O_ Bool}{hrec_expr_parts:∀(g:Qn) (a:Int) {r:Bool},O g a=Q r->QP prog 217 [.G QS g,.I a] [] (Gives (.b r) [])}{h:Qn}{e:Int}:CT 281 [.G QS h,.L 619] [(619,.W Qb e)] (MM O h e) V.b (λ_=>[(619,.W Qb e)]):=
 W 8 func281 Z<|B λi f=>G [10,.o (.C2 (.b i)),5] Z (hrec_expr_parts _ _ f)<|E 0 Z
def XN (h:Qn->Int->O_ Bool)(d:Int)(a:Int):O_ (Int⊕(Int⊕Unit)):=bif (a<(c4.length:Int))then j_ (idx c4 a) λe=>j_ (MM h e d) λb=>bif b then Q (i_ (y_ a))else Q (y_ (Qm (a+1)))else Q (i_ (i_ ()))
def JM:O_ Int:=j_ (Qt (λst=>XN c4 m1 f2 st) 0) (Sum.elim (λq=>Q q) (λq=>Q (-1)))
def Ig {O:Qn->Int->O_ Bool}{hrec_expr_parts:∀(g:Qn) (a:Int) {r:Bool},O g a=Q r->QP prog 217 [.G QS g,.I a] [] (Gives (.b r) [])}{h:(L_ Qn)}{e:Int}:CT 321 [.sl 3 (Wc h),.clo (.func 281) [] [.L 619]] [(619,.W Qb e)] (JM O h e) V.I (λ_=>[(619,.W Qb e)]):=
 W 19 func321 Z<|nR_ 9 Ab Z<|F 4 [0,1,7] [619] (λst=>([(8,.I st)],[])) [] [619] (λq=>(.ret,([(4,.I q)],[]))) [] [619] (λq=>(.exit 0,([],[]))) Z (λj=>I 6 Z (xR_ 15 JL Z λk i=>B λf c=>G [1,.cm (.clo) [(619,619)] [(619,619)] [] [.d,.d] [(619,.W Qb e)] (.b f),2] Z (@Qg8 O hrec_expr_parts _ _ _ c)<|I 0 Z (L 9 Z)<|R 7 Z)<|X 2 Z) (λl=>E 2 Z) (λ_=>E 8 Z)
def XO:O_ Bool:=j_ (JM m1 c4 f2) λc=>Q (decide (0<=c))
def Fk {O:Qn->Int->O_ Bool}{hrec_expr_parts:∀(f:Qn) (a:Int) {r:Bool},O f a=Q r->QP prog 217 [.G QS f,.I a] [] (Gives (.b r) [])}{g:(L_ Qn)}{c:Int}:CT 280 [.sl 3 (Wc g),.clo (.func 281) [] [.L 619]] [(619,.W Qb c)] (XO O g c) V.b (λ_=>[(619,.W Qb c)]):=
 W 9 func280 Z<|B λh e=>G [9,.cm (.fn) [(619,619)] [(619,619)] [] [.d,.d] [(619,.W Qb c)] (.I h),5] Z (@Ig O hrec_expr_parts _ _ _ e)<|E 0 Z
def Re:O_ Bool:=bif (c0.Kind==5)then j_ (Mc c0.Num) λa=>Q (!a)else Q false
def Rf:O_ Bool:=bif d0 then Q false else j_ (XO m1 c2.Kids k0) λc=>Q (!c)
def Fl:O_ Bool:=
 j_ (NT c2.Kind) λd=>
 bif ((c2.Kids.length:Int) != d)then
 Q false
 else
 bif ((c2.Kind==2)&&((c2.Num<0)||(k0<=c2.Num)))then
 Q false
 else
 j_ (Re c2) (λc=>Rf m1 c2 k0 c)
def YS : Nat->Qn->Int->O_ Bool
 | 0,_,_=>none
 | n+1,b,a=>Fl (YS n) b a
def Rg:O_ Bool:=YS (SizeOf.sizeOf c0) c0 j
def Qg9 {O:Qn->Int->O_ Bool}{hrec_expr_parts:∀(f:Qn) (e:Int) {r:Bool},O f e=Q r->QP prog 217 [.G QS f,.I e] [] (Gives (.b r) [])}{f:Qn}{e:Int}:CT 217 [.G QS f,.I e] [] (Fl O f e) V.b no_:=
 W 43 func217 Z<|B λm k=>D 10 Z [.N,.N,.B (.ln f.Kids.length),.N,.N,.B (.C1 (.I m)),.N,.N] [] [] [2,3,5] [2,3] Z Z (a2_ (Ab _) (Ql3 _ k)) Z<|I 1 Z (E 8 Z)<|T 1 [2,3] [2,3] ([(13,.b ((f.Kind==2)&&((f.Num<0)||(e<=f.Num))))],[]) Z (H 5 Z (λg=>H 4 Z (λh=>Y 8 13 Z (XW g (YW h Z))) λh=>Y 8 13 Z (XW g (Xe h Z))) λg=>Y 12 13 Z (Yy g Z))<|I 1 Z (E 8 Z)<|mV_ 1 [2,3] [2,3] (λi=>([(28,.b i)],[])) Z (I 5 Z (A 2 Qkg Z λo=>M 4 Z)<|M 7 Z) λi=>I 1 Z (E 8 Z)<|B λl j=>G [8,.cm (.fn) [(619,3)] [(3,619)] [] [.d,.d] [(619,.W Qb e)] (.b l),5] Z (@Fk O hrec_expr_parts _ _ _ j)<|E 0 Z
def VV : ∀(fuel:Nat) (c:Qn) (a:Int) {r:Bool},YS fuel c a=Q r->QP prog 217 [.G QS c,.I a] [] (Gives (.b r) [])
 | 0,_,_,_,h=>by cases h
 | n+1,c,a,_,h=>@Qg9 (YS n) (λ_ _ _ h=>VV n _ _ h) c a _ h
def Qkh (c a){r}(h:Rg c a=Q r):QP prog 217 [.G QS c,.I a] [] (Gives (.b r) []):=VV _ c a h
def Rh:O_ Bool:=j_ (Rc c0) λd=>bif (d<=40)then j_ (TV c0) λe=>bif (e<=400)then j_ (Rg c0 j) λc=>Q c else Q false else Q false
def EN:O_ Bool:=j_ (Rh c0 j) (λc=>Q c)
def Ri {i a}:CT 137 [.G QS i,.I a] [] (EN i a) V.b no_:=
 W 18 func137 Z<|mV_ 7 [] [] (λj=>([(4,.b j)],[])) Z (B λk f=>G [2,.o (.C1 (.I k)),2] Z (Qkf _ f)<|I 0 Z (B λl g=>G [1,.o (.C1 (.I l)),3] Z (Ql2 _ g)<|I 0 Z (B λh e=>G [2,.o (.C2 (.b h)),3] Z (Qkh _ _ e)<|M 0 Z)<|M 6 Z)<|M 11 Z) λj=>E 2 Z
def Kv:O_ (LI_⊕(LI_⊕(LI_⊕(LI_⊕LI_)))):=bif d0 then Q (i_ (i_ (y_ i)))else bif (e0==5)then Q (i_ (i_ (i_ (y_ i))))else Q (i_ (i_ (i_ (i_ i))))
def Wd:O_ (LI_⊕(LI_⊕(LI_⊕(LI_⊕LI_)))):=bif (e0==1)then Q (y_ i)else bif (e0==2)then Q (i_ (y_ i))else bif (e0==3)then Kv i e0 (e0==3)else Kv i e0 (e0==4)
def EO {d a}:CP 325 [.M 1 Qb d,.I a] [] (Wd d a) ((Sum.elim (λq=>(Gives (.clo (.func 344) [.M 1 Qb q] []) [])) (Sum.elim (λq=>(Gives (.clo (.func 345) [.M 1 Qb q] []) [])) (Sum.elim (λq=>(Gives (.clo (.func 346) [.M 1 Qb q] []) [])) (Sum.elim (λq=>(Gives (.clo (.func 347) [.M 1 Qb q] []) [])) (λq=>(Gives (.clo (.func 348) [.M 1 Qb q] []) []))))))):=
 wP_ 25 func325 Z<|I 18 Z (E 10 Z)<|I 6 Z (E 10 Z)<|mE_ 0 [0,5] [] (λc:Bool=>([(14,.b c)],[])) (λc=>Kv d a c) Z (I 6 Z (P 1 Z Z)<|P 4 Z Z) λc=>I 0 Z (E 10 Z)<|I 6 Z (E 10 Z)<|E 11 Z
def VW (b:LI_)(a:Qn):O_ (Int×Int):=Q (a.Num,0)
def Qee {a b}:CT 344 [.M 1 Qb a,.G QS b] [] (VW a b) (λr=>(.tup [.I r.1,.I r.2])) no_:=
 W 8 func344 Z<|E 16 Z
def Bp:O_ (Int×Int):=j_ (idx i d3.Num) λc=>Q (c,0)
def QcQ {a b}:CT 345 [.M 1 Qb a,.G QS b] [] (Bp a b) (λr=>(.tup [.I r.1,.I r.2])) no_:=
 W 11 func345 Z<|J 12 Z λc=>E 6 Z
def Hp:O_ (Int×Int):=bif (((decide (a<0))==(decide (e<0)))&&((decide ((Qm (a+e))<0)) != (decide (a<0))))then Q (0,6)else Q ((Qm (a+e)),0)
def QnD {c d}:CT 355 [.I c,.I d] [] (Hp c d) (λr=>(.tup [.I r.1,.I r.2])) no_:=
 W 23 func355 Z<|T 16 [6] [] ([(21,.b (((decide (c<0))==(decide (d<0)))&&((decide ((Qm (c+d))<0)) != (decide (c<0)))))],[]) Z (H 7 Z (λa=>Y 7 21 Z (XW a Z)) λa=>Y 7 21 Z (Yy a Z))<|I 1 Z (E 8 Z)<|E 10 Z
def Dd:O_ (Int×Int):=bif (((decide (a<0)) != (decide (e<0)))&&((decide ((Qm (a-e))<0)) != (decide (a<0))))then Q (0,6)else Q ((Qm (a-e)),0)
def Qef {c d}:CT 356 [.I c,.I d] [] (Dd c d) (λr=>(.tup [.I r.1,.I r.2])) no_:=
 W 23 func356 Z<|T 16 [6] [] ([(21,.b (((decide (c<0)) != (decide (d<0)))&&((decide ((Qm (c-d))<0)) != (decide (c<0)))))],[]) Z (H 7 Z (λa=>Y 7 21 Z (XW a Z)) λa=>Y 7 21 Z (Yy a Z))<|I 1 Z (E 8 Z)<|E 10 Z
def CA:O_ Int:=bif (a<0)then Q (IntKind.u64.wrap (0-(IntKind.u64.wrap a)))else Q (IntKind.u64.wrap a)
def Qdh {a}:CT 361 [.I a] [] (CA a) (λr=>(.i .u64 r)) no_:=
 W 10 func361 Z<|I 12 Z (K [3,.o (.any (.i .u64 (IntKind.u64.wrap a)) none),6] Z (λb=>(a1_ (λσ c d _=>Qc.convI Z Z (QJ b.n Z) (c _ _ Z) QoJ QfP)))<|E 0 Z)<|K [5,.o (.any (.i .u64 (IntKind.u64.wrap a)) none),4] Z (λb=>(a1_ (λσ c d _=>Qc.convI Z Z (QJ b.n Z) (c _ _ Z) QoJ QfP)))<|E 0 Z
def GE:O_ (Int×Int):=Q ((IntKind.u64.wrap ((IntKind.u64.wrap ((IntKind.u64.wrap ((GN .u64 a 32)*(GN .u64 e 32)))+(GN .u64 (IntKind.u64.wrap ((IntKind.u64.wrap ((GN .u64 a 32)*(Ge .u64 e 4294967295)))+(GN .u64 (IntKind.u64.wrap ((Ge .u64 a 4294967295)*(Ge .u64 e 4294967295))) 32))) 32)))+(GN .u64 (IntKind.u64.wrap ((Ge .u64 (IntKind.u64.wrap ((IntKind.u64.wrap ((GN .u64 a 32)*(Ge .u64 e 4294967295)))+(GN .u64 (IntKind.u64.wrap ((Ge .u64 a 4294967295)*(Ge .u64 e 4294967295))) 32))) 4294967295)+(IntKind.u64.wrap ((Ge .u64 a 4294967295)*(GN .u64 e 32))))) 32))),(IntKind.u64.wrap (a*e)))
def Qeg {b c}:CT 360 [.i .u64 b,.i .u64 c] [] (GE b c) (λr=>(.tup [.i .u64 r.1,.i .u64 r.2])) no_:=
 W 51 func360 Z<|K [9,.o (.any (.i .u64 (Ge .u64 b 4294967295)) none),6,.o (.any (.i .u64 (GN .u64 b 32)) none),6,.o (.any (.i .u64 (Ge .u64 c 4294967295)) none),6,.o (.any (.i .u64 (GN .u64 c 32)) none),17,.o (.any (.i .u64 (GN .u64 (IntKind.u64.wrap ((Ge .u64 b 4294967295)*(Ge .u64 c 4294967295))) 32)) none),7,.o (.any (.i .u64 (Ge .u64 (IntKind.u64.wrap ((IntKind.u64.wrap ((GN .u64 b 32)*(Ge .u64 c 4294967295)))+(GN .u64 (IntKind.u64.wrap ((Ge .u64 b 4294967295)*(Ge .u64 c 4294967295))) 32))) 4294967295)) none),6,.o (.any (.i .u64 (GN .u64 (IntKind.u64.wrap ((IntKind.u64.wrap ((GN .u64 b 32)*(Ge .u64 c 4294967295)))+(GN .u64 (IntKind.u64.wrap ((Ge .u64 b 4294967295)*(Ge .u64 c 4294967295))) 32))) 32)) none),21,.o (.any (.i .u64 (GN .u64 (IntKind.u64.wrap ((Ge .u64 (IntKind.u64.wrap ((IntKind.u64.wrap ((GN .u64 b 32)*(Ge .u64 c 4294967295)))+(GN .u64 (IntKind.u64.wrap ((Ge .u64 b 4294967295)*(Ge .u64 c 4294967295))) 32))) 4294967295)+(IntKind.u64.wrap ((Ge .u64 b 4294967295)*(GN .u64 c 32))))) 32)) none),13] Z (λd=>(a8_ (λσ a e _=>Qc.andB Z Z (QJ d.n Z) (a _ _ Z) (a _ _ Z)) (λσ a e _=>Qc.shr Z Z (QJ d.n Z) (a _ _ Z) (a _ _ Z) (by decide)) (λσ a e _=>Qc.andB Z Z (QJ d.n Z) (a _ _ Z) (a _ _ Z)) (λσ a e _=>Qc.shr Z Z (QJ d.n Z) (a _ _ Z) (a _ _ Z) (by decide)) (λσ a e _=>Qc.shr Z Z (QJ d.n Z) (a _ _ Z) (a _ _ Z) (by decide)) (λσ a e _=>Qc.andB Z Z (QJ d.n Z) (a _ _ Z) (a _ _ Z)) (λσ a e _=>Qc.shr Z Z (QJ d.n Z) (a _ _ Z) (a _ _ Z) (by decide)) (λσ a e _=>Qc.shr Z Z (QJ d.n Z) (a _ _ Z) (a _ _ Z) (by decide))))<|E 0 Z
def De (b:(Int×Int))(c:Int)(d:Int)(a:Int):O_ (Int×Int):=
 bif ((0<b.1)||(a<b.2))then
 Q (0,6)
 else
 Q ((Qm (c*d)),0)
def AA:O_ (Int×Int):=j_ (CA a) λd=>j_ (CA e) λb=>j_ (GE d b) λc=>bif ((decide (a<0)) != (decide (e<0)))then De c a e (IntKind.u64.wrap (9223372036854775807+1))else De c a e 9223372036854775807
def Qha {d e}:CT 357 [.I d,.I e] [] (AA d e) (λr=>(.tup [.I r.1,.I r.2])) no_:=
 W 34 func357 Z<|A 9 Qdh Z λg=>A 1 Qdh Z λh=>A 0 Qeg Z λf=>mE_ 12 [0,1,6,7] [] (λa:Int=>([(8,.i .u64 a)],[])) (λa=>De f d e a) Z (I 9 Z (P 5 Z Z)<|P 1 Z Z) λa=>T 2 [0,1] [] ([(30,.b ((0<f.1)||(a<f.2)))],[]) Z (H 4 Z (λc=>Y 5 30 Z (YW c Z)) λc=>Y 5 30 Z (Xe c Z))<|I 1 Z (E 8 Z)<|E 12 Z
def We:O_ (Int×Int×Int):=bif (e==0)then Q (0,0,7)else bif ((a==(-9223372036854775808))&&(e==(-1)))then Q (0,0,6)else j_ (chk (e != 0)) λ_=>j_ (chk (e != 0)) λ_=>Q ((Qm (Int.tdiv a e)),(Int.tmod a e),0)
def Vo {e f}:CT 358 [.I e,.I f] [] (We e f) (λr=>(.tup [.I r.1,.I r.2.1,.I r.2.2])) no_:=
 W 23 func358 Z<|I 16 Z (E 10 Z)<|T 1 [0,1] [] ([(10,.b ((e==(-9223372036854775808))&&(f==(-1))))],[]) Z (H 4 Z (λa=>Y 5 10 Z (XW a Z)) λa=>Y 5 10 Z (Yy a Z))<|I 1 Z (E 10 Z)<|kA_ λc=>kA_ λd=>D 4 Z [.N,.N,.N,.N,.N,.N,.N,.N,.N] [] [] [4,5,6] [] Z Z (a2_ (neZ c) (neZ d)) Z<|E 2 Z
def Ke:O_ (Int×Int):=bif r then Q (1,0)else Q (0,0)
def GK {a}:CT 359 [.b a] [] (Ke a) (λr=>(.tup [.I r.1,.I r.2])) no_:=
 W 5 func359 Z<|I 12 Z (E 8 Z)<|E 9 Z
def Rj:O_ (Int×Int):=bif (a != 0)then j_ (Ke (e != 0)) λc=>Q (c.1,c.2)else j_ (Ke false) λb=>Q (b.1,b.2)
def Qau:O_ (Int×Int):=Q (a,e)
def Rk:O_ (Int×Int):=bif (a != 0)then j_ (Ke true) λc=>Q (c.1,c.2)else j_ (Ke (e != 0)) λb=>Q (b.1,b.2)
def Qav:O_ (Int×Int):=Q (a,e)
def JY:O_ (Int×Int):=bif (a==1)then j_ (Hp e c) λk=>Q (k.1,k.2)else bif (a==2)then j_ (Dd e c) λb=>Q (b.1,b.2)else bif (a==3)then j_ (AA e c) λd=>Q (d.1,d.2)else bif (a==4)then j_ (We e c) λl=>Q (l.1,l.2.2)else bif (a==5)then j_ (We e c) λf=>Q (f.2.1,f.2.2)else bif (a==6)then j_ (Ke (e==c)) λg=>Q (g.1,g.2)else bif (a==7)then j_ (Ke (e != c)) λh=>Q (h.1,h.2)else bif (a==8)then j_ (Ke (decide (e<c))) λi=>Q (i.1,i.2)else bif (a==9)then j_ (Ke (decide (e<=c))) λj=>Q (j.1,j.2)else bif (a==10)then j_ (Rj e c) (λv=>Qau v.1 v.2)else bif (a==11)then j_ (Rk e c) (λv=>Qav v.1 v.2)else Q (0,1)
def Rl {JE a b}:CT 352 [.I JE,.I a,.I b] [] (JY JE a b) (λr=>(.tup [.I r.1,.I r.2])) no_:=
 W 112 func352 Z<|I 19 Z (A 4 QnD Z λt=>E 9 Z)<|I 6 Z (A 4 Qef Z λc=>E 9 Z)<|I 6 Z (A 4 Qha Z λd=>E 9 Z)<|I 6 Z (A 4 Vo Z λe=>E 20 Z)<|I 6 Z (A 4 Vo Z λf=>E 20 Z)<|I 6 Z (A 5 GK Z λg=>E 9 Z)<|I 6 Z (A 5 GK Z λh=>E 9 Z)<|I 6 Z (A 5 GK Z λi=>E 9 Z)<|I 6 Z (A 5 GK Z λj=>E 9 Z)<|I 6 Z (mV_ 1 [] [] (λv=>([(6,.I v.1),(7,.I v.2)],[])) Z (I 4 Z (A 3 GK Z λk=>M 5 Z)<|A 3 GK Z λl=>M 5 Z) λ⟨m,n⟩=>E 4 Z)<|I 6 Z (mV_ 1 [] [] (λv=>([(6,.I v.1),(7,.I v.2)],[])) Z (I 4 Z (A 3 GK Z λo=>M 5 Z)<|A 3 GK Z λp=>M 5 Z) λ⟨q,s⟩=>E 4 Z)<|E 10 Z
def Rm:O_ (Int×Int):=j_ (JY 2 0 a) λb=>Q (b.1,b.2)
def QnE {a}:CT 351 [.I a] [] (Rm a) (λr=>(.tup [.I r.1,.I r.2])) no_:=
 W 8 func351 Z<|A 9 Rl Z λb=>E 7 Z
def UO:O_ (Int×Int):=j_ (idx i1.Kids 0) λf=>j_ (k2 g1 f) λc=>bif (c.2 != 0)then Q (0,c.2)else bif (i1.Kind==3)then j_ (Rm c.1) λa=>Q (a.1,a.2)else j_ (JY 6 c.1 0) λb=>Q (b.1,b.2)
def Qeh {O:LI_->Qn->O_ (Int×Int)}{hrec_expr_env_eval:∀(a:LI_) (b:Qn) {r:(Int×Int)},O a b=Q r->QP prog 293 [.M 1 Qb a,.G QS b] [] (Gives (.tup [.I r.1,.I r.2]) [])}{a:LI_}{b:Qn}:CT 346 [.M 1 Qb a,.G QS b] [] (UO O a b) (λr=>(.tup [.I r.1,.I r.2])) no_:=
 W 33 func346 Z<|xR_ 12 JL Z λj g=>B λf e=>G [1,.o (.C2 (.tup [.I f.1,.I f.2])),16] Z (hrec_expr_env_eval _ _ e)<|I 0 Z (E 10 Z)<|I 8 Z (A 3 QnE Z λh=>E 9 Z)<|A 6 Rl Z λi=>E 7 Z
def Df (f:(Int×Int))(g:Qn)(O:LI_->Qn->O_ (Int×Int))(h:LI_)(d:Bool):O_ (Int×Int):=bif d then j_ (JY 7 f.1 0) λb=>Q (b.1,b.2)else j_ (idx g.Kids 1) λe=>j_ (O h e) λa=>bif (a.2 != 0)then Q (0,a.2)else j_ (JY g.Num f.1 a.1) λc=>Q (c.1,c.2)
def MN:O_ (Int×Int):=j_ (idx i1.Kids 0) λd=>j_ (k2 g1 d) λa=>bif (a.2 != 0)then Q (0,a.2)else bif ((i1.Num==10)&&(a.1==0))then Df a i1 k2 g1 ((i1.Num==10)&&(a.1==0))else bif (i1.Num==11)then Df a i1 k2 g1 (a.1 != 0)else Df a i1 k2 g1 false
def Qhb {O:LI_->Qn->O_ (Int×Int)}{hrec_expr_env_eval:∀(g:LI_) (f:Qn) {r:(Int×Int)},O g f=Q r->QP prog 293 [.M 1 Qb g,.G QS f] [] (Gives (.tup [.I r.1,.I r.2]) [])}{g:LI_}{f:Qn}:CT 347 [.M 1 Qb g,.G QS f] [] (MN O g f) (λr=>(.tup [.I r.1,.I r.2])) no_:=
 W 60 func347 Z<|xR_ 12 JL Z λt m=>B λj k=>G [1,.o (.C2 (.tup [.I j.1,.I j.2])),16] Z (hrec_expr_env_eval _ _ k)<|I 0 Z (E 10 Z)<|mE_ 0 [0,3,6] [3] (λe:Bool=>([(22,.b e)],[])) (λe=>Df j f O g e) Z (T 1 [0,3,6] [3] ([(22,.b ((f.Num==10)&&(j.1==0)))],[]) Z (H 5 Z (λa=>Y 5 22 Z (XW a Z)) λa=>Y 5 22 Z (Yy a Z))<|I 1 Z (P 1 Z Z)<|I 5 Z (P 5 Z Z)<|P 5 Z Z) λe=>I 0 Z (A 3 Rl Z λp=>E 9 Z)<|xR_ 8 JL Z λq l=>B λh i=>G [1,.o (.C2 (.tup [.I h.1,.I h.2])),14] Z (hrec_expr_env_eval _ _ i)<|I 0 Z (E 9 Z)<|A 8 Rl Z λs=>E 7 Z
def CR:O_ (Int×Int):=j_ (idx i1.Kids 0) λh=>j_ (k2 g1 h) λe=>bif (e.2 != 0)then Q (0,e.2)else bif (e.1 != 0)then j_ (idx i1.Kids 1) λf=>j_ (k2 g1 f) λa=>Q (a.1,a.2)else j_ (idx i1.Kids 2) λg=>j_ (k2 g1 g) λb=>Q (b.1,b.2)
def Qei {rec_expr_env_eval:LI_->Qn->O_ (Int×Int)}{O:∀(a:LI_) (b:Qn) {r:(Int×Int)},rec_expr_env_eval a b=Q r->QP prog 293 [.M 1 Qb a,.G QS b] [] (Gives (.tup [.I r.1,.I r.2]) [])}{a:LI_}{b:Qn}:CT 348 [.M 1 Qb a,.G QS b] [] (CR rec_expr_env_eval a b) (λr=>(.tup [.I r.1,.I r.2])) no_:=
 W 40 func348 Z<|xR_ 12 JL Z λs m=>B λj i=>G [1,.o (.C2 (.tup [.I j.1,.I j.2])),16] Z (O _ _ i)<|I 0 Z (E 10 Z)<|I 7 Z (xR_ 5 JL Z λp k=>B λe f=>G [1,.o (.C2 (.tup [.I e.1,.I e.2])),9] Z (O _ _ f)<|E 0 Z)<|xR_ 8 JL Z λq l=>B λg h=>G [1,.o (.C2 (.tup [.I g.1,.I g.2])),7] Z (O _ _ h)<|E 0 Z
def EP:O_ (Int×Int):=j_ (Bp i c0) λa=>Q (a.1,a.2)
def Wu:O_ (Int×Int):=j_ (UO k2 l3 i1) λa=>Q (a.1,a.2)
def EQ:O_ (Int×Int):=j_ (MN k2 l3 i1) λa=>Q (a.1,a.2)
def ER:O_ (Int×Int):=j_ (CR k2 l3 i1) λa=>Q (a.1,a.2)
def UP:O_ (Int×Int):=j_ (Wd g1 i1.Kind) λc=>(Sum.elim (λq=>j_ (VW q i1) λd=>Q (d.1,d.2)) (Sum.elim (λq=>EP i1 q) (Sum.elim (λq=>Wu k2 i1 q) (Sum.elim (λq=>EQ k2 i1 q) (λq=>ER k2 i1 q))))) c
def XJ : Nat->LI_->Qn->O_ (Int×Int)
 | 0,_,_=>none
 | n+1,a,b=>UP (XJ n) a b
def Lm:O_ (Int×Int):=XJ (SizeOf.sizeOf d3) i d3
def Qej {O:LI_->Qn->O_ (Int×Int)}{hrec_expr_env_eval:∀(h:LI_) (i:Qn) {r:(Int×Int)},O h i=Q r->QP prog 293 [.M 1 Qb h,.G QS i] [] (Gives (.tup [.I r.1,.I r.2]) [])}{h:LI_}{i:Qn}:CT 293 [.M 1 Qb h,.G QS i] [] (UP O h i) (λr=>(.tup [.I r.1,.I r.2])) no_:=
 W 14 func293 Z<|gP_ 8 Z<|s5_ (λz b=>B λj k=>UF 0 Z [.N,.N,.N,.B (.any (.clo (.func 344) [.M 1 Qb z] []) none),.N,.B (.C2 (.tup [.I j.1,.I j.2])),.N,.N,.m .s,.m .s] [] [] [4,5] [] Z Z (λe=>(a2_ (λσ f g _=>Qc.callSame (md:=.cm (.fn) [] [] [] [.d,.d] [] (.clo (.func 344) [.M 1 Qb z] []) []) QA e f g Z (a1_ (EO _ b))) (Qee _ k))) Z<|E 2 Z) (λC b=>B λl n=>UF 0 Z [.N,.N,.N,.B (.any (.clo (.func 345) [.M 1 Qb C] []) none),.N,.B (.C2 (.tup [.I l.1,.I l.2])),.N,.N,.m .s,.m .s] [] [] [4,5] [] Z Z (λe=>(a2_ (λσ f g _=>Qc.callSame (md:=.cm (.fn) [] [] [] [.d,.d] [] (.clo (.func 345) [.M 1 Qb C] []) []) QA e f g Z (a1_ (EO _ b))) (QcQ _ n))) Z<|E 2 Z) (λo b=>B λp q=>UF 0 Z [.N,.N,.N,.B (.any (.clo (.func 346) [.M 1 Qb o] []) none),.N,.B (.C2 (.tup [.I p.1,.I p.2])),.N,.N,.m .s,.m .s] [] [] [4,5] [] Z Z (λe=>(a2_ (λσ f g _=>Qc.callSame (md:=.cm (.fn) [] [] [] [.d,.d] [] (.clo (.func 346) [.M 1 Qb o] []) []) QA e f g Z (a1_ (EO _ b))) (@Qeh O hrec_expr_env_eval _ _ _ q))) Z<|E 2 Z) (λt b=>B λu v=>UF 0 Z [.N,.N,.N,.B (.any (.clo (.func 347) [.M 1 Qb t] []) none),.N,.B (.C2 (.tup [.I u.1,.I u.2])),.N,.N,.m .s,.m .s] [] [] [4,5] [] Z Z (λe=>(a2_ (λσ f g _=>Qc.callSame (md:=.cm (.fn) [] [] [] [.d,.d] [] (.clo (.func 347) [.M 1 Qb t] []) []) QA e f g Z (a1_ (EO _ b))) (@Qhb O hrec_expr_env_eval _ _ _ v))) Z<|E 2 Z) λw b=>B λx y=>UF 0 Z [.N,.N,.N,.B (.any (.clo (.func 348) [.M 1 Qb w] []) none),.N,.B (.C2 (.tup [.I x.1,.I x.2])),.N,.N,.m .s,.m .s] [] [] [4,5] [] Z Z (λe=>(a2_ (λσ f g _=>Qc.callSame (md:=.cm (.fn) [] [] [] [.d,.d] [] (.clo (.func 348) [.M 1 Qb w] []) []) QA e f g Z (a1_ (EO _ b))) (@Qei O hrec_expr_env_eval _ _ _ y))) Z<|E 2 Z
def Rn : ∀(fuel:Nat) (a:LI_) (b:Qn) {r:(Int×Int)},XJ fuel a b=Q r->QP prog 293 [.M 1 Qb a,.G QS b] [] (Gives (.tup [.I r.1,.I r.2]) [])
 | 0,_,_,_,h=>by cases h
 | n+1,a,b,_,h=>@Qej (XJ n) (λ_ _ _ h=>Rn n _ _ h) a b _ h
def QfU (a b){r}(h:Lm a b=Q r):QP prog 293 [.M 1 Qb a,.G QS b] [] (Gives (.tup [.I r.1,.I r.2]) []):=Rn _ a b h
def CB:O_ (Int×Int):=j_ (EN c0 (i.length:Int)) λd=>bif (!d)then Q (0,1)else j_ (Lm i c0) λc=>Q (c.1,c.2)
def Qdi {e a}:CT 244 [.G QS e,.M 1 Qb a] [] (CB e a) (λr=>(.tup [.I r.1,.I r.2])) no_:=
 W 16 func244 Z<|N 12 Z<|A 0 Ri Z λg=>I 3 Z (E 8 Z)<|B λf b=>G [6,.o (.C2 (.tup [.I f.1,.I f.2])),7] Z (QfU _ _ b)<|E 0 Z
def Kw:O_ (Int×Bool):=j_ (KC m3.2 c3) λb=>bif (!b)then Q (0,false)else Q (c3,true)
def Dk:O_ (Int×Bool):=
 j_ (Du h0 o) λc=>
 bif (!c.1)then
 Q (0,false)
 else
 j_ (JX c.2) λa=>
 bif (a.Kind==1)then
 bif ((j2<a.Lo)||(a.Hi<j2))then
 Q (0,false)
 else
 Kw c (Qm (j2-a.Lo))
 else
 Kw c j2
def QfV {f g e}:CT 245 [.M 7 XI f,.I g,.I e] [] (Dk f g e) (λr=>(.tup [.I r.1,.b r.2])) no_:=
 W 43 func245 Z<|A 10 SQ Z λh=>I 15 Z (E 8 Z)<|mE_ 2 [8] [8] (λc:Int=>([(2,.I c)],[])) (λc=>Kw h c) Z (A 3 Cz Z λd=>I 11 Z (T 2 [2,8,10] [8,10] ([(33,.b ((e<d.Lo)||(d.Hi<e)))],[]) Z (H 6 Z (λa=>Y 6 33 Z (YW a Z)) λa=>Y 6 33 Z (Xe a Z))<|I 1 Z (E 9 Z)<|P 9 Z Z)<|P 1 Z Z) λc=>A 5 SB Z λi=>I 3 Z (E 8 Z)<|E 10 Z
def Wv (j:(L_ Jf))(h:LI_)(k:Qh)(e:Int)(c:QMk):O_ ((Int×QMk)⊕(Int⊕QMk)):=
 bif (e<(i.length:Int))then
 j_ (idx i e) λd=>
 bif ((d<0)||((j.length:Int)<=d))then
 Q (i_ (y_ 11))
 else
 j_ (idx j d) λl=>
 j_ (CB l.Expr h) λf=>
 bif (f.2 != 0)then
 Q (i_ (y_ f.2))
 else
 j_ (idx j d) λb=>
 bif ((b.Place<0)||((k.Places.length:Int)<=b.Place))then
 Q (i_ (y_ 3))
 else
 j_ (idx k.Places b.Place) λm=>
 j_ (Dk k.Colours m.Colour f.1) λa=>
 bif (!a.2)then
 Q (i_ (y_ 8))
 else
 j_ (idx c b.Place) λn=>
 j_ (SN ([a.1]:L_ Int)) λo=>
 j_ (JB n o) λg=>
 j_ (idx c b.Place) λp=>
 bif (g.2 != 0)then
 Q (i_ (y_ g.2))
 else
 Q (y_ ((Qm (e+1)),(c.set b.Place.toNat g.1)))
 else
 Q (i_ (i_ c))
def Yo (d:(L_ Jf))(a:LI_)(c:LI_):O_ (QMk×Int):=j_ (chk (decide (0<=(b.Places.length:Int))&&decide ((b.Places.length:Int)<=(b.Places.length:Int))&&decide ((b.Places.length:Int)<=4294967296))) λ_=>j_ (Qt (λst=>Wv a d c b st.1 st.2) (0,(List.replicate (b.Places.length:Int).toNat (([]:QBg):QBg)))) (Sum.elim (λq=>Q (([]:L_ QBg),q)) (λq=>Q (q,0)))
def AR {t l2 e k}:CT 161 [.G Qf t,.M 4 Kj l2,.M 1 Qb e,.M 1 Qb k] [] (Yo t l2 e k) (λr=>(.tup [.M 1 Ql r.1,.I r.2])) no_:=
 W 97 func161 Z<|N 11 Z<|kA_ λa0=>G [.o (.rows (List.replicate (t.Places.length:Int).toNat [.Y]))] Z ⟨a0,Z⟩<|QlZ (AK.denilA (b:=21) [Q 2] Z (Qj2 (f:=Ql) (x:=([]:QBg)) Z))<|G [.S 21 (.own 21 (List.replicate (t.Places.length:Int).toNat (([]:QBg):QBg)).length),7] Z (by simp)<|N 0 Z<|F 4 [1,3,4,22,23] [4] (λst=>([(10,.P 21 st.2),(24,.I st.1)],[(21,.R 1 Ql st.2)])) [] [] (λq=>(.ret,([(8,.Y),(9,.I q)],[]))) [] [] (λq=>(.exit 0,([(10,.P 21 q)],[(21,.R 1 Ql q)]))) Z (λ⟨a4,u⟩=>I 6 Z (J 6 Z λv=>T 6 [1,3,4,10,12,22,23,24] [4,21] ([(35,.b ((v<0)||((l2.length:Int)<=v)))],[]) Z (H 4 Z (λg=>Y 6 35 Z (YW g Z)) λg=>N 2 Z<|Y 3 35 Z (Xe g Z))<|I 1 Z (L 10 Z)<|J 6 Z λa5=>A 3 Qdi Z λa6=>I 14 Z (L 11 Z)<|J 6 Z λi=>T 7 [1,3,4,10,13,15,22,23,24] [4,21] ([(62,.b ((i.Place<0)||((t.Places.length:Int)<=i.Place)))],[]) Z (H 4 Z (λh=>Y 7 62 Z (YW h Z)) λh=>N 3 Z<|Y 3 62 Z (Xe h Z))<|I 1 Z (L 10 Z)<|B λa1 w=>B λs y=>D 3 Z (dz_ [(5,.B (.row (Xk a1))),(3,.B (.C3 (.tup [.I s.1,.b s.2]))),(4,.N)]) [] [] [1,3,4,10,15,16,17,22,23,24] [4,21] Z Z (a2_ (Xw w) (QfV _ y)) Z<|I 8 Z (L 10 Z)<|B λa2 l=>B λz C=>B λj O=>B λa3 p=>D 3 Z [.N,.N,.N,.N,.N,.B (.row (Ql a2)),.N,.a (.bd []) (Q ([],.sl 1 (([s.1]:L_ Int).map Qb))) false,.B (.cd false [.d] 2 (z.map Qy) z.length),.B (.C2 (.tup [.M 2 Qy j.1,.I j.2])),.a .no none true true,.N,.a .no none true,.N,.m (.st (Ql a3) ((u.set i.Place.toNat j.1).map Ql)),.N] [1,3,4,10,15,16,22,23,24] [4] [1,3,4,10,14,22,23,24] [4,21] Z Z (a7_ (YZ l Z) (Xz (Jd l).2) Z ⟨(Qh0 _ C),Qw⟩ (Qar _ O) (YZ p Z) ⟨(Xz (Jd p).2),EI Z⟩) Z<|I 7 Z (L 10 Z)<|G [7,.S 10 (.own 21 (u.set i.Place.toNat j.1).length)] Z (congrArg (λn=>V.own 21 n) (by simp))<|R 0 Z)<|X 2 Z) (λa7=>gT_ [2,.denil 8 [Q 1]] Z<|E 0 Z) (λa8=>zF_ 10 21 [8] [] Z<|E 0 Z)
def Yf:O_ (QMk×Int):=j_ (WM b t.Task t.Vars) λd=>bif (d.2 != 0)then Q (([]:L_ QBg),d.2)else j_ (idx b.Tasks t.Task) λe=>j_ (Yo b e.Ins t.Ins d.1) λa=>Q (a.1,a.2)
def Ro {g h}:CT 83 [.G Qf g,.G QE h] [] (Yf g h) (λr=>(.tup [.M 1 Ql r.1,.I r.2])) no_:=
 W 34 func83 Z<|A 15 VF Z λj=>I 14 Z (gT_ [9,.denil 4 [Q 1]] Z<|E 0 Z)<|B λi f=>B λb e=>D 3 Z (dz_ [(5,.B (.row (QC i))),(5,.B (.C4 (.tup [.M 1 Ql b.1,.I b.2]))),(2,.m .s),(0,.m .s)]) [] [] [4,5] [] Z Z (a2_ (Xw f) (AR _ e)) Z<|E 2 Z
def ES:O_ (QMk×Int):=j_ (WM b t.Task t.Vars) λd=>bif (d.2 != 0)then Q (([]:L_ QBg),d.2)else j_ (idx b.Tasks t.Task) λe=>j_ (Yo b e.Outs t.Outs d.1) λa=>Q (a.1,a.2)
def QbR {g h}:CT 84 [.G Qf g,.G QE h] [] (ES g h) (λr=>(.tup [.M 1 Ql r.1,.I r.2])) no_:=
 W 34 func84 Z<|A 15 VF Z λj=>I 14 Z (gT_ [9,.denil 4 [Q 1]] Z<|E 0 Z)<|B λi f=>B λb e=>D 3 Z (dz_ [(5,.B (.row (QC i))),(5,.B (.C4 (.tup [.M 1 Ql b.1,.I b.2]))),(2,.m .s),(0,.m .s)]) [] [] [4,5] [] Z Z (a2_ (Xw f) (AR _ e)) Z<|E 2 Z
def Hq:O_ Bool:=
 j_ (Yf l0 q.Mode) λc=>
 j_ (ES l0 q.Mode) λd=>
 Q ((c.2 != 0)||(d.2 != 0))
def Qe1 {d c}:CT 82 [.G Qp d,.L 619] [(619,.W Qf c)] (Hq d c) V.b (λ_=>[(619,.W Qf c)]):=
 W 28 func82 Z<|A 11 Ro Z λe=>A 12 QbR Z λf=>T 8 [] [619] ([(3,.b ((e.2 != 0)||(f.2 != 0)))],[]) Z (H 4 Z (λa=>Y 5 3 Z (YW a Z)) λa=>Y 5 3 Z (Xe a Z))<|E 2 Z
def Jq:O_ (Int⊕(Int⊕Unit)):=bif (g<(m.length:Int))then j_ (idx m g) λe=>j_ (Hq e b) λa=>bif a then Q (i_ (y_ g))else Q (y_ (Qm (g+1)))else Q (i_ (i_ ()))
def Ww:O_ Int:=j_ (Qt (λst=>Jq m b st) 0) (Sum.elim (λq=>Q q) (λq=>Q (-1)))
def Ij {b a}:CT 159 [.M 11 Qp b,.clo (.func 82) [] [.L 619]] [(619,.W Qf a)] (Ww b a) V.I (λ_=>[(619,.W Qf a)]):=
 W 19 func159 Z<|N 9 Z<|F 4 [0,1,7] [619] (λst=>([(8,.I st)],[])) [] [619] (λq=>(.ret,([(4,.I q)],[]))) [] [619] (λq=>(.exit 0,([],[]))) Z (λd=>I 6 Z (J 15 Z λe=>S 1 .clo [(619,619)] Qe1 Z λc=>I 2 Z (L 9 Z)<|R 7 Z)<|X 2 Z) (λf=>E 2 Z) (λ_=>E 8 Z)
def Jr:O_ Bool:=j_ (Ww m b) λc=>Q (decide (0<=c))
def Fm {c a}:CT 81 [.M 11 Qp c,.clo (.func 82) [] [.L 619]] [(619,.W Qf a)] (Jr c a) V.b (λ_=>[(619,.W Qf a)]):=
 W 9 func81 Z<|S 9 .fn [(619,619)] Ij Z λd=>E 5 Z
def VX:O_ Bool:=j_ (AQ b f.M) λd=>bif (!d)then Q true else bif (f.Next<1)then Q true else bif (1099511627776<f.Next)then Q true else bif (f.Now<0)then Q true else bif (1099511627776<f.Now)then Q true else j_ (Ot f.Items f.Next) λa=>Q (!a)
def NF (d:Bool):O_ Bool:=bif d then Q false else j_ (Jr f.Items l0) λa=>Q (!a)
def Eh:O_ Bool:=j_ (VX b f) (λc=>NF f b c)
def CS {a c}:CT 43 [.G Qf a,.G Xv c] [] (Eh a c) V.b no_:=
 W 43 func43 Z<|mV_ 9 [2,3] [2,3] (λd=>([(37,.b d)],[])) Z (A 4 QbO Z λg=>I 2 Z (M 28 Z)<|I 5 Z (M 23 Z)<|I 5 Z (M 18 Z)<|I 5 Z (M 13 Z)<|I 5 Z (M 8 Z)<|A 4 Qim Z λe=>M 3 Z) λd=>I 1 Z (E 7 Z)<|S 7 .fn [(619,2)] Fm Z λf=>E 5 Z
def SV:O_ Bool:=Q (q.Id==j1)
def Qhc {c a}:CT 241 [.G Qp c,.L 619] [(619,.W Qb a)] (SV c a) V.b (λ_=>[(619,.W Qb a)]):=
 W 8 func241 Z<|E 16 Z
def XX:O_ (Int⊕(Int⊕Unit)):=bif (g<(m.length:Int))then j_ (idx m g) λe=>j_ (SV e c) λb=>bif b then Q (i_ (y_ g))else Q (y_ (Qm (g+1)))else Q (i_ (i_ ()))
def KK:O_ Int:=j_ (Qt (λst=>XX m c st) 0) (Sum.elim (λq=>Q q) (λq=>Q (-1)))
def Fq {b a}:CT 159 [.M 11 Qp b,.clo (.func 241) [] [.L 619]] [(619,.W Qb a)] (KK b a) V.I (λ_=>[(619,.W Qb a)]):=
 W 19 func159 Z<|N 9 Z<|F 4 [0,1,7] [619] (λst=>([(8,.I st)],[])) [] [619] (λq=>(.ret,([(4,.I q)],[]))) [] [619] (λq=>(.exit 0,([],[]))) Z (λd=>I 6 Z (J 15 Z λe=>S 1 .clo [(619,619)] Qhc Z λc=>I 2 Z (L 9 Z)<|R 7 Z)<|X 2 Z) (λf=>E 2 Z) (λ_=>E 8 Z)
def Kl:O_ Int:=j_ (KK m c) λa=>Q a
def QbS {b a}:CT 157 [.M 11 Qp b,.I a] [] (Kl b a) V.I no_:=
 W 8 func157 Z<|S 10 .fn [(619,3)] Fq Z λc=>E 4 Z
def Jj:O_ (Int×Qg):=j_ (Kl n.now.Items n.call.Id) λb=>bif (0<=b)then j_ (idx n.now.Items b) λc=>Q (0,c)else bif ((0<n.call.Id)&&(n.call.Id<n.now.Next))then Q (12,(Qg.mk 0 (Qo.mk 0 ([]:LI_) ([]:LI_) ([]:LI_)) (QZ.mk 0 0 0 0 0) 0))else Q (3,(Qg.mk 0 (Qo.mk 0 ([]:LI_) ([]:LI_) ([]:LI_)) (QZ.mk 0 0 0 0 0) 0))
def PE {f}:CT 149 [.L 619] [(619,.W QT f)] (Jj f) (λr=>(.tup [.G Qp r.2,.I r.1])) (λ_=>[(619,.W QT f)]):=
 W 49 func149 Z<|B λj i=>D 7 Z (dz_ [(10,.B (.C2 (.I j))),(0,.N)]) [] [] [0,2,4] [2,619] Z Z (a1_ (QbS _ i)) Z<|I 10 Z (J 8 Z λk=>E 8 Z)<|T 1 [2] [2,619] ([(27,.b ((0<f.call.Id)&&(f.call.Id<f.now.Next)))],[]) Z (gT_ [.K [0,2] [2,619]] Z<|(λg h=>by
   rcases Qrj (decide (0<f.call.Id))with e | e
   ·refine AK.draw2 QA g mixed [.N,.N,.N,.N,.N,.N,.E (.b true),.N,.N,.N,.N,.N,.N,.N,.N,.N,.N,.N,.N,.N] [] [] [2,27] [2,619] rfl rfl rfl (tc_ e) rfl (by kernel_rfl) rfl rfl rfl ?_;refine Yq g [.S 27 (.b ((0<f.call.Id)&&(f.call.Id<f.now.Next))),.K [2,27] [2,619]] rfl (a1_ (cb_ (XW e rfl))) ?_;exact tA_ 0 Z g h
   refine AK.draw2 QA g mixed [.N,.N,.N,.N,.N,.N,.E (.b false),.N,.N,.N,.N,.N,.N,.N,.N,.N,.N,.N,.N,.N] [] [] [2,27] [2,619] rfl rfl rfl (tc_ e) rfl (by kernel_rfl) rfl rfl rfl ?_;refine Yq g [.S 27 (.b ((0<f.call.Id)&&(f.call.Id<f.now.Next))),.K [2,27] [2,619]] rfl (a1_ (cb_ (Yy e rfl))) ?_;exact tA_ 0 Z g h))<|I 1 Z (G [2,.v .no [none,none,Q 1,Q 1,Q 1,none,none,none,none,none,none] (.agg (Qp (Qg.mk 0 (Qo.mk 0 ([]:LI_) ([]:LI_) ([]:LI_)) (QZ.mk 0 0 0 0 0) 0))),7] Z Z<|E 0 Z)<|G [5,.v .no [none,none,Q 1,Q 1,Q 1,none,none,none,none,none,none] (.agg (Qp (Qg.mk 0 (Qo.mk 0 ([]:LI_) ([]:LI_) ([]:LI_)) (QZ.mk 0 0 0 0 0) 0))),5] Z Z<|E 0 Z
def WN:O_ (Int×QZ):=Q (0,k)
def Ei:O_ (Int×QZ):=WN (QZ.mk k.Most k.Enough (Qm (k.Open-1)) k.Done (Qm (k.Failed+1)))
def WH:O_ (Int×QZ):=j_ (Jw k) λd=>bif (!d)then Q (1,k)else j_ (Kr k) λe=>bif e then Q (12,k)else bif (c==0)then j_ (Fj k) λa=>bif (a==k.Most)then Q (2,k)else WN (QZ.mk k.Most k.Enough (Qm (k.Open+1)) k.Done k.Failed)else bif (c==1)then Ei (QZ.mk k.Most k.Enough k.Open (Qm (k.Done+1)) (Qm (k.Failed-1)))else bif (c==2)then Ei k else WN k
def SW {i b}:CT 286 [.G XK i,.I b] [] (WH i b) (λr=>(.tup [.G XK r.2,.I r.1])) no_:=
 W 49 func286 Z<|A 12 Ll Z λj=>I 4 Z (E 10 Z)<|A 3 SS Z λk=>I 3 Z (E 10 Z)<|mE_ 3 [2,4] [4] (λe:QZ=>([],[(2,.W XK e)])) (λe=>WN e) Z (mE_ 6 [2,4] [4] (λf:QZ=>([],[(2,.W XK f)])) (λf=>Ei f) Z (I 13 Z (B λh g=>D 8 Z [.N,.B (.C1 (.I h)),.N,.N,.N] [] [] [2,4,26] [2,4] Z Z (a1_ (QbP _ g)) Z<|I 1 Z (E 16 Z)<|P 16 Z Z)<|I 9 Z (P 24 Z Z)<|I 8 Z (P 7 Z Z)<|P 10 Z Z) λf=>P 20 Z Z) λe=>E 8 Z
def MO:O_ (Int×QZ):=j_ (WH k 0) λa=>Q (a.1,a.2)
def QnF {a}:CT 235 [.G XK a] [] (MO a) (λr=>(.tup [.G XK r.2,.I r.1])) no_:=
 W 8 func235 Z<|A 10 SW Z λb=>E 7 Z
def Iy:O_ (Int×QZ):=j_ (WH k 1) λa=>Q (a.1,a.2)
def Ql4 {a}:CT 236 [.G XK a] [] (Iy a) (λr=>(.tup [.G XK r.2,.I r.1])) no_:=
 W 8 func236 Z<|A 10 SW Z λb=>E 7 Z
def Iz:O_ (Int×QZ):=j_ (WH k 2) λa=>Q (a.1,a.2)
def Ql5 {a}:CT 237 [.G XK a] [] (Iz a) (λr=>(.tup [.G XK r.2,.I r.1])) no_:=
 W 8 func237 Z<|A 10 SW Z λb=>E 7 Z
def WO (c:QZ):O_ (Int×QZ):=bif (n.call.Do==4)then j_ (MO c) λe=>Q (e.1,e.2)else bif (n.call.Do==2)then j_ (Iy c) λa=>Q (a.1,a.2)else j_ (Iz c) λb=>Q (b.1,b.2)
def Qbo {a b}:CT 150 [.L 619,.G XK b] [(619,.W QT a)] (WO a b) (λr=>(.tup [.G XK r.2,.I r.1])) (λ_=>[(619,.W QT a)]):=
 W 27 func150 Z<|I 24 Z (A 3 QnF Z λe=>E 9 Z)<|I 6 Z (A 3 Ql4 Z λc=>E 9 Z)<|A 6 Ql5 Z λd=>E 7 Z
def Fs:O_ Qg:=j_ (Xt q.Mode.Vars) λb=>j_ (Xt q.Mode.Ins) λc=>j_ (Xt q.Mode.Outs) λd=>Q (Qg.mk q.Id (Qo.mk q.Mode.Task b c d) q.Batch q.Until)
def VY {f}:CT 234 [.G Qp f] [] (Fs f) (λr=>(.G Qp r)) no_:=
 W 22 func234 Z<|B λg b=>B λh c=>B λi e=>D 7 Z (dz_ [(3,.B (.cd false [.d] 1 (g.map Qb) g.length)),(3,.B (.cd false [.d] 1 (h.map Qb) h.length)),(3,.B (.cd false [.d] 1 (i.map Qb) i.length)),(2,.m .s),(2,.m .s),(2,.m .s)]) [] [] [1,2] [1,2] Z Z (a3_ ⟨(XV _ b),Qw⟩ ⟨(XV _ c),Qw⟩ ⟨(XV _ e),Qw⟩) Z<|E 8 Z
def Rp:O_ ((Int×(L_ Qg))⊕(L_ Qg)):=Q (y_ ((Qm (a+1)),m))
def Un (d:(L_ Qg)):O_ ((Int×(L_ Qg))⊕(L_ Qg)):=bif (g<(m.length:Int))then j_ (idx m g) λa=>bif (a.Id != c)then j_ (Fs a) λb=>j_ (chk (d.length+([b]:L_ Qg).length<=4294967296)) λ_=>Rp g (d++([b]:L_ Qg))else Rp g d else Q (i_ d)
def ET:O_ (L_ Qg):=j_ (Qt (λst=>Un m c st.1 st.2) (0,([]:L_ Qg))) (λq=>Q q)
def Rq {c b}:CT 231 [.M 11 Qp c,.I b] [] (ET c b) (λr=>(.P 600 r)) (λr=>[(600,.R 11 Qp r)]):=
 W 25 func231 Z<|N 14 Z<|aD_ 4 5 18 11 Z<|lA_ 0 [1,8,9] [] (λst=>([(5,.P 18 st.2),(10,.I st.1)],[(18,.R 11 Qp st.2)])) [] [] (λq=>(.exit 0,([(5,.P 18 q)],[(18,.R 11 Qp q)]))) Z (λ⟨d,g⟩=>I 6 Z (mE_ 2 [1,8,9,10] [] (λa:(L_ Qg)=>([(5,.P 18 a)],[(18,.R 11 Qp a)])) (λa=>Rp d a) Z (J 3 Z λe=>I 13 Z (A 3 VY Z λf=>pA_ 0 11 Qp Z<|P 3 Z Z)<|P 2 Z Z) λa=>R 4 Z)<|X 2 Z) λh=>gT_ [9,.ren 18 600] Z<|E 0 Z
def VG:O_ Bool:=Q (decide (g3.Id<q.Id))
def Qiq {c a}:CT 232 [.G Qp c,.L 619] [(619,.W Qp a)] (VG c a) V.b (λ_=>[(619,.W Qp a)]):=
 W 9 func232 Z<|E 17 Z
def XY:O_ (Int⊕(Int⊕Unit)):=bif (j1<(m.length:Int))then j_ (idx m j1) λe=>j_ (VG e q) λb=>bif b then Q (i_ (y_ j1))else Q (y_ (Qm (j1+1)))else Q (i_ (i_ ()))
def Js:O_ Int:=j_ (Qt (λst=>XY m q st) 0) (Sum.elim (λa=>Q a) (λa=>Q (-1)))
def Fv {a b}:CT 159 [.P 619 a,.clo (.func 232) [] [.L 620]] [(619,.R 11 Qp a),(620,.W Qp b)] (Js a b) V.I (λ_=>[(619,.R 11 Qp a),(620,.W Qp b)]):=
 W 19 func159 Z<|F 14 [0,1,7] [619,620] (λst=>([(8,.I st)],[])) [] [619,620] (λq=>(.ret,([(4,.I q)],[]))) [] [619,620] (λq=>(.exit 0,([],[]))) Z (λd=>I 6 Z (vA_ 16 Qp Z λe=>S 0 .clo [(619,620)] Qiq Z λc=>I 2 Z (L 9 Z)<|R 7 Z)<|X 2 Z) (λf=>E 2 Z) (λ_=>E 8 Z)
def YA (l:(L_ Qg))(i:Int)(m:(L_ Qg)):O_ (L_ Qg):=match m with
 | [u]=>(chk (decide (0<=i)&&decide (i.toNat<=l.length)&&decide (l.length+1<=4294967296))).bind λ_=>Q (l.take i.toNat++u::l.drop i.toNat)
 | _=>none
def Md (l i m){r}(h:YA l i m=Q r):QP prog 233 [.P 617 l,.I i,.P 618 m] [(617,.R 11 Qp l),(618,.R 11 Qp m)] (Gives (.P 617 r) [(617,.R 11 Qp r)]):=by
 unfold YA at h;split at h
 ·rename_i u;obtain⟨_,a,h⟩:=QU h;replace a:=QlM a;simp only[QH,QG]at a;cases h;have:=QoH QpG (l.map Qp) (Qp u) i a.1.1 (by rw[EA];exact a.1.2) (by rw[EA];exact a.2);rw[<-List.map_take,<-List.map_drop,<-Gp,<-TK,EA,EA]at this;exact this
 cases h
def MP (b:(L_ Qg))(h:Int):O_ (L_ Qg):=j_ (Fs q) λc=>j_ (YA b h ([c]:L_ Qg)) λd=>Q d
def EC:O_ (L_ Qg):=j_ (ET m q.Id) λb=>j_ (Js b q) λc=>bif (c<0)then MP q b (b.length:Int)else MP q b c
def Qdj {c a}:CT 148 [.M 11 Qp c,.G Qp a] [] (EC c a) (λr=>(.P 600 r)) (λr=>[(600,.R 11 Qp r)]):=
 W 24 func148 Z<|oC_ 11 [.d,.d] Rq Z λf=>S 7 .fn [(619,10),(620,3)] Fv Z λh=>mE_ 3 [3,5] [3,10] (λat_6:Int=>([(6,.I at_6)],[])) (λat_6=>MP a f at_6) Z (I 6 Z (P 5 Z Z)<|P 1 Z Z) λat_6=>A 5 VY Z λg=>B λe b=>g2_ [1,.O 22 (.arr 11 (([g]:L_ Qg).map Qp)),.cm (.fn) [(617,10),(618,22)] [(10,617)] [10,22] [.d,.d,.d] [(617,.R 11 Qp e)] (.P 617 e),4,.ren 10 600] Z Z (Md _ _ _ b)<|E 0 Z
def MQ:O_ Bool:=j_ (Jw k) λb=>bif b then Q (decide (k.Enough<=k.Done))else Q false
def SX:O_ Bool:=Q r
def Au:O_ Bool:=j_ (MQ k) (λb=>SX b)
def Ql6 {a}:CT 152 [.G XK a] [] (Au a) V.b no_:=
 W 12 func152 Z<|mV_ 7 [] [] (λc=>([(2,.b c)],[])) Z (A 2 Ll Z λd=>I 1 Z (M 8 Z)<|M 8 Z) λc=>E 2 Z
def KD:O_ ((Int×QMk)⊕(Int⊕QMk)):=bif (j<((List.replicate (min2 (h.length:Int) (j0.length:Int)).toNat (([]:QBg):QBg)).length:Int))then j_ (idx h j) λd=>j_ (idx j0 j) λe=>j_ (JB d e) λb=>j_ (idx c1 j) λa=>bif (b.2 != 0)then Q (i_ (y_ b.2))else Q (y_ ((Qm (j+1)),(c1.set j.toNat b.1)))else Q (i_ (i_ c1))
def WI:O_ (QMk×Int):=j_ (chk (decide (0<=(min2 (h.length:Int) (j0.length:Int)))&&decide ((min2 (h.length:Int) (j0.length:Int))<=(min2 (h.length:Int) (j0.length:Int)))&&decide ((min2 (h.length:Int) (j0.length:Int))<=4294967296))) λ_=>j_ (Qt (λst=>KD h j0 st.1 st.2) (0,(List.replicate (min2 (h.length:Int) (j0.length:Int)).toNat (([]:QBg):QBg)))) (Sum.elim (λq=>Q (([]:L_ QBg),q)) (λq=>Q (q,0)))
def Qaw {l p}:CT 229 [.M 1 Ql l,.M 1 Ql p,.clo (.func 31) [] []] [] (WI l p) (λr=>(.tup [.M 1 Ql r.1,.I r.2])) no_:=
 W 43 func229 Z<|N 9 Z<|N 1 Z<|kA_ λt=>G [1,.o (.rows (List.replicate (min2 (l.length:Int) (p.length:Int)).toNat [.Y]))] Z ⟨t,Z⟩<|QlZ (AK.denilA (b:=16) [Q 2] Z (Qj2 (f:=Ql) (x:=([]:QBg)) Z))<|G [.S 16 (.own 16 (List.replicate (min2 (l.length:Int) (p.length:Int)).toNat (([]:QBg):QBg)).length),12] Z (by simp)<|F 0 [0,1,2,18] [] (λst=>([(8,.P 16 st.2),(19,.I st.1)],[(16,.R 1 Ql st.2)])) [] [] (λq=>(.ret,([(6,.Y),(7,.I q)],[]))) [] [] (λq=>(.exit 0,([(8,.P 16 q)],[(16,.R 1 Ql q)]))) Z (λ⟨y,h⟩=>I 6 Z (B λu i=>B λv j=>B λe k=>B λw g=>D 16 Z [.N,.N,.N,.N,.N,.B (.row (Ql u)),.N,.N,.N,.B (.row (Ql v)),.N,.B (.C2 (.tup [.M 2 Qy e.1,.I e.2])),.a .no none true true,.N,.a .no none true,.N,.m (.st (Ql w) ((h.set y.toNat e.1).map Ql)),.m .s] [0,1,2,8,9,10,18,19] [] [0,1,2,8,10,18,19] [16] Z Z (a5_ (Xw i) (Xw j) (Qar _ k) (YZ g Z) ⟨(Xz (Jd g).2),EI Z⟩) Z<|I 7 Z (L 10 Z)<|G [7,.S 8 (.own 16 (h.set y.toNat e.1).length)] Z (congrArg (λn=>V.own 16 n) (by simp))<|R 0 Z)<|X 2 Z) (λz=>gT_ [2,.denil 6 [Q 1]] Z<|E 0 Z) (λC=>zF_ 10 16 [6] [] Z<|E 0 Z)
def DV:O_ ((Int×QMk)⊕QMk):=Q (y_ ((Qm (a+1)),h))
def Jm:O_ ((Int×QMk)⊕QMk):=bif (p<(l.Cancel.length:Int))then j_ (idx l.Cancel p) λc=>bif ((0<=c)&&(c<(c1.length:Int)))then j_ (idx c1 c) λe=>DV p (c1.set c.toNat ([]:QBg))else DV p c1 else Q (i_ c1)
def AB:O_ (QMk×Int):=j_ (WI d4 i3.1) λa=>Q (a.1,a.2)
def Gm:O_ (QMk×Int):=j_ (ES b t) λa=>bif (a.2 != 0)then Q (([]:L_ QBg),a.2)else j_ (NS h) λd=>j_ (idx b.Tasks t.Task) λc=>j_ (Qt (λst=>Jm c st.1 st.2) (0,d)) (λq=>AB a q)
def Ql7 {k l m}:CT 154 [.G Qf k,.M 1 Ql l,.G QE m] [] (Gm k l m) (λr=>(.tup [.M 1 Ql r.1,.I r.2])) no_:=
 W 53 func154 Z<|A 12 QbR Z λt=>I 14 Z (gT_ [9,.denil 6 [Q 1]] Z<|E 0 Z)<|oC_ 5 [.d] Qdf Z λo=>J 10 Z λp=>N 2 Z<|lA_ 4 [8,30,31] [] (λst=>([(10,.P 23 st.2),(32,.I st.1)],[(23,.R 1 Ql st.2)])) [8] [] (λq=>(.exit 0,([(10,.P 23 q)],[(23,.R 1 Ql q)]))) Z (λ⟨h,g⟩=>I 6 Z (mE_ 2 [8,30,31,32] [] (λa:QMk=>([(10,.P 23 a)],[(23,.R 1 Ql a)])) (λa=>DV h a) Z (J 3 Z λe=>T 5 [8,10,12,30,31,32] [23] ([(43,.b ((0<=e)&&(e<(g.length:Int))))],[]) Z (H 4 Z (λc=>Y 6 43 Z (XW c Z)) λc=>Y 6 43 Z (Yy c Z))<|I 1 Z (B λi f=>g3_ [4,.x (λσ=>σ.set 23 (.arr 1 ((g.set e.toNat ([]:QBg)).map Ql))),2,.S 10 (.own 23 (g.set e.toNat ([]:QBg)).length)] Z (YZ f Z) (Qc.storeNil (zz:=2) (r:=Ql i) Z Z Z Z (Xz (Jd f).2) Z (QA.sz Z) Z (EI Z)) (congrArg (λn=>V.own 23 n) (by simp))<|P 0 Z Z)<|P 2 Z Z) λa=>R 4 Z)<|X 2 Z) λj=>G [6,.frz 23 (j.map Ql) [10,48] []] Z (a2_ (Wb Qw) (Wb Qw))<|S 0 .fn [] Qaw Z λs=>E 7 Z
def Kx:O_ (Int×QK):=j_ (Gm n.net n.now.M q.Mode) λb=>bif (b.2 != 0)then Q (b.2,n)else j_ (ET n.now.Items q.Id) λd=>Q (0,(QK.mk n.net (Qz.mk b.1 d n.now.Next n.now.Now) n.call))
def Qdk {f g}:CT 153 [.L 619,.G Qp g,.clo (.func 154) [] []] [(619,.W QT f)] (Kx f g) (λr=>(.I r.1)) (λr=>[(619,.W QT r.2)]):=
 W 45 func153 Z<|B λh b=>D 7 Z (dz_ [(12,.B (.C3 (.tup [.M 1 Ql h.1,.I h.2]))),(4,.N)]) [] [] [0,4,7,8] [4,619] Z Z (a1_ (Ql7 _ b)) Z<|I 8 Z (E 8 Z)<|B λi e=>D 3 Z (dz_ [(1,.a .no none true),(8,.B (.cd false [.d,.d] 11 (i.map Qp) i.length)),(3,.m .s),(3,.m .s)]) [0,4,7] [4] [] [619] Z Z (a1_ ⟨(Rq _ e),Qw⟩) Z<|E 7 Z
def Av:O_ (QMk×Int):=j_ (Yf b t) λc=>bif (c.2 != 0)then Q (([]:L_ QBg),c.2)else j_ (WI h c.1) λa=>Q (a.1,a.2)
def Ql8 {a b c}:CT 155 [.G Qf a,.M 1 Ql b,.G QE c] [] (Av a b c) (λr=>(.tup [.M 1 Ql r.1,.I r.2])) no_:=
 W 24 func155 Z<|A 12 Ro Z λe=>I 14 Z (gT_ [9,.denil 6 [Q 1]] Z<|E 0 Z)<|S 6 .fn [] Qaw Z λd=>E 7 Z
def Yk:O_ (Int×QK):=j_ (Av n.net n.now.M q.Mode) λb=>bif (b.2 != 0)then Q (b.2,n)else j_ (ET n.now.Items q.Id) λd=>Q (0,(QK.mk n.net (Qz.mk b.1 d n.now.Next n.now.Now) n.call))
def AS {f g}:CT 153 [.L 619,.G Qp g,.clo (.func 155) [] []] [(619,.W QT f)] (Yk f g) (λr=>(.I r.1)) (λr=>[(619,.W QT r.2)]):=
 W 45 func153 Z<|B λh b=>D 7 Z (dz_ [(12,.B (.C3 (.tup [.M 1 Ql h.1,.I h.2]))),(4,.N)]) [] [] [0,4,7,8] [4,619] Z Z (a1_ (Ql8 _ b)) Z<|I 8 Z (E 8 Z)<|B λi e=>D 3 Z (dz_ [(1,.a .no none true),(8,.B (.cd false [.d,.d] 11 (i.map Qp) i.length)),(3,.m .s),(3,.m .s)]) [0,4,7] [4] [] [619] Z Z (a1_ ⟨(Rq _ e),Qw⟩) Z<|E 7 Z
def Ym:O_ (Int×Qu×QK):=bif (o != 0)then Q (o,(Qu.mk 0 0 ([]:LI_)),n)else j_ (Kr q.Batch) λf=>bif (!f)then j_ (EC n.now.Items q) λg=>Q (0,(Qu.mk 0 q.Id ([]:LI_)),(QK.mk n.net (Qz.mk n.now.M g n.now.Next n.now.Now) n.call))else j_ (Au q.Batch) λh=>bif h then j_ (Kx n q) λd=>Q (d.1,(Qu.mk 0 q.Id ([q.Id]:L_ Int)),d.2)else j_ (Yk n q) λe=>Q (e.1,(Qu.mk 0 q.Id ([q.Id]:L_ Int)),e.2)
def KX:O_ (Int×Qu×QK):=j_ (Jj n) λa=>bif (a.1==0)then j_ (WO n a.2.Batch) λb=>Ym n b.1 (Qg.mk a.2.Id a.2.Mode b.2 a.2.Until)else Ym n a.1 a.2
def ZC {k}:CT 77 [.L 619] [(619,.W QT k)] (KX k) (λr=>(.tup [.G QF r.2.1,.I r.1])) (λr=>[(619,.W QT r.2.2)]):=
 W 63 func77 Z<|S 9 .fn [(619,619)] PE Z λq=>mF_ 8 [0,2,4] [2,619] (λ(c:Int) (b:Qg)=>([(5,.I c)],[(4,.W Qp b)])) (λc b=>Ym k c b) Z (I 6 Z (S 4 .fn [(619,619)] Qbo Z λl=>fA_ 7 Z Z)<|fA_ 1 Z Z) λc b=>I 7 Z (G [2,.v .no [none,none,Q 1] (.agg (QF (Qu.mk 0 0 ([]:LI_)))),7] Z Z<|E 0 Z)<|G [8,.v (.bd []) [] (.sl 1 (([b.Id]:L_ Int).map Qb)),11] Z Z<|A 0 SS Z λo=>I 4 Z (B λe f=>D 1 Z (dz_ [(7,.B (.cd false [.d,.d] 11 (e.map Qp) e.length)),(3,.m .s)]) [] [] [2,4] [2,4,619] Z Z (a1_ ⟨(Qdj _ f),Qw⟩) Z<|G [5,.v .no [none,none,Q 1] (.agg (QF (Qu.mk 0 b.Id ([]:LI_)))),7] Z Z<|E 0 Z)<|A 4 Ql6 Z λp=>I 3 Z (B λg h=>D 1 Z [.a .no (Q ([],.agg (QF (Qu.mk 0 b.Id ([b.Id]:L_ Int))))) true,.N,.E (.G Qp b),.m (.cm (.fn) [(619,619)] [(619,619)] [] [.d,.d,.d] [(619,.W QT g.2)] (.I g.1) []),.m .s,.N] [0,2,4,6] [2,4,6] [2,3] [2,619] Z Z (a3_ Z Z (a1_ (Qdk _ h))) Z<|E 4 Z)<|B λi j=>D 4 Z [.a .no (Q ([],.agg (QF (Qu.mk 0 b.Id ([b.Id]:L_ Int))))) true,.N,.E (.G Qp b),.m (.cm (.fn) [(619,619)] [(619,619)] [] [.d,.d,.d] [(619,.W QT i.2)] (.I i.1) []),.m .s,.N] [0,2,4,6] [2,4,6] [2,3] [2,619] Z Z (a3_ Z Z (a1_ (AS _ j))) Z<|E 2 Z
def Jx (c:Qh)(f:QMk)(a:Int)(b:LI_):O_ (Int×Xm):=(WM c a b).bind λd=>bif (d.2 != 0)then Q (d.2,(Xm.mk (Qh.mk ([]:(L_ QR)) ([]:(L_ XR)) ([]:(L_ QW)) 0 0) ([]:QMk) (QW.mk (⟨#[]⟩:ByteArray) ([]:(L_ Je)) (Qn.mk 0 0 ([]:(L_ Qn))) 0 0 ([]:(L_ Jf)) ([]:(L_ Jf)) ([]:LI_) 0 (0,0,0)) ([]:LI_)))else (idx c.Tasks a).bind λe=>Q (0,(Xm.mk c f e d.1))
def QbT {f g b c}:CT 185 [.G Qf f,.M 1 Ql g,.I b,.M 1 Qb c] [] (Jx f g b c) (λr=>(.tup [.G Jv r.2,.I r.1])) no_:=
 W 32 func185 Z<|A 12 VF Z λh=>I 14 Z (G [2,.v .no [Q 7,Q 3,Q 14,none,none,Q 1,none,Q 2,none,none,Q 3,none,none,Q 4,Q 4,Q 1,none,none,none,none,Q 1] (.agg (Jv (Xm.mk (Qh.mk ([]:(L_ QR)) ([]:(L_ XR)) ([]:(L_ QW)) 0 0) ([]:QMk) (QW.mk (⟨#[]⟩:ByteArray) ([]:(L_ Je)) (Qn.mk 0 0 ([]:(L_ Qn))) 0 0 ([]:(L_ Jf)) ([]:(L_ Jf)) ([]:LI_) 0 (0,0,0)) ([]:LI_)))),7] Z Z<|E 0 Z)<|B λe d=>D 3 Z (dz_ [(5,.B (.row (QC e))),(3,.m .s),(0,.m .s)]) [] [] [8,9] [8] Z Z (a1_ (Xw d)) Z<|E 2 Z
def Yb (b:Xm):O_ Int:=j_ (CB b.task.Guard b.env) λa=>bif (a.2 != 0)then Q a.2 else bif (a.1==0)then Q 9 else Q 0
def Me {a}:CT 186 [.G Jv a] [] (Yb a) V.I no_:=
 W 21 func186 Z<|A 13 Qdi Z λb=>I 16 Z (E 9 Z)<|I 7 Z (E 8 Z)<|E 9 Z
def UQ:O_ QLL:=Q d2
def NG:O_ ((Int×LI_)⊕LI_):=Q (y_ ((Qm (a+1)),i))
def YT:O_ QLL:=
 bif ((e<0)||((16<e)||((a==3)&&(4<e))))then
 Q ([]:QLL)
 else
 bif (a==1)then
 j_ (Qt (λst=>bif (st.1<e)then j_ (chk (st.2.length+([st.1]:L_ Int).length<=4294967296)) λd=>Q (y_ ((Qm (st.1+1)),(st.2++([st.1]:L_ Int))))else Q (i_ st.2)) (0,([]:L_ Int))) (λq=>Q ([q]:QLL))
 else
 bif (a==2)then
 j_ (Qt (λst=>bif (st.1<e)then j_ (chk (st.2.length+([([st.1]:L_ Int)]:QLL).length<=4294967296)) λb=>Q (y_ ((Qm (st.1+1)),(st.2++([([st.1]:L_ Int)]:QLL))))else Q (i_ st.2)) (0,([]:QLL))) (λq=>UQ q)
 else
 bif (a==3)then
 j_ (Qt (λst=>j_ (chk (0<=e)) λf=>bif (st.1<(Qqx .i64 1 e))then j_ (Qt (λg=>bif (g.1<e)then j_ (chk (0<=g.1)) λi=>bif ((Ge .i64 (GN .i64 st.1 g.1) 1)==1)then j_ (chk (g.2.length+([g.1]:L_ Int).length<=4294967296)) λi=>NG g.1 (g.2++([g.1]:L_ Int))else NG g.1 g.2 else Q (i_ g.2)) (0,([]:L_ Int))) (λj=>j_ (chk (st.2.length+([j]:QLL).length<=4294967296)) λk=>Q (y_ ((Qm (st.1+1)),(st.2++([j]:QLL)))))else Q (i_ st.2)) (1,([]:QLL))) (λq=>UQ q)
 else
 UQ ([]:QLL)
def NH {c a}:CT 183 [.I c,.I a] [] (YT c a) (λr=>(.P 600 r)) (λr=>[(600,.R 1 XA r)]):=
 W 79 func183 Z<|T 7 [0,1] [] ([(25,.b ((a<0)||((16<a)||((c==3)&&(4<a)))))],[]) Z (H 4 Z (λd=>Y 12 25 Z (YW d Z)) λd=>H 4 Z (λg=>Y 8 25 Z (Xe d (YW g Z))) λg=>H 3 Z (λi=>Y 5 25 Z (Xe d (Xe g (XW i Z)))) λi=>Y 5 25 Z (Xe d (Xe g (Yy i Z))))<|I 1 Z (aD_ 7 4 600 1 Z<|E 0 Z)<|mE_ 7 [] [] (λe:QLL=>([(5,.P 604 e)],[(604,.R 1 XA e)])) (λe=>UQ e) Z (I 12 Z (aD_ 13 6 33 1 Z<|lA_ 0 [29] [] (λst=>([(6,.P 33 st.2),(30,.I st.1)],[(33,.R 1 Qb st.2)])) [] [] (λq=>(.exit 1,([(6,.P 33 q)],[(33,.R 1 Qb q)]))) Z (λ⟨w,x⟩=>I 6 Z (pA_ 13 1 Qb Z<|R 8 Z)<|X 2 Z) λk=>g2_ [5,.frz 33 (k.map Qb) [6,38] [],1,.O 39 (.arr 1 (([k]:QLL).map XA)),6,.ren 39 600] Z (a2_ (Wb Qw) (Wb Qw)) Z<|E 0 Z)<|I 6 Z (aD_ 7 5 46 1 Z<|lA_ 0 [42] [] (λst=>([(5,.P 46 st.2),(43,.I st.1)],[(46,.R 1 XA st.2)])) [] [] (λq=>(.exit 3,([(5,.P 46 q)],[(46,.R 1 XA q)]))) Z (λ⟨s,y⟩=>I 6 Z (G [13,.v (.bd []) [] (.sl 1 (([s]:L_ Int).map Qb))] Z Z<|pA_ 0 1 XA Z<|R 8 Z)<|X 2 Z) λz=>gT_ [2,.ren 46 604] Z<|P 0 Z Z)<|I 6 Z (aD_ 6 5 74 1 Z<|lA_ 0 [1] [] (λst=>([(5,.P 74 st.2),(9,.I st.1)],[(74,.R 1 XA st.2)])) [] [] (λq=>(.exit 5,([(5,.P 74 q)],[(74,.R 1 XA q)]))) Z (λ⟨set_33,C⟩=>kA_ λl=>K [5,.o (.any (.I (Qqx .i64 1 a)) none),3] Z (λp=>(a1_ (λσ h u _=>Qc.shl Z Z (QJ p.n Z) (h _ _ Z) (h _ _ Z) (Xc l))))<|I 0 Z (aD_ 17 10 69 1 Z<|lA_ 0 [1,5,9,60] [74] (λst=>([(10,.P 69 st.2),(61,.I st.1)],[(69,.R 1 Qb st.2)])) [1,5,9] [74] (λq=>(.exit 7,([(10,.P 69 q)],[(69,.R 1 Qb q)]))) Z (λ⟨j,a0⟩=>I 6 Z (mE_ 2 [1,5,9,60,61] [74] (λf:LI_=>([(10,.P 69 f)],[(69,.R 1 Qb f)])) (λf=>NG j f) Z (kA_ λm=>K [11,.o (.any (.I (GN .i64 set_33 j)) none),.o (.any (.I (Ge .i64 (GN .i64 set_33 j) 1)) none),3] Z (λp=>(a2_ (λσ h u _=>Qc.shr Z Z (QJ p.n Z) (h _ _ Z) (h _ _ Z) (Xc m)) (λσ h u _=>Qc.andB Z Z (QJ p.n Z) (h _ _ Z) (h _ _ Z))))<|I 0 Z (pA_ 3 1 Qb Z<|P 3 Z Z)<|P 2 Z Z) λf=>R 4 Z)<|X 2 Z) λt=>G [5,.frz 69 (t.map Qb) [10,75] []] Z (a2_ (Wb Qw) (Wb Qw))<|pA_ 0 1 XA Z<|R 9 Z)<|X 2 Z) λa1=>gT_ [2,.ren 74 604] Z<|P 0 Z Z)<|aD_ 2 5 604 1 Z<|P 0 Z Z) λe=>gT_ [7,.ren 604 600] Z<|E 0 Z
def Wf:O_ (Int⊕(Unit⊕Unit)):=bif (p<(i.length:Int))then j_ (idx i p) λe=>j_ (idx g1 p) λb=>bif (e != b)then Q (i_ (y_ ()))else Q (y_ (Qm (p+1)))else Q (i_ (i_ ()))
def JQ:O_ Bool:=bif ((i.length:Int) != (g1.length:Int))then Q false else j_ (Qt (λst=>Wf i g1 st) 0) (Sum.elim (λq=>Q false) (λq=>Q true))
def ZF {f g}:CT 265 [.M 1 Qb f,.M 1 Qb g] [] (JQ f g) V.b no_:=
 W 26 func265 Z<|N 9 Z<|N 1 Z<|I 3 Z (E 7 Z)<|N 6 Z<|F 4 [0,1,12] [] (λst=>([(13,.I st)],[])) [] [] (λq=>(.ret,([(4,.b false)],[]))) [] [] (λq=>(.exit 0,([],[]))) Z (λi=>I 6 Z (B λh d=>B λe c=>D 11 Z (dz_ [(2,.B (.row (Qb h))),(3,.B (.row (Qb e))),(1,.N)]) [] [] [0,1,12,13,24] [] Z Z (a2_ (Xw d) (Xw c)) Z<|I 1 Z (L 8 Z)<|R 7 Z)<|X 2 Z) (λ_=>E 2 Z) (λ_=>E 8 Z)
def Ln:O_ Bool:=j_ (JQ i g1) λc=>Q c
def QfX {c a}:CT 264 [.M 1 Qb c,.L 619] [(619,.W XA a)] (Ln c a) V.b (λ_=>[(619,.W XA a)]):=
 W 7 func264 Z<|A 9 ZF Z λd=>E 4 Z
def Jc:O_ (Int⊕(Int⊕Unit)):=bif (f2<(d2.length:Int))then j_ (idx d2 f2) λe=>j_ (Ln e e2) λb=>bif b then Q (i_ (y_ f2))else Q (y_ (Qm (f2+1)))else Q (i_ (i_ ()))
def DE:O_ Int:=j_ (Qt (λst=>Jc d2 e2 st) 0) (Sum.elim (λq=>Q q) (λq=>Q (-1)))
def Sy {b a}:CT 261 [.M 1 XA b,.clo (.func 264) [] [.L 619]] [(619,.W XA a)] (DE b a) V.I (λ_=>[(619,.W XA a)]):=
 W 19 func261 Z<|N 9 Z<|F 4 [0,1,7] [619] (λst=>([(8,.I st)],[])) [] [619] (λq=>(.ret,([(4,.I q)],[]))) [] [619] (λq=>(.exit 0,([],[]))) Z (λd=>I 6 Z (J 15 Z λe=>S 1 .clo [(619,619)] QfX Z λc=>I 2 Z (L 9 Z)<|R 7 Z)<|X 2 Z) (λf=>E 2 Z) (λ_=>E 8 Z)
def Ws:O_ Bool:=j_ (DE d2 e2) λc=>Q (decide (0<=c))
def Pb {c a}:CT 263 [.M 1 XA c,.clo (.func 264) [] [.L 619]] [(619,.W XA a)] (Ws c a) V.b (λ_=>[(619,.W XA a)]):=
 W 9 func263 Z<|S 9 .fn [(619,619)] Sy Z λd=>E 5 Z
def GL:O_ Bool:=j_ (YT a e) λd=>j_ (Ws d i) λb=>Q b
def Qax {a c e}:CT 192 [.I a,.I c,.M 1 Qb e] [] (GL a c e) V.b no_:=
 W 12 func192 Z<|oC_ 10 [.d,.d] NH Z λf=>zF_ 1 9 [9] [] Z<|S 0 .fn [(619,5)] Pb Z λg=>E 4 Z
def Dv:O_ (Unit⊕Unit):=bif (((Xa d c).getD 0)<g)then Q (i_ ())else Q (y_ ())
def CC : O_ Bool:=Q true
def CD : O_ Bool:=Q false
def GY:O_ Bool:=j_ (HZ (λst p=>Dv i0 p.1 p.2) () d) (Sum.elim (λq=>CC) (λq=>CD))
def NU {k g}:CT 283 [.map 619,.map 620] [(619,.map (QM V.I V.I k)),(620,.map (QM V.I V.I g))] (GY k g) V.b (λ_=>[(619,.map (QM V.I V.I k)),(620,.map (QM V.I V.I g))]):=
 W 19 func283 Z<|@λC r=>gP_ 9 Z<|λa h=>AK.openMap (b:=619) Ac Z λc d L5 l s=>QcM a h<|K [.x (λσ=>(σ.set 8 (.itr c d #[] none)).put 8 (.L 8)),3,.K [1,8] [8,619,620]] Z (λa=>(a1_ (Qc.range (b:=619) Z Z (QJ a.n Z) Z Z EL Z)))<|B λu t=>(λa h=>by
   refine AK.range (body:=(λst p=>Dv g p.1 p.2)) (λst seen σ=>∃cur:O_ Nat,σ=⟨[(1,.map 620),lk_ 8],[(8,.itr c d seen cur),(619,.mapX c d (IK V.I V.I L5) (QM V.I V.I k)),(620,.map (QM V.I V.I g))]⟩) (λq e σ=>e=.ret/\σ=⟨[(4,.b false)],[(619,.mapX c d (IK V.I V.I L5) (QM V.I V.I k)),(620,.map (QM V.I V.I g))]⟩) (λst e σ=>e=.exit 0/\σ=⟨[],[(619,.mapX c d (IK V.I V.I L5) (QM V.I V.I k)),(620,.map (QM V.I V.I g))]⟩) l s t (ex_ _ rfl) ?_ ?_
   ·rintro _ seen σ ⟨cur,rfl⟩ hex;refine tg_ a [2] ?_;refine AK.nextT (b:=8) (m:=619) rfl rfl rfl (QJ a.n rfl) rfl rfl rfl rfl ?_ ?_
    ·intro hleft;refine tg_ a [7,.K [] [619,620]] ?_;exact AK.done (Or.inl (an_ hleft (an_ (λh=>(by cases h)) (an_ Z Z))))
    intro O v w i;obtain⟨o,h⟩:=hex _ i;have ho:=h;replace h:Dv g v w=Q o:=h;refine Yq a [10,.x (λσ=>σ.put 11 (.tup [.I v,.I w])),11,.o (.any (.I ((Xa g v).getD 0)) none),3] rfl (a2_ (Qc.entryT (b:=8) (m:=619) (e:=V.I) (f:=V.I) rfl rfl (QJ a.n rfl) rfl i rfl rfl) (λσ y h2 _=>Qc.lookup (z:=0) rfl rfl (QJ a.n rfl) (y _ _ rfl) (h2 _ _ rfl) (y _ _ rfl) EL Ac Qed rfl)) ?_;refine bg_ h (λj h=>Yq a [.T,7,.K [4] [619,620]] rfl (a1_ j) ?_) λj h=>Yq a [.F,2,.K [1,8] [8,619,620]] rfl (a1_ j) ?_
    ·cases h;exact AK.done (Or.inr (ex_ _ (an_ i (Or.inr (ex_ _ (an_ ho (an_ (λh=>(by cases h)) (an_ Z Z))))))))
    cases h;exact AK.done (Or.inr (ex_ _ (an_ i (Or.inl (ex_ _ (an_ ho (an_ Z (ex_ _ Z))))))))
   rcases u with(_ | _)
   ·replace h:CC=Q r:=h;unfold CC at h;rintro e σ ⟨rfl,rfl⟩;refine tg_ a [8] ?_;refine AK.closeMap (b:=619) rfl ?_;refine tg_ a [.K [4] [619,620]] ?_;exact E 0 Z a h
   replace h:CD=Q r:=h;unfold CD at h;rintro e σ ⟨rfl,rfl⟩;refine tg_ a [2] ?_;refine AK.closeMap (b:=619) rfl ?_;refine tg_ a [.K [4] [619,620]] ?_;exact E 0 Z a h)
def QbU:O_ Bool:=j_ (GY j3.1 j3.2) λa=>Q a
def Mf:O_ Bool:=j_ (MH d i0) (Sum.elim (λq=>Q false) (Sum.elim (λq=>Q false) (Sum.elim (λq=>Q false) (λq=>QbU q))))
def Qkn {c e}:CT 304 [.M 2 Qy c,.M 2 Qy e] [] (Mf c e) V.b no_:=
 W 21 func304 Z<|gP_ 9 Z<|s4_ (λj a=>G [.cm (.fn) [] [] [] [.d,.d] [] (.tup [.lit (.map none),.lit (.map none),.b false]),21] Z (Kh _ a)<|E 0 Z) (λg a=>G [.cm (.fn) [] [(11,603)] [] [.d,.d] [(603,.map (QM V.I V.I g))] (.tup [.lit (.map none),.map 603,.b false]),21] Z (Kh _ a)<|E 0 Z) (λh a=>G [.cm (.fn) [] [(11,602)] [] [.d,.d] [(602,.map (QM V.I V.I h))] (.tup [.map 602,.lit (.map none),.b false]),21] Z (Kh _ a)<|E 0 Z) λf a=>G [.cm (.fn) [] [(11,602),(611,603)] [] [.d,.d] [(602,.map (QM V.I V.I f.1)),(603,.map (QM V.I V.I f.2))] (.tup [.map 602,.map 603,.b true]),15] Z (Kh _ a)<|S 0 .fn [(619,11),(620,611)] NU Z λi=>E 5 Z
def QL:O_ (Int⊕(Unit⊕Unit)):=bif (j<(h.length:Int))then j_ (idx h j) λf=>j_ (idx j0 j) λb=>j_ (Mf f b) λc=>bif (!c)then Q (i_ (y_ ()))else Q (y_ (Qm (j+1)))else Q (i_ (i_ ()))
def XC:O_ Bool:=bif ((h.length:Int) != (j0.length:Int))then Q false else j_ (Qt (λst=>QL h j0 st) 0) (Sum.elim (λq=>Q false) (λq=>Q true))
def Gk {a c}:CT 27 [.M 1 Ql a,.M 1 Ql c,.clo (.func 304) [] []] [] (XC a c) V.b no_:=
 W 32 func27 Z<|N 9 Z<|N 1 Z<|I 3 Z (E 7 Z)<|N 6 Z<|F 4 [1,2,15,16] [] (λst=>([(17,.I st)],[])) [] [] (λq=>(.ret,([(6,.b false)],[]))) [] [] (λq=>(.exit 0,([],[]))) Z (λf=>I 6 Z (J 7 Z λg=>J 9 Z λd=>A 9 Qkn Z λe=>I 3 Z (L 8 Z)<|R 7 Z)<|X 2 Z) (λ_=>E 2 Z) (λ_=>E 8 Z)
def DG:O_ Bool:=j_ (XC h j0) λc=>Q c
def Qay {a c}:CT 262 [.M 1 Ql a,.M 1 Ql c] [] (DG a c) V.b no_:=
 W 8 func262 Z<|S 9 .fn [] Gk Z λd=>E 4 Z
def Jg:O_ (Int⊕(Int⊕Unit)):=bif (o<(i.length:Int))then j_ (idx i o) λd=>bif (e0==d)then Q (i_ (y_ o))else Q (y_ (Qm (o+1)))else Q (i_ (i_ ()))
def Ad:O_ Int:=Q a
def Ae : O_ Int:=Q (-1)
def Dx:O_ Int:=j_ (Qt (λst=>Jg i e0 st) 0) (Sum.elim (λq=>Ad q) (λq=>Ae))
def ZG {a b}:CT 282 [.M 1 Qb a,.I b] [] (Dx a b) V.I no_:=
 W 19 func282 Z<|N 9 Z<|F 4 [0,1,7] [] (λst=>([(8,.I st)],[])) [] [] (λq=>(.ret,([(4,.I q)],[]))) [] [] (λq=>(.exit 0,([],[]))) Z (λc=>I 6 Z (J 15 Z λd=>I 4 Z (L 9 Z)<|R 7 Z)<|X 2 Z) (λe=>E 2 Z) (λ_=>E 8 Z)
def YH:O_ Bool:=j_ (Dx i e0) λc=>Q (decide (0<=c))
def Fw {a c}:CT 226 [.M 1 Qb a,.I c] [] (YH a c) V.b no_:=
 W 9 func226 Z<|A 9 ZG Z λd=>E 5 Z
def KY:O_ (Int⊕(Unit⊕Unit)):=Q (y_ (Qm (a+1)))
def CE (c:Xm):O_ Bool:=bif (i3.2==0)then j_ (DG i3.1 c.m) λb=>Q b else Q false
def CF:O_ (Int⊕(Unit⊕Unit)):=bif r then Q (i_ (y_ ()))else KY a
def Yu (d:Xm)(b:LI_)(a:Int):O_ (Int⊕(Unit⊕Unit)):=bif (a<(d.task.Ins.length:Int))then j_ (YH b a) λf=>bif f then KY a else j_ (Xt b) λc=>j_ (chk (c.length+([a]:L_ Int).length<=4294967296)) λ_=>j_ (Wm (c++([a]:L_ Int))) λe=>j_ (chk (e.length=(c++([a]:L_ Int)).length)) λ_=>j_ (Yo d.net d.task.Ins e d.env) λg=>j_ (CE g d) (λh=>CF a h)else Q (i_ (i_ ()))
def XS (b:Xm)(a:LI_):O_ Int:=j_ (Yo b.net b.task.Ins a b.env) λc=>bif (c.2 != 0)then Q c.2 else j_ (DG c.1 b.m) λd=>bif (!d)then Q 10 else bif (b.task.Join != 3)then Q 0 else j_ (Qt (λst=>Yu b a st) 0) (Sum.elim (λq=>Q 11) (λq=>Q 0))
def NV {i e}:CT 191 [.G Jv i,.M 1 Qb e] [] (XS i e) V.I no_:=
 W 76 func191 Z<|A 16 AR Z λo=>I 16 Z (E 9 Z)<|A 5 Qay Z λp=>I 4 Z (E 8 Z)<|I 9 Z (E 8 Z)<|N 9 Z<|F 4 [1,2,41] [2] (λst=>([(42,.I st)],[])) [] [] (λq=>(.ret,([(4,.I 11)],[]))) [] [] (λq=>(.exit 1,([],[]))) Z (λh=>I 6 Z (mU_ 2 [1,2,41,42] [2] ([],[]) (KY h) Z (A 12 Fw Z λj=>I 2 Z (uA_ 3 Z Z)<|oC_ 5 [.d] XV Z λk=>pA_ 1 1 Qb Z<|B λa f=>kA_ λc=>gA_ [6,.cm (.fn) [(619,49)] [(49,619)] [] [.d] [(619,.R 1 Qb a)] (.tup []),.S 8 (.P 49 a),.S 52 (.P 49 a),.S 53 (.P 49 a),12,.frz 49 (a.map Qb) [8,52,53,61] []] Z (a5_ (Ma _ f) (by simp[Xc c]) (by simp[Xc c]) (by simp[Xc c]) (a4_ (Wb Qw) (Wb Qw) (Wb Qw) (Wb Qw)))<|A 0 AR Z λl=>mV_ 8 [1,2,41,42] [2] (λg=>([(74,.b g)],[])) Z (I 4 Z (A 3 Qay Z λm=>M 2 Z)<|M 6 Z) λg=>I 1 Z (L 8 Z)<|uA_ 2 Z Z)<|R 4 Z)<|X 2 Z) (λ_=>E 2 Z) (λ_=>E 8 Z)
def Yd (b:Xm)(a:LI_):O_ Int:=j_ (Yo b.net b.task.Outs a b.env) λc=>Q c.2
def NW {b a}:CT 190 [.G Jv b,.M 1 Qb a] [] (Yd b a) V.I no_:=
 W 20 func190 Z<|A 16 AR Z λc=>E 14 Z
def Ce (a:(Int×Xm))(d:Qo):O_ Bool:=j_ (GL a.2.task.Join (a.2.task.Ins.length:Int) d.Ins) λb=>bif (!b)then Q true else j_ (GL a.2.task.Split (a.2.task.Outs.length:Int) d.Outs) λc=>Q (!c)
def Cf (c:(Int×Xm))(d:Qo)(e:Bool):O_ Int:=bif e then Q 11 else j_ (XS c.2 d.Ins) λa=>bif (a != 0)then Q a else j_ (Yd c.2 d.Outs) λb=>Q b
def JN (b:(Int×Xm))(c:Qo)(a:Int):O_ Int:=bif (a != 0)then Q a else j_ (Ce b c) (λd=>Cf b c d)
def Yl:O_ Int:=j_ (Jx b h t.Task t.Vars) λa=>bif (a.1==0)then j_ (Yb a.2) λc=>JN a t c else JN a t a.1
def Rr {d e c}:CT 104 [.G Qf d,.M 1 Ql e,.G QE c] [] (Yl d e c) V.I no_:=
 W 62 func104 Z<|A 15 QbT Z λg=>mE_ 8 [5,7] [5,7] (λa:Int=>([(8,.I a)],[])) (λa=>JN g c a) Z (I 6 Z (A 2 Me Z λh=>P 2 Z Z)<|P 1 Z Z) λa=>I 7 Z (E 8 Z)<|mV_ 4 [5,7] [5,7] (λf=>([(50,.b f)],[])) Z (N 7 Z<|A 2 Qax Z λi=>I 2 Z (M 13 Z)<|N 6 Z<|A 2 Qax Z λj=>M 3 Z) λf=>I 1 Z (E 7 Z)<|A 8 NV Z λk=>I 9 Z (E 8 Z)<|A 7 NW Z λl=>E 4 Z
def KZ (a:Int):O_ Int:=j_ (Yl b h t) λe=>bif (e != 0)then Q 0 else j_ (idx b.Tasks t.Task) λf=>bif (f.Join != 3)then Q 1 else none
def VZ {b c d a}:CT 56 [.G Qf b,.M 1 Ql c,.G QE d,.I a] [] (KZ b c d a) V.I no_:=
 W 30 func56 Z<|A 14 Rr Z λe=>I 4 Z (E 8 Z)<|J 6 Z λf=>I 6 Z (E 8 Z)<|nO_
def Ru:O_ Bool:=bif (d1.1<1)then Q true else j_ (DC d1.2.1 d1.1 16) λb=>bif (!b)then Q true else j_ (DC d1.2.2 1 d1.2.1) λc=>bif (!c)then Q true else j_ (DC f3 d1.1 d1.2.1) λd=>Q (!d)
def Rv:O_ (Int×QZ):=bif d0 then Q (1,(QZ.mk 0 0 0 0 0))else Q (0,(QZ.mk d1.2.1 d1.2.2 f3 0 0))
def Gx:O_ (Int×QZ):=j_ (Ru d1 a) (λc=>Rv d1 a c)
def AT:O_ (Int×QZ):=bif ((d1.1==0)&&((d1.2.1==0)&&(d1.2.2==0)))then Gx f3 (1,1,1)else Gx f3 d1
def Qko {a d}:CT 146 [.G ZT a,.I d] [] (AT a d) (λr=>(.tup [.G XK r.2,.I r.1])) no_:=
 W 45 func146 Z<|mE_ 7 [1,2,4] [4] (λc:(Int×Int×Int)=>([],[(2,.W ZT c)])) (λc=>Gx d c) Z (K [4,.o (.any (.b ((a.1==0)&&((a.2.1==0)&&(a.2.2==0)))) none),2] Z (λg=>(a1_ (λσ e k _=>Qc.eqAgg Z Z (QJ g.n Z) (e _ _ Z) (e _ _ Z) Z Z (QqE _ _ _ _ _ _))))<|I 0 Z (P 4 Z Z)<|P 1 Z Z) λc=>D 1 Z (dz_ [(8,.N)]) [] [] [1,4,6,7,8] [4] Z Z U Z<|mV_ 3 [1,4,7,8] [4] (λf=>([(39,.b f)],[])) Z (I 4 Z (M 19 Z)<|A 2 DM Z λh=>I 3 Z (M 13 Z)<|A 2 DM Z λi=>I 3 Z (M 7 Z)<|A 3 DM Z λj=>M 3 Z) λf=>I 1 Z (E 9 Z)<|E 13 Z
noncomputable def BP:O_ (QBg⊕Empty):=Q (y_ (Jl Ey d c (Qm (((Xa d c).getD 0)-g))))
def VH:O_ (QBg×Int):=j_ (Ed d) λb=>Q (b,0)
noncomputable def QeS:O_ (QBg×Int):=j_ (GY j3.2 j3.1) λO=>bif (!O)then Q (([]:QBg),10)else j_ (HZ (λst p=>BP st p.1 p.2) j3.1 j3.2) (Sum.elim (λq=>VH q) (λq=>Empty.elim q))
def Jy:O_ (QBg×Int):=j_ (MH d i0) (Sum.elim (λq=>Q (([]:QBg),1)) (Sum.elim (λq=>Q (([]:QBg),1)) (Sum.elim (λq=>Q (([]:QBg),1)) (λq=>QeS q))))
def QnJ {a1 b2}:CT 230 [.M 2 Qy a1,.M 2 Qy b2] [] (Jy a1 b2) (λr=>(.tup [.M 2 Qy r.1,.I r.2])) no_:=
 W 40 func230 Z<|@λC r=>gP_ 10 Z<|s4_ (λa8 c=>G [.cm (.fn) [] [] [] [.d,.d] [] (.tup [.lit (.map none),.lit (.map none),.b false]),28,.denil 4 [Q 2]] Z (Kh _ c)<|E 0 Z) (λa9 c=>G [.cm (.fn) [] [(14,603)] [] [.d,.d] [(603,.map (QM V.I V.I a9))] (.tup [.lit (.map none),.map 603,.b false]),28,.denil 4 [Q 2]] Z (Kh _ c)<|E 0 Z) (λa4 c=>G [.cm (.fn) [] [(14,602)] [] [.d,.d] [(602,.map (QM V.I V.I a4))] (.tup [.map 602,.lit (.map none),.b false]),28,.denil 4 [Q 2]] Z (Kh _ c)<|E 0 Z) λw c=>G [.cm (.fn) [] [(14,602),(611,603)] [] [.d,.d] [(602,.map (QM V.I V.I w.1)),(603,.map (QM V.I V.I w.2))] (.tup [.map 602,.map 603,.b true]),23] Z (Kh _ c)<|S 0 .fn [(619,611),(620,14)] NU Z λb0=>I 4 Z (gT_ [9,.denil 4 [Q 2]] Z<|E 0 Z)<|gP_ 7 Z<|λi h=>AK.openMapK (b:=611) Ac Z λj s L14 y a5 O=>QcM i h<|K [.x (λσ=>(σ.set 27 (.itr j s #[] none)).put 27 (.L 27)),3,.K [6,27] [14,27,611]] Z (λi=>(a1_ (Qc.range (b:=611) Z Z (QJ i.n Z) Z Z EL Z)))<|B λa6 a2=>(λi h=>by
   refine AK.range (body:=(λst p=>BP st p.1 p.2)) (λst seen σ=>∃cur:O_ Nat,σ=⟨[(6,.map 14),lk_ 27],[(14,.map (QM V.I V.I st)),(27,.itr j s seen cur),(611,.mapX j s (IK V.I V.I L14) (QM V.I V.I w.2))]⟩) (λ(q:Empty) _ _=>False) (λst e σ=>e=.exit 1/\σ=⟨[(6,.map 14)],[(14,.map (QM V.I V.I st))]⟩) y O a2 (ex_ _ rfl) ?_ ?_
   ·rintro a seen σ ⟨cur,rfl⟩ hex;refine tg_ i [2] ?_;refine AK.nextT (b:=27) (m:=611) rfl rfl rfl (QJ i.n rfl) rfl rfl rfl rfl ?_ ?_
    ·intro hleft;refine tg_ i [7,.K [6] [14]] ?_;exact AK.done (Or.inl (an_ hleft (an_ (λh=>(by cases h)) (an_ Z Z))))
    intro a7 g u t;obtain⟨o,h⟩:=hex _ t;have ho:=h;replace h:BP a g u=Q o:=h;refine Yq i [10,.x (λσ=>σ.put 30 (.tup [.I g,.I u])),9,.o (.any (.I ((Xa a g).getD 0)) none),2,.x (λσ=>σ.set 14 (.map (QM V.I V.I (Jl Ey a g (Qm (((Xa a g).getD 0)-u)))))),2,.K [6,27] [14,27,611]] rfl (a3_ (Qc.entryT (b:=27) (m:=611) (e:=V.I) (f:=V.I) rfl rfl (QJ i.n rfl) rfl t rfl rfl) (λσ h1 h2 _=>Qc.lookup (z:=0) rfl rfl (QJ i.n rfl) (h1 _ _ rfl) (h2 _ _ rfl) (h1 _ _ rfl) EL Ac Qed rfl) (Qc.mapUpdate (e:=V.I) (f:=V.I) (l:=a) (k:=g) (v:=(Qm (((Xa a g).getD 0)-u))) Ey rfl rfl rfl rfl rfl rfl EL Ac rfl)) ?_;cases h;exact AK.done (Or.inr (ex_ _ (an_ t (Or.inl (ex_ _ (an_ ho (an_ Z (ex_ _ Z))))))))
   rcases a6 with(a | q)
   ·replace h:VH a=Q r:=h;rintro e σ ⟨rfl,rfl⟩;obtain⟨a0,a3,h⟩:=QU h;refine Yq i [5,.cm (.fn) [(619,14)] [(39,600),(14,619)] [] [.d] [(600,.R 2 Qy a0),(619,.map (QM V.I V.I a))] (.P 600 a0),5,.frz 39 (a0.map Qy) [4] [],.K [4,5] []] rfl (a2_ (IP _ a3) (a1_ (Wb Qw))) ?_;exact E 0 Z i h
   exact q.elim)
def Jz:O_ ((Int×QMk)⊕(Int⊕QMk)):=bif (j<((List.replicate (min2 (h.length:Int) (j0.length:Int)).toNat (([]:QBg):QBg)).length:Int))then j_ (idx h j) λd=>j_ (idx j0 j) λe=>j_ (Jy d e) λb=>j_ (idx c1 j) λa=>bif (b.2 != 0)then Q (i_ (y_ b.2))else Q (y_ ((Qm (j+1)),(c1.set j.toNat b.1)))else Q (i_ (i_ c1))
def YK:O_ (QMk×Int):=j_ (chk (decide (0<=(min2 (h.length:Int) (j0.length:Int)))&&decide ((min2 (h.length:Int) (j0.length:Int))<=(min2 (h.length:Int) (j0.length:Int)))&&decide ((min2 (h.length:Int) (j0.length:Int))<=4294967296))) λ_=>j_ (Qt (λst=>Jz h j0 st.1 st.2) (0,(List.replicate (min2 (h.length:Int) (j0.length:Int)).toNat (([]:QBg):QBg)))) (Sum.elim (λq=>Q (([]:L_ QBg),q)) (λq=>Q (q,0)))
def Qe4 {l p}:CT 229 [.M 1 Ql l,.M 1 Ql p,.clo (.func 230) [] []] [] (YK l p) (λr=>(.tup [.M 1 Ql r.1,.I r.2])) no_:=
 W 43 func229 Z<|N 9 Z<|N 1 Z<|kA_ λt=>G [1,.o (.rows (List.replicate (min2 (l.length:Int) (p.length:Int)).toNat [.Y]))] Z ⟨t,Z⟩<|QlZ (AK.denilA (b:=16) [Q 2] Z (Qj2 (f:=Ql) (x:=([]:QBg)) Z))<|G [.S 16 (.own 16 (List.replicate (min2 (l.length:Int) (p.length:Int)).toNat (([]:QBg):QBg)).length),12] Z (by simp)<|F 0 [0,1,2,18] [] (λst=>([(8,.P 16 st.2),(19,.I st.1)],[(16,.R 1 Ql st.2)])) [] [] (λq=>(.ret,([(6,.Y),(7,.I q)],[]))) [] [] (λq=>(.exit 0,([(8,.P 16 q)],[(16,.R 1 Ql q)]))) Z (λ⟨y,h⟩=>I 6 Z (B λu i=>B λv j=>B λe k=>B λw g=>D 16 Z [.N,.N,.N,.N,.N,.B (.row (Ql u)),.N,.N,.N,.B (.row (Ql v)),.N,.B (.C2 (.tup [.M 2 Qy e.1,.I e.2])),.a .no none true true,.N,.a .no none true,.N,.m (.st (Ql w) ((h.set y.toNat e.1).map Ql)),.m .s] [0,1,2,8,9,10,18,19] [] [0,1,2,8,10,18,19] [16] Z Z (a5_ (Xw i) (Xw j) (QnJ _ k) (YZ g Z) ⟨(Xz (Jd g).2),EI Z⟩) Z<|I 7 Z (L 10 Z)<|G [7,.S 8 (.own 16 (h.set y.toNat e.1).length)] Z (congrArg (λn=>V.own 16 n) (by simp))<|R 0 Z)<|X 2 Z) (λz=>gT_ [2,.denil 6 [Q 1]] Z<|E 0 Z) (λC=>zF_ 10 16 [6] [] Z<|E 0 Z)
def WJ:O_ (QMk×Int):=j_ (Yl b h t) λf=>bif (f != 0)then Q (([]:L_ QBg),f)else j_ (Yf b t) λa=>bif (a.2 != 0)then Q (([]:L_ QBg),a.2)else j_ (YK h a.1) λc=>Q (c.1,c.2)
def Ql9 {a b c}:CT 147 [.G Qf a,.M 1 Ql b,.G QE c] [] (WJ a b c) (λr=>(.tup [.M 1 Ql r.1,.I r.2])) no_:=
 W 32 func147 Z<|A 14 Rr Z λf=>I 9 Z (gT_ [9,.denil 6 [Q 1]] Z<|E 0 Z)<|A 6 Ro Z λd=>I 14 Z (gT_ [9,.denil 6 [Q 1]] Z<|E 0 Z)<|S 6 .fn [] Qe4 Z λe=>E 7 Z
def JR:O_ (Int×Qu×QK):=j_ (WJ n.net n.now.M n.call.Mode) λb=>bif (b.2 != 0)then Q (b.2,(Qu.mk 0 0 ([]:LI_)),(QK.mk n.net (Qz.mk b.1 n.now.Items n.now.Next n.now.Now) n.call))else j_ (EC n.now.Items q) λd=>Q (0,(Qu.mk 0 q.Id ([]:LI_)),(QK.mk n.net (Qz.mk b.1 d (Qm (n.now.Next+1)) n.now.Now) n.call))
def Dq:O_ (Int×Qu×QK):=j_ (Yl n.net n.now.M n.call.Mode) λe=>bif (e != 0)then Q (e,(Qu.mk 0 0 ([]:LI_)),n)else j_ (KZ n.net n.now.M n.call.Mode 64) λd=>bif (d != 1)then Q (13,(Qu.mk 0 0 ([]:LI_)),n)else j_ (idx n.net.Tasks n.call.Mode.Task) λc=>j_ (AT c.Many n.call.Num) λb=>bif (b.1 != 0)then Q (b.1,(Qu.mk 0 0 ([]:LI_)),n)else bif (64<=(n.now.Items.length:Int))then Q (2,(Qu.mk 0 0 ([]:LI_)),n)else bif (n.now.Next==1099511627776)then Q (1,(Qu.mk 0 0 ([]:LI_)),n)else bif (0<c.After)then JR n (Qg.mk n.now.Next n.call.Mode b.2 (Qm (n.now.Now+c.After)))else JR n (Qg.mk n.now.Next n.call.Mode b.2 0)
def QcT {e}:CT 76 [.L 619] [(619,.W QT e)] (Dq e) (λr=>(.tup [.G QF r.2.1,.I r.1])) (λr=>[(619,.W QT r.2.2)]):=
 W 150 func76 Z<|B λu q=>D 19 Z (dz_ [(10,.B (.C3 (.I u))),(0,.N)]) [] [] [0,2,4,5] [2,4,619] Z Z (a1_ (Rr _ q)) Z<|I 7 Z (G [2,.v .no [none,none,Q 1] (.agg (QF (Qu.mk 0 0 ([]:LI_)))),7] Z Z<|E 0 Z)<|B λt f=>D 4 Z (dz_ [(10,.B (.C4 (.I t))),(0,.N)]) [] [] [0,2,4,41] [2,4,619] Z Z (a1_ (VZ _ f)) Z<|I 1 Z (G [2,.v .no [none,none,Q 1] (.agg (QF (Qu.mk 0 0 ([]:LI_)))),6] Z Z<|E 0 Z)<|B λg h=>D 3 Z (dz_ [(7,.B (.row (QC g))),(2,.m .s)]) [] [] [0,2,4,6] [2,4,6,619] Z Z (a1_ (Xw h)) Z<|B λi j=>D 2 Z [.N,.E (.G ZT g.Many),.N,.N,.N,.N,.N,.B (.C2 (.tup [.G XK i.2,.I i.1])),.a .no none true true,.N,.a .no none true,.N,.m .s,.N] [0,2,4,6] [2,4,6,619] [0,2,4,6,7,8] [2,4,6,7,619] Z Z (a2_ Z (Qko _ j)) Z<|I 10 Z (G [2,.v .no [none,none,Q 1] (.agg (QF (Qu.mk 0 0 ([]:LI_)))),8] Z Z<|E 0 Z)<|N 7 Z<|I 4 Z (G [2,.v .no [none,none,Q 1] (.agg (QF (Qu.mk 0 0 ([]:LI_)))),7] Z Z<|E 0 Z)<|I 11 Z (G [2,.v .no [none,none,Q 1] (.agg (QF (Qu.mk 0 0 ([]:LI_)))),7] Z Z<|E 0 Z)<|D 4 Z (dz_ [(9,.m .s)]) [] [] [0,2,4,6,9] [2,4,6,9,619] Z Z U Z<|mE_ 1 [0,2,4,9] [2,4,619] (λb:Qg=>([],[(9,.W Qp b)])) (λb=>JR e b) Z (I 7 Z (D 0 Z (dz_ [(9,.m .s)]) [] [] [0,2,4,9] [2,4,9,619] Z Z U Z<|P 0 Z Z)<|P 1 Z Z) λb=>B λk l=>D 2 Z [.N,.N,.N,.N,.E (.G Qf e.net),.N,.N,.N,.N,.N,.E (.G QE e.call.Mode),.B (.C3 (.tup [.M 1 Ql k.1,.I k.2])),.a .no none true true,.N,.a .no none true,.N,.N,.N,.m .s,.N] [0,2,4,9] [2,4,9] [0,2,8,9] [2,9,619] Z Z (a3_ Z Z (Ql9 _ l)) Z<|I 7 Z (G [2,.v .no [none,none,Q 1] (.agg (QF (Qu.mk 0 0 ([]:LI_)))),7] Z Z<|E 0 Z)<|B λo p=>D 3 Z (dz_ [(7,.B (.cd false [.d,.d] 11 (o.map Qp) o.length)),(3,.m .s)]) [] [] [0,2,9] [2,9,619] Z Z (a1_ ⟨(Qdj _ p),Qw⟩) Z<|G [19,.v .no [none,none,Q 1] (.agg (QF (Qu.mk 0 b.Id ([]:LI_)))),5] Z Z<|E 0 Z
def WP:O_ (Int×Qu×QK):=j_ (Jj n) λa=>bif (a.1 != 0)then Q (a.1,(Qu.mk 0 0 ([]:LI_)),n)else j_ (Yk n a.2) λb=>Q (b.1,(Qu.mk 0 a.2.Id ([a.2.Id]:L_ Int)),b.2)
def Qbp {f}:CT 78 [.L 619] [(619,.W QT f)] (WP f) (λr=>(.tup [.G QF r.2.1,.I r.1])) (λr=>[(619,.W QT r.2.2)]):=
 W 24 func78 Z<|S 9 .fn [(619,619)] PE Z λe=>I 15 Z (G [2,.v .no [none,none,Q 1] (.agg (QF (Qu.mk 0 0 ([]:LI_)))),7] Z Z<|E 0 Z)<|B λb c=>D 3 Z [.a .no none true,.a .no none true,.a .no none true,.a .no none true,.a (.bd []) (Q ([],.sl 1 (([e.2.Id]:L_ Int).map Qb))) true,.a .no (Q ([],.agg (QF (Qu.mk 0 e.2.Id ([e.2.Id]:L_ Int))))) true,.N,.E (.G Qp e.2),.m (.cm (.fn) [(619,619)] [(619,619)] [] [.d,.d,.d] [(619,.W QT b.2)] (.I b.1) []),.m .s,.m .s] [0,2,3,4] [4] [2,3] [2,619] Z Z (a4_ Z Z Z (a1_ (AS _ c))) Z<|E 2 Z
def QcU  : O_ ((L_ (Int×(O_ Nat)))×(L_ Qe)):=Q (([]:(L_ (Int×(O_ Nat)))),([]:L_ Qe))
def Qma {h:Nat->Nat}:CT 238 [] [] (QcU ) (λ_=>(.L 3)) (λr=>[(1,.map (QM V.I (Yg h) r.1)),(3,.var [.Y,.map 1]),(610,.tbl h 3 (r.2.map Qs))]):=
 W 4 func238 Z<|gP_ 7 Z<|QlZ (AK.newTbl 610 3 h Z Z)<|E 7 Z
def UR (b:(L_ (Int×(O_ Nat))))(c:(L_ Qe)):O_ Int:=Q (f0.length:Int)
def Rw {h:Nat->Nat}{a:(L_ (O_ Nat))}{b:(L_ (Int×(O_ Nat)))}{c:(L_ Qe)}:CT 287 [.L 619] [(619,.var [.P 617 a,.map 620]),(617,.arr 1 (a.map (XB h))),(620,.map (QM V.I (Yg h) b)),(621,.tbl h 3 (c.map Qs))] (UR a b c) V.I (λ_=>[(617,.arr 1 (a.map (XB h))),(619,.var [.P 617 a,.map 620]),(620,.map (QM V.I (Yg h) b)),(621,.tbl h 3 (c.map Qs))]):=
 W 8 func287 Z<|E 16 Z
def Hr (f:(L_ (Int×(O_ Nat))))(b:(O_ Nat))(c:(L_ Qe)):O_ ((L_ (O_ Nat))×(L_ Qe)):=j_ (b) λd=>j_ (c[d]?) λe=>j_ (chk (f0.length+([b]:L_ (O_ Nat)).length<=4294967296)) λ_=>Q ((f0++([b]:L_ (O_ Nat))),(c.set d (Qe.mk e.id e.at_ (f0.length:Int))))
def Qbq {O:Nat->Nat}{a:(L_ (O_ Nat))}{c:(L_ (Int×(O_ Nat)))}{i:(O_ Nat)}{d:(L_ Qe)}:CT 383 [.L 619,.ifc 281 (Yg O i)] [(619,.var [.P 617 a,.map 620]),(617,.arr 1 (a.map (XB O))),(620,.map (QM V.I (Yg O) c)),(621,.tbl O 3 (d.map Qs))] (Hr a c i d) (λ_=>(.tup [])) (λr=>[(617,.arr 1 (r.1.map (XB O))),(619,.var [.P 617 r.1,.map 620]),(620,.map (QM V.I (Yg O) c)),(621,.tbl O 3 (r.2.map Qs))]):=
 W 22 func383 Z<|B λe f=>B λj g=>K [14,.o (.any (KA O 0 e) none),.o (.any (KA O 2 e) none),.x (λσ=>σ.set 621 (.tbl O 3 ((d.set e (Qe.mk j.id j.at_ (a.length:Int))).map Qs))),8] Z (λk=>⟨⟨⟨U,(λσ h l _=>Qc.nilCheckP Z Z (QJ k.n Z) (h _ _ Z) f)⟩,(λσ h l _=>Qc.fieldP Z Z (QJ k.n Z) (h _ _ Z) (QA.fo Z Z) Z)⟩,(Qc.storeP (b:=621) Z Z Z Z (Xz g) Z Z Z Z (QA.sz Z) (EI Z))⟩)<|pA_ 0 1 (XB O) Z<|E 3 Z
def Dt (b:(L_ Qe)):O_ Int:=Q (f0.length:Int)
def NX {h:Nat->Nat}{a:(L_ (O_ Nat))}{b:(L_ Qe)}:CT 379 [.P 619 a] [(619,.arr 1 (a.map (XB h))),(620,.tbl h 3 (b.map Qs))] (Dt a b) V.I (λ_=>[(619,.arr 1 (a.map (XB h))),(620,.tbl h 3 (b.map Qs))]):=
 W 5 func379 Z<|E 13 Z
def Nt (b:(L_ Qe))(d:Int):O_ Bool:=j_ (idx f0 p) λu=>j_ (u) λv=>j_ (b[v]?) λe=>j_ (idx f0 d) λf=>j_ (f) λg=>j_ (b[g]?) λh=>bif (e.at_<h.at_)then Q true else j_ (idx f0 p) λi=>j_ (i) λj=>j_ (b[j]?) λk=>j_ (idx f0 d) λl=>j_ (l) λm=>j_ (b[m]?) λn=>bif (k.at_==n.at_)then j_ (idx f0 p) λo=>j_ (o) λa=>j_ (b[a]?) λq=>j_ (idx f0 d) λr=>j_ (r) λs=>j_ (b[s]?) λt=>Q (decide (q.id<t.id))else Q false
def Nu:O_ Bool:=Q r
def WQ (d:(L_ Qe)):O_ Bool:=j_ (Nt f0 p d k0) (λe=>Nu e)
def Bz {gA:Nat->Nat}{l1:(L_ (O_ Nat))}{i2:Int}{k3:Int}{t4:(L_ Qe)}:CT 380 [.P 619 l1,.I i2,.I k3] [(619,.arr 1 (l1.map (XB gA))),(620,.tbl gA 3 (t4.map Qs))] (WQ l1 i2 k3 t4) V.b (λ_=>[(619,.arr 1 (l1.map (XB gA))),(620,.tbl gA 3 (t4.map Qs))]):=
 W 56 func380 Z<|mV_ 6 [] [619,620] (λx6=>([(6,.b x6)],[])) Z (B λe8 j=>B λk9 C=>B λO l=>B λa0 f=>B λk o=>B λa1 p=>jF_ (λg=>UF 0 Z [.N,.N,.N,.B (.row ((XB gA) e8)),.B (.any (KA gA 0 k9) none),.B (.any (KA gA 1 k9) none),.B (.any (.I O.at_) none),.N,.N,.N,.B (.row ((XB gA) a0)),.B (.any (KA gA 0 k) none),.B (.any (KA gA 1 k) none),.B (.any (.I a1.at_) none),.N,.E (.b true),.N,.N,.N,.N,.N,.N,.N,.N,.N,.N,.N,.N,.N,.N,.N,.N,.N,.N,.N,.N,.N,.N,.N,.N,.N,.N,.N,.N,.N,.N,.N,.N,.N,.m .s] [] [] [6] [619,620] Z Z (λe=>⟨⟨⟨⟨⟨⟨⟨⟨⟨⟨⟨U,(YZ j Z)⟩,(Xz (Jd j).2)⟩,(λσ c d _=>Qc.nilCheckP Z Z (QJ e.n Z) (c _ _ Z) C)⟩,(λσ c d _=>Qc.fieldP Z Z (QJ e.n Z) (c _ _ Z) (QA.fo Z Z) Z)⟩,(λσ c d _=>Qc.loadP (b:=620) Z Z (QJ e.n Z) (c _ _ Z) (d _ _ Z) (QA.ag Z) (Xz l) Z)⟩,(YZ f Z)⟩,(Xz (Jd f).2)⟩,(λσ c d _=>Qc.nilCheckP Z Z (QJ e.n Z) (c _ _ Z) o)⟩,(λσ c d _=>Qc.fieldP Z Z (QJ e.n Z) (c _ _ Z) (QA.fo Z Z) Z)⟩,(λσ c d _=>Qc.loadP (b:=620) Z Z (QJ e.n Z) (c _ _ Z) (d _ _ Z) (QA.ag Z) (Xz p) Z)⟩,(cb_ g)⟩) Z<|M 0 Z) λg=>B λa2 h=>B λr u=>B λa3 v=>B λa4 i=>B λt w=>B λa5 x=>jF_ (λq=>B λb2 y=>B λa6 a7=>B λb3 a8=>B λb4 z=>B λa9 b0=>B λb5 b1=>UF 0 Z [.N,.N,.N,.B (.row ((XB gA) e8)),.B (.any (KA gA 0 k9) none),.B (.any (KA gA 1 k9) none),.B (.any (.I O.at_) none),.N,.N,.N,.B (.row ((XB gA) a0)),.B (.any (KA gA 0 k) none),.B (.any (KA gA 1 k) none),.B (.any (.I a1.at_) none),.N,.E (.b false),.N,.N,.N,.B (.row ((XB gA) a2)),.B (.any (KA gA 0 r) none),.B (.any (KA gA 1 r) none),.B (.any (.I a3.at_) none),.N,.N,.N,.B (.row ((XB gA) a4)),.B (.any (KA gA 0 t) none),.B (.any (KA gA 1 t) none),.B (.any (.I a5.at_) none),.N,.E (.b true),.N,.N,.N,.B (.row ((XB gA) b2)),.B (.any (KA gA 0 a6) none),.B (.any (KA gA 0 a6) none),.B (.any (.I b3.id) none),.N,.N,.N,.B (.row ((XB gA) b4)),.B (.any (KA gA 0 a9) none),.B (.any (KA gA 0 a9) none),.B (.any (.I b5.id) none),.N,.N,.N,.m .s] [] [] [6] [619,620] Z Z (λe=>⟨⟨⟨⟨⟨⟨⟨⟨⟨⟨⟨⟨⟨⟨⟨⟨⟨⟨⟨⟨⟨⟨⟨⟨⟨⟨⟨⟨⟨⟨⟨⟨U,(YZ j Z)⟩,(Xz (Jd j).2)⟩,(λσ c d _=>Qc.nilCheckP Z Z (QJ e.n Z) (c _ _ Z) C)⟩,(λσ c d _=>Qc.fieldP Z Z (QJ e.n Z) (c _ _ Z) (QA.fo Z Z) Z)⟩,(λσ c d _=>Qc.loadP (b:=620) Z Z (QJ e.n Z) (c _ _ Z) (d _ _ Z) (QA.ag Z) (Xz l) Z)⟩,(YZ f Z)⟩,(Xz (Jd f).2)⟩,(λσ c d _=>Qc.nilCheckP Z Z (QJ e.n Z) (c _ _ Z) o)⟩,(λσ c d _=>Qc.fieldP Z Z (QJ e.n Z) (c _ _ Z) (QA.fo Z Z) Z)⟩,(λσ c d _=>Qc.loadP (b:=620) Z Z (QJ e.n Z) (c _ _ Z) (d _ _ Z) (QA.ag Z) (Xz p) Z)⟩,(cb_ g)⟩,(YZ h Z)⟩,(Xz (Jd h).2)⟩,(λσ c d _=>Qc.nilCheckP Z Z (QJ e.n Z) (c _ _ Z) u)⟩,(λσ c d _=>Qc.fieldP Z Z (QJ e.n Z) (c _ _ Z) (QA.fo Z Z) Z)⟩,(λσ c d _=>Qc.loadP (b:=620) Z Z (QJ e.n Z) (c _ _ Z) (d _ _ Z) (QA.ag Z) (Xz v) Z)⟩,(YZ i Z)⟩,(Xz (Jd i).2)⟩,(λσ c d _=>Qc.nilCheckP Z Z (QJ e.n Z) (c _ _ Z) w)⟩,(λσ c d _=>Qc.fieldP Z Z (QJ e.n Z) (c _ _ Z) (QA.fo Z Z) Z)⟩,(λσ c d _=>Qc.loadP (b:=620) Z Z (QJ e.n Z) (c _ _ Z) (d _ _ Z) (QA.ag Z) (Xz x) Z)⟩,(cb_ q)⟩,(YZ y Z)⟩,(Xz (Jd y).2)⟩,(λσ c d _=>Qc.nilCheckP Z Z (QJ e.n Z) (c _ _ Z) a7)⟩,(λσ c d _=>Qc.fieldP Z Z (QJ e.n Z) (c _ _ Z) (QA.fo Z Z) Z)⟩,(λσ c d _=>Qc.loadP (b:=620) Z Z (QJ e.n Z) (c _ _ Z) (d _ _ Z) (QA.ag Z) (Xz a8) Z)⟩,(YZ z Z)⟩,(Xz (Jd z).2)⟩,(λσ c d _=>Qc.nilCheckP Z Z (QJ e.n Z) (c _ _ Z) b0)⟩,(λσ c d _=>Qc.fieldP Z Z (QJ e.n Z) (c _ _ Z) (QA.fo Z Z) Z)⟩,(λσ c d _=>Qc.loadP (b:=620) Z Z (QJ e.n Z) (c _ _ Z) (d _ _ Z) (QA.ag Z) (Xz b1) Z)⟩) Z<|M 0 Z) λq=>UF 0 Z [.N,.N,.N,.B (.row ((XB gA) e8)),.B (.any (KA gA 0 k9) none),.B (.any (KA gA 1 k9) none),.B (.any (.I O.at_) none),.N,.N,.N,.B (.row ((XB gA) a0)),.B (.any (KA gA 0 k) none),.B (.any (KA gA 1 k) none),.B (.any (.I a1.at_) none),.N,.E (.b false),.N,.N,.N,.B (.row ((XB gA) a2)),.B (.any (KA gA 0 r) none),.B (.any (KA gA 1 r) none),.B (.any (.I a3.at_) none),.N,.N,.N,.B (.row ((XB gA) a4)),.B (.any (KA gA 0 t) none),.B (.any (KA gA 1 t) none),.B (.any (.I a5.at_) none),.N,.E (.b false),.N,.N,.N,.N,.N,.N,.N,.N,.N,.N,.N,.N,.N,.N,.N,.N,.N,.m .s] [] [] [6] [619,620] Z Z (λe=>⟨⟨⟨⟨⟨⟨⟨⟨⟨⟨⟨⟨⟨⟨⟨⟨⟨⟨⟨⟨⟨⟨U,(YZ j Z)⟩,(Xz (Jd j).2)⟩,(λσ c d _=>Qc.nilCheckP Z Z (QJ e.n Z) (c _ _ Z) C)⟩,(λσ c d _=>Qc.fieldP Z Z (QJ e.n Z) (c _ _ Z) (QA.fo Z Z) Z)⟩,(λσ c d _=>Qc.loadP (b:=620) Z Z (QJ e.n Z) (c _ _ Z) (d _ _ Z) (QA.ag Z) (Xz l) Z)⟩,(YZ f Z)⟩,(Xz (Jd f).2)⟩,(λσ c d _=>Qc.nilCheckP Z Z (QJ e.n Z) (c _ _ Z) o)⟩,(λσ c d _=>Qc.fieldP Z Z (QJ e.n Z) (c _ _ Z) (QA.fo Z Z) Z)⟩,(λσ c d _=>Qc.loadP (b:=620) Z Z (QJ e.n Z) (c _ _ Z) (d _ _ Z) (QA.ag Z) (Xz p) Z)⟩,(cb_ g)⟩,(YZ h Z)⟩,(Xz (Jd h).2)⟩,(λσ c d _=>Qc.nilCheckP Z Z (QJ e.n Z) (c _ _ Z) u)⟩,(λσ c d _=>Qc.fieldP Z Z (QJ e.n Z) (c _ _ Z) (QA.fo Z Z) Z)⟩,(λσ c d _=>Qc.loadP (b:=620) Z Z (QJ e.n Z) (c _ _ Z) (d _ _ Z) (QA.ag Z) (Xz v) Z)⟩,(YZ i Z)⟩,(Xz (Jd i).2)⟩,(λσ c d _=>Qc.nilCheckP Z Z (QJ e.n Z) (c _ _ Z) w)⟩,(λσ c d _=>Qc.fieldP Z Z (QJ e.n Z) (c _ _ Z) (QA.fo Z Z) Z)⟩,(λσ c d _=>Qc.loadP (b:=620) Z Z (QJ e.n Z) (c _ _ Z) (d _ _ Z) (QA.ag Z) (Xz x) Z)⟩,(cb_ q)⟩) Z<|M 0 Z) λx6=>E 2 Z
def KE (i:(L_ Qe)):O_ ((L_ (O_ Nat))×(L_ Qe)):=j_ (idx f0 k0) λh=>j_ (idx f0 p) λj=>j_ (idx f0 p) λn=>j_ (idx (f0.set p.toNat h) k0) λm=>j_ (idx ((f0.set p.toNat h).set k0.toNat j) p) λk=>j_ (idx ((f0.set p.toNat h).set k0.toNat j) k0) λl=>j_ (k) λe=>j_ (i[e]?) λb=>j_ (l) λf=>j_ ((i.set e (Qe.mk b.id b.at_ p))[f]?) λg=>Q (((f0.set p.toNat h).set k0.toNat j),((i.set e (Qe.mk b.id b.at_ p)).set f (Qe.mk g.id g.at_ k0)))
def BA {gA:Nat->Nat}{l:(L_ (O_ Nat))}{k:Int}{x:Int}{y:(L_ Qe)}:CT 381 [.P 619 l,.I k,.I x] [(619,.arr 1 (l.map (XB gA))),(620,.tbl gA 3 (y.map Qs))] (KE l k x y) (λ_=>(.tup [])) (λr=>[(619,.arr 1 (r.1.map (XB gA))),(620,.tbl gA 3 (r.2.map Qs))]):=
 W 34 func381 Z<|B λC o=>B λe8 p=>B λe9 q=>B λO f=>D 1 Z [.N,.N,.a .no none true,.a .no none true,.N,.N,.N,.B (.row ((XB gA) C)),.N,.N,.N,.B (.row ((XB gA) e8)),.N,.m (.st ((XB gA) e9) ((l.set k.toNat C).map (XB gA))),.N,.m (.st ((XB gA) O) (((l.set k.toNat C).set x.toNat e8).map (XB gA)))] [0,1,2] [620] [0,1,2] [619,620] Z Z (a8_ (YZ o Z) (Xz (Jd o).2) (YZ p Z) (Xz (Jd p).2) (YZ q Z) ⟨(Xz (Jd q).2),EI Z⟩ (YZ f (by simp)) ⟨(Xz (Jd f).2),EI Z⟩) Z<|B λa0 g=>B λa1 h=>B λd s=>B λe t=>B λi u=>B λv w=>UF 1 Z [.N,.N,.N,.B (.row ((XB gA) a0)),.N,.N,.N,.B (.row ((XB gA) a1)),.N,.a .no none true,.B (.any (KA gA 0 d) none),.B (.any (KA gA 2 d) none),.m (.any ⟨[],[(620,.tbl gA 3 ((y.set d (Qe.mk e.id e.at_ k)).map Qs))],none⟩),.B (.any (KA gA 0 i) none),.B (.any (KA gA 2 i) none),.m (.any ⟨[],[(620,.tbl gA 3 (((y.set d (Qe.mk e.id e.at_ k)).set i (Qe.mk v.id v.at_ x)).map Qs))],none⟩)] [0,1,2] [619] [] [619,620] Z Z (λz=>⟨⟨⟨⟨⟨⟨⟨⟨⟨⟨U,(YZ g (by simp))⟩,(Xz (Jd g).2)⟩,(YZ h (by simp))⟩,(Xz (Jd h).2)⟩,(λσ c j _=>Qc.nilCheckP Z Z (QJ z.n Z) (c _ _ Z) s)⟩,(λσ c j _=>Qc.fieldP Z Z (QJ z.n Z) (c _ _ Z) (QA.fo Z Z) Z)⟩,(λσ c j=>Qc.storeP (b:=620) Z Z (c _ _ Z) (j _ _ Z) (Xz t) Z (c _ _ Z) Z Z (QA.sz Z) (EI Z))⟩,(λσ c j _=>Qc.nilCheckP Z Z (QJ z.n Z) (c _ _ Z) u)⟩,(λσ c j _=>Qc.fieldP Z Z (QJ z.n Z) (c _ _ Z) (QA.fo Z Z) Z)⟩,(λσ c j=>Qc.storeP (b:=620) Z Z (c _ _ Z) (j _ _ Z) (Xz w) Z (c _ _ Z) Z Z (QA.sz Z) (EI Z))⟩) Z<|E 0 Z
def NY:O_ Bool:=bif ((Qm (Int.tdiv (Qm (a-1)) 2))==a)then Q true else j_ (WQ f0 a (Qm (Int.tdiv (Qm (a-1)) 2)) k1) λc=>Q (!c)
def NZ (a:(L_ (O_ Nat)))(c:Int)(d:Bool):O_ ((Int×(L_ Qe)×(L_ (O_ Nat)))⊕((L_ Qe)×(L_ (O_ Nat)))):=bif d then Q (i_ (k1,a))else j_ (KE a (Qm (Int.tdiv (Qm (c-1)) 2)) c k1) λb=>j_ (chk (b.1.length=a.length)) λ_=>Q (y_ ((Qm (Int.tdiv (Qm (c-1)) 2)),b.2,b.1))
def ED (c:(L_ (O_ Nat))):O_ ((Int×(L_ Qe)×(L_ (O_ Nat)))⊕((L_ Qe)×(L_ (O_ Nat)))):=j_ (NY a c k1) (λb=>NZ k1 c a b)
def IQ (d:(L_ (Int×(O_ Nat))))(b:Int)(c:(L_ Qe)):O_ ((L_ (O_ Nat))×(L_ Qe)):=j_ (Qt (λst=>ED st.1 st.2.1 st.2.2) (b,c,f0)) (λq=>Q (q.2,q.1))
def QcW {gA:Nat->Nat}{h:(L_ (O_ Nat))}{i:(L_ (Int×(O_ Nat)))}{l:Int}{m:(L_ Qe)}:CT 323 [.ifc 286 (.L 619),.I l] [(619,.var [.P 617 h,.map 620]),(617,.arr 1 (h.map (XB gA))),(620,.map (QM V.I (Yg gA) i)),(621,.tbl gA 3 (m.map Qs))] (IQ h i l m) (λ_=>(.tup [])) (λr=>[(617,.arr 1 (r.1.map (XB gA))),(619,.var [.P 617 r.1,.map 620]),(620,.map (QM V.I (Yg gA) i)),(621,.tbl gA 3 (r.2.map Qs))]):=
 W 23 func323 Z<|lA_ 1 [0] [620] (λst=>([(1,.I st.1)],[(617,.arr 1 (st.2.2.map (XB gA))),(619,.var [.P 617 st.2.2,.map 620]),(621,.tbl gA 3 (st.2.1.map Qs))])) [] [620] (λq=>(.exit 0,([],[(617,.arr 1 (q.2.map (XB gA))),(619,.var [.P 617 q.2,.map 620]),(621,.tbl gA 3 (q.1.map Qs))]))) Z (λ⟨t,o,j⟩=>G [11] Z (by decide)<|mV_ 0 [0,1,4] [617,619,620,621] (λc=>([(17,.b c)],[])) Z (I 5 Z (M 7 Z)<|B λk e=>g2_ [3,.cm (.mv 380 278) [(619,617),(620,621)] [(617,619),(621,620)] [] [.d,.d,.d] [(619,.arr 1 (j.map (XB gA))),(620,.tbl gA 3 (o.map Qs))] (.b k),3] Z QcK (@Bz gA _ _ _ _ _ e)<|M 0 Z) λc=>I 1 Z (X 3 Z)<|B λa f=>kA_ λg=>g3_ [7,.cm (.mv 381 278) [(619,617),(620,621)] [(617,619),(621,620)] [] [.d,.d,.d] [(619,.arr 1 (a.1.map (XB gA))),(620,.tbl gA 3 (a.2.map Qs))] (.tup []),.O 619 (.var [.P 617 a.1,.map 620]),7] Z QcL (@BA gA _ _ _ _ _ f) (by simp[Xc g])<|R 0 Z) λ⟨p,s⟩=>E 1 Z
def Fx (e:(O_ Nat))(f:(L_ Qe)):O_ ((L_ (O_ Nat))×(L_ Qe)):=j_ (Hr f0 g2 e f) λa=>j_ (Dt a.1 a.2) λg=>j_ (IQ a.1 g2 (Qm (g-1)) a.2) λc=>Q (c.1,c.2)
def Qaz {O:Nat->Nat}{c:(L_ (O_ Nat))}{a:(L_ (Int×(O_ Nat)))}{i:(O_ Nat)}{j:(L_ Qe)}:CT 288 [.ifc 286 (.L 619),.ifc 281 (Yg O i)] [(619,.var [.P 617 c,.map 620]),(617,.arr 1 (c.map (XB O))),(620,.map (QM V.I (Yg O) a)),(621,.tbl O 3 (j.map Qs))] (Fx c a i j) (λ_=>(.tup [])) (λr=>[(617,.arr 1 (r.1.map (XB O))),(619,.var [.P 617 r.1,.map 620]),(620,.map (QM V.I (Yg O) a)),(621,.tbl O 3 (r.2.map Qs))]):=
 W 12 func288 Z<|B λb e=>B λk f=>B λg h=>gA_ [4,.cm (.me 383) [(619,619),(617,617),(620,620),(621,621)] [(617,617),(619,619),(620,620),(621,621)] [617] [.d,.d] [(617,.arr 1 (b.1.map (XB O))),(619,.var [.P 617 b.1,.map 620]),(620,.map (QM V.I (Yg O) a)),(621,.tbl O 3 (b.2.map Qs))] (.tup []),5,.cm (.mv 379 278) [(619,617),(620,621)] [(617,619),(621,620)] [] [.d] [(619,.arr 1 (b.1.map (XB O))),(620,.tbl O 3 (b.2.map Qs))] (.I k),1,.cm (.fn) [(619,619),(617,617),(620,620),(621,621)] [(617,617),(619,619),(620,620),(621,621)] [617] [.d,.d] [(617,.arr 1 (g.1.map (XB O))),(619,.var [.P 617 g.1,.map 620]),(620,.map (QM V.I (Yg O) a)),(621,.tbl O 3 (g.2.map Qs))] (.tup []),1] Z (a5_ QpH (@Qbq O _ _ _ _ _ e) Qj9 (@NX O _ _ _ f) (@QcW O _ _ _ _ _ h))<|E 0 Z
def Af (b:(L_ Qe)):O_ (Int×(L_ (O_ Nat))×(L_ Qe)×(L_ (Int×(O_ Nat)))):=bif ((Xa g2 p).getD none).isSome then Q (5,f0,b,g2)else j_ (UR f0 g2 b) λf=>bif (f==4096)then Q (2,f0,b,g2)else j_ (chk (f0.all (okP b.length))) λ_=>j_ (chk (g2.all (λq=>okP b.length q.2))) λ_=>j_ (Fx f0 (Jl Ey g2 p (Q b.length)) (Q b.length) (b++[(Qe.mk p k0 0)])) λe=>Q (0,e.1,e.2,(Jl Ey g2 p (Q b.length)))
def Qbr {gA:Nat->Nat}{q:(L_ (O_ Nat))}{c:(L_ (Int×(O_ Nat)))}{a:Int}{at_4:Int}{g:(L_ Qe)}:CP 239 [.L 619,.I a,.I at_4] [(619,.var [.P 617 q,.map 620]),(617,.arr 1 (q.map (XB gA))),(620,.map (QM V.I (Yg gA) c)),(618,.tbl gA 3 (g.map Qs))] (Af q c a at_4 g) (λr=>λv hs=>∃gA:Nat->Nat,True/\Gives (.I r.1) [(617,.arr 1 (r.2.1.map (XB gA))),(618,.tbl gA 3 (r.2.2.1.map Qs)),(619,.var [.P 617 r.2.1,.map 620]),(620,.map (QM V.I (Yg gA) r.2.2.2))] v hs):=
 wP_ 37 func239 Z<|K [14,.o (.any (Yg gA ((Xa c a).getD none)) none),.o (.any (.b ((Xa c a).getD none).isSome) none),3] Z (λi=>(a2_ (λσ s h2 _=>Qc.lookup (z:=none) Z Z (QJ i.n Z) (s _ _ Z) (h2 _ _ Z) (s _ _ Z) QoL Ac QuX Z) (λσ s h2 _=>Qc.neqNilP Z Z (QJ i.n Z) (s _ _ Z) (s _ _ Z) QuW)))<|I 0 Z (gT_ [8,.K [6] [617,618,619,620]] Z<|(λi h=>by
   cases h;refine AK.done ?_;exact ex_ [_] (an_ (an_ Z U) (ex_ _ (an_ U (gives r4_))))))<|B λC t=>G [3,.cm (.fn) [(619,619),(617,617),(620,620),(621,618)] [(617,617),(619,619),(620,620),(618,621)] [617] [.d] [(617,.arr 1 (q.map (XB gA))),(619,.var [.P 617 q,.map 620]),(620,.map (QM V.I (Yg gA) c)),(621,.tbl gA 3 (g.map Qs))] (.I C),4] Z (@Rw gA _ _ _ _ t)<|I 0 Z (gT_ [8,.K [6] [617,618,619,620]] Z<|(λi h=>by
   cases h;refine AK.done ?_;exact ex_ [_] (an_ (an_ Z U) (ex_ _ (an_ U (gives r4_))))))<|kA_ λu=>kA_ λw=>gP_ 8 Z<|λi h=>AK.boxP (b:=618) (n:=g.length) (rsN:=(g++[(Qe.mk a at_4 0)]).map Qs) Z Z Z (QJ i.n Z) Z Z Z Z Z Z Qw (KV (m:=[(Qe.mk a at_4 0)])) λgA j=>QcM i h<|B λp y=>gA_ [.O 617 (.arr 1 (q.map (XB gA))),.O 620 (.map (QM V.I (Yg gA) c)),11,.x (λσ=>σ.set 620 (.map (QM V.I (Yg gA) (Jl Ey c a (Q g.length))))),10,.cm (.fn) [(619,619),(617,617),(620,620),(621,618)] [(617,617),(619,619),(620,620),(618,621)] [617] [.d,.d] [(617,.arr 1 (p.1.map (XB gA))),(619,.var [.P 617 p.1,.map 620]),(620,.map (QM V.I (Yg gA) (Jl Ey c a (Q g.length)))),(621,.tbl gA 3 (p.2.map Qs))] (.tup []),8,.K [6] [617,618,619,620]] Z (a4_ (congrArg (Ob.arr 1) (Qt1 j u)) (congrArg Ob.map (Qt2 j w)) (Qc.mapUpdate (e:=V.I) (f:=(Yg gA)) (l:=c) (k:=a) (v:=(Q g.length)) Ey Z Z Z Z Z Z QoL Ac Z) (@Qaz gA _ _ _ _ _ y))<|(λi h=>by
   cases h;refine AK.done ?_;exact ex_ [_] (an_ (an_ Z U) (ex_ _ (an_ U (gives r4_)))))
def JO:O_ (Int×Int×Bool):=j_ (UR f0 g2 k1) λc=>bif (c==0)then Q (0,0,false)else j_ (idx f0 0) λd=>j_ (d) λe=>j_ (k1[e]?) λf=>j_ (idx f0 0) λg=>j_ (g) λh=>j_ (k1[h]?) λi=>Q (f.id,i.at_,true)
def PF {O:Nat->Nat}{g:(L_ (O_ Nat))}{u:(L_ (Int×(O_ Nat)))}{v:(L_ Qe)}:CT 289 [.L 619] [(619,.var [.P 617 g,.map 620]),(617,.arr 1 (g.map (XB O))),(620,.map (QM V.I (Yg O) u)),(621,.tbl O 3 (v.map Qs))] (JO g u v) (λr=>(.tup [.I r.1,.I r.2.1,.b r.2.2])) (λ_=>[(617,.arr 1 (g.map (XB O))),(619,.var [.P 617 g,.map 620]),(620,.map (QM V.I (Yg O) u)),(621,.tbl O 3 (v.map Qs))]):=
 W 26 func289 Z<|B λw j=>G [11,.cm (.fn) [(619,619),(617,617),(620,620),(621,621)] [(617,617),(619,619),(620,620),(621,621)] [617] [.d] [(617,.arr 1 (g.map (XB O))),(619,.var [.P 617 g,.map 620]),(620,.map (QM V.I (Yg O) u)),(621,.tbl O 3 (v.map Qs))] (.I w),3] Z (@Rw O _ _ _ _ j)<|I 0 Z (E 9 Z)<|B λx e=>B λk l=>B λy o=>B λz f=>B λp q=>B λC t=>UF 3 Z [.N,.N,.N,.N,.N,.B (.row ((XB O) x)),.B (.any (KA O 0 k) none),.B (.any (KA O 0 k) none),.B (.any (.I y.id) none),.a .no none true,.a .no none true,.a .no none true,.a .no none true,.a .no none true,.a (.row ((XB O) z)) none true,.a (.any (KA O 0 p) none) none true,.a (.any (KA O 1 p) none) none true,.a (.any (.I C.at_) none) none true,.m .s,.m .s,.m .s] [0,4] [617,619,620,621] [2,3,4] [617,619,620,621] Z Z (λi=>⟨⟨⟨⟨⟨⟨⟨⟨⟨⟨U,(YZ e Z)⟩,(Xz (Jd e).2)⟩,(λσ c h _=>Qc.nilCheckP Z Z (QJ i.n Z) (c _ _ Z) l)⟩,(λσ c h _=>Qc.fieldP Z Z (QJ i.n Z) (c _ _ Z) (QA.fo Z Z) Z)⟩,(λσ c h _=>Qc.loadP (b:=621) Z Z (QJ i.n Z) (c _ _ Z) (h _ _ Z) (QA.ag Z) (Xz o) Z)⟩,(YZ f Z)⟩,(Xz (Jd f).2)⟩,(λσ c h _=>Qc.nilCheckP Z Z (QJ i.n Z) (c _ _ Z) q)⟩,(λσ c h _=>Qc.fieldP Z Z (QJ i.n Z) (c _ _ Z) (QA.fo Z Z) Z)⟩,(λσ c h _=>Qc.loadP (b:=621) Z Z (QJ i.n Z) (c _ _ Z) (h _ _ Z) (QA.ag Z) (Xz t) Z)⟩) Z<|E 2 Z
def YQ (c:(L_ Qe))(d:Int):O_ ((Int×(L_ Qe)×(L_ (O_ Nat)))⊕(Int×(L_ Qe)×(L_ (O_ Nat)))):=j_ (WQ f0 d p c) λf=>bif (!f)then Q (i_ (p,c,f0))else j_ (KE f0 p d c) λe=>j_ (chk (e.1.length=f0.length)) λ_=>Q (y_ (d,e.2,e.1))
def Mg:O_ Bool:=bif ((Qm ((Qm ((Qm (2*a))+1))+1))<e)then j_ (WQ f0 (Qm ((Qm ((Qm (2*a))+1))+1)) (Qm ((Qm (2*a))+1)) k1) λd=>Q d else Q false
def AU (c:(L_ Qe))(d:Bool):O_ ((Int×(L_ Qe)×(L_ (O_ Nat)))⊕(Int×(L_ Qe)×(L_ (O_ Nat)))):=bif d then YQ f0 p c (Qm ((Qm ((Qm (2*p))+1))+1))else YQ f0 p c (Qm ((Qm (2*p))+1))
def Km (c:(L_ (O_ Nat))):O_ ((Int×(L_ Qe)×(L_ (O_ Nat)))⊕(Int×(L_ Qe)×(L_ (O_ Nat)))):=
 bif ((a<=(Qm ((Qm (2*e))+1)))||((Qm ((Qm (2*e))+1))<0))then
 Q (i_ (e,k1,c))
 else
 j_ (Mg e a c k1) (λd=>AU c e k1 d)
def Mh (c:(L_ (O_ Nat))):O_ (Bool×(L_ (O_ Nat))×(L_ Qe)):=Q ((decide (a<e)),c,k1)
def Fy (e:(L_ (Int×(O_ Nat))))(a:Int)(c:Int)(d:(L_ Qe)):O_ (Bool×(L_ (O_ Nat))×(L_ Qe)):=j_ (Qt (λst=>Km c st.1 st.2.1 st.2.2) (a,d,f0)) (λq=>Mh a q.1 q.2.1 q.2.2)
def QaA {gA:Nat->Nat}{o:(L_ (O_ Nat))}{p:(L_ (Int×(O_ Nat)))}{v:Int}{s:Int}{w:(L_ Qe)}:CT 324 [.ifc 286 (.L 619),.I v,.I s] [(619,.var [.P 617 o,.map 620]),(617,.arr 1 (o.map (XB gA))),(620,.map (QM V.I (Yg gA) p)),(621,.tbl gA 3 (w.map Qs))] (Fy o p v s w) (λr=>(.b r.1)) (λr=>[(617,.arr 1 (r.2.1.map (XB gA))),(619,.var [.P 617 r.2.1,.map 620]),(620,.map (QM V.I (Yg gA) p)),(621,.tbl gA 3 (r.2.2.map Qs))]):=
 W 48 func324 Z<|lA_ 13 [0,1,2] [620] (λst=>([(7,.I st.1)],[(617,.arr 1 (st.2.2.map (XB gA))),(619,.var [.P 617 st.2.2,.map 620]),(621,.tbl gA 3 (st.2.1.map Qs))])) [1] [620] (λq=>(.exit 0,([(7,.I q.1)],[(617,.arr 1 (q.2.2.map (XB gA))),(619,.var [.P 617 q.2.2,.map 620]),(621,.tbl gA 3 (q.2.1.map Qs))]))) Z (λ⟨e,f,g⟩=>T 11 [0,1,2,7,8] [617,619,620,621] ([(21,.b ((s<=(Qm ((Qm (2*e))+1)))||((Qm ((Qm (2*e))+1))<0)))],[]) Z (H 5 Z (λa=>Y 4 21 Z (YW a Z)) λa=>Y 4 21 Z (Xe a Z))<|I 1 Z (X 3 Z)<|mE_ 8 [0,1,2,7] [617,619,620,621] (λc:Int=>([(9,.I c)],[])) (λc=>YQ g e f c) Z (mV_ 8 [0,1,2,7,9,10] [617,619,620,621] (λi=>([(33,.b i)],[])) Z (I 5 Z (B λt j=>g2_ [3,.cm (.mv 380 278) [(619,617),(620,621)] [(617,619),(621,620)] [] [.d,.d,.d] [(619,.arr 1 (g.map (XB gA))),(620,.tbl gA 3 (f.map Qs))] (.b t),2] Z QcK (@Bz gA _ _ _ _ _ j)<|M 0 Z)<|M 6 Z) λi=>I 1 Z (P 4 Z Z)<|P 1 Z Z) λc=>B λu k=>g2_ [6,.cm (.mv 380 278) [(619,617),(620,621)] [(617,619),(621,620)] [] [.d,.d,.d] [(619,.arr 1 (g.map (XB gA))),(620,.tbl gA 3 (f.map Qs))] (.b u),3] Z QcK (@Bz gA _ _ _ _ _ k)<|I 0 Z (X 3 Z)<|B λh l=>kA_ λm=>g3_ [7,.cm (.mv 381 278) [(619,617),(620,621)] [(617,619),(621,620)] [] [.d,.d,.d] [(619,.arr 1 (h.1.map (XB gA))),(620,.tbl gA 3 (h.2.map Qs))] (.tup []),.O 619 (.var [.P 617 h.1,.map 620]),7] Z QcL (@BA gA _ _ _ _ _ l) (by simp[Xc m])<|R 0 Z) λ⟨x,y,z⟩=>E 11 Z
def IR (c:(L_ (Int×(O_ Nat))))(d:(L_ Qe)):O_ ((O_ Nat)×(L_ (O_ Nat))):=j_ (idx f0 (Qm ((f0.length:Int)-1))) λb=>j_ (chk (decide (0<=(Qm ((f0.length:Int)-1)))&&decide ((Qm ((f0.length:Int)-1)).toNat<=f0.length))) λ_=>Q (b,(f0.take (Qm ((f0.length:Int)-1)).toNat))
def QcX {gA:Nat->Nat}{b:(L_ (O_ Nat))}{f:(L_ (Int×(O_ Nat)))}{g:(L_ Qe)}:CT 382 [.L 619] [(619,.var [.P 617 b,.map 620]),(617,.arr 1 (b.map (XB gA))),(620,.map (QM V.I (Yg gA) f)),(621,.tbl gA 3 (g.map Qs))] (IR b f g) (λr=>(.ifc 281 (Yg gA r.1))) (λr=>[(617,.arr 1 (r.2.map (XB gA))),(619,.var [.P 617 r.2,.map 620]),(620,.map (QM V.I (Yg gA) f)),(621,.tbl gA 3 (g.map Qs))]):=
 W 27 func382 Z<|B λk d=>D 6 Z [.N,.N,.N,.N,.N,.N,.N,.N,.N,.B (.row ((XB gA) k)),.N] [] [] [0,3] [617,619,620,621] Z Z (a2_ (YZ d Z) (Xz (Jd d).2)) Z<|gT_ [2,.K [0,3] [617,619,620,621]] Z<|kA_ λc=>(λe h=>by
   have i:(Qm ((b.length:Int)-1)).toNat=(b.take (Qm ((b.length:Int)-1)).toNat).length:=by rw[Wq,ZY (Xc (NQ c))]
   refine AK.draw2 QA e mixed [.a .no none true,.N,.N,.N,.N,.N,.N,.N,.N,.m (.any ⟨[],[(617,.arr 1 ((b.take (Qm ((b.length:Int)-1)).toNat).map (XB gA)))],Q (23,.own 617 (Qm ((b.length:Int)-1)).toNat)⟩),.N,.m .s] [0,3] [619,620,621] [3] [617,619,620,621] rfl rfl rfl ⟨U,(λσ j l=>Qc.sliceO rfl rfl (QJ e.n rfl) (j _ _ rfl) (l _ _ rfl) (QA.es rfl) DJ.no (DJ.val (j _ _ rfl) (Xc (Qdd c)) rfl) (Xc (NQ c)) (by simp))⟩ rfl (by kernel_rfl) rfl rfl rfl ?_;refine Yq e [.O 619 (.var [.own 617 (Qm ((b.length:Int)-1)).toNat,.map 620]),9,.O 619 (.var [.own 617 (b.take (Qm ((b.length:Int)-1)).toNat).length,.map 620]),.K [2] [617,619,620,621]] rfl (a2_ rfl (congrArg (λn=>Ob.var [.own 617 n,.map 620]) (by rw[<-i]))) ?_;exact E 0 Z e h)
def Ag:O_ ((O_ Nat)×(L_ (O_ Nat))×(L_ Qe)):=j_ (Dt f0 k1) λg=>j_ (KE f0 0 (Qm (g-1)) k1) λd=>j_ (chk (d.1.length=f0.length)) λ_=>j_ (Fy d.1 g2 0 (Qm (g-1)) d.2) λa=>j_ (IR a.2.1 g2 a.2.2) λb=>Q (b.1,b.2,a.2.2)
def Qbs {gA:Nat->Nat}{h:(L_ (O_ Nat))}{e:(L_ (Int×(O_ Nat)))}{i:(L_ Qe)}:CT 290 [.ifc 286 (.L 619)] [(619,.var [.P 617 h,.map 620]),(617,.arr 1 (h.map (XB gA))),(620,.map (QM V.I (Yg gA) e)),(621,.tbl gA 3 (i.map Qs))] (Ag h e i) (λr=>(.ifc 281 (Yg gA r.1))) (λr=>[(617,.arr 1 (r.2.1.map (XB gA))),(619,.var [.P 617 r.2.1,.map 620]),(620,.map (QM V.I (Yg gA) e)),(621,.tbl gA 3 (r.2.2.map Qs))]):=
 W 15 func290 Z<|B λo j=>B λk l=>kA_ λm=>B λa f=>B λc g=>gA_ [8,.cm (.mv 379 278) [(619,617),(620,621)] [(617,619),(621,620)] [] [.d] [(619,.arr 1 (h.map (XB gA))),(620,.tbl gA 3 (i.map Qs))] (.I o),8,.cm (.mv 381 278) [(619,617),(620,621)] [(617,619),(621,620)] [] [.d,.d,.d] [(619,.arr 1 (k.1.map (XB gA))),(620,.tbl gA 3 (k.2.map Qs))] (.tup []),.O 619 (.var [.P 617 k.1,.map 620]),6,.cm (.fn) [(619,619),(617,617),(620,620),(621,621)] [(617,617),(619,619),(620,620),(621,621)] [617] [.d,.d,.d] [(617,.arr 1 (a.2.1.map (XB gA))),(619,.var [.P 617 a.2.1,.map 620]),(620,.map (QM V.I (Yg gA) e)),(621,.tbl gA 3 (a.2.2.map Qs))] (.b a.1),5,.cm (.me 382) [(619,619),(617,617),(620,620),(621,621)] [(617,617),(619,619),(620,620),(621,621)] [617] [.d] [(617,.arr 1 (c.2.map (XB gA))),(619,.var [.P 617 c.2,.map 620]),(620,.map (QM V.I (Yg gA) e)),(621,.tbl gA 3 (a.2.2.map Qs))] (.ifc 281 (Yg gA c.1)),4] Z (a8_ Qj9 (@NX gA _ _ _ j) QcL (@BA gA _ _ _ _ _ l) (by simp[Xc m]) (@QaA gA _ _ _ _ _ _ f) QqH (@QcX gA _ _ _ _ g))<|E 0 Z
def KF (b:(L_ (Int×(O_ Nat))))(h:(L_ Qe))(i:(L_ (O_ Nat))):O_ ((Int×Int×Bool×LI_×(L_ (Int×(O_ Nat)))×(L_ Qe)×(L_ (O_ Nat)))⊕(LI_×(L_ (Int×(O_ Nat)))×(L_ Qe)×(L_ (O_ Nat)))):=bif (d0&&(c<=a))then j_ (chk (e2.length+([e]:L_ Int).length<=4294967296)) λ_=>j_ (Ag i b h) λd=>j_ (JO d.2.1 (Fg b e) d.2.2) λf=>Q (y_ (f.1,f.2.1,f.2.2,(e2++([e]:L_ Int)),(Fg b e),d.2.2,d.2.1))else Q (i_ (e2,b,h,i))
def Rx (d:(L_ (O_ Nat))):O_ (LI_×(L_ (O_ Nat))×(L_ (Int×(O_ Nat)))×(L_ Qe)):=Q (i,d,g2,k1)
def NI (e:(L_ Qe)):O_ (LI_×(L_ (O_ Nat))×(L_ (Int×(O_ Nat)))×(L_ Qe)):=j_ (JO f0 g2 e) λb=>j_ (Qt (λst=>KF p st.1 st.2.1 st.2.2.1 st.2.2.2.1 st.2.2.2.2.1 st.2.2.2.2.2.1 st.2.2.2.2.2.2) (b.1,b.2.1,b.2.2,([]:L_ Int),g2,e,f0)) (λq=>Rx q.1 q.2.1 q.2.2.1 q.2.2.2)
def Qek {gA:Nat->Nat}{m:(L_ (O_ Nat))}{t:(L_ (Int×(O_ Nat)))}{c:Int}{u:(L_ Qe)}:CT 240 [.L 619,.I c] [(619,.var [.P 617 m,.map 620]),(617,.arr 1 (m.map (XB gA))),(620,.map (QM V.I (Yg gA) t)),(621,.tbl gA 3 (u.map Qs))] (NI m t c u) (λr=>(.P 600 r.1)) (λr=>[(600,.R 1 Qb r.1),(617,.arr 1 (r.2.1.map (XB gA))),(619,.var [.P 617 r.2.1,.map 620]),(620,.map (QM V.I (Yg gA) r.2.2.1)),(621,.tbl gA 3 (r.2.2.2.map Qs))]):=
 W 42 func240 Z<|B λv w=>G [14,.cm (.fn) [(619,619),(617,617),(620,620),(621,621)] [(617,617),(619,619),(620,620),(621,621)] [617] [.d] [(617,.arr 1 (m.map (XB gA))),(619,.var [.P 617 m,.map 620]),(620,.map (QM V.I (Yg gA) t)),(621,.tbl gA 3 (u.map Qs))] (.tup [.I v.1,.I v.2.1,.b v.2.2]),10] Z (@PF gA _ _ _ _ w)<|aD_ 0 5 27 1 Z<|lA_ 0 [0,1] [] (λst=>([(5,.P 27 st.2.2.2.1),(6,.I st.1),(7,.I st.2.1),(8,.b st.2.2.1)],[(27,.R 1 Qb st.2.2.2.1),(617,.arr 1 (st.2.2.2.2.2.2.map (XB gA))),(619,.var [.P 617 st.2.2.2.2.2.2,.map 620]),(620,.map (QM V.I (Yg gA) st.2.2.2.2.1)),(621,.tbl gA 3 (st.2.2.2.2.2.1.map Qs))])) [] [] (λq=>(.exit 0,([(5,.P 27 q.1)],[(27,.R 1 Qb q.1),(617,.arr 1 (q.2.2.2.map (XB gA))),(619,.var [.P 617 q.2.2.2,.map 620]),(620,.map (QM V.I (Yg gA) q.2.1)),(621,.tbl gA 3 (q.2.2.1.map Qs))]))) Z (λ⟨g,at_14,o,y,i,z,C⟩=>T 2 [0,1,5,6] [27,617,619,620,621] ([(20,.b (o&&(at_14<=c)))],[]) Z (H 3 Z (λh=>Y 5 20 Z (XW h Z)) λh=>Y 5 20 Z (Yy h Z))<|I 1 Z (pA_ 8 1 Qb Z<|B λa p=>B λj s=>g3_ [9,.cm (.fn) [(619,619),(617,617),(620,620),(621,621)] [(617,617),(619,619),(620,620),(621,621)] [617] [.d] [(617,.arr 1 (a.2.1.map (XB gA))),(619,.var [.P 617 a.2.1,.map 620]),(620,.map (QM V.I (Yg gA) i)),(621,.tbl gA 3 (a.2.2.map Qs))] (.ifc 281 (Yg gA a.1)),8,.x (λσ=>σ.set 620 (.map (QM V.I (Yg gA) (Fg i g)))),5,.cm (.fn) [(619,619),(617,617),(620,620),(621,621)] [(617,617),(619,619),(620,620),(621,621)] [617] [.d] [(617,.arr 1 (a.2.1.map (XB gA))),(619,.var [.P 617 a.2.1,.map 620]),(620,.map (QM V.I (Yg gA) (Fg i g))),(621,.tbl gA 3 (a.2.2.map Qs))] (.tup [.I j.1,.I j.2.1,.b j.2.2]),8] Z (@Qbs gA _ _ _ _ p) (Qc.delete (e:=V.I) (f:=(Yg gA)) (l:=i) (k:=g) Z Z Z Z Z QoL Ac) (@PF gA _ _ _ _ s)<|R 0 Z)<|X 2 Z) λ⟨O,a0,a1,a2⟩=>gT_ [9,.ren 27 600] Z<|E 0 Z
def MR (f:(L_ (Int×Bool)))(e:Qg)(b:(L_ (O_ Nat)))(c:(L_ (Int×(O_ Nat))))(d:(L_ Qe)):O_ ((Int×(L_ (Int×Bool))×(L_ (O_ Nat))×(L_ (Int×(O_ Nat)))×(L_ Qe))⊕((L_ (O_ Nat))×(L_ (Int×(O_ Nat)))×(L_ Qe))):=Q (y_ ((Qm (a+1)),(Jl Ey f e.Id true),b,c,d))
def DW (e:(L_ (Int×Bool)))(f:(L_ (O_ Nat)))(g:(L_ (Int×(O_ Nat))))(b:(L_ Qe)):O_ ((Int×(L_ (Int×Bool))×(L_ (O_ Nat))×(L_ (Int×(O_ Nat)))×(L_ Qe))⊕((L_ (O_ Nat))×(L_ (Int×(O_ Nat)))×(L_ Qe))):=bif (c<(m.length:Int))then j_ (idx m c) λa=>bif ((!((Xa e a.Id).getD false))&&(0<a.Until))then j_ (Af f g a.Id a.Until b) λd=>MR c e a d.2.1 d.2.2.2 d.2.2.1 else MR c e a f g b else Q (i_ (f,g,b))
def SY:O_ LI_:=j_ (NI f0 g2 a k1) λe=>Q e.1
def CG:O_ LI_:=j_ (QcU) λb=>j_ (Qt (λst=>DW m st.1 st.2.1 st.2.2.1 st.2.2.2.1 st.2.2.2.2) (0,([]:(L_ (Int×Bool))),([]:L_ (O_ Nat)),b.1,b.2)) (λq=>SY c q.1 q.2.1 q.2.2)
def Qmb {gA:Nat->Nat}{u:(L_ Qg)}{c:Int}:CT 156 [.M 11 Qp u,.I c] [] (CG u c) (λr=>(.P 600 r)) (λr=>[(600,.R 1 Qb r)]):=
 W 40 func156 Z<|@λC r=>B λx4 a5=>g2_ [7,.cm (.fn) [] [(9,1),(611,3),(612,610)] [] [] [(1,.map (QM V.I (Yg gA) x4.1)),(3,.var [.Y,.map 1]),(610,.tbl gA 3 (x4.2.map Qs))] (.L 3),6,.O 10 (.map (QM V.I V.b ([]:(L_ (Int×Bool))))),7] Z (@Qma gA _  a5) Z<|N 0 Z<|g2_ [4,.adoptO 611 0 616 1,.O 616 (.arr 1 (([]:L_ (O_ Nat)).map (XB gA))),.O 611 (.var [.own 616 ([]:L_ (O_ Nat)).length,.map 9]),.K [1,5,6,11,12,13] [9,10,611,612,616]] Z Z (congrArg (λn=>Ob.var [.own 616 n,.map 9]) (by simp))<|(λg h=>by
   obtain⟨a6,a1,h⟩:=QU h;refine AK.loop (body:=(λst=>DW u st.1 st.2.1 st.2.2.1 st.2.2.2.1 st.2.2.2.2)) (λst σ=>∃gA:Nat->Nat,σ=⟨[(1,.I c),(5,.L 611),(6,.map 10),(11,.M 11 Qp u),(12,.I (u.length:Int)),(13,.I st.1)],[(9,.map (QM V.I (Yg gA) st.2.2.2.1)),(10,.map (QM V.I V.b st.2.1)),(611,.var [.P 616 st.2.2.1,.map 9]),(612,.tbl gA 3 (st.2.2.2.2.map Qs)),(616,.arr 1 (st.2.2.1.map (XB gA)))]⟩) (λq e σ=>e=.exit 0/\∃gA:Nat->Nat,σ=⟨[(1,.I c),(5,.L 611)],[(9,.map (QM V.I (Yg gA) q.2.1)),(611,.var [.P 616 q.1,.map 9]),(612,.tbl gA 3 (q.2.2.map Qs)),(616,.arr 1 (q.1.map (XB gA)))]⟩) a1 (ex_ _ rfl) ?_ ?_
   ·rintro ⟨x6,t,l8,m9,a7⟩ o σ ⟨gA,rfl⟩ h;refine tg_ g [6] ?_;rcases XU h with⟨m,h⟩|⟨m,h⟩
    ·obtain⟨a,a2,h⟩:=QU h;refine Yq g [.T,6,.o (.row (Qp a)),.A (Qp a),2,.O 8 (.W Qp a),2] rfl (a4_ m (Xw a2) rfl rfl) ?_;refine AK.meet (λσ=>∃gA:Nat->Nat,∃w:(L_ (O_ Nat)),∃y:(L_ (Int×(O_ Nat))),∃a0:(L_ Qe),σ=⟨[(1,.I c),(5,.L 611),(6,.map 10),lk_ 8,(11,.M 11 Qp u),(12,.I (u.length:Int)),(13,.I x6)],[(8,.W Qp a),(9,.map (QM V.I (Yg gA) y)),(10,.map (QM V.I V.b t)),(611,.var [.P 616 w,.map 9]),(612,.tbl gA 3 (a0.map Qs)),(616,.arr 1 (w.map (XB gA)))]⟩/\MR x6 t a w y a0=Q o) ?_ ?_
     ·refine tg_ g [1] ?_;refine AK.meetX (λσ=>σ=⟨[(1,.I c),(5,.L 611),(6,.map 10),lk_ 8,(11,.M 11 Qp u),(12,.I (u.length:Int)),(13,.I x6),(26,.b ((!((Xa t a.Id).getD false))&&(0<a.Until)))],[(8,.W Qp a),(9,.map (QM V.I (Yg gA) m9)),(10,.map (QM V.I V.b t)),(611,.var [.P 616 l8,.map 9]),(612,.tbl gA 3 (a7.map Qs)),(616,.arr 1 (l8.map (XB gA)))]⟩) ?_ ?_
      ·refine Yq g [4,.o (.any (.b ((Xa t a.Id).getD false)) none),2] rfl (a1_ (λσ h1 h2 _=>Qc.lookup (z:=false) rfl rfl (QJ g.n rfl) (h1 _ _ rfl) (h2 _ _ rfl) (h1 _ _ rfl) QrH Ac Qs1 rfl)) ?_;rcases Qrj (!((Xa t a.Id).getD false))with i | i
       ·refine Yq g [.S 22 (.b true),5,.S 26 (.b ((!((Xa t a.Id).getD false))&&(0<a.Until))),.K [1,5,6,8,11,12,13,26] [8,9,10,611,612,616]] rfl ⟨(tc_ i),(cb_ (XW i rfl))⟩ ?_;exact mt_
       refine Yq g [.S 22 (.b false),5,.S 26 (.b ((!((Xa t a.Id).getD false))&&(0<a.Until))),.K [1,5,6,8,11,12,13,26] [8,9,10,611,612,616]] rfl ⟨(tc_ i),(cb_ (Yy i rfl))⟩ ?_;exact mt_
      rintro σ rfl;refine tg_ g [1] ?_;rcases XU h with⟨p,h⟩|⟨p,h⟩
      ·obtain⟨s,a3,h⟩:=QU h;refine Yq g [.T,6] rfl (a1_ p) ?_;refine AK.callE (ι:=Nat->Nat) (Φ:=λ_=>True) [(619,611),(617,616),(620,9),(618,612)] [(616,617),(612,618),(611,619),(9,620)] [616,612] [.d,.d,.d] (λgA=>[(617,.arr 1 (s.2.1.map (XB gA))),(618,.tbl gA 3 (s.2.2.1.map Qs)),(619,.var [.P 617 s.2.1,.map 620]),(620,.map (QM V.I (Yg gA) s.2.2.2))]) (λgA=>.I s.1) (λgA=>_) rfl g (Ju.fn rfl (by kernel_rfl) rfl) rfl (QJ g.n rfl) rfl rfl (@Qbr gA _ _ _ _ _ _ a3) (λgA=>ex_ _ rfl) λgA _=>?_;refine tg_ g [1,.K [1,5,6,8,11,12,13] [8,9,10,611,612,616]] ?_;exact AK.met (ex_ _ (ex_ _ (ex_ _ (ex_ _ (an_ Z h)))))
      refine Yq g [.F,1,.K [1,5,6,8,11,12,13] [8,9,10,611,612,616]] rfl (a1_ p) ?_;exact AK.met (ex_ _ (ex_ _ (ex_ _ (ex_ _ (an_ Z h)))))
     rintro σ ⟨gA,w,y,a0,rfl,h⟩;refine Yq g [4,.x (λσ=>σ.set 10 (.map (QM V.I V.b (Jl Ey t a.Id true)))),7,.K [1,5,6,11,12,13] [9,10,611,612,616]] rfl (a1_ (Qc.mapUpdate (e:=V.I) (f:=V.b) (l:=t) (k:=a.Id) (v:=true) Ey rfl rfl rfl rfl rfl rfl QrH Ac rfl)) ?_;cases h;exact Qwl Z (ex_ _ Z)
    refine Yq g [.F,2,.K [1,5] [9,611,612,616]] rfl (a1_ m) ?_;cases h;exact Qwm Z (an_ Z (ex_ _ Z))
   obtain⟨a8,a9,b0⟩:=a6;replace h:SY c a8 a9 b0=Q r:=h;rintro e σ ⟨rfl,gA,rfl⟩;obtain⟨j,a4,h⟩:=QU h;refine Yq g [6,.cm (.fn) [(619,611),(617,616),(620,9),(621,612)] [(39,600),(616,617),(611,619),(9,620),(612,621)] [616] [.d,.d] [(600,.R 1 Qb j.1),(617,.arr 1 (j.2.1.map (XB gA))),(619,.var [.P 617 j.2.1,.map 620]),(620,.map (QM V.I (Yg gA) j.2.2.1)),(621,.tbl gA 3 (j.2.2.2.map Qs))] (.P 600 j.1),4,.K [4] [39],.ren 39 600,.K [4] [600]] rfl (a1_ (@Qek gA _ _ _ _ _ a4)) ?_;exact E 0 Z g h)
def YB:O_ ((Int×QK)⊕((Int×QK)⊕QK)):=bif (e0<(i.length:Int))then j_ (idx i e0) λd=>j_ (Kl n.now.Items d) λe=>j_ (idx n.now.Items e) λf=>j_ (Yk n f) λb=>bif (b.1 != 0)then Q (i_ (y_ (b.1,b.2)))else Q (y_ ((Qm (e0+1)),b.2))else Q (i_ (i_ n))
def DX:O_ (Int×Qu×QK):=bif (n.now.Now==1099511627776)then Q (1,(Qu.mk 0 0 ([]:LI_)),n)else j_ (CG n.now.Items (Qm (n.now.Now+1))) λb=>j_ (Qt (λst=>YB b st.1 st.2) (0,(QK.mk n.net (Qz.mk n.now.M n.now.Items n.now.Next (Qm (n.now.Now+1))) n.call))) (Sum.elim (λq=>Q (q.1,(Qu.mk 0 0 ([]:LI_)),q.2)) (λq=>Q (0,(Qu.mk 0 0 b),q)))
def Qdn {l}:CT 79 [.L 619] [(619,.W QT l)] (DX l) (λr=>(.tup [.G QF r.2.1,.I r.1])) (λr=>[(619,.W QT r.2.2)]):=
 W 64 func79 Z<|I 17 Z (G [2,.v .no [none,none,Q 1] (.agg (QF (Qu.mk 0 0 ([]:LI_)))),6] Z Z<|E 0 Z)<|B λi j=>D 17 Z (dz_ [(10,.B (.co false [.d,.d] 1 (i.map Qb) i.length)),(0,.N)]) [] [] [0,2,4] [2,34,619] Z Z (a1_ ⟨(@Qmb (λ_=>0) _ _ _ j),Qw,.inl Z⟩) Z<|F 10 [0,2,4,35,36] [2,34] (λst=>([(37,.I st.1)],[(619,.W QT st.2)])) [2] [] (λq=>(.ret,([(3,.I q.1)],[(2,.var (QF (Qu.mk 0 0 ([]:LI_)))),(619,.W QT q.2)]))) [2,4] [2,34] (λq=>(.exit 0,([],[(619,.W QT q)]))) Z (λ⟨o,p⟩=>I 6 Z (vA_ 7 Qb Z λs=>B λk b=>B λe f=>B λg h=>D 4 Z [.N,.N,.N,.N,.N,.N,.N,.N,.N,.N,.N,.N,.B (.C2 (.I k)),.B (.row (Qp e)),.E (.G Qp e),.m (.cm (.fn) [(619,619)] [(619,619)] [] [.d,.d,.d] [(619,.W QT g.2)] (.I g.1) []),.N] [] [] [0,2,4,7,35,36,37] [2,34,619] Z Z (a4_ (QbS _ b) (Xw f) Z (a1_ (AS _ h))) Z<|I 7 Z (G [2,.v .no [none,none,Q 1] (.agg (QF (Qu.mk 0 0 ([]:LI_)))),8] Z Z<|L 0 Z)<|R 7 Z)<|X 2 Z) (λ⟨t,u⟩=>E 2 Z) (λw=>G [11,.frz 34 (i.map Qb) [] [2]] Z (a1_ ⟨(Wb Qw),U⟩)<|E 0 Z)
def Fz (i:Unit):O_ (Qz×Qu):=j_ (Eh b f) λc=>bif (!c)then j_ (Yw f) λd=>Q (d,(Qu.mk 1 0 ([]:LI_)))else j_ (KX (QK.mk b e3 g0)) λa=>bif (a.1 != 0)then j_ (Yw f) λe=>Q (e,(Qu.mk a.1 0 ([]:LI_)))else Q (a.2.2.now,a.2.1)
def FA (i:Unit):O_ (Qz×Qu):=j_ (Eh b f) λc=>bif (!c)then j_ (Yw f) λd=>Q (d,(Qu.mk 1 0 ([]:LI_)))else j_ (Dq (QK.mk b e3 g0)) λa=>bif (a.1 != 0)then j_ (Yw f) λe=>Q (e,(Qu.mk a.1 0 ([]:LI_)))else Q (a.2.2.now,a.2.1)
def FB (i:Unit):O_ (Qz×Qu):=j_ (Eh b f) λc=>bif (!c)then j_ (Yw f) λd=>Q (d,(Qu.mk 1 0 ([]:LI_)))else j_ (WP (QK.mk b e3 g0)) λa=>bif (a.1 != 0)then j_ (Yw f) λe=>Q (e,(Qu.mk a.1 0 ([]:LI_)))else Q (a.2.2.now,a.2.1)
def FC (i:Unit):O_ (Qz×Qu):=j_ (Eh b f) λc=>bif (!c)then j_ (Yw f) λd=>Q (d,(Qu.mk 1 0 ([]:LI_)))else j_ (DX (QK.mk b e3 g0)) λa=>bif (a.1 != 0)then j_ (Yw f) λe=>Q (e,(Qu.mk a.1 0 ([]:LI_)))else Q (a.2.2.now,a.2.1)
def FD (c:Unit):O_ (Qz×Qu):=j_ (Yw f) λa=>Q (a,(Qu.mk 1 0 ([]:LI_)))
def IA:O_ (Qz×Qu):=j_ (Yw f) λd=>j_ (Cb (QK.mk b d g0)) (Sum.elim (λq=>Fz b f d g0 q) (Sum.elim (λq=>FA b f d g0 q) (Sum.elim (λq=>FB b f d g0 q) (Sum.elim (λq=>FC b f d g0 q) (λq=>FD f q)))))
def Qmc {h w i}:CT 22 [.G Qf h,.G Xv w,.G YF i] [] (IA h w i) (λr=>(.tup [.G Xv r.1,.G QF r.2])) no_:=
 W 47 func22 Z<|B λj l=>D 10 Z (dz_ [(2,.B (.C1 (.G Xv j))),(3,.N)]) [] [] [3,4,6,7,8] [3,4,6,7,17] Z Z (a1_ (YP _ l)) Z<|gP_ 4 Z<|s5_ (λx e=>K [.cm (.fn) [(619,17)] [(17,619)] [] [.d] [(619,.var (QT (QK.mk h j i)))] (.clo (.func 77) [.L 619] []),7,.o (.any (.b false) none),3] Z (λg=>(a2_ (DU _ e) (λσ f k _=>Qc.eqFn Z Z (QJ g.n Z) (f _ _ Z) (f _ _ Z) QfO)))<|A 0 CS Z λy=>I 4 Z (A 3 YP Z λz=>G [.v .no [none,none,Q 1] (.agg (QF (Qu.mk 1 0 ([]:LI_)))),6] Z Z<|E 0 Z)<|S 5 .clo [(619,17)] ZC Z λp=>I 15 Z (A 3 YP Z λC=>G [1,.v .no [none,none,Q 1] (.agg (QF (Qu.mk p.1 0 ([]:LI_)))),6] Z Z<|E 0 Z)<|D 3 Z (dz_ [(4,.a .no none true),(0,.m .s),(0,.m .s)]) [6,7,8,10] [7,10,17] [6,7] [6,7] Z Z U Z<|E 2 Z) (λO e=>K [.cm (.fn) [(619,17)] [(17,619)] [] [.d] [(619,.var (QT (QK.mk h j i)))] (.clo (.func 76) [.L 619] []),7,.o (.any (.b false) none),3] Z (λg=>(a2_ (DU _ e) (λσ f k _=>Qc.eqFn Z Z (QJ g.n Z) (f _ _ Z) (f _ _ Z) QfO)))<|A 0 CS Z λa0=>I 4 Z (A 3 YP Z λa1=>G [.v .no [none,none,Q 1] (.agg (QF (Qu.mk 1 0 ([]:LI_)))),6] Z Z<|E 0 Z)<|S 5 .clo [(619,17)] QcT Z λq=>I 15 Z (A 3 YP Z λa2=>G [1,.v .no [none,none,Q 1] (.agg (QF (Qu.mk q.1 0 ([]:LI_)))),6] Z Z<|E 0 Z)<|D 3 Z (dz_ [(4,.a .no none true),(0,.m .s),(0,.m .s)]) [6,7,8,10] [7,10,17] [6,7] [6,7] Z Z U Z<|E 2 Z) (λa3 e=>K [.cm (.fn) [(619,17)] [(17,619)] [] [.d] [(619,.var (QT (QK.mk h j i)))] (.clo (.func 78) [.L 619] []),7,.o (.any (.b false) none),3] Z (λg=>(a2_ (DU _ e) (λσ f k _=>Qc.eqFn Z Z (QJ g.n Z) (f _ _ Z) (f _ _ Z) QfO)))<|A 0 CS Z λa4=>I 4 Z (A 3 YP Z λa5=>G [.v .no [none,none,Q 1] (.agg (QF (Qu.mk 1 0 ([]:LI_)))),6] Z Z<|E 0 Z)<|S 5 .clo [(619,17)] Qbp Z λt=>I 15 Z (A 3 YP Z λa6=>G [1,.v .no [none,none,Q 1] (.agg (QF (Qu.mk t.1 0 ([]:LI_)))),6] Z Z<|E 0 Z)<|D 3 Z (dz_ [(4,.a .no none true),(0,.m .s),(0,.m .s)]) [6,7,8,10] [7,10,17] [6,7] [6,7] Z Z U Z<|E 2 Z) (λa7 e=>K [.cm (.fn) [(619,17)] [(17,619)] [] [.d] [(619,.var (QT (QK.mk h j i)))] (.clo (.func 79) [.L 619] []),7,.o (.any (.b false) none),3] Z (λg=>(a2_ (DU _ e) (λσ f k _=>Qc.eqFn Z Z (QJ g.n Z) (f _ _ Z) (f _ _ Z) QfO)))<|A 0 CS Z λa8=>I 4 Z (A 3 YP Z λa9=>G [.v .no [none,none,Q 1] (.agg (QF (Qu.mk 1 0 ([]:LI_)))),6] Z Z<|E 0 Z)<|S 5 .clo [(619,17)] Qdn Z λu=>I 15 Z (A 3 YP Z λb0=>G [1,.v .no [none,none,Q 1] (.agg (QF (Qu.mk u.1 0 ([]:LI_)))),6] Z Z<|E 0 Z)<|D 3 Z (dz_ [(4,.a .no none true),(0,.m .s),(0,.m .s)]) [6,7,8,10] [7,10,17] [6,7] [6,7] Z Z U Z<|E 2 Z) λb1 e=>K [.cm (.fn) [(619,17)] [(17,619)] [] [.d] [(619,.var (QT (QK.mk h j i)))] (.lit (.nilFunc)),7,.o (.any (.b true) none),12] Z (λg=>(a2_ (DU _ e) (λσ f k _=>Qc.eqFn0 Z Z (QJ g.n Z) (f _ _ Z) (f _ _ Z) QfO)))<|A 0 YP Z λb2=>G [.v .no [none,none,Q 1] (.agg (QF (Qu.mk 1 0 ([]:LI_)))),6] Z Z<|E 0 Z
def Wg (e:(L_ Xh))(g:Qh)(c:Int)(f:Qz)(a:(L_ Qu)):O_ ((Int×Qz×(L_ Qu))⊕(Qz×(L_ Qu))):=bif (c<(e.length:Int))then j_ (idx e c) λd=>j_ (IA g f d) λb=>j_ (chk (a.length+([b.2]:L_ Qu).length<=4294967296)) λ_=>Q (y_ ((Qm (c+1)),b.1,(a++([b.2]:L_ Qu))))else Q (i_ (f,a))
def FE (c:(L_ Xh)):O_ ((L_ Qu)×Qz):=j_ (Yw f) λd=>j_ (Qt (λst=>Wg c b st.1 st.2.1 st.2.2) (0,d,([]:L_ Qu))) (λq=>Q (q.2,q.1))
def Ry {a b c}:CT 8 [.G Qf a,.G Xv b,.M 7 YF c] [] (FE a b c) (λr=>(.tup [.G Xv r.2,.M 3 QF r.1])) no_:=
 W 34 func8 Z<|A 11 YP Z λi=>N 12 Z<|aD_ 4 8 27 3 Z<|lA_ 0 [3,4,6,14,15] [3,6] (λst=>([(8,.P 27 st.2.2),(16,.I st.1)],[(4,.W Xv st.2.1),(27,.R 3 QF st.2.2)])) [4,6] [6] (λq=>(.exit 0,([(8,.P 27 q.2)],[(4,.W Xv q.1),(27,.R 3 QF q.2)]))) Z (λ⟨j,k,d⟩=>I 6 Z (J 6 Z λe=>A 15 Qmc Z λf=>pA_ 10 3 QF Z<|R 8 Z)<|X 2 Z) λ⟨g,h⟩=>zF_ 11 27 [7] [] Z<|E 0 Z
def Cg:O_ (Int⊕(Unit⊕Unit)):=bif (p<(i.length:Int))then j_ (idx i p) λe=>j_ (idx g1 p) λb=>bif (e != b)then Q (i_ (y_ ()))else Q (y_ (Qm (p+1)))else Q (i_ (i_ ()))
def QbV : O_ Bool:=Q false
def QbW : O_ Bool:=Q true
def Wx:O_ Bool:=bif ((i.length:Int) != (g1.length:Int))then Q false else j_ (Qt (λst=>Cg i g1 st) 0) (Sum.elim (λq=>QbV) (λq=>QbW))
def Gy {f g}:CT 13 [.M 1 Qb f,.M 1 Qb g] [] (Wx f g) V.b no_:=
 W 26 func13 Z<|N 9 Z<|N 1 Z<|I 3 Z (E 7 Z)<|F 9 [0,1] [] (λst=>([(5,.I st)],[])) [] [] (λq=>(.ret,([(4,.b false)],[]))) [] [] (λq=>(.exit 0,([],[]))) Z (λi=>N 5 Z<|I 3 Z (B λh d=>B λe c=>D 5 Z (dz_ [(2,.B (.row (Qb h))),(3,.B (.row (Qb e))),(1,.N)]) [] [] [0,1,5,25] [] Z Z (a2_ (Xw d) (Xw c)) Z<|I 1 Z (L 8 Z)<|R 8 Z)<|X 2 Z) (λ_=>E 2 Z) (λ_=>E 8 Z)
noncomputable def Ej (O:Int)(h:Int):O_ (Int⊕Empty):=Q (y_ (Qm (a+h)))
def SZ:O_ Int:=Q a
noncomputable def Ta:O_ Int:=j_ (HZ (λst p=>Ej st p.1 p.2) 0 d) (Sum.elim (λq=>SZ q) (λq=>Empty.elim q))
def IB:O_ Int:=j_ (OT d) (Sum.elim (λq=>Q 0) (λq=>Ta q))
def Tb {y}:CT 38 [.M 2 Qy y] [] (IB y) V.I no_:=
 W 23 func38 Z<|@λC r=>gP_ 8 Z<|s2_ (λa5 c=>K [.cm (.fn) [] [] [] [.d] [] (.tup [.lit (.map none),.b false]),16,.x (λσ=>(σ.set 14 .itr0).put 14 (.L 14)),3] Z (λa=>(a2_ (Ar _ c) (Qc.range0 Z Z (QJ a.n Z) Z EL Z)))<|λa h=>AK.loopOnce<|QcM a h<|K [2,.x (λσ=>σ.put 15 (.tup [.b false])),17] Z (λa=>(a1_ (Qc.next0 Z Z (QJ a.n Z) Z Z)))<|E 0 Z) λz c=>G [.cm (.fn) [] [(10,601)] [] [.d] [(601,.map (QM V.I V.I z))] (.tup [.map 601,.b true]),16] Z (Ar _ c)<|λa h=>AK.openMap (b:=10) Ac Z λg i L7 k l=>QcM a h<|K [.x (λσ=>(σ.set 14 (.itr g i #[] none)).put 14 (.L 14)),3,.K [5,14] [10,14]] Z (λa=>(a1_ (Qc.range (b:=10) Z Z (QJ a.n Z) Z Z EL Z)))<|B λv s=>(λa h=>by
   refine AK.range (body:=(λst p=>Ej st p.1 p.2)) (λst seen σ=>∃cur:O_ Nat,σ=⟨[(5,.I st),lk_ 14],[(10,.mapX g i (IK V.I V.I L7) (QM V.I V.I z)),(14,.itr g i seen cur)]⟩) (λ(q:Empty) _ _=>False) (λst e σ=>e=.exit 0/\σ=⟨[(5,.I st)],[]⟩) k l s (ex_ _ rfl) ?_ ?_
   ·rintro w seen σ ⟨cur,rfl⟩ hex;refine tg_ a [2] ?_;refine AK.nextT (b:=14) (m:=10) rfl rfl rfl (QJ a.n rfl) rfl rfl rfl rfl ?_ ?_
    ·intro hleft;refine tg_ a [7,.K [5] []] ?_;exact AK.done (Or.inl (an_ hleft (an_ (λh=>(by cases h)) (an_ Z Z))))
    intro O t u j;obtain⟨o,h⟩:=hex _ j;have ho:=h;replace h:Ej w t u=Q o:=h;refine Yq a [10,.x (λσ=>σ.put 17 (.tup [.I t,.I u])),11,.K [5,14] [10,14]] rfl (a1_ (Qc.entryT (b:=14) (m:=10) (e:=V.I) (f:=V.I) rfl rfl (QJ a.n rfl) rfl j rfl rfl)) ?_;cases h;exact AK.done (Or.inr (ex_ _ (an_ j (Or.inl (ex_ _ (an_ ho (an_ Z (ex_ _ Z))))))))
   rcases v with(w | q)
   ·replace h:SZ w=Q r:=h;unfold SZ at h;rintro e σ ⟨rfl,rfl⟩;refine tg_ a [9,.K [2] []] ?_;exact E 0 Z a h
   exact q.elim)
def QfY:O_ Bool:=j_ (bif (0<=b.To)then bif (b.To<(h.length:Int))then j_ (idx h b.To) λe=>j_ (IB e) λf=>Q (decide (0<f))else Q false else Q false) (λc=>Q c)
def Qks {a c}:CT 52 [.G Qf a,.M 1 Ql c] [] (QfY a c) V.b no_:=
 W 24 func52 Z<|mV_ 7 [] [] (λd=>([(4,.b d)],[])) Z (I 5 Z (N 3 Z<|I 3 Z (J 3 Z λe=>A 1 Tb Z λf=>M 4 Z)<|M 10 Z)<|M 17 Z) λd=>E 2 Z
def Rz:O_ (Int⊕(Unit⊕Unit)):=j_ (IB d) λa=>bif (a != g)then Q (i_ (y_ ()))else Q (y_ (Qm (c+1)))
def QfZ:O_ Bool:=j_ (bif ((h.length:Int) != (b.Places.length:Int))then Q true else j_ (QfY b h) λd=>Q (!d)) (λc=>bif c then Q false else j_ (Qt (λf=>bif (f<(h.length:Int))then j_ (idx h f) λg=>bif (f==b.To)then Rz g f 1 else Rz g f 0 else Q (i_ (i_ ()))) 0) (Sum.elim (λa=>Q false) (λa=>Q true)))
def Qky {e f}:CT 26 [.G Qf e,.M 1 Ql f] [] (QfZ e f) V.b no_:=
 W 36 func26 Z<|mV_ 8 [1,2] [2] (λg=>([(19,.b g)],[])) Z (N 2 Z<|N 2 Z<|I 2 Z (M 6 Z)<|A 2 Qks Z λi=>M 3 Z) λg=>I 1 Z (E 7 Z)<|N 6 Z<|F 4 [2,20,21] [2] (λst=>([(22,.I st)],[])) [] [] (λq=>(.ret,([(4,.b false)],[]))) [] [] (λq=>(.exit 0,([],[]))) Z (λc=>I 6 Z (J 7 Z λd=>mE_ 10 [2,6,20,21,22] [2] (λa:Int=>([(7,.I a)],[])) (λa=>Rz d c a) Z (I 8 Z (P 3 Z Z)<|P 1 Z Z) λa=>A 3 Tb Z λh=>I 4 Z (L 8 Z)<|R 7 Z)<|X 2 Z) (λ_=>E 2 Z) (λ_=>E 8 Z)
def VI:O_ Bool:=j_ (j_ (QfZ b f.M) λd=>bif d then Q ((f.Items.length:Int)==0)else Q false) (λc=>Q c)
def QaB {a c}:CT 14 [.G Qf a,.G Xv c] [] (VI a c) V.b no_:=
 W 15 func14 Z<|mV_ 8 [] [] (λd=>([(4,.b d)],[])) Z (A 4 Qky Z λe=>I 1 Z (N 2 Z<|M 4 Z)<|M 7 Z) λd=>E 2 Z
def FF:O_ Bool:=bif ((d.length:Int) != (i0.length:Int))then Q false else j_ (Qt (λst=>bif (st<(d.length:Int))then j_ (idx d st) λf=>j_ (idx i0 st) λg=>bif (!((f.1==g.1)&&(f.2==g.2)))then Q (i_ (y_ ()))else Q (y_ (Qm (st+1)))else Q (i_ (i_ ()))) 0) (Sum.elim (λq=>Q false) (λq=>Q true))
def PM {g h}:CT 54 [.M 2 Qy g,.M 2 Qy h] [] (FF g h) V.b no_:=
 W 26 func54 Z<|N 9 Z<|N 1 Z<|I 3 Z (E 7 Z)<|N 6 Z<|F 4 [0,1,12] [] (λst=>([(13,.I st)],[])) [] [] (λq=>(.ret,([(4,.b false)],[]))) [] [] (λq=>(.exit 0,([],[]))) Z (λk=>I 6 Z (B λe f=>B λc d=>UF 11 Z [.N,.N,.B (.row (Qy e)),.N,.N,.N,.B (.row (Qy c)),.N,.B (.any (.b (!((e.1==c.1)&&(e.2==c.2)))) none)] [] [] [0,1,12,13,24] [] Z Z (λj=>(a3_ (Xw f) (Xw d) (λσ i l _=>Qc.neAgg Z Z (QJ j.n Z) (i _ _ Z) (i _ _ Z) Z Z (QtB _ _ _ _)))) Z<|I 1 Z (L 8 Z)<|R 7 Z)<|X 2 Z) (λ_=>E 2 Z) (λ_=>E 8 Z)
def Qkz:O_ Bool:=j_ (j_ (Gl d) λf=>bif f then j_ (Gl i0) λg=>bif g then j_ (FF d i0) λh=>Q h else Q false else Q false) (λc=>Q c)
def QnM {a c}:CT 28 [.M 2 Qy a,.M 2 Qy c] [] (Qkz a c) V.b no_:=
 W 16 func28 Z<|mV_ 6 [] [] (λd=>([(4,.b d)],[])) Z (A 2 Fh Z λf=>I 1 Z (A 1 Fh Z λg=>I 2 Z (A 2 PM Z λe=>M 3 Z)<|M 6 Z)<|M 10 Z) λd=>E 2 Z
def JJ:O_ Bool:=bif ((h.length:Int) != (j0.length:Int))then Q false else j_ (Qt (λst=>bif (st<(h.length:Int))then j_ (idx h st) λg=>j_ (idx j0 st) λa=>j_ (Qkz g a) λi=>bif (!i)then Q (i_ (y_ ()))else Q (y_ (Qm (st+1)))else Q (i_ (i_ ()))) 0) (Sum.elim (λq=>Q false) (λq=>Q true))
def DQ {a c}:CT 27 [.M 1 Ql a,.M 1 Ql c,.clo (.func 28) [] []] [] (JJ a c) V.b no_:=
 W 32 func27 Z<|N 9 Z<|N 1 Z<|I 3 Z (E 7 Z)<|N 6 Z<|F 4 [1,2,15,16] [] (λst=>([(17,.I st)],[])) [] [] (λq=>(.ret,([(6,.b false)],[]))) [] [] (λq=>(.exit 0,([],[]))) Z (λf=>I 6 Z (J 7 Z λg=>J 9 Z λd=>A 9 QnM Z λe=>I 3 Z (L 8 Z)<|R 7 Z)<|X 2 Z) (λ_=>E 2 Z) (λ_=>E 8 Z)
def Qh1:O_ Bool:=j_ (JJ h j0) λc=>Q c
def Qme {a c}:CT 15 [.M 1 Ql a,.M 1 Ql c] [] (Qh1 a c) V.b no_:=
 W 8 func15 Z<|S 9 .fn [] DQ Z λd=>E 4 Z
def QbX:O_ (Qh×QW):=Q (b,l)
def Qf0 {a b}:CT 184 [.G Qf a,.G QC b] [] (QbX a b) (λ_=>(.clo (.func 260) [] [.L 3,.L 2])) (λr=>[(2,.W Qf r.1),(3,.W QC r.2)]):=
 W 6 func184 Z<|E 14 Z
def Lp:O_ QLL:=j_ (chk ((([]:QLL).length+d2.length)*24<=140737488355328)) λ_=>Q (([]:QLL)++d2)
def Tc {a}:CT 188 [.M 1 XA a] [] (Lp a) (λr=>(.P 600 r)) (λr=>[(600,.R 1 XA r)]):=
 W 8 func188 Z<|zN_ 9 QuV (Q ([]:QLL)) Z (aD_ 10 2 600 1 Z<|E 0 Z)<|kA_ λb=>K [8,.O 5 (.arr 1 (([]:QLL).map XA)),.S 5 (.own 5 ([]:QLL).length),1,.x (λσ=>σ.app 5 1 7 (([]:QLL)++a).length ((([]:QLL)++a).map XA)),4,.ren 5 600] Z (λc=>(a3_ Z Z (Qc.appSB (by_:=24) (zs:=[.Y]) (e:=44) (e':=44) (z':=1) (by':=24) Z Z (QJ c.n Z) Z Z Z Qw (by kernel_rfl) (by kernel_rfl) (by kernel_rfl) Z (by decide) (by decide) (PC b Qw) Z KV (Ui Qw))))<|E 0 Z
def Td (b:Xm):O_ Bool:=j_ (Yd b i) λc=>Q (c != 0)
def Za {a c}:CT 189 [.M 1 Qb a,.L 619] [(619,.W Jv c)] (Td a c) V.b (λ_=>[(619,.W Jv c)]):=
 W 8 func189 Z<|A 9 NW Z λd=>E 5 Z
def CM (b:Xm):O_ Int:=j_ (Qt (λst=>bif (st<(d2.length:Int))then j_ (idx d2 st) λf=>j_ (Td f b) λg=>bif g then Q (i_ (y_ st))else Q (y_ (Qm (st+1)))else Q (i_ (i_ ()))) 0) (Sum.elim (λq=>Q q) (λq=>Q (-1)))
def Pg {a b}:CT 261 [.P 619 a,.clo (.func 189) [] [.L 620]] [(619,.R 1 XA a),(620,.W Jv b)] (CM a b) V.I (λ_=>[(619,.R 1 XA a),(620,.W Jv b)]):=
 W 19 func261 Z<|F 14 [0,1,7] [619,620] (λst=>([(8,.I st)],[])) [] [619,620] (λq=>(.ret,([(4,.I q)],[]))) [] [619,620] (λq=>(.exit 0,([],[]))) Z (λd=>I 6 Z (vA_ 16 XA Z λe=>S 0 .clo [(619,620)] Za Z λc=>I 2 Z (L 9 Z)<|R 7 Z)<|X 2 Z) (λf=>E 2 Z) (λ_=>E 8 Z)
def Dy:O_ ((Int×Int×QLL)⊕(Int×QLL)):=Q (y_ (e,(Qm (a+1)),d2))
def Ch (c:Xm):O_ QLL:=j_ (CM d2 c) λb=>bif (b==(-1))then Q d2 else j_ (Qt (λst=>bif (st.2.1<(st.2.2.length:Int))then j_ (idx st.2.2 st.2.1) λh=>j_ (Td h c) λi=>bif (!i)then j_ (idx st.2.2 st.1) λj=>Dy st.2.1 (Qm (st.1+1)) (st.2.2.set st.1.toNat h)else Dy st.2.1 st.1 st.2.2 else Q (i_ (st.1,st.2.2))) (b,(Qm (b+1)),d2)) (λq=>j_ (chk (decide (0<=q.1)&&decide (q.1.toNat<=q.2.length))) λd=>j_ (chk (decide (0<=q.1)&&decide (q.1.toNat<=(q.2.take q.1.toNat++List.replicate (q.2.length-q.1.toNat) (([]:LI_):LI_)).length))) λd=>Q ((q.2.take q.1.toNat++List.replicate (q.2.length-q.1.toNat) (([]:LI_):LI_)).take q.1.toNat))
def Od {p s}:CT 187 [.P 619 p,.clo (.func 189) [] [.L 620]] [(619,.R 1 XA p),(620,.W Jv s)] (Ch p s) (λr=>(.P 619 r)) (λr=>[(619,.R 1 XA r),(620,.W Jv s)]):=
 W 42 func187 Z<|S 9 .fn [(619,619),(620,620)] Pg Z λz=>I 10 Z (E 8 Z)<|lA_ 11 [1] [620] (λst=>([(0,.P 619 st.2.2),(5,.I st.1),(6,.I st.2.1)],[(619,.R 1 XA st.2.2)])) [] [620] (λq=>(.exit 0,([(0,.P 619 q.2),(5,.I q.1)],[(619,.R 1 XA q.2)]))) Z (λ⟨v,t,m⟩=>I 9 Z (mF_ 2 [1,6] [620] (λ(i:Int) (g:QLL)=>([(0,.P 619 g),(5,.I i)],[(619,.R 1 XA g)])) (λi g=>Dy t i g) Z (vA_ 6 XA Z λo=>S 7 .clo [(619,620)] Za Z λy=>I 3 Z (B λu j=>g3_ [6,.st (XA u) ((m.set v.toNat o).map XA),8,.S 0 (.own 619 (m.set v.toNat o).length)] Z (YZ j Z) ⟨(Xz (Jd j).2),EI Z⟩ (congrArg (λn=>V.own 619 n) (by simp))<|fA_ 0 Z Z)<|fA_ 2 Z Z) λi g=>R 5 Z)<|X 2 Z) λ⟨a,c⟩=>kA_ λd=>gP_ 6 Z<|λk h=>AK.clearTail (b:=619) (l:=a.toNat) (n:=c.length) Z Z Z Z Z Z (QJ k.n Z) Z Z Qw (QA.es Z) QtC Z Z Z (DJ.val Z (Xc (Qdd d)) Z) (Xc (NQ d)) Z<|QcM k h<|QlZ (AK.denilA (b:=619) [Q 1] Z (QuQ (f:=XA) (x:=(([]:LI_):LI_)) (λ_=>rfl) Z))<|g2_ [.S 0 (.own 619 (c.take a.toNat++List.replicate (c.length-a.toNat) (([]:LI_):LI_)).length),.S 36 (.own 619 (c.take a.toNat++List.replicate (c.length-a.toNat) (([]:LI_):LI_)).length),6] Z (QrA (Xc (NQ d))) (QrA (Xc (NQ d)))<|kA_ λe=>(λk h=>by
   have w:a.toNat=((c.take a.toNat++List.replicate (c.length-a.toNat) (([]:LI_):LI_)).take a.toNat).length:=by rw[Wq,ZY (Xc (NQ e))]
   refine Yq k [.x (λσ=>(σ.set 619 (.arr 1 (((c.take a.toNat++List.replicate (c.length-a.toNat) (([]:LI_):LI_)).take a.toNat).map XA))).put 41 (.own 619 a.toNat)),.S 41 (.own 619 ((c.take a.toNat++List.replicate (c.length-a.toNat) (([]:LI_):LI_)).take a.toNat).length),4,.K [4] [619,620]] rfl (a2_ (Qc.sliceO rfl rfl (QJ k.n rfl) rfl rfl (QA.es rfl) DJ.no (DJ.val rfl (Xc (Qdd e)) rfl) (Xc (NQ e)) (by simp)) (QuJ (Xc (NQ e)))) ?_;exact E 0 Z k h)
def AV (b:(L_ Qo)):O_ ((Int×(L_ Qo))⊕((L_ Qo)⊕(L_ Qo))):=Q (y_ ((Qm (a+1)),b))
def PG (k:(L_ Qo))(c:QLL)(i:QLL)(e:(L_ Qo))(d:LI_):O_ ((L_ Qo)⊕(L_ Qo)):=j_ (Jx b h j d) λa=>j_ (bif (a.1 != 0)then Q true else j_ (Yb a.2) λl=>Q (l != 0)) (λf=>bif f then Q (i_ e)else j_ (Lp i) λm=>j_ (Ch m a.2) λn=>j_ (Qt (λo=>bif (o.1<(c.length:Int))then j_ (idx c o.1) λp=>j_ (XS a.2 p) λz=>bif (z != 0)then AV o.1 o.2 else j_ (Qt (λi4=>bif (i4.1<(n.length:Int))then j_ (idx n i4.1) λi5=>j_ (Xt d) λi6=>j_ (Xt p) λi7=>j_ (Xt i5) λj4=>j_ (chk (i4.2.length+([(Qo.mk j i6 i7 j4)]:L_ Qo).length<=4294967296)) λj5=>bif (((i4.2++[(Qo.mk j i6 i7 j4)]).length:Int)==e0)then Q (i_ (y_ (i4.2++[(Qo.mk j i6 i7 j4)])))else Q (y_ ((Qm (i4.1+1)),(i4.2++[(Qo.mk j i6 i7 j4)])))else Q (i_ (i_ i4.2))) (0,o.2)) (Sum.elim (λj6=>Q (i_ (y_ j6))) (λj6=>AV o.1 j6))else Q (i_ (i_ o.2))) (0,e)) (Sum.elim (λj7=>Q (y_ j7)) (λj7=>Q (i_ j7))))
def Mi (lpl lpf:Nat)(w:Qh)(x:QMk)(i:Int)(y:Int)(j:(L_ Qo))(z:QLL)(O:QLL)(l8:(L_ Qo))(p9:LI_){r:((L_ Qo)⊕(L_ Qo))}(h:PG w x i y j z O l8 p9=Q r):Vj prog lpl (WZ lpf) (Qwu (.L 620) (.L 621) (.L 622) (.L 623) (.L 624) (.L 625) (.L 626) (.L 627) (.M 1 Qb p9)) [(619,.lp lpl (WZ lpf) (OS (.L 620) (.L 621) (.L 622) (.L 623) (.L 624) (.L 625) (.L 626) (.L 627)) 0),(620,.W Qf w),(621,.W GJ x),(622,.W Qb i),(623,.W Qb y),(624,.var [.P 617 j]),(617,.R 4 QE j),(625,.W JU z),(626,.W JU O),(627,.var [.P 618 l8]),(618,.R 4 QE l8)] ((Sum.elim (λq=>(Gives (.b false) [(617,.R 4 QE j),(618,.R 4 QE q),(619,.lp lpl (WZ lpf) (OS (.L 620) (.L 621) (.L 622) (.L 623) (.L 624) (.L 625) (.L 626) (.L 627)) 2),(620,.W Qf w),(621,.W GJ x),(622,.W Qb i),(623,.W Qb y),(624,.var [.P 618 q]),(625,.W JU z),(626,.W JU O),(627,.var [.P 618 q])])) (λq=>(Gives (.b true) [(617,.R 4 QE j),(618,.R 4 QE q),(619,.lp lpl (WZ lpf) (OS (.L 620) (.L 621) (.L 622) (.L 623) (.L 624) (.L 625) (.L 626) (.L 627)) 0),(620,.W Qf w),(621,.W GJ x),(622,.W Qb i),(623,.W Qb y),(624,.var [.P 617 j]),(625,.W JU z),(626,.W JU O),(627,.var [.P 618 q])]))) r):=by
 refine Vj.walk (b:=619) 109 rfl rfl λC k=>?_;refine tg_ k [3] ?_;refine AK.done (an_ rfl (ex_ _ (an_ rfl ?_)));exact QcM k h<|A 7 QbT Z λa1=>mV_ 10 [6,7,8,10,11,12,13,14] [14,617,618,619,620,621,622,623,624,625,626,627] (λl=>([(69,.b l)],[])) Z (I 4 Z (M 5 Z)<|A 1 Me Z λa2=>M 3 Z) λl=>I 1 Z (gT_ [3,.K [] [617,618,619,620,621,622,623,624,625,626,627]] Z<|(λk h=>by
   cases h;refine AK.done ?_;exact ex_ _ (an_ Z (gives rB_))))<|oC_ 5 [.d] Tc Z λa3=>S 1 .fn [(619,71),(620,14)] Od Z λa4=>N 6 Z<|F 4 [6,7,8,12,13,14,16,74,75] [14,71,617,619,620,621,622,623,624,625,626] (λst=>([(76,.I st.1)],[(618,.R 4 QE st.2),(627,.var [.P 618 st.2])])) [] [617,619,620,621,622,623,625,626] (λq=>(.ret,([],[(618,.R 4 QE q),(624,.var [.P 618 q]),(627,.var [.P 618 q])]))) [] [617,619,620,621,622,623,624,625,626] (λq=>(.exit 2,([],[(618,.R 4 QE q),(627,.var [.P 618 q])]))) Z (λ⟨a0,a5⟩=>I 6 Z (mE_ 2 [6,7,8,12,13,14,16,74,75,76] [14,71,617,619,620,621,622,623,624,625,626] (λg:(L_ Qo)=>([],[(618,.R 4 QE g),(627,.var [.P 618 g])])) (λg=>AV a0 g) Z (J 3 Z λa6=>A 9 NV Z λa7=>I 3 Z (P 3 Z Z)<|F 10 [6,7,8,12,13,14,16,18,74,75,76,84,85] [14,71,617,619,620,621,622,623,624,625,626] (λst=>([(86,.I st.1)],[(618,.R 4 QE st.2),(627,.var [.P 618 st.2])])) [] [617,619,620,621,622,623,625,626] (λq=>(.ret,([],[(618,.R 4 QE q),(624,.var [.P 618 q]),(627,.var [.P 618 q])]))) [6,7,8,12,13,14,16,74,75,76] [14,71,617,619,620,621,622,623,624,625,626] (λq=>(.exit 4,([],[(618,.R 4 QE q),(627,.var [.P 618 q])]))) Z (λ⟨a8,o⟩=>I 6 Z (vA_ 7 XA Z λa9=>B λc p=>B λe t=>B λf u=>kA_ λv=>D 4 Z [.N,.N,.N,.B (.cd false [.d] 1 (c.map Qb) c.length),.N,.B (.cd false [.d] 1 (e.map Qb) e.length),.N,.B (.cd false [.d] 1 (f.map Qb) f.length),.E (.agg (QE (Qo.mk i c e f))),.a (.bd []) (Q ([],.sl 4 (([(Qo.mk i c e f)]:L_ Qo).map QE))) false,.m (.app ((o++[(Qo.mk i c e f)]).map QE) (o++[(Qo.mk i c e f)]).length),.m .s] [] [] [6,7,8,12,13,14,16,18,74,75,76,84,85,86] [14,71,617,618,619,620,621,622,623,624,625,626,627] Z Z (a6_ ⟨(XV _ p),Qw⟩ ⟨(XV _ t),Qw⟩ ⟨(XV _ u),Qw⟩ Z Z ⟨Qw,HY v Qw,KV,Ui Qw⟩) Z<|I 9 Z (L 9 Z)<|R 7 Z)<|X 2 Z) (λb0=>L 3 Z) (λb1=>P 2 Z Z)) λg=>R 4 Z)<|X 2 Z) (λb2=>gT_ [2,.K [] [617,618,619,620,621,622,623,624,625,626,627]] Z<|(λk h=>by
   cases h;refine AK.done ?_;exact ex_ _ (an_ Z (gives rB_)))) (λb3=>gT_ [2,.K [] [617,618,619,620,621,622,623,624,625,626,627]] Z<|(λk h=>by
   cases h;refine AK.done ?_;exact ex_ _ (an_ Z (gives rB_))))
def Zb (g:(L_ Qo))(c:QLL)(i:QLL)(d:(L_ Qo))(a:QW)(e:Qh):O_ ((L_ Qo)⊕(L_ Qo)):=j_ (chk (decide (0<=(a.Vars.length:Int))&&decide ((a.Vars.length:Int)<=(a.Vars.length:Int))&&decide ((a.Vars.length:Int)<=4294967296))) λ_=>j_ (Qt (λst=>j_ (Xt st.1) λm=>j_ (PG b h j e0 g c i st.2 m) (Sum.elim (λn=>Q (i_ (i_ n))) (λn=>j_ (Qt (λy=>j_ (bif (0<=y.1)then j_ (idx y.2 y.1) λz=>j_ (idx a.Vars y.1) λi4=>j_ (YL e.Colours i4.Colour) λi5=>Q (decide (i5<=(Qm (z+1))))else Q false) (λi6=>bif i6 then j_ (idx y.2 y.1) λi7=>Q (y_ ((Qm (y.1-1)),(y.2.set y.1.toNat 0)))else Q (i_ (y.1,y.2)))) ((Qm ((st.1.length:Int)-1)),st.1)) (λj4=>bif (j4.1<0)then Q (i_ (y_ n))else j_ (idx j4.2 j4.1) λj5=>j_ (idx j4.2 j4.1) λj6=>Q (y_ ((j4.2.set j4.1.toNat (Qm (j5+1))),n)))))) ((List.replicate (a.Vars.length:Int).toNat (0:Int)),d)) (Sum.elim (λq=>Q (y_ q)) (λq=>Q (i_ q)))
def RA {lpl lpf:Nat}{l:Qh}{m:QMk}{p:Int}{s:Int}{f:(L_ Qo)}{t:QLL}{u:QLL}{l8:(L_ Qo)}{z:QW}{j:Qh}:CP 260 [.clo (.yield lpl) [] [],.L 628,.L 629] [(619,.lp lpl (WZ lpf) (OS (.L 620) (.L 621) (.L 622) (.L 623) (.L 624) (.L 625) (.L 626) (.L 627)) 0),(620,.W Qf l),(621,.W GJ m),(622,.W Qb p),(623,.W Qb s),(624,.var [.P 617 f]),(617,.R 4 QE f),(625,.W JU t),(626,.W JU u),(627,.var [.P 618 l8]),(618,.R 4 QE l8),(628,.W QC z),(629,.W Qf j)] (Zb l m p s f t u l8 z j) ((Sum.elim (λq=>(Gives (.tup []) [(617,.R 4 QE f),(618,.R 4 QE q),(619,.lp lpl (WZ lpf) (OS (.L 620) (.L 621) (.L 622) (.L 623) (.L 624) (.L 625) (.L 626) (.L 627)) 0),(620,.W Qf l),(621,.W GJ m),(622,.W Qb p),(623,.W Qb s),(624,.var [.P 617 f]),(625,.W JU t),(626,.W JU u),(627,.var [.P 618 q]),(628,.W QC z),(629,.W Qf j)])) (λq=>(Gives (.tup []) [(617,.R 4 QE f),(618,.R 4 QE q),(619,.lp lpl (WZ lpf) (OS (.L 620) (.L 621) (.L 622) (.L 623) (.L 624) (.L 625) (.L 626) (.L 627)) 2),(620,.W Qf l),(621,.W GJ m),(622,.W Qb p),(623,.W Qb s),(624,.var [.P 618 q]),(625,.W JU t),(626,.W JU u),(627,.var [.P 618 q]),(628,.W QC z),(629,.W Qf j)])))):=
 wP_ 50 func260 Z<|N 4 Z<|kA_ λC=>g2_ [.o (.rows ((List.replicate (z.Vars.length:Int).toNat (0:Int)).map Qb)),.S 9 (.own 9 (List.replicate (z.Vars.length:Int).toNat (0:Int)).length),4] Z ⟨C,Qri Z⟩ (by simp)<|F 0 [0,1,2] [617,619,620,621,622,623,624,625,626,628,629] (λst=>([(4,.P 9 st.1)],[(9,.R 1 Qb st.1),(618,.R 4 QE st.2),(627,.var [.P 618 st.2])])) [] [617,619,620,621,622,623,624,625,626,628,629] (λq=>(.ret,([],[(618,.R 4 QE q),(627,.var [.P 618 q])]))) [] [617,620,621,622,623,625,626,628,629] (λq=>(.ret,([],[(618,.R 4 QE q),(619,.lp lpl (WZ lpf) (OS (.L 620) (.L 621) (.L 622) (.L 623) (.L 624) (.L 625) (.L 626) (.L 627)) 2),(624,.var [.P 618 q]),(627,.var [.P 618 q])]))) Z (λ⟨a7,b3⟩=>B λO a0=>G [6,.o (.co true [.o (a7.map Qb)] 1 (O.map Qb) O.length)] Z ⟨(QlQ Z),⟨(XV _ a0),Qw,.inr (QrD _)⟩⟩<|zF_ 0 12 [12] [] Z<|s2_ (λe h=>K [.x (λσ=>(σ.after [617,618] [(617,.R 4 QE f),(618,.R 4 QE e),(619,.lp lpl (WZ lpf) (OS (.L 620) (.L 621) (.L 622) (.L 623) (.L 624) (.L 625) (.L 626) (.L 627)) 2),(620,.W Qf l),(621,.W GJ m),(622,.W Qb p),(623,.W Qb s),(624,.var [.P 618 e]),(625,.W JU t),(626,.W JU u),(627,.var [.P 618 e])]).put 13 (.b false)),7] Z (λhC=>(a1_ (Qc.yieldV (b:=619) (M:=[(619,619),(620,620),(621,621),(622,622),(623,623),(624,624),(617,617),(625,625),(626,626),(627,627),(618,618)]) (N:=[(617,617),(618,618),(619,619),(620,620),(621,621),(622,622),(623,623),(624,624),(625,625),(626,626),(627,627)]) (dead:=[617,618]) (ms:=(List.replicate 109 .d)) (outs:=[(617,.R 4 QE f),(618,.R 4 QE e),(619,.lp lpl (WZ lpf) (OS (.L 620) (.L 621) (.L 622) (.L 623) (.L 624) (.L 625) (.L 626) (.L 627)) 2),(620,.W Qf l),(621,.W GJ m),(622,.W Qb p),(623,.W Qb s),(624,.var [.P 618 e]),(625,.W JU t),(626,.W JU u),(627,.var [.P 618 e])]) (r:=.b false) Z Z Z Z Z Z Z (QJ hC.n Z) hC.g Z Z (Mi _ _ _ _ _ _ _ _ _ _ _ h))))<|L 0 Z) λk h=>K [.x (λσ=>(σ.after [617,618] [(617,.R 4 QE f),(618,.R 4 QE k),(619,.lp lpl (WZ lpf) (OS (.L 620) (.L 621) (.L 622) (.L 623) (.L 624) (.L 625) (.L 626) (.L 627)) 0),(620,.W Qf l),(621,.W GJ m),(622,.W Qb p),(623,.W Qb s),(624,.var [.P 617 f]),(625,.W JU t),(626,.W JU u),(627,.var [.P 618 k])]).put 13 (.b true)),16] Z (λhC=>(a1_ (Qc.yieldV (b:=619) (M:=[(619,619),(620,620),(621,621),(622,622),(623,623),(624,624),(617,617),(625,625),(626,626),(627,627),(618,618)]) (N:=[(617,617),(618,618),(619,619),(620,620),(621,621),(622,622),(623,623),(624,624),(625,625),(626,626),(627,627)]) (dead:=[617,618]) (ms:=(List.replicate 109 .d)) (outs:=[(617,.R 4 QE f),(618,.R 4 QE k),(619,.lp lpl (WZ lpf) (OS (.L 620) (.L 621) (.L 622) (.L 623) (.L 624) (.L 625) (.L 626) (.L 627)) 0),(620,.W Qf l),(621,.W GJ m),(622,.W Qb p),(623,.W Qb s),(624,.var [.P 617 f]),(625,.W JU t),(626,.W JU u),(627,.var [.P 618 k])]) (r:=.b true) Z Z Z Z Z Z Z (QJ hC.n Z) hC.g Z Z (Mi _ _ _ _ _ _ _ _ _ _ _ h))))<|lA_ 0 [0,1,2] [617,618,619,620,621,622,623,624,625,626,627,628,629] (λst=>([(4,.P 9 st.2),(5,.I st.1)],[(9,.R 1 Qb st.2)])) [0,1,2] [617,618,619,620,621,622,623,624,625,626,627,628,629] (λq=>(.exit 2,([(4,.P 9 q.2),(5,.I q.1)],[(9,.R 1 Qb q.2)]))) Z (λ⟨at_25,a1⟩=>mV_ 2 [0,1,2,4,5] [9,617,618,619,620,621,622,623,624,625,626,627,628,629] (λa2=>([(36,.b a2)],[])) Z (jF_ (λi=>B λa8 v=>B λa9 a3=>B λb0 a4=>D 0 Z [.N,.N,.E (.b true),.N,.N,.N,.B (.row (Qb a8)),.N,.N,.N,.N,.N,.N,.B (.row (Yz a9)),.N,.N,.B (.C2 (.I b0)),.N,.N] [] [] [0,1,2,4,5,36] [9,617,618,619,620,621,622,623,624,625,626,627,628,629] Z Z ⟨⟨⟨⟨(tc_ i),(YZ v Z)⟩,(Xz (Jd v).2)⟩,(Xw a3)⟩,(Ho _ a4)⟩ Z<|M 0 Z) λi=>D 0 Z (dz_ [(2,.E (.b false)),(15,.N)]) [] [] [0,1,2,4,5,36] [9,617,618,619,620,621,622,623,624,625,626,627,628,629] Z Z (tc_ i) Z<|M 0 Z) λa2=>I 1 Z (B λb1 w=>g3_ [8,.st (Qb b1) ((a1.set at_25.toNat 0).map Qb),8,.S 4 (.own 9 (a1.set at_25.toNat 0).length)] Z (YZ w Z) ⟨(Xz (Jd w).2),EI Z⟩ (congrArg (λn=>V.own 9 n) (by simp))<|R 0 Z)<|X 2 Z) λ⟨at_29,a5⟩=>I 9 Z (L 3 Z)<|vA_ 6 Qb Z λa6=>B λb2 y=>g3_ [2,.st (Qb b2) ((a5.set at_29.toNat (Qm (a6+1))).map Qb),2,.S 4 (.own 9 (a5.set at_29.toNat (Qm (a6+1))).length)] Z (YZ y Z) ⟨(Xz (Jd y).2),EI Z⟩ (congrArg (λn=>V.own 9 n) (by simp))<|R 0 Z) (λb4=>E 1 Z) (λb5=>E 1 Z)
def QbY (a:(L_ Qo)):O_ (L_ Qo):=Q a
def QbZ (a:(L_ Qo)):O_ (L_ Qo):=Q a
def Qf1:O_ (L_ Qo):=
 bif ((j<0)||(((b.Tasks.length:Int)<=j)||(e0<1)))then
 Q ([]:L_ Qo)
 else
 j_ (idx b.Tasks j) λc=>
 j_ (YT c.Join (c.Ins.length:Int)) λf=>
 j_ (YT c.Split (c.Outs.length:Int)) λg=>
 j_ (QbX b c) λd=>
 j_ (Zb b h j e0 ([]:L_ Qo) f g ([]:L_ Qo) d.2 d.1) (Sum.elim (λq=>QbY q) (λq=>QbZ q))
def QkA (t x c e){r}(h:Qf1 t x c e=Q r):QP prog 103 [.G Qf t,.M 1 Ql x,.I c,.I e] [] (Gives (.M 4 QE r) []):=by
 refine QP.walkR 109 func103 Z ntmps103 Z λC p hR=>?_;exact QcM p h<|T 11 [4,5,6,7,8] [4,5,6,7,8] ([(33,.b ((c<0)||(((t.Tasks.length:Int)<=c)||(e<1))))],[]) Z (H 4 Z (λj=>Y 11 33 Z (YW j Z)) λj=>N 3 Z<|H 3 Z (λq=>Y 4 33 Z (Xe j (YW q Z))) λq=>Y 4 33 Z (Xe j (Xe q Z)))<|I 1 Z (g2_ [3,.O 8 (.var [.Y]),4,.denilO 8 [Q 4],.O 8 (.var (QqD ([]:L_ Qo))),.K [8] [8]] Z Z Z<|(λp h=>by
   cases h;refine AK.done ?_;exact ex_ [_] (an_ (an_ (ex_ _ (ex_ _ (an_ Z (an_ Z (Or.inr (an_ (QA.ag Z) Z)))))) U) (gives U))))<|J 7 Z λu=>B λk v=>B λl w=>D 6 Z [.N,.N,.N,.N,.B (.ln u.Ins.length),.B (.cd false [.d,.d] 1 (k.map XA) k.length),.N,.N,.N,.N,.B (.ln u.Outs.length),.B (.cd false [.d,.d] 1 (l.map XA) l.length),.N,.N,.m .s,.m .s] [] [] [4,5,6,7,8,9,10,11] [4,5,6,7,8,9,10,11] Z Z (a4_ Qw ⟨(NH _ v),Qw⟩ Qw ⟨(NH _ w),Qw⟩) Z<|zA_ 11 .fn [] [(53,2),(611,3)] [] Qf0 Z λo=>gT_ [3,.adoptO 8 0 608 4,.adoptO 12 0 609 4] Z<|s2_ (λf g=>(λp h=>by
   replace h:QbY f=Q r:=h;refine AK.rangeF 615 [4,5,6,7,8,10,11,12] [(619,615),(620,4),(621,5),(622,6),(623,7),(624,8),(617,608),(625,10),(626,11),(627,12),(618,609),(628,611),(629,53)] [(608,617),(609,618),(615,619),(4,620),(5,621),(6,622),(7,623),(8,624),(10,625),(11,626),(12,627),(611,628),(53,629)] [608,609] [.d,.d,.d] WZ p hR (λ_=>rfl) rfl rfl rfl rfl λlpl lpf=>?_;refine ex_ [(617,.arr 4 (([]:L_ Qo).map QE)),(618,.R 4 QE f),(619,.lp lpl (WZ lpf) (OS (.L 620) (.L 621) (.L 622) (.L 623) (.L 624) (.L 625) (.L 626) (.L 627)) 0),(620,.W Qf t),(621,.W GJ x),(622,.W Qb c),(623,.W Qb e),(624,.var [.own 617 ([]:L_ Qo).length]),(625,.W JU k),(626,.W JU l),(627,.var [.P 618 f]),(628,.W QC o.2),(629,.W Qf o.1)] (ex_ (.tup []) (ex_ _ (ex_ _ (ex_ (OS (.L 4) (.L 5) (.L 6) (.L 7) (.L 8) (.L 10) (.L 11) (.L 12)) (ex_ 0 (an_ rfl ?_))))));refine an_ (RA _ g) (an_ rfl (an_ (bne_iff_ne.1 (show(0 != 1)=true from rfl)) ?_));refine QuO Z ?_;refine Yq p [6,.O 8 (.var [.P 609 f]),3,.frz 609 (f.map QE) [] [8],.K [8] [8]] rfl (a2_ rfl (a1_ ⟨(Wb Qw),U⟩)) ?_;cases h;refine AK.done ?_;exact ex_ [_] (an_ (an_ (ex_ _ (ex_ _ (an_ Z (an_ Z (Or.inr (an_ (QA.ag Z) Z)))))) U) (gives U)))) λi g=>(λp h=>by
   replace h:QbZ i=Q r:=h;refine AK.rangeF 615 [4,5,6,7,8,10,11,12] [(619,615),(620,4),(621,5),(622,6),(623,7),(624,8),(617,608),(625,10),(626,11),(627,12),(618,609),(628,611),(629,53)] [(608,617),(609,618),(615,619),(4,620),(5,621),(6,622),(7,623),(8,624),(10,625),(11,626),(12,627),(611,628),(53,629)] [608,609] [.d,.d,.d] WZ p hR (λ_=>rfl) rfl rfl rfl rfl λlpl lpf=>?_;refine ex_ [(617,.arr 4 (([]:L_ Qo).map QE)),(618,.R 4 QE i),(619,.lp lpl (WZ lpf) (OS (.L 620) (.L 621) (.L 622) (.L 623) (.L 624) (.L 625) (.L 626) (.L 627)) 2),(620,.W Qf t),(621,.W GJ x),(622,.W Qb c),(623,.W Qb e),(624,.var [.P 618 i]),(625,.W JU k),(626,.W JU l),(627,.var [.P 618 i]),(628,.W QC o.2),(629,.W Qf o.1)] (ex_ (.tup []) (ex_ _ (ex_ _ (ex_ (OS (.L 4) (.L 5) (.L 6) (.L 7) (.L 8) (.L 10) (.L 11) (.L 12)) (ex_ 2 (an_ rfl ?_))))));refine an_ (RA _ g) (an_ rfl (an_ (bne_iff_ne.1 (show(2 != 1)=true from rfl)) ?_));refine Qwp Z ?_;refine Yq p [3,.frz 609 (i.map QE) [] [8],.K [8] [8]] rfl (a1_ (a1_ ⟨(Wb Qw),U⟩)) ?_;cases h;refine AK.done ?_;exact ex_ [_] (an_ (an_ (ex_ _ (ex_ _ (an_ Z (an_ Z (Or.inr (an_ (QA.ag Z) Z)))))) U) (gives U)))
def QkB:O_ (L_ Qo):=j_ (Qt (λst=>bif (st.1<(b.Tasks.length:Int))then j_ (Qf1 b h st.1 (Qm (j-(st.2.length:Int)))) λg=>j_ (chk (st.2.length+g.length<=4294967296)) λa=>Q (y_ ((Qm (st.1+1)),(st.2++g)))else Q (i_ st.2)) (0,([]:L_ Qo))) (λq=>Q q)
def QnP {f g a}:CT 55 [.G Qf f,.M 1 Ql g,.I a] [] (QkB f g a) (λr=>(.P 600 r)) (λr=>[(600,.R 4 QE r)]):=
 W 27 func55 Z<|N 16 Z<|aD_ 4 7 15 4 Z<|lA_ 0 [1,2,3,11] [3] (λst=>([(7,.P 15 st.2),(12,.I st.1)],[(15,.R 4 QE st.2)])) [] [] (λq=>(.exit 0,([(7,.P 15 q)],[(15,.R 4 QE q)]))) Z (λ⟨i,j⟩=>I 6 Z (B λe b=>G [19,.o (.C4 (.M 4 QE e))] Z (QkA _ _ _ _ b)<|pB_ 0 QE Z<|R 8 Z)<|X 2 Z) λh=>gT_ [9,.ren 15 600] Z<|E 0 Z
def Hs (c:(L_ Qo))(d:QBg):O_ ((Bool×Int×(L_ Qo)×QBg)⊕(Bool×(L_ Qo))):=Q (y_ (r,(Qm (a+1)),c,d))
def Ph (d:(L_ Qo))(e:Int)(a:Bool)(b:QBg):O_ ((Bool×Int×(L_ Qo)×QBg)⊕(Bool×(L_ Qo))):=bif (((Xa b t.Task).getD 0)==1)then j_ (chk (d.length+([t]:L_ Qo).length<=4294967296)) λ_=>Hs e a (d++([t]:L_ Qo)) b else bif (((Xa b t.Task).getD 0)==2)then Hs e false d b else Hs e a d b
def QeT:O_ ((L_ Qo)×Bool):=j_ (QkB b h e0) λe=>j_ (Qt (λst=>bif (st.2.1<(e.length:Int))then j_ (idx e st.2.1) λk=>bif (!(Xa st.2.2.2 k.Task).isSome)then j_ (KZ b h k j) λl=>Ph k st.2.2.1 st.2.1 st.1 (Jl Ey st.2.2.2 k.Task l)else Ph k st.2.2.1 st.2.1 st.1 st.2.2.2 else Q (i_ (st.1,st.2.2.1))) (true,0,([]:L_ Qo),([]:QBg))) (λq=>Q (q.2,q.1))
def Qix {n1 m2 h j}:CT 29 [.G Qf n1,.M 1 Ql m2,.I h,.I j] [] (QeT n1 m2 h j) (λr=>(.tup [.M 4 QE r.1,.b r.2])) no_:=
 W 59 func29 Z<|oC_ 29 [.d,.d,.d] QnP Z λx7=>aD_ 5 10 50 4 Z<|lA_ 0 [1,2,4,12,21,22] [4,21] (λst=>([(10,.P 50 st.2.2.1),(11,.b st.1),(23,.I st.2.1)],[(17,.map (QM V.I V.I st.2.2.2)),(50,.R 4 QE st.2.2.1)])) [] [] (λq=>(.exit 0,([(10,.P 50 q.2),(11,.b q.1)],[(50,.R 4 QE q.2)]))) Z (λ⟨p,C,a2,s⟩=>I 6 Z (Qvc 2 [1,2,4,12,21,22,23] [4,21] (λ(g:Bool) (t:(L_ Qo)) (w:QBg)=>([(10,.P 50 t),(11,.b g)],[(17,.map (QM V.I V.I w)),(50,.R 4 QE t)])) (λg t w=>Hs C g t w) Z (vA_ 4 QE Z λi=>mE_ 4 [1,2,4,10,11,12,14,21,22,23] [4,14,21,50] (λu:QBg=>([],[(17,.map (QM V.I V.I u))])) (λu=>Ph i a2 C p u) Z (K [5,.o (.any (.tup [.I ((Xa s i.Task).getD 0),.b (Xa s i.Task).isSome]) none),13] Z (λhC=>(a1_ (λσ x O _=>Qc.lookupOk (e:=V.I) (f:=V.I) (l:=s) (k:=i.Task) (z:=0) Z Z (QJ hC.n Z) (x _ _ Z) (O _ _ Z) (x _ _ Z) QoK Ac Qed Z Z)))<|I 0 Z (B λy a0=>D 0 Z [.N,.N,.N,.E (.G Qf n1),.N,.E (.G QE i),.N,.B (.C4 (.I y)),.m (.any ⟨[],[(17,.map (QM V.I V.I (Jl Ey s i.Task y)))],none⟩)] [] [] [1,2,4,10,11,12,14,21,22,23] [4,14,17,21,50] Z Z (a4_ Z Z (VZ _ a0) (λσ x O=>Qc.mapUpdate (e:=V.I) (f:=V.I) (l:=s) (k:=i.Task) (v:=y) Ey Z Z (x _ _ Z) (O _ _ Z) (x _ _ Z) (x _ _ Z) QoK Ac Z)) Z<|P 0 Z Z)<|P 1 Z Z) λu=>K [5,.o (.any (.I ((Xa u i.Task).getD 0)) none),9] Z (λhC=>(a1_ (λσ x O _=>Qc.lookup (z:=0) Z Z (QJ hC.n Z) (x _ _ Z) (O _ _ Z) (x _ _ Z) QoK Ac Qed Z)))<|I 0 Z (pA_ 3 4 QE Z<|QoM 4 Z Z)<|I 6 Z (QoM 5 Z Z)<|QoM 3 Z Z) λg t w=>R 4 Z)<|X 2 Z) λ⟨a1,a3⟩=>zF_ 11 50 [8] [] Z<|E 0 Z
def Qb0:O_ (L_ Qo):=j_ (QeT b f.M 64 o) λd=>Q d.1
def Qf2 {b c a}:CT 16 [.G Qf b,.G Xv c,.I a] [] (Qb0 b c a) (λr=>(.M 4 QE r)) no_:=
 W 18 func16 Z<|A 13 Qix Z λd=>E 14 Z
def VJ  : O_ Bool:=
 j_ (QhZ) λa=>
 j_ (Mb a) λb=>
 j_ (FE a b ([(Xh.mk 1 0 (Qo.mk 0 ([]:LI_) ([0]:L_ Int) ([0]:L_ Int)) 2),(Xh.mk 2 1 (Qo.mk 0 ([]:LI_) ([]:LI_) ([]:LI_)) 0),(Xh.mk 2 1 (Qo.mk 0 ([]:LI_) ([]:LI_) ([]:LI_)) 0),(Xh.mk 2 1 (Qo.mk 0 ([]:LI_) ([]:LI_) ([]:LI_)) 0),(Xh.mk 2 7 (Qo.mk 0 ([]:LI_) ([]:LI_) ([]:LI_)) 0),(Xh.mk 99 0 (Qo.mk 0 ([]:LI_) ([]:LI_) ([]:LI_)) 0)]:L_ Xh)) λd=>
 j_ (FE a b ([(Xh.mk 1 0 (Qo.mk 0 ([]:LI_) ([0]:L_ Int) ([0]:L_ Int)) 1),(Xh.mk 6 0 (Qo.mk 0 ([]:LI_) ([]:LI_) ([]:LI_)) 0),(Xh.mk 6 0 (Qo.mk 0 ([]:LI_) ([]:LI_) ([]:LI_)) 0),(Xh.mk 3 1 (Qo.mk 0 ([]:LI_) ([]:LI_) ([]:LI_)) 0)]:L_ Xh)) λe=>
 bif (((d.1.length:Int) != 6)||((e.1.length:Int) != 4))then
 Q false
 else
 j_ (j_ (idx d.1 0) λs=>bif (s.Id==1)then j_ (idx d.1 1) λt=>bif ((t.Closed.length:Int)==0)then j_ (idx d.1 2) λu=>j_ (Wx u.Closed ([1]:L_ Int)) λv=>bif v then j_ (idx d.1 3) λw=>bif (w.Err==12)then j_ (idx d.1 4) λx=>bif (x.Err==3)then j_ (idx d.1 5) λy=>bif (y.Err==1)then j_ (VI a d.2) λz=>bif z then j_ (VI a b) λi4=>bif (!i4)then j_ (idx e.1 2) λi5=>j_ (Wx i5.Closed ([1]:L_ Int)) λi6=>bif i6 then j_ (idx e.1 3) λi7=>bif (i7.Err==12)then j_ (Qh1 e.2.M b.M) λj4=>bif j4 then bif (e.2.Now==2)then j_ (Qb0 a b 9) λj5=>Q ((j5.length:Int)==1)else Q false else Q false else Q false else Q false else Q false else Q false else Q false else Q false else Q false else Q false else Q false else Q false) (λc=>Q c)
def QiA : CT 4 [] [] (VJ ) V.b no_:=
 W 135 func4 Z<|A 7 Ql0 Z λu=>A 7 QbN Z λw=>gA_ [6,.v (.bd []) [] (.sl 1 (([0]:L_ Int).map Qb)),.v (.bd []) [] (.sl 1 (([0]:L_ Int).map Qb)),.v .no [none,Q 1,none,none] (.agg (QE (Qo.mk 0 ([]:LI_) ([0]:L_ Int) ([0]:L_ Int)))),10,.v .no [none,none,none,Q 1,Q 1,Q 1,none] (.agg (YF (Xh.mk 2 1 (Qo.mk 0 ([]:LI_) ([]:LI_) ([]:LI_)) 0))),.v .no [none,none,none,Q 1,Q 1,Q 1,none] (.agg (YF (Xh.mk 2 1 (Qo.mk 0 ([]:LI_) ([]:LI_) ([]:LI_)) 0))),.v .no [none,none,none,Q 1,Q 1,Q 1,none] (.agg (YF (Xh.mk 2 1 (Qo.mk 0 ([]:LI_) ([]:LI_) ([]:LI_)) 0))),.v .no [none,none,none,Q 1,Q 1,Q 1,none] (.agg (YF (Xh.mk 2 7 (Qo.mk 0 ([]:LI_) ([]:LI_) ([]:LI_)) 0))),.v .no [none,none,none,Q 1,Q 1,Q 1,none] (.agg (YF (Xh.mk 99 0 (Qo.mk 0 ([]:LI_) ([]:LI_) ([]:LI_)) 0))),.v (.bd []) [] (.sl 7 (([(Xh.mk 1 0 (Qo.mk 0 ([]:LI_) ([0]:L_ Int) ([0]:L_ Int)) 2),(Xh.mk 2 1 (Qo.mk 0 ([]:LI_) ([]:LI_) ([]:LI_)) 0),(Xh.mk 2 1 (Qo.mk 0 ([]:LI_) ([]:LI_) ([]:LI_)) 0),(Xh.mk 2 1 (Qo.mk 0 ([]:LI_) ([]:LI_) ([]:LI_)) 0),(Xh.mk 2 7 (Qo.mk 0 ([]:LI_) ([]:LI_) ([]:LI_)) 0),(Xh.mk 99 0 (Qo.mk 0 ([]:LI_) ([]:LI_) ([]:LI_)) 0)]:L_ Xh).map YF))] Z (a9_ Z Z Z Z Z Z Z Z Z)<|A 0 Ry Z λd=>gA_ [14,.v .no [none,none,none,Q 1,Q 1,Q 1,none] (.agg (YF (Xh.mk 6 0 (Qo.mk 0 ([]:LI_) ([]:LI_) ([]:LI_)) 0))),.v .no [none,none,none,Q 1,Q 1,Q 1,none] (.agg (YF (Xh.mk 6 0 (Qo.mk 0 ([]:LI_) ([]:LI_) ([]:LI_)) 0))),.v .no [none,none,none,Q 1,Q 1,Q 1,none] (.agg (YF (Xh.mk 3 1 (Qo.mk 0 ([]:LI_) ([]:LI_) ([]:LI_)) 0))),.v (.bd []) [] (.sl 7 (([(Xh.mk 1 0 (Qo.mk 0 ([]:LI_) ([0]:L_ Int) ([0]:L_ Int)) 1),(Xh.mk 6 0 (Qo.mk 0 ([]:LI_) ([]:LI_) ([]:LI_)) 0),(Xh.mk 6 0 (Qo.mk 0 ([]:LI_) ([]:LI_) ([]:LI_)) 0),(Xh.mk 3 1 (Qo.mk 0 ([]:LI_) ([]:LI_) ([]:LI_)) 0)]:L_ Xh).map YF))] Z (a4_ Z Z Z Z)<|A 0 Ry Z λe=>T 10 [1,2,4,5,6,7] [1,2,4,6] ([(47,.b (((d.1.length:Int) != 6)||((e.1.length:Int) != 4)))],[]) Z (N 2 Z<|H 2 Z (λa=>Y 5 47 Z (YW a Z)) λa=>N 1 Z<|Y 3 47 Z (Xe a Z))<|I 1 Z (E 7 Z)<|mV_ 3 [] [] (λc=>([(0,.b c)],[])) Z (J 2 Z λf=>I 4 Z (J 1 Z λg=>N 2 Z<|I 3 Z (J 1 Z λh=>G [2,.v (.bd []) [] (.sl 1 (([1]:L_ Int).map Qb))] Z Z<|A 0 Gy Z λi=>I 2 Z (J 1 Z λj=>I 5 Z (J 1 Z λk=>I 5 Z (J 1 Z λl=>I 5 Z (A 2 QaB Z λm=>I 2 Z (A 2 QaB Z λo=>I 3 Z (J 1 Z λp=>G [2,.v (.bd []) [] (.sl 1 (([1]:L_ Int).map Qb))] Z Z<|A 0 Gy Z λq=>I 2 Z (J 1 Z λr=>I 5 Z (A 4 Qme Z λs=>I 2 Z (I 5 Z (A 2 Qf2 Z λt=>N 0 Z<|M 4 Z)<|M 8 Z)<|M 13 Z)<|M 20 Z)<|M 27 Z)<|M 35 Z)<|M 41 Z)<|M 46 Z)<|M 53 Z)<|M 60 Z)<|M 67 Z)<|M 75 Z)<|M 83 Z) λc=>E 2 Z
def QcY:O_ Bool:=bif (80<(m.length:Int))then Q false else j_ (Qt (λst=>bif (st.2<(m.length:Int))then j_ (idx m st.2) λg=>j_ (idx m st.2) λh=>j_ (idx m st.2) λi=>Q (y_ ((Qm ((Qm ((Qm (st.1+(g.Mode.Vars.length:Int)))+(h.Mode.Ins.length:Int)))+(i.Mode.Outs.length:Int))),(Qm (st.2+1))))else Q (i_ st.1)) (0,0)) (λq=>Q (decide (q<=1000)))
def Qmh {i}:CT 18 [.M 11 Qp i] [] (QcY i) V.b no_:=
 W 41 func18 Z<|N 9 Z<|I 3 Z (E 7 Z)<|lA_ 14 [0] [] (λst=>([(3,.I st.1),(4,.I st.2)],[])) [] [] (λq=>(.exit 0,([(3,.I q)],[]))) Z (λ⟨j,k⟩=>N 5 Z<|I 3 Z (B λc d=>B λe f=>B λg h=>D 4 Z (dz_ [(3,.B (.row (Qp c))),(3,.B (.ln c.Mode.Vars.length)),(3,.B (.row (Qp e))),(3,.B (.ln e.Mode.Ins.length)),(3,.B (.row (Qp g))),(3,.B (.ln g.Mode.Outs.length)),(1,.m .s)]) [] [] [0,3,4] [] Z Z (a6_ (Xw d) Qw (Xw f) Qw (Xw h) Qw) Z<|R 7 Z)<|X 2 Z) λl=>E 10 Z
def Te (h:Qn->Int->O_ Int)(a:Int)(c:Int)(d:Int):O_ ((Int×Int)⊕(Unit⊕Int)):=bif (d<(c0.Kids.length:Int))then j_ (idx c0.Kids d) λe=>j_ (h e (Qm (a-1))) λb=>bif (b==0)then Q (i_ (y_ ()))else bif ((Qm ((Qm (c-500))+b))<=1)then Q (i_ (y_ ()))else Q (y_ ((Qm ((Qm (c-500))+b)),(Qm (d+1))))else Q (i_ (i_ c))
def VK (h:Qn->Int->O_ Int)(b:Qn)(a:Int):O_ Int:=
 bif ((a<=0)||(9<(b.Kids.length:Int)))then
 Q 0
 else
 j_ (Qt (λst=>Te b h a st.1 st.2) (500,0)) (Sum.elim (λq=>Q 0) (λq=>Q (Qm (q-1))))
def UG : Nat->Qn->Int->O_ Int
 | 0,_,_=>none
 | n+1,b,a=>VK (UG n) b a
def QcZ:O_ Int:=UG (SizeOf.sizeOf c0) c0 j
def QiB {O:Qn->Int->O_ Int}{hrec_law04_few:∀(f:Qn) (a:Int) {r:Int},O f a=Q r->QP prog 108 [.G QS f,.I a] [] (Gives (.I r) [])}{f:Qn}{a:Int}:CT 108 [.G QS f,.I a] [] (VK O f a) V.I no_:=
 W 41 func108 Z<|T 8 [1,2] [2] ([(15,.b ((a<=0)||(9<(f.Kids.length:Int))))],[]) Z (H 4 Z (λe=>Y 6 15 Z (YW e Z)) λe=>nR_ 2 Ab Z<|Y 3 15 Z (Xe e Z))<|I 1 Z (E 7 Z)<|F 14 [1,2] [2] (λst=>([(5,.I st.1),(6,.I st.2)],[])) [] [] (λq=>(.ret,([(4,.I 0)],[]))) [] [] (λq=>(.exit 0,([(5,.I q)],[]))) Z (λ⟨l,m⟩=>nR_ 6 Ab Z<|I 3 Z (xR_ 9 JL Z λj i=>B λh g=>G [3,.o (.C2 (.I h)),10] Z (hrec_law04_few _ _ g)<|I 0 Z (L 9 Z)<|I 17 Z (L 8 Z)<|R 8 Z)<|X 2 Z) (λ_=>E 2 Z) (λk=>E 10 Z)
def QaK : ∀(fuel:Nat) (b:Qn) (a:Int) {r:Int},UG fuel b a=Q r->QP prog 108 [.G QS b,.I a] [] (Gives (.I r) [])
 | 0,_,_,_,h=>by cases h
 | n+1,b,a,_,h=>@QiB (UG n) (λ_ _ _ h=>QaK n _ _ h) b a _ h
def Qmk (b a){r}(h:QcZ b a=Q r):QP prog 108 [.G QS b,.I a] [] (Gives (.I r) []):=QaK _ b a h
def ID:O_ Bool:=j_ (QcZ c0 60) λb=>Q (decide (0<b))
def Tf {e}:CT 59 [.G QS e] [] (ID e) V.b no_:=
 W 6 func59 Z<|B λf a=>G [9,.o (.C2 (.I f)),5] Z (Qmk _ _ a)<|E 0 Z
def Qdo (a:QR):O_ Bool:=j_ (idx b.Colours g) λc=>bif (100<(c.Name.size:Int))then Q true else Q (decide (400<(Qm (j+(a.Names.length:Int)))))
def Tg:O_ (Int⊕(Unit⊕Unit)):=j_ (idx b.Colours g) λa=>bif (j<(a.Names.length:Int))then j_ (idx b.Colours g) λc=>j_ (idx c.Names j) λd=>bif (100<(d.size:Int))then Q (i_ (y_ ()))else Q (y_ (Qm (j+1)))else Q (i_ (i_ ()))
def Qdp (a:QR)(c:Bool):O_ ((Int×Int)⊕(Unit⊕Int)):=bif c then Q (i_ (y_ ()))else j_ (Qt (λst=>Tg b g st) 0) (Sum.elim (λq=>Q (i_ (y_ ()))) (λq=>Q (y_ ((Qm (j+(a.Names.length:Int))),(Qm (g+1))))))
def Th:O_ ((Int×Int)⊕(Unit⊕Int)):=bif (j<(b.Colours.length:Int))then j_ (idx b.Colours j) λa=>j_ (Qdo b j g a) (λe=>Qdp b j g a e)else Q (i_ (i_ g))
def Ti:O_ ((Int×Int)⊕(Unit⊕Int)):=bif (j<(b.Places.length:Int))then j_ (idx b.Places j) λd=>j_ (idx b.Places j) λe=>bif (100<(e.Name.size:Int))then Q (i_ (y_ ()))else Q (y_ ((Qm (g+(d.First.length:Int))),(Qm (j+1))))else Q (i_ (i_ g))
def RC:O_ (Int⊕(Unit⊕Unit)):=bif (p<(l.Vars.length:Int))then j_ (idx l.Vars p) λc=>bif (100<(c.Name.size:Int))then Q (i_ (y_ ()))else Q (y_ (Qm (p+1)))else Q (i_ (i_ ()))
def RD:O_ ((Bool×Int)⊕Bool):=bif (s<(l.Ins.length:Int))then j_ (idx l.Ins s) λd=>j_ (ID d.Expr) λe=>Q (y_ ((d0&&e),(Qm (s+1))))else Q (i_ d0)
def RF:O_ ((Bool×Int)⊕Bool):=bif (s<(l.Outs.length:Int))then j_ (idx l.Outs s) λd=>j_ (ID d.Expr) λe=>Q (y_ ((d0&&e),(Qm (s+1))))else Q (i_ d0)
def RG:O_ ((Int×Int)⊕(Unit⊕Unit)):=bif (!d0)then Q (i_ (y_ ()))else Q (y_ ((Qm ((Qm ((Qm ((Qm (a+(l.Vars.length:Int)))+(l.Ins.length:Int)))+(l.Outs.length:Int)))+(l.Cancel.length:Int))),(Qm (p+1))))
def RH:O_ ((Int×Int)⊕(Unit⊕Unit)):=j_ (Qt (λst=>RF l st.1 st.2) (d0,0)) (λq=>RG p l k0 q)
def RI:O_ ((Int×Int)⊕(Unit⊕Unit)):=j_ (ID l.Guard) λd=>j_ (Qt (λst=>RD l st.1 st.2) (d,0)) (λq=>RH l p k0 q)
def RJ:O_ ((Int×Int)⊕(Unit⊕Unit)):=
 bif (j<(b.Tasks.length:Int))then
 j_ (idx b.Tasks j) λa=>
 bif ((200<(Qm ((Qm ((Qm ((Qm (g+(a.Vars.length:Int)))+(a.Ins.length:Int)))+(a.Outs.length:Int)))+(a.Cancel.length:Int))))||(100<(a.Name.size:Int)))then
 Q (i_ (y_ ()))
 else
 j_ (Qt (λst=>RC a st) 0) (Sum.elim (λq=>Q (i_ (y_ ()))) (λq=>RI a g j))
 else
 Q (i_ (i_ ()))
def RK:O_ Bool:=j_ (Qt (λst=>RJ b st.1 st.2) (0,0)) (Sum.elim (λq=>Q false) (λq=>Q (decide (g<=400))))
def RL:O_ Bool:=j_ (Qt (λst=>Ti b st.1 st.2) (g,0)) (Sum.elim (λq=>Q false) (λq=>RK b q))
def TW:O_ Bool:=
 bif ((40<(b.Colours.length:Int))||((70<(b.Places.length:Int))||(70<(b.Tasks.length:Int))))then
 Q false
 else
 j_ (Qt (λst=>Th b st.1 st.2) (0,0)) (Sum.elim (λq=>Q false) (λq=>RL b q))
def Qmp {i}:CT 33 [.G Qf i] [] (TW i) V.b no_:=
 W 201 func33 Z<|T 8 [1] [1] ([(31,.b ((40<(i.Colours.length:Int))||((70<(i.Places.length:Int))||(70<(i.Tasks.length:Int)))))],[]) Z (N 3 Z<|H 2 Z (λf=>Y 12 31 Z (YW f Z)) λf=>N 2 Z<|H 3 Z (λh=>Y 6 31 Z (Xe f (YW h Z))) λh=>N 2 Z<|Y 3 31 Z (Xe f (Xe h Z)))<|I 1 Z (E 7 Z)<|F 14 [1] [1] (λst=>([(3,.I st.1),(4,.I st.2)],[])) [] [] (λq=>(.ret,([(2,.b false)],[]))) [1] [1] (λq=>(.exit 0,([(3,.I q)],[]))) Z (λ⟨p,i9⟩=>N 6 Z<|I 3 Z (J 10 Z λv=>N 2 Z<|mV_ 6 [1,3,4] [1] (λj=>([(59,.b j)],[])) Z (J 4 Z λw=>I 5 Z (M 4 Z)<|M 4 Z) λj=>I 1 Z (L 9 Z)<|F 8 [1,3,4] [1] (λst=>([(5,.I st)],[])) [] [] (λq=>(.ret,([(2,.b false)],[]))) [1,3,4] [1] (λq=>(.exit 2,([],[]))) Z (λx=>J 7 Z λy=>N 2 Z<|I 3 Z (J 9 Z λz=>J 3 Z λC=>I 5 Z (L 8 Z)<|R 8 Z)<|X 2 Z) (λ_=>L 3 Z) (λ_=>R 8 Z))<|X 2 Z) (λ_=>E 2 Z) (λk=>F 9 [1] [1] (λst=>([(3,.I st.1),(6,.I st.2)],[])) [] [] (λq=>(.ret,([(2,.b false)],[]))) [1] [1] (λq=>(.exit 4,([(3,.I q)],[]))) Z (λ⟨l,O⟩=>N 6 Z<|I 3 Z (J 10 Z λa0=>N 2 Z<|J 9 Z λa1=>I 6 Z (L 8 Z)<|R 8 Z)<|X 2 Z) (λ_=>E 2 Z) (λm=>F 14 [1,3] [1] (λst=>([(7,.I st.1),(8,.I st.2)],[])) [] [] (λq=>(.ret,([(2,.b false)],[]))) [3] [] (λq=>(.exit 6,([],[]))) Z (λ⟨g,a2⟩=>N 6 Z<|I 3 Z (J 9 Z λa=>N 10 Z<|N 3 Z<|N 3 Z<|N 3 Z<|T 6 [1,3,7,8,9] [1,9] ([(142,.b ((200<(Qm ((Qm ((Qm ((Qm (g+(a.Vars.length:Int)))+(a.Ins.length:Int)))+(a.Outs.length:Int)))+(a.Cancel.length:Int))))||(100<(a.Name.size:Int))))],[]) Z (H 4 Z (λc=>Y 6 142 Z (YW c Z)) λc=>Y 6 142 Z (Xe c Z))<|I 1 Z (L 9 Z)<|F 9 [1,3,7,8,9] [1,9] (λst=>([(10,.I st)],[])) [] [] (λq=>(.ret,([(2,.b false)],[]))) [1,3,7,8,9] [1,9] (λq=>(.exit 8,([],[]))) Z (λa3=>N 6 Z<|I 3 Z (J 9 Z λa4=>I 6 Z (L 8 Z)<|R 8 Z)<|X 2 Z) (λ_=>L 4 Z) (λ_=>A 6 Tf Z λa5=>lA_ 10 [1,3,7,8,9] [1,9] (λst=>([(11,.b st.1),(12,.I st.2)],[])) [1,3,7,8,9] [1,9] (λq=>(.exit 10,([(11,.b q)],[]))) Z (λ⟨n,a6⟩=>N 6 Z<|I 3 Z (J 9 Z λa7=>A 2 Tf Z λr=>T 3 [1,3,7,8,9,12] [1,9] ([(11,.b (n&&r))],[]) Z (H 3 Z (λd=>Y 4 11 Z (XW d Z)) λd=>Y 4 11 Z (Yy d Z))<|R 7 Z)<|X 2 Z) λt=>lA_ 9 [1,3,7,8,9] [1,9] (λst=>([(11,.b st.1),(14,.I st.2)],[])) [1,3,7,8] [1] (λq=>(.exit 12,([(11,.b q)],[]))) Z (λ⟨o,a8⟩=>N 6 Z<|I 3 Z (J 9 Z λa9=>A 2 Tf Z λs=>T 3 [1,3,7,8,9,14] [1,9] ([(11,.b (o&&s))],[]) Z (H 3 Z (λe=>Y 4 11 Z (XW e Z)) λe=>Y 4 11 Z (Yy e Z))<|R 7 Z)<|X 2 Z) λu=>I 8 Z (L 8 Z)<|R 8 Z))<|X 2 Z) (λ_=>E 2 Z) (λ_=>E 10 Z)))
def Tj:O_ ((Int×Int)⊕Int):=bif ((e0<(h.length:Int))&&(e0<100))then j_ (idx h e0) λb=>Q (y_ ((Qm (j+(b.length:Int))),(Qm (e0+1))))else Q (i_ j)
def TX:O_ Bool:=j_ (Qt (λst=>Tj h st.1 st.2) (0,0)) (λq=>Q (((h.length:Int)<=70)&&(q<=300)))
def Qmr {d}:CT 34 [.M 1 Ql d] [] (TX d) V.b no_:=
 W 29 func34 Z<|lA_ 17 [0] [] (λst=>([(3,.I st.1),(4,.I st.2)],[])) [0] [] (λq=>(.exit 0,([(3,.I q)],[]))) Z (λ⟨h,e⟩=>T 2 [0,3,4] [] ([(12,.b ((e<(d.length:Int))&&(e<100)))],[]) Z (N 3 Z<|H 2 Z (λc=>Y 4 12 Z (XW c Z)) λc=>Y 4 12 Z (Yy c Z))<|I 1 Z (J 8 Z λf=>N 1 Z<|R 10 Z)<|X 2 Z) λg=>T 3 [] [] ([(2,.b (((d.length:Int)<=70)&&(g<=300)))],[]) Z (N 2 Z<|H 2 Z (λa=>Y 5 2 Z (XW a Z)) λa=>Y 5 2 Z (Yy a Z))<|E 2 Z
def Ov:O_ Bool:=Q (((b.Places.length:Int)<=64)&&((b.Tasks.length:Int)<=64))
def QiC {c}:CT 61 [.L 619] [(619,.W Qf c)] (Ov c) V.b (λ_=>[(619,.W Qf c)]):=
 W 12 func61 Z<|T 6 [] [619] ([(1,.b (((c.Places.length:Int)<=64)&&((c.Tasks.length:Int)<=64)))],[]) Z (N 3 Z<|H 2 Z (λa=>N 2 Z<|Y 4 1 Z (XW a Z)) λa=>Y 7 1 Z (Yy a Z))<|E 2 Z
def YX (b:(L_ XR))(a:Int):O_ Bool:=Q ((0<=a)&&(a<(b.length:Int)))
def KL {d c}:CT 63 [.M 3 Xk d,.I c] [] (YX d c) V.b no_:=
 W 13 func63 Z<|T 6 [] [] ([(4,.b ((0<=c)&&(c<(d.length:Int))))],[]) Z (H 4 Z (λa=>N 2 Z<|Y 4 4 Z (XW a Z)) λa=>Y 7 4 Z (Yy a Z))<|E 2 Z
def QaL:O_ Bool:=j_ (YX b.Places b.From) λa=>bif a then j_ (YX b.Places b.To) λc=>Q c else Q false
def QaM:O_ Bool:=Q r
def Ow:O_ Bool:=j_ (QaL b) (λa=>QaM a)
def QiD {a}:CT 62 [.L 619] [(619,.W Qf a)] (Ow a) V.b (λ_=>[(619,.W Qf a)]):=
 W 14 func62 Z<|mV_ 6 [] [619] (λc=>([(1,.b c)],[])) Z (A 5 KL Z λd=>I 1 Z (A 4 KL Z λe=>M 3 Z)<|M 8 Z) λc=>E 2 Z
def Ox:O_ Bool:=Q (b.From != b.To)
def QiE {a}:CT 64 [.L 619] [(619,.W Qf a)] (Ox a) V.b (λ_=>[(619,.W Qf a)]):=
 W 7 func64 Z<|E 16 Z
def Oy:O_ Int:=j_ (Ov b) λf=>bif (!f)then Q g else j_ (Ow b) λa=>bif (!a)then Q j else j_ (Ox b) λc=>bif (!c)then Q e0 else Q 0
def QiF {a b c d}:CT 60 [.own 619 3] [(619,.var [.clo (.func 61) [] [.L 620],.I b,.clo (.func 62) [] [.L 620],.I c,.clo (.func 64) [] [.L 620],.I d]),(620,.W Qf a)] (Oy a b c d) V.I (λ_=>[(619,.var [.clo (.func 61) [] [.L 620],.I b,.clo (.func 62) [] [.L 620],.I c,.clo (.func 64) [] [.L 620],.I d]),(620,.W Qf a)]):=
 W 18 func60 Z<|lN_ 14 4 Z<|vI_ 13 619 0 Z<|S 9 .clo [(619,620)] QiC Z λf=>I 3 Z (E 13 Z)<|rd_ 7 Z<|vI_ 13 619 2 Z<|gT_ [1,.kill 4,8] Z<|S 0 .clo [(619,620)] QiD Z λg=>I 3 Z (E 13 Z)<|rd_ 7 Z<|vI_ 13 619 4 Z<|gT_ [1,.kill 4,8] Z<|S 0 .clo [(619,620)] QiE Z λe=>I 3 Z (E 13 Z)<|rd_ 7 Z<|E 18 Z
def MS:O_ Bool:=j_ (Ef h0) λb=>Q b.2
def Qhk {a}:CT 116 [.M 7 XI a] [] (MS a) V.b no_:=
 W 11 func116 Z<|A 8 VT Z λc=>E 14 Z

end Go.Proofs
