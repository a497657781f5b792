/- Walks through the program. -/
import Derived.Test.YtkocdcoeinjdbaaGreatDoorK2V3
import Derived.Test.YtkocdcoeinjdbaaGreatDoorK2V3
import Derived.Test.YtkocdcoeinjdbaaGreatDoorProg
set_option linter.all false
set_option maxRecDepth 100000
set_option maxHeartbeats 4000000
noncomputable section
namespace Go.Proofs
open Go Go.RowKit Go.Vm Go.Proofs.Tryz
structure Xh where
 Name:ByteArray
 Kind:Int
 Lo:Int
 Hi:Int
 Names:(List ByteArray)
 First:Int
 Then:Int
structure XB where
 Name:ByteArray
 Colour:Int
 First:(List (Int×Int))
structure Yz where
 Name:ByteArray
 Colour:Int
structure Qv where
 Kind:Int
 Num:Int
 Kids:(List Qv)
structure Ye where
 Place:Int
 Expr:Qv
structure QS where
 Name:ByteArray
 Vars:(List Yz)
 Guard:Qv
 Join:Int
 Split:Int
 Ins:(List Ye)
 Outs:(List Ye)
 Cancel:(List Int)
 After:Int
 Many:(Int×Int×Int)
structure Ql where
 Colours:(List Xh)
 Places:(List XB)
 Tasks:(List QS)
 From:Int
 To:Int
structure Qk where
 Task:Int
 Vars:(List Int)
 Ins:(List Int)
 Outs:(List Int)
structure Xt where
 Do:Int
 Id:Int
 Mode:Qk
 Num:Int
structure Xp where
 Most:Int
 Enough:Int
 Open:Int
 Done:Int
 Failed:Int
structure Qw where
 Id:Int
 Mode:Qk
 Batch:Xp
 Until:Int
structure QT where
 M:(List (List (Int×Int)))
 Items:(List Qw)
 Next:Int
 Now:Int
structure Qz where
 Err:Int
 Id:Int
 Closed:(List Int)
structure QB where
 net:Ql
 now:QT
 call:Xt
structure YM where
 all:(List Xh)
 sizes:(List Int)
 k:Int
structure Xr where
 net:Ql
 m:(List (List (Int×Int)))
 task:QS
 env:(List Int)
structure Qh where
 id:Int
 at_:Int
 place:Int
structure GM where
 Kind:Int
 At:Int
def Di (x:ByteArray):L_ V:=[.s x]
def Qb (x:Int):L_ V:=[.i .i64 x]
def Qj2 (l:L_ Int):∀r∈l.map Qb,∀v∈r,v.sca=true:=QlK (λ_=>rfl) l
def QeB (x:(L_ ByteArray)):L_ V:=[.sl 1 (x.map Di)]
def QK (x:Xh):L_ V:=[.s x.Name,.i .i64 x.Kind,.i .i64 x.Lo,.i .i64 x.Hi,.sl 1 (x.Names.map Di),.i .i64 x.First,.i .i64 x.Then]
def ME (x:(L_ Xh)):L_ V:=[.sl 7 (x.map QK)]
def QW (x:(Int×Int)):L_ V:=[.i .i64 x.1,.i .i64 x.2]
def Qm (x:(L_ (Int×Int))):L_ V:=[.sl 2 (x.map QW)]
def QH (x:XB):L_ V:=[.s x.Name,.i .i64 x.Colour,.sl 2 (x.First.map QW)]
def OI (x:(L_ XB)):L_ V:=[.sl 3 (x.map QH)]
def Xg (x:Yz):L_ V:=[.s x.Name,.i .i64 x.Colour]
def Jh (x:(L_ Yz)):L_ V:=[.sl 2 (x.map Xg)]
mutual
def Qab : Qv->L_ V
 | ⟨h,y,D⟩=>[.i .i64 h,.i .i64 y,.sl 3 (Ja D)]
def Ja : L_ Qv->L_ (L_ V)
 | []=>[]
 | e::es=>Qab e::Ja es
end
def Qy (x:Qv):L_ V:=[.i .i64 x.Kind,.i .i64 x.Num,.sl 3 (Ja x.Kids)]
def QgO : ∀x:Qv,Qab x=Qy x
 | ⟨h,y,D⟩=>by rw[Qab];rfl
def Bh : ∀l:L_ Qv,Ja l=l.map Qy
 | []=>by rw[Ja];rfl
 | e::es=>by rw[Ja,Bh es,QgO];rfl
def HO (l:L_ Qv):(Ja l).length=l.length:=by rw[Bh,BW]
def Gj {l:L_ Qv}{j:Int}{x:Qv}(h:idx l j=some x):0<=j/\(Ja l)[j.toNat]? = some (Qy x):=by rw[Bh];exact Xd h
def XL (x:Ye):L_ V:=[.i .i64 x.Place,.i .i64 x.Expr.Kind,.i .i64 x.Expr.Num,.sl 3 (Ja x.Expr.Kids)]
def Tk (x:(L_ Ye)):L_ V:=[.sl 4 (x.map XL)]
def QU (x:(L_ Int)):L_ V:=[.sl 1 (x.map Qb)]
def Ae (x:(Int×Int×Int)):L_ V:=[.i .i64 x.1,.i .i64 x.2.1,.i .i64 x.2.2]
def Qi (x:QS):L_ V:=[.s x.Name,.sl 2 (x.Vars.map Xg),.i .i64 x.Guard.Kind,.i .i64 x.Guard.Num,.sl 3 (Ja x.Guard.Kids),.i .i64 x.Join,.i .i64 x.Split,.sl 4 (x.Ins.map XL),.sl 4 (x.Outs.map XL),.sl 1 (x.Cancel.map Qb),.i .i64 x.After,.i .i64 x.Many.1,.i .i64 x.Many.2.1,.i .i64 x.Many.2.2]
def PZ (x:(L_ QS)):L_ V:=[.sl 14 (x.map Qi)]
def Qa (x:Ql):L_ V:=[.sl 7 (x.Colours.map QK),.sl 3 (x.Places.map QH),.sl 14 (x.Tasks.map Qi),.i .i64 x.From,.i .i64 x.To]
def Qo (x:Qk):L_ V:=[.i .i64 x.Task,.sl 1 (x.Vars.map Qb),.sl 1 (x.Ins.map Qb),.sl 1 (x.Outs.map Qb)]
def XF (x:Xt):L_ V:=[.i .i64 x.Do,.i .i64 x.Id,.i .i64 x.Mode.Task,.sl 1 (x.Mode.Vars.map Qb),.sl 1 (x.Mode.Ins.map Qb),.sl 1 (x.Mode.Outs.map Qb),.i .i64 x.Num]
def Yc (x:(L_ (L_ (Int×Int)))):L_ V:=[.sl 1 (x.map Qm)]
def QD (x:Xp):L_ V:=[.i .i64 x.Most,.i .i64 x.Enough,.i .i64 x.Open,.i .i64 x.Done,.i .i64 x.Failed]
def Qn (x:Qw):L_ V:=[.i .i64 x.Id,.i .i64 x.Mode.Task,.sl 1 (x.Mode.Vars.map Qb),.sl 1 (x.Mode.Ins.map Qb),.sl 1 (x.Mode.Outs.map Qb),.i .i64 x.Batch.Most,.i .i64 x.Batch.Enough,.i .i64 x.Batch.Open,.i .i64 x.Batch.Done,.i .i64 x.Batch.Failed,.i .i64 x.Until]
def Qt (x:QT):L_ V:=[.sl 1 (x.M.map Qm),.sl 11 (x.Items.map Qn),.i .i64 x.Next,.i .i64 x.Now]
def Qr (x:Qz):L_ V:=[.i .i64 x.Err,.i .i64 x.Id,.sl 1 (x.Closed.map Qb)]
def Qx (x:QB):L_ V:=[.sl 7 (x.net.Colours.map QK),.sl 3 (x.net.Places.map QH),.sl 14 (x.net.Tasks.map Qi),.i .i64 x.net.From,.i .i64 x.net.To,.sl 1 (x.now.M.map Qm),.sl 11 (x.now.Items.map Qn),.i .i64 x.now.Next,.i .i64 x.now.Now,.i .i64 x.call.Do,.i .i64 x.call.Id,.i .i64 x.call.Mode.Task,.sl 1 (x.call.Mode.Vars.map Qb),.sl 1 (x.call.Mode.Ins.map Qb),.sl 1 (x.call.Mode.Outs.map Qb),.i .i64 x.call.Num]
def XG (x:YM):L_ V:=[.sl 7 (x.all.map QK),.sl 1 (x.sizes.map Qb),.i .i64 x.k]
def QF (x:Xr):L_ V:=[.sl 7 (x.net.Colours.map QK),.sl 3 (x.net.Places.map QH),.sl 14 (x.net.Tasks.map Qi),.i .i64 x.net.From,.i .i64 x.net.To,.sl 1 (x.m.map Qm),.s x.task.Name,.sl 2 (x.task.Vars.map Xg),.i .i64 x.task.Guard.Kind,.i .i64 x.task.Guard.Num,.sl 3 (Ja x.task.Guard.Kids),.i .i64 x.task.Join,.i .i64 x.task.Split,.sl 4 (x.task.Ins.map XL),.sl 4 (x.task.Outs.map XL),.sl 1 (x.task.Cancel.map Qb),.i .i64 x.task.After,.i .i64 x.task.Many.1,.i .i64 x.task.Many.2.1,.i .i64 x.task.Many.2.2,.sl 1 (x.env.map Qb)]
def Qs (x:Qh):L_ V:=[.i .i64 x.id,.i .i64 x.at_,.i .i64 x.place]
def Xv (x:(L_ (L_ Int))):L_ V:=[.sl 1 (x.map QU)]
def Qji (x:(L_ Qk)):L_ V:=[.sl 4 (x.map Qo)]
def WL (x:GM):L_ V:=[.i .i64 x.Kind,.i .i64 x.At]
def Yk (fn:Nat):AR:=Qmi Tryz.f140 0 fn
def Uk (fn:Nat):AR:=Qmi Tryz.f300 0 fn
def Qmn (a0 h y D:Int):EqT prog 112 [.int .i64 a0,.int .i64 h] [.int .i64 y,.int .i64 D] ((a0==y)&&(h==D)):=by
 refine⟨by kernel_rfl,λw=>?_⟩
 have u3:=underlying3
 have g3:=isAgg3
 have z3:=sizeOf3
 show(Op.equalIn (9999+1) 112 (.agg #[.int .i64 a0,.int .i64 h]) (.agg #[.int .i64 y,.int .i64 D])).run prog w=_
 rw[Op.equalIn]
 simp only[Xf,run_underlying underlying112,Xl]
 simp only[Std.Legacy.Range.forIn_eq_forIn_range',Std.Legacy.Range.size,Nat.sub_zero,Nat.add_sub_cancel,Nat.div_one,List.range'_succ,List.range'_zero,List.forIn_cons,List.forIn_nil]
 go_simp
 by_cases h0:a0=y<;>by_cases h1:h=D<;>simp[h0,h1]
def QlF (a0 h y D b1 b2:Int):EqT prog 61 [.int .i64 a0,.int .i64 h,.int .i64 y] [.int .i64 D,.int .i64 b1,.int .i64 b2] ((a0==D)&&((h==b1)&&(y==b2))):=by
 refine⟨by kernel_rfl,λw=>?_⟩
 have u3:=underlying3
 have g3:=isAgg3
 have z3:=sizeOf3
 show(Op.equalIn (9999+1) 61 (.agg #[.int .i64 a0,.int .i64 h,.int .i64 y]) (.agg #[.int .i64 D,.int .i64 b1,.int .i64 b2])).run prog w=_
 rw[Op.equalIn]
 simp only[Xf,run_underlying underlying61,Xl]
 simp only[Std.Legacy.Range.forIn_eq_forIn_range',Std.Legacy.Range.size,Nat.sub_zero,Nat.add_sub_cancel,Nat.div_one,List.range'_succ,List.range'_zero,List.forIn_cons,List.forIn_nil]
 go_simp
 by_cases h0:a0=D<;>by_cases h1:h=b1<;>by_cases h2:y=b2<;>simp[h0,h1,h2]
def Qk2 : Qbu prog 106 1=some (1,false,1):=by kernel_rfl
def Qk3 : Qbu prog 106 2=some (2,false,1):=by kernel_rfl
def Qk4 : Go.Shelf.Ren:=⟨λ| 157=>343 | 199=>363 | 229=>362 | 261=>370 | 311=>373 | 312=>374 | n=>n,λ| 0=>0 | 3=>3 | 4=>4 | 5=>5 | 9=>9 | 21=>21 | 31=>104 | 40=>352 | 46=>308 | 49=>372 | 51=>334 | 119=>350 | 141=>364 | 152=>360 | 154=>362 | 193=>368 | 194=>369 | 196=>371 | 198=>374 | 201=>377 | 226=>379 | 227=>380 | n=>n,λ| 0=>0 | 6=>1 | n=>n⟩
def Qj3 : Lays.n157 prog Qk4 where
 mixed:=by kernel_rfl
 f157:=func343.trans (congrArg some (by kernel_rfl))
 f199:=func363.trans (congrArg some (by kernel_rfl))
 f229:=func362.trans (congrArg some (by kernel_rfl))
 f261:=func370.trans (congrArg some (by kernel_rfl))
 f311:=func373.trans (congrArg some (by kernel_rfl))
 f312:=func374.trans (congrArg some (by kernel_rfl))
 t0:=underlying0
 a0:=isAgg0
 z0:=sizeOf0
 v0:=zeroValue0
 t3:=underlying3
 a3:=isAgg3
 z3:=sizeOf3
 v3:=zeroValue3
 t4:=underlying4
 a4:=isAgg4
 z4:=sizeOf4
 v4:=zeroValue4
 t5:=underlying5
 a5:=isAgg5
 z5:=sizeOf5
 v5:=zeroValue5
 t9:=underlying9
 a9:=isAgg9
 z9:=sizeOf9
 v9:=zeroValue9
 t21:=underlying21
 a21:=isAgg21
 z21:=sizeOf21
 v21:=zeroValue21
 t31:=underlying104
 a31:=isAgg104
 z31:=sizeOf104
 v31:=zeroValue104
 t40:=underlying352
 a40:=isAgg352
 z40:=sizeOf352
 v40:=zeroValue352
 t46:=underlying308
 a46:=isAgg308
 z46:=sizeOf308
 v46:=zeroValue308
 t49:=underlying372
 a49:=isAgg372
 z49:=sizeOf372
 v49:=zeroValue372
 t51:=underlying334
 a51:=isAgg334
 z51:=sizeOf334
 v51:=zeroValue334
 t119:=underlying350
 a119:=isAgg350
 z119:=sizeOf350
 t141:=underlying364
 a141:=isAgg364
 z141:=sizeOf364
 v141:=zeroValue364
 t152:=underlying360
 a152:=isAgg360
 z152:=sizeOf360
 v152:=zeroValue360
 t154:=underlying362
 a154:=isAgg362
 z154:=sizeOf362
 v154:=zeroValue362
 t193:=underlying368
 a193:=isAgg368
 z193:=sizeOf368
 v193:=zeroValue368
 t194:=underlying369
 a194:=isAgg369
 z194:=sizeOf369
 v194:=zeroValue369
 t196:=underlying371
 a196:=isAgg371
 z196:=sizeOf371
 v196:=zeroValue371
 t198:=underlying374
 a198:=isAgg374
 z198:=sizeOf374
 v198:=zeroValue374
 t201:=underlying377
 a201:=isAgg377
 z201:=sizeOf377
 v201:=zeroValue377
 t226:=underlying379
 a226:=isAgg379
 z226:=sizeOf379
 v226:=zeroValue379
 t227:=underlying380
 a227:=isAgg380
 z227:=sizeOf380
 v227:=zeroValue380
 g0:=by kernel_rfl
 g6:=by kernel_rfl
def QeC : QeA prog 82=true:=by kernel_rfl
def Qjj : Go.Shelf.Ren:=⟨λ| 22=>215 | 29=>285 | 30=>286 | n=>n,λ| 24=>31 | 9=>90 | n=>n,λn=>n⟩
def Qir : Qbw prog Qjj "slices.Insert[[]baldric/api.Item,baldric/api.Item]" "slices.overlaps[baldric/api.Item]" 90 11 136 (.agg #[.int .i64 0,.int .i64 0,.slice none 0 0,.slice none 0 0,.slice none 0 0,.int .i64 0,.int .i64 0,.int .i64 0,.int .i64 0,.int .i64 0,.int .i64 0]) where
 mixed:=by kernel_rfl
 f22:=func215.trans (congrArg some (by kernel_rfl))
 f29:=func285.trans (congrArg some (by kernel_rfl))
 nm:=by kernel_rfl
 nx:=by kernel_rfl
 fd:=by kernel_rfl
 t0:=underlying0
 t3:=underlying3
 t4:=underlying4
 t24:=underlying31
 zE:=sizeOf90
 iE:=by kernel_rfl
 zc:=by kernel_rfl
 z0:=by decide
 small:=by decide
def QhM : QfJ prog 3 .i64=true:=by kernel_rfl
def Qbx : QfJ prog 336 .u64=true:=by kernel_rfl
def Ey : Eu prog 3 (V.i .i64) (Value.int .i64):=Eu.int (by kernel_rfl)
def Qjk : Eu prog 9 V.s Value.string:=Eu.str (by kernel_rfl)
def Qjl : (UE prog 294 "Pop" = some (395,true)∧Qdn prog 294=true)∨(UE prog 294 "Pop" = some (395,false)∧RD prog 294=true):=.inl ⟨by kernel_rfl,by kernel_rfl⟩
def Qis : (UE prog 294 "Push" = some (396,true)∧Qdn prog 294=true)∨(UE prog 294 "Push" = some (396,false)∧RD prog 294=true):=.inl ⟨by kernel_rfl,by kernel_rfl⟩
def mixed : prog.follows .mixedOrders=true:=by kernel_rfl
def QhN : LJ prog 135=some (3,3):=by kernel_rfl
def Gy : LJ prog 147=some (3,3):=by kernel_rfl
def Qj4 : LJ prog 241=some (3,4):=by kernel_rfl
def QhO : LJ prog 284=some (3,289):=by kernel_rfl
def QeD : LJ prog 298=some (9,4):=by kernel_rfl
def QeE : UE prog 294 "Len" = some (392,false)∧Th prog 294 286=true∧Ea prog 286=some false:=⟨by kernel_rfl,by kernel_rfl,by kernel_rfl⟩
def Vi : UE prog 294 "Less" = some (393,false)∧Th prog 294 286=true∧Ea prog 286=some false:=⟨by kernel_rfl,by kernel_rfl,by kernel_rfl⟩
def Vj : UE prog 294 "Swap" = some (394,false)∧Th prog 294 286=true∧Ea prog 286=some false:=⟨by kernel_rfl,by kernel_rfl,by kernel_rfl⟩
def Qk5 : Go.Shelf.Ren:=⟨λ| 125=>302 | 128=>340 | 129=>341 | 189=>238 | 215=>361 | 216=>337 | 257=>301 | 294=>331 | 295=>332 | 296=>333 | 297=>334 | 298=>335 | 299=>336 | 300=>338 | 301=>339 | 328=>356 | 329=>357 | 330=>358 | 331=>359 | 332=>360 | 343=>369 | n=>n,λ| 0=>0 | 3=>3 | 4=>4 | 5=>5 | 9=>9 | 28=>43 | 46=>308 | 51=>334 | 53=>336 | 131=>137 | 182=>326 | 183=>327 | 218=>344 | 222=>348 | 228=>357 | 229=>358 | n=>n,λn=>n⟩
def Qj5 : Lays.n189 prog Qk5 where
 mixed:=by kernel_rfl
 f125:=func302.trans (congrArg some (by kernel_rfl))
 f128:=func340.trans (congrArg some (by kernel_rfl))
 f129:=func341.trans (congrArg some (by kernel_rfl))
 f189:=func238.trans (congrArg some (by kernel_rfl))
 f215:=func361.trans (congrArg some (by kernel_rfl))
 f216:=func337.trans (congrArg some (by kernel_rfl))
 f257:=func301.trans (congrArg some (by kernel_rfl))
 f294:=func331.trans (congrArg some (by kernel_rfl))
 f295:=func332.trans (congrArg some (by kernel_rfl))
 f296:=func333.trans (congrArg some (by kernel_rfl))
 f297:=func334.trans (congrArg some (by kernel_rfl))
 f298:=func335.trans (congrArg some (by kernel_rfl))
 f299:=func336.trans (congrArg some (by kernel_rfl))
 f300:=func338.trans (congrArg some (by kernel_rfl))
 f301:=func339.trans (congrArg some (by kernel_rfl))
 f328:=func356.trans (congrArg some (by kernel_rfl))
 f329:=func357.trans (congrArg some (by kernel_rfl))
 f330:=func358.trans (congrArg some (by kernel_rfl))
 f331:=func359.trans (congrArg some (by kernel_rfl))
 f332:=func360.trans (congrArg some (by kernel_rfl))
 f343:=func369.trans (congrArg some (by kernel_rfl))
 t0:=underlying0
 a0:=isAgg0
 z0:=sizeOf0
 v0:=zeroValue0
 t3:=underlying3
 a3:=isAgg3
 z3:=sizeOf3
 v3:=zeroValue3
 t4:=underlying4
 a4:=isAgg4
 z4:=sizeOf4
 v4:=zeroValue4
 t5:=underlying5
 a5:=isAgg5
 z5:=sizeOf5
 v5:=zeroValue5
 t9:=underlying9
 a9:=isAgg9
 z9:=sizeOf9
 v9:=zeroValue9
 t28:=underlying43
 a28:=isAgg43
 z28:=sizeOf43
 v28:=zeroValue43
 t46:=underlying308
 a46:=isAgg308
 z46:=sizeOf308
 v46:=zeroValue308
 t51:=underlying334
 a51:=isAgg334
 z51:=sizeOf334
 v51:=zeroValue334
 t53:=underlying336
 a53:=isAgg336
 z53:=sizeOf336
 v53:=zeroValue336
 t131:=underlying137
 a131:=isAgg137
 z131:=sizeOf137
 v131:=zeroValue137
 t182:=underlying326
 a182:=isAgg326
 z182:=sizeOf326
 v182:=zeroValue326
 t183:=underlying327
 a183:=isAgg327
 z183:=sizeOf327
 v183:=zeroValue327
 t218:=underlying344
 a218:=isAgg344
 z218:=sizeOf344
 v218:=zeroValue344
 t222:=underlying348
 a222:=isAgg348
 z222:=sizeOf348
 v222:=zeroValue348
 t228:=underlying357
 a228:=isAgg357
 z228:=sizeOf357
 v228:=zeroValue357
 t229:=underlying358
 a229:=isAgg358
 z229:=sizeOf358
 v229:=zeroValue358
def Qmo : prog.underlying 248=some (.slice 43):=by kernel_rfl
def QmV : prog.underlying 30=some (.slice 99):=by kernel_rfl
def QmW : prog.underlying 31=some (.slice 90):=by kernel_rfl
def QmX : prog.underlying 43=some (.slice 3):=by kernel_rfl
def QmY : prog.underlying 99=some (.slice 112):=by kernel_rfl
def Qmp : prog.underlying 289=some (.pointer 292):=by kernel_rfl
def Qmq : Cu prog 289 (.lit (.pointer none)):=Cu.one (v:=.pointer none) (by kernel_rfl)
def Qac : Cu prog 3 ((V.i .i64) 0):=Cu.one (v:=.int .i64 0) (by kernel_rfl)
def Qk6 : Cu prog 4 (V.b false):=Cu.one (v:=.bool false) (by kernel_rfl)
def Qnl : XX prog 3=some [.i .i64 0]:=by kernel_rfl
def Qnm : XX prog 9=some [.s (⟨#[]⟩:ByteArray)]:=by kernel_rfl
def QmZ : XX prog 26=some [.Y,.Y,.Y,.i .i64 0,.i .i64 0]:=by kernel_rfl
def Qm0 : XX prog 33=some [.Y,.Y,.i .i64 0,.i .i64 0]:=by kernel_rfl
def QlG : XX prog 43=some [.Y]:=by kernel_rfl
def Qm1 : XX prog 44=some [.i .i64 0]:=by kernel_rfl
def Qm2 : XX prog 46=some [.i .i64 0,.i .i64 0,.Y]:=by kernel_rfl
def Qm3 : XX prog 50=some [.i .i64 0,.Y,.Y,.Y]:=by kernel_rfl
def Qm4 : XX prog 52=some [.i .i64 0,.i .i64 0,.i .i64 0,.Y,.Y,.Y,.i .i64 0]:=by kernel_rfl
def Qm5 : XX prog 54=some [.Y]:=by kernel_rfl
def Qm6 : XX prog 59=some [.i .i64 0,.i .i64 0,.Y]:=by kernel_rfl
def Qm7 : XX prog 61=some [.i .i64 0,.i .i64 0,.i .i64 0]:=by kernel_rfl
def Qm8 : XX prog 63=some [.s (⟨#[]⟩:ByteArray),.Y,.i .i64 0,.i .i64 0,.Y,.i .i64 0,.i .i64 0,.Y,.Y,.Y,.i .i64 0,.i .i64 0,.i .i64 0,.i .i64 0]:=by kernel_rfl
def Qm9 : XX prog 81=some [.Y,.Y,.Y,.i .i64 0,.i .i64 0,.Y,.Y,.i .i64 0,.i .i64 0,.i .i64 0,.i .i64 0,.i .i64 0,.Y,.Y,.Y,.i .i64 0]:=by kernel_rfl
def Qna : XX prog 88=some [.i .i64 0,.i .i64 0,.i .i64 0,.i .i64 0,.i .i64 0]:=by kernel_rfl
def Qnb : XX prog 90=some [.i .i64 0,.i .i64 0,.Y,.Y,.Y,.i .i64 0,.i .i64 0,.i .i64 0,.i .i64 0,.i .i64 0,.i .i64 0]:=by kernel_rfl
def Qnc : XX prog 99=some [.Y]:=by kernel_rfl
def Qmr : XX prog 106=some [.s (⟨#[]⟩:ByteArray),.i .i64 0,.i .i64 0,.i .i64 0,.Y,.i .i64 0,.i .i64 0]:=by kernel_rfl
def Qms : XX prog 108=some [.s (⟨#[]⟩:ByteArray),.i .i64 0,.Y]:=by kernel_rfl
def Qmt : XX prog 110=some [.i .i64 0,.i .i64 0,.i .i64 0,.Y]:=by kernel_rfl
def Qmu : XX prog 112=some [.i .i64 0,.i .i64 0]:=by kernel_rfl
def Qmv : XX prog 118=some [.i .i64 0,.i .i64 0]:=by kernel_rfl
def Qmw : XX prog 140=some [.s (⟨#[]⟩:ByteArray),.i .i64 0]:=by kernel_rfl
def OW : XX prog 153=some [.lit (.nilFunc),.i .i64 0]:=by kernel_rfl
def Qmx : XX prog 179=some [.Y,.Y,.i .i64 0]:=by kernel_rfl
def Qmy : XX prog 204=some [.lit (.nilFunc)]:=by kernel_rfl
def Qmz : XX prog 209=some [.lit (.nilFunc)]:=by kernel_rfl
def QmA : XX prog 233=some [.Y,.Y,.Y,.i .i64 0,.i .i64 0,.Y,.s (⟨#[]⟩:ByteArray),.Y,.i .i64 0,.i .i64 0,.Y,.i .i64 0,.i .i64 0,.Y,.Y,.Y,.i .i64 0,.i .i64 0,.i .i64 0,.i .i64 0,.Y]:=by kernel_rfl
def QmB : XX prog 248=some [.Y]:=by kernel_rfl
def QmC : XX prog 266=some [.lit (.nilFunc)]:=by kernel_rfl
def QmD : XX prog 288=some [.Y,.lit (.map none)]:=by kernel_rfl
def QmE : XX prog 289=some [.lit (.pointer none)]:=by kernel_rfl
def QmF : XX prog 292=some [.i .i64 0,.i .i64 0,.i .i64 0]:=by kernel_rfl
def VT : GL:={ ag:=[(3,false),(9,false),(22,false),(23,false),(24,false),(26,true),(28,false),(30,false),(31,false),(33,true),(43,false),(44,false),(46,true),(50,true),(52,true),(54,false),(56,false),(57,false),(59,true),(60,false),(61,true),(63,true),(88,true),(90,true),(99,false),(104,false),(106,true),(108,true),(110,true),(112,true),(118,true),(140,true),(147,false),(153,true),(179,true),(204,false),(209,false),(212,false),(214,false),(233,true),(248,false),(266,false),(284,false),(286,false),(289,false)],sz:=[(3,1),(26,5),(30,1),(31,1),(33,4),(43,1),(44,1),(46,3),(50,4),(52,7),(54,1),(59,3),(61,3),(63,14),(88,5),(90,11),(99,1),(106,7),(108,3),(110,4),(112,2),(118,2),(140,2),(153,2),(179,3),(204,1),(209,1),(233,21),(248,1),(266,1),(286,1),(289,1)],fo:=[(26,[0,1,2,3,4]),(33,[0,1,2,3]),(46,[0,1,2]),(50,[0,1,2,3]),(52,[0,1,2,6]),(59,[0,1,2]),(63,[0,1,2,5,6,7,8,9,10,11]),(81,[0,5,9]),(88,[0,1,2,3,4]),(90,[0,1,5,10]),(106,[0,1,2,3,4,5,6]),(108,[0,1,2]),(110,[0,1]),(140,[0,1]),(153,[0,1]),(179,[0,1,2]),(233,[0,5,6,20]),(288,[0,1]),(292,[0,1,2])],sp:=[(26,[(0,1),(1,1),(2,1),(3,1),(4,1)]),(33,[(0,1),(1,1),(2,1),(3,1)]),(46,[(0,1),(1,1),(2,1)]),(50,[(0,1),(1,1),(2,1),(3,1)]),(52,[(0,1),(1,1),(2,4),(6,1)]),(59,[(0,1),(1,1),(2,1)]),(63,[(0,1),(1,1),(2,3),(5,1),(6,1),(7,1),(8,1),(9,1),(10,1),(11,3)]),(81,[(0,5),(5,4),(9,7)]),(88,[(0,1),(1,1),(2,1),(3,1),(4,1)]),(90,[(0,1),(1,4),(5,5),(10,1)]),(106,[(0,1),(1,1),(2,1),(3,1),(4,1),(5,1),(6,1)]),(108,[(0,1),(1,1),(2,1)]),(110,[(0,1),(1,3)]),(118,[(0,1),(1,1)]),(153,[(0,1),(1,1)]),(179,[(0,1),(1,1),(2,1)]),(233,[(0,5),(5,1),(6,14),(20,1)]),(288,[(0,1),(1,1)]),(292,[(0,1),(1,1),(2,1)])],es:=[(22,(106,7,80)),(23,(108,3,48)),(24,(63,14,200)),(27,(52,7,104)),(30,(99,1,24)),(31,(90,11,136)),(37,(46,3,40)),(43,(3,1,8)),(54,(50,4,80)),(56,(140,2,24)),(57,(59,3,40)),(60,(110,4,48)),(99,(112,2,16)),(104,(9,1,16)),(198,(153,2,16)),(246,(3,1,8)),(248,(43,1,24)),(286,(289,1,8))],ar:=[(61,(3,1)),(112,(2,1))],zv:=[(3,[.i .i64 0]),(9,[.s (⟨#[]⟩:ByteArray)]),(26,[.Y,.Y,.Y,.i .i64 0,.i .i64 0]),(33,[.Y,.Y,.i .i64 0,.i .i64 0]),(43,[.Y]),(44,[.i .i64 0]),(46,[.i .i64 0,.i .i64 0,.Y]),(50,[.i .i64 0,.Y,.Y,.Y]),(52,[.i .i64 0,.i .i64 0,.i .i64 0,.Y,.Y,.Y,.i .i64 0]),(54,[.Y]),(59,[.i .i64 0,.i .i64 0,.Y]),(61,[.i .i64 0,.i .i64 0,.i .i64 0]),(63,[.s (⟨#[]⟩:ByteArray),.Y,.i .i64 0,.i .i64 0,.Y,.i .i64 0,.i .i64 0,.Y,.Y,.Y,.i .i64 0,.i .i64 0,.i .i64 0,.i .i64 0]),(81,[.Y,.Y,.Y,.i .i64 0,.i .i64 0,.Y,.Y,.i .i64 0,.i .i64 0,.i .i64 0,.i .i64 0,.i .i64 0,.Y,.Y,.Y,.i .i64 0]),(88,[.i .i64 0,.i .i64 0,.i .i64 0,.i .i64 0,.i .i64 0]),(90,[.i .i64 0,.i .i64 0,.Y,.Y,.Y,.i .i64 0,.i .i64 0,.i .i64 0,.i .i64 0,.i .i64 0,.i .i64 0]),(99,[.Y]),(106,[.s (⟨#[]⟩:ByteArray),.i .i64 0,.i .i64 0,.i .i64 0,.Y,.i .i64 0,.i .i64 0]),(108,[.s (⟨#[]⟩:ByteArray),.i .i64 0,.Y]),(110,[.i .i64 0,.i .i64 0,.i .i64 0,.Y]),(112,[.i .i64 0,.i .i64 0]),(118,[.i .i64 0,.i .i64 0]),(140,[.s (⟨#[]⟩:ByteArray),.i .i64 0]),(153,[.lit (.nilFunc),.i .i64 0]),(179,[.Y,.Y,.i .i64 0]),(204,[.lit (.nilFunc)]),(209,[.lit (.nilFunc)]),(233,[.Y,.Y,.Y,.i .i64 0,.i .i64 0,.Y,.s (⟨#[]⟩:ByteArray),.Y,.i .i64 0,.i .i64 0,.Y,.i .i64 0,.i .i64 0,.Y,.Y,.Y,.i .i64 0,.i .i64 0,.i .i64 0,.i .i64 0,.Y]),(248,[.Y]),(266,[.lit (.nilFunc)]),(288,[.Y,.lit (.map none)]),(289,[.lit (.pointer none)]),(292,[.i .i64 0,.i .i64 0,.i .i64 0])],sb:=[9],bo:=[4],cc:=[289,294],en:=[8,9,10,11,12,14,16,17,18,19,20,24,25,26,27,28,29,30,31,33,34,35,36,37,38,39,40,41,42,43,44,45,46,47,51,52,53,54,55,56,57,58,59,60,61,68,69,70,71,72,73,74,75,76,77,78,79,80,81,82,83,87,88,89,90,91,92,93,94,95,96,97,98,99,100,101,102,103,104,122,123,124,125,126,127,128,129,130,131,132,133,134,135,136,137,138,139,140,142,148,149,150,151,152,153,154,155,156,157,158,159,160,161,162,163,164,165,166,167,168,169,170,171,172,173,174,175,176,177,178,179,180,181,182,183,184,185,206,207,208,209,210,211,212,213,214,215,216,217,218,219,220,221,222,223,224,225,226,227,228,229,230,231,237,238,239,240,241,242,243,244,245,246,247,248,249,250,251,252,253,254,255,256,257,258,259,260,261,262,263,264,265,266,280,281,282,283,284,287,288,289,290,291,292,293,294,295,300,303,304,305,306,307,308,309,310,311,320,322,323,324,325,326,327,328,329,330,342,343,344,354,355,364,365,366,367,368,371,372,392,393,394,395,396] }
def Qe : WT prog VT:=GL.ok (by kernel_rfl) (Jw.2 ⟨Qnl,Jw.2 ⟨Qnm,Jw.2 ⟨QmZ,Jw.2 ⟨Qm0,Jw.2 ⟨QlG,Jw.2 ⟨Qm1,Jw.2 ⟨Qm2,Jw.2 ⟨Qm3,Jw.2 ⟨Qm4,Jw.2 ⟨Qm5,Jw.2 ⟨Qm6,Jw.2 ⟨Qm7,Jw.2 ⟨Qm8,Jw.2 ⟨Qm9,Jw.2 ⟨Qna,Jw.2 ⟨Qnb,Jw.2 ⟨Qnc,Jw.2 ⟨Qmr,Jw.2 ⟨Qms,Jw.2 ⟨Qmt,Jw.2 ⟨Qmu,Jw.2 ⟨Qmv,Jw.2 ⟨Qmw,Jw.2 ⟨OW,Jw.2 ⟨Qmx,Jw.2 ⟨Qmy,Jw.2 ⟨Qmz,Jw.2 ⟨QmA,Jw.2 ⟨QmB,Jw.2 ⟨QmC,Jw.2 ⟨QmD,Jw.2 ⟨QmE,Jw.2 ⟨QmF,λ_ h=>(by cases h)⟩⟩⟩⟩⟩⟩⟩⟩⟩⟩⟩⟩⟩⟩⟩⟩⟩⟩⟩⟩⟩⟩⟩⟩⟩⟩⟩⟩⟩⟩⟩⟩⟩)
def Qg {C:XA}{Q:Exit->St->Prop}{n:Nat}{pt D:Pt}{ks y:L_ Fr}{σ σ1:St}{φ:Prop}(hC:Jq prog C n)(ds:L_ Ak)(e:Vm.go prog C VT n ds pt ks σ True=some ⟨D,y,σ1,φ⟩)(hφ:φ)(h:AK prog C Q D y σ1):AK prog C Q pt ks σ:=AK.go Qe hC ds e hφ h
abbrev QBg := L_ (Int×Int)
abbrev QMk := L_ QBg
abbrev LI_ := L_ Int
abbrev QLL := L_ (L_ Int)
abbrev QSB := L_ (ByteArray×Bool)
def U : True:=trivial
def an_ {a b:Prop}(x:a)(y:b):a/\b:=⟨x,y⟩
def ex_ {α:Sort _}{p:α->Prop}(w:α)(h:p w):∃x,p x:=⟨w,h⟩
end Go.Proofs
namespace Go.Vm
open Go Go.RowKit
noncomputable abbrev Ak.K (a b:L_ Nat):Ak:=.keep a b
noncomputable abbrev Ak.S (a:Nat)(b:V):Ak:=.say a b
noncomputable abbrev Ak.O (a:Nat)(b:Ob):Ak:=.sayO a b
noncomputable abbrev Ak.T:Ak:=.br true
noncomputable abbrev Ak.F:Ak:=.br false
noncomputable abbrev Dw.N:Dw:=.a .no none false
noncomputable abbrev Dw.B (h:KU):Dw:=.a h none false
noncomputable abbrev Dw.E (v:V):Dw:=.a .no (some ([],v)) false
noncomputable abbrev V.I (n:Int):V:=.i .i64 n
noncomputable abbrev V.L (n:Nat):V:=.loc n 0 0
noncomputable abbrev Ak.A (x:L_ V):Ak:=.v .no [] (.agg x)
noncomputable instance dn_ (n:Nat):OfNat Ak n:=⟨.n n⟩
noncomputable abbrev KU.C1 (v:V):KU:=.c false [.d] v
noncomputable abbrev KU.C2 (v:V):KU:=.c false [.d,.d] v
noncomputable abbrev KU.C3 (v:V):KU:=.c false [.d,.d,.d] v
noncomputable abbrev KU.C4 (v:V):KU:=.c false [.d,.d,.d,.d] v
noncomputable abbrev KU.C5 (v:V):KU:=.c false [.d,.d,.d,.d,.d] v
noncomputable abbrev KU.C6 (v:V):KU:=.c false [.d,.d,.d,.d,.d,.d] v
noncomputable abbrev KU.C7 (v:V):KU:=.c false [.d,.d,.d,.d,.d,.d,.d] v
noncomputable abbrev KU.C8 (v:V):KU:=.c false [.d,.d,.d,.d,.d,.d,.d,.d] v
end Go.Vm
namespace Go.Proofs
open Go Go.RowKit Go.Vm Go.Proofs.Tryz
def bg_ {α:Type}{c:Bool}{x y:O_ α}{r:α}{G:Prop}(h:(bif c then x else y)=some r)(f:c=true->x=some r->G)(g:c=false->y=some r->G):G:=by
 cases c
 ·exact g rfl h
 exact f rfl h
noncomputable abbrev lk_ (n:Nat):Nat×V:=(n,.loc n 0 0)
def A {h:Prop}(y:h):True/\h:=⟨trivial,y⟩
def a2_ {h y:Prop}(D:h)(h1:y):(True/\h)/\y:=⟨⟨trivial,D⟩,h1⟩
def a3_ {h y D:Prop}(h0:h)(h1:y)(h2:D):((True/\h)/\y)/\D:=⟨⟨⟨trivial,h0⟩,h1⟩,h2⟩
def a4_ {h y D x3:Prop}(h0:h)(h1:y)(h2:D)(h3:x3):(((True/\h)/\y)/\D)/\x3:=⟨⟨⟨⟨trivial,h0⟩,h1⟩,h2⟩,h3⟩
def a5_ {h y D x3 x4:Prop}(h0:h)(h1:y)(h2:D)(h3:x3)(h4:x4):((((True/\h)/\y)/\D)/\x3)/\x4:=⟨⟨⟨⟨⟨trivial,h0⟩,h1⟩,h2⟩,h3⟩,h4⟩
def a6_ {h y D x3 x4 x5:Prop}(h0:h)(h1:y)(h2:D)(h3:x3)(h4:x4)(h5:x5):(((((True/\h)/\y)/\D)/\x3)/\x4)/\x5:=⟨⟨⟨⟨⟨⟨trivial,h0⟩,h1⟩,h2⟩,h3⟩,h4⟩,h5⟩
def a7_ {h y D x3 x4 x5 x6:Prop}(h0:h)(h1:y)(h2:D)(h3:x3)(h4:x4)(h5:x5)(h6:x6):((((((True/\h)/\y)/\D)/\x3)/\x4)/\x5)/\x6:=⟨⟨⟨⟨⟨⟨⟨trivial,h0⟩,h1⟩,h2⟩,h3⟩,h4⟩,h5⟩,h6⟩
def a8_ {h y D x3 x4 x5 x6 x7:Prop}(h0:h)(h1:y)(h2:D)(h3:x3)(h4:x4)(h5:x5)(h6:x6)(h7:x7):(((((((True/\h)/\y)/\D)/\x3)/\x4)/\x5)/\x6)/\x7:=⟨⟨⟨⟨⟨⟨⟨⟨trivial,h0⟩,h1⟩,h2⟩,h3⟩,h4⟩,h5⟩,h6⟩,h7⟩
def a9_ {h y D x3 x4 x5 x6 x7 x8:Prop}(h0:h)(h1:y)(h2:D)(h3:x3)(h4:x4)(h5:x5)(h6:x6)(h7:x7)(h8:x8):((((((((True/\h)/\y)/\D)/\x3)/\x4)/\x5)/\x6)/\x7)/\x8:=⟨⟨⟨⟨⟨⟨⟨⟨⟨trivial,h0⟩,h1⟩,h2⟩,h3⟩,h4⟩,h5⟩,h6⟩,h7⟩,h8⟩
def aB_ {D x1 x2 x3 x4 x5 x6 x7 x8 x9 h:Prop}(h0:D)(h1:x1)(h2:x2)(h3:x3)(h4:x4)(h5:x5)(h6:x6)(h7:x7)(h8:x8)(h9:x9)(y:h):((((((((((True/\D)/\x1)/\x2)/\x3)/\x4)/\x5)/\x6)/\x7)/\x8)/\x9)/\h:=⟨⟨⟨⟨⟨⟨⟨⟨⟨⟨⟨trivial,h0⟩,h1⟩,h2⟩,h3⟩,h4⟩,h5⟩,h6⟩,h7⟩,h8⟩,h9⟩,y⟩
def aC_ {x0 x1 x2 x3 x4 x5 x6 x7 x8 x9 h y:Prop}(h0:x0)(h1:x1)(h2:x2)(h3:x3)(h4:x4)(h5:x5)(h6:x6)(h7:x7)(h8:x8)(h9:x9)(D:h)(h11:y):(((((((((((True/\x0)/\x1)/\x2)/\x3)/\x4)/\x5)/\x6)/\x7)/\x8)/\x9)/\h)/\y:=⟨⟨⟨⟨⟨⟨⟨⟨⟨⟨⟨⟨trivial,h0⟩,h1⟩,h2⟩,h3⟩,h4⟩,h5⟩,h6⟩,h7⟩,h8⟩,h9⟩,D⟩,h11⟩
def r1_ {α:Type}{a0:α}:a0=a0/\True:=⟨rfl,trivial⟩
def r2_ {α:Type}{a0 h:α}:a0=a0/\h=h/\True:=⟨rfl,rfl,trivial⟩
def r3_ {α:Type}{a0 h y:α}:a0=a0/\h=h/\y=y/\True:=⟨rfl,rfl,rfl,trivial⟩
def r4_ {α:Type}{a0 h y a3:α}:a0=a0/\h=h/\y=y/\a3=a3/\True:=⟨rfl,rfl,rfl,rfl,trivial⟩
def r5_ {α:Type}{a0 h y a3 a4:α}:a0=a0/\h=h/\y=y/\a3=a3/\a4=a4/\True:=⟨rfl,rfl,rfl,rfl,rfl,trivial⟩
def r6_ {α:Type}{a0 h y a3 a4 a5:α}:a0=a0/\h=h/\y=y/\a3=a3/\a4=a4/\a5=a5/\True:=⟨rfl,rfl,rfl,rfl,rfl,rfl,trivial⟩
def rB_ {α:Type}{a0 y D a3 a4 a5 a6 a7 a8 a9 h:α}:a0=a0/\y=y/\D=D/\a3=a3/\a4=a4/\a5=a5/\a6=a6/\a7=a7/\a8=a8/\a9=a9/\h=h/\True:=⟨rfl,rfl,rfl,rfl,rfl,rfl,rfl,rfl,rfl,rfl,rfl,trivial⟩
def rD_ {α:Type}{a0 a1 a2 a3 a4 a5 a6 a7 a8 a9 h y D:α}:a0=a0/\a1=a1/\a2=a2/\a3=a3/\a4=a4/\a5=a5/\a6=a6/\a7=a7/\a8=a8/\a9=a9/\h=h/\y=y/\D=D/\True:=⟨rfl,rfl,rfl,rfl,rfl,rfl,rfl,rfl,rfl,rfl,rfl,rfl,rfl,trivial⟩
def rF_ {α:Type}{a0 a1 a2 a3 a4 a5 a6 a7 a8 a9 h y D a13 a14:α}:a0=a0/\a1=a1/\a2=a2/\a3=a3/\a4=a4/\a5=a5/\a6=a6/\a7=a7/\a8=a8/\a9=a9/\h=h/\y=y/\D=D/\a13=a13/\a14=a14/\True:=⟨rfl,rfl,rfl,rfl,rfl,rfl,rfl,rfl,rfl,rfl,rfl,rfl,rfl,rfl,rfl,trivial⟩
def wk_ {f:FuncId}{fn:Func}{c:Code}{args:L_ V}{hs:H_}{y:V->H_->Prop}(n:Nat)(hf:prog.funcs[f]? = some fn)(h:∀C:XA,Jq prog C n->AK prog C (Va prog fn.results.toList y) (.c c) [] ⟨LH 0 args,hs⟩)(hb:fn.body=some c:=by rfl)(hn:fn.ntmps=n:=by rfl)(D:(Nat.ble args.length n&&Nat.ble n 617)=true:=by rfl):QX prog f args hs y:=QX.walk n hf hb hn D h
def bq_ {C:XA}{Q:Exit->St->Prop}{n:Nat}{pt p1 p2:Pt}{ks k1 k2:L_ Fr}{σ s1 s2:St}{α:Type}{c:Bool}{x y:O_ α}{r:α}(hC:Jq prog C n)(h:(bif c then x else y)=some r)(ds:L_ Ak)(e:Vm.go prog C VT n ds pt ks σ True=some ⟨p1,k1,s1,True/\c=true⟩)(f:c=true->x=some r->AK prog C Q p1 k1 s1)(D:L_ Ak)(e2:Vm.go prog C VT n D pt ks σ True=some ⟨p2,k2,s2,True/\c=false⟩)(g:c=false->y=some r->AK prog C Q p2 k2 s2):AK prog C Q pt ks σ:=by
 cases c
 ·exact AK.go Qe hC D e2 ⟨trivial,rfl⟩ (g rfl h)
 exact AK.go Qe hC ds e ⟨trivial,rfl⟩ (f rfl h)
def mt_ {C:XA}{Q:Exit->St->Prop}{ks:L_ Fr}{σ:St}:AK prog C Q (.x .normal) (.cut (λs=>s=σ)::ks) σ:=AK.met rfl
def cb_ {a b:Bool}(h:a=b):V.b a=V.b b:=congrArg V.b h
def tc_ {a b:Bool}(h:a=b):True/\V.b a=V.b b:=⟨trivial,congrArg V.b h⟩
def QhP : Exit->Bool
 | .normal=>true
 | .ret=>true
 | _=>false
def tg_ {C:XA}{Q:Exit->St->Prop}{n:Nat}{pt D:Pt}{ks y:L_ Fr}{σ σ1:St}(hC:Jq prog C n)(ds:L_ Ak)(h:AK prog C Q D y σ1)(e:Vm.go prog C VT n ds pt ks σ True=some ⟨D,y,σ1,True⟩:=by rfl):AK prog C Q pt ks σ:=AK.go Qe hC ds e trivial h
def Pj {c:Bool}{β:Type}{f:Unit->O_ β}{r:β}(h:(chk c).bind f=some r):c=true/\f ()=some r:=by
 obtain⟨_,k,h⟩:=Qp h
 exact⟨Qfz k,h⟩
def Z {α:Sort _}{a:α}:a=a:=rfl
def B {α β:Type}{a:O_ α}{k:α->O_ β}{r:β}{G:Prop}(h:a.bind k=some r)(f:∀x,a=some x->k x=some r->G):G:=by
 obtain⟨x,y,D⟩:=Qp h
 exact f x y D
def X {c:Bool}{β:Type}{k:Unit->O_ β}{r:β}{G:Prop}(h:(chk c).bind k=some r)(f:c=true->k ()=some r->G):G:=by
 obtain⟨_,y,D⟩:=Qp h
 exact f (Qfz y) D
def I {α:Type}{c:Bool}{x y:O_ α}{r:α}{G:Prop}(h:(bif c then x else y)=some r)(f:c=true->x=some r->G)(g:c=false->y=some r->G):G:=by
 cases c
 ·exact g rfl h
 exact f rfl h
def bO_ (c:Bool){G:Prop}(f:c=true->G)(g:c=false->G):G:=by
 cases c
 ·exact g rfl
 exact f rfl
def toS (σ s:St):O_ St:=match Gg σ.fr (s.fr.map Prod.fst)with
 | some a=>match Gg σ.hp (s.hp.map Prod.fst)with
  | some b=>bif St.closed ⟨a,b⟩then some ⟨a,b⟩else none
  | none=>none
 | none=>none
def Qad {P:Program}{C:XA}{Q:Exit->St->Prop}{pt:Pt}{ks:L_ Fr}{σ s:St}(e:toS σ s=some s)(k:AK P C Q pt ks s):AK P C Q pt ks σ:=by
 unfold toS at e
 split at e
 ·rename_i a D
  split at e
  ·rename_i b hb
   replace e:=XV e
   obtain⟨hc,e⟩:=e
   cases e
   exact AK.weaken (λh w y=>R.to y (QhC (NN D)) (QhD (NN hb)) hc) k
  cases e
 cases e
section
variable {P:Program}{C:XA}{Q:Exit->St->Prop}{ks:L_ Fr}{σ:St}{pt:Pt}
def M {s0:St}(e:toS σ s0=some s0):AK P C Q (.x .normal) (.cut (λs=>s=s0)::ks) σ:=Qad e (AK.met rfl)
def Y {c:Code}(s0:St)(f:AK P C Q (.c c) (.cut (λs=>s=s0)::ks) σ)(g:AK P C Q (.x .normal) ks s0):AK P C Q (.c c) ks σ:=AK.meetX _ f λ_ e=>e▸g
def me_ {β:Type}{E:β->St}{K:β->Prop}{v:β}(h:K v)(e:toS σ (E v)=some (E v)):AK P C Q (.x .normal) (.cut (λs=>∃v,s=E v/\K v)::ks) σ:=Qad e (AK.met ⟨v,rfl,h⟩)
def mE_ {β:Type}{x y:Code}(E:β->St)(K:β->Prop)(f:AK P C Q (.c x) (.cut (λs=>∃v,s=E v/\K v)::ks) σ)(g:∀v,K v->AK P C Q (.c y) ks (E v)):AK P C Q (.c (.seq x y)) ks σ:=AK.meet _ f λ_ ⟨v,e,h⟩=>e▸g v h
def rS {τ ρ:Type}(E:τ->St)(X:ρ->Exit×St)(o:τ⊕ρ):Exit->St->Prop:=Qhq (λt s=>s=E t) (λq e s=>e=(X q).1/\s=(X q).2) o
def lp_ {τ ρ α:Type}{body:τ->O_ (τ⊕ρ)}{s0:τ}{k:ρ->O_ α}{r:α}{c:Code}(h:(QQ body s0).bind k=some r)(E:τ->St)(X:ρ->Exit×St)(e:toS σ (E s0)=some (E s0))
  (f:∀t o,body t=some o->AK P C (rS E X o) (.c c) [] (E t)) (g:∀q,k q=some r->AK P C Q (.x (X q).1) ks (X q).2):AK P C Q (.c (.loop c)) ks σ:=by
 obtain⟨q,D,h2⟩:=Qp h
 refine Qad e (AK.loop (λt s=>s=E t) (λq e s=>e=(X q).1/\s=(X q).2) D rfl (λt o s y hb=>y▸f t o hb) λe s y=>?_)
 obtain⟨rfl,rfl⟩:=y
 exact g q h2
def lq_ {τ ρ ρ' α:Type}{body:τ->O_ (τ⊕(ρ⊕ρ'))}{s0:τ}{k:ρ⊕ρ'->O_ α}{r:α}{c:Code}(h:(QQ body s0).bind k=some r)(E:τ->St)(X:ρ->Exit×St)(Y:ρ'->Exit×St)(e:toS σ (E s0)=some (E s0))
  (f:∀t o,body t=some o->AK P C (rS E (Sum.elim X Y) o) (.c c) [] (E t)) (g:∀q,k (.inl q)=some r->AK P C Q (.x (X q).1) ks (X q).2) (y:∀q,k (.inr q)=some r->AK P C Q (.x (Y q).1) ks (Y q).2):AK P C Q (.c (.loop c)) ks σ:=
 lp_ h E (Sum.elim X Y) e f λq=>match q with
  | .inl q=>g q
  | .inr q=>y q
def rN_ {τ ρ:Type}{E:τ->St}{X:ρ->Exit×St}{o:τ⊕ρ}{t:τ}(h:some (.inl t)=some o)(e:toS σ (E t)=some (E t)):AK P C (rS E X o) (.x .normal) [] σ:=by
 cases h
 exact Qad e (AK.done ⟨t,rfl,rfl⟩)
def rX_ {τ ρ:Type}{E:τ->St}{X:ρ->Exit×St}{o:τ⊕ρ}{q:ρ}{i:Nat}(h:some (.inr q)=some o)(e:((X q).1,toS σ (X q).2)=(.exit i,some (X q).2)):AK P C (rS E X o) (.x (.exit i)) [] σ:=by
 cases h
 exact Qad (congrArg Prod.snd e) (AK.done ⟨q,rfl,(congrArg Prod.fst e).symm,rfl⟩)
def rR_ {τ ρ:Type}{E:τ->St}{X:ρ->Exit×St}{o:τ⊕ρ}{q:ρ}(h:some (.inr q)=some o)(e:((X q).1,toS σ (X q).2)=(.ret,some (X q).2)):AK P C (rS E X o) (.x .ret) [] σ:=by
 cases h
 exact Qad (congrArg Prod.snd e) (AK.done ⟨q,rfl,(congrArg Prod.fst e).symm,rfl⟩)
def mu_ {s0:St}{K:Prop}(h:K)(e:toS σ s0=some s0):AK P C Q (.x .normal) (.cut (λs=>s=s0/\K)::ks) σ:=Qad e (AK.met ⟨rfl,h⟩)
def mU_ {x y:Code}(s0:St)(K:Prop)(f:AK P C Q (.c x) (.cut (λs=>s=s0/\K)::ks) σ)(g:K->AK P C Q (.c y) ks s0):AK P C Q (.c (.seq x y)) ks σ:=AK.meet _ f λ_ ⟨e,h⟩=>e▸g h
def cS {β:Type}(E:β->St)(v:β)(s:St):Prop:=s=E v
def mq_ {β:Type}{E:β->St}{v u:β}(h:some v=some u)(e:toS σ (E v)=some (E v)):AK P C Q (.x .normal) (.cut (cS E u)::ks) σ:=by
 cases h
 exact Qad e (AK.met rfl)
def mV_ {β α:Type}{c:Code}{a:O_ β}{k:β->O_ α}{r:α}(h:a.bind k=some r)(E:β->St)(f:∀x,a=some x->AK P C Q (.c c) (.cut (cS E x)::ks) σ)(g:∀x,k x=some r->AK P C Q (.x .normal) ks (E x)):AK P C Q (.c c) ks σ:=by
 obtain⟨x,y,D⟩:=Qp h
 exact AK.meetX _ (f x y) λs (e:s=E x)=>e▸g x D
end
def no_ {α:Type}(_:α):H_:=[]
def CT {α:Type}(f:Nat)(us:L_ V)(h:H_)(o:O_ α)(V:α->V)(O:α->H_):Prop:=∀r,o=some r->QX prog f us h (Gives (V r) (O r))
def Qjm {α:Type}(h:L_ ResultVar)(V:α->V)(O:α->H_)(r:α):Exit->St->Prop:=Va prog h (Gives (V r) (O r))
def W {α:Type}{f:FuncId}{fn:Func}{c:Code}{args:L_ V}{D:H_}{o:O_ α}{V:α->V}{O:α->H_}(n:Nat)(hf:prog.funcs[f]? = some fn)(y:(fn.body,fn.ntmps,Nat.ble args.length n&&Nat.ble n 617)=(some c,n,true))(h:∀C:XA,Jq prog C n->∀r,o=some r->AK prog C (Qjm fn.results.toList V O r) (.c c) [] ⟨LH 0 args,D⟩):CT f args D o V O:=λ_ e=>QX.walk n hf (congrArg (λx=>x.1) y) (congrArg (λx=>x.2.1) y) (congrArg (λx=>x.2.2) y) λC hC=>h C hC _ e
section
variable {α:Type}{a q:α}{C:XA}{t u x:Nat}{O:α->H_}{σ:St}{e:Exit}
def E {r:α->V}(h:some a=some q)(k:(QhP e,Go.Vm.look σ.fr t)=(true,some (r a)))(hs:UD σ.hp (O a)):AK prog C (Qjm [.tmp t] r O q) (.x e) [] σ:=by
 have D:=congrArg Prod.fst k
 have y:=congrArg Prod.snd k
 cases h
 cases e<;>first | exact AK.done ⟨[_],⟨y,trivial⟩,gives hs⟩|cases D
def F {v w:V}{r:α->V}(h:some a=some q)(k:(QhP e,Go.Vm.look σ.fr t,Go.Vm.look σ.fr u)=(true,some v,some w))(h4:r a=.tup [v,w])(hs:UD σ.hp (O a)):AK prog C (Qjm [.tmp t,.tmp u] r O q) (.x e) [] σ:=by
 have he:=congrArg (λx=>x.1) k
 have y:=congrArg (λx=>x.2.1) k
 have D:=congrArg (λx=>x.2.2) k
 cases h
 cases e<;>first | exact AK.done ⟨[_,_],⟨y,D,trivial⟩,h4▸gives hs⟩|cases he
def e3_ {v w z:V}{r:α->V}(h:some a=some q)(k:(QhP e,Go.Vm.look σ.fr t,Go.Vm.look σ.fr u,Go.Vm.look σ.fr x)=(true,some v,some w,some z))(h4:r a=.tup [v,w,z])(hs:UD σ.hp (O a)):AK prog C (Qjm [.tmp t,.tmp u,.tmp x] r O q) (.x e) [] σ:=by
 have he:=congrArg (λx=>x.1) k
 have y:=congrArg (λx=>x.2.1) k
 have D:=congrArg (λx=>x.2.2.1) k
 have h5:=congrArg (λx=>x.2.2.2) k
 cases h
 cases e<;>first | exact AK.done ⟨[_,_,_],⟨y,D,h5,trivial⟩,h4▸gives hs⟩|cases he
end
def G {C:XA}{Q:Exit->St->Prop}{n:Nat}{pt D:Pt}{ks y:L_ Fr}{σ σ1:St}{φ:Prop}(hC:Jq prog C n)(ds:L_ Ak)(e:Vm.go prog C VT n ds pt ks σ True=some ⟨D,y,σ1,φ⟩)(hφ:φ)(h:AK prog C Q D y σ1):AK prog C Q pt ks σ:=AK.go Qe hC ds e hφ h
def H {C:XA}{Q:Exit->St->Prop}{n:Nat}{pt D:Pt}{ks y:L_ Fr}{σ σ1:St}(hC:Jq prog C n)(ds:L_ Ak)(e:Vm.go prog C VT n ds pt ks σ True=some ⟨D,y,σ1,True⟩)(h:AK prog C Q D y σ1):AK prog C Q pt ks σ:=AK.go Qe hC ds e trivial h
def J {C:XA}{Q:Exit->St->Prop}{n:Nat}{pt D:Pt}{ks y:L_ Fr}{σ σ1:St}{x:Prop}(hC:Jq prog C n)(ds:L_ Ak)(e:Vm.go prog C VT n ds pt ks σ True=some ⟨D,y,σ1,True/\x⟩)(a:x)(h:AK prog C Q D y σ1):AK prog C Q pt ks σ:=G hC ds e ⟨trivial,a⟩ h
def K {C:XA}{Q:Exit->St->Prop}{n:Nat}{pt pt1:Pt}{ks D:L_ Fr}{σ σ1:St}{x y:Prop}(hC:Jq prog C n)(ds:L_ Ak)(e:Vm.go prog C VT n ds pt ks σ True=some ⟨pt1,D,σ1,(True/\x)/\y⟩)(a:x)(b:y)(h:AK prog C Q pt1 D σ1):AK prog C Q pt ks σ:=G hC ds e ⟨⟨trivial,a⟩,b⟩ h
def g3_ {C:XA}{Q:Exit->St->Prop}{n:Nat}{pt pt1:Pt}{ks D:L_ Fr}{σ σ1:St}{x y z:Prop}(hC:Jq prog C n)(ds:L_ Ak)(e:Vm.go prog C VT n ds pt ks σ True=some ⟨pt1,D,σ1,((True/\x)/\y)/\z⟩)(a:x)(b:y)(c:z)(h:AK prog C Q pt1 D σ1):AK prog C Q pt ks σ:=G hC ds e ⟨⟨⟨trivial,a⟩,b⟩,c⟩ h
def g4_ {C:XA}{Q:Exit->St->Prop}{n:Nat}{pt pt1:Pt}{ks D:L_ Fr}{σ σ1:St}{x y z u:Prop}(hC:Jq prog C n)(ds:L_ Ak)(e:Vm.go prog C VT n ds pt ks σ True=some ⟨pt1,D,σ1,(((True/\x)/\y)/\z)/\u⟩)(a:x)(b:y)(c:z)(d:u)(h:AK prog C Q pt1 D σ1):AK prog C Q pt ks σ:=G hC ds e ⟨⟨⟨⟨trivial,a⟩,b⟩,c⟩,d⟩ h
def L {C:XA}{Q:Exit->St->Prop}{n:Nat}{pt pt1:Pt}{ks D:L_ Fr}{σ σ1:St}{x y:Bool}(hC:Jq prog C n)(ds:L_ Ak)(e:Vm.go prog C VT n ds pt ks σ True=some ⟨pt1,D,σ1,True/\V.b x=V.b y⟩)(a:x=y)(h:AK prog C Q pt1 D σ1):AK prog C Q pt ks σ:=G hC ds e ⟨trivial,congrArg V.b a⟩ h
def dr_ {id n:Nat}{C:XA}{Q:Exit->St->Prop}{ops:Array Oper}{ks:L_ Fr}{base:St}{sf fr:S_}{sh hp:H_}{D:L_ (It×Nat)}{ms:L_ Yj}{B:St}{φ:Prop}(hN:Jq prog C n)(ds:L_ Dw)(y h ts os:L_ Nat)(hS:(Gg base.fr y,Gg base.hp h)=(some sf,some sh))(e:Uj prog C VT n ops ⟨sf,sh⟩ ds ops.toList 0 [] [] base True=some ⟨D,ms,B,φ⟩)(hφ:φ)(hf:(Gg (IR ms D++B.fr) ts,Gg (Hc ms D++B.hp) os,St.closed ⟨fr,hp⟩)=(some fr,some hp,true))(k:AK prog C Q (.x .normal) ks ⟨fr,hp⟩)(hl:ds.length=ops.size:=by rfl)(hk:okV ops base ⟨sf,sh⟩ ⟨D,ms,B,φ⟩=true:=by kernel_rfl):AK prog C Q (.c (.region id ops true)) ks base:=AK.draw2 Qe hN mixed ds y h ts os (congrArg (λx=>x.1) hS) (congrArg (λx=>x.2) hS) e hφ hl hk (congrArg (λx=>x.1) hf) (congrArg (λx=>x.2.1) hf) (congrArg (λx=>x.2.2) hf) k
abbrev Qnn (a0 a1:V):L_ V:=[.J,.J,a0,.J,.J,.J,.J,a1,.J,.J,.J,.J,.J]
abbrev Vk (a0:V):L_ V:=[.J,.J,a0,.J,.J,.J,.J,.J,.J,.J,.J,.J,.J]
abbrev Qno (a0 a1 a2 a3 a4 a5 a6 a7 a8:V):L_ V:=[.J,.J,.J,.J,a0,a1,a2,a3,a4,.J,a5,a6,a7,.J,.J,.J,.J,.J,.J,.J,.J,.J,.J,.J,.J,.J,.J,.J,.J,.J,.J,.J,.J,.J,.J,.J,.J,.J,.J,.J,.J,.J,.J,.J,.J,.J,.J,.J,.J,.J,.J,.J,.J,.J,a8,.J,.J,.J,.J,.J,.J,.J,.J,.J,.J,.J,.J,.J,.J,.J,.J,.J,.J,.J,.J,.J,.J,.J,.J,.J,.J,.J,.J,.J,.J,.J,.J,.J,.J,.J,.J,.J,.J,.J,.J,.J,.J,.J,.J,.J,.J,.J,.J,.J,.J,.J,.J,.J,.J]
abbrev DD (a0 a1 a2 a3 a4 a5 a6 a7:V):L_ V:=[.J,.J,.J,.J,a0,a1,a2,a3,a4,.J,a5,a6,a7,.J,.J,.J,.J,.J,.J,.J,.J,.J,.J,.J,.J,.J,.J,.J,.J,.J,.J,.J,.J,.J,.J,.J,.J,.J,.J,.J,.J,.J,.J,.J,.J,.J,.J,.J,.J,.J,.J,.J,.J,.J,.J,.J,.J,.J,.J,.J,.J,.J,.J,.J,.J,.J,.J,.J,.J,.J,.J,.J,.J,.J,.J,.J,.J,.J,.J,.J,.J,.J,.J,.J,.J,.J,.J,.J,.J,.J,.J,.J,.J,.J,.J,.J,.J,.J,.J,.J,.J,.J,.J,.J,.J,.J,.J,.J,.J]
def Qdg  : O_ Ql:=some (Ql.mk ([(Xh.mk (⟨#[110]⟩:ByteArray) 2 0 0 ([(⟨#[107]⟩:ByteArray)]:L_ ByteArray) 0 0)]:L_ Xh) ([(XB.mk (⟨#[97]⟩:ByteArray) 0 ([]:QBg)),(XB.mk (⟨#[98]⟩:ByteArray) 0 ([]:QBg))]:L_ XB) ([(QS.mk (⟨#[116]⟩:ByteArray) ([]:(L_ Yz)) (Qv.mk 1 1 ([]:(L_ Qv))) 1 1 ([(Ye.mk 0 (Qv.mk 1 0 ([]:(L_ Qv))))]:L_ Ye) ([(Ye.mk 1 (Qv.mk 1 0 ([]:(L_ Qv))))]:L_ Ye) ([]:LI_) 2 (1,3,2))]:L_ QS) 0 1)
def QfM  : CT 24 [] [] (Qdg ) (λr=>(.agg (Qa r))) no_:=by
 refine W 22 func24 rfl λC a r h=>?_
 refine Qg a [7,.v .no [none,none,some 3] (.agg (Qy (Qv.mk 1 0 ([]:(L_ Qv))))),2,.O 1 (.var (Qy (Qv.mk 1 0 ([]:(L_ Qv))))),4,.v .no [none,none,some 3] (.agg (Qy (Qv.mk 1 1 ([]:(L_ Qv))))),2,.O 2 (.var (Qy (Qv.mk 1 1 ([]:(L_ Qv))))),4,.v (.bd []) [] (.sl 1 (([(⟨#[107]⟩:ByteArray)]:L_ ByteArray).map Di)),.A (QK (Xh.mk (⟨#[110]⟩:ByteArray) 2 0 0 ([(⟨#[107]⟩:ByteArray)]:L_ ByteArray) 0 0)),.v (.bd []) [] (.sl 7 (([(Xh.mk (⟨#[110]⟩:ByteArray) 2 0 0 ([(⟨#[107]⟩:ByteArray)]:L_ ByteArray) 0 0)]:L_ Xh).map QK)),.v .no [none,none,some 2] (.agg (QH (XB.mk (⟨#[97]⟩:ByteArray) 0 ([]:QBg)))),.v .no [none,none,some 2] (.agg (QH (XB.mk (⟨#[98]⟩:ByteArray) 0 ([]:QBg)))),.v (.bd []) [] (.sl 3 (([(XB.mk (⟨#[97]⟩:ByteArray) 0 ([]:QBg)),(XB.mk (⟨#[98]⟩:ByteArray) 0 ([]:QBg))]:L_ XB).map QH)),.A (Qy (Qv.mk 1 1 ([]:(L_ Qv)))),.A (Qy (Qv.mk 1 0 ([]:(L_ Qv)))),.A (XL (Ye.mk 0 (Qv.mk 1 0 ([]:(L_ Qv))))),.v (.bd []) [] (.sl 4 (([(Ye.mk 0 (Qv.mk 1 0 ([]:(L_ Qv))))]:L_ Ye).map XL)),.A (Qy (Qv.mk 1 0 ([]:(L_ Qv)))),.A (XL (Ye.mk 1 (Qv.mk 1 0 ([]:(L_ Qv))))),.v (.bd []) [] (.sl 4 (([(Ye.mk 1 (Qv.mk 1 0 ([]:(L_ Qv))))]:L_ Ye).map XL)),.A (Ae (1,3,2)),.v .no [none,some 2,none,none,none,none,none,none,none,some 1,none,none,none,none] (.agg (Qi (QS.mk (⟨#[116]⟩:ByteArray) ([]:(L_ Yz)) (Qv.mk 1 1 ([]:(L_ Qv))) 1 1 ([(Ye.mk 0 (Qv.mk 1 0 ([]:(L_ Qv))))]:L_ Ye) ([(Ye.mk 1 (Qv.mk 1 0 ([]:(L_ Qv))))]:L_ Ye) ([]:LI_) 2 (1,3,2)))),.v (.bd []) [] (.sl 14 (([(QS.mk (⟨#[116]⟩:ByteArray) ([]:(L_ Yz)) (Qv.mk 1 1 ([]:(L_ Qv))) 1 1 ([(Ye.mk 0 (Qv.mk 1 0 ([]:(L_ Qv))))]:L_ Ye) ([(Ye.mk 1 (Qv.mk 1 0 ([]:(L_ Qv))))]:L_ Ye) ([]:LI_) 2 (1,3,2))]:L_ QS).map Qi)),.A (Qa (Ql.mk ([(Xh.mk (⟨#[110]⟩:ByteArray) 2 0 0 ([(⟨#[107]⟩:ByteArray)]:L_ ByteArray) 0 0)]:L_ Xh) ([(XB.mk (⟨#[97]⟩:ByteArray) 0 ([]:QBg)),(XB.mk (⟨#[98]⟩:ByteArray) 0 ([]:QBg))]:L_ XB) ([(QS.mk (⟨#[116]⟩:ByteArray) ([]:(L_ Yz)) (Qv.mk 1 1 ([]:(L_ Qv))) 1 1 ([(Ye.mk 0 (Qv.mk 1 0 ([]:(L_ Qv))))]:L_ Ye) ([(Ye.mk 1 (Qv.mk 1 0 ([]:(L_ Qv))))]:L_ Ye) ([]:LI_) 2 (1,3,2))]:L_ QS) 0 1)),1,.O 0 (.var (Qa (Ql.mk ([(Xh.mk (⟨#[110]⟩:ByteArray) 2 0 0 ([(⟨#[107]⟩:ByteArray)]:L_ ByteArray) 0 0)]:L_ Xh) ([(XB.mk (⟨#[97]⟩:ByteArray) 0 ([]:QBg)),(XB.mk (⟨#[98]⟩:ByteArray) 0 ([]:QBg))]:L_ XB) ([(QS.mk (⟨#[116]⟩:ByteArray) ([]:(L_ Yz)) (Qv.mk 1 1 ([]:(L_ Qv))) 1 1 ([(Ye.mk 0 (Qv.mk 1 0 ([]:(L_ Qv))))]:L_ Ye) ([(Ye.mk 1 (Qv.mk 1 0 ([]:(L_ Qv))))]:L_ Ye) ([]:LI_) 2 (1,3,2))]:L_ QS) 0 1))),3,.K [0] [0]] Z ⟨⟨⟨⟨⟨⟨⟨⟨⟨⟨⟨⟨⟨⟨⟨⟨⟨⟨⟨⟨⟨⟨U,Z⟩,Z⟩,Z⟩,Z⟩,Z⟩,Z⟩,Z⟩,Z⟩,Z⟩,Z⟩,Z⟩,Z⟩,Z⟩,Z⟩,Z⟩,Z⟩,Z⟩,Z⟩,Z⟩,Z⟩,Z⟩,Z⟩ ?_
 cases h
 exact AK.done (ex_ [_] (an_ (an_ (ex_ _ (ex_ _ (an_ Z (an_ Z (Or.inl (an_ (Qe.ag Z) (an_ (Qe.sz Z) Z))))))) U) (gives U)))
def YN (a:QBg):O_ QBg:=(chk ((([]:QBg).length+a.length)*16<=140737488355328)).bind λ_=>some (([]:QBg)++a)
def UN (b):CT 52 [.sl 2 (b.map QW)] [] (YN b) (λr=>(.own 600 r.length)) (λr=>[(600,.arr 2 (r.map QW))]):=by
 refine W 8 func52 rfl λC a r h=>?_
 unfold YN at h
 refine tg_ a [9] ?_
 refine AK.eqNil rfl rfl rfl (QI a.n rfl) rfl rfl QmY ?_ ?_
 ·intro c
  replace h:some ([]:QBg)=some r:=by simpa[chk,List.map_eq_nil_iff.1 c] using h
  exact K a [10,.adopt 2 600 2,.O 600 (.arr 2 (([]:QBg).map QW)),.S 2 (.own 600 ([]:QBg).length)] Z Z Z<|E h Z r1_
 exact X h λd h=>g3_ a [8,.O 5 (.arr 2 (([]:QBg).map QW)),.S 5 (.own 5 ([]:QBg).length),1,.x (λσ=>σ.app 5 2 7 (([]:QBg)++b).length ((([]:QBg)++b).map QW)),4,.K [2] [5],.ren 5 600] Z Z Z (Qf.appSB (by_:=16) (zs:=[.I 0,.I 0]) (e:=112) (e':=112) (z':=2) (by':=16) Z Z (QI a.n Z) Z Z Z Qd (by kernel_rfl) (by kernel_rfl) (by kernel_rfl) Z (by decide) (by decide) (Me d Qd) Z JS (Gi Qd))<|E h Z r1_
def Dj (a:QBg):O_ Unit:=some ()
def IS (a):CT 149 [.map 617] [(617,.map (QG V.I V.I a))] (Dj a) (λ_=>(.clo (.func 239) [] [.L 1])) (λ_=>[(1,.var [.map 617]),(617,.map (QG V.I V.I a))]):=
 W 4 func149 Z λC b r h=>H b [13] Z<|E h Z r2_
def KV (a:LI_)(b:Int):O_ LI_:=(chk ((a.length+([b]:L_ Int).length)*8<=140737488355328)).bind λ_=>some (a++([b]:L_ Int))
def Fa (D y:Nat)(a:LI_)(c:Int){r:LI_}(h:KV a c=some r):OU prog D (Uk y) (Qnn (.L 618) (.I c)) [(617,.lp D (Uk y) (Vk (.L 618)) 0),(618,.var [.own 615 a.length]),(615,.arr 1 (a.map Qb))] (Gives (.b true) [(615,.arr 1 (r.map Qb)),(617,.lp D (Uk y) (Vk (.L 618)) 0),(618,.var [.own 615 r.length])]):=by
 refine OU.walk (b:=617) 13 rfl rfl λC d=>?_
 refine tg_ d [3] ?_
 refine AK.done (an_ rfl (ex_ _ (an_ rfl ?_)))
 obtain⟨f,h⟩:=Pj h
 refine Qg d [4,.v (.bd []) [] (.sl 1 (([c]:L_ Int).map Qb)),.x (λσ=>σ.app 615 1 11 (a++([c]:L_ Int)).length ((a++([c]:L_ Int)).map Qb)),1,.O 618 (.var [.own 615 (a++([c]:L_ Int)).length]),2,.K [] [615,617,618]] Z (a3_ Z (Qf.appSB (by_:=8) (zs:=[.I 0]) (e:=3) (e':=3) (z':=1) (by':=8) Z Z (QI d.n Z) Z Z Z Qd (by kernel_rfl) (by kernel_rfl) (by kernel_rfl) Z (by decide) (by decide) (Me f Qd) Z JS (Gi Qd)) Z) ?_
 cases h
 refine AK.done ?_
 exact ex_ _ (an_ Z (gives r3_))
def HP (lpl lpf:Nat)(c:LI_)(i:QBg)(hlen:c.length+i.length<=17592186044416):QX prog 239 [.clo (.yield lpl) [] [],.L 619] [(617,.lp lpl (Uk lpf) (Vk (.L 618)) 0),(618,.var [.own 615 c.length]),(615,.arr 1 (c.map Qb)),(619,.var [.map 620]),(620,.map (QG V.I V.I i))] (λv hs=>∃r:L_ Int,r.Perm (c++i.map Prod.fst)/\Gives (.tup []) [(615,.arr 1 (r.map Qb)),(617,.lp lpl (Uk lpf) (Vk (.L 618)) 0),(618,.var [.own 615 r.length]),(619,.var [.map 620]),(620,.map (QG V.I V.I i))] v hs):=by
 refine wk_ 14 func239 λC a=>?_
 refine tg_ a [3] ?_
 refine AK.openMap (b:=620) Ey rfl λk l L4 p s=>?_
 refine Qg a [.x (λσ=>(σ.set 5 (.itr k l #[] none)).put 5 (.L 5)),3,.K [0,5] [5,615,617,618,619,620]] Z (A (Qf.range (b:=620) Z Z (QI a.n Z) Z Z Gy Z)) ?_
 have hL0:YG L4 #[]=L4:=by simp[YG]
 have z:(c++(YG L4 #[]).map (λq=>q.2.1)).Perm (c++i.map Prod.fst):=by
  rw[hL0]
  refine List.Perm.append_left c ?_
  have:=s.map Prod.fst
  rwa[OB]at this
 refine AK.range (body:=Qjg) (λ(_:Nat) seen σ=>∃(cur:O_ Nat) (st:L_ Int),(st++(YG L4 seen).map (λq=>q.2.1)).Perm (c++i.map Prod.fst)/\σ=⟨[(0,.clo (.yield lpl) [] []),lk_ 5],[(5,.itr k l seen cur),(615,.arr 1 (st.map Qb)),(617,.lp lpl (Uk lpf) (Vk (.L 618)) 0),(618,.var [.own 615 st.length]),(619,.var [.map 620]),(620,.mapX k l (CZ V.I V.I L4) (QG V.I V.I i))]⟩) (λ(q:Empty) _ _=>False) (λ_ e σ=>∃st:L_ Int,st.Perm (c++i.map Prod.fst)/\e=.exit 0/\σ=⟨[],[(615,.arr 1 (st.map Qb)),(617,.lp lpl (Uk lpf) (Vk (.L 618)) 0),(618,.var [.own 615 st.length]),(619,.var [.map 620]),(620,.mapX k l (CZ V.I V.I L4) (QG V.I V.I i))]⟩) p s (Qj0 i 0) (ex_ _ (ex_ c (an_ z rfl))) ?_ ?_
 ·rintro P seen σ ⟨cur,o,hpp,rfl⟩ hex
  refine tg_ a [2] ?_
  refine AK.nextT (b:=5) (m:=620) rfl rfl rfl (QI a.n rfl) rfl rfl rfl rfl ?_ ?_
  ·intro hleft
   refine tg_ a [7,.K [] [615,617,618,619,620]] ?_
   exact AK.done (Or.inl (an_ hleft (an_ (λh=>(by cases h)) (ex_ o (an_ (by simpa[hleft] using hpp) (an_ Z Z))))))
  intro D y S u
  have hpk:=(ZS p u).map (λq=>q.2.1)
  have w:((o++[y])++(YG L4 (seen.push D)).map (λq=>q.2.1)).Perm (c++i.map Prod.fst):=List.Perm.trans (by simpa using (List.Perm.append_left o hpk).symm) hpp
  have O:(o.length+([y]:L_ Int).length)*8<=140737488355328:=by
   have:=w.length_eq
   simp at this ⊢
   omega
  have t:KV o y=some (o++[y]):=by
   unfold KV
   rw[QN O];rfl
  obtain⟨j,hxe⟩:∃x,x=o++[y]:=⟨_,rfl⟩
  rw[<-hxe]at t w
  refine Qg a [10,.x (λσ=>σ.put 8 (.tup [.I y,.I S])),8,.x (λσ=>(σ.after [615] [(615,.arr 1 (j.map Qb)),(617,.lp lpl (Uk lpf) (Vk (.L 618)) 0),(618,.var [.own 615 j.length])]).put 12 (.b true)),6,.K [0,5] [5,615,617,618,619,620]] Z (a2_ (Qf.entryT (b:=5) (m:=620) (e:=V.I) (f:=V.I) Z Z (QI a.n Z) Z u Z Z) (Qf.yieldV (b:=617) (M:=[(617,617),(618,618),(615,615)]) (N:=[(615,615),(617,617),(618,618)]) (dead:=[615]) (ms:=[.d,.d,.d,.d,.d,.d,.d,.d,.d,.d,.d,.d,.d]) (outs:=[(615,.arr 1 (j.map Qb)),(617,.lp lpl (Uk lpf) (Vk (.L 618)) 0),(618,.var [.own 615 j.length])]) (r:=.b true) Z Z Z Z Z Z Z (QI a.n Z) a.g Z Z (Fa _ _ _ _ t))) ?_
  exact AK.done (Or.inr (ex_ _ (an_ u (Or.inl (ex_ (P+1) (an_ Z (an_ Z (ex_ _ (ex_ j (an_ w Z))))))))))
 rintro e σ ⟨o,hpp,rfl,rfl⟩
 refine tg_ a [1] ?_
 refine AK.closeMap (b:=620) rfl ?_
 refine tg_ a [.K [] [615,617,618,619,620]] ?_
 refine AK.done ?_
 exact ex_ [] (an_ U (ex_ o (an_ hpp (gives r5_))))
def NE (a:QBg)(h:a.length<=17592186044416):QX prog 300 [.Y,.clo (.func 239) [] [.L 617]] [(617,.var [.map 618]),(618,.map (QG V.I V.I a))] (λv hs=>∃r:L_ Int,r.Perm (a.map Prod.fst)/\Gives (.own 600 r.length) [(600,.arr 1 (r.map Qb)),(617,.var [.map 618]),(618,.map (QG V.I V.I a))] v hs):=by
 refine QX.walkR 13 func300 Z ntmps300 Z λC c hR=>?_
 refine tg_ c [13,.K [2,4,6] [2,617,618]] ?_
 refine Qg c [.adoptO 2 0 605 1,.O 605 (.arr 1 (([]:L_ Int).map Qb)),.O 2 (.var [.own 605 ([]:L_ Int).length])] Z (a2_ Z Z) ?_
 refine AK.rangeFE (ι:=L_ Int) (Φ:=λx=>x.Perm (a.map Prod.fst)) 613 [2] [(617,613),(618,2),(615,605),(619,617),(620,618)] [(605,615),(613,617),(2,618),(617,619),(618,620)] [605] [.d,.d] Uk c hR (λ_=>rfl) rfl rfl rfl rfl λlpl D=>?_
 refine ex_ (λb:L_ Int=>[(615,.arr 1 (b.map Qb)),(617,.lp lpl (Uk D) (Vk (.L 618)) 0),(618,.var [.own 615 b.length]),(619,.var [.map 620]),(620,.map (QG V.I V.I a))]) (ex_ (λ_=>.tup []) (ex_ (λb=>_) (ex_ _ (ex_ _ (an_ rfl (an_ rfl (an_ (HP _ _ ([]:L_ Int) a (by simpa using h)) λb=>ex_ _ (ex_ (Vk (.L 2)) (ex_ 0 (an_ rfl (an_ rfl (an_ (bne_iff_ne.1 (show(0 != 1)=true from rfl)) λy=>?_))))))))))))
 refine Qmh Z ?_
 refine tg_ c [9,.K [4] [605,617,618],.ren 605 600,.K [4] [600,617,618]] ?_
 exact AK.done (ex_ [_] (an_ (an_ Z U) (ex_ b (an_ y (gives r3_)))))
def SH (a:QBg)(h:a.length<=17592186044416):QX prog 237 [.clo (.func 239) [] [.L 617]] [(617,.var [.map 618]),(618,.map (QG V.I V.I a))] (λv D=>∃r:L_ Int,r.Perm (a.map Prod.fst)/\Gives (.own 600 r.length) [(600,.arr 1 (r.map Qb)),(617,.var [.map 618]),(618,.map (QG V.I V.I a))] v D):=by
 refine wk_ 5 func237 λC c=>?_
 refine tg_ c [8] ?_
 refine AK.callE (ι:=L_ Int) (Φ:=λx=>x.Perm (a.map Prod.fst)) [(617,617),(618,618)] [(4,600),(617,617),(618,618)] [] [.d,.d] (λb=>[(600,.arr 1 (b.map Qb)),(617,.var [.map 618]),(618,.map (QG V.I V.I a))]) (λb=>(.own 600 b.length)) (λb=>_) rfl c (YU.fn rfl rfl rfl) rfl (QI c.n rfl) rfl rfl (NE a h) (λb=>ex_ _ rfl) λb y=>?_
 refine tg_ c [4,.K [2] [4,617,618],.ren 4 600,.K [2] [600,617,618]] ?_
 exact AK.done (ex_ [_] (an_ (an_ Z U) (ex_ b (an_ y (gives r3_)))))
def Kx (l:L_ Int):O_ LI_:=(chk (l.length<4611686018427387904)).bind λ_=>some (Ex l)
def Hd (l){r}(h:Kx l=some r):QX prog 238 [.own 617 l.length] [(617,.arr 1 (l.map Qb))] (Gives (.tup []) [(617,.arr 1 (r.map Qb))]):=by
 obtain⟨_,a,h⟩:=Qp h
 cases h
 exact Qip Qj5 l (XC (Qfz a))
def Fb (a:QBg):O_ LI_:=(chk (a.length<=17592186044416)).bind λ_=>some (Ex (a.map Prod.fst))
def Vl (a):CT 148 [.clo (.func 239) [] [.L 617]] [(617,.var [.map 618]),(618,.map (QG V.I V.I a))] (Fb a) (λr=>(.own 600 r.length)) (λr=>[(600,.arr 1 (r.map Qb)),(617,.var [.map 618]),(618,.map (QG V.I V.I a))]):=by
 refine W 9 func148 rfl λC e r h=>?_
 obtain⟨_,y,h⟩:=Qp h
 replace y:=XC (Qfz y)
 cases h
 refine tg_ e [8] ?_
 refine AK.callE (ι:=L_ Int) (Φ:=λx=>x.Perm (a.map Prod.fst)) [(617,617),(618,618)] [(5,600),(617,617),(618,618)] [] [.d] (λb=>[(600,.arr 1 (b.map Qb)),(617,.var [.map 618]),(618,.map (QG V.I V.I a))]) (λb=>(.own 600 b.length)) (λb=>_) rfl e (YU.fn rfl rfl rfl) rfl (QI e.n rfl) rfl rfl (SH a y) (λb=>ex_ _ rfl) λb D=>?_
 have f:Kx b=some (Ex (a.map Prod.fst)):=by
  unfold Kx
  rw[QN (by have:=D.length_eq;simp at this;omega),Qjh D];rfl
 have c:(Ex (a.map Prod.fst)).length=b.length:=by rw[Tj,D.length_eq]
 refine Qg e [6,.cm (.fn) [(617,5)] [(5,617)] [] [.d] [(617,.arr 1 (((Ex (a.map Prod.fst))).map Qb))] (.tup []),.S 3 (.own 5 (Ex (a.map Prod.fst)).length),.S 5 (.own 5 (Ex (a.map Prod.fst)).length),.S 6 (.own 5 (Ex (a.map Prod.fst)).length),9,.K [2] [5,617,618],.ren 5 600,.K [2] [600,617,618]] Z (a4_ (Hd _ f) (by simp[c]) (by simp[c]) (by simp[c])) ?_
 exact AK.done (ex_ [_] (an_ (an_ Z U) (gives r3_)))
def DO (b:Int)(a:QBg):O_ ((Int×QBg)⊕QBg):=some (.inl ((Qq (b+1)),a))
def Wm (e:LI_)(d:QBg)(b:Int)(c:QBg):O_ ((Int×QBg)⊕QBg):=bif (b<(e.length:Int))then (idx e b).bind λa=>bif (0<((Xb d a).getD 0))then (chk ((c.length+([(a,((Xb d a).getD 0))]:QBg).length)*16<=140737488355328)).bind λ_=>DO b (c++([(a,((Xb d a).getD 0))]:QBg))else DO b c else some (.inr c)
def QaN (a:QBg):O_ QBg:=some a
def DT (a:QBg):O_ QBg:=(Dj a).bind λc=>(Fb a).bind λb=>(QQ (λst=>Wm b a st.1 st.2) (0,([]:QBg))).bind (λq=>QaN q)
def Fc (b):CT 89 [.map 617] [(617,.map (QG V.I V.I b))] (DT b) (λr=>(.own 600 r.length)) (λr=>[(600,.arr 2 (r.map QW)),(617,.map (QG V.I V.I b))]):=
 W 28 func89 Z λC c r h=>B h λx3 u h=>B h λm w h=>g4_ c [14,.cm (.fn) [(617,617)] [(7,1),(617,617)] [] [.d] [(1,.var [.map 617]),(617,.map (QG V.I V.I b))] (.clo (.func 239) [] [.L 1]),.cm (.fn) [(617,7),(618,617)] [(8,600),(7,617),(617,618)] [] [.d] [(600,.arr 1 (m.map Qb)),(617,.var [.map 618]),(618,.map (QG V.I V.I b))] (.own 600 m.length),5,.adopt 3 18 2,.O 18 (.arr 2 (([]:QBg).map QW)),.S 3 (.own 18 ([]:QBg).length)] Z (IS _ _ u) (Vl _ _ w) Z (congrArg (λn=>V.own 18 n) (by simp))<|lp_ h (λst=>⟨[(0,.map 617),(3,.own 18 st.2.length),(8,.own 8 m.length),(9,.I (m.length:Int)),(10,.I st.1)],[(8,.arr 1 (m.map Qb)),(18,.arr 2 (st.2.map QW)),(617,.map (QG V.I V.I b))]⟩) (λq=>(.exit 0,⟨[(3,.own 18 q.length)],[(18,.arr 2 (q.map QW)),(617,.map (QG V.I V.I b))]⟩)) Z (λ⟨D,N⟩ o h=>H c [6] Z<|I h (λg h=>J c [.T,2] Z g<|mE_ (λi:QBg=>⟨[(0,.map 617),(3,.own 18 i.length),(8,.own 8 m.length),(9,.I (m.length:Int)),(10,.I D)],[(8,.arr 1 (m.map Qb)),(18,.arr 2 (i.map QW)),(617,.map (QG V.I V.I b))]⟩) (λi=>DO D i=some o) (B h λa p h=>g3_ c [4,.o (.row (Qb a)),7,.o (.any (.I ((Xb b a).getD 0)) none),3] Z (Yx p Z) (Xz (YV p).2) (λσ s y _=>Qf.lookup (e:=V.I) (f:=V.I) (l:=b) (k:=a) (z:=0) Z Z (QI c.n Z) (s _ _ Z) (y _ _ Z) (s _ _ Z) Gy Ey Qac Z)<|I h (λj h=>X h λt h=>G c [.T,5,.o (.any (.I ((Xb b a).getD 0)) none),.A (QW (a,((Xb b a).getD 0))),.v (.bd []) [] (.sl 2 (([(a,((Xb b a).getD 0))]:QBg).map QW)),.x (λσ=>σ.app 18 2 25 (N++([(a,((Xb b a).getD 0))]:QBg)).length ((N++([(a,((Xb b a).getD 0))]:QBg)).map QW)),3] Z (a5_ j (λσ s y _=>Qf.lookup (e:=V.I) (f:=V.I) (l:=b) (k:=a) (z:=0) Z Z (QI c.n Z) (s _ _ Z) (y _ _ Z) (s _ _ Z) Gy Ey Qac Z) Z Z (Qf.appSB (by_:=16) (zs:=[.I 0,.I 0]) (e:=112) (e':=112) (z':=2) (by':=16) Z Z (QI c.n Z) Z Z Z Qd (by kernel_rfl) (by kernel_rfl) (by kernel_rfl) Z (by decide) (by decide) (Me t Qd) Z JS (Gi Qd)))<|me_ h Z) λj h=>J c [.F,2] Z j<|me_ h Z) λi h=>H c [4] Z<|rN_ h Z) λg h=>J c [.F,2] Z g<|rX_ h Z) λP h=>H c [9,.K [2] [18,617],.ren 18 600] Z<|E h Z r2_
def OJ (b:Int)(a:QBg):O_ ((Int×QBg)⊕QBg):=some (.inl ((Qq (b+1)),a))
def AE (d:LI_)(b:Int)(c:QBg):O_ ((Int×QBg)⊕QBg):=bif (b<(d.length:Int))then (idx d b).bind λa=>bif (0<=a)then OJ b (Jd Ge c a (min2 (Qq (((Xb c a).getD 0)+1)) 1048576))else OJ b c else some (.inr c)
def Vn (b:QBg):O_ QBg:=(DT b).bind λa=>some a
def NO (a:LI_):O_ QBg:=(QQ (λst=>AE a st.1 st.2) (0,([]:QBg))).bind (λq=>Vn q)
def Qdh (i):CT 54 [.sl 1 (i.map Qb)] [] (NO i) (λr=>(.own 600 r.length)) (λr=>[(600,.arr 2 (r.map QW))]):=
 W 25 func54 Z λC c r h=>K c [8,.O 6 (.map (QG V.I V.I ([]:QBg))),7,.o (.ln i.length),4] Z Z Qd<|lp_ h (λst=>⟨[(3,.map 6),(7,.sl 1 (i.map Qb)),(8,.I (i.length:Int)),(9,.I st.1)],[(6,.map (QG V.I V.I st.2))]⟩) (λq=>(.exit 0,⟨[(3,.map 6)],[(6,.map (QG V.I V.I q))]⟩)) Z (λ⟨u,m⟩ o h=>H c [6] Z<|I h (λj h=>J c [.T,2] Z j<|mE_ (λg:QBg=>⟨[(3,.map 6),(7,.sl 1 (i.map Qb)),(8,.I (i.length:Int)),(9,.I u)],[(6,.map (QG V.I V.I g))]⟩) (λg=>OJ u g=some o) (B h λa p h=>J c [3,.o (.row (Qb a)),10] Z (Xd p)<|I h (λb h=>g3_ c [.T,5,.o (.any (.I ((Xb m a).getD 0)) none),2,.x (λσ=>σ.set 6 (.map (QG V.I V.I (Jd Ge m a (min2 (Qq (((Xb m a).getD 0)+1)) 1048576))))),2] Z b (λσ w y _=>Qf.lookup (e:=V.I) (f:=V.I) (l:=m) (k:=a) (z:=0) Z Z (QI c.n Z) (w _ _ Z) (y _ _ Z) (w _ _ Z) Gy Ey Qac Z) (Qf.mapUpdate (e:=V.I) (f:=V.I) (l:=m) (k:=a) (v:=(min2 (Qq (((Xb m a).getD 0)+1)) 1048576)) Ge Z Z Z Z Z Z Gy Ey Z)<|me_ h Z) λb h=>J c [.F,2] Z b<|me_ h Z) λg h=>H c [4] Z<|rN_ h Z) λj h=>J c [.F,2] Z j<|rX_ h Z) λD h=>B h λs t h=>J c [5,.cm (.fn) [(617,6)] [(24,600),(6,617)] [] [.d] [(600,.arr 2 (s.map QW)),(617,.map (QG V.I V.I D))] (.own 600 s.length),4,.K [2] [24],.ren 24 600] Z (Fc _ _ t)<|E h Z r1_
def WM (d:QBg)(a:Int)(c:Int):O_ ((Int×Int)⊕(Unit⊕Unit)):=
 bif (c<(d.length:Int))then
 (idx d c).bind λb=>
 bif ((b.1<=a)||((b.2<1)||(1048576<b.2)))then
 some (.inr (.inl ()))
 else
 some (.inl (b.1,(Qq (c+1))))
 else
 some (.inr (.inr ()))
def NP : O_ Bool:=some false
def NQ : O_ Bool:=some true
def Db (a:QBg):O_ Bool:=(QQ (λst=>WM a st.1 st.2) ((-1),0)).bind (Sum.elim (λq=>NP) (λq=>NQ))
def Bi (i):CT 75 [.sl 2 (i.map QW)] [] (Db i) V.b no_:=
 W 29 func75 Z λC f r h=>J f [14,.o (.ln i.length),4] Z Qd<|lq_ h (λst=>⟨[(3,.I st.1),(6,.sl 2 (i.map QW)),(7,.I (i.length:Int)),(8,.I st.2)],[]⟩) (λq=>(.ret,⟨[(2,.b false)],[]⟩)) (λq=>(.exit 0,⟨[],[]⟩)) Z (λ⟨a,l⟩ o h=>H f [6] Z<|I h (λj h=>B h λd k h=>g4_ f [.T,6,.o (.row (QW d)),.A (QW d),2,.O 5 (.var (QW d)),4] Z j (Xd k) Z Z<|Y ⟨[lk_ 5,(6,.sl 2 (i.map QW)),(7,.I (i.length:Int)),(8,.I l),(25,.b ((d.1<=a)||((d.2<1)||(1048576<d.2))))],[(5,.var (QW d))]⟩ (H f [6] Z<|bO_ (decide (d.1<=a)) (λc=>G f [.S 16 (.b true),10,.S 25 (.b ((d.1<=a)||((d.2<1)||(1048576<d.2))))] Z ⟨(tc_ c),(cb_ (Gc c Z))⟩<|M Z) λc=>L f [.S 16 (.b false),5] Z c<|bO_ (decide (d.2<1)) (λe=>G f [.S 21 (.b true),5,.S 25 (.b ((d.1<=a)||((d.2<1)||(1048576<d.2))))] Z ⟨(tc_ e),(cb_ (JM c (Gc e Z)))⟩<|M Z) λe=>G f [.S 21 (.b false),5,.S 25 (.b ((d.1<=a)||((d.2<1)||(1048576<d.2))))] Z ⟨(tc_ e),(cb_ (JM c (JM e Z)))⟩<|M Z)<|H f [1] Z<|I h (λg h=>J f [.T,9] Z g<|rR_ h Z) λg h=>J f [.F,13] Z g<|rN_ h Z) λj h=>J f [.F,2] Z j<|rX_ h Z) (λ_ h=>H f [2] Z<|E h Z U) (λ_ h=>H f [8] Z<|E h Z U)
def AF (c:QBg)(b:Int)(d:QBg):O_ ((Int×QBg)⊕QBg):=bif (b<(c.length:Int))then (idx c b).bind λa=>some (.inl ((Qq (b+1)),(Jd Ge d a.1 a.2)))else some (.inr d)
def Qdi (a:QBg):O_ (Unit⊕QBg):=some (.inr a)
def LK (a:QBg):O_ (Unit⊕QBg):=(Db a).bind λb=>bif (!b)then some (.inl ())else (QQ (λst=>AF a st.1 st.2) (0,([]:QBg))).bind (λq=>Qdi q)
def ES (m){r}(h:LK m=some r):QX prog 103 [.sl 2 (m.map QW)] [] ((Sum.elim (λq=>(Gives (.tup [.lit (.map none),.b false]) [])) (λq=>(Gives (.tup [.map 601,.b true]) [(601,.map (QG V.I V.I q))]))) r):=by
 refine wk_ 24 func103 λC i=>?_
 obtain⟨y,t,h⟩:=Qp h
 refine Qg i [10,.o (.C1 (.b y)),3] Z (A (Bi _ _ t)) ?_
 refine bg_ h (λj h=>Qg i [.T,8,.K [2,3] []] rfl (A j) ?_) λj h=>Qg i [.F,5,.O 10 (.map (QG V.I V.I ([]:QBg))),7,.o (.ln m.length),4,.K [4,11,12,13] [10]] rfl (a3_ j rfl Qd) ?_
 ·cases h
  exact AK.done (ex_ [_,_] (an_ (an_ Z (an_ Z U)) (gives U)))
 obtain⟨u,p,h⟩:=Qp h
 refine AK.loop (body:=(λst=>AF m st.1 st.2)) (λst σ=>σ=⟨[(4,.map 10),(11,.sl 2 (m.map QW)),(12,.I (m.length:Int)),(13,.I st.1)],[(10,.map (QG V.I V.I st.2))]⟩) (λq e σ=>e=.exit 0/\σ=⟨[(4,.map 10)],[(10,.map (QG V.I V.I q))]⟩) p rfl ?_ ?_
 ·rintro ⟨z,w⟩ o σ rfl h
  refine tg_ i [6] ?_
  rcases Xn h with⟨g,h⟩|⟨g,h⟩
  ·obtain⟨a,s,h⟩:=Qp h
   refine Qg i [.T,6,.o (.row (QW a)),.A (QW a),2,.O 6 (.var (QW a)),8,.x (λσ=>σ.set 10 (.map (QG V.I V.I (Jd Ge w a.1 a.2)))),7,.K [4,11,12,13] [10]] Z (a5_ g (Xd s) Z Z (Qf.mapUpdate (e:=V.I) (f:=V.I) (l:=w) (k:=a.1) (v:=a.2) Ge Z Z Z Z Z Z Gy Ey Z)) ?_
   cases h
   exact Pi Z Z
  refine Qg i [.F,2,.K [4] [10]] Z (A g) ?_
  cases h
  exact RF Z (an_ Z Z)
 replace h:Qdi u=some r:=h
 rintro e σ ⟨rfl,rfl⟩
 refine tg_ i [10,.K [2,3] [10],.ren 10 601,.K [2,3] [601]] ?_
 cases h
 exact AK.done (ex_ [_,_] (an_ (an_ Z (an_ Z U)) (gives r1_)))
def QaE (a:Unit):O_ (Unit⊕(QBg⊕(QBg⊕(QBg×QBg)))):=some (.inl ())
def QaF (a:QBg):O_ (Unit⊕(QBg⊕(QBg⊕(QBg×QBg)))):=some (.inr (.inl a))
def Pk (a:QBg)(b:Unit):O_ (Unit⊕(QBg⊕(QBg⊕(QBg×QBg)))):=(LK a).bind (Sum.elim (λq=>QaE q) (λq=>QaF q))
def QaG (a:QBg)(b:Unit):O_ (Unit⊕(QBg⊕(QBg⊕(QBg×QBg)))):=some (.inr (.inr (.inl a)))
def QaH (b:QBg)(a:QBg):O_ (Unit⊕(QBg⊕(QBg⊕(QBg×QBg)))):=some (.inr (.inr (.inr (b,a))))
def Pm (b:QBg)(a:QBg):O_ (Unit⊕(QBg⊕(QBg⊕(QBg×QBg)))):=(LK b).bind (Sum.elim (λq=>QaG a q) (λq=>QaH a q))
def HQ (b:QBg)(a:QBg):O_ (Unit⊕(QBg⊕(QBg⊕(QBg×QBg)))):=(LK b).bind (Sum.elim (λq=>Pk a q) (λq=>Pm a q))
def JF (s j){r}(h:HQ s j=some r):QX prog 88 [.sl 2 (s.map QW),.sl 2 (j.map QW)] [] ((Sum.elim (λq=>(Gives (.tup [.lit (.map none),.lit (.map none),.b false]) [])) (Sum.elim (λq=>(Gives (.tup [.lit (.map none),.map 603,.b false]) [(603,.map (QG V.I V.I q))])) (Sum.elim (λq=>(Gives (.tup [.map 602,.lit (.map none),.b false]) [(602,.map (QG V.I V.I q))])) (λq=>(Gives (.tup [.map 602,.map 603,.b true]) [(602,.map (QG V.I V.I q.1)),(603,.map (QG V.I V.I q.2))]))))) r):=by
 refine wk_ 25 func88 λC e=>?_
 obtain⟨t,f,h⟩:=Qp h
 refine tg_ e [10] ?_
 rcases t with(u | k)
 ·replace h:Pk j u=some r:=h
  obtain⟨l,a,h⟩:=Qp h
  refine Qg e [.cm (.fn) [] [] [] [.d] [] (.tup [.lit (.map none),.b false]),10] Z (A (ES _ f)) ?_
  rcases l with(m | g)
  ·replace h:QaE m=some r:=h
   refine Qg e [.cm (.fn) [] [] [] [.d] [] (.tup [.lit (.map none),.b false]),21,.K [4,5,6] []] Z (A (ES _ a)) ?_
   cases h
   exact AK.done (ex_ [_,_,_] (an_ (an_ Z (an_ Z (an_ Z U))) (gives U)))
  replace h:QaF g=some r:=h
  refine Qg e [.cm (.fn) [] [(16,601)] [] [.d] [(601,.map (QG V.I V.I g))] (.tup [.map 601,.b true]),21,.K [4,5,6] [16],.ren 16 603,.K [4,5,6] [603]] Z (A (ES _ a)) ?_
  cases h
  exact AK.done (ex_ [_,_,_] (an_ (an_ Z (an_ Z (an_ Z U))) (gives r1_)))
 replace h:Pm j k=some r:=h
 obtain⟨o,c,h⟩:=Qp h
 refine Qg e [.cm (.fn) [] [(11,601)] [] [.d] [(601,.map (QG V.I V.I k))] (.tup [.map 601,.b true]),10] Z (A (ES _ f)) ?_
 rcases o with(p | i)
 ·replace h:QaG k p=some r:=h
  refine Qg e [.cm (.fn) [] [] [] [.d] [] (.tup [.lit (.map none),.b false]),21,.K [4,5,6] [11],.ren 11 602,.K [4,5,6] [602]] Z (A (ES _ c)) ?_
  cases h
  exact AK.done (ex_ [_,_,_] (an_ (an_ Z (an_ Z (an_ Z U))) (gives r1_)))
 replace h:QaH k i=some r:=h
 refine Qg e [.cm (.fn) [] [(16,601)] [] [.d] [(601,.map (QG V.I V.I i))] (.tup [.map 601,.b true]),21,.K [4,5,6] [11,16],.ren 11 602,.K [4,5,6] [16,602],.ren 16 603,.K [4,5,6] [602,603]] Z (A (ES _ c)) ?_
 cases h
 exact AK.done (ex_ [_,_,_] (an_ (an_ Z (an_ Z (an_ Z U))) (gives r2_)))
def Qby (a:Unit):O_ (QBg×Int):=some (([]:QBg),1)
def Qbz (a:QBg):O_ (QBg×Int):=some (([]:QBg),1)
def QbA (a:QBg):O_ (QBg×Int):=some (([]:QBg),1)
def Bj (b:QBg)(a:Int)(c:Int):O_ (QBg⊕Unit):=bif (1048576<((Xb (Jd Ge b a (Qq (((Xb b a).getD 0)+c))) a).getD 0))then some (.inr ())else some (.inl (Jd Ge b a (Qq (((Xb b a).getD 0)+c))))
def MF (a:QBg):O_ (QBg×Int):=(DT a).bind λb=>some (b,0)
def RL : O_ (QBg×Int):=some (([]:QBg),2)
def RM (a:(QBg×QBg)):O_ (QBg×Int):=(Cw (λst p=>Bj st p.1 p.2) a.1 a.2).bind (Sum.elim (λq=>MF q) (λq=>RL))
def Ji (a:QBg)(b:QBg):O_ (QBg×Int):=(HQ a b).bind (Sum.elim (λq=>Qby q) (Sum.elim (λq=>Qbz q) (Sum.elim (λq=>QbA q) (λq=>RM q))))
def RN (a1 b2):CT 53 [.sl 2 (a1.map QW),.sl 2 (b2.map QW)] [] (Ji a1 b2) (λr=>(.tup [.sl 2 (r.1.map QW),.I r.2])) no_:=by
 refine W 38 func53 rfl λC g r h=>?_
 obtain⟨x7,w,h⟩:=Qp h
 refine tg_ g [10] ?_
 rcases x7 with(a8 | (a9 | (P | y)))
 ·exact have h:Qby a8=some r:=h;J g [.cm (.fn) [] [] [] [.d,.d] [] (.tup [.lit (.map none),.lit (.map none),.b false]),25,.denil 4 [some 2]] Z (JF _ _ w)<|F h Z Z U
 ·exact have h:Qbz a9=some r:=h;J g [.cm (.fn) [] [(14,603)] [] [.d,.d] [(603,.map (QG V.I V.I a9))] (.tup [.lit (.map none),.map 603,.b false]),25,.denil 4 [some 2]] Z (JF _ _ w)<|F h Z Z U
 ·exact have h:QbA P=some r:=h;J g [.cm (.fn) [] [(14,602)] [] [.d,.d] [(602,.map (QG V.I V.I P))] (.tup [.map 602,.lit (.map none),.b false]),25,.denil 4 [some 2]] Z (JF _ _ w)<|F h Z Z U
 replace h:RM y=some r:=h
 refine Qg g [.cm (.fn) [] [(14,602),(609,603)] [] [.d,.d] [(602,.map (QG V.I V.I y.1)),(603,.map (QG V.I V.I y.2))] (.tup [.map 602,.map 603,.b true]),23] Z (A (JF _ _ w)) ?_
 refine AK.openMapK (b:=609) Ey rfl λs t L12 D a2 N=>?_
 refine Qg g [.x (λσ=>(σ.set 21 (.itr s t #[] none)).put 21 (.L 21)),3,.K [6,21] [14,21,609]] Z (A (Qf.range (b:=609) Z Z (QI g.n Z) Z Z Gy Z)) ?_
 obtain⟨a3,S,h⟩:=Qp h
 refine AK.range (body:=(λst p=>Bj st p.1 p.2)) (λst seen σ=>∃cur:O_ Nat,σ=⟨[(6,.map 14),lk_ 21],[(14,.map (QG V.I V.I st)),(21,.itr s t seen cur),(609,.mapX s t (CZ V.I V.I L12) (QG V.I V.I y.2))]⟩) (λq e σ=>e=.ret/\σ=⟨[(4,.Y),(5,.I 2)],[]⟩) (λst e σ=>e=.exit 0/\σ=⟨[(6,.map 14)],[(14,.map (QG V.I V.I st))]⟩) D N S (ex_ _ rfl) ?_ ?_
 ·rintro a seen σ ⟨cur,rfl⟩ hex
  refine tg_ g [2] ?_
  refine AK.nextT (b:=21) (m:=609) rfl rfl rfl (QI g.n rfl) rfl rfl rfl rfl ?_ ?_
  ·intro hleft
   refine tg_ g [7,.K [6] [14]] ?_
   exact AK.done (Or.inl (an_ hleft (an_ (λh=>(by cases h)) (an_ Z Z))))
  intro a4 c j i
  obtain⟨o,h⟩:=hex _ i
  have ho:=h
  replace h:Bj a c j=some o:=h
  refine Qg g [10,.x (λσ=>σ.put 24 (.tup [.I c,.I j])),10,.o (.any (.I ((Xb a c).getD 0)) none),2,.x (λσ=>σ.set 14 (.map (QG V.I V.I (Jd Ge a c (Qq (((Xb a c).getD 0)+j)))))),6,.o (.any (.I ((Xb (Jd Ge a c (Qq (((Xb a c).getD 0)+j))) c).getD 0)) none),3] Z (a4_ (Qf.entryT (b:=21) (m:=609) (e:=V.I) (f:=V.I) Z Z (QI g.n Z) Z i Z Z) (λσ h1 h2 _=>Qf.lookup (e:=V.I) (f:=V.I) (l:=a) (k:=c) (z:=0) Z Z (QI g.n Z) (h1 _ _ Z) (h2 _ _ Z) (h1 _ _ Z) Gy Ey Qac Z) (Qf.mapUpdate (e:=V.I) (f:=V.I) (l:=a) (k:=c) (v:=(Qq (((Xb a c).getD 0)+j))) Ge Z Z Z Z Z Z Gy Ey Z) (λσ h1 h2 _=>Qf.lookup (e:=V.I) (f:=V.I) (l:=(Jd Ge a c (Qq (((Xb a c).getD 0)+j)))) (k:=c) (z:=0) Z Z (QI g.n Z) (h1 _ _ Z) (h2 _ _ Z) (h1 _ _ Z) Gy Ey Qac Z)) ?_
  refine bq_ g h [.T,8,.K [4,5] []] rfl (λu h=>?_) [.F,2,.K [6,21] [14,21,609]] rfl λu h=>?_
  ·cases h
   exact AK.done (Or.inr (ex_ _ (an_ i (Or.inr (ex_ _ (an_ ho (an_ (λh=>(by cases h)) (an_ Z Z))))))))
  cases h
  exact AK.done (Or.inr (ex_ _ (an_ i (Or.inl (ex_ _ (an_ ho (an_ Z (ex_ _ Z))))))))
 rcases a3 with(a | _)
 ·replace h:MF a=some r:=h
  unfold MF at h
  rintro e σ ⟨rfl,rfl⟩
  exact B h λO a0 h=>K g [5,.cm (.fn) [(617,14)] [(37,600),(14,617)] [] [.d] [(600,.arr 2 (O.map QW)),(617,.map (QG V.I V.I a))] (.own 600 O.length),5,.frz 37 (O.map QW) [4] []] Z (Fc _ _ a0) (A (Wr Qd))<|F h Z Z U
 replace h:RL=some r:=h
 unfold RL at h
 rintro e σ ⟨rfl,rfl⟩
 exact H g [2,.denil 4 [some 2]] Z<|F h Z Z U
def GN (b:QMk)(c:Int)(a:QBg):O_ ((Int×QMk)⊕QMk):=(chk ((b.length+([a]:L_ QBg).length)*24<=140737488355328)).bind λ_=>some (.inl ((Qq (c+1)),(b++([a]:L_ QBg))))
def MG (e:Ql)(b:Int)(d:QMk):O_ ((Int×QMk)⊕QMk):=bif (b<(e.Places.length:Int))then (idx e.Places b).bind λf=>(YN f.First).bind λa=>bif (b==e.From)then (NO ([0]:L_ Int)).bind λg=>(Ji a g).bind λc=>bif (c.2==0)then GN d b c.1 else GN d b a else GN d b a else some (.inr d)
def QeF (a:QMk):O_ QMk:=some a
def Ul (a:Ql):O_ QMk:=(QQ (λst=>MG a st.1 st.2) (0,([]:L_ QBg))).bind (λq=>QeF q)
def Tl (i):CT 27 [.agg (Qa i)] [] (Ul i) (λr=>(.own 600 r.length)) (λr=>[(600,.arr 1 (r.map Qm))]):=
 W 40 func27 Z λC b r h=>g3_ b [16,.o (.ln i.Places.length),4,.adopt 3 34 1,.O 34 (.arr 1 (([]:L_ QBg).map Qm)),.S 3 (.own 34 ([]:L_ QBg).length)] Z Qd Z (congrArg (λn=>V.own 34 n) (by simp))<|lp_ h (λst=>⟨[lk_ 1,(3,.own 34 st.2.length),(10,.sl 3 (i.Places.map QH)),(11,.I (i.Places.length:Int)),(12,.I st.1)],[(1,.var (Qa i)),(34,.arr 1 (st.2.map Qm))]⟩) (λq=>(.exit 0,⟨[(3,.own 34 q.length)],[(34,.arr 1 (q.map Qm))]⟩)) Z (λ⟨D,p⟩ o h=>H b [6] Z<|I h (λk h=>B h λl s h=>B h λj t h=>G b [.T,7,.o (.row (QH l)),.A (QH l),3,.O 5 (.var (QH l)),6,.o (.co false [.d] 2 (j.map QW) j.length),3] Z (a5_ k (Xd s) Z Z ⟨(UN _ _ t),Qd,.inl Z⟩)<|mE_ (λa:QBg=>⟨[lk_ 1,(3,.own 34 p.length),(6,.sl 2 (a.map QW)),(10,.sl 3 (i.Places.map QH)),(11,.I (i.Places.length:Int)),(12,.I D)],[(1,.var (Qa i)),(34,.arr 1 (p.map Qm))]⟩) (λa=>GN p D a=some o) (H b [8] Z<|I h (λf h=>B h λm u h=>B h λw y h=>G b [.T,3,.v (.bd []) [] (.sl 1 (([0]:L_ Int).map Qb)),.o (.co false [.d] 2 (m.map QW) m.length),.frz 27 (m.map QW) [27] [],.frz 19 (j.map QW) [6,19,25] [],.o (.C2 (.tup [.sl 2 (w.1.map QW),.I w.2])),13] Z (a6_ f Z ⟨(Qdh _ _ u),Qd,.inl Z⟩ (A (Wr Qd)) (a3_ (Wr Qd) (Wr Qd) (Wr Qd)) (RN _ _ _ y))<|I h (λg h=>J b [.T,4] Z g<|me_ h Z) λg h=>J b [.F,1] Z g<|me_ h Z) λf h=>K b [.F,1,.frz 19 (j.map QW) [6] []] Z f (A (Wr Qd))<|me_ h Z) λa h=>X h λz h=>K b [3,.v (.bd []) [] (.sl 1 (([a]:L_ QBg).map Qm)),.x (λσ=>σ.app 34 1 37 (p++([a]:L_ QBg)).length ((p++([a]:L_ QBg)).map Qm)),8] Z Z (Qf.appSB (by_:=24) (zs:=[.Y]) (e:=99) (e':=99) (z':=1) (by':=24) Z Z (QI b.n Z) Z Z Z Qd (by kernel_rfl) (by kernel_rfl) (by kernel_rfl) Z (by decide) (by decide) (Me z Qd) Z JS (Gi Qd))<|rN_ h Z) λk h=>J b [.F,2] Z k<|rX_ h Z) λN h=>H b [9,.K [2] [34],.ren 34 600] Z<|E h Z r1_
def Bk (a:Ql):O_ QT:=(Ul a).bind λb=>some (QT.mk b ([]:L_ Qw) 1 0)
def MH (b):CT 9 [.agg (Qa b)] [] (Bk b) (λr=>(.agg (Qt r))) no_:=by
 refine W 6 func9 rfl λC e r h=>?_
 obtain⟨a,c,h⟩:=Qp h
 refine Qg e [8,.A (Qa b),.o (.co false [.d] 1 (a.map Qm) a.length),.A [.own 4 a.length,.Y,.I 1,.I 0],1,.O 2 (.var [.own 4 a.length,.Y,.I 1,.I 0]),3,.frz 4 (a.map Qm) [] [2],.denilO 2 [none,some 11,none,none],.O 2 (.var (Qt (QT.mk a ([]:L_ Qw) 1 0))),.K [2] [2]] Z (a6_ Z ⟨(Tl _ _ c),Qd,.inl Z⟩ Z Z (A ⟨(Wr Qd),U⟩) Z) ?_
 cases h
 exact AK.done (ex_ [_] (an_ (an_ (ex_ _ (ex_ _ (an_ Z (an_ Z (Or.inl (an_ (Qe.ag Z) (an_ (Qe.sz Z) Z))))))) U) (gives U)))
def JC (a:QMk):O_ QMk:=(chk ((([]:L_ QBg).length+a.length)*24<=140737488355328)).bind λ_=>some (([]:L_ QBg)++a)
def FQ (b):CT 104 [.sl 1 (b.map Qm)] [] (JC b) (λr=>(.own 600 r.length)) (λr=>[(600,.arr 1 (r.map Qm))]):=by
 refine W 8 func104 rfl λC a r h=>?_
 unfold JC at h
 refine tg_ a [9] ?_
 refine AK.eqNil rfl rfl rfl (QI a.n rfl) rfl rfl QmV ?_ ?_
 ·intro c
  replace h:some ([]:L_ QBg)=some r:=by simpa[chk,List.map_eq_nil_iff.1 c] using h
  exact K a [10,.adopt 2 600 1,.O 600 (.arr 1 (([]:L_ QBg).map Qm)),.S 2 (.own 600 ([]:L_ QBg).length)] Z Z Z<|E h Z r1_
 exact X h λd h=>g3_ a [8,.O 5 (.arr 1 (([]:L_ QBg).map Qm)),.S 5 (.own 5 ([]:L_ QBg).length),1,.x (λσ=>σ.app 5 1 7 (([]:L_ QBg)++b).length ((([]:L_ QBg)++b).map Qm)),4,.K [2] [5],.ren 5 600] Z Z Z (Qf.appSB (by_:=24) (zs:=[.Y]) (e:=99) (e':=99) (z':=1) (by':=24) Z Z (QI a.n Z) Z Z Z Qd (by kernel_rfl) (by kernel_rfl) (by kernel_rfl) Z (by decide) (by decide) (Me d Qd) Z JS (Gi Qd))<|E h Z r1_
def HR (e:QMk)(a:Int)(b:QMk):O_ ((Int×QMk)⊕QMk):=bif (a<(e.length:Int))then (idx b a).bind λc=>(YN c).bind λd=>(idx b a).bind λf=>some (.inl ((Qq (a+1)),(b.set a.toNat d)))else some (.inr b)
def QfN (a:QMk):O_ QMk:=some a
def IT (b:QMk):O_ QMk:=(JC b).bind λa=>(QQ (λst=>HR a st.1 st.2) (0,a)).bind (λq=>QfN q)
def VU (s):CT 59 [.sl 1 (s.map Qm)] [] (IT s) (λr=>(.own 600 r.length)) (λr=>[(600,.arr 1 (r.map Qm))]):=
 W 22 func59 Z λC f r h=>B h λi j h=>J f [8,.o (.co false [.d] 1 (i.map Qm) i.length),12] Z ⟨(FQ _ _ j),Qd,.inl Z⟩<|lp_ h (λst=>⟨[(3,.own 7 st.2.length),(8,.own 7 st.2.length),(9,.I (i.length:Int)),(10,.I st.1)],[(7,.arr 1 (st.2.map Qm))]⟩) (λq=>(.exit 0,⟨[(3,.own 7 q.length)],[(7,.arr 1 (q.map Qm))]⟩)) Z (λ⟨k,l⟩ o h=>H f [6] Z<|I h (λb h=>B h λm c h=>B h λa g h=>B h λp e h=>G f [.T,8,.o (.row (Qm m)),8,.o (.co false [.d] 2 (a.map QW) a.length),1,.frz 18 (a.map QW) [18] [],.st (Qm p) ((l.set k.toNat a).map Qm),7,.S 3 (.own 7 (l.set k.toNat a).length),.S 8 (.own 7 (l.set k.toNat a).length)] Z (a9_ b (Yx c Z) (Xz (YV c).2) ⟨(UN _ _ g),Qd,.inl Z⟩ (Yx e Z) (A (Wr Qd)) ⟨(Xz (YV e).2),Ug Z⟩ (congrArg (λn=>V.own 7 n) (by simp)) (congrArg (λn=>V.own 7 n) (by simp)))<|rN_ h Z) λb h=>J f [.F,2] Z b<|rX_ h Z) λt h=>H f [9,.K [2] [7],.ren 7 600] Z<|E h Z r1_
def YX (a:(L_ Qw)):O_ (L_ Qw):=(chk ((([]:L_ Qw).length+a.length)*136<=140737488355328)).bind λ_=>some (([]:L_ Qw)++a)
def HS (b):CT 60 [.sl 11 (b.map Qn)] [] (YX b) (λr=>(.own 600 r.length)) (λr=>[(600,.arr 11 (r.map Qn))]):=by
 refine W 8 func60 rfl λC a r h=>?_
 unfold YX at h
 refine tg_ a [9] ?_
 refine AK.eqNil rfl rfl rfl (QI a.n rfl) rfl rfl QmW ?_ ?_
 ·intro c
  replace h:some ([]:L_ Qw)=some r:=by simpa[chk,List.map_eq_nil_iff.1 c] using h
  exact K a [10,.adopt 2 600 11,.O 600 (.arr 11 (([]:L_ Qw).map Qn)),.S 2 (.own 600 ([]:L_ Qw).length)] Z Z Z<|E h Z r1_
 exact X h λd h=>g3_ a [8,.O 5 (.arr 11 (([]:L_ Qw).map Qn)),.S 5 (.own 5 ([]:L_ Qw).length),1,.x (λσ=>σ.app 5 11 7 (([]:L_ Qw)++b).length ((([]:L_ Qw)++b).map Qn)),4,.K [2] [5],.ren 5 600] Z Z Z (Qf.appSB (by_:=136) (zs:=[.I 0,.I 0,.Y,.Y,.Y,.I 0,.I 0,.I 0,.I 0,.I 0,.I 0]) (e:=90) (e':=90) (z':=11) (by':=136) Z Z (QI a.n Z) Z Z Z Qd (by kernel_rfl) (by kernel_rfl) (by kernel_rfl) Z (by decide) (by decide) (Me d Qd) Z JS (Gi Qd))<|E h Z r1_
def Xs (a:LI_):O_ LI_:=(chk ((([]:L_ Int).length+a.length)*8<=140737488355328)).bind λ_=>some (([]:L_ Int)++a)
def XO (b):CT 61 [.sl 1 (b.map Qb)] [] (Xs b) (λr=>(.own 600 r.length)) (λr=>[(600,.arr 1 (r.map Qb))]):=by
 refine W 8 func61 rfl λC a r h=>?_
 unfold Xs at h
 refine tg_ a [9] ?_
 refine AK.eqNil rfl rfl rfl (QI a.n rfl) rfl rfl QmX ?_ ?_
 ·intro c
  replace h:some ([]:L_ Int)=some r:=by simpa[chk,List.map_eq_nil_iff.1 c] using h
  exact K a [10,.adopt 2 600 1,.O 600 (.arr 1 (([]:L_ Int).map Qb)),.S 2 (.own 600 ([]:L_ Int).length)] Z Z Z<|E h Z r1_
 exact X h λd h=>g3_ a [8,.O 5 (.arr 1 (([]:L_ Int).map Qb)),.S 5 (.own 5 ([]:L_ Int).length),1,.x (λσ=>σ.app 5 1 7 (([]:L_ Int)++b).length ((([]:L_ Int)++b).map Qb)),4,.K [2] [5],.ren 5 600] Z Z Z (Qf.appSB (by_:=8) (zs:=[.I 0]) (e:=3) (e':=3) (z':=1) (by':=8) Z Z (QI a.n Z) Z Z Z Qd (by kernel_rfl) (by kernel_rfl) (by kernel_rfl) Z (by decide) (by decide) (Me d Qd) Z JS (Gi Qd))<|E h Z r1_
def Gz (h:(L_ Qw))(c:Int)(d:(L_ Qw)):O_ ((Int×(L_ Qw))⊕(L_ Qw)):=bif (c<(h.length:Int))then (idx d c).bind λa=>(Xs a.Mode.Vars).bind λe=>(Xs a.Mode.Ins).bind λf=>(Xs a.Mode.Outs).bind λg=>(idx d c).bind λb=>some (.inl ((Qq (c+1)),(d.set c.toNat (Qw.mk b.Id (Qk.mk a.Mode.Task e f g) b.Batch b.Until))))else some (.inr d)
def OX (c:QMk)(b:QT)(a:(L_ Qw)):O_ QT:=some (QT.mk c a b.Next b.Now)
def Yp (a:QT):O_ QT:=(IT a.M).bind λc=>(YX a.Items).bind λb=>(QQ (λst=>Gz b st.1 st.2) (0,b)).bind (λq=>OX c a q)
def YB (f):CT 31 [.agg (Qt f)] [] (Yp f) (λr=>(.agg (Qt r))) no_:=by
 refine W 43 func31 rfl λC l r h=>?_
 obtain⟨p,a0,h⟩:=Qp h
 obtain⟨x,a1,h⟩:=Qp h
 refine tg_ l [7,.K [1,2] [1,2]] ?_
 refine AK.draw2 Qe l mixed [.N,.N,.B (.cd false [.d] 1 (p.map Qm) p.length),.N,.N,.B (.co false [.d] 11 (x.map Qn) x.length),.N,.m .s,.N,.m .s] [] [] [1,2] [1,2,11] rfl rfl rfl ⟨⟨U,⟨(VU _ _ a0),Qd⟩⟩,⟨(HS _ _ a1),Qd,.inl rfl⟩⟩ rfl (by kernel_rfl) rfl rfl rfl ?_
 refine Qg l [.O 1 (.var [.sl 1 (p.map Qm),.own 11 x.length,.I f.Next,.I f.Now]),11,.K [1,2,15,16,17] [1,2,11]] Z (A Z) ?_
 obtain⟨w,y,h⟩:=Qp h
 refine AK.loop (body:=(λst=>Gz x st.1 st.2)) (λst σ=>σ=⟨[lk_ 1,lk_ 2,(15,.own 11 st.2.length),(16,.I (x.length:Int)),(17,.I st.1)],[(1,.var [.sl 1 (p.map Qm),.own 11 st.2.length,.I f.Next,.I f.Now]),(2,.var [.Y,.Y,.I 0,.I 0]),(11,.arr 11 (st.2.map Qn))]⟩) (λq e σ=>e=.exit 0/\σ=⟨[lk_ 1,lk_ 2],[(1,.var [.sl 1 (p.map Qm),.own 11 q.length,.I f.Next,.I f.Now]),(2,.var [.Y,.Y,.I 0,.I 0]),(11,.arr 11 (q.map Qn))]⟩) y rfl ?_ ?_
 ·rintro ⟨x6,l7⟩ o σ rfl h
  refine tg_ l [6] ?_
  rcases Xn h with⟨k,h⟩|⟨k,h⟩
  ·obtain⟨c,t,h⟩:=Qp h
   obtain⟨g,z,h⟩:=Qp h
   obtain⟨i,D,h⟩:=Qp h
   obtain⟨j,P,h⟩:=Qp h
   obtain⟨b,u,h⟩:=Qp h
   refine Qg l [.T,8,.v (.row (Qn c)) [] (.agg (Qn c)),3,.O 4 (.var (Qn c)),5,.A (Qo c.Mode),2,.O 5 (.var (Qo c.Mode)),2,.K [1,2,3,5,15,16,17] [1,2,5,11]] Z (a7_ k (Yx t Z) (Xz (YV t).2) Z Z Z Z) ?_
   refine AK.draw2 Qe l mixed [.N,.N,.N,.N,.N,.N,.N,.B (.cd false [.d] 1 (g.map Qb) g.length),.N,.N,.B (.cd false [.d] 1 (i.map Qb) i.length),.N,.N,.B (.cd false [.d] 1 (j.map Qb) j.length),.E (.agg (Qo (Qk.mk c.Mode.Task g i j))),.N,.N,.m (.st (Qn b) ((l7.set x6.toNat (Qw.mk b.Id (Qk.mk c.Mode.Task g i j) b.Batch b.Until)).map Qn))] [] [] [1,2,15,16,17] [1,2,11] rfl rfl rfl ⟨⟨⟨⟨⟨⟨U,⟨(XO _ _ z),Qd⟩⟩,⟨(XO _ _ D),Qd⟩⟩,⟨(XO _ _ P),Qd⟩⟩,rfl⟩,(Yx u rfl)⟩,⟨(Xz (YV u).2),Ug rfl⟩⟩ rfl (by kernel_rfl) rfl rfl rfl ?_
   refine Qg l [6,.S 15 (.own 11 (l7.set x6.toNat (Qw.mk b.Id (Qk.mk c.Mode.Task g i j) b.Batch b.Until)).length),.O 1 (.var [.sl 1 (p.map Qm),.own 11 (l7.set x6.toNat (Qw.mk b.Id (Qk.mk c.Mode.Task g i j) b.Batch b.Until)).length,.I f.Next,.I f.Now]),.K [1,2,15,16,17] [1,2,11]] Z (a2_ (congrArg (λn=>V.own 11 n) (by simp)) (congrArg (λn=>Ob.var [.sl 1 (p.map Qm),.own 11 n,.I f.Next,.I f.Now]) (by simp))) ?_
   cases h
   exact Pi Z Z
  refine Qg l [.F,2,.K [1,2] [1,2,11]] Z (A k) ?_
  cases h
  exact RF Z (an_ Z Z)
 replace h:OX p f w=some r:=h
 rintro e σ ⟨rfl,rfl⟩
 refine Qg l [6,.O 2 (.var [.sl 1 (p.map Qm),.own 11 w.length,.I f.Next,.I f.Now]),3,.frz 11 (w.map Qn) [] [2],.K [2] [2]] Z (a2_ Z (A ⟨(Wr Qd),U⟩)) ?_
 cases h
 exact AK.done (ex_ [_] (an_ (an_ (ex_ _ (ex_ _ (an_ Z (an_ Z (Or.inl (an_ (Qe.ag Z) (an_ (Qe.sz Z) Z))))))) U) (gives U)))
def WN : O_ (Unit⊕(Unit⊕(Unit⊕(Unit⊕Unit)))):=some (.inl ())
def GA (a:QB):O_ (Unit⊕(Unit⊕(Unit⊕(Unit⊕Unit)))):=bif (a.call.Do==1)then some (.inr (.inl ()))else bif (a.call.Do==2)then WN else bif (a.call.Do==3)then WN else bif (a.call.Do==4)then WN else bif (a.call.Do==5)then some (.inr (.inr (.inl ())))else bif (a.call.Do==6)then some (.inr (.inr (.inr (.inl ()))))else some (.inr (.inr (.inr (.inr ()))))
def WO (b){r}(h:GA b=some r):QX prog 35 [.L 617] [(617,.var (Qx b))] ((Sum.elim (λq=>(Gives (.clo (.func 71) [.L 617] []) [(617,.var (Qx b))])) (Sum.elim (λq=>(Gives (.clo (.func 70) [.L 617] []) [(617,.var (Qx b))])) (Sum.elim (λq=>(Gives (.clo (.func 72) [.L 617] []) [(617,.var (Qx b))])) (Sum.elim (λq=>(Gives (.clo (.func 73) [.L 617] []) [(617,.var (Qx b))])) (λq=>(Gives (.lit (.nilFunc)) [(617,.var (Qx b))])))))) r):=by
 refine wk_ 28 func35 λC a=>?_
 refine tg_ a [20] ?_
 refine AK.meet (λσ=>σ=⟨[(0,.L 617)],[(617,.var (Qx b))]⟩/\WN=some r) ?_ ?_
 ·refine tg_ a [13] ?_
  refine bq_ a h [.T,25,.K [2] [617]] rfl (λc h=>?_) [.F,9] rfl λc h=>?_
  ·cases h
   exact AK.done (ex_ [_] (an_ (an_ Z U) (gives r1_)))
  refine bq_ a h [.T,8,.K [0] [617]] rfl (λd h=>?_) [.F,9] rfl λd h=>?_
  ·exact AK.met (an_ Z h)
  refine bq_ a h [.T,8,.K [0] [617]] rfl (λe h=>?_) [.F,9] rfl λe h=>?_
  ·exact AK.met (an_ Z h)
  refine bq_ a h [.T,8,.K [0] [617]] rfl (λf h=>?_) [.F,9] rfl λf h=>?_
  ·exact AK.met (an_ Z h)
  refine bq_ a h [.T,25,.K [2] [617]] rfl (λg h=>?_) [.F,8] rfl λg h=>?_
  ·cases h
   exact AK.done (ex_ [_] (an_ (an_ Z U) (gives r1_)))
  refine bq_ a h [.T,24,.K [2] [617]] rfl (λi h=>?_) [.F,21,.K [2] [617]] rfl λi h=>?_
  ·cases h
   exact AK.done (ex_ [_] (an_ (an_ Z U) (gives r1_)))
  cases h
  exact AK.done (ex_ [_] (an_ (an_ Z U) (gives r1_)))
 rintro σ ⟨rfl,h⟩
 refine tg_ a [16,.K [2] [617]] ?_
 cases h
 exact AK.done (ex_ [_] (an_ (an_ Z U) (gives r1_)))
def Lr (a:Int)(b:Int):O_ Int:=bif (b<a)then some 0 else some (Qq ((Qq (min2 (IntKind.u64.wrap ((IntKind.u64.wrap b)-(IntKind.u64.wrap a))) 1024))+1))
def Qdt (a b):CT 324 [.I a,.I b] [] (Lr a b) V.I no_:=
 W 16 func324 Z λC d r h=>H d [13] Z<|I h (λc h=>J d [.T,7] Z c<|E h Z U) λc h=>g4_ d [.F,5,.o (.any (.i .u64 (IntKind.u64.wrap b)) none),1,.o (.any (.i .u64 (IntKind.u64.wrap a)) none),2,.o (.any (.I (Qq (min2 (IntKind.u64.wrap ((IntKind.u64.wrap b)-(IntKind.u64.wrap a))) 1024))) none),5] Z c (λσ e f _=>Qf.convI Z Z (QI d.n Z) (e _ _ Z) QhM Qbx) (λσ e f _=>Qf.convI Z Z (QI d.n Z) (e _ _ Z) QhM Qbx) (λσ e f _=>Qf.convI Z Z (QI d.n Z) (e _ _ Z) Qbx QhM)<|E h Z U
def Al (a:Int):O_ Bool:=
 some (bif (97<=a)then((a<=122)||((65<=a)&&(a<=90)))else((65<=a)&&(a<=90)))
def OY (a):CT 303 [.i .u8 a] [] (Al a) V.b no_:=
 W 17 func303 Z λC e r h=>H e [6] Z<|Y ⟨[(2,.b (bif (97<=a)then((a<=122)||((65<=a)&&(a<=90)))else((65<=a)&&(a<=90))))],[]⟩ (H e [4] Z<|bO_ (decide (97<=a)) (λc=>L e [.S 5 (.b true),4] Z c<|bO_ (decide (a<=122)) (λd=>G e [.S 9 (.b true),9,.S 2 (.b (bif (97<=a)then((a<=122)||((65<=a)&&(a<=90)))else((65<=a)&&(a<=90))))] Z ⟨(tc_ d),(cb_ (QiR c (Gc d Z)))⟩<|M Z) λd=>L e [.S 9 (.b false),3] Z d<|bO_ (decide (65<=a)) (λf=>G e [.S 12 (.b true),6,.S 2 (.b (bif (97<=a)then((a<=122)||((65<=a)&&(a<=90)))else((65<=a)&&(a<=90))))] Z ⟨(tc_ f),(cb_ (QiR c (JM d (Jv f Z))))⟩<|M Z) λf=>G e [.S 12 (.b false),6,.S 2 (.b (bif (97<=a)then((a<=122)||((65<=a)&&(a<=90)))else((65<=a)&&(a<=90))))] Z ⟨(tc_ f),(cb_ (QiR c (JM d (WC f Z))))⟩<|M Z) λc=>L e [.S 5 (.b false),7] Z c<|bO_ (decide (65<=a)) (λg=>G e [.S 12 (.b true),6,.S 2 (.b (bif (97<=a)then((a<=122)||((65<=a)&&(a<=90)))else((65<=a)&&(a<=90))))] Z ⟨(tc_ g),(cb_ (QkF c (Jv g Z)))⟩<|M Z) λg=>G e [.S 12 (.b false),6,.S 2 (.b (bif (97<=a)then((a<=122)||((65<=a)&&(a<=90)))else((65<=a)&&(a<=90))))] Z ⟨(tc_ g),(cb_ (QkF c (WC g Z)))⟩<|M Z)<|H e [2] Z<|E h Z U
def RO (a:ByteArray):O_ Bool:=bif (BY a (⟨#[]⟩:ByteArray))then some true else bif (32<(a.size:Int))then some true else (sidx a 0).bind λb=>(Al b).bind λc=>some (!c)
def RP (a:Int):O_ Bool:=(Al a).bind λb=>bif (!b)then bif (a<48)then some (a != 95)else bif (57<a)then some (a != 95)else some false else some false
def RQ (a:Int)(b:Bool):O_ (Int⊕(Unit⊕Unit)):=bif b then some (.inr (.inl ()))else some (.inl (Qq (a+1)))
def LL (d:ByteArray)(a:Int):O_ (Int⊕(Unit⊕Unit)):=bif (a<(d.size:Int))then (sidx d a).bind λb=>(RP b).bind (λc=>RQ a c)else some (.inr (.inr ()))
def LM : O_ Bool:=some false
def LN : O_ Bool:=some true
def RS (a:ByteArray)(b:Bool):O_ Bool:=bif b then some false else (QQ (λst=>LL a st) 0).bind (Sum.elim (λq=>LM) (λq=>LN))
def Af (a:ByteArray):O_ Bool:=(RO a).bind (λb=>RS a b)
def LO (l):CT 240 [.s l] [] (Af l) V.b no_:=
 W 42 func240 Z λC a r h=>H a [7] Z<|mV_ h (λw=>⟨[(0,.s l),(17,.b w)],[]⟩) (λw h=>H a [4] Z<|I h (λm h=>L a [.S 7 (.b true),11] Z m<|mq_ h Z) λm h=>L a [.S 7 (.b false),5] Z m<|I h (λp h=>L a [.S 12 (.b true),6] Z p<|mq_ h Z) λp h=>B h λO x h=>B h λP y h=>G a [.S 12 (.b false),1,.o (.num O),.o (.C1 (.b P)),3] Z ⟨⟨(tc_ p),x⟩,(OY _ _ y)⟩<|mq_ h Z) λw h=>H a [1] Z<|I h (λe h=>J a [.T,7] Z e<|E h Z U) λe h=>J a [.F,11] Z e<|lq_ h (λst=>⟨[(0,.s l),(19,.I (l.size:Int)),(20,.I st)],[]⟩) (λq=>(.ret,⟨[(2,.b false)],[]⟩)) (λq=>(.exit 0,⟨[],[]⟩)) Z (λz o h=>H a [6] Z<|I h (λf h=>B h λD u h=>K a [.T,14,.o (.num D),4] Z f u<|mV_ h (λt=>⟨[(0,.s l),(19,.I (l.size:Int)),(20,.I z),(40,.b t)],[]⟩) (λt h=>B h λN v h=>J a [2,.o (.C1 (.b N)),2] Z (OY _ _ v)<|I h (λg h=>L a [.S 29 (.b true),3] Z g<|I h (λi h=>L a [.S 32 (.b true),9] Z i<|mq_ h Z) λi h=>L a [.S 32 (.b false),5] Z i<|I h (λj h=>L a [.S 37 (.b true),4] Z j<|mq_ h Z) λj h=>L a [.S 37 (.b false),4] Z j<|mq_ h Z) λg h=>L a [.S 29 (.b false),12] Z g<|mq_ h Z) λt h=>H a [1] Z<|I h (λk h=>J a [.T,8] Z k<|rR_ h Z) λk h=>J a [.F,7] Z k<|rN_ h Z) λf h=>J a [.F,2] Z f<|rX_ h Z) (λ_ h=>H a [2] Z<|E h Z U) (λ_ h=>H a [8] Z<|E h Z U)
def Pz (a:ByteArray)(c:QSB):O_ Bool:=(Af a).bind λb=>bif (!b)then some true else some ((Xb c a).getD false)
def PA (c:Int)(d:QSB)(a:ByteArray)(b:Bool):O_ ((Int×QSB)⊕(Unit⊕Unit)):=bif b then some (.inr (.inl ()))else some (.inl ((Qq (c+1)),(Jd ltS d a true)))
def IA (d:(L_ ByteArray))(b:Int)(e:QSB):O_ ((Int×QSB)⊕(Unit⊕Unit)):=bif (b<(d.length:Int))then (idx d b).bind λa=>(Pz a e).bind (λc=>PA b e a c)else some (.inr (.inr ()))
def IB : O_ Bool:=some false
def IC : O_ Bool:=some true
def HT (a:(L_ ByteArray)):O_ Bool:=(QQ (λst=>IA a st.1 st.2) (0,([]:QSB))).bind (Sum.elim (λq=>IB) (λq=>IC))
def QcA (m):CT 325 [.sl 1 (m.map Di)] [] (HT m) V.b no_:=
 W 24 func325 Z λC a r h=>K a [8,.O 6 (.map (QG V.s V.b ([]:QSB))),7,.o (.ln m.length),4] Z Z Qd<|lq_ h (λst=>⟨[(3,.map 6),(7,.sl 1 (m.map Di)),(8,.I (m.length:Int)),(9,.I st.1)],[(6,.map (QG V.s V.b st.2))]⟩) (λq=>(.ret,⟨[(2,.b false)],[]⟩)) (λq=>(.exit 0,⟨[],[]⟩)) Z (λ⟨P,u⟩ o h=>H a [6] Z<|I h (λp h=>B h λg w h=>K a [.T,6,.o (.row (Di g)),6] Z p (Xd w)<|mV_ h (λt=>⟨[(3,.map 6),(5,.s g),(7,.sl 1 (m.map Di)),(8,.I (m.length:Int)),(9,.I P),(20,.b t)],[(6,.map (QG V.s V.b u))]⟩) (λt h=>B h λD y h=>J a [2,.o (.C1 (.b D)),2] Z (LO _ _ y)<|I h (λi h=>L a [.S 16 (.b true),5] Z i<|mq_ h Z) λi h=>G a [.S 16 (.b false),2,.o (.any (.b ((Xb u g).getD false)) none),2] Z ⟨(tc_ i),(λσ N h2 _=>Qf.lookup (e:=V.s) (f:=V.b) (l:=u) (k:=g) (z:=false) Z Z (QI a.n Z) (N _ _ Z) (h2 _ _ Z) (N _ _ Z) QeD Qjk Qk6 Z)⟩<|mq_ h Z) λt h=>H a [1] Z<|I h (λj h=>J a [.T,9] Z j<|rR_ h Z) λj h=>K a [.F,5,.x (λσ=>σ.set 6 (.map (QG V.s V.b (Jd ltS u g true)))),7] Z j (Qf.mapUpdate (e:=V.s) (f:=V.b) (l:=u) (k:=g) (v:=true) ltS Z Z Z Z Z Z QeD Qjk Z)<|rN_ h Z) λp h=>J a [.F,2] Z p<|rX_ h Z) (λ_ h=>H a [2] Z<|E h Z U) (λ_ h=>H a [8] Z<|E h Z U)
def WE : O_ Int:=some 0
def Ls (b:Xh)(a:LI_):O_ Int:=bif (b.Kind==1)then (Lr b.Lo b.Hi).bind λe=>some e else bif (b.Kind==2)then (HT b.Names).bind λf=>bif f then some (b.Names.length:Int)else WE else bif (b.Kind==3)then bif ((0<=(min2 b.First b.Then))&&((max2 b.First b.Then)<(a.length:Int)))then (idx a b.First).bind λc=>(idx a b.Then).bind λd=>some (Qq (c*d))else WE else WE
def Qdu (g e):CT 292 [.agg (QK g),.sl 1 (e.map Qb)] [] (Ls g e) V.I no_:=
 W 51 func292 Z λC f r h=>H f [6] Z<|mU_ ⟨[],[]⟩ (WE=some r) (H f [13] Z<|I h (λl h=>B h λx t h=>K f [.T,6,.o (.C2 (.I x)),6] Z l (Qdt _ _ _ t)<|E h Z U) λl h=>J f [.F,6] Z l<|I h (λm h=>B h λy u h=>K f [.T,4,.o (.C1 (.b y)),2] Z m (QcA _ _ u)<|I h (λp h=>K f [.T,4,.o (.ln g.Names.length),6] Z p Qd<|E h Z U) λp h=>J f [.F,2] Z p<|mu_ h Z) λm h=>J f [.F,6] Z m<|I h (λj h=>J f [.T,1] Z j<|Y ⟨[(1,.sl 1 (e.map Qb)),lk_ 2,(39,.b ((0<=(min2 g.First g.Then))&&((max2 g.First g.Then)<(e.length:Int))))],[(2,.var (QK g))]⟩ (H f [8] Z<|bO_ (decide (0<=(min2 g.First g.Then))) (λi=>G f [.S 30 (.b true),6,.o (.ln e.length),3,.S 39 (.b ((0<=(min2 g.First g.Then))&&((max2 g.First g.Then)<(e.length:Int))))] Z ⟨⟨(tc_ i),Qd⟩,(cb_ (Jv i Z))⟩<|M Z) λi=>G f [.S 30 (.b false),10,.S 39 (.b ((0<=(min2 g.First g.Then))&&((max2 g.First g.Then)<(e.length:Int))))] Z ⟨(tc_ i),(cb_ (WC i Z))⟩<|M Z)<|H f [1] Z<|I h (λk h=>B h λv q h=>B h λw s h=>G f [.T,1] Z (A k) <| 
  dr_ f [.N,.N,.N,.B (.row (Qb v)),.N,.N,.N,.N,.B (.row (Qb w)),.N,.N,.N] [] [] [4] [] Z Z (a2_ (Xd q) (Xd s)) Z <|
  H f [4] Z<|E h Z U) λk h=>J f [.F,2] Z k<|mu_ h Z) λj h=>J f [.F,2] Z j<|mu_ h Z) λh=>H f [6] Z<|E h Z U
def PB (a:Xh)(d:QSB)(b:Int):O_ Bool:=(Af a.Name).bind λc=>bif (!c)then some true else bif ((Xb d a.Name).getD false)then some true else bif (b<1)then some true else some (decide (1024<b))
def PC (a:LI_)(b:Int)(e:Int)(f:QSB)(c:Xh)(d:Bool):O_ ((Int×QSB×LI_)⊕(Unit⊕LI_)):=bif d then some (.inr (.inl ()))else (chk (a.length+([b]:L_ Int).length<=4294967296)).bind λ_=>some (.inl ((Qq (e+1)),(Jd ltS f c.Name true),(a++([b]:L_ Int))))
def ID (f:(L_ Xh))(d:Int)(g:QSB)(a:LI_):O_ ((Int×QSB×LI_)⊕(Unit⊕LI_)):=bif (d<(f.length:Int))then (idx f d).bind λb=>(Ls b a).bind λc=>(PB b g c).bind (λe=>PC a c d g b e)else some (.inr (.inr a))
def QcB : O_ (LI_×Bool):=some (([]:L_ Int),false)
def QcC (a:LI_):O_ (LI_×Bool):=some (a,true)
def Bl (a:(L_ Xh)):O_ (LI_×Bool):=bif (32<(a.length:Int))then some (([]:L_ Int),false)else (QQ (λst=>ID a st.1 st.2.1 st.2.2) (0,([]:QSB),([]:L_ Int))).bind (Sum.elim (λq=>QcB) (λq=>QcC q))
def PE (y):CT 223 [.sl 7 (y.map QK)] [] (Bl y) (λr=>(.tup [.sl 1 (r.1.map Qb),.b r.2])) no_:=
 W 49 func223 Z λC a r h=>J a [10,.o (.ln y.length),3] Z Qd<|I h (λD h=>J a [.T,8,.denil 2 [some 1]] Z D<|F h Z Z U) λD h=>G a [.F,5,.O 12 (.map (QG V.s V.b ([]:QSB))),12,.o (.ln y.length),4,.adopt 5 43 1,.O 43 (.arr 1 (([]:L_ Int).map Qb)),.S 5 (.own 43 ([]:L_ Int).length)] Z (a5_ D Z Qd Z (congrArg (λn=>V.own 43 n) (by simp)))<|lq_ h (λst=>⟨[(4,.map 12),(5,.own 43 st.2.2.length),(13,.sl 7 (y.map QK)),(14,.I (y.length:Int)),(15,.I st.1)],[(12,.map (QG V.s V.b st.2.1)),(43,.arr 1 (st.2.2.map Qb))]⟩) (λq=>(.ret,⟨[(2,.Y),(3,.b false)],[]⟩)) (λq=>(.exit 0,⟨[(5,.own 43 q.length)],[(43,.arr 1 (q.map Qb))]⟩)) Z (λ⟨x8,P,i⟩ o h=>H a [6] Z<|I h (λj h=>B h λg a0 h=>B h λm a1 h=>G a [.T,6,.o (.row (QK g)),.A (QK g),2,.O 7 (.var (QK g)),4,.A (QK g),1,.o (.c true [.d,.o (i.map Qb)] (.I m)),5] Z (a6_ j (Xd a0) Z Z Z ⟨(QfD Z),(Qdu _ _ _ a1)⟩)<|mV_ h (λN=>⟨[(4,.map 12),(5,.own 43 i.length),lk_ 7,(8,.I m),(13,.sl 7 (y.map QK)),(14,.I (y.length:Int)),(15,.I x8),(39,.b N)],[(7,.var (QK g)),(12,.map (QG V.s V.b P)),(43,.arr 1 (i.map Qb))]⟩) (λN h=>B h λa4 a2 h=>J a [3,.o (.C1 (.b a4)),2] Z (LO _ _ a2)<|I h (λp h=>L a [.S 26 (.b true),14] Z p<|mq_ h Z) λp h=>G a [.S 26 (.b false),3,.o (.any (.b ((Xb P g.Name).getD false)) none),2] Z ⟨(tc_ p),(λσ h1 h2 _=>Qf.lookup (e:=V.s) (f:=V.b) (l:=P) (k:=g.Name) (z:=false) Z Z (QI a.n Z) (h1 _ _ Z) (h2 _ _ Z) (h1 _ _ Z) QeD Qjk Qk6 Z)⟩<|I h (λt h=>L a [.S 32 (.b true),8] Z t<|mq_ h Z) λt h=>L a [.S 32 (.b false),4] Z t<|I h (λu h=>L a [.S 36 (.b true),4] Z u<|mq_ h Z) λu h=>L a [.S 36 (.b false),4] Z u<|mq_ h Z) λN h=>H a [1] Z<|I h (λw h=>J a [.T,10] Z w<|rR_ h Z) λw h=>X h λa3 h=>g4_ a [.F,7,.x (λσ=>σ.set 12 (.map (QG V.s V.b (Jd ltS P g.Name true)))),5,.v (.bd []) [] (.sl 1 (([m]:L_ Int).map Qb)),.app ((i++([m]:L_ Int)).map Qb) (i++([m]:L_ Int)).length,8] Z w (Qf.mapUpdate (e:=V.s) (f:=V.b) (l:=P) (k:=g.Name) (v:=true) ltS Z Z Z Z Z Z QeD Qjk Z) Z ⟨Qd,Bd a3 Qd,JS,Gi Qd⟩<|rN_ h Z) λj h=>J a [.F,2] Z j<|rX_ h Z) (λ_ h=>H a [2,.denil 2 [some 1]] Z<|F h Z Z U) (λa5 h=>J a [10,.frz 43 (a5.map Qb) [2] []] Z (A (Wr Qd))<|F h Z Z U)
def ET (a:(L_ Xh))(b:Int):O_ (Bool×YM):=
 (Bl a).bind λc=>
 bif ((!c.2)||((b<0)||((a.length:Int)<=b)))then
 some (false,(YM.mk ([]:(L_ Xh)) ([]:LI_) 0))
 else
 some (true,(YM.mk a c.1 b))
def NR (i e):CT 134 [.sl 7 (i.map QK),.I e] [] (ET i e) (λr=>(.tup [.agg (XG r.2),.b r.1])) no_:=by
 refine W 30 func134 rfl λC k r h=>?_
 obtain⟨j,l,h⟩:=Qp h
 refine Qg k [9,.o (.C1 (.tup [.sl 1 (j.1.map Qb),.b j.2])),9] Z (A (PE _ _ l)) ?_
 refine AK.meetX (λσ=>σ=⟨[(0,.sl 7 (i.map QK)),(1,.I e),lk_ 4,(6,.sl 1 (j.1.map Qb)),(24,.b ((!j.2)||((e<0)||((i.length:Int)<=e))))],[(4,.var [.Y,.Y,.I 0])]⟩) ?_ ?_
 ·exact H k [4] Z<|bO_ (!j.2) (λf=>G k [.S 15 (.b true),10,.S 24 (.b ((!j.2)||((e<0)||((i.length:Int)<=e))))] Z ⟨(tc_ f),(cb_ (Gc f Z))⟩<|M Z) λf=>L k [.S 15 (.b false),4] Z f<|bO_ (decide (e<0)) (λa=>G k [.S 19 (.b true),6,.S 24 (.b ((!j.2)||((e<0)||((i.length:Int)<=e))))] Z ⟨(tc_ a),(cb_ (JM f (Gc a Z)))⟩<|M Z) λa=>G k [.S 19 (.b false),2,.o (.ln i.length),3,.S 24 (.b ((!j.2)||((e<0)||((i.length:Int)<=e))))] Z ⟨⟨(tc_ a),Qd⟩,(cb_ (JM f (JM a Z)))⟩<|M Z
 rintro σ rfl
 refine tg_ k [1] ?_
 refine bg_ h (λg h=>Qg k [.T,2,.v .no [some 7,some 1,none] (.agg (XG (YM.mk ([]:(L_ Xh)) ([]:LI_) 0))),1,.O 4 (.var (XG (YM.mk ([]:(L_ Xh)) ([]:LI_) 0))),5,.K [4,5] [4]] rfl (a3_ g rfl rfl) ?_) λg h=>Qg k [.F,7,.A (XG (YM.mk i j.1 e)),1,.O 4 (.var (XG (YM.mk i j.1 e))),4,.K [4,5] [4]] rfl (a3_ g rfl rfl) ?_
 ·cases h
  exact AK.done (ex_ [_,_] (an_ (an_ (ex_ _ (ex_ _ (an_ Z (an_ Z (Or.inl (an_ (Qe.ag Z) (an_ (Qe.sz Z) Z))))))) (an_ Z U)) (gives U)))
 cases h
 exact AK.done (ex_ [_,_] (an_ (an_ (ex_ _ (ex_ _ (an_ Z (an_ Z (Or.inl (an_ (Qe.ag Z) (an_ (Qe.sz Z) Z))))))) (an_ Z U)) (gives U)))
def YO (c:(L_ Xh))(a:Int):O_ Int:=(ET c a).bind λb=>bif (!b.1)then some 0 else (idx b.2.sizes a).bind λd=>some d
def BZ (j k):CT 74 [.sl 7 (j.map QK),.I k] [] (YO j k) V.I no_:=
 W 20 func74 Z λC e r h=>B h λf g h=>K e [9,.o (.C2 (.tup [.agg (XG f.2),.b f.1])),5,.O 5 (.var (XG f.2)),10] Z (NR _ _ _ g) Z<|I h (λa h=>J e [.T,7] Z a<|E h Z U) λa h=>B h λl i h=>K e [.F,7,.o (.row (Qb l)),5] Z a (Xd i)<|E h Z U
def MI (a:QBg)(b:Int):O_ Bool:=(Db a).bind λc=>bif (!c)then some true else bif (0<(a.length:Int))then (idx a (Qq ((a.length:Int)-1))).bind λd=>some (decide (b<=d.1))else some false
def MJ (b:Int)(a:Bool):O_ (Int⊕(Unit⊕Unit)):=bif a then some (.inr (.inl ()))else some (.inl (Qq (b+1)))
def GO (e:QMk)(f:Ql)(a:Int):O_ (Int⊕(Unit⊕Unit)):=bif (a<(e.length:Int))then (idx e a).bind λg=>(idx f.Places a).bind λb=>(YO f.Colours b.Colour).bind λc=>(MI g c).bind (λd=>MJ a d)else some (.inr (.inr ()))
def QeG : O_ Bool:=some false
def QeH : O_ Bool:=some true
def Um (a:Ql)(b:QMk):O_ Bool:=bif ((b.length:Int) != (a.Places.length:Int))then some false else (QQ (λst=>GO b a st) 0).bind (Sum.elim (λq=>QeG) (λq=>QeH))
def Tm (p j):CT 36 [.agg (Qa p),.sl 1 (j.map Qm)] [] (Um p j) V.b no_:=
 W 50 func36 Z λC e r h=>K e [10,.o (.ln j.length),2,.o (.ln p.Places.length),3] Z Qd Qd<|I h (λk h=>J e [.T,7] Z k<|E h Z U) λk h=>K e [.F,6,.o (.ln j.length),4] Z k Qd<|lq_ h (λst=>⟨[lk_ 2,(14,.sl 1 (j.map Qm)),(15,.I (j.length:Int)),(16,.I st)],[(2,.var (Qa p))]⟩) (λq=>(.ret,⟨[(4,.b false)],[]⟩)) (λq=>(.exit 0,⟨[],[]⟩)) Z (λP o h=>H e [6] Z<|I h (λl h=>B h λw x h=>B h λy s h=>B h λz t h=>G e [.T,7,.o (.row (Qm w)),6] Z (a2_ l (Xd x)) <| 
  dr_ e [.N,.N,.N,.N,.N,.B (.row (QH y)),.N,.N,.B (.C2 (.I z)),.N] [] [] [2,6,7,14,15,16] [2] Z Z (a2_ (Xd s) (BZ _ _ _ t)) Z <|
  H e [2] Z<|mV_ h (λm=>⟨[lk_ 2,(14,.sl 1 (j.map Qm)),(15,.I (j.length:Int)),(16,.I P),(48,.b m)],[(2,.var (Qa p))]⟩) (λm h=>B h λD u h=>J e [2,.o (.C1 (.b D)),2] Z (Bi _ _ u)<|I h (λf h=>L e [.S 33 (.b true),16] Z f<|mq_ h Z) λf h=>G e [.S 33 (.b false),1,.o (.ln w.length),2] Z ⟨(tc_ f),Qd⟩<|I h (λg h=>B h λO v h=>G e [.S 37 (.b true),2,.o (.ln w.length),1,.o (.row (QW O)),7] Z ⟨⟨(tc_ g),Qd⟩,(Xd v)⟩<|mq_ h Z) λg h=>L e [.S 37 (.b false),12] Z g<|mq_ h Z) λm h=>H e [1] Z<|I h (λi h=>J e [.T,8] Z i<|rR_ h Z) λi h=>J e [.F,7] Z i<|rN_ h Z) λl h=>J e [.F,2] Z l<|rX_ h Z) (λ_ h=>H e [2] Z<|E h Z U) (λ_ h=>H e [8] Z<|E h Z U)
def Wz (c:Int)(a:Int)(b:Int):O_ Bool:=some ((a<=c)&&(c<=b))
def WF (e a c):CT 135 [.I e,.I a,.I c] [] (Wz e a c) V.b no_:=
 W 15 func135 Z λC f r h=>H f [6] Z<|Y ⟨[(6,.b ((a<=e)&&(e<=c)))],[]⟩ (H f [5] Z<|bO_ (decide (a<=e)) (λd=>G f [.S 10 (.b true),6,.S 6 (.b ((a<=e)&&(e<=c)))] Z ⟨(tc_ d),(cb_ (Jv d Z))⟩<|M Z) λd=>G f [.S 10 (.b false),6,.S 6 (.b ((a<=e)&&(e<=c)))] Z ⟨(tc_ d),(cb_ (WC d Z))⟩<|M Z)<|H f [2] Z<|E h Z U
def He (a:Xp):O_ Int:=some (Qq ((Qq (a.Open+a.Done))+a.Failed))
def Tn (a):CT 136 [.agg (QD a)] [] (He a) V.I no_:=
 W 11 func136 Z λC b r h=>H b [20] Z<|E h Z U
def MK (a:Xp):O_ Bool:=(Wz a.Most 1 16).bind λb=>bif (!b)then some true else (Wz a.Enough 1 a.Most).bind λc=>some (!c)
def Jj (a:Xp)(b:Int):O_ (Int⊕(Unit⊕Unit)):=bif (b<(([a.Open,a.Done,a.Failed]:L_ Int).length:Int))then (idx ([a.Open,a.Done,a.Failed]:L_ Int) b).bind λc=>(Wz c 0 a.Most).bind λd=>bif (!d)then some (.inr (.inl ()))else some (.inl (Qq (b+1)))else some (.inr (.inr ()))
def QeI : O_ Bool:=some false
def Fw (c:Xp):O_ Bool:=(He c).bind λa=>(Wz a 1 c.Most).bind λb=>some b
def Am (a:Xp)(b:Bool):O_ Bool:=bif b then some false else (QQ (λst=>Jj a st) 0).bind (Sum.elim (λq=>QeI) (λq=>Fw a))
def KF (a:Xp):O_ Bool:=(MK a).bind (λb=>Am a b)
def Fx (e):CT 76 [.agg (QD e)] [] (KF e) V.b no_:=
 W 40 func76 Z λC f r h=>H f [8] Z<|mV_ h (λt=>⟨[lk_ 1,(16,.b t)],[(1,.var (QD e))]⟩) (λt h=>B h λO u h=>J f [3,.o (.C3 (.b O)),2] Z (WF _ _ _ _ u)<|I h (λj h=>L f [.S 9 (.b true),8] Z j<|mq_ h Z) λj h=>B h λP w h=>G f [.S 9 (.b false),4,.o (.C3 (.b P)),3] Z ⟨(tc_ j),(WF _ _ _ _ w)⟩<|mq_ h Z) λt h=>H f [1] Z<|I h (λk h=>J f [.T,7] Z k<|E h Z U) λk h=>g3_ f [.F,11,.v (.bd []) [] (.sl 1 (([e.Open,e.Done,e.Failed]:L_ Int).map Qb)),.o (.ln ([e.Open,e.Done,e.Failed]:L_ Int).length),4] Z k Z Qd<|lq_ h (λst=>⟨[lk_ 1,(23,.sl 1 (([e.Open,e.Done,e.Failed]:L_ Int).map Qb)),(24,.I (([e.Open,e.Done,e.Failed]:L_ Int).length:Int)),(25,.I st)],[(1,.var (QD e))]⟩) (λq=>(.ret,⟨[(2,.b false)],[]⟩)) (λq=>(.exit 0,⟨[lk_ 1],[(1,.var (QD e))]⟩)) Z (λa0 o h=>H f [6] Z<|I h (λg h=>B h λx l h=>B h λy m h=>g3_ f [.T,6,.o (.row (Qb x)),9,.o (.C3 (.b y)),3] Z g (Xd l) (WF _ _ _ _ m)<|I h (λi h=>J f [.T,8] Z i<|rR_ h Z) λi h=>J f [.F,7] Z i<|rN_ h Z) λg h=>J f [.F,2] Z g<|rX_ h Z) (λ_ h=>H f [2] Z<|E h Z U) (λ_ h=>have h:Fw e=some r:=h;B h λz p h=>B h λD s h=>H f [3] Z <| 
  dr_ f [.E (.agg (QD e)),.B (.C1 (.I z)),.N,.N,.B (.C3 (.b D)),.N] [] [] [2] [] Z Z (a3_ Z (Tn _ _ p) (WF _ _ _ _ s)) Z <|
  H f [2] Z<|E h Z U)
def NS (a:Xp):O_ Bool:=(KF a).bind λb=>bif b then bif (a.Enough<=a.Done)then some true else some (a.Open==0)else some false
def NT (a:Bool):O_ Bool:=some a
def Dc (a:Xp):O_ Bool:=(NS a).bind (λb=>NT b)
def NU (g):CT 77 [.agg (QD g)] [] (Dc g) V.b no_:=
 W 17 func77 Z λC a r h=>H a [7] Z<|mV_ h (λi=>⟨[(2,.b i)],[]⟩) (λi h=>B h λk j h=>K a [1,.A (QD g),.o (.C1 (.b k)),1] Z Z (Fx _ _ j)<|I h (λe h=>L a [.S 5 (.b true),6] Z e<|I h (λf h=>L a [.S 11 (.b true),7] Z f<|mq_ h Z) λf h=>L a [.S 11 (.b false),7] Z f<|mq_ h Z) λe h=>L a [.S 5 (.b false),13] Z e<|mq_ h Z) λi h=>H a [2] Z<|E h Z U
def LP (a:Qw)(b:Int)(h:Int):O_ Bool:=bif (a.Id<=b)then some true else bif (h<=a.Id)then some true else bif (a.Until<0)then some true else (KF a.Batch).bind λc=>bif (!c)then some true else (Dc a.Batch).bind λd=>some d
def RT (a:Qw)(c:Int)(b:Bool):O_ ((Int×Int)⊕(Unit⊕Unit)):=bif b then some (.inr (.inl ()))else some (.inl (a.Id,(Qq (c+1))))
def DU (e:(L_ Qw))(h:Int)(a:Int)(c:Int):O_ ((Int×Int)⊕(Unit⊕Unit)):=bif (c<(e.length:Int))then (idx e c).bind λb=>(LP b a h).bind (λd=>RT b c d)else some (.inr (.inr ()))
def Qdv : O_ Bool:=some false
def Qdw (a:(L_ Qw)):O_ Bool:=some (decide ((a.length:Int)<=64))
def Lt (a:(L_ Qw))(h:Int):O_ Bool:=(QQ (λst=>DU a h st.1 st.2) (0,0)).bind (Sum.elim (λq=>Qdv) (λq=>Qdw a))
def Qdx (f D):CT 37 [.sl 11 (f.map Qn),.I D] [] (Lt f D) V.b no_:=
 W 46 func37 Z λC a r h=>J a [14,.o (.ln f.length),4] Z Qd<|lq_ h (λst=>⟨[(0,.sl 11 (f.map Qn)),(1,.I D),(5,.I st.1),(8,.sl 11 (f.map Qn)),(9,.I (f.length:Int)),(10,.I st.2)],[]⟩) (λq=>(.ret,⟨[(4,.b false)],[]⟩)) (λq=>(.exit 0,⟨[(0,.sl 11 (f.map Qn))],[]⟩)) Z (λ⟨w,z⟩ o h=>H a [6] Z<|I h (λm h=>B h λe s h=>g4_ a [.T,6,.o (.row (Qn e)),.A (Qn e),2,.O 7 (.var (Qn e)),4] Z m (Xd s) Z Z<|mV_ h (λp=>⟨[(0,.sl 11 (f.map Qn)),(1,.I D),lk_ 7,(8,.sl 11 (f.map Qn)),(9,.I (f.length:Int)),(10,.I z),(39,.b p)],[(7,.var (Qn e))]⟩) (λp h=>H a [6] Z<|I h (λg h=>L a [.S 18 (.b true),22] Z g<|mq_ h Z) λg h=>L a [.S 18 (.b false),6] Z g<|I h (λi h=>L a [.S 24 (.b true),16] Z i<|mq_ h Z) λi h=>L a [.S 24 (.b false),5] Z i<|I h (λj h=>L a [.S 29 (.b true),11] Z j<|mq_ h Z) λj h=>B h λx t h=>G a [.S 29 (.b false),1,.A (QD e.Batch),.o (.C1 (.b x)),3] Z ⟨⟨(tc_ j),Z⟩,(Fx _ _ t)⟩<|I h (λk h=>L a [.S 35 (.b true),5] Z k<|mq_ h Z) λk h=>B h λy u h=>G a [.S 35 (.b false),1,.A (QD e.Batch),.o (.C1 (.b y)),2] Z ⟨⟨(tc_ k),Z⟩,(NU _ _ u)⟩<|mq_ h Z) λp h=>H a [1] Z<|I h (λl h=>J a [.T,9] Z l<|rR_ h Z) λl h=>J a [.F,13] Z l<|rN_ h Z) λm h=>J a [.F,2] Z m<|rX_ h Z) (λ_ h=>H a [2] Z<|E h Z U) (λ_ h=>J a [5,.o (.ln f.length),5] Z Qd<|E h Z U)
def UF (a:Int)(b:YM):O_ Bool:=bif (0<=a)then (idx b.sizes b.k).bind λc=>some (decide (a<c))else some false
def QaO (a:Bool):O_ Bool:=some a
def WG (a:YM)(b:Int):O_ Bool:=(UF b a).bind (λc=>QaO c)
def NI (f g):CT 224 [.agg (XG f),.I g] [] (WG f g) V.b no_:=
 W 17 func224 Z λC c r h=>H c [7] Z<|mV_ h (λd=>⟨[(4,.b d)],[]⟩) (λd h=>H c [4] Z<|I h (λa h=>B h λi e h=>G c [.S 7 (.b true),5,.o (.row (Qb i)),5] Z ⟨(tc_ a),(Xd e)⟩<|mq_ h Z) λa h=>L c [.S 7 (.b false),11] Z a<|mq_ h Z) λd h=>H c [2] Z<|E h Z U
def Wn (a:YM):O_ Xh:=(idx a.all a.k).bind λb=>some b
def AG (c):CT 225 [.agg (XG c)] [] (Wn c) (λr=>(.agg (QK r))) no_:=by
 refine W 9 func225 rfl λC d r h=>?_
 obtain⟨a,b,h⟩:=Qp h
 refine Qg d [12,.o (.row (QK a)),.A (QK a),1,.O 2 (.var (QK a)),3,.K [2] [2]] Z (a3_ (Xd b) Z Z) ?_
 cases h
 exact AK.done (ex_ [_] (an_ (an_ (ex_ _ (ex_ _ (an_ Z (an_ Z (Or.inl (an_ (Qe.ag Z) (an_ (Qe.sz Z) Z))))))) U) (gives U)))
def Hf (b:(Bool×YM))(c:Int):O_ Bool:=bif (!b.1)then some true else (WG b.2 c).bind λa=>some (!a)
def Hg (c:(Bool×YM))(d:Int)(e:Bool):O_ (Int×Bool):=bif e then some (0,false)else (Wn c.2).bind λa=>bif (a.Kind==1)then (Wn c.2).bind λb=>some ((Qq (b.Lo+d)),true)else some (d,true)
def GP (c:(L_ Xh))(d:Int)(a:Int):O_ (Int×Bool):=(ET c d).bind λb=>(Hf b a).bind (λe=>Hg b a e)
def QbB (x y q):CT 137 [.sl 7 (x.map QK),.I y,.I q] [] (GP x y q) (λr=>(.tup [.I r.1,.b r.2])) no_:=
 W 36 func137 Z λC a r h=>B h λi s h=>K a [10,.o (.C2 (.tup [.agg (XG i.2),.b i.1])),5,.O 8 (.var (XG i.2)),6] Z (NR _ _ _ s) Z<|mV_ h (λt=>⟨[(2,.I q),lk_ 8,(16,.b t)],[(8,.var (XG i.2))]⟩) (λt h=>H a [4] Z<|I h (λe h=>L a [.S 19 (.b true),7] Z e<|mq_ h Z) λe h=>B h λu j h=>G a [.S 19 (.b false),.A (XG i.2),1,.o (.C2 (.b u)),4] Z ⟨⟨(tc_ e),Z⟩,(NI _ _ _ j)⟩<|mq_ h Z) λt h=>H a [1] Z<|I h (λf h=>J a [.T,9] Z f<|F h Z Z U) λf h=>B h λk l h=>g4_ a [.F,2,.A (XG i.2),.o (.C1 (.agg (QK k))),.o (.any (.I k.Kind) none),4] Z f Z (AG _ _ l) (λσ w z _=>Qf.field Z Z (QI a.n Z) (w _ _ Z) Qk2 Z)<|I h (λg h=>B h λm p h=>g4_ a [.T,2,.A (XG i.2),.o (.C1 (.agg (QK m))),.o (.any (.I m.Lo) none),9] Z g Z (AG _ _ p) (λσ w z _=>Qf.field Z Z (QI a.n Z) (w _ _ Z) Qk3 Z)<|F h Z Z U) λg h=>J a [.F,11] Z g<|F h Z Z U
def Cy (d:QS)(b:LI_)(h:Ql)(a:Int)(c:LI_):O_ ((Int×LI_)⊕(Unit⊕LI_)):=bif (a<(d.Vars.length:Int))then (idx d.Vars a).bind λf=>(idx b a).bind λg=>(GP h.Colours f.Colour g).bind λe=>bif (!e.2)then some (.inr (.inl ()))else (idx c a).bind λi=>some (.inl ((Qq (a+1)),(c.set a.toNat e.1)))else some (.inr (.inr c))
def QgP : O_ (LI_×Int):=some (([]:L_ Int),1)
def QgQ (a:LI_):O_ (LI_×Int):=some (a,0)
def Gk (d:Ql)(a:Int)(c:LI_):O_ (LI_×Int):=
 bif ((a<0)||((d.Tasks.length:Int)<=a))then
 some (([]:L_ Int),3)
 else
 (idx d.Tasks a).bind λb=>
 bif ((c.length:Int) != (b.Vars.length:Int))then
 some (([]:L_ Int),1)
 else
 (chk (decide (0<=(b.Vars.length:Int))&&decide ((b.Vars.length:Int)<=(b.Vars.length:Int))&&decide ((b.Vars.length:Int)<=4294967296))).bind λ_=>
 (QQ (λst=>Cy b c d st.1 st.2) (0,(List.replicate (b.Vars.length:Int).toNat (0:Int)))).bind (Sum.elim (λq=>QgP) (λq=>QgQ q))
def Pn (t e f):CT 78 [.agg (Qa t),.I e,.sl 1 (f.map Qb)] [] (Gk t e f) (λr=>(.tup [.sl 1 (r.1.map Qb),.I r.2])) no_:=
 W 64 func78 Z λC g r h=>H g [9] Z<|Y ⟨[(1,.I e),(2,.sl 1 (f.map Qb)),lk_ 3,(22,.b ((e<0)||((t.Tasks.length:Int)<=e)))],[(3,.var (Qa t))]⟩ (H g [4] Z<|bO_ (decide (e<0)) (λj=>G g [.S 16 (.b true),7,.S 22 (.b ((e<0)||((t.Tasks.length:Int)<=e)))] Z ⟨(tc_ j),(cb_ (Gc j Z))⟩<|M Z) λj=>G g [.S 16 (.b false),3,.o (.ln t.Tasks.length),3,.S 22 (.b ((e<0)||((t.Tasks.length:Int)<=e)))] Z ⟨⟨(tc_ j),Qd⟩,(cb_ (JM j Z))⟩<|M Z)<|H g [1] Z<|I h (λk h=>J g [.T,8,.denil 6 [some 1]] Z k<|F h Z Z U) λk h=>B h λi x h=>g4_ g [.F,7,.o (.row (Qi i)),9,.o (.ln f.length),1,.o (.ln i.Vars.length),3] Z k (Xd x) Qd Qd<|I h (λl h=>J g [.T,8,.denil 6 [some 1]] Z l<|F h Z Z U) λl h=>X h λy h=>G g [.F,5,.o (.ln i.Vars.length),.o (.rows ((List.replicate (i.Vars.length:Int).toNat (0:Int)).map Qb)),.S 36 (.own 36 (List.replicate (i.Vars.length:Int).toNat (0:Int)).length),7,.o (.ln i.Vars.length),4] Z (a5_ l Qd ⟨y,QjH Z⟩ (by simp) Qd)<|lq_ h (λst=>⟨[(2,.sl 1 (f.map Qb)),lk_ 3,(9,.own 36 st.2.length),(37,.sl 2 (i.Vars.map Xg)),(38,.I (i.Vars.length:Int)),(39,.I st.1)],[(3,.var (Qa t)),(36,.arr 1 (st.2.map Qb))]⟩) (λq=>(.ret,⟨[(6,.Y),(7,.I 1)],[]⟩)) (λq=>(.exit 0,⟨[(9,.own 36 q.length)],[(36,.arr 1 (q.map Qb))]⟩)) Z (λ⟨z,D⟩ o h=>H g [6] Z<|I h (λm h=>B h λw P h=>B h λa2 a0 h=>B h λs a1 h=>G g [.T,7,.o (.row (Xg w)),.A (Xg w),3,.O 11 (.var (Xg w)),3] Z (a4_ m (Xd P) Z Z) <| 
  dr_ g [.N,.N,.N,.N,.N,.N,.B (.row (Qb a2)),.N,.B (.C3 (.tup [.I s.1,.b s.2])),.N,.N,.N,.N,.N] [] [] [2,3,9,10,12,13,37,38,39] [3,36] Z Z (a2_ (Xd a0) (QbB _ _ _ _ a1)) Z <|
  H g [8] Z<|I h (λp h=>J g [.T,10] Z p<|rR_ h Z) λp h=>B h λa3 u h=>g4_ g [.F,7,.st (Qb a3) ((D.set z.toNat s.1).map Qb),7,.S 9 (.own 36 (D.set z.toNat s.1).length)] Z p (Yx u Z) ⟨(Xz (YV u).2),Ug Z⟩ (congrArg (λn=>V.own 36 n) (by simp))<|rN_ h Z) λm h=>J g [.F,2] Z m<|rX_ h Z) (λ_ h=>H g [2,.denil 6 [some 1]] Z<|F h Z Z U) (λa4 h=>J g [10,.frz 36 (a4.map Qb) [6] []] Z (A (Wr Qd))<|F h Z Z U)
def ML (c:Qv)(h:Qv->O_ Int)(d:Int)(a:Int):O_ ((Int×Int)⊕Int):=bif (a<(c.Kids.length:Int))then (idx c.Kids a).bind λe=>(h e).bind λb=>some (.inl ((max2 d b),(Qq (a+1))))else some (.inr d)
def Tp (a:Int):O_ Int:=some (Qq (a+1))
def NV (h:Qv->O_ Int)(a:Qv):O_ Int:=(QQ (λst=>ML a h st.1 st.2) (0,0)).bind (λq=>Tp q)
def DV : Nat->Qv->O_ Int
 | 0,_=>none
 | n+1,a=>NV (DV n) a
def RU (a:Qv):O_ Int:=DV (SizeOf.sizeOf a) a
def QcD (y:Qv->O_ Int)(D:∀(a:Qv) {r:Int},y a=some r->QX prog 254 [.agg (Qy a)] [] (Gives (.I r) []))(a:Qv):CT 254 [.agg (Qy a)] [] (NV y a) V.I no_:=
 W 20 func254 Z λC e r h=>J e [16,.o (.ln a.Kids.length),4] Z (HO _)<|lp_ h (λst=>⟨[(3,.I st.1),(7,.sl 3 (Ja a.Kids)),(8,.I (a.Kids.length:Int)),(9,.I st.2)],[]⟩) (λq=>(.exit 0,⟨[(3,.I q)],[]⟩)) Z (λ⟨k,l⟩ o h=>H e [6] Z<|I h (λb h=>B h λg i h=>B h λj f h=>G e [.T,6,.o (.row (Qy g)),.A (Qy g),2,.O 5 (.var (Qy g)),4,.A (Qy g),.o (.C1 (.I j)),9] Z (a6_ b (Gj i) Z Z Z (D _ f))<|rN_ h Z) λb h=>J e [.F,2] Z b<|rX_ h Z) λm h=>H e [10] Z<|E h Z U
def PF : ∀(fuel:Nat) (a:Qv) {r:Int},DV fuel a=some r->QX prog 254 [.agg (Qy a)] [] (Gives (.I r) [])
 | 0,_,_,h=>by cases h
 | n+1,a,_,h=>QcD (DV n) (λ_ _ h=>PF n _ h) a _ h
def QeJ (a){r}(h:RU a=some r):QX prog 254 [.agg (Qy a)] [] (Gives (.I r) []):=PF _ a h
def NW (c:Qv)(h:Qv->O_ Int)(d:Int)(a:Int):O_ ((Int×Int)⊕Int):=bif (a<(c.Kids.length:Int))then (idx c.Kids a).bind λe=>(h e).bind λb=>some (.inl ((Qq (d+b)),(Qq (a+1))))else some (.inr d)
def VV (a:Int):O_ Int:=some a
def Po (h:Qv->O_ Int)(a:Qv):O_ Int:=(QQ (λst=>NW a h st.1 st.2) (1,0)).bind (λq=>VV q)
def Ec : Nat->Qv->O_ Int
 | 0,_=>none
 | n+1,a=>Po (Ec n) a
def Vo (a:Qv):O_ Int:=Ec (SizeOf.sizeOf a) a
def Qdy (y:Qv->O_ Int)(D:∀(a:Qv) {r:Int},y a=some r->QX prog 255 [.agg (Qy a)] [] (Gives (.I r) []))(a:Qv):CT 255 [.agg (Qy a)] [] (Po y a) V.I no_:=
 W 19 func255 Z λC e r h=>J e [16,.o (.ln a.Kids.length),4] Z (HO _)<|lp_ h (λst=>⟨[(3,.I st.1),(7,.sl 3 (Ja a.Kids)),(8,.I (a.Kids.length:Int)),(9,.I st.2)],[]⟩) (λq=>(.exit 0,⟨[(3,.I q)],[]⟩)) Z (λ⟨k,l⟩ o h=>H e [6] Z<|I h (λb h=>B h λg i h=>B h λj f h=>G e [.T,6,.o (.row (Qy g)),.A (Qy g),2,.O 5 (.var (Qy g)),4,.A (Qy g),.o (.C1 (.I j)),9] Z (a6_ b (Gj i) Z Z Z (D _ f))<|rN_ h Z) λb h=>J e [.F,2] Z b<|rX_ h Z) λm h=>H e [9] Z<|E h Z U
def RV : ∀(fuel:Nat) (a:Qv) {r:Int},Ec fuel a=some r->QX prog 255 [.agg (Qy a)] [] (Gives (.I r) [])
 | 0,_,_,h=>by cases h
 | n+1,a,_,h=>Qdy (Ec n) (λ_ _ h=>RV n _ h) a _ h
def QfO (a){r}(h:Vo a=some r):QX prog 255 [.agg (Qy a)] [] (Gives (.I r) []):=RV _ a h
def Bm (a:Int)(b:Bool):O_ Int:=bif b then some 1 else bif (a==5)then some 2 else bif (a==6)then some 3 else some (-1)
def Bn (a:Int)(b:Bool):O_ Int:=bif b then some 0 else bif (a==3)then Bm a (a==3)else Bm a (a==4)
def OK (a:Int):O_ Int:=bif (a==1)then Bn a (a==1)else Bn a (a==2)
def QfP (a):CT 307 [.I a] [] (OK a) V.I no_:=
 W 14 func307 Z λC c r h=>H c [12] Z<|mE_ (λk:Bool=>⟨[(3,.I a),(4,.b k)],[]⟩) (λk=>Bn a k=some r) (H c [6] Z<|I h (λd h=>J c [.T,1] Z d<|me_ h Z) λd h=>J c [.F,4] Z d<|me_ h Z) λk h=>I h (λf h=>J c [.T,8] Z f<|E h Z U) λf h=>J c [.F] Z f<|mE_ (λl:Bool=>⟨[(3,.I a),(7,.b l)],[]⟩) (λl=>Bm a l=some r) (H c [6] Z<|I h (λe h=>J c [.T,1] Z e<|me_ h Z) λe h=>J c [.F,4] Z e<|me_ h Z) λl h=>I h (λg h=>J c [.T,8] Z g<|E h Z U) λg h=>J c [.F,6] Z g<|I h (λi h=>J c [.T,8] Z i<|E h Z U) λi h=>J c [.F,6] Z i<|I h (λj h=>J c [.T,8] Z j<|E h Z U) λj h=>J c [.F,9] Z j<|E h Z U
def MM (DM:Int):O_ Bool:=some ((1<=DM)&&(DM<=11))
def QeK (DM):CT 308 [.I DM] [] (MM DM) V.b no_:=
 W 9 func308 Z λC c r h=>H c [6] Z<|Y ⟨[(2,.b ((1<=DM)&&(DM<=11)))],[]⟩ (H c [4] Z<|bO_ (decide (1<=DM)) (λa=>G c [.S 5 (.b true),5,.S 2 (.b ((1<=DM)&&(DM<=11)))] Z ⟨(tc_ a),(cb_ (Jv a Z))⟩<|M Z) λa=>G c [.S 5 (.b false),5,.S 2 (.b ((1<=DM)&&(DM<=11)))] Z ⟨(tc_ a),(cb_ (WC a Z))⟩<|M Z)<|H c [2] Z<|E h Z U
def NX (h:Qv->Int->O_ Bool)(a:Qv)(b:Int):O_ Bool:=(h a b).bind λc=>some (!c)
def QcE (y:Qv->Int->O_ Bool)(D:∀(i:Qv) (a:Int) {r:Bool},y i a=some r->QX prog 256 [.agg (Qy i),.I a] [] (Gives (.b r) []))(e:Qv)(f:Int):CT 310 [.agg (Qy e),.L 617] [(617,.var (Qb f))] (NX y e f) V.b (λ_=>[(617,.var (Qb f))]):=
 W 8 func310 Z λC j r h=>B h λk g h=>K j [8,.A (Qy e),1,.o (.C2 (.b k)),5] Z Z (D _ _ g)<|E h Z r1_
def Ka (c:(L_ Qv))(h:Qv->Int->O_ Bool)(d:Int)(a:Int):O_ (Int⊕(Int⊕Unit)):=bif (a<(c.length:Int))then (idx c a).bind λe=>(NX h e d).bind λb=>bif b then some (.inr (.inl a))else some (.inl (Qq (a+1)))else some (.inr (.inr ()))
def Cz (a:Int):O_ Int:=some a
def CA : O_ Int:=some (-1)
def KG (h:Qv->Int->O_ Bool)(a:(L_ Qv))(b:Int):O_ Int:=(QQ (λst=>Ka a h b st) 0).bind (Sum.elim (λq=>Cz q) (λq=>CA))
def CB (y:Qv->Int->O_ Bool)(D:∀(m:Qv) (a:Int) {r:Bool},y m a=some r->QX prog 256 [.agg (Qy m),.I a] [] (Gives (.b r) []))(i:(L_ Qv))(f:Int):CT 344 [.sl 3 (Ja i),.clo (.func 310) [] [.L 617]] [(617,.var (Qb f))] (KG y i f) V.I (λ_=>[(617,.var (Qb f))]):=
 W 19 func344 Z λC e r h=>J e [9,.o (.ln i.length),4] Z (HO _)<|lq_ h (λst=>⟨[(0,.sl 3 (Ja i)),(1,.clo (.func 310) [] [.L 617]),(7,.I (i.length:Int)),(8,.I st)],[(617,.var (Qb f))]⟩) (λq=>(.ret,⟨[(4,.I q)],[(617,.var (Qb f))]⟩)) (λq=>(.exit 0,⟨[],[(617,.var (Qb f))]⟩)) Z (λs o h=>H e [6] Z<|I h (λg h=>B h λp k h=>B h λl j h=>g4_ e [.T,15,.o (.row (Qy p)),.A (Qy p),.cm (.clo) [(617,617)] [(617,617)] [] [.d,.d] [(617,.var (Qb f))] (.b l),2] Z g (Gj k) Z (QcE y D _ _ _ j)<|I h (λc h=>J e [.T,9] Z c<|rR_ h Z) λc h=>J e [.F,7] Z c<|rN_ h Z) λg h=>J e [.F,2] Z g<|rX_ h Z) (λt h=>H e [2] Z<|E h Z r1_) (λ_ h=>H e [8] Z<|E h Z r1_)
def YP (h:Qv->Int->O_ Bool)(a:(L_ Qv))(b:Int):O_ Bool:=(KG h a b).bind λc=>some (decide (0<=c))
def Bo (y:Qv->Int->O_ Bool)(D:∀(f:Qv) (a:Int) {r:Bool},y f a=some r->QX prog 256 [.agg (Qy f),.I a] [] (Gives (.b r) []))(g:(L_ Qv))(c:Int):CT 309 [.sl 3 (Ja g),.clo (.func 310) [] [.L 617]] [(617,.var (Qb c))] (YP y g c) V.b (λ_=>[(617,.var (Qb c))]):=
 W 9 func309 Z λC i r h=>B h λj e h=>J i [9,.cm (.fn) [(617,617)] [(617,617)] [] [.d,.d] [(617,.var (Qb c))] (.I j),5] Z (CB y D _ _ _ e)<|E h Z r1_
def Tq (b:Qv):O_ Bool:=bif (b.Kind==5)then (MM b.Num).bind λa=>some (!a)else some false
def Tr (h:Qv->Int->O_ Bool)(d:Qv)(a:Int)(b:Bool):O_ Bool:=bif b then some false else (YP h d.Kids a).bind λc=>some (!c)
def NY (h:Qv->Int->O_ Bool)(b:Qv)(a:Int):O_ Bool:=
 (OK b.Kind).bind λd=>
 bif ((b.Kids.length:Int) != d)then
 some false
 else
 bif ((b.Kind==2)&&((b.Num<0)||(a<=b.Num)))then
 some false
 else
 (Tq b).bind (λc=>Tr h b a c)
def DW : Nat->Qv->Int->O_ Bool
 | 0,_,_=>none
 | n+1,b,a=>NY (DW n) b a
def RW (b:Qv)(a:Int):O_ Bool:=DW (SizeOf.sizeOf b) b a
def QcF (y:Qv->Int->O_ Bool)(D:∀(f:Qv) (e:Int) {r:Bool},y f e=some r->QX prog 256 [.agg (Qy f),.I e] [] (Gives (.b r) []))(f:Qv)(e:Int):CT 256 [.agg (Qy f),.I e] [] (NY y f e) V.b no_:=
 W 43 func256 Z λC g r h=>B h λx u h=>H g [10] Z <| 
  dr_ g [.N,.N,.B (.ln f.Kids.length),.N,.N,.B (.C1 (.I x)),.N,.N] [] [] [2,3,5] [2,3] Z Z (a2_ (HO _) (QfP _ _ u)) Z <|
  H g [1] Z<|I h (λp h=>J g [.T,8] Z p<|E h Z U) λp h=>J g [.F,1] Z p<|Y ⟨[lk_ 2,lk_ 3,(13,.b ((f.Kind==2)&&((f.Num<0)||(e<=f.Num))))],[(2,.var (Qy f)),(3,.var (Qb e))]⟩ (H g [5] Z<|bO_ (f.Kind==2) (λi=>L g [.S 17 (.b true),4] Z i<|bO_ (decide (f.Num<0)) (λj=>G g [.S 21 (.b true),8,.S 13 (.b ((f.Kind==2)&&((f.Num<0)||(e<=f.Num))))] Z ⟨(tc_ j),(cb_ (Jv i (Gc j Z)))⟩<|M Z) λj=>G g [.S 21 (.b false),8,.S 13 (.b ((f.Kind==2)&&((f.Num<0)||(e<=f.Num))))] Z ⟨(tc_ j),(cb_ (Jv i (JM j Z)))⟩<|M Z) λi=>G g [.S 17 (.b false),12,.S 13 (.b ((f.Kind==2)&&((f.Num<0)||(e<=f.Num))))] Z ⟨(tc_ i),(cb_ (WC i Z))⟩<|M Z)<|H g [1] Z<|I h (λk h=>J g [.T,8] Z k<|E h Z U) λk h=>J g [.F,1] Z k<|mV_ h (λq=>⟨[lk_ 2,lk_ 3,(28,.b q)],[(2,.var (Qy f)),(3,.var (Qb e))]⟩) (λq h=>H g [5] Z<|I h (λl h=>B h λv s h=>G g [.S 32 (.b true),2,.o (.C1 (.b v)),4] Z ⟨(tc_ l),(QeK _ _ s)⟩<|mq_ h Z) λl h=>L g [.S 32 (.b false),7] Z l<|mq_ h Z) λq h=>H g [1] Z<|I h (λm h=>J g [.T,8] Z m<|E h Z U) λm h=>B h λw t h=>K g [.F,8,.cm (.fn) [(617,3)] [(3,617)] [] [.d,.d] [(617,.var (Qb e))] (.b w),5] Z m (Bo y D _ _ _ t)<|E h Z U
def PG : ∀(fuel:Nat) (c:Qv) (a:Int) {r:Bool},DW fuel c a=some r->QX prog 256 [.agg (Qy c),.I a] [] (Gives (.b r) [])
 | 0,_,_,_,h=>by cases h
 | n+1,c,a,_,h=>QcF (DW n) (λ_ _ _ h=>PG n _ _ h) c a _ h
def QeL (c a){r}(h:RW c a=some r):QX prog 256 [.agg (Qy c),.I a] [] (Gives (.b r) []):=PG _ c a h
def Ts (b:Qv)(a:Int):O_ Bool:=(RU b).bind λd=>bif (d<=40)then (Vo b).bind λe=>bif (e<=400)then (RW b a).bind λc=>some c else some false else some false
def QeM (a:Bool):O_ Bool:=some a
def Bp (b:Qv)(a:Int):O_ Bool:=(Ts b a).bind (λc=>QeM c)
def MN (i a):CT 178 [.agg (Qy i),.I a] [] (Bp i a) V.b no_:=
 W 18 func178 Z λC e r h=>H e [7] Z<|mV_ h (λk=>⟨[(4,.b k)],[]⟩) (λk h=>B h λq l h=>K e [1,.A (Qy i),.o (.C1 (.I q)),2] Z Z (QeJ _ l)<|I h (λf h=>B h λs m h=>G e [.S 8 (.b true),.A (Qy i),.o (.C1 (.I s)),3] Z ⟨⟨(tc_ f),Z⟩,(QfO _ m)⟩<|I h (λg h=>B h λp j h=>G e [.S 13 (.b true),.A (Qy i),1,.o (.C2 (.b p)),3] Z ⟨⟨(tc_ g),Z⟩,(QeL _ _ j)⟩<|mq_ h Z) λg h=>L e [.S 13 (.b false),6] Z g<|mq_ h Z) λf h=>L e [.S 8 (.b false),11] Z f<|mq_ h Z) λk h=>H e [2] Z<|E h Z U
def KH (b:LI_)(a:Int)(c:Bool):O_ (LI_⊕(LI_⊕(LI_⊕(LI_⊕LI_)))):=bif c then some (.inr (.inr (.inl b)))else bif (a==5)then some (.inr (.inr (.inr (.inl b))))else some (.inr (.inr (.inr (.inr b))))
def Wi (b:LI_)(a:Int):O_ (LI_⊕(LI_⊕(LI_⊕(LI_⊕LI_)))):=bif (a==1)then some (.inl b)else bif (a==2)then some (.inr (.inl b))else bif (a==3)then KH b a (a==3)else KH b a (a==4)
def GB (k a){r}(h:Wi k a=some r):QX prog 293 [.sl 1 (k.map Qb),.I a] [] ((Sum.elim (λq=>(Gives (.clo (.func 326) [.sl 1 (q.map Qb)] []) [])) (Sum.elim (λq=>(Gives (.clo (.func 327) [.sl 1 (q.map Qb)] []) [])) (Sum.elim (λq=>(Gives (.clo (.func 328) [.sl 1 (q.map Qb)] []) [])) (Sum.elim (λq=>(Gives (.clo (.func 329) [.sl 1 (q.map Qb)] []) [])) (λq=>(Gives (.clo (.func 330) [.sl 1 (q.map Qb)] []) [])))))) r):=by
 refine wk_ 25 func293 λC c=>?_
 refine tg_ c [18] ?_
 refine bq_ c h [.T,10,.K [4] []] rfl (λg h=>?_) [.F,6] rfl λg h=>?_
 ·cases h
  exact AK.done (ex_ [_] (an_ (an_ Z U) (gives U)))
 refine bq_ c h [.T,10,.K [4] []] rfl (λi h=>?_) [.F] rfl λi h=>?_
 ·cases h
  exact AK.done (ex_ [_] (an_ (an_ Z U) (gives U)))
 refine AK.meet (λσ=>∃j:Bool,σ=⟨[(0,.sl 1 (k.map Qb)),(5,.I a),(14,.b j)],[]⟩/\KH k a j=some r) ?_ ?_
 ·refine tg_ c [6] ?_
  refine bq_ c h [.T,1,.K [0,5,14] []] rfl (λd h=>?_) [.F,4,.K [0,5,14] []] rfl λd h=>?_
  ·exact AK.met (ex_ _ (an_ Z h))
  exact AK.met (ex_ _ (an_ Z h))
 rintro σ ⟨j,rfl,h⟩
 refine bq_ c h [.T,10,.K [4] []] rfl (λe h=>?_) [.F,6] rfl λe h=>?_
 ·cases h
  exact AK.done (ex_ [_] (an_ (an_ Z U) (gives U)))
 refine bq_ c h [.T,10,.K [4] []] rfl (λf h=>?_) [.F,11,.K [4] []] rfl λf h=>?_
 ·cases h
  exact AK.done (ex_ [_] (an_ (an_ Z U) (gives U)))
 cases h
 exact AK.done (ex_ [_] (an_ (an_ Z U) (gives U)))
def PH (b:LI_)(a:Qv):O_ (Int×Int):=some (a.Num,0)
def Qae (a b):CT 326 [.sl 1 (a.map Qb),.agg (Qy b)] [] (PH a b) (λr=>(.tup [.I r.1,.I r.2])) no_:=
 W 8 func326 Z λC c r h=>H c [16] Z<|F h Z Z U
def Fd (a:LI_)(b:Qv):O_ (Int×Int):=(idx a b.Num).bind λc=>some (c,0)
def Vp (b c):CT 327 [.sl 1 (b.map Qb),.agg (Qy c)] [] (Fd b c) (λr=>(.tup [.I r.1,.I r.2])) no_:=
 W 11 func327 Z λC d r h=>B h λe a h=>J d [12,.o (.row (Qb e)),6] Z (Xd a)<|F h Z Z U
def Ra (a:Int)(b:Int):O_ (Int×Int):=bif (((decide (a<0))==(decide (b<0)))&&((decide ((Qq (a+b))<0)) != (decide (a<0))))then some (0,6)else some ((Qq (a+b)),0)
def QgR (a d):CT 364 [.I a,.I d] [] (Ra a d) (λr=>(.tup [.I r.1,.I r.2])) no_:=
 W 23 func364 Z λC e r h=>H e [16] Z<|Y ⟨[(6,.I (Qq (a+d))),(21,.b (((decide (a<0))==(decide (d<0)))&&((decide ((Qq (a+d))<0)) != (decide (a<0)))))],[]⟩ (H e [7] Z<|bO_ ((decide (a<0))==(decide (d<0))) (λc=>G e [.S 15 (.b true),7,.S 21 (.b (((decide (a<0))==(decide (d<0)))&&((decide ((Qq (a+d))<0)) != (decide (a<0)))))] Z ⟨(tc_ c),(cb_ (Jv c Z))⟩<|M Z) λc=>G e [.S 15 (.b false),7,.S 21 (.b (((decide (a<0))==(decide (d<0)))&&((decide ((Qq (a+d))<0)) != (decide (a<0)))))] Z ⟨(tc_ c),(cb_ (WC c Z))⟩<|M Z)<|H e [1] Z<|I h (λf h=>J e [.T,8] Z f<|F h Z Z U) λf h=>J e [.F,10] Z f<|F h Z Z U
def AT (a:Int)(b:Int):O_ (Int×Int):=bif (((decide (a<0)) != (decide (b<0)))&&((decide ((Qq (a-b))<0)) != (decide (a<0))))then some (0,6)else some ((Qq (a-b)),0)
def Qaf (a d):CT 365 [.I a,.I d] [] (AT a d) (λr=>(.tup [.I r.1,.I r.2])) no_:=
 W 23 func365 Z λC e r h=>H e [16] Z<|Y ⟨[(6,.I (Qq (a-d))),(21,.b (((decide (a<0)) != (decide (d<0)))&&((decide ((Qq (a-d))<0)) != (decide (a<0)))))],[]⟩ (H e [7] Z<|bO_ ((decide (a<0)) != (decide (d<0))) (λc=>G e [.S 15 (.b true),7,.S 21 (.b (((decide (a<0)) != (decide (d<0)))&&((decide ((Qq (a-d))<0)) != (decide (a<0)))))] Z ⟨(tc_ c),(cb_ (Jv c Z))⟩<|M Z) λc=>G e [.S 15 (.b false),7,.S 21 (.b (((decide (a<0)) != (decide (d<0)))&&((decide ((Qq (a-d))<0)) != (decide (a<0)))))] Z ⟨(tc_ c),(cb_ (WC c Z))⟩<|M Z)<|H e [1] Z<|I h (λf h=>J e [.T,8] Z f<|F h Z Z U) λf h=>J e [.F,10] Z f<|F h Z Z U
def IU (a:Int):O_ Int:=bif (a<0)then some (IntKind.u64.wrap (0-(IntKind.u64.wrap a)))else some (IntKind.u64.wrap a)
def VW (c):CT 372 [.I c] [] (IU c) (λr=>(.i .u64 r)) no_:=
 W 10 func372 Z λC b r h=>H b [12] Z<|I h (λa h=>K b [.T,3,.o (.any (.i .u64 (IntKind.u64.wrap c)) none),6] Z a (λσ d e _=>Qf.convI Z Z (QI b.n Z) (d _ _ Z) QhM Qbx)<|E h Z U) λa h=>K b [.F,5,.o (.any (.i .u64 (IntKind.u64.wrap c)) none),4] Z a (λσ d e _=>Qf.convI Z Z (QI b.n Z) (d _ _ Z) QhM Qbx)<|E h Z U
def AU (a:Int)(b:Int):O_ (Int×Int):=some ((IntKind.u64.wrap ((IntKind.u64.wrap ((IntKind.u64.wrap ((Gx .u64 a 32)*(Gx .u64 b 32)))+(Gx .u64 (IntKind.u64.wrap ((IntKind.u64.wrap ((Gx .u64 a 32)*(DC .u64 b 4294967295)))+(Gx .u64 (IntKind.u64.wrap ((DC .u64 a 4294967295)*(DC .u64 b 4294967295))) 32))) 32)))+(Gx .u64 (IntKind.u64.wrap ((DC .u64 (IntKind.u64.wrap ((IntKind.u64.wrap ((Gx .u64 a 32)*(DC .u64 b 4294967295)))+(Gx .u64 (IntKind.u64.wrap ((DC .u64 a 4294967295)*(DC .u64 b 4294967295))) 32))) 4294967295)+(IntKind.u64.wrap ((DC .u64 a 4294967295)*(Gx .u64 b 32))))) 32))),(IntKind.u64.wrap (a*b)))
def Qag (b c):CT 371 [.i .u64 b,.i .u64 c] [] (AU b c) (λr=>(.tup [.i .u64 r.1,.i .u64 r.2])) no_:=
 W 51 func371 Z λC d r h=>G d [9,.o (.any (.i .u64 (DC .u64 b 4294967295)) none),6,.o (.any (.i .u64 (Gx .u64 b 32)) none),6,.o (.any (.i .u64 (DC .u64 c 4294967295)) none),6,.o (.any (.i .u64 (Gx .u64 c 32)) none),17,.o (.any (.i .u64 (Gx .u64 (IntKind.u64.wrap ((DC .u64 b 4294967295)*(DC .u64 c 4294967295))) 32)) none),7,.o (.any (.i .u64 (DC .u64 (IntKind.u64.wrap ((IntKind.u64.wrap ((Gx .u64 b 32)*(DC .u64 c 4294967295)))+(Gx .u64 (IntKind.u64.wrap ((DC .u64 b 4294967295)*(DC .u64 c 4294967295))) 32))) 4294967295)) none),6,.o (.any (.i .u64 (Gx .u64 (IntKind.u64.wrap ((IntKind.u64.wrap ((Gx .u64 b 32)*(DC .u64 c 4294967295)))+(Gx .u64 (IntKind.u64.wrap ((DC .u64 b 4294967295)*(DC .u64 c 4294967295))) 32))) 32)) none),21,.o (.any (.i .u64 (Gx .u64 (IntKind.u64.wrap ((DC .u64 (IntKind.u64.wrap ((IntKind.u64.wrap ((Gx .u64 b 32)*(DC .u64 c 4294967295)))+(Gx .u64 (IntKind.u64.wrap ((DC .u64 b 4294967295)*(DC .u64 c 4294967295))) 32))) 4294967295)+(IntKind.u64.wrap ((DC .u64 b 4294967295)*(Gx .u64 c 32))))) 32)) none),13] Z (a8_ (λσ a e _=>Qf.andB Z Z (QI d.n Z) (a _ _ Z) (a _ _ Z)) (λσ a e _=>Qf.shr Z Z (QI d.n Z) (a _ _ Z) (a _ _ Z) (by decide)) (λσ a e _=>Qf.andB Z Z (QI d.n Z) (a _ _ Z) (a _ _ Z)) (λσ a e _=>Qf.shr Z Z (QI d.n Z) (a _ _ Z) (a _ _ Z) (by decide)) (λσ a e _=>Qf.shr Z Z (QI d.n Z) (a _ _ Z) (a _ _ Z) (by decide)) (λσ a e _=>Qf.andB Z Z (QI d.n Z) (a _ _ Z) (a _ _ Z)) (λσ a e _=>Qf.shr Z Z (QI d.n Z) (a _ _ Z) (a _ _ Z) (by decide)) (λσ a e _=>Qf.shr Z Z (QI d.n Z) (a _ _ Z) (a _ _ Z) (by decide)))<|F h Z Z U
def El (b:(Int×Int))(c:Int)(d:Int)(a:Int):O_ (Int×Int):=
 bif ((0<b.1)||(a<b.2))then
 some (0,6)
 else
 some ((Qq (c*d)),0)
def HU (a:Int)(b:Int):O_ (Int×Int):=(IU a).bind λd=>(IU b).bind λe=>(AU d e).bind λc=>bif ((decide (a<0)) != (decide (b<0)))then El c a b (IntKind.u64.wrap (9223372036854775807+1))else El c a b 9223372036854775807
def QcG (l m):CT 366 [.I l,.I m] [] (HU l m) (λr=>(.tup [.I r.1,.I r.2])) no_:=
 W 34 func366 Z λC g r h=>B h λt p h=>B h λu q h=>B h λf s h=>g3_ g [9,.o (.C1 (.i .u64 t)),1,.o (.C1 (.i .u64 u)),.o (.C2 (.tup [.i .u64 f.1,.i .u64 f.2])),12] Z (VW _ _ p) (VW _ _ q) (Qag _ _ _ s)<|mE_ (λa:Int=>⟨[(0,.I l),(1,.I m),(6,.i .u64 f.1),(7,.i .u64 f.2),(8,.i .u64 a)],[]⟩) (λa=>El f l m a=some r) (H g [9] Z<|I h (λj h=>J g [.T,5] Z j<|me_ h Z) λj h=>J g [.F,1] Z j<|me_ h Z) λa h=>H g [2] Z<|Y ⟨[(0,.I l),(1,.I m),(30,.b ((0<f.1)||(a<f.2)))],[]⟩ (H g [4] Z<|bO_ (decide (0<f.1)) (λe=>G g [.S 26 (.b true),5,.S 30 (.b ((0<f.1)||(a<f.2)))] Z ⟨(tc_ e),(cb_ (Gc e Z))⟩<|M Z) λe=>G g [.S 26 (.b false),5,.S 30 (.b ((0<f.1)||(a<f.2)))] Z ⟨(tc_ e),(cb_ (JM e Z))⟩<|M Z)<|H g [1] Z<|I h (λk h=>J g [.T,8] Z k<|F h Z Z U) λk h=>J g [.F,12] Z k<|F h Z Z U
def An (b:Int)(a:Int):O_ (Int×Int×Int):=bif (a==0)then some (0,0,7)else bif ((b==(-9223372036854775808))&&(a==(-1)))then some (0,0,6)else (chk (a != 0)).bind λ_=>(chk (a != 0)).bind λ_=>some ((Qq (Int.tdiv b a)),(Int.tmod b a),0)
def OZ (e g):CT 367 [.I e,.I g] [] (An e g) (λr=>(.tup [.I r.1,.I r.2.1,.I r.2.2])) no_:=
 W 23 func367 Z λC c r h=>H c [16] Z<|I h (λf h=>J c [.T,10,.K [4,5,6] []] Z f<|e3_ h Z Z U) λf h=>J c [.F,1] Z f<|Y ⟨[(0,.I e),(1,.I g),(10,.b ((e==(-9223372036854775808))&&(g==(-1))))],[]⟩ (H c [4] Z<|bO_ (e==(-9223372036854775808)) (λa=>G c [.S 13 (.b true),5,.S 10 (.b ((e==(-9223372036854775808))&&(g==(-1))))] Z ⟨(tc_ a),(cb_ (Jv a Z))⟩<|M Z) λa=>G c [.S 13 (.b false),5,.S 10 (.b ((e==(-9223372036854775808))&&(g==(-1))))] Z ⟨(tc_ a),(cb_ (WC a Z))⟩<|M Z)<|H c [1] Z<|I h (λd h=>J c [.T,10,.K [4,5,6] []] Z d<|e3_ h Z Z U) λd h=>X h λi h=>X h λj h=>G c [.F,4] Z (A d) <| 
  dr_ c [.N,.N,.N,.N,.N,.N,.N,.N,.N] [] [] [4,5,6] [] Z Z (a2_ (neZ i) (neZ j)) Z <|
  H c [2,.K [4,5,6] []] Z<|e3_ h Z Z U
def Dk (a:Bool):O_ (Int×Int):=bif a then some (1,0)else some (0,0)
def Dz (c):CT 368 [.b c] [] (Dk c) (λr=>(.tup [.I r.1,.I r.2])) no_:=
 W 5 func368 Z λC d r h=>H d [12] Z<|I h (λa h=>J d [.T,8] Z a<|F h Z Z U) λa h=>J d [.F,9] Z a<|F h Z Z U
def QbC (c:Int)(d:Int):O_ (Int×Int):=bif (c != 0)then (Dk (d != 0)).bind λa=>some (a.1,a.2)else (Dk false).bind λb=>some (b.1,b.2)
def QbD (a:Int)(b:Int):O_ (Int×Int):=some (a,b)
def QbE (c:Int)(d:Int):O_ (Int×Int):=bif (c != 0)then (Dk true).bind λa=>some (a.1,a.2)else (Dk (d != 0)).bind λb=>some (b.1,b.2)
def QbF (a:Int)(b:Int):O_ (Int×Int):=some (a,b)
def Hh (DM:Int)(a:Int)(b:Int):O_ (Int×Int):=bif (DM==1)then (Ra a b).bind λk=>some (k.1,k.2)else bif (DM==2)then (AT a b).bind λc=>some (c.1,c.2)else bif (DM==3)then (HU a b).bind λd=>some (d.1,d.2)else bif (DM==4)then (An a b).bind λe=>some (e.1,e.2.2)else bif (DM==5)then (An a b).bind λf=>some (f.2.1,f.2.2)else bif (DM==6)then (Dk (a==b)).bind λg=>some (g.1,g.2)else bif (DM==7)then (Dk (a != b)).bind λh=>some (h.1,h.2)else bif (DM==8)then (Dk (decide (a<b))).bind λi=>some (i.1,i.2)else bif (DM==9)then (Dk (decide (a<=b))).bind λj=>some (j.1,j.2)else bif (DM==10)then (QbC a b).bind (λv=>QbD v.1 v.2)else bif (DM==11)then (QbE a b).bind (λv=>QbF v.1 v.2)else some (0,1)
def MO (DM a2 b3):CT 355 [.I DM,.I a2,.I b3] [] (Hh DM a2 b3) (λr=>(.tup [.I r.1,.I r.2])) no_:=
 W 112 func355 Z λC a r h=>H a [19] Z<|I h (λu h=>B h λx9 b8 h=>K a [.T,4,.o (.C2 (.tup [.I x9.1,.I x9.2])),9] Z u (QgR _ _ _ b8)<|F h Z Z U) λu h=>J a [.F,6] Z u<|I h (λe h=>B h λy z h=>K a [.T,4,.o (.C2 (.tup [.I y.1,.I y.2])),9] Z e (Qaf _ _ _ z)<|F h Z Z U) λe h=>J a [.F,6] Z e<|I h (λf h=>B h λD N h=>K a [.T,4,.o (.C2 (.tup [.I D.1,.I D.2])),9] Z f (QcG _ _ _ N)<|F h Z Z U) λf h=>J a [.F,6] Z f<|I h (λg h=>B h λw O h=>K a [.T,4,.o (.C2 (.tup [.I w.1,.I w.2.1,.I w.2.2])),20] Z g (OZ _ _ _ O)<|F h Z Z U) λg h=>J a [.F,6] Z g<|I h (λi h=>B h λx P h=>K a [.T,4,.o (.C2 (.tup [.I x.1,.I x.2.1,.I x.2.2])),20] Z i (OZ _ _ _ P)<|F h Z Z U) λi h=>J a [.F,6] Z i<|I h (λj h=>B h λa0 a1 h=>K a [.T,5,.o (.C1 (.tup [.I a0.1,.I a0.2])),9] Z j (Dz _ _ a1)<|F h Z Z U) λj h=>J a [.F,6] Z j<|I h (λk h=>B h λa3 a4 h=>K a [.T,5,.o (.C1 (.tup [.I a3.1,.I a3.2])),9] Z k (Dz _ _ a4)<|F h Z Z U) λk h=>J a [.F,6] Z k<|I h (λl h=>B h λa5 a6 h=>K a [.T,5,.o (.C1 (.tup [.I a5.1,.I a5.2])),9] Z l (Dz _ _ a6)<|F h Z Z U) λl h=>J a [.F,6] Z l<|I h (λm h=>B h λa7 a8 h=>K a [.T,5,.o (.C1 (.tup [.I a7.1,.I a7.2])),9] Z m (Dz _ _ a8)<|F h Z Z U) λm h=>J a [.F,6] Z m<|I h (λp h=>J a [.T,1] Z p<|mV_ h (λv=>⟨[(6,.I v.1),(7,.I v.2)],[]⟩) (λv h=>H a [4] Z<|I h (λq h=>B h λa9 b0 h=>G a [.S 94 (.b true),3,.o (.C1 (.tup [.I a9.1,.I a9.2])),5] Z ⟨(tc_ q),(Dz _ _ b0)⟩<|mq_ h Z) λq h=>B h λb1 b2 h=>G a [.S 94 (.b false),3,.o (.C1 (.tup [.I b1.1,.I b1.2])),5] Z ⟨(tc_ q),(Dz _ _ b2)⟩<|mq_ h Z) λ⟨b9,c0⟩ h=>H a [4] Z<|F h Z Z U) λp h=>J a [.F,6] Z p<|I h (λs h=>J a [.T,1] Z s<|mV_ h (λv=>⟨[(6,.I v.1),(7,.I v.2)],[]⟩) (λv h=>H a [4] Z<|I h (λt h=>B h λb4 b5 h=>G a [.S 105 (.b true),3,.o (.C1 (.tup [.I b4.1,.I b4.2])),5] Z ⟨(tc_ t),(Dz _ _ b5)⟩<|mq_ h Z) λt h=>B h λb6 b7 h=>G a [.S 105 (.b false),3,.o (.C1 (.tup [.I b6.1,.I b6.2])),5] Z ⟨(tc_ t),(Dz _ _ b7)⟩<|mq_ h Z) λ⟨c1,c2⟩ h=>H a [4] Z<|F h Z Z U) λs h=>J a [.F,10] Z s<|F h Z Z U
def Rb (b:Int):O_ (Int×Int):=(Hh 2 0 b).bind λa=>some (a.1,a.2)
def QgS (b):CT 354 [.I b] [] (Rb b) (λr=>(.tup [.I r.1,.I r.2])) no_:=
 W 8 func354 Z λC f r h=>B h λe a h=>J f [9,.o (.C3 (.tup [.I e.1,.I e.2])),7] Z (MO _ _ _ _ a)<|F h Z Z U
def AV (h:LI_->Qv->O_ (Int×Int))(e:LI_)(d:Qv):O_ (Int×Int):=(idx d.Kids 0).bind λf=>(h e f).bind λc=>bif (c.2 != 0)then some (0,c.2)else bif (d.Kind==3)then (Rb c.1).bind λa=>some (a.1,a.2)else (Hh 6 c.1 0).bind λb=>some (b.1,b.2)
def Qah (y:LI_->Qv->O_ (Int×Int))(D:∀(e:LI_) (f:Qv) {r:(Int×Int)},y e f=some r->QX prog 226 [.sl 1 (e.map Qb),.agg (Qy f)] [] (Gives (.tup [.I r.1,.I r.2]) []))(e:LI_)(f:Qv):CT 328 [.sl 1 (e.map Qb),.agg (Qy f)] [] (AV y e f) (λr=>(.tup [.I r.1,.I r.2])) no_:=
 W 33 func328 Z λC g r h=>B h λq m h=>B h λs p h=>g3_ g [12,.o (.row (Qy q)),.A (Qy q),.o (.C2 (.tup [.I s.1,.I s.2])),16] Z (Gj m) Z (D _ _ p)<|I h (λb h=>J g [.T,10] Z b<|F h Z Z U) λb h=>J g [.F,8] Z b<|I h (λa h=>B h λi j h=>K g [.T,3,.o (.C1 (.tup [.I i.1,.I i.2])),9] Z a (QgS _ _ j)<|F h Z Z U) λa h=>B h λk l h=>K g [.F,6,.o (.C3 (.tup [.I k.1,.I k.2])),7] Z a (MO _ _ _ _ l)<|F h Z Z U
def Dx (f:(Int×Int))(g:Qv)(y:LI_->Qv->O_ (Int×Int))(h:LI_)(d:Bool):O_ (Int×Int):=bif d then (Hh 7 f.1 0).bind λb=>some (b.1,b.2)else (idx g.Kids 1).bind λe=>(y h e).bind λa=>bif (a.2 != 0)then some (0,a.2)else (Hh g.Num f.1 a.1).bind λc=>some (c.1,c.2)
def NZ (h:LI_->Qv->O_ (Int×Int))(c:LI_)(b:Qv):O_ (Int×Int):=(idx b.Kids 0).bind λd=>(h c d).bind λa=>bif (a.2 != 0)then some (0,a.2)else bif ((b.Num==10)&&(a.1==0))then Dx a b h c ((b.Num==10)&&(a.1==0))else bif (b.Num==11)then Dx a b h c (a.1 != 0)else Dx a b h c false
def QcH (rec_expr_env_eval:LI_->Qv->O_ (Int×Int))(hrec_expr_env_eval:∀(m:LI_) (f:Qv) {r:(Int×Int)},rec_expr_env_eval m f=some r->QX prog 226 [.sl 1 (m.map Qb),.agg (Qy f)] [] (Gives (.tup [.I r.1,.I r.2]) []))(m:LI_)(f:Qv):CT 329 [.sl 1 (m.map Qb),.agg (Qy f)] [] (NZ rec_expr_env_eval m f) (λr=>(.tup [.I r.1,.I r.2])) no_:=
 W 60 func329 Z λC e r h=>B h λP N h=>B h λp O h=>g3_ e [12,.o (.row (Qy P)),.A (Qy P),.o (.C2 (.tup [.I p.1,.I p.2])),16] Z (Gj N) Z (hrec_expr_env_eval _ _ O)<|I h (λq h=>J e [.T,10] Z q<|F h Z Z U) λq h=>J e [.F] Z q<|mE_ (λl:Bool=>⟨[(0,.sl 1 (m.map Qb)),lk_ 3,(6,.I p.1),(22,.b l)],[(3,.var (Qy f))]⟩) (λl=>Dx p f rec_expr_env_eval m l=some r) (H e [1] Z<|Y ⟨[(0,.sl 1 (m.map Qb)),lk_ 3,(6,.I p.1),(22,.b ((f.Num==10)&&(p.1==0)))],[(3,.var (Qy f))]⟩ (H e [5] Z<|bO_ (f.Num==10) (λa=>G e [.S 26 (.b true),5,.S 22 (.b ((f.Num==10)&&(p.1==0)))] Z ⟨(tc_ a),(cb_ (Jv a Z))⟩<|M Z) λa=>G e [.S 26 (.b false),5,.S 22 (.b ((f.Num==10)&&(p.1==0)))] Z ⟨(tc_ a),(cb_ (WC a Z))⟩<|M Z)<|H e [1] Z<|I h (λg h=>J e [.T,1] Z g<|me_ h Z) λg h=>J e [.F,5] Z g<|I h (λi h=>L e [.S 33 (.b true),5] Z i<|me_ h Z) λi h=>L e [.S 33 (.b false),5] Z i<|me_ h Z) λl h=>I h (λj h=>B h λs t h=>K e [.T,3,.o (.C3 (.tup [.I s.1,.I s.2])),9] Z j (MO _ _ _ _ t)<|F h Z Z U) λj h=>B h λu w h=>B h λx y h=>g4_ e [.F,8,.o (.row (Qy u)),.A (Qy u),.o (.C2 (.tup [.I x.1,.I x.2])),14] Z j (Gj w) Z (hrec_expr_env_eval _ _ y)<|I h (λk h=>J e [.T,9] Z k<|F h Z Z U) λk h=>B h λz D h=>K e [.F,8,.o (.C3 (.tup [.I z.1,.I z.2])),7] Z k (MO _ _ _ _ D)<|F h Z Z U
def IE (y:LI_->Qv->O_ (Int×Int))(c:LI_)(d:Qv):O_ (Int×Int):=(idx d.Kids 0).bind λh=>(y c h).bind λe=>bif (e.2 != 0)then some (0,e.2)else bif (e.1 != 0)then (idx d.Kids 1).bind λf=>(y c f).bind λa=>some (a.1,a.2)else (idx d.Kids 2).bind λg=>(y c g).bind λb=>some (b.1,b.2)
def Qai (D:LI_->Qv->O_ (Int×Int))(y:∀(e:LI_) (f:Qv) {r:(Int×Int)},D e f=some r->QX prog 226 [.sl 1 (e.map Qb),.agg (Qy f)] [] (Gives (.tup [.I r.1,.I r.2]) []))(e:LI_)(f:Qv):CT 330 [.sl 1 (e.map Qb),.agg (Qy f)] [] (IE D e f) (λr=>(.tup [.I r.1,.I r.2])) no_:=
 W 40 func330 Z λC g r h=>B h λw t h=>B h λx u h=>g3_ g [12,.o (.row (Qy w)),.A (Qy w),.o (.C2 (.tup [.I x.1,.I x.2])),16] Z (Gj t) Z (y _ _ u)<|I h (λb h=>J g [.T,10] Z b<|F h Z Z U) λb h=>J g [.F,7] Z b<|I h (λa h=>B h λi j h=>B h λk l h=>g4_ g [.T,5,.o (.row (Qy i)),.A (Qy i),.o (.C2 (.tup [.I k.1,.I k.2])),9] Z a (Gj j) Z (y _ _ l)<|F h Z Z U) λa h=>B h λm p h=>B h λq s h=>g4_ g [.F,8,.o (.row (Qy m)),.A (Qy m),.o (.C2 (.tup [.I q.1,.I q.2])),7] Z a (Gj p) Z (y _ _ s)<|F h Z Z U
def Pa (b:Qv)(c:LI_):O_ (Int×Int):=(PH c b).bind λa=>some (a.1,a.2)
def Ao (b:Qv)(c:LI_):O_ (Int×Int):=(Fd c b).bind λa=>some (a.1,a.2)
def WP (h:LI_->Qv->O_ (Int×Int))(c:Qv)(b:LI_):O_ (Int×Int):=(AV h b c).bind λa=>some (a.1,a.2)
def Ap (h:LI_->Qv->O_ (Int×Int))(c:Qv)(b:LI_):O_ (Int×Int):=(NZ h b c).bind λa=>some (a.1,a.2)
def Aq (h:LI_->Qv->O_ (Int×Int))(c:Qv)(b:LI_):O_ (Int×Int):=(IE h b c).bind λa=>some (a.1,a.2)
def IF (h:LI_->Qv->O_ (Int×Int))(b:LI_)(a:Qv):O_ (Int×Int):=(Wi b a.Kind).bind λc=>(Sum.elim (λq=>Pa a q) (Sum.elim (λq=>Ao a q) (Sum.elim (λq=>WP h a q) (Sum.elim (λq=>Ap h a q) (λq=>Aq h a q))))) c
def Yv : Nat->LI_->Qv->O_ (Int×Int)
 | 0,_,_=>none
 | n+1,a,b=>IF (Yv n) a b
def MP (b:LI_)(a:Qv):O_ (Int×Int):=Yv (SizeOf.sizeOf a) b a
def Qaj (rec_expr_env_eval:LI_->Qv->O_ (Int×Int))(hrec_expr_env_eval:∀(o:LI_) (e:Qv) {r:(Int×Int)},rec_expr_env_eval o e=some r->QX prog 226 [.sl 1 (o.map Qb),.agg (Qy e)] [] (Gives (.tup [.I r.1,.I r.2]) []))(o:LI_)(e:Qv):CT 226 [.sl 1 (o.map Qb),.agg (Qy e)] [] (IF rec_expr_env_eval o e) (λr=>(.tup [.I r.1,.I r.2])) no_:=by
 refine W 14 func226 rfl λC b r h=>?_
 refine tg_ b [8] ?_
 obtain⟨S,f,h⟩:=Qp h
 rcases S with(O | (P | (j | (k | l))))
 ·exact have h:Pa e O=some r:=h;B h λp q h=> 
    dr_ b [.N,.N,.N,.B (.any (.clo (.func 326) [.sl 1 (O.map Qb)] []) none),.E (.agg (Qy e)),.B (.C2 (.tup [.I p.1,.I p.2])),.N,.N,.m .s,.m .s] [] [] [4,5] [] Z Z (a3_ (λσ g i _=>Qf.callSame (md:=.cm (.fn) [] [] [] [.d,.d] [] (.clo (.func 326) [.sl 1 (O.map Qb)] []) []) Qe b g i Z (A (GB _ _ f))) Z (Qae _ _ _ q)) Z <|
    H b [2] Z<|F h Z Z U
 ·exact have h:Ao e P=some r:=h;B h λt u h=> 
    dr_ b [.N,.N,.N,.B (.any (.clo (.func 327) [.sl 1 (P.map Qb)] []) none),.E (.agg (Qy e)),.B (.C2 (.tup [.I t.1,.I t.2])),.N,.N,.m .s,.m .s] [] [] [4,5] [] Z Z (a3_ (λσ g i _=>Qf.callSame (md:=.cm (.fn) [] [] [] [.d,.d] [] (.clo (.func 327) [.sl 1 (P.map Qb)] []) []) Qe b g i Z (A (GB _ _ f))) Z (Vp _ _ _ u)) Z <|
    H b [2] Z<|F h Z Z U
 ·exact have h:WP rec_expr_env_eval e j=some r:=h;B h λv w h=> 
    dr_ b [.N,.N,.N,.B (.any (.clo (.func 328) [.sl 1 (j.map Qb)] []) none),.E (.agg (Qy e)),.B (.C2 (.tup [.I v.1,.I v.2])),.N,.N,.m .s,.m .s] [] [] [4,5] [] Z Z (a3_ (λσ g i _=>Qf.callSame (md:=.cm (.fn) [] [] [] [.d,.d] [] (.clo (.func 328) [.sl 1 (j.map Qb)] []) []) Qe b g i Z (A (GB _ _ f))) Z (Qah rec_expr_env_eval hrec_expr_env_eval _ _ _ w)) Z <|
    H b [2] Z<|F h Z Z U
 ·exact have h:Ap rec_expr_env_eval e k=some r:=h;B h λx y h=> 
    dr_ b [.N,.N,.N,.B (.any (.clo (.func 329) [.sl 1 (k.map Qb)] []) none),.E (.agg (Qy e)),.B (.C2 (.tup [.I x.1,.I x.2])),.N,.N,.m .s,.m .s] [] [] [4,5] [] Z Z (a3_ (λσ g i _=>Qf.callSame (md:=.cm (.fn) [] [] [] [.d,.d] [] (.clo (.func 329) [.sl 1 (k.map Qb)] []) []) Qe b g i Z (A (GB _ _ f))) Z (QcH rec_expr_env_eval hrec_expr_env_eval _ _ _ y)) Z <|
    H b [2] Z<|F h Z Z U
 exact have h:Aq rec_expr_env_eval e l=some r:=h;B h λz D h=> 
   dr_ b [.N,.N,.N,.B (.any (.clo (.func 330) [.sl 1 (l.map Qb)] []) none),.E (.agg (Qy e)),.B (.C2 (.tup [.I z.1,.I z.2])),.N,.N,.m .s,.m .s] [] [] [4,5] [] Z Z (a3_ (λσ g i _=>Qf.callSame (md:=.cm (.fn) [] [] [] [.d,.d] [] (.clo (.func 330) [.sl 1 (l.map Qb)] []) []) Qe b g i Z (A (GB _ _ f))) Z (Qai rec_expr_env_eval hrec_expr_env_eval _ _ _ D)) Z <|
   H b [2] Z<|F h Z Z U
def MQ : ∀(fuel:Nat) (a:LI_) (b:Qv) {r:(Int×Int)},Yv fuel a b=some r->QX prog 226 [.sl 1 (a.map Qb),.agg (Qy b)] [] (Gives (.tup [.I r.1,.I r.2]) [])
 | 0,_,_,_,h=>by cases h
 | n+1,a,b,_,h=>Qaj (Yv n) (λ_ _ _ h=>MQ n _ _ h) a b _ h
def QbG (a b){r}(h:MP a b=some r):QX prog 226 [.sl 1 (a.map Qb),.agg (Qy b)] [] (Gives (.tup [.I r.1,.I r.2]) []):=MQ _ a b h
def IV (b:Qv)(a:LI_):O_ (Int×Int):=(Bp b (a.length:Int)).bind λd=>bif (!d)then some (0,1)else (MP a b).bind λc=>some (c.1,c.2)
def VX (f a):CT 138 [.agg (Qy f),.sl 1 (a.map Qb)] [] (IV f a) (λr=>(.tup [.I r.1,.I r.2])) no_:=
 W 16 func138 Z λC g r h=>B h λl i h=>g3_ g [10,.A (Qy f),1,.o (.ln a.length),.o (.C2 (.b l)),3] Z Z Qd (MN _ _ _ i)<|I h (λe h=>J g [.T,8] Z e<|F h Z Z U) λe h=>B h λk j h=>g3_ g [.F,5,.A (Qy f),.o (.C2 (.tup [.I k.1,.I k.2])),7] Z e Z (QbG _ _ j)<|F h Z Z U
def KI (c:(Bool×YM))(a:Int):O_ (Int×Bool):=(WG c.2 a).bind λb=>bif (!b)then some (0,false)else some (a,true)
def GQ (d:(L_ Xh))(e:Int)(b:Int):O_ (Int×Bool):=
 (ET d e).bind λc=>
 bif (!c.1)then
 some (0,false)
 else
 (Wn c.2).bind λa=>
 bif (a.Kind==1)then
 bif ((b<a.Lo)||(a.Hi<b))then
 some (0,false)
 else
 KI c (Qq (b-a.Lo))
 else
 KI c b
def QbH (w x k):CT 139 [.sl 7 (w.map QK),.I x,.I k] [] (GQ w x k) (λr=>(.tup [.I r.1,.b r.2])) no_:=
 W 43 func139 Z λC f r h=>B h λm t h=>K f [10,.o (.C2 (.tup [.agg (XG m.2),.b m.1])),5,.O 8 (.var (XG m.2)),10] Z (NR _ _ _ t) Z<|I h (λp h=>J f [.T,8] Z p<|F h Z Z U) λp h=>J f [.F,2] Z p<|mE_ (λl:Int=>⟨[(2,.I l),lk_ 8],[(8,.var (XG m.2))]⟩) (λl=>KI m l=some r) (B h λa q h=>g3_ f [2,.A (XG m.2),.o (.C1 (.agg (QK a))),2,.O 10 (.var (QK a)),9] Z Z (AG _ _ q) Z<|I h (λg h=>J f [.T,2] Z g<|Y ⟨[(2,.I k),lk_ 8,lk_ 10,(33,.b ((k<a.Lo)||(a.Hi<k)))],[(8,.var (XG m.2)),(10,.var (QK a))]⟩ (H f [6] Z<|bO_ (decide (k<a.Lo)) (λe=>G f [.S 28 (.b true),6,.S 33 (.b ((k<a.Lo)||(a.Hi<k)))] Z ⟨(tc_ e),(cb_ (Gc e Z))⟩<|M Z) λe=>G f [.S 28 (.b false),6,.S 33 (.b ((k<a.Lo)||(a.Hi<k)))] Z ⟨(tc_ e),(cb_ (JM e Z))⟩<|M Z)<|H f [1] Z<|I h (λi h=>J f [.T,9] Z i<|F h Z Z U) λi h=>J f [.F,9] Z i<|me_ h Z) λg h=>J f [.F,1] Z g<|me_ h Z) λl h=>B h λu s h=>K f [3,.A (XG m.2),1,.o (.C2 (.b u)),3] Z Z (NI _ _ _ s)<|I h (λj h=>J f [.T,8] Z j<|F h Z Z U) λj h=>J f [.F,10] Z j<|F h Z Z U
def LQ (a:LI_)(j:(L_ Ye))(h:LI_)(k:Ql)(e:Int)(c:QMk):O_ ((Int×QMk)⊕(Int⊕QMk)):=
 bif (e<(a.length:Int))then
 (idx a e).bind λd=>
 bif ((d<0)||((j.length:Int)<=d))then
 some (.inr (.inl 11))
 else
 (idx j d).bind λl=>
 (IV l.Expr h).bind λf=>
 bif (f.2 != 0)then
 some (.inr (.inl f.2))
 else
 (idx j d).bind λb=>
 bif ((b.Place<0)||((k.Places.length:Int)<=b.Place))then
 some (.inr (.inl 3))
 else
 (idx k.Places b.Place).bind λm=>
 (GQ k.Colours m.Colour f.1).bind λi=>
 bif (!i.2)then
 some (.inr (.inl 8))
 else
 (idx c b.Place).bind λn=>
 (NO ([i.1]:L_ Int)).bind λo=>
 (Ji n o).bind λg=>
 (idx c b.Place).bind λp=>
 bif (g.2 != 0)then
 some (.inr (.inl g.2))
 else
 some (.inl ((Qq (e+1)),(c.set b.Place.toNat g.1)))
 else
 some (.inr (.inr c))
def Qdz (a:Int):O_ (QMk×Int):=some (([]:L_ QBg),a)
def QdA (a:QMk):O_ (QMk×Int):=some (a,0)
def DA (b:Ql)(d:(L_ Ye))(a:LI_)(c:LI_):O_ (QMk×Int):=(chk (decide (0<=(b.Places.length:Int))&&decide ((b.Places.length:Int)<=(b.Places.length:Int))&&decide ((b.Places.length:Int)<=4294967296))).bind λ_=>(QQ (λst=>LQ a d c b st.1 st.2) (0,(List.replicate (b.Places.length:Int).toNat (([]:QBg):QBg)))).bind (Sum.elim (λq=>Qdz q) (λq=>QdA q))
def Un (t P e k):CT 79 [.agg (Qa t),.sl 4 (P.map XL),.sl 1 (e.map Qb),.sl 1 (k.map Qb)] [] (DA t P e k) (λr=>(.tup [.sl 1 (r.1.map Qm),.I r.2])) no_:=
 W 97 func79 Z λC g r h=>X h λb6 h=>K g [11,.o (.ln t.Places.length),.o (.rows (List.replicate (t.Places.length:Int).toNat [.Y]))] Z Qd ⟨b6,Z⟩<|AK.denilA (b:=21) [some 2] Z (QhF (f:=Qm) (x:=([]:QBg)) Z)<|K g [.S 21 (.own 21 (List.replicate (t.Places.length:Int).toNat (([]:QBg):QBg)).length),7,.o (.ln e.length),4] Z (by simp) Qd<|lq_ h (λst=>⟨[(1,.sl 4 (P.map XL)),(3,.sl 1 (k.map Qb)),lk_ 4,(10,.own 21 st.2.length),(22,.sl 1 (e.map Qb)),(23,.I (e.length:Int)),(24,.I st.1)],[(4,.var (Qa t)),(21,.arr 1 (st.2.map Qm))]⟩) (λq=>(.ret,⟨[(8,.Y),(9,.I q)],[]⟩)) (λq=>(.exit 0,⟨[(10,.own 21 q.length)],[(21,.arr 1 (q.map Qm))]⟩)) Z (λ⟨a5,s⟩ o h=>H g [6] Z<|I h (λu h=>B h λj a6 h=>K g [.T,6,.o (.row (Qb j)),6] Z u (Xd a6)<|Y ⟨[(1,.sl 4 (P.map XL)),(3,.sl 1 (k.map Qb)),lk_ 4,(10,.own 21 s.length),(12,.I j),(22,.sl 1 (e.map Qb)),(23,.I (e.length:Int)),(24,.I a5),(35,.b ((j<0)||((P.length:Int)<=j)))],[(4,.var (Qa t)),(21,.arr 1 (s.map Qm))]⟩ (H g [4] Z<|bO_ (decide (j<0)) (λl=>G g [.S 30 (.b true),6,.S 35 (.b ((j<0)||((P.length:Int)<=j)))] Z ⟨(tc_ l),(cb_ (Gc l Z))⟩<|M Z) λl=>G g [.S 30 (.b false),2,.o (.ln P.length),3,.S 35 (.b ((j<0)||((P.length:Int)<=j)))] Z ⟨⟨(tc_ l),Qd⟩,(cb_ (JM l Z))⟩<|M Z)<|H g [1] Z<|I h (λw h=>J g [.T,10] Z w<|rR_ h Z) λw h=>B h λa7 a8 h=>B h λa3 a9 h=>g4_ g [.F,6,.o (.row (XL a7)),1,.A (Qy a7.Expr),1,.o (.C2 (.tup [.I a3.1,.I a3.2])),14] Z w (Xd a8) Z (VX _ _ _ a9)<|I h (λy h=>J g [.T,11] Z y<|rR_ h Z) λy h=>B h λi b0 h=>K g [.F,6,.o (.row (XL i)),7] Z y (Xd b0)<|Y ⟨[(1,.sl 4 (P.map XL)),(3,.sl 1 (k.map Qb)),lk_ 4,(10,.own 21 s.length),(13,.I a3.1),(15,.I i.Place),(22,.sl 1 (e.map Qb)),(23,.I (e.length:Int)),(24,.I a5),(62,.b ((i.Place<0)||((t.Places.length:Int)<=i.Place)))],[(4,.var (Qa t)),(21,.arr 1 (s.map Qm))]⟩ (H g [4] Z<|bO_ (decide (i.Place<0)) (λp=>G g [.S 56 (.b true),7,.S 62 (.b ((i.Place<0)||((t.Places.length:Int)<=i.Place)))] Z ⟨(tc_ p),(cb_ (Gc p Z))⟩<|M Z) λp=>G g [.S 56 (.b false),3,.o (.ln t.Places.length),3,.S 62 (.b ((i.Place<0)||((t.Places.length:Int)<=i.Place)))] Z ⟨⟨(tc_ p),Qd⟩,(cb_ (JM p Z))⟩<|M Z)<|H g [1] Z<|I h (λz h=>J g [.T,10] Z z<|rR_ h Z) λz h=>B h λb7 b1 h=>B h λa4 b2 h=>G g [.F,3] Z (A z) <| 
  dr_ g [.N,.N,.N,.N,.N,.B (.row (QH b7)),.N,.N,.N,.B (.C3 (.tup [.I a4.1,.b a4.2])),.N,.N,.N,.N,.N] [] [] [1,3,4,10,15,16,17,22,23,24] [4,21] Z Z (a2_ (Xd b1) (QbH _ _ _ _ b2)) Z <|
  H g [8] Z<|I h (λD h=>J g [.T,10] Z D<|rR_ h Z) λD h=>B h λb8 a1 h=>B h λb3 b4 h=>B h λa0 b5 h=>B h λb9 a2 h=>G g [.F,3] Z (A D) <| 
  dr_ g [.N,.N,.N,.N,.N,.B (.row (Qm b8)),.N,.a (.bd []) (some ([],.sl 1 (([a4.1]:L_ Int).map Qb))) false,.B (.cd false [.d] 2 (b3.map QW) b3.length),.B (.C2 (.tup [.sl 2 (a0.1.map QW),.I a0.2])),.a .no none true true,.N,.a .no none true,.N,.m (.st (Qm b9) ((s.set i.Place.toNat a0.1).map Qm)),.N] [1,3,4,10,15,16,22,23,24] [4] [1,3,4,10,14,22,23,24] [4,21] Z Z (a7_ (Yx a1 Z) (Xz (YV a1).2) Z ⟨(Qdh _ _ b4),Qd⟩ (RN _ _ _ b5) (Yx a2 Z) ⟨(Xz (YV a2).2),Ug Z⟩) Z <|
  H g [7] Z<|I h (λO h=>J g [.T,10] Z O<|rR_ h Z) λO h=>K g [.F,7,.S 10 (.own 21 (s.set i.Place.toNat a0.1).length)] Z O (congrArg (λn=>V.own 21 n) (by simp))<|rN_ h Z) λu h=>J g [.F,2] Z u<|rX_ h Z) (λc1 h=>H g [2,.denil 8 [some 1]] Z<|F h Z Z U) (λc0 h=>J g [10,.frz 21 (c0.map Qm) [8] []] Z (A (Wr Qd))<|F h Z Z U)
def YC (c:Ql)(b:Qk):O_ (QMk×Int):=(Gk c b.Task b.Vars).bind λd=>bif (d.2 != 0)then some (([]:L_ QBg),d.2)else (idx c.Tasks b.Task).bind λe=>(DA c e.Ins b.Ins d.1).bind λa=>some (a.1,a.2)
def MR (i l):CT 40 [.agg (Qa i),.agg (Qo l)] [] (YC i l) (λr=>(.tup [.sl 1 (r.1.map Qm),.I r.2])) no_:=
 W 34 func40 Z λC e r h=>B h λp j h=>K e [10,.A (Qa i),4,.o (.C3 (.tup [.sl 1 (p.1.map Qb),.I p.2])),14] Z Z (Pn _ _ _ _ j)<|I h (λb h=>J e [.T,9,.denil 4 [some 1]] Z b<|F h Z Z U) λb h=>B h λq k h=>B h λf g h=>G e [.F,3] Z (A b) <| 
  dr_ e [.E (.agg (Qa i)),.N,.N,.N,.N,.B (.row (Qi q)),.N,.N,.N,.N,.N,.B (.C4 (.tup [.sl 1 (f.1.map Qm),.I f.2])),.N,.N,.m .s,.m .s] [] [] [4,5] [] Z Z (a3_ Z (Xd k) (Un _ _ _ _ _ g)) Z <|
  H e [2] Z<|F h Z Z U
def Uo (c:Ql)(b:Qk):O_ (QMk×Int):=(Gk c b.Task b.Vars).bind λd=>bif (d.2 != 0)then some (([]:L_ QBg),d.2)else (idx c.Tasks b.Task).bind λe=>(DA c e.Outs b.Outs d.1).bind λa=>some (a.1,a.2)
def Tt (i l):CT 41 [.agg (Qa i),.agg (Qo l)] [] (Uo i l) (λr=>(.tup [.sl 1 (r.1.map Qm),.I r.2])) no_:=
 W 34 func41 Z λC e r h=>B h λp j h=>K e [10,.A (Qa i),4,.o (.C3 (.tup [.sl 1 (p.1.map Qb),.I p.2])),14] Z Z (Pn _ _ _ _ j)<|I h (λb h=>J e [.T,9,.denil 4 [some 1]] Z b<|F h Z Z U) λb h=>B h λq k h=>B h λf g h=>G e [.F,3] Z (A b) <| 
  dr_ e [.E (.agg (Qa i)),.N,.N,.N,.N,.B (.row (Qi q)),.N,.N,.N,.N,.N,.B (.C4 (.tup [.sl 1 (f.1.map Qm),.I f.2])),.N,.N,.m .s,.m .s] [] [] [4,5] [] Z Z (a3_ Z (Xd k) (Un _ _ _ _ _ g)) Z <|
  H e [2] Z<|F h Z Z U
def Ca (a:Qw)(b:Ql):O_ Bool:=
 (YC b a.Mode).bind λc=>
 (Uo b a.Mode).bind λd=>
 some ((c.2 != 0)||(d.2 != 0))
def QaP (j e):CT 39 [.agg (Qn j),.L 617] [(617,.var (Qa e))] (Ca j e) V.b (λ_=>[(617,.var (Qa e))]):=
 W 28 func39 Z λC g r h=>B h λf k h=>B h λi l h=>G g [8,.A (Qa e),1,.A (Qo j.Mode),.o (.C2 (.tup [.sl 1 (f.1.map Qm),.I f.2])),9,.A (Qa e),1,.A (Qo j.Mode),.o (.C2 (.tup [.sl 1 (i.1.map Qm),.I i.2])),8] Z (a6_ Z Z (MR _ _ _ k) Z Z (Tt _ _ _ l))<|Y ⟨[(3,.b ((f.2 != 0)||(i.2 != 0)))],[(617,.var (Qa e))]⟩ (H g [4] Z<|bO_ (f.2 != 0) (λa=>G g [.S 24 (.b true),5,.S 3 (.b ((f.2 != 0)||(i.2 != 0)))] Z ⟨(tc_ a),(cb_ (Gc a Z))⟩<|M Z) λa=>G g [.S 24 (.b false),5,.S 3 (.b ((f.2 != 0)||(i.2 != 0)))] Z ⟨(tc_ a),(cb_ (JM a Z))⟩<|M Z)<|H g [2] Z<|E h Z r1_
def YQ (c:(L_ Qw))(d:Ql)(a:Int):O_ (Int⊕(Int⊕Unit)):=bif (a<(c.length:Int))then (idx c a).bind λe=>(Ca e d).bind λb=>bif b then some (.inr (.inl a))else some (.inl (Qq (a+1)))else some (.inr (.inr ()))
def CC (a:Int):O_ Int:=some a
def CD : O_ Int:=some (-1)
def KJ (a:(L_ Qw))(b:Ql):O_ Int:=(QQ (λst=>YQ a b st) 0).bind (Sum.elim (λq=>CC q) (λq=>CD))
def CE (g e):CT 42 [.sl 11 (g.map Qn),.clo (.func 39) [] [.L 617]] [(617,.var (Qa e))] (KJ g e) V.I (λ_=>[(617,.var (Qa e))]):=
 W 19 func42 Z λC c r h=>J c [9,.o (.ln g.length),4] Z Qd<|lq_ h (λst=>⟨[(0,.sl 11 (g.map Qn)),(1,.clo (.func 39) [] [.L 617]),(7,.I (g.length:Int)),(8,.I st)],[(617,.var (Qa e))]⟩) (λq=>(.ret,⟨[(4,.I q)],[(617,.var (Qa e))]⟩)) (λq=>(.exit 0,⟨[],[(617,.var (Qa e))]⟩)) Z (λm o h=>H c [6] Z<|I h (λf h=>B h λl j h=>B h λk i h=>g4_ c [.T,15,.o (.row (Qn l)),.A (Qn l),.cm (.clo) [(617,617)] [(617,617)] [] [.d,.d] [(617,.var (Qa e))] (.b k),2] Z f (Xd j) Z (QaP _ _ _ i)<|I h (λa h=>J c [.T,9] Z a<|rR_ h Z) λa h=>J c [.F,7] Z a<|rN_ h Z) λf h=>J c [.F,2] Z f<|rX_ h Z) (λp h=>H c [2] Z<|E h Z r1_) (λ_ h=>H c [8] Z<|E h Z r1_)
def YR (a:(L_ Qw))(b:Ql):O_ Bool:=(KJ a b).bind λc=>some (decide (0<=c))
def Bq (e a):CT 38 [.sl 11 (e.map Qn),.clo (.func 39) [] [.L 617]] [(617,.var (Qa a))] (YR e a) V.b (λ_=>[(617,.var (Qa a))]):=
 W 9 func38 Z λC f r h=>B h λg c h=>J f [9,.cm (.fn) [(617,617)] [(617,617)] [] [.d,.d] [(617,.var (Qa a))] (.I g),5] Z (CE _ _ _ c)<|E h Z r1_
def PI (c:Ql)(a:QT):O_ Bool:=(Um c a.M).bind λd=>bif (!d)then some true else bif (a.Next<1)then some true else bif (1099511627776<a.Next)then some true else bif (a.Now<0)then some true else bif (1099511627776<a.Now)then some true else (Lt a.Items a.Next).bind λb=>some (!b)
def IG (b:QT)(c:Ql)(d:Bool):O_ Bool:=bif d then some false else (YR b.Items c).bind λa=>some (!a)
def DX (a:Ql)(b:QT):O_ Bool:=(PI a b).bind (λc=>IG b a c)
def AW (l q):CT 17 [.agg (Qa l),.agg (Qt q)] [] (DX l q) V.b no_:=
 W 43 func17 Z λC a r h=>H a [9] Z<|mV_ h (λs=>⟨[lk_ 2,lk_ 3,(37,.b s)],[(2,.var (Qa l)),(3,.var (Qt q))]⟩) (λs h=>B h λx t h=>K a [1,.A (Qa l),2,.o (.C2 (.b x)),2] Z Z (Tm _ _ _ t)<|I h (λj h=>L a [.S 10 (.b true),28] Z j<|mq_ h Z) λj h=>L a [.S 10 (.b false),5] Z j<|I h (λk h=>L a [.S 15 (.b true),23] Z k<|mq_ h Z) λk h=>L a [.S 15 (.b false),5] Z k<|I h (λe h=>L a [.S 20 (.b true),18] Z e<|mq_ h Z) λe h=>L a [.S 20 (.b false),5] Z e<|I h (λf h=>L a [.S 25 (.b true),13] Z f<|mq_ h Z) λf h=>L a [.S 25 (.b false),5] Z f<|I h (λg h=>L a [.S 30 (.b true),8] Z g<|mq_ h Z) λg h=>B h λu m h=>G a [.S 30 (.b false),4,.o (.C2 (.b u)),3] Z ⟨(tc_ g),(Qdx _ _ _ m)⟩<|mq_ h Z) λs h=>H a [1] Z<|I h (λi h=>J a [.T,7] Z i<|E h Z U) λi h=>B h λw p h=>K a [.F,7,.cm (.fn) [(617,2)] [(2,617)] [] [.d,.d] [(617,.var (Qa l))] (.b w),5] Z i (Bq _ _ _ p)<|E h Z U
def Oa (a:Qw)(b:Int):O_ Bool:=some (a.Id==b)
def QcI (c a):CT 43 [.agg (Qn c),.L 617] [(617,.var (Qb a))] (Oa c a) V.b (λ_=>[(617,.var (Qb a))]):=
 W 8 func43 Z λC d r h=>H d [16] Z<|E h Z r1_
def XR (c:(L_ Qw))(d:Int)(a:Int):O_ (Int⊕(Int⊕Unit)):=bif (a<(c.length:Int))then (idx c a).bind λe=>(Oa e d).bind λb=>bif b then some (.inr (.inl a))else some (.inl (Qq (a+1)))else some (.inr (.inr ()))
def Br (a:Int):O_ Int:=some a
def Bs : O_ Int:=some (-1)
def Kb (a:(L_ Qw))(b:Int):O_ Int:=(QQ (λst=>XR a b st) 0).bind (Sum.elim (λq=>Br q) (λq=>Bs))
def Bt (g e):CT 42 [.sl 11 (g.map Qn),.clo (.func 43) [] [.L 617]] [(617,.var (Qb e))] (Kb g e) V.I (λ_=>[(617,.var (Qb e))]):=
 W 19 func42 Z λC c r h=>J c [9,.o (.ln g.length),4] Z Qd<|lq_ h (λst=>⟨[(0,.sl 11 (g.map Qn)),(1,.clo (.func 43) [] [.L 617]),(7,.I (g.length:Int)),(8,.I st)],[(617,.var (Qb e))]⟩) (λq=>(.ret,⟨[(4,.I q)],[(617,.var (Qb e))]⟩)) (λq=>(.exit 0,⟨[],[(617,.var (Qb e))]⟩)) Z (λm o h=>H c [6] Z<|I h (λf h=>B h λl j h=>B h λk i h=>g4_ c [.T,15,.o (.row (Qn l)),.A (Qn l),.cm (.clo) [(617,617)] [(617,617)] [] [.d,.d] [(617,.var (Qb e))] (.b k),2] Z f (Xd j) Z (QcI _ _ _ i)<|I h (λa h=>J c [.T,9] Z a<|rR_ h Z) λa h=>J c [.F,7] Z a<|rN_ h Z) λf h=>J c [.F,2] Z f<|rX_ h Z) (λp h=>H c [2] Z<|E h Z r1_) (λ_ h=>H c [8] Z<|E h Z r1_)
def Wt (b:(L_ Qw))(a:Int):O_ Int:=(Kb b a).bind λc=>some c
def Tu (c a):CT 18 [.sl 11 (c.map Qn),.I a] [] (Wt c a) V.I no_:=
 W 8 func18 Z λC e r h=>B h λf b h=>J e [10,.cm (.fn) [(617,3)] [(3,617)] [] [.d,.d] [(617,.var (Qb a))] (.I f),4] Z (Bt _ _ _ b)<|E h Z U
def GC (a:QB):O_ (Int×Qw):=(Wt a.now.Items a.call.Id).bind λb=>bif (0<=b)then (idx a.now.Items b).bind λc=>some (0,c)else bif ((0<a.call.Id)&&(a.call.Id<a.now.Next))then some (12,(Qw.mk 0 (Qk.mk 0 ([]:LI_) ([]:LI_) ([]:LI_)) (Xp.mk 0 0 0 0 0) 0))else some (3,(Qw.mk 0 (Qk.mk 0 ([]:LI_) ([]:LI_) ([]:LI_)) (Xp.mk 0 0 0 0 0) 0))
def Mf (f):CT 127 [.L 617] [(617,.var (Qx f))] (GC f) (λr=>(.tup [.agg (Qn r.2),.I r.1])) (λ_=>[(617,.var (Qx f))]):=by
 refine W 49 func127 rfl λC g r h=>?_
 obtain⟨p,k,h⟩:=Qp h
 refine tg_ g [7,.K [0,2] [2,617]] ?_
 refine AK.draw2 Qe g mixed [.N,.N,.N,.N,.N,.N,.N,.N,.N,.N,.B (.C2 (.I p)),.N] [] [] [0,2,4] [2,617] rfl rfl rfl ⟨U,(Tu _ _ _ k)⟩ rfl (by kernel_rfl) rfl rfl rfl ?_
 refine tg_ g [10] ?_
 rcases Xn h with⟨j,h⟩|⟨j,h⟩
 ·obtain⟨l,m,h⟩:=Qp h
  refine Qg g [.T,8,.o (.row (Qn l)),.A (Qn l),1,.O 2 (.var (Qn l)),6,.K [2,3] [2,617]] Z (a4_ j (Xd m) Z Z) ?_
  cases h
  exact AK.done (ex_ [_,_] (an_ (an_ (ex_ _ (ex_ _ (an_ Z (an_ Z (Or.inl (an_ (Qe.ag Z) (an_ (Qe.sz Z) Z))))))) (an_ Z U)) (gives r1_)))
 refine Qg g [.F,1] Z (A j) ?_
 refine AK.meetX (λσ=>σ=⟨[lk_ 2,(27,.b ((0<f.call.Id)&&(f.call.Id<f.now.Next)))],[(2,.var [.I 0,.I 0,.Y,.Y,.Y,.I 0,.I 0,.I 0,.I 0,.I 0,.I 0]),(617,.var (Qx f))]⟩) ?_ ?_
 ·exact H g [.K [0,2] [2,617]] Z<|bO_ (decide (0<f.call.Id)) (λe=> 
    dr_ g [.N,.N,.N,.N,.N,.N,.E (.b true),.N,.N,.N,.N,.N,.N,.N,.N,.N,.N,.N,.N,.N] [] [] [2,27] [2,617] Z Z (tc_ e) Z <|
    J g [.S 27 (.b ((0<f.call.Id)&&(f.call.Id<f.now.Next)))] Z (cb_ (Jv e Z))<|M Z) λe=> 
    dr_ g [.N,.N,.N,.N,.N,.N,.E (.b false),.N,.N,.N,.N,.N,.N,.N,.N,.N,.N,.N,.N,.N] [] [] [2,27] [2,617] Z Z (tc_ e) Z <|
    J g [.S 27 (.b ((0<f.call.Id)&&(f.call.Id<f.now.Next)))] Z (cb_ (WC e Z))<|M Z
 rintro σ rfl
 refine tg_ g [1] ?_
 refine bg_ h (λi h=>Qg g [.T,2,.v .no [none,none,some 1,some 1,some 1,none,none,none,none,none,none] (.agg (Qn (Qw.mk 0 (Qk.mk 0 ([]:LI_) ([]:LI_) ([]:LI_)) (Xp.mk 0 0 0 0 0) 0))),1,.O 2 (.var (Qn (Qw.mk 0 (Qk.mk 0 ([]:LI_) ([]:LI_) ([]:LI_)) (Xp.mk 0 0 0 0 0) 0))),6,.K [2,3] [2,617]] rfl (a3_ i rfl rfl) ?_) λi h=>Qg g [.F,5,.v .no [none,none,some 1,some 1,some 1,none,none,none,none,none,none] (.agg (Qn (Qw.mk 0 (Qk.mk 0 ([]:LI_) ([]:LI_) ([]:LI_)) (Xp.mk 0 0 0 0 0) 0))),1,.O 2 (.var (Qn (Qw.mk 0 (Qk.mk 0 ([]:LI_) ([]:LI_) ([]:LI_)) (Xp.mk 0 0 0 0 0) 0))),4,.K [2,3] [2,617]] rfl (a3_ i rfl rfl) ?_
 ·cases h
  exact AK.done (ex_ [_,_] (an_ (an_ (ex_ _ (ex_ _ (an_ Z (an_ Z (Or.inl (an_ (Qe.ag Z) (an_ (Qe.sz Z) Z))))))) (an_ Z U)) (gives r1_)))
 cases h
 exact AK.done (ex_ [_,_] (an_ (an_ (ex_ _ (ex_ _ (an_ Z (an_ Z (Or.inl (an_ (Qe.ag Z) (an_ (Qe.sz Z) Z))))))) (an_ Z U)) (gives r1_)))
def EW (a:Xp):O_ (Int×Xp):=some (0,a)
def EX (a:Xp):O_ (Int×Xp):=EW (Xp.mk a.Most a.Enough (Qq (a.Open-1)) a.Done (Qq (a.Failed+1)))
def CQ (a:Xp)(b:Int):O_ (Int×Xp):=(KF a).bind λd=>bif (!d)then some (1,a)else (Dc a).bind λe=>bif e then some (12,a)else bif (b==0)then (He a).bind λc=>bif (c==a.Most)then some (2,a)else EW (Xp.mk a.Most a.Enough (Qq (a.Open+1)) a.Done a.Failed)else bif (b==1)then EX (Xp.mk a.Most a.Enough a.Open (Qq (a.Done+1)) (Qq (a.Failed-1)))else bif (b==2)then EX a else EW a
def Oc (f i):CT 287 [.agg (QD f),.I i] [] (CQ f i) (λr=>(.tup [.agg (QD r.2),.I r.1])) no_:=by
 refine W 49 func287 rfl λC g r h=>?_
 obtain⟨y,u,h⟩:=Qp h
 refine Qg g [11,.A (QD f),.o (.C1 (.b y)),4] Z (a2_ Z (Fx _ _ u)) ?_
 rcases Xn h with⟨s,h⟩|⟨s,h⟩
 ·refine Qg g [.T,2,.A (QD f),1,.O 4 (.var (QD f)),6,.K [4,5] [4]] Z (a3_ s Z Z) ?_
  cases h
  exact AK.done (ex_ [_,_] (an_ (an_ (ex_ _ (ex_ _ (an_ Z (an_ Z (Or.inl (an_ (Qe.ag Z) (an_ (Qe.sz Z) Z))))))) (an_ Z U)) (gives U)))
 obtain⟨z,w,h⟩:=Qp h
 refine Qg g [.F,2,.A (QD f),.o (.C1 (.b z)),3] Z (a3_ s Z (NU _ _ w)) ?_
 refine bg_ h (λj h=>Qg g [.T,2,.A (QD f),1,.O 4 (.var (QD f)),6,.K [4,5] [4]] rfl (a3_ j rfl rfl) ?_) λj h=>Qg g [.F,3] rfl (A j) ?_
 ·cases h
  exact AK.done (ex_ [_,_] (an_ (an_ (ex_ _ (ex_ _ (an_ Z (an_ Z (Or.inl (an_ (Qe.ag Z) (an_ (Qe.sz Z) Z))))))) (an_ Z U)) (gives U)))
 refine AK.meet (λσ=>∃k:Xp,σ=⟨[lk_ 2,lk_ 4],[(2,.var (QD k)),(4,.var (QD (Xp.mk 0 0 0 0 0)))]⟩/\EW k=some r) ?_ ?_
 ·refine tg_ g [6] ?_
  refine AK.meet (λσ=>∃e:Xp,σ=⟨[lk_ 2,lk_ 4],[(2,.var (QD e)),(4,.var (QD (Xp.mk 0 0 0 0 0)))]⟩/\EX e=some r) ?_ ?_
  ·refine tg_ g [13] ?_
   rcases Xn h with⟨l,h⟩|⟨l,h⟩
   ·obtain⟨x,t,h⟩:=Qp h
    refine Qg g [.T,8,.K [2,4] [2,4]] Z (A l) ?_
    refine AK.draw2 Qe g mixed [.E (.agg (QD f)),.B (.C1 (.I x)),.N,.N,.N] [] [] [2,4,26] [2,4] rfl rfl rfl ⟨⟨U,rfl⟩,(Tn _ _ t)⟩ rfl (by kernel_rfl) rfl rfl rfl ?_
    refine tg_ g [1] ?_
    refine bg_ h (λm h=>Qg g [.T,2,.A (QD f),1,.O 4 (.var (QD f)),12,.K [4,5] [4]] rfl (a3_ m rfl rfl) ?_) λm h=>Qg g [.F,8,.O 2 (.var (QD (Xp.mk f.Most f.Enough (Qq (f.Open+1)) f.Done f.Failed))),8,.K [2,4] [2,4]] rfl (a2_ m rfl) ?_
    ·cases h
     exact AK.done (ex_ [_,_] (an_ (an_ (ex_ _ (ex_ _ (an_ Z (an_ Z (Or.inl (an_ (Qe.ag Z) (an_ (Qe.sz Z) Z))))))) (an_ Z U)) (gives U)))
    exact AK.met (ex_ _ (an_ Z h))
   refine Qg g [.F,9] Z (A l) ?_
   refine bg_ h (λp h=>Qg g [.T,14,.O 2 (.var (QD (Xp.mk f.Most f.Enough f.Open (Qq (f.Done+1)) f.Failed))),8,.O 2 (.var (QD (Xp.mk f.Most f.Enough f.Open (Qq (f.Done+1)) (Qq (f.Failed-1))))),2,.K [2,4] [2,4]] rfl (a3_ p rfl rfl) ?_) λp h=>Qg g [.F,8] rfl (A p) ?_
   ·exact AK.met (ex_ _ (an_ Z h))
   refine bq_ g h [.T,7,.K [2,4] [2,4]] rfl (λq h=>?_) [.F,10,.K [2,4] [2,4]] rfl λq h=>?_
   ·exact AK.met (ex_ _ (an_ Z h))
   exact AK.met (ex_ _ (an_ Z h))
  rintro σ ⟨e,rfl,h⟩
  unfold EX at h
  refine Qg g [8,.O 2 (.var (QD (Xp.mk e.Most e.Enough e.Open e.Done (Qq (e.Failed+1))))),8,.O 2 (.var (QD (Xp.mk e.Most e.Enough (Qq (e.Open-1)) e.Done (Qq (e.Failed+1))))),4,.K [2,4] [2,4]] Z (a2_ Z Z) ?_
  exact AK.met (ex_ _ (an_ Z h))
 rintro σ ⟨k,rfl,h⟩
 refine Qg g [2,.A (QD k),1,.O 4 (.var (QD k)),4,.K [4,5] [4]] Z (a2_ Z Z) ?_
 cases h
 exact AK.done (ex_ [_,_] (an_ (an_ (ex_ _ (ex_ _ (an_ Z (an_ Z (Or.inl (an_ (Qe.ag Z) (an_ (Qe.sz Z) Z))))))) (an_ Z U)) (gives U)))
def Qak (b:Xp):O_ (Int×Xp):=(CQ b 0).bind λa=>some (a.1,a.2)
def QgT (a):CT 217 [.agg (QD a)] [] (Qak a) (λr=>(.tup [.agg (QD r.2),.I r.1])) no_:=by
 refine W 8 func217 rfl λC f r h=>?_
 obtain⟨b,e,h⟩:=Qp h
 refine Qg f [9,.A (QD a),.o (.C2 (.tup [.agg (QD b.2),.I b.1])),3,.O 2 (.var (QD b.2)),4,.K [2,3] [2]] Z (a3_ Z (Oc _ _ _ e) Z) ?_
 cases h
 exact AK.done (ex_ [_,_] (an_ (an_ (ex_ _ (ex_ _ (an_ Z (an_ Z (Or.inl (an_ (Qe.ag Z) (an_ (Qe.sz Z) Z))))))) (an_ Z U)) (gives U)))
def Vq (b:Xp):O_ (Int×Xp):=(CQ b 1).bind λa=>some (a.1,a.2)
def QfQ (a):CT 218 [.agg (QD a)] [] (Vq a) (λr=>(.tup [.agg (QD r.2),.I r.1])) no_:=by
 refine W 8 func218 rfl λC f r h=>?_
 obtain⟨b,e,h⟩:=Qp h
 refine Qg f [9,.A (QD a),.o (.C2 (.tup [.agg (QD b.2),.I b.1])),3,.O 2 (.var (QD b.2)),4,.K [2,3] [2]] Z (a3_ Z (Oc _ _ _ e) Z) ?_
 cases h
 exact AK.done (ex_ [_,_] (an_ (an_ (ex_ _ (ex_ _ (an_ Z (an_ Z (Or.inl (an_ (Qe.ag Z) (an_ (Qe.sz Z) Z))))))) (an_ Z U)) (gives U)))
def Vr (b:Xp):O_ (Int×Xp):=(CQ b 2).bind λa=>some (a.1,a.2)
def QfR (a):CT 219 [.agg (QD a)] [] (Vr a) (λr=>(.tup [.agg (QD r.2),.I r.1])) no_:=by
 refine W 8 func219 rfl λC f r h=>?_
 obtain⟨b,e,h⟩:=Qp h
 refine Qg f [9,.A (QD a),.o (.C2 (.tup [.agg (QD b.2),.I b.1])),3,.O 2 (.var (QD b.2)),4,.K [2,3] [2]] Z (a3_ Z (Oc _ _ _ e) Z) ?_
 cases h
 exact AK.done (ex_ [_,_] (an_ (an_ (ex_ _ (ex_ _ (an_ Z (an_ Z (Or.inl (an_ (Qe.ag Z) (an_ (Qe.sz Z) Z))))))) (an_ Z U)) (gives U)))
def Ez (d:QB)(c:Xp):O_ (Int×Xp):=bif (d.call.Do==4)then (Qak c).bind λe=>some (e.1,e.2)else bif (d.call.Do==2)then (Vq c).bind λa=>some (a.1,a.2)else (Vr c).bind λb=>some (b.1,b.2)
def SI (l g):CT 128 [.L 617,.agg (QD g)] [(617,.var (Qx l))] (Ez l g) (λr=>(.tup [.agg (QD r.2),.I r.1])) (λ_=>[(617,.var (Qx l))]):=by
 refine W 27 func128 rfl λC i r h=>?_
 refine tg_ i [24] ?_
 rcases Xn h with⟨a,h⟩|⟨a,h⟩
 ·obtain⟨m,p,h⟩:=Qp h
  refine Qg i [.T,2,.A (QD g),.o (.C1 (.tup [.agg (QD m.2),.I m.1])),3,.O 4 (.var (QD m.2)),6,.K [4,5] [4,617]] Z (a4_ a Z (QgT _ _ p) Z) ?_
  cases h
  exact AK.done (ex_ [_,_] (an_ (an_ (ex_ _ (ex_ _ (an_ Z (an_ Z (Or.inl (an_ (Qe.ag Z) (an_ (Qe.sz Z) Z))))))) (an_ Z U)) (gives r1_)))
 refine Qg i [.F,6] Z (A a) ?_
 rcases Xn h with⟨b,h⟩|⟨b,h⟩
 ·obtain⟨e,j,h⟩:=Qp h
  refine Qg i [.T,2,.A (QD g),.o (.C1 (.tup [.agg (QD e.2),.I e.1])),3,.O 4 (.var (QD e.2)),6,.K [4,5] [4,617]] Z (a4_ b Z (QfQ _ _ j) Z) ?_
  cases h
  exact AK.done (ex_ [_,_] (an_ (an_ (ex_ _ (ex_ _ (an_ Z (an_ Z (Or.inl (an_ (Qe.ag Z) (an_ (Qe.sz Z) Z))))))) (an_ Z U)) (gives r1_)))
 obtain⟨f,k,h⟩:=Qp h
 refine Qg i [.F,5,.A (QD g),.o (.C1 (.tup [.agg (QD f.2),.I f.1])),3,.O 4 (.var (QD f.2)),4,.K [4,5] [4,617]] Z (a4_ b Z (QfR _ _ k) Z) ?_
 cases h
 exact AK.done (ex_ [_,_] (an_ (an_ (ex_ _ (ex_ _ (an_ Z (an_ Z (Or.inl (an_ (Qe.ag Z) (an_ (Qe.sz Z) Z))))))) (an_ Z U)) (gives r1_)))
def Bu (a:Qw):O_ Qw:=(Xs a.Mode.Vars).bind λb=>(Xs a.Mode.Ins).bind λc=>(Xs a.Mode.Outs).bind λd=>some (Qw.mk a.Id (Qk.mk a.Mode.Task b c d) a.Batch a.Until)
def PJ (b):CT 216 [.agg (Qn b)] [] (Bu b) (λr=>(.agg (Qn r))) no_:=by
 refine W 22 func216 rfl λC g r h=>?_
 obtain⟨c,i,h⟩:=Qp h
 obtain⟨e,j,h⟩:=Qp h
 obtain⟨f,k,h⟩:=Qp h
 refine tg_ g [7,.K [1,2] [1,2]] ?_
 refine AK.draw2 Qe g mixed [.N,.N,.N,.B (.cd false [.d] 1 (c.map Qb) c.length),.N,.N,.N,.B (.cd false [.d] 1 (e.map Qb) e.length),.N,.N,.N,.B (.cd false [.d] 1 (f.map Qb) f.length),.N,.N,.m .s,.N,.N,.m .s,.N,.N,.m .s] [] [] [1,2] [1,2] rfl rfl rfl ⟨⟨⟨U,⟨(XO _ _ i),Qd⟩⟩,⟨(XO _ _ j),Qd⟩⟩,⟨(XO _ _ k),Qd⟩⟩ rfl (by kernel_rfl) rfl rfl rfl ?_
 refine Qg g [.O 1 (.var (Qn (Qw.mk b.Id (Qk.mk b.Mode.Task c e f) b.Batch b.Until))),3,.A (Qn (Qw.mk b.Id (Qk.mk b.Mode.Task c e f) b.Batch b.Until)),1,.O 2 (.var (Qn (Qw.mk b.Id (Qk.mk b.Mode.Task c e f) b.Batch b.Until))),3,.K [2] [2]] Z (a3_ Z Z Z) ?_
 cases h
 exact AK.done (ex_ [_] (an_ (an_ (ex_ _ (ex_ _ (an_ Z (an_ Z (Or.inl (an_ (Qe.ag Z) (an_ (Qe.sz Z) Z))))))) U) (gives U)))
def MS (b:Int)(a:(L_ Qw)):O_ ((Int×(L_ Qw))⊕(L_ Qw)):=some (.inl ((Qq (b+1)),a))
def GR (f:(L_ Qw))(e:Int)(c:Int)(d:(L_ Qw)):O_ ((Int×(L_ Qw))⊕(L_ Qw)):=bif (c<(f.length:Int))then (idx f c).bind λa=>bif (a.Id != e)then (Bu a).bind λb=>(chk (d.length+([b]:L_ Qw).length<=4294967296)).bind λ_=>MS c (d++([b]:L_ Qw))else MS c d else some (.inr d)
def QeN (a:(L_ Qw)):O_ (L_ Qw):=some a
def Bv (b:(L_ Qw))(a:Int):O_ (L_ Qw):=(QQ (λst=>GR b a st.1 st.2) (0,([]:L_ Qw))).bind (λq=>QeN q)
def MT (k f):CT 213 [.sl 11 (k.map Qn),.I f] [] (Bv k f) (λr=>(.own 600 r.length)) (λr=>[(600,.arr 11 (r.map Qn))]):=
 W 25 func213 Z λC g r h=>g3_ g [14,.o (.ln k.length),4,.adopt 5 18 11,.O 18 (.arr 11 (([]:L_ Qw).map Qn)),.S 5 (.own 18 ([]:L_ Qw).length)] Z Qd Z (congrArg (λn=>V.own 18 n) (by simp))<|lp_ h (λst=>⟨[(1,.I f),(5,.own 18 st.2.length),(8,.sl 11 (k.map Qn)),(9,.I (k.length:Int)),(10,.I st.1)],[(18,.arr 11 (st.2.map Qn))]⟩) (λq=>(.exit 0,⟨[(5,.own 18 q.length)],[(18,.arr 11 (q.map Qn))]⟩)) Z (λ⟨s,t⟩ o h=>H g [6] Z<|I h (λa h=>J g [.T,2] Z a<|mE_ (λb:(L_ Qw)=>⟨[(1,.I f),(5,.own 18 b.length),(8,.sl 11 (k.map Qn)),(9,.I (k.length:Int)),(10,.I s)],[(18,.arr 11 (b.map Qn))]⟩) (λb=>MS s b=some o) (B h λi l h=>g3_ g [3,.o (.row (Qn i)),.A (Qn i),2,.O 7 (.var (Qn i)),10] Z (Xd l) Z Z<|I h (λe h=>B h λj m h=>X h λp h=>G g [.T,2,.A (Qn i),.o (.C1 (.agg (Qn j))),.v (.bd []) [] (.sl 11 (([j]:L_ Qw).map Qn)),.app ((t++([j]:L_ Qw)).map Qn) (t++([j]:L_ Qw)).length,3] Z (a5_ e Z (PJ _ _ m) Z ⟨Qd,Bd p Qd,JS,Gi Qd⟩)<|me_ h Z) λe h=>J g [.F,2] Z e<|me_ h Z) λb h=>H g [4] Z<|rN_ h Z) λa h=>J g [.F,2] Z a<|rX_ h Z) λu h=>H g [9,.K [4] [18],.ren 18 600] Z<|E h Z r1_
def Pp (a:Qw)(b:Qw):O_ Bool:=some (decide (b.Id<a.Id))
def QdB (c a):CT 214 [.agg (Qn c),.L 617] [(617,.var (Qn a))] (Pp c a) V.b (λ_=>[(617,.var (Qn a))]):=
 W 9 func214 Z λC d r h=>H d [17] Z<|E h Z r1_
def XS (c:(L_ Qw))(d:Qw)(a:Int):O_ (Int⊕(Int⊕Unit)):=bif (a<(c.length:Int))then (idx c a).bind λe=>(Pp e d).bind λb=>bif b then some (.inr (.inl a))else some (.inl (Qq (a+1)))else some (.inr (.inr ()))
def Bw (a:Int):O_ Int:=some a
def Bx : O_ Int:=some (-1)
def YS (a:(L_ Qw))(b:Qw):O_ Int:=(QQ (λst=>XS a b st) 0).bind (Sum.elim (λq=>Bw q) (λq=>Bx))
def Bz (c f):CT 42 [.own 617 c.length,.clo (.func 214) [] [.L 618]] [(617,.arr 11 (c.map Qn)),(618,.var (Qn f))] (YS c f) V.I (λ_=>[(617,.arr 11 (c.map Qn)),(618,.var (Qn f))]):=
 W 19 func42 Z λC e r h=>H e [14] Z<|lq_ h (λst=>⟨[(0,.own 617 c.length),(1,.clo (.func 214) [] [.L 618]),(7,.I (c.length:Int)),(8,.I st)],[(617,.arr 11 (c.map Qn)),(618,.var (Qn f))]⟩) (λq=>(.ret,⟨[(4,.I q)],[(617,.arr 11 (c.map Qn)),(618,.var (Qn f))]⟩)) (λq=>(.exit 0,⟨[],[(617,.arr 11 (c.map Qn)),(618,.var (Qn f))]⟩)) Z (λm o h=>H e [6] Z<|I h (λg h=>B h λl i h=>B h λk j h=>G e [.T,16,.v (.row (Qn l)) [] (.agg (Qn l)),.cm (.clo) [(617,618)] [(618,617)] [] [.d,.d] [(617,.var (Qn f))] (.b k),2] Z (a5_ g (Yx i Z) (Xz (YV i).2) Z (QdB _ _ _ j))<|I h (λa h=>J e [.T,9] Z a<|rR_ h Z) λa h=>J e [.F,7] Z a<|rN_ h Z) λg h=>J e [.F,2] Z g<|rX_ h Z) (λp h=>H e [2] Z<|E h Z r2_) (λ_ h=>H e [8] Z<|E h Z r2_)
def Ym (l:(L_ Qw))(i:Int)(m:(L_ Qw)):O_ (L_ Qw):=match m with
 | [u]=>(chk (decide (0<=i)&&decide (i.toNat<=l.length)&&decide (l.length+1<=4294967296))).bind λ_=>some (l.take i.toNat++u::l.drop i.toNat)
 | _=>none
def Hj (l i m){r}(h:Ym l i m=some r):QX prog 215 [.own 615 l.length,.I i,.own 616 m.length] [(615,.arr 11 (l.map Qn)),(616,.arr 11 (m.map Qn))] (Gives (.own 615 r.length) [(615,.arr 11 (r.map Qn))]):=by
 unfold Ym at h
 split at h
 ·rename_i u
  obtain⟨_,a,h⟩:=Qp h
  replace a:=Qfz a
  simp only[QL,QM]at a
  cases h
  have:=QhK Qir (l.map Qn) (Qn u) i a.1.1 (by rw[BW];exact a.1.2) (by rw[BW];exact a.2)
  rw[<-List.map_take,<-List.map_drop,<-GK,<-List.map_append,BW,BW]at this
  exact this
 cases h
def HV (a:Qw)(b:(L_ Qw))(h:Int):O_ (L_ Qw):=(Bu a).bind λc=>(Ym b h ([c]:L_ Qw)).bind λd=>some d
def IW (d:(L_ Qw))(a:Qw):O_ (L_ Qw):=(Bv d a.Id).bind λb=>(YS b a).bind λc=>bif (c<0)then HV a b (b.length:Int)else HV a b c
def VY (m b):CT 126 [.sl 11 (m.map Qn),.agg (Qn b)] [] (IW m b) (λr=>(.own 600 r.length)) (λr=>[(600,.arr 11 (r.map Qn))]):=
 W 24 func126 Z λC f r h=>B h λe g h=>B h λq i h=>K f [11,.o (.co false [.d,.d] 11 (e.map Qn) e.length),7,.cm (.fn) [(617,10),(618,3)] [(10,617),(3,618)] [] [.d,.d] [(617,.arr 11 (e.map Qn)),(618,.var (Qn b))] (.I q),3] Z ⟨(MT _ _ _ g),Qd,.inl Z⟩ (Bz _ _ _ i)<|mE_ (λy:Int=>⟨[lk_ 3,(5,.own 10 e.length),(6,.I y)],[(3,.var (Qn b)),(10,.arr 11 (e.map Qn))]⟩) (λy=>HV b e y=some r) (H f [6] Z<|I h (λa h=>J f [.T,5] Z a<|me_ h Z) λa h=>J f [.F,1] Z a<|me_ h Z) λy h=>B h λj k h=>B h λp l h=>G f [4,.A (Qn b),.o (.C1 (.agg (Qn j))),1,.O 22 (.arr 11 (([j]:L_ Qw).map Qn)),.S 22 (.own 22 ([j]:L_ Qw).length),.cm (.fn) [(615,10),(616,22)] [(10,615)] [10,22] [.d,.d,.d] [(615,.arr 11 (p.map Qn))] (.own 615 p.length),4,.K [4] [10],.ren 10 600] Z (a5_ Z (PJ _ _ k) Z Z (Hj _ _ _ l))<|E h Z r1_
def VZ (a:Xp):O_ Bool:=(KF a).bind λb=>bif b then some (decide (a.Enough<=a.Done))else some false
def Za (a:Bool):O_ Bool:=some a
def OL (a:Xp):O_ Bool:=(VZ a).bind (λb=>Za b)
def QfS (f):CT 129 [.agg (QD f)] [] (OL f) V.b no_:=
 W 12 func129 Z λC e r h=>H e [7] Z<|mV_ h (λg=>⟨[(2,.b g)],[]⟩) (λg h=>B h λj i h=>K e [1,.A (QD f),.o (.C1 (.b j)),1] Z Z (Fx _ _ i)<|I h (λa h=>L e [.S 5 (.b true),8] Z a<|mq_ h Z) λa h=>L e [.S 5 (.b false),8] Z a<|mq_ h Z) λg h=>H e [2] Z<|E h Z U
def Uq (f:QMk)(g:QMk)(c:Int)(a:QMk):O_ ((Int×QMk)⊕(Int⊕QMk)):=bif (c<((List.replicate (min2 (f.length:Int) (g.length:Int)).toNat (([]:QBg):QBg)).length:Int))then (idx f c).bind λd=>(idx g c).bind λe=>(Ji d e).bind λb=>(idx a c).bind λh=>bif (b.2 != 0)then some (.inr (.inl b.2))else some (.inl ((Qq (c+1)),(a.set c.toNat b.1)))else some (.inr (.inr a))
def QdC (a:Int):O_ (QMk×Int):=some (([]:L_ QBg),a)
def QdD (a:QMk):O_ (QMk×Int):=some (a,0)
def Ed (a:QMk)(b:QMk):O_ (QMk×Int):=(chk (decide (0<=(min2 (a.length:Int) (b.length:Int)))&&decide ((min2 (a.length:Int) (b.length:Int))<=(min2 (a.length:Int) (b.length:Int)))&&decide ((min2 (a.length:Int) (b.length:Int))<=4294967296))).bind λ_=>(QQ (λst=>Uq a b st.1 st.2) (0,(List.replicate (min2 (a.length:Int) (b.length:Int)).toNat (([]:QBg):QBg)))).bind (Sum.elim (λq=>QdC q) (λq=>QdD q))
def RX (l p):CT 211 [.sl 1 (l.map Qm),.sl 1 (p.map Qm),.clo (.func 53) [] []] [] (Ed l p) (λr=>(.tup [.sl 1 (r.1.map Qm),.I r.2])) no_:=
 W 43 func211 Z λC e r h=>X h λy h=>g3_ e [9,.o (.ln l.length),1,.o (.ln p.length),1,.o (.rows (List.replicate (min2 (l.length:Int) (p.length:Int)).toNat [.Y]))] Z Qd Qd ⟨y,Z⟩<|AK.denilA (b:=16) [some 2] Z (QhF (f:=Qm) (x:=([]:QBg)) Z)<|J e [.S 16 (.own 16 (List.replicate (min2 (l.length:Int) (p.length:Int)).toNat (([]:QBg):QBg)).length),12] Z (by simp)<|lq_ h (λst=>⟨[(0,.sl 1 (l.map Qm)),(1,.sl 1 (p.map Qm)),(2,.clo (.func 53) [] []),(8,.own 16 st.2.length),(18,.I ((List.replicate (min2 (l.length:Int) (p.length:Int)).toNat (([]:QBg):QBg)).length:Int)),(19,.I st.1)],[(16,.arr 1 (st.2.map Qm))]⟩) (λq=>(.ret,⟨[(6,.Y),(7,.I q)],[]⟩)) (λq=>(.exit 0,⟨[(8,.own 16 q.length)],[(16,.arr 1 (q.map Qm))]⟩)) Z (λ⟨x9,t⟩ o h=>H e [6] Z<|I h (λg h=>B h λz u h=>B h λD v h=>B h λj w h=>B h λO k h=>G e [.T,16] Z (A g) <| 
  dr_ e [.N,.N,.N,.N,.N,.B (.row (Qm z)),.N,.N,.N,.B (.row (Qm D)),.N,.B (.C2 (.tup [.sl 2 (j.1.map QW),.I j.2])),.a .no none true true,.N,.a .no none true,.N,.m (.st (Qm O) ((t.set x9.toNat j.1).map Qm)),.m .s] [0,1,2,8,9,10,18,19] [] [0,1,2,8,10,18,19] [16] Z Z (a5_ (Xd u) (Xd v) (RN _ _ _ w) (Yx k Z) ⟨(Xz (YV k).2),Ug Z⟩) Z <|
  H e [7] Z<|I h (λi h=>J e [.T,10] Z i<|rR_ h Z) λi h=>K e [.F,7,.S 8 (.own 16 (t.set x9.toNat j.1).length)] Z i (congrArg (λn=>V.own 16 n) (by simp))<|rN_ h Z) λg h=>J e [.F,2] Z g<|rX_ h Z) (λa0 h=>H e [2,.denil 6 [some 1]] Z<|F h Z Z U) (λP h=>J e [10,.frz 16 (P.map Qm) [6] []] Z (A (Wr Qd))<|F h Z Z U)
def DY (a:Int)(b:QMk):O_ ((Int×QMk)⊕QMk):=some (.inl ((Qq (a+1)),b))
def BA (d:QS)(b:Int)(a:QMk):O_ ((Int×QMk)⊕QMk):=bif (b<(d.Cancel.length:Int))then (idx d.Cancel b).bind λc=>bif ((0<=c)&&(c<(a.length:Int)))then (idx a c).bind λe=>DY b (a.set c.toNat ([]:QBg))else DY b a else some (.inr a)
def BB (c:(QMk×Int))(b:QMk):O_ (QMk×Int):=(Ed b c.1).bind λa=>some (a.1,a.2)
def EU (d:Ql)(f:QMk)(e:Qk):O_ (QMk×Int):=(Uo d e).bind λa=>bif (a.2 != 0)then some (([]:L_ QBg),a.2)else (IT f).bind λb=>(idx d.Tasks e.Task).bind λc=>(QQ (λst=>BA c st.1 st.2) (0,b)).bind (λq=>BB a q)
def QfT (O m2 P):CT 131 [.agg (Qa O),.sl 1 (m2.map Qm),.agg (Qo P)] [] (EU O m2 P) (λr=>(.tup [.sl 1 (r.1.map Qm),.I r.2])) no_:=
 W 53 func131 Z λC g r h=>B h λt a0 h=>g3_ g [10,.A (Qa O),.A (Qo P),.o (.C2 (.tup [.sl 1 (t.1.map Qm),.I t.2])),14] Z Z Z (Tt _ _ _ a0)<|I h (λp h=>J g [.T,9,.denil 6 [some 1]] Z p<|F h Z Z U) λp h=>B h λu w h=>B h λe y h=>g4_ g [.F,5,.o (.co false [.d] 1 (u.map Qm) u.length),10,.o (.row (Qi e)),2,.o (.ln e.Cancel.length),4] Z p ⟨(VU _ _ w),Qd,.inl Z⟩ (Xd y) Qd<|lp_ h (λst=>⟨[(8,.sl 1 (t.1.map Qm)),(10,.own 23 st.2.length),(30,.sl 1 (e.Cancel.map Qb)),(31,.I (e.Cancel.length:Int)),(32,.I st.1)],[(23,.arr 1 (st.2.map Qm))]⟩) (λq=>(.exit 0,⟨[(8,.sl 1 (t.1.map Qm)),(10,.own 23 q.length)],[(23,.arr 1 (q.map Qm))]⟩)) Z (λ⟨s,i⟩ o h=>H g [6] Z<|I h (λj h=>J g [.T,2] Z j<|mE_ (λk:QMk=>⟨[(8,.sl 1 (t.1.map Qm)),(10,.own 23 k.length),(30,.sl 1 (e.Cancel.map Qb)),(31,.I (e.Cancel.length:Int)),(32,.I s)],[(23,.arr 1 (k.map Qm))]⟩) (λk=>DY s k=some o) (B h λa z h=>J g [3,.o (.row (Qb a)),5] Z (Xd z)<|Y ⟨[(8,.sl 1 (t.1.map Qm)),(10,.own 23 i.length),(12,.I a),(30,.sl 1 (e.Cancel.map Qb)),(31,.I (e.Cancel.length:Int)),(32,.I s),(43,.b ((0<=a)&&(a<(i.length:Int))))],[(23,.arr 1 (i.map Qm))]⟩ (H g [4] Z<|bO_ (decide (0<=a)) (λf=>G g [.S 38 (.b true),6,.S 43 (.b ((0<=a)&&(a<(i.length:Int))))] Z ⟨(tc_ f),(cb_ (Jv f Z))⟩<|M Z) λf=>G g [.S 38 (.b false),6,.S 43 (.b ((0<=a)&&(a<(i.length:Int))))] Z ⟨(tc_ f),(cb_ (WC f Z))⟩<|M Z)<|H g [1] Z<|I h (λl h=>B h λa1 m h=>g4_ g [.T,4,.x (λσ=>σ.set 23 (.arr 1 ((i.set a.toNat ([]:QBg)).map Qm))),2,.S 10 (.own 23 (i.set a.toNat ([]:QBg)).length)] Z l (Yx m Z) (Qf.storeNil (zz:=2) (r:=Qm a1) Z Z Z Z (Xz (YV m).2) Z (Qe.sz Z) Z (Ug Z)) (congrArg (λn=>V.own 23 n) (by simp))<|me_ h Z) λl h=>J g [.F,2] Z l<|me_ h Z) λk h=>H g [4] Z<|rN_ h Z) λj h=>J g [.F,2] Z j<|rX_ h Z) λa2 h=>B h λD N h=>K g [6,.frz 23 (a2.map Qm) [10,48] [],.cm (.fn) [] [] [] [.d,.d,.d] [] (.tup [.sl 1 (D.1.map Qm),.I D.2]),7] Z (a2_ (Wr Qd) (Wr Qd)) (RX _ _ _ N)<|F h Z Z U
def Ar (a:QB)(c:Qw):O_ (Int×QB):=(EU a.net a.now.M c.Mode).bind λb=>bif (b.2 != 0)then some (b.2,a)else (Bv a.now.Items c.Id).bind λd=>some (0,(QB.mk a.net (QT.mk b.1 d a.now.Next a.now.Now) a.call))
def Zb (b g):CT 130 [.L 617,.agg (Qn g),.clo (.func 131) [] []] [(617,.var (Qx b))] (Ar b g) (λr=>(.I r.1)) (λr=>[(617,.var (Qx r.2))]):=
 W 45 func130 Z λC e r h=>B h λi j h=>H e [7] Z <| 
  dr_ e [.N,.N,.N,.N,.E (.agg (Qa b.net)),.N,.N,.N,.N,.N,.N,.E (.agg (Qo g.Mode)),.B (.C3 (.tup [.sl 1 (i.1.map Qm),.I i.2])),.N,.N,.N,.N,.N] [] [] [0,4,7,8] [4,617] Z Z (a3_ Z Z (QfT _ _ _ _ j)) Z <|
  H e [8] Z<|I h (λf h=>J e [.T,8] Z f<|E h Z r1_) λf h=>B h λk l h=>G e [.F,3] Z (A f) <| 
  dr_ e [.N,.a .no none true,.N,.N,.N,.N,.N,.N,.N,.N,.B (.cd false [.d,.d] 11 (k.map Qn) k.length),.N,.N,.N,.m .s,.N,.N,.N,.m .s] [0,4,7] [4] [] [617] Z Z (A ⟨(MT _ _ _ l),Qd⟩) Z <|
  J e [.O 617 (.var (Qx (QB.mk b.net (QT.mk i.1 k b.now.Next b.now.Now) b.call))),7] Z Z<|E h Z r1_
def KP (c:Ql)(d:QMk)(e:Qk):O_ (QMk×Int):=(YC c e).bind λb=>bif (b.2 != 0)then some (([]:L_ QBg),b.2)else (Ed d b.1).bind λa=>some (a.1,a.2)
def QfU (f k g):CT 132 [.agg (Qa f),.sl 1 (k.map Qm),.agg (Qo g)] [] (KP f k g) (λr=>(.tup [.sl 1 (r.1.map Qm),.I r.2])) no_:=
 W 24 func132 Z λC i r h=>B h λl j h=>g3_ i [10,.A (Qa f),.A (Qo g),.o (.C2 (.tup [.sl 1 (l.1.map Qm),.I l.2])),14] Z Z Z (MR _ _ _ j)<|I h (λa h=>J i [.T,9,.denil 6 [some 1]] Z a<|F h Z Z U) λa h=>B h λb e h=>K i [.F,6,.cm (.fn) [] [] [] [.d,.d,.d] [] (.tup [.sl 1 (b.1.map Qm),.I b.2]),7] Z a (RX _ _ _ e)<|F h Z Z U
def Jc (a:QB)(c:Qw):O_ (Int×QB):=(KP a.net a.now.M c.Mode).bind λb=>bif (b.2 != 0)then some (b.2,a)else (Bv a.now.Items c.Id).bind λd=>some (0,(QB.mk a.net (QT.mk b.1 d a.now.Next a.now.Now) a.call))
def Ur (b g):CT 130 [.L 617,.agg (Qn g),.clo (.func 132) [] []] [(617,.var (Qx b))] (Jc b g) (λr=>(.I r.1)) (λr=>[(617,.var (Qx r.2))]):=
 W 45 func130 Z λC e r h=>B h λi j h=>H e [7] Z <| 
  dr_ e [.N,.N,.N,.N,.E (.agg (Qa b.net)),.N,.N,.N,.N,.N,.N,.E (.agg (Qo g.Mode)),.B (.C3 (.tup [.sl 1 (i.1.map Qm),.I i.2])),.N,.N,.N,.N,.N] [] [] [0,4,7,8] [4,617] Z Z (a3_ Z Z (QfU _ _ _ _ j)) Z <|
  H e [8] Z<|I h (λf h=>J e [.T,8] Z f<|E h Z r1_) λf h=>B h λk l h=>G e [.F,3] Z (A f) <| 
  dr_ e [.N,.a .no none true,.N,.N,.N,.N,.N,.N,.N,.N,.B (.cd false [.d,.d] 11 (k.map Qn) k.length),.N,.N,.N,.m .s,.N,.N,.N,.m .s] [0,4,7] [4] [] [617] Z Z (A ⟨(MT _ _ _ l),Qd⟩) Z <|
  J e [.O 617 (.var (Qx (QB.mk b.net (QT.mk i.1 k b.now.Next b.now.Now) b.call))),7] Z Z<|E h Z r1_
def Jr (b:QB)(c:Int)(a:Qw):O_ (Int×Qz×QB):=bif (c != 0)then some (c,(Qz.mk 0 0 ([]:LI_)),b)else (Dc a.Batch).bind λf=>bif (!f)then (IW b.now.Items a).bind λg=>some (0,(Qz.mk 0 a.Id ([]:LI_)),(QB.mk b.net (QT.mk b.now.M g b.now.Next b.now.Now) b.call))else (OL a.Batch).bind λh=>bif h then (Ar b a).bind λd=>some (d.1,(Qz.mk 0 a.Id ([a.Id]:L_ Int)),d.2)else (Jc b a).bind λe=>some (e.1,(Qz.mk 0 a.Id ([a.Id]:L_ Int)),e.2)
def Gl (c:QB):O_ (Int×Qz×QB):=(GC c).bind λa=>bif (a.1==0)then (Ez c a.2.Batch).bind λb=>Jr c b.1 (Qw.mk a.2.Id a.2.Mode b.2 a.2.Until)else Jr c a.1 a.2
def Rc (g):CT 71 [.L 617] [(617,.var (Qx g))] (Gl g) (λr=>(.tup [.agg (Qr r.2.1),.I r.1])) (λr=>[(617,.var (Qx r.2.2))]):=by
 refine W 63 func71 rfl λC f r h=>?_
 obtain⟨q,a1,h⟩:=Qp h
 refine Qg f [9,.cm (.fn) [(617,617)] [(617,617)] [] [.d] [(617,.var (Qx g))] (.tup [.agg (Qn q.2),.I q.1]),5,.O 4 (.var (Qn q.2)),3] Z (a2_ (Mf _ _ a1) Z) ?_
 refine AK.meet (λσ=>∃i:Int,∃e:Qw,σ=⟨[(0,.L 617),lk_ 2,lk_ 4,(5,.I i)],[(2,.var [.I 0,.I 0,.Y]),(4,.var (Qn e)),(617,.var (Qx g))]⟩/\Jr g i e=some r) ?_ ?_
 ·refine tg_ f [6] ?_
  rcases Xn h with⟨j,h⟩|⟨j,h⟩
  ·obtain⟨t,y,h⟩:=Qp h
   refine Qg f [.T,3,.A (QD q.2.Batch),.cm (.fn) [(617,617)] [(617,617)] [] [.d,.d] [(617,.var (Qx g))] (.tup [.agg (QD t.2),.I t.1]),5,.O 4 (.var (Qn (Qw.mk q.2.Id q.2.Mode t.2 q.2.Until))),2,.K [0,2,4,5] [2,4,617]] Z (a4_ j Z (SI _ _ _ y) Z) ?_
   exact AK.met (ex_ _ (ex_ _ (an_ Z h)))
  refine Qg f [.F,1,.K [0,2,4,5] [2,4,617]] Z (A j) ?_
  exact AK.met (ex_ _ (ex_ _ (an_ Z h)))
 rintro σ ⟨i,e,rfl,h⟩
 refine tg_ f [7] ?_
 rcases Xn h with⟨k,h⟩|⟨k,h⟩
 ·refine Qg f [.T,2,.v .no [none,none,some 1] (.agg (Qr (Qz.mk 0 0 ([]:LI_)))),2,.O 2 (.var (Qr (Qz.mk 0 0 ([]:LI_)))),5,.K [2,3] [2,617]] Z (a3_ k Z Z) ?_
  cases h
  exact AK.done (ex_ [_,_] (an_ (an_ (ex_ _ (ex_ _ (an_ Z (an_ Z (Or.inl (an_ (Qe.ag Z) (an_ (Qe.sz Z) Z))))))) (an_ Z U)) (gives r1_)))
 obtain⟨a2,z,h⟩:=Qp h
 refine Qg f [.F,8,.v (.bd []) [] (.sl 1 (([e.Id]:L_ Int).map Qb)),.A (Qr (Qz.mk 0 e.Id ([e.Id]:L_ Int))),2,.O 6 (.var (Qr (Qz.mk 0 e.Id ([e.Id]:L_ Int)))),7,.A (QD e.Batch),.o (.C1 (.b a2)),4] Z (a6_ k Z Z Z Z (NU _ _ z)) ?_
 rcases Xn h with⟨l,h⟩|⟨l,h⟩
 ·obtain⟨u,D,h⟩:=Qp h
  refine Qg f [.T,1,.K [0,2,4] [2,4,617]] Z (A l) ?_
  refine AK.draw2 Qe f mixed [.N,.N,.N,.N,.N,.N,.E (.agg (Qn e)),.B (.cd false [.d,.d] 11 (u.map Qn) u.length),.N,.N,.N,.m .s] [] [] [2,4] [2,4,617] rfl rfl rfl ⟨⟨U,rfl⟩,⟨(VY _ _ _ D),Qd⟩⟩ rfl (by kernel_rfl) rfl rfl rfl ?_
  refine Qg f [.O 617 (.var (Qx (QB.mk g.net (QT.mk g.now.M u g.now.Next g.now.Now) g.call))),5,.v .no [none,none,some 1] (.agg (Qr (Qz.mk 0 e.Id ([]:LI_)))),1,.O 2 (.var (Qr (Qz.mk 0 e.Id ([]:LI_)))),6,.K [2,3] [2,617]] Z (a3_ Z Z Z) ?_
  cases h
  exact AK.done (ex_ [_,_] (an_ (an_ (ex_ _ (ex_ _ (an_ Z (an_ Z (Or.inl (an_ (Qe.ag Z) (an_ (Qe.sz Z) Z))))))) (an_ Z U)) (gives r1_)))
 obtain⟨a3,P,h⟩:=Qp h
 refine Qg f [.F,3,.A (QD e.Batch),.o (.C1 (.b a3)),3] Z (a3_ l Z (QfS _ _ P)) ?_
 rcases Xn h with⟨p,h⟩|⟨p,h⟩
 ·obtain⟨w,S,h⟩:=Qp h
  refine Qg f [.T,1,.K [0,2,4,6] [2,4,6,617]] Z (A p) ?_
  refine AK.draw2 Qe f mixed [.a .no (some ([],.agg (Qr (Qz.mk 0 e.Id ([e.Id]:L_ Int))))) true,.N,.E (.agg (Qn e)),.m (.cm (.fn) [(617,617)] [(617,617)] [] [.d,.d,.d] [(617,.var (Qx w.2))] (.I w.1) []),.m .s,.N] [0,2,4,6] [2,4,6] [2,3] [2,617] rfl rfl rfl ⟨⟨⟨U,rfl⟩,rfl⟩,⟨U,(Zb _ _ _ S)⟩⟩ rfl (by kernel_rfl) rfl rfl rfl ?_
  refine Qg f [.O 2 (.var (Qr (Qz.mk 0 e.Id ([e.Id]:L_ Int)))),.O 617 (.var (Qx w.2)),4,.K [2,3] [2,617]] Z (a2_ Z Z) ?_
  cases h
  exact AK.done (ex_ [_,_] (an_ (an_ (ex_ _ (ex_ _ (an_ Z (an_ Z (Or.inl (an_ (Qe.ag Z) (an_ (Qe.sz Z) Z))))))) (an_ Z U)) (gives r1_)))
 obtain⟨x,a0,h⟩:=Qp h
 refine Qg f [.F,4,.K [0,2,4,6] [2,4,6,617]] Z (A p) ?_
 refine AK.draw2 Qe f mixed [.a .no (some ([],.agg (Qr (Qz.mk 0 e.Id ([e.Id]:L_ Int))))) true,.N,.E (.agg (Qn e)),.m (.cm (.fn) [(617,617)] [(617,617)] [] [.d,.d,.d] [(617,.var (Qx x.2))] (.I x.1) []),.m .s,.N] [0,2,4,6] [2,4,6] [2,3] [2,617] rfl rfl rfl ⟨⟨⟨U,rfl⟩,rfl⟩,⟨U,(Ur _ _ _ a0)⟩⟩ rfl (by kernel_rfl) rfl rfl rfl ?_
 refine Qg f [.O 2 (.var (Qr (Qz.mk 0 e.Id ([e.Id]:L_ Int)))),.O 617 (.var (Qx x.2)),2,.K [2,3] [2,617]] Z (a2_ Z Z) ?_
 cases h
 exact AK.done (ex_ [_,_] (an_ (an_ (ex_ _ (ex_ _ (an_ Z (an_ Z (Or.inl (an_ (Qe.ag Z) (an_ (Qe.sz Z) Z))))))) (an_ Z U)) (gives r1_)))
def Jk (c:Ql)(f:QMk)(a:Int)(b:LI_):O_ (Int×Xr):=(Gk c a b).bind λd=>bif (d.2 != 0)then some (d.2,(Xr.mk (Ql.mk ([]:(L_ Xh)) ([]:(L_ XB)) ([]:(L_ QS)) 0 0) ([]:QMk) (QS.mk (⟨#[]⟩:ByteArray) ([]:(L_ Yz)) (Qv.mk 0 0 ([]:(L_ Qv))) 0 0 ([]:(L_ Ye)) ([]:(L_ Ye)) ([]:LI_) 0 (0,0,0)) ([]:LI_)))else (idx c.Tasks a).bind λe=>some (0,(Xr.mk c f e d.1))
def Tv (i l b e):CT 206 [.agg (Qa i),.sl 1 (l.map Qm),.I b,.sl 1 (e.map Qb)] [] (Jk i l b e) (λr=>(.tup [.agg (QF r.2),.I r.1])) no_:=by
 refine W 32 func206 rfl λC j r h=>?_
 obtain⟨p,q,h⟩:=Qp h
 refine Qg j [9,.A (Qa i),2,.o (.C3 (.tup [.sl 1 (p.1.map Qb),.I p.2])),14] Z (a2_ Z (Pn _ _ _ _ q)) ?_
 rcases Xn h with⟨f,h⟩|⟨f,h⟩
 ·refine Qg j [.T,2,.v .no [some 7,some 3,some 14,none,none,some 1,none,some 2,none,none,some 3,none,none,some 4,some 4,some 1,none,none,none,none,some 1] (.agg (QF (Xr.mk (Ql.mk ([]:(L_ Xh)) ([]:(L_ XB)) ([]:(L_ QS)) 0 0) ([]:QMk) (QS.mk (⟨#[]⟩:ByteArray) ([]:(L_ Yz)) (Qv.mk 0 0 ([]:(L_ Qv))) 0 0 ([]:(L_ Ye)) ([]:(L_ Ye)) ([]:LI_) 0 (0,0,0)) ([]:LI_)))),2,.O 8 (.var (QF (Xr.mk (Ql.mk ([]:(L_ Xh)) ([]:(L_ XB)) ([]:(L_ QS)) 0 0) ([]:QMk) (QS.mk (⟨#[]⟩:ByteArray) ([]:(L_ Yz)) (Qv.mk 0 0 ([]:(L_ Qv))) 0 0 ([]:(L_ Ye)) ([]:(L_ Ye)) ([]:LI_) 0 (0,0,0)) ([]:LI_)))),5,.K [8,9] [8]] Z (a3_ f Z Z) ?_
  cases h
  exact AK.done (ex_ [_,_] (an_ (an_ (ex_ _ (ex_ _ (an_ Z (an_ Z (Or.inl (an_ (Qe.ag Z) (an_ (Qe.sz Z) Z))))))) (an_ Z U)) (gives U)))
 obtain⟨g,k,h⟩:=Qp h
 refine Qg j [.F,3,.K [1,2,4,8,9,10] [4,8]] Z (A f) ?_
 refine AK.draw2 Qe j mixed [.E (.agg (Qa i)),.N,.N,.N,.N,.B (.row (Qi g)),.E (.agg (Qi g)),.N,.E (.agg (QF (Xr.mk i l g p.1))),.m .s,.m .s] [] [] [8,9] [8] rfl rfl rfl ⟨⟨⟨⟨U,rfl⟩,(Xd k)⟩,rfl⟩,rfl⟩ rfl (by kernel_rfl) rfl rfl rfl ?_
 refine Qg j [.O 8 (.var (QF (Xr.mk i l g p.1))),2,.K [8,9] [8]] Z (A Z) ?_
 cases h
 exact AK.done (ex_ [_,_] (an_ (an_ (ex_ _ (ex_ _ (an_ Z (an_ Z (Or.inl (an_ (Qe.ag Z) (an_ (Qe.sz Z) Z))))))) (an_ Z U)) (gives U)))
def XY (b:Xr):O_ Int:=(IV b.task.Guard b.env).bind λa=>bif (a.2 != 0)then some a.2 else bif (a.1==0)then some 9 else some 0
def Hk (f):CT 207 [.agg (QF f)] [] (XY f) V.I no_:=
 W 21 func207 Z λC e r h=>B h λi g h=>K e [10,.A (Qy f.task.Guard),2,.o (.C2 (.tup [.I i.1,.I i.2])),16] Z Z (VX _ _ _ g)<|I h (λa h=>J e [.T,9] Z a<|E h Z U) λa h=>J e [.F,7] Z a<|I h (λb h=>J e [.T,8] Z b<|E h Z U) λb h=>J e [.F,9] Z b<|E h Z U
def Em (a:QLL):O_ QLL:=some a
def QcJ (b:Int)(a:Int)(c:LI_):O_ ((Int×LI_)⊕LI_):=bif (a<b)then (chk (c.length+([a]:L_ Int).length<=4294967296)).bind λ_=>some (.inl ((Qq (a+1)),(c++([a]:L_ Int))))else some (.inr c)
def QcK (a:LI_):O_ QLL:=some ([a]:QLL)
def QcL (b:Int)(a:Int)(c:QLL):O_ ((Int×QLL)⊕QLL):=bif (a<b)then (chk (c.length+([([a]:L_ Int)]:QLL).length<=4294967296)).bind λ_=>some (.inl ((Qq (a+1)),(c++([([a]:L_ Int)]:QLL))))else some (.inr c)
def QcM (a:QLL):O_ QLL:=Em a
def IH (a:Int)(b:LI_):O_ ((Int×LI_)⊕LI_):=some (.inl ((Qq (a+1)),b))
def QcN (c:Int)(h:Int)(a:Int)(b:LI_):O_ ((Int×LI_)⊕LI_):=bif (a<c)then (chk (0<=a)).bind λ_=>bif ((DC .i64 (Gx .i64 h a) 1)==1)then (chk (b.length+([a]:L_ Int).length<=4294967296)).bind λ_=>IH a (b++([a]:L_ Int))else IH a b else some (.inr b)
def QcO (a:QLL)(h:Int)(b:LI_):O_ ((Int×QLL)⊕QLL):=(chk (a.length+([b]:QLL).length<=4294967296)).bind λ_=>some (.inl ((Qq (h+1)),(a++([b]:QLL))))
def QcP (a:Int)(h:Int)(b:QLL):O_ ((Int×QLL)⊕QLL):=(chk (0<=a)).bind λ_=>bif (h<(Qjd .i64 1 a))then (QQ (λst=>QcN a h st.1 st.2) (0,([]:L_ Int))).bind (λq=>QcO b h q)else some (.inr b)
def QbI (a:QLL):O_ QLL:=Em a
def KW (b:Int)(a:Int):O_ QLL:=
 bif ((a<0)||((16<a)||((b==3)&&(4<a))))then
 some ([]:QLL)
 else
 bif (b==1)then
 (QQ (λst=>QcJ a st.1 st.2) (0,([]:L_ Int))).bind (λq=>QcK q)
 else
 bif (b==2)then
 (QQ (λst=>QcL a st.1 st.2) (0,([]:QLL))).bind (λq=>QcM q)
 else
 bif (b==3)then
 (QQ (λst=>QcP a st.1 st.2) (1,([]:QLL))).bind (λq=>QbI q)
 else
 Em ([]:QLL)
def II (d a):CT 227 [.I d,.I a] [] (KW d a) (λr=>(.own 600 r.length)) (λr=>[(600,.arr 1 (r.map QU))]):=
 W 79 func227 Z λC c r h=>H c [7] Z<|Y ⟨[(0,.I d),(1,.I a),(25,.b ((a<0)||((16<a)||((d==3)&&(4<a)))))],[]⟩ (H c [4] Z<|bO_ (decide (a<0)) (λf=>G c [.S 14 (.b true),12,.S 25 (.b ((a<0)||((16<a)||((d==3)&&(4<a)))))] Z ⟨(tc_ f),(cb_ (Gc f Z))⟩<|M Z) λf=>L c [.S 14 (.b false),4] Z f<|bO_ (decide (16<a)) (λi=>G c [.S 18 (.b true),8,.S 25 (.b ((a<0)||((16<a)||((d==3)&&(4<a)))))] Z ⟨(tc_ i),(cb_ (JM f (Gc i Z)))⟩<|M Z) λi=>L c [.S 18 (.b false),3] Z i<|bO_ (d==3) (λj=>G c [.S 21 (.b true),5,.S 25 (.b ((a<0)||((16<a)||((d==3)&&(4<a)))))] Z ⟨(tc_ j),(cb_ (JM f (JM i (Jv j Z))))⟩<|M Z) λj=>G c [.S 21 (.b false),5,.S 25 (.b ((a<0)||((16<a)||((d==3)&&(4<a)))))] Z ⟨(tc_ j),(cb_ (JM f (JM i (WC j Z))))⟩<|M Z)<|H c [1] Z<|I h (λP h=>g3_ c [.T,7,.adopt 4 600 1,.O 600 (.arr 1 (([]:QLL).map QU)),.S 4 (.own 600 ([]:QLL).length)] Z P Z Z<|E h Z r1_) λP h=>J c [.F,7] Z P<|mE_ (λk:QLL=>⟨[(5,.own 604 k.length)],[(604,.arr 1 (k.map QU))]⟩) (λk=>Em k=some r) (H c [12] Z<|I h (λl h=>g3_ c [.T,13,.adopt 6 33 1,.O 33 (.arr 1 (([]:L_ Int).map Qb)),.S 6 (.own 33 ([]:L_ Int).length)] Z l Z (congrArg (λn=>V.own 33 n) (by simp))<|lp_ h (λst=>⟨[(6,.own 33 st.2.length),(29,.I a),(30,.I st.1)],[(33,.arr 1 (st.2.map Qb))]⟩) (λq=>(.exit 1,⟨[(6,.own 33 q.length)],[(33,.arr 1 (q.map Qb))]⟩)) Z (λ⟨a0,a2⟩ o h=>H c [6] Z<|I h (λm h=>X h λa3 h=>g3_ c [.T,13,.v (.bd []) [] (.sl 1 (([a0]:L_ Int).map Qb)),.app ((a2++([a0]:L_ Int)).map Qb) (a2++([a0]:L_ Int)).length,8] Z m Z ⟨Qd,Bd a3 Qd,JS,Gi Qd⟩<|rN_ h Z) λm h=>J c [.F,2] Z m<|rX_ h Z) λa1 h=>g3_ c [5,.frz 33 (a1.map Qb) [6,38] [],1,.O 39 (.arr 1 (([a1]:QLL).map QU)),.S 39 (.own 39 ([a1]:QLL).length),6,.K [4] [39],.ren 39 600] Z (a2_ (Wr Qd) (Wr Qd)) Z Z<|E h Z r1_) λl h=>J c [.F,6] Z l<|I h (λp h=>g3_ c [.T,7,.adopt 5 46 1,.O 46 (.arr 1 (([]:QLL).map QU)),.S 5 (.own 46 ([]:QLL).length)] Z p Z (congrArg (λn=>V.own 46 n) (by simp))<|lp_ h (λst=>⟨[(5,.own 46 st.2.length),(42,.I a),(43,.I st.1)],[(46,.arr 1 (st.2.map QU))]⟩) (λq=>(.exit 3,⟨[(5,.own 46 q.length)],[(46,.arr 1 (q.map QU))]⟩)) Z (λ⟨z,a4⟩ o h=>H c [6] Z<|I h (λs h=>X h λa5 h=>g4_ c [.T,13,.v (.bd []) [] (.sl 1 (([z]:L_ Int).map Qb)),.v (.bd []) [] (.sl 1 (([([z]:L_ Int)]:QLL).map QU)),.app ((a4++([([z]:L_ Int)]:QLL)).map QU) (a4++([([z]:L_ Int)]:QLL)).length,8] Z s Z Z ⟨Qd,Bd a5 Qd,JS,Gi Qd⟩<|rN_ h Z) λs h=>J c [.F,2] Z s<|rX_ h Z) λb1 h=>H c [2,.ren 46 604] Z<|me_ h Z) λp h=>J c [.F,6] Z p<|I h (λt h=>g3_ c [.T,6,.adopt 5 74 1,.O 74 (.arr 1 (([]:QLL).map QU)),.S 5 (.own 74 ([]:QLL).length)] Z t Z (congrArg (λn=>V.own 74 n) (by simp))<|lp_ h (λst=>⟨[(1,.I a),(5,.own 74 st.2.length),(9,.I st.1)],[(74,.arr 1 (st.2.map QU))]⟩) (λq=>(.exit 5,⟨[(5,.own 74 q.length)],[(74,.arr 1 (q.map QU))]⟩)) Z (λ⟨set_33,e⟩ o h=>X h λa6 h=>J c [5,.o (.any (.I (Qjd .i64 1 a)) none),3] Z (λσ N h2 _=>Qf.shl Z Z (QI c.n Z) (N _ _ Z) (N _ _ Z) (XC a6))<|I h (λu h=>g3_ c [.T,17,.adopt 10 69 1,.O 69 (.arr 1 (([]:L_ Int).map Qb)),.S 10 (.own 69 ([]:L_ Int).length)] Z u Z (congrArg (λn=>V.own 69 n) (by simp))<|lp_ h (λst=>⟨[(1,.I a),(5,.own 74 e.length),(9,.I set_33),(10,.own 69 st.2.length),(60,.I a),(61,.I st.1)],[(69,.arr 1 (st.2.map Qb)),(74,.arr 1 (e.map QU))]⟩) (λq=>(.exit 7,⟨[(1,.I a),(5,.own 74 e.length),(9,.I set_33),(10,.own 69 q.length)],[(69,.arr 1 (q.map Qb)),(74,.arr 1 (e.map QU))]⟩)) Z (λ⟨g,a7⟩ o h=>H c [6] Z<|I h (λw h=>J c [.T,2] Z w<|mE_ (λx:LI_=>⟨[(1,.I a),(5,.own 74 e.length),(9,.I set_33),(10,.own 69 x.length),(60,.I a),(61,.I g)],[(69,.arr 1 (x.map Qb)),(74,.arr 1 (e.map QU))]⟩) (λx=>IH g x=some o) (X h λa8 h=>K c [11,.o (.any (.I (Gx .i64 set_33 g)) none),.o (.any (.I (DC .i64 (Gx .i64 set_33 g) 1)) none),3] Z (λσ N h2 _=>Qf.shr Z Z (QI c.n Z) (N _ _ Z) (N _ _ Z) (XC a8)) (λσ N h2 _=>Qf.andB Z Z (QI c.n Z) (N _ _ Z) (N _ _ Z))<|I h (λy h=>X h λa9 h=>g3_ c [.T,3,.v (.bd []) [] (.sl 1 (([g]:L_ Int).map Qb)),.app ((a7++([g]:L_ Int)).map Qb) (a7++([g]:L_ Int)).length,3] Z y Z ⟨Qd,Bd a9 Qd,JS,Gi Qd⟩<|me_ h Z) λy h=>J c [.F,2] Z y<|me_ h Z) λx h=>H c [4] Z<|rN_ h Z) λw h=>J c [.F,2] Z w<|rX_ h Z) λD h=>X h λb0 h=>g3_ c [5,.frz 69 (D.map Qb) [10,75] [],.v (.bd []) [] (.sl 1 (([D]:QLL).map QU)),.app ((e++([D]:QLL)).map QU) (e++([D]:QLL)).length,9] Z (a2_ (Wr Qd) (Wr Qd)) Z ⟨Qd,Bd b0 Qd,JS,Gi Qd⟩<|rN_ h Z) λu h=>J c [.F,2] Z u<|rX_ h Z) λb2 h=>H c [2,.ren 74 604] Z<|me_ h Z) λt h=>g3_ c [.F,2,.adopt 5 604 1,.O 604 (.arr 1 (([]:QLL).map QU)),.S 5 (.own 604 ([]:QLL).length)] Z t Z (congrArg (λn=>V.own 604 n) (by simp))<|me_ h Z) λk h=>H c [7,.K [4] [604],.ren 604 600] Z<|E h Z r1_
def Kq (c:LI_)(d:LI_)(a:Int):O_ (Int⊕(Unit⊕Unit)):=bif (a<(c.length:Int))then (idx c a).bind λe=>(idx d a).bind λb=>bif (e != b)then some (.inr (.inl ()))else some (.inl (Qq (a+1)))else some (.inr (.inr ()))
def Re : O_ Bool:=some false
def Rf : O_ Bool:=some true
def Jo (a:LI_)(b:LI_):O_ Bool:=bif ((a.length:Int) != (b.length:Int))then some false else (QQ (λst=>Kq a b st) 0).bind (Sum.elim (λq=>Re) (λq=>Rf))
def Rg (g j):CT 282 [.sl 1 (g.map Qb),.sl 1 (j.map Qb)] [] (Jo g j) V.b no_:=
 W 26 func282 Z λC c r h=>K c [9,.o (.ln g.length),1,.o (.ln j.length),3] Z Qd Qd<|I h (λe h=>J c [.T,7] Z e<|E h Z U) λe h=>K c [.F,6,.o (.ln g.length),4] Z e Qd<|lq_ h (λst=>⟨[(0,.sl 1 (g.map Qb)),(1,.sl 1 (j.map Qb)),(12,.I (g.length:Int)),(13,.I st)],[]⟩) (λq=>(.ret,⟨[(4,.b false)],[]⟩)) (λq=>(.exit 0,⟨[],[]⟩)) Z (λp o h=>H c [6] Z<|I h (λf h=>B h λm k h=>B h λl i h=>G c [.T,11] Z (A f) <| 
  dr_ c [.N,.N,.B (.row (Qb m)),.N,.N,.N,.B (.row (Qb l)),.N,.N] [] [] [0,1,12,13,24] [] Z Z (a2_ (Xd k) (Xd i)) Z <|
  H c [1] Z<|I h (λd h=>J c [.T,8] Z d<|rR_ h Z) λd h=>J c [.F,7] Z d<|rN_ h Z) λf h=>J c [.F,2] Z f<|rX_ h Z) (λ_ h=>H c [2] Z<|E h Z U) (λ_ h=>H c [8] Z<|E h Z U)
def Fy (a:LI_)(b:LI_):O_ Bool:=(Jo a b).bind λc=>some c
def QbJ (f a):CT 281 [.sl 1 (f.map Qb),.L 617] [(617,.var (QU a))] (Fy f a) V.b (λ_=>[(617,.var (QU a))]):=
 W 7 func281 Z λC g r h=>B h λi e h=>J g [9,.o (.C2 (.b i)),4] Z (Rg _ _ _ e)<|E h Z r1_
def YK (c:QLL)(d:LI_)(a:Int):O_ (Int⊕(Int⊕Unit)):=bif (a<(c.length:Int))then (idx c a).bind λe=>(Fy e d).bind λb=>bif b then some (.inr (.inl a))else some (.inl (Qq (a+1)))else some (.inr (.inr ()))
def NF (a:Int):O_ Int:=some a
def NG : O_ Int:=some (-1)
def WA (a:QLL)(b:LI_):O_ Int:=(QQ (λst=>YK a b st) 0).bind (Sum.elim (λq=>NF q) (λq=>NG))
def NH (g e):CT 295 [.sl 1 (g.map QU),.clo (.func 281) [] [.L 617]] [(617,.var (QU e))] (WA g e) V.I (λ_=>[(617,.var (QU e))]):=
 W 19 func295 Z λC c r h=>J c [9,.o (.ln g.length),4] Z Qd<|lq_ h (λst=>⟨[(0,.sl 1 (g.map QU)),(1,.clo (.func 281) [] [.L 617]),(7,.I (g.length:Int)),(8,.I st)],[(617,.var (QU e))]⟩) (λq=>(.ret,⟨[(4,.I q)],[(617,.var (QU e))]⟩)) (λq=>(.exit 0,⟨[],[(617,.var (QU e))]⟩)) Z (λm o h=>H c [6] Z<|I h (λf h=>B h λl j h=>B h λk i h=>g3_ c [.T,15,.o (.row (QU l)),1,.cm (.clo) [(617,617)] [(617,617)] [] [.d,.d] [(617,.var (QU e))] (.b k),2] Z f (Xd j) (QbJ _ _ _ i)<|I h (λa h=>J c [.T,9] Z a<|rR_ h Z) λa h=>J c [.F,7] Z a<|rN_ h Z) λf h=>J c [.F,2] Z f<|rX_ h Z) (λp h=>H c [2] Z<|E h Z r1_) (λ_ h=>H c [8] Z<|E h Z r1_)
def KB (a:QLL)(b:LI_):O_ Bool:=(WA a b).bind λc=>some (decide (0<=c))
def LR (e a):CT 280 [.sl 1 (e.map QU),.clo (.func 281) [] [.L 617]] [(617,.var (QU a))] (KB e a) V.b (λ_=>[(617,.var (QU a))]):=
 W 9 func280 Z λC f r h=>B h λg c h=>J f [9,.cm (.fn) [(617,617)] [(617,617)] [] [.d,.d] [(617,.var (QU a))] (.I g),5] Z (NH _ _ _ c)<|E h Z r1_
def DB (a:Int)(b:Int)(c:LI_):O_ Bool:=(KW a b).bind λd=>(KB d c).bind λe=>some e
def RY (a c e):CT 208 [.I a,.I c,.sl 1 (e.map Qb)] [] (DB a c e) V.b no_:=
 W 12 func208 Z λC j r h=>B h λf g h=>B h λk i h=>g3_ j [10,.o (.co false [.d,.d] 1 (f.map QU) f.length),1,.frz 9 (f.map QU) [9] [],.cm (.fn) [(617,5)] [(5,617)] [] [.d,.d] [(617,.var (QU e))] (.b k),4] Z ⟨(II _ _ _ g),Qd,.inl Z⟩ (A (Wr Qd)) (LR _ _ _ i)<|E h Z U
def Wu (a:QBg)(b:Int)(c:Int):O_ (Unit⊕Unit):=bif (((Xb a b).getD 0)<c)then some (.inr ())else some (.inl ())
def AH : O_ Bool:=some true
def AI : O_ Bool:=some false
def DP (a:QBg)(b:QBg):O_ Bool:=(Cw (λst p=>Wu b p.1 p.2) () a).bind (Sum.elim (λq=>AH) (λq=>AI))
def IX (s g):CT 284 [.map 617,.map 618] [(617,.map (QG V.I V.I s)),(618,.map (QG V.I V.I g))] (DP s g) V.b (λ_=>[(617,.map (QG V.I V.I s)),(618,.map (QG V.I V.I g))]):=by
 refine W 19 func284 rfl λC a r h=>?_
 refine tg_ a [9] ?_
 refine AK.openMap (b:=617) Ey rfl λc d L5 t u=>?_
 refine Qg a [.x (λσ=>(σ.set 8 (.itr c d #[] none)).put 8 (.L 8)),3,.K [1,8] [8,617,618]] Z (A (Qf.range (b:=617) Z Z (QI a.n Z) Z Z Gy Z)) ?_
 obtain⟨y,v,h⟩:=Qp h
 refine AK.range (body:=(λst p=>Wu g p.1 p.2)) (λst seen σ=>∃cur:O_ Nat,σ=⟨[(1,.map 618),lk_ 8],[(8,.itr c d seen cur),(617,.mapX c d (CZ V.I V.I L5) (QG V.I V.I s)),(618,.map (QG V.I V.I g))]⟩) (λq e σ=>e=.ret/\σ=⟨[(4,.b false)],[(617,.mapX c d (CZ V.I V.I L5) (QG V.I V.I s)),(618,.map (QG V.I V.I g))]⟩) (λst e σ=>e=.exit 0/\σ=⟨[],[(617,.mapX c d (CZ V.I V.I L5) (QG V.I V.I s)),(618,.map (QG V.I V.I g))]⟩) t u v (ex_ _ rfl) ?_ ?_
 ·rintro _ seen σ ⟨cur,rfl⟩ hex
  refine tg_ a [2] ?_
  refine AK.nextT (b:=8) (m:=617) rfl rfl rfl (QI a.n rfl) rfl rfl rfl rfl ?_ ?_
  ·intro hleft
   refine tg_ a [7,.K [] [617,618]] ?_
   exact AK.done (Or.inl (an_ hleft (an_ (λh=>(by cases h)) (an_ Z Z))))
  intro O w D i
  obtain⟨o,h⟩:=hex _ i
  have ho:=h
  replace h:Wu g w D=some o:=h
  refine Qg a [10,.x (λσ=>σ.put 11 (.tup [.I w,.I D])),11,.o (.any (.I ((Xb g w).getD 0)) none),3] Z (a2_ (Qf.entryT (b:=8) (m:=617) (e:=V.I) (f:=V.I) Z Z (QI a.n Z) Z i Z Z) (λσ N P _=>Qf.lookup (e:=V.I) (f:=V.I) (l:=g) (k:=w) (z:=0) Z Z (QI a.n Z) (N _ _ Z) (P _ _ Z) (N _ _ Z) Gy Ey Qac Z)) ?_
  refine bq_ a h [.T,7,.K [4] [617,618]] rfl (λj h=>?_) [.F,2,.K [1,8] [8,617,618]] rfl λj h=>?_
  ·cases h
   exact AK.done (Or.inr (ex_ _ (an_ i (Or.inr (ex_ _ (an_ ho (an_ (λh=>(by cases h)) (an_ Z Z))))))))
  cases h
  exact AK.done (Or.inr (ex_ _ (an_ i (Or.inl (ex_ _ (an_ ho (an_ Z (ex_ _ Z))))))))
 rcases y with(_ | _)
 ·replace h:AH=some r:=h
  unfold AH at h
  rintro e σ ⟨rfl,rfl⟩
  exact H a [8] Z<|AK.closeMap (b:=617) Z<|E h Z r2_
 replace h:AI=some r:=h
 unfold AI at h
 rintro e σ ⟨rfl,rfl⟩
 exact H a [2] Z<|AK.closeMap (b:=617) Z<|E h Z r2_
def Tw (a:Unit):O_ Bool:=some false
def Tz (a:QBg):O_ Bool:=some false
def TA (a:QBg):O_ Bool:=some false
def MU (b:(QBg×QBg)):O_ Bool:=(DP b.1 b.2).bind λa=>some a
def MV (a:QBg)(b:QBg):O_ Bool:=(HQ a b).bind (Sum.elim (λq=>Tw q) (Sum.elim (λq=>Tz q) (Sum.elim (λq=>TA q) (λq=>MU q))))
def QeO (i j):CT 320 [.sl 2 (i.map QW),.sl 2 (j.map QW)] [] (MV i j) V.b no_:=by
 refine W 21 func320 rfl λC c r h=>?_
 obtain⟨m,a,h⟩:=Qp h
 refine tg_ c [9] ?_
 rcases m with(o | (k | (l | e)))
 ·exact have h:Tw o=some r:=h;J c [.cm (.fn) [] [] [] [.d,.d] [] (.tup [.lit (.map none),.lit (.map none),.b false]),21] Z (JF _ _ a)<|E h Z U
 ·exact have h:Tz k=some r:=h;J c [.cm (.fn) [] [(11,603)] [] [.d,.d] [(603,.map (QG V.I V.I k))] (.tup [.lit (.map none),.map 603,.b false]),21] Z (JF _ _ a)<|E h Z U
 ·exact have h:TA l=some r:=h;J c [.cm (.fn) [] [(11,602)] [] [.d,.d] [(602,.map (QG V.I V.I l))] (.tup [.map 602,.lit (.map none),.b false]),21] Z (JF _ _ a)<|E h Z U
 exact have h:MU e=some r:=h;B h λg f h=>K c [.cm (.fn) [] [(11,602),(609,603)] [] [.d,.d] [(602,.map (QG V.I V.I e.1)),(603,.map (QG V.I V.I e.2))] (.tup [.map 602,.map 603,.b true]),15,.cm (.fn) [(617,11),(618,609)] [(11,617),(609,618)] [] [.d,.d] [(617,.map (QG V.I V.I e.1)),(618,.map (QG V.I V.I e.2))] (.b g),5] Z (JF _ _ a) (IX _ _ _ f)<|E h Z U
def Xi (d:QMk)(e:QMk)(a:Int):O_ (Int⊕(Unit⊕Unit)):=bif (a<(d.length:Int))then (idx d a).bind λf=>(idx e a).bind λb=>(MV f b).bind λc=>bif (!c)then some (.inr (.inl ()))else some (.inl (Qq (a+1)))else some (.inr (.inr ()))
def WY : O_ Bool:=some false
def WZ : O_ Bool:=some true
def XT (a:QMk)(b:QMk):O_ Bool:=bif ((a.length:Int) != (b.length:Int))then some false else (QQ (λst=>Xi a b st) 0).bind (Sum.elim (λq=>WY) (λq=>WZ))
def Da (i l):CT 45 [.sl 1 (i.map Qm),.sl 1 (l.map Qm),.clo (.func 320) [] []] [] (XT i l) V.b no_:=
 W 32 func45 Z λC e r h=>K e [9,.o (.ln i.length),1,.o (.ln l.length),3] Z Qd Qd<|I h (λf h=>J e [.T,7] Z f<|E h Z U) λf h=>K e [.F,6,.o (.ln i.length),4] Z f Qd<|lq_ h (λst=>⟨[(1,.sl 1 (l.map Qm)),(2,.clo (.func 320) [] []),(15,.sl 1 (i.map Qm)),(16,.I (i.length:Int)),(17,.I st)],[]⟩) (λq=>(.ret,⟨[(6,.b false)],[]⟩)) (λq=>(.exit 0,⟨[],[]⟩)) Z (λu o h=>H e [6] Z<|I h (λg h=>B h λt m h=>B h λp j h=>B h λs k h=>g4_ e [.T,7,.o (.row (Qm t)),9,.o (.row (Qm p)),9,.o (.C2 (.b s)),3] Z g (Xd m) (Xd j) (QeO _ _ _ k)<|I h (λa h=>J e [.T,8] Z a<|rR_ h Z) λa h=>J e [.F,7] Z a<|rN_ h Z) λg h=>J e [.F,2] Z g<|rX_ h Z) (λ_ h=>H e [2] Z<|E h Z U) (λ_ h=>H e [8] Z<|E h Z U)
def Ee (a:QMk)(b:QMk):O_ Bool:=(XT a b).bind λc=>some c
def RZ (a e):CT 283 [.sl 1 (a.map Qm),.sl 1 (e.map Qm)] [] (Ee a e) V.b no_:=
 W 8 func283 Z λC f r h=>B h λg c h=>J f [9,.cm (.fn) [] [] [] [.d,.d,.d] [] (.b g),4] Z (Da _ _ _ c)<|E h Z U
def EA (b:LI_)(c:Int)(a:Int):O_ (Int⊕(Int⊕Unit)):=bif (a<(b.length:Int))then (idx b a).bind λd=>bif (c==d)then some (.inr (.inl a))else some (.inl (Qq (a+1)))else some (.inr (.inr ()))
def EB (a:Int):O_ Int:=some a
def EC : O_ Int:=some (-1)
def Gm (a:LI_)(b:Int):O_ Int:=(QQ (λst=>EA a b st) 0).bind (Sum.elim (λq=>EB q) (λq=>EC))
def Rh (d e):CT 311 [.sl 1 (d.map Qb),.I e] [] (Gm d e) V.I no_:=
 W 19 func311 Z λC b r h=>J b [9,.o (.ln d.length),4] Z Qd<|lq_ h (λst=>⟨[(0,.sl 1 (d.map Qb)),(1,.I e),(7,.I (d.length:Int)),(8,.I st)],[]⟩) (λq=>(.ret,⟨[(4,.I q)],[]⟩)) (λq=>(.exit 0,⟨[],[]⟩)) Z (λi o h=>H b [6] Z<|I h (λc h=>B h λg f h=>K b [.T,15,.o (.row (Qb g)),4] Z c (Xd f)<|I h (λa h=>J b [.T,9] Z a<|rR_ h Z) λa h=>J b [.F,7] Z a<|rN_ h Z) λc h=>J b [.F,2] Z c<|rX_ h Z) (λj h=>H b [2] Z<|E h Z U) (λ_ h=>H b [8] Z<|E h Z U)
def Js (a:LI_)(b:Int):O_ Bool:=(Gm a b).bind λc=>some (decide (0<=c))
def BC (e f):CT 265 [.sl 1 (e.map Qb),.I f] [] (Js e f) V.b no_:=
 W 9 func265 Z λC g r h=>B h λi a h=>J g [9,.o (.C2 (.I i)),5] Z (Rh _ _ _ a)<|E h Z U
def Gn (a:Int):O_ (Int⊕(Unit⊕Unit)):=some (.inl (Qq (a+1)))
def IY (a:(QMk×Int))(c:Xr):O_ Bool:=bif (a.2==0)then (Ee a.1 c.m).bind λb=>some b else some false
def IZ (a:Int)(b:Bool):O_ (Int⊕(Unit⊕Unit)):=bif b then some (.inr (.inl ()))else Gn a
def AJ (d:Xr)(b:LI_)(a:Int):O_ (Int⊕(Unit⊕Unit)):=bif (a<(d.task.Ins.length:Int))then (Js b a).bind λf=>bif f then Gn a else (Xs b).bind λc=>(chk (c.length+([a]:L_ Int).length<=4294967296)).bind λ_=>(Kx (c++([a]:L_ Int))).bind λe=>(chk (e.length=(c++([a]:L_ Int)).length)).bind λ_=>(DA d.net d.task.Ins e d.env).bind λg=>(IY g d).bind (λh=>IZ a h)else some (.inr (.inr ()))
def Vs : O_ Int:=some 11
def Vt : O_ Int:=some 0
def XM (b:Xr)(a:LI_):O_ Int:=(DA b.net b.task.Ins a b.env).bind λc=>bif (c.2 != 0)then some c.2 else (Ee c.1 b.m).bind λd=>bif (!d)then some 10 else bif (b.task.Join != 3)then some 0 else (QQ (λst=>AJ b a st) 0).bind (Sum.elim (λq=>Vs) (λq=>Vt))
def La (g e):CT 209 [.agg (QF g),.sl 1 (e.map Qb)] [] (XM g e) V.I no_:=
 W 76 func209 Z λC a r h=>B h λx5 a1 h=>K a [9,.A (Qa g.net),6,.o (.C4 (.tup [.sl 1 (x5.1.map Qm),.I x5.2])),16] Z Z (Un _ _ _ _ _ a1)<|I h (λt h=>J a [.T,9] Z t<|E h Z U) λt h=>B h λx7 a2 h=>K a [.F,5,.o (.C2 (.b x7)),4] Z t (RZ _ _ _ a2)<|I h (λu h=>J a [.T,8] Z u<|E h Z U) λu h=>J a [.F,9] Z u<|I h (λw h=>J a [.T,8] Z w<|E h Z U) λw h=>K a [.F,9,.o (.ln g.task.Ins.length),4] Z w Qd<|lq_ h (λst=>⟨[(1,.sl 1 (e.map Qb)),lk_ 2,(41,.I (g.task.Ins.length:Int)),(42,.I st)],[(2,.var (QF g))]⟩) (λq=>(.ret,⟨[(4,.I 11)],[]⟩)) (λq=>(.exit 1,⟨[],[]⟩)) Z (λf o h=>H a [6] Z<|I h (λi h=>J a [.T,2] Z i<|mU_ ⟨[(1,.sl 1 (e.map Qb)),lk_ 2,(41,.I (g.task.Ins.length:Int)),(42,.I f)],[(2,.var (QF g))]⟩ (Gn f=some o) (B h λa3 y h=>J a [12,.o (.C2 (.b a3)),2] Z (BC _ _ _ y)<|I h (λj h=>J a [.T,3] Z j<|mu_ h Z) λj h=>B h λs z h=>X h λD h=>B h λk N h=>X h λl h=>B h λO P h=>G a [.F,5,.o (.co false [.d] 1 (s.map Qb) s.length),1,.v (.bd []) [] (.sl 1 (([f]:L_ Int).map Qb)),.app ((s++([f]:L_ Int)).map Qb) (s++([f]:L_ Int)).length,6,.cm (.fn) [(617,49)] [(49,617)] [] [.d] [(617,.arr 1 (k.map Qb))] (.tup []),.S 8 (.own 49 k.length),.S 52 (.own 49 k.length),.S 53 (.own 49 k.length),5,.A (Qa g.net),6,.frz 49 (k.map Qb) [8,52,53,61] [],.o (.C4 (.tup [.sl 1 (O.1.map Qm),.I O.2])),8] Z (aB_ j ⟨(XO _ _ z),Qd,.inl Z⟩ Z ⟨Qd,Bd D Qd,JS,Gi Qd⟩ (Hd _ N) (by simp[XC l]) (by simp[XC l]) (by simp[XC l]) Z (a4_ (Wr Qd) (Wr Qd) (Wr Qd) (Wr Qd)) (Un _ _ _ _ _ P))<|mV_ h (λx=>⟨[(1,.sl 1 (e.map Qb)),lk_ 2,(41,.I (g.task.Ins.length:Int)),(42,.I f),(74,.b x)],[(2,.var (QF g))]⟩) (λx h=>H a [4] Z<|I h (λm h=>B h λa4 a0 h=>G a [.S 69 (.b true),3,.o (.C2 (.b a4)),2] Z ⟨(tc_ m),(RZ _ _ _ a0)⟩<|mq_ h Z) λm h=>L a [.S 69 (.b false),6] Z m<|mq_ h Z) λx h=>H a [1] Z<|I h (λp h=>J a [.T,8] Z p<|rR_ h Z) λp h=>J a [.F,2] Z p<|mu_ h Z) λh=>H a [4] Z<|rN_ h Z) λi h=>J a [.F,2] Z i<|rX_ h Z) (λ_ h=>H a [2] Z<|E h Z U) (λ_ h=>H a [8] Z<|E h Z U)
def Yf (b:Xr)(a:LI_):O_ Int:=(DA b.net b.task.Outs a b.env).bind λc=>some c.2
def Lb (b a):CT 210 [.agg (QF b),.sl 1 (a.map Qb)] [] (Yf b a) V.I no_:=
 W 20 func210 Z λC g r h=>B h λf e h=>K g [9,.A (Qa b.net),6,.o (.C4 (.tup [.sl 1 (f.1.map Qm),.I f.2])),14] Z Z (Un _ _ _ _ _ e)<|E h Z U
def Fz (a:(Int×Xr))(d:Qk):O_ Bool:=(DB a.2.task.Join (a.2.task.Ins.length:Int) d.Ins).bind λb=>bif (!b)then some true else (DB a.2.task.Split (a.2.task.Outs.length:Int) d.Outs).bind λc=>some (!c)
def FA (c:(Int×Xr))(d:Qk)(e:Bool):O_ Int:=bif e then some 11 else (XM c.2 d.Ins).bind λa=>bif (a != 0)then some a else (Yf c.2 d.Outs).bind λb=>some b
def Wj (b:(Int×Xr))(c:Qk)(a:Int):O_ Int:=bif (a != 0)then some a else (Fz b c).bind (λd=>FA b c d)
def YY (d:Ql)(e:QMk)(b:Qk):O_ Int:=(Jk d e b.Task b.Vars).bind λa=>bif (a.1==0)then (XY a.2).bind λc=>Wj a b c else Wj a b a.1
def MW (w m2 m):CT 123 [.agg (Qa w),.sl 1 (m2.map Qm),.agg (Qo m)] [] (YY w m2 m) V.I no_:=
 W 62 func123 Z λC a r h=>B h λf x h=>g3_ a [9,.A (Qa w),5,.o (.C4 (.tup [.agg (QF f.2),.I f.1])),5,.O 7 (.var (QF f.2)),3] Z Z (Tv _ _ _ _ _ x) Z<|mE_ (λe:Int=>⟨[lk_ 5,lk_ 7,(8,.I e)],[(5,.var (Qo m)),(7,.var (QF f.2))]⟩) (λe=>Wj f m e=some r) (H a [6] Z<|I h (λg h=>B h λy p h=>g3_ a [.T,1,.A (QF f.2),.o (.C1 (.I y)),2] Z g Z (Hk _ _ p)<|me_ h Z) λg h=>J a [.F,1] Z g<|me_ h Z) λe h=>H a [7] Z<|I h (λl h=>J a [.T,8] Z l<|E h Z U) λl h=>J a [.F,4] Z l<|mV_ h (λz=>⟨[lk_ 5,lk_ 7,(50,.b z)],[(5,.var (Qo m)),(7,.var (QF f.2))]⟩) (λz h=>B h λD q h=>K a [7,.o (.ln f.2.task.Ins.length),2,.o (.C3 (.b D)),2] Z Qd (RY _ _ _ _ q)<|I h (λi h=>L a [.S 38 (.b true),13] Z i<|mq_ h Z) λi h=>B h λN s h=>G a [.S 38 (.b false),6,.o (.ln f.2.task.Outs.length),2,.o (.C3 (.b N)),3] Z ⟨⟨(tc_ i),Qd⟩,(RY _ _ _ _ s)⟩<|mq_ h Z) λz h=>H a [1] Z<|I h (λj h=>J a [.T,7] Z j<|E h Z U) λj h=>B h λP t h=>g3_ a [.F,5,.A (QF f.2),2,.o (.C2 (.I P)),9] Z j Z (La _ _ _ t)<|I h (λk h=>J a [.T,8] Z k<|E h Z U) λk h=>B h λa0 u h=>g3_ a [.F,4,.A (QF f.2),2,.o (.C2 (.I a0)),4] Z k Z (Lb _ _ _ u)<|E h Z U
def DZ (b:Ql)(d:QMk)(c:Qk)(a:Int):O_ Int:=(YY b d c).bind λe=>bif (e != 0)then some 0 else (idx b.Tasks c.Task).bind λf=>bif (f.Join != 3)then some 1 else none
def PK (g l i a):CT 81 [.agg (Qa g),.sl 1 (l.map Qm),.agg (Qo i),.I a] [] (DZ g l i a) V.I no_:=by
 refine W 30 func81 rfl λC f r h=>?_
 obtain⟨m,j,h⟩:=Qp h
 refine Qg f [11,.A (Qa g),1,.A (Qo i),.o (.C3 (.I m)),4] Z (a3_ Z Z (MW _ _ _ _ j)) ?_
 rcases Xn h with⟨e,h⟩|⟨e,h⟩
 ·exact J f [.T,8] Z e<|E h Z U
 obtain⟨p,k,h⟩:=Qp h
 refine Qg f [.F,6,.o (.row (Qi p)),6] Z (a2_ e (Xd k)) ?_
 rcases Xn h with⟨b,h⟩|⟨b,h⟩
 ·exact J f [.T,8] Z b<|E h Z U
 refine Qg f [.F,5,.A (Qa g),4] Z (a2_ b Z) ?_
 cases h
def MX (a:(Int×Int×Int))(e:Int):O_ Bool:=bif (a.1<1)then some true else (Wz a.2.1 a.1 16).bind λb=>bif (!b)then some true else (Wz a.2.2 1 a.2.1).bind λc=>bif (!c)then some true else (Wz e a.1 a.2.1).bind λd=>some (!d)
def Au (a:(Int×Int×Int))(b:Int)(c:Bool):O_ (Int×Xp):=bif c then some (1,(Xp.mk 0 0 0 0 0))else some (0,(Xp.mk a.2.1 a.2.2 b 0 0))
def Dl (b:Int)(a:(Int×Int×Int)):O_ (Int×Xp):=(MX a b).bind (λc=>Au a b c)
def BD (a:(Int×Int×Int))(b:Int):O_ (Int×Xp):=bif ((a.1==0)&&((a.2.1==0)&&(a.2.2==0)))then Dl b (1,1,1)else Dl b a
def QeP (e m):CT 124 [.agg (Ae e),.I m] [] (BD e m) (λr=>(.tup [.agg (QD r.2),.I r.1])) no_:=by
 refine W 45 func124 rfl λC f r h=>?_
 refine tg_ f [7] ?_
 refine AK.meet (λσ=>∃a:(Int×Int×Int),σ=⟨[(1,.I m),lk_ 2,lk_ 4],[(2,.var (Ae a)),(4,.var (QD (Xp.mk 0 0 0 0 0)))]⟩/\Dl m a=some r) ?_ ?_
 ·refine Qg f [2,.A (Ae e),.A (Ae (0,0,0)),.o (.any (.b ((e.1==0)&&((e.2.1==0)&&(e.2.2==0)))) none),2] Z (a3_ Z Z (λσ z D _=>Qf.eqAgg Z Z (QI f.n Z) (z _ _ Z) (z _ _ Z) Z Z (QlF _ _ _ _ _ _))) ?_
  refine bg_ h (λg h=>Qg f [.T,1,.A (Ae (1,1,1)),1,.O 2 (.var (Ae (1,1,1))),1,.K [1,2,4] [2,4]] rfl (a3_ g rfl rfl) ?_) λg h=>Qg f [.F,1,.K [1,2,4] [2,4]] rfl (A g) ?_
  ·exact AK.met (ex_ _ (an_ Z h))
  exact AK.met (ex_ _ (an_ Z h))
 rintro σ ⟨a,rfl,h⟩
 refine tg_ f [1,.K [1,2,4] [2,4]] ?_
 refine AK.draw2 Qe f mixed [.N,.N,.N,.N,.N,.N,.N,.N,.N] [] [] [1,4,6,7,8] [4] rfl rfl rfl U rfl (by kernel_rfl) rfl rfl rfl ?_
 refine tg_ f [3] ?_
 obtain⟨t,u,h⟩:=Qp h
 replace h:Au a m t=some r:=h
 refine AK.meetX (λσ=>σ=⟨[(1,.I m),lk_ 4,(7,.I a.2.1),(8,.I a.2.2),(39,.b t)],[(4,.var (QD (Xp.mk 0 0 0 0 0)))]⟩) ?_ ?_
 ·replace h:=u
  refine tg_ f [4] ?_
  rcases Xn h with⟨i,h⟩|⟨i,h⟩
  ·refine Qg f [.S 21 (.b true),19,.K [1,4,7,8,39] [4]] Z (tc_ i) ?_
   cases h
   exact mt_
  obtain⟨w,p,h⟩:=Qp h
  refine Qg f [.S 21 (.b false),2,.o (.C3 (.b w)),3] Z ⟨(tc_ i),(WF _ _ _ _ p)⟩ ?_
  rcases Xn h with⟨j,h⟩|⟨j,h⟩
  ·refine Qg f [.S 27 (.b true),13,.K [1,4,7,8,39] [4]] Z (tc_ j) ?_
   cases h
   exact mt_
  obtain⟨x,q,h⟩:=Qp h
  refine Qg f [.S 27 (.b false),2,.o (.C3 (.b x)),3] Z ⟨(tc_ j),(WF _ _ _ _ q)⟩ ?_
  rcases Xn h with⟨k,h⟩|⟨k,h⟩
  ·refine Qg f [.S 33 (.b true),7,.K [1,4,7,8,39] [4]] Z (tc_ k) ?_
   cases h
   exact mt_
  obtain⟨y,s,h⟩:=Qp h
  refine Qg f [.S 33 (.b false),3,.o (.C3 (.b y)),3,.K [1,4,7,8,39] [4]] Z ⟨(tc_ k),(WF _ _ _ _ s)⟩ ?_
  cases h
  exact mt_
 rintro σ rfl
 replace h:Au a m t=some r:=h
 refine tg_ f [1] ?_
 refine bg_ h (λl h=>Qg f [.T,2,.A (QD (Xp.mk 0 0 0 0 0)),1,.O 4 (.var (QD (Xp.mk 0 0 0 0 0))),5,.K [4,5] [4]] rfl (a3_ l rfl rfl) ?_) λl h=>Qg f [.F,7,.A (QD (Xp.mk a.2.1 a.2.2 m 0 0)),1,.O 4 (.var (QD (Xp.mk a.2.1 a.2.2 m 0 0))),4,.K [4,5] [4]] rfl (a3_ l rfl rfl) ?_
 ·cases h
  exact AK.done (ex_ [_,_] (an_ (an_ (ex_ _ (ex_ _ (an_ Z (an_ Z (Or.inl (an_ (Qe.ag Z) (an_ (Qe.sz Z) Z))))))) (an_ Z U)) (gives U)))
 cases h
 exact AK.done (ex_ [_,_] (an_ (an_ (ex_ _ (ex_ _ (an_ Z (an_ Z (Or.inl (an_ (Qe.ag Z) (an_ (Qe.sz Z) Z))))))) (an_ Z U)) (gives U)))
def QaI (a:Unit):O_ (QBg×Int):=some (([]:QBg),1)
def QaJ (a:QBg):O_ (QBg×Int):=some (([]:QBg),1)
def QaK (a:QBg):O_ (QBg×Int):=some (([]:QBg),1)
noncomputable def Ag (y:QBg)(h:Int)(D:Int):O_ (QBg⊕Empty):=some (.inl (Jd Ge y h (Qq (((Xb y h).getD 0)-D))))
def Lu (a:QBg):O_ (QBg×Int):=(DT a).bind λb=>some (b,0)
noncomputable def Pq (h:(QBg×QBg)):O_ (QBg×Int):=(DP h.2 h.1).bind λy=>bif (!y)then some (([]:QBg),10)else (Cw (λst p=>Ag st p.1 p.2) h.1 h.2).bind (Sum.elim (λq=>Lu q) (λq=>Empty.elim q))
def JD (a:QBg)(b:QBg):O_ (QBg×Int):=(HQ a b).bind (Sum.elim (λq=>QaI q) (Sum.elim (λq=>QaJ q) (Sum.elim (λq=>QaK q) (λq=>Pq q))))
def QgU (a1 b2):CT 212 [.sl 2 (a1.map QW),.sl 2 (b2.map QW)] [] (JD a1 b2) (λr=>(.tup [.sl 2 (r.1.map QW),.I r.2])) no_:=by
 refine W 40 func212 rfl λC g r h=>?_
 obtain⟨x7,w,h⟩:=Qp h
 refine tg_ g [10] ?_
 rcases x7 with(a8 | (a9 | (P | i)))
 ·exact have h:QaI a8=some r:=h;J g [.cm (.fn) [] [] [] [.d,.d] [] (.tup [.lit (.map none),.lit (.map none),.b false]),28,.denil 4 [some 2]] Z (JF _ _ w)<|F h Z Z U
 ·exact have h:QaJ a9=some r:=h;J g [.cm (.fn) [] [(14,603)] [] [.d,.d] [(603,.map (QG V.I V.I a9))] (.tup [.lit (.map none),.map 603,.b false]),28,.denil 4 [some 2]] Z (JF _ _ w)<|F h Z Z U
 ·exact have h:QaK P=some r:=h;J g [.cm (.fn) [] [(14,602)] [] [.d,.d] [(602,.map (QG V.I V.I P))] (.tup [.map 602,.lit (.map none),.b false]),28,.denil 4 [some 2]] Z (JF _ _ w)<|F h Z Z U
 replace h:Pq i=some r:=h
 obtain⟨a3,S,h⟩:=Qp h
 refine Qg g [.cm (.fn) [] [(14,602),(609,603)] [] [.d,.d] [(602,.map (QG V.I V.I i.1)),(603,.map (QG V.I V.I i.2))] (.tup [.map 602,.map 603,.b true]),23,.cm (.fn) [(617,609),(618,14)] [(609,617),(14,618)] [] [.d,.d] [(617,.map (QG V.I V.I i.2)),(618,.map (QG V.I V.I i.1))] (.b a3),4] Z (a2_ (JF _ _ w) (IX _ _ _ S)) ?_
 rcases Xn h with⟨j,h⟩|⟨j,h⟩
 ·exact J g [.T,9,.denil 4 [some 2]] Z j<|F h Z Z U
 refine Qg g [.F,7] Z (A j) ?_
 refine AK.openMapK (b:=609) Ey rfl λs t L14 D a4 N=>?_
 refine Qg g [.x (λσ=>(σ.set 27 (.itr s t #[] none)).put 27 (.L 27)),3,.K [6,27] [14,27,609]] Z (A (Qf.range (b:=609) Z Z (QI g.n Z) Z Z Gy Z)) ?_
 obtain⟨a5,a0,h⟩:=Qp h
 refine AK.range (body:=(λst p=>Ag st p.1 p.2)) (λst seen σ=>∃cur:O_ Nat,σ=⟨[(6,.map 14),lk_ 27],[(14,.map (QG V.I V.I st)),(27,.itr s t seen cur),(609,.mapX s t (CZ V.I V.I L14) (QG V.I V.I i.2))]⟩) (λ(q:Empty) _ _=>False) (λst e σ=>e=.exit 1/\σ=⟨[(6,.map 14)],[(14,.map (QG V.I V.I st))]⟩) D N a0 (ex_ _ rfl) ?_ ?_
 ·rintro a seen σ ⟨cur,rfl⟩ hex
  refine tg_ g [2] ?_
  refine AK.nextT (b:=27) (m:=609) rfl rfl rfl (QI g.n rfl) rfl rfl rfl rfl ?_ ?_
  ·intro hleft
   refine tg_ g [7,.K [6] [14]] ?_
   exact AK.done (Or.inl (an_ hleft (an_ (λh=>(by cases h)) (an_ Z Z))))
  intro a6 c y u
  obtain⟨o,h⟩:=hex _ u
  have ho:=h
  replace h:Ag a c y=some o:=h
  refine Qg g [10,.x (λσ=>σ.put 30 (.tup [.I c,.I y])),9,.o (.any (.I ((Xb a c).getD 0)) none),2,.x (λσ=>σ.set 14 (.map (QG V.I V.I (Jd Ge a c (Qq (((Xb a c).getD 0)-y)))))),2,.K [6,27] [14,27,609]] Z (a3_ (Qf.entryT (b:=27) (m:=609) (e:=V.I) (f:=V.I) Z Z (QI g.n Z) Z u Z Z) (λσ h1 h2 _=>Qf.lookup (e:=V.I) (f:=V.I) (l:=a) (k:=c) (z:=0) Z Z (QI g.n Z) (h1 _ _ Z) (h2 _ _ Z) (h1 _ _ Z) Gy Ey Qac Z) (Qf.mapUpdate (e:=V.I) (f:=V.I) (l:=a) (k:=c) (v:=(Qq (((Xb a c).getD 0)-y))) Ge Z Z Z Z Z Z Gy Ey Z)) ?_
  cases h
  exact AK.done (Or.inr (ex_ _ (an_ u (Or.inl (ex_ _ (an_ ho (an_ Z (ex_ _ Z))))))))
 rcases a5 with(a | q)
 ·replace h:Lu a=some r:=h
  unfold Lu at h
  rintro e σ ⟨rfl,rfl⟩
  exact B h λO a2 h=>K g [5,.cm (.fn) [(617,14)] [(39,600),(14,617)] [] [.d] [(600,.arr 2 (O.map QW)),(617,.map (QG V.I V.I a))] (.own 600 O.length),5,.frz 39 (O.map QW) [4] []] Z (Fc _ _ a2) (A (Wr Qd))<|F h Z Z U
 exact q.elim
def DQ (f:QMk)(g:QMk)(c:Int)(a:QMk):O_ ((Int×QMk)⊕(Int⊕QMk)):=bif (c<((List.replicate (min2 (f.length:Int) (g.length:Int)).toNat (([]:QBg):QBg)).length:Int))then (idx f c).bind λd=>(idx g c).bind λe=>(JD d e).bind λb=>(idx a c).bind λh=>bif (b.2 != 0)then some (.inr (.inl b.2))else some (.inl ((Qq (c+1)),(a.set c.toNat b.1)))else some (.inr (.inr a))
def QaQ (a:Int):O_ (QMk×Int):=some (([]:L_ QBg),a)
def QaR (a:QMk):O_ (QMk×Int):=some (a,0)
def Yr (a:QMk)(b:QMk):O_ (QMk×Int):=(chk (decide (0<=(min2 (a.length:Int) (b.length:Int)))&&decide ((min2 (a.length:Int) (b.length:Int))<=(min2 (a.length:Int) (b.length:Int)))&&decide ((min2 (a.length:Int) (b.length:Int))<=4294967296))).bind λ_=>(QQ (λst=>DQ a b st.1 st.2) (0,(List.replicate (min2 (a.length:Int) (b.length:Int)).toNat (([]:QBg):QBg)))).bind (Sum.elim (λq=>QaQ q) (λq=>QaR q))
def QaS (l p):CT 211 [.sl 1 (l.map Qm),.sl 1 (p.map Qm),.clo (.func 212) [] []] [] (Yr l p) (λr=>(.tup [.sl 1 (r.1.map Qm),.I r.2])) no_:=
 W 43 func211 Z λC e r h=>X h λy h=>g3_ e [9,.o (.ln l.length),1,.o (.ln p.length),1,.o (.rows (List.replicate (min2 (l.length:Int) (p.length:Int)).toNat [.Y]))] Z Qd Qd ⟨y,Z⟩<|AK.denilA (b:=16) [some 2] Z (QhF (f:=Qm) (x:=([]:QBg)) Z)<|J e [.S 16 (.own 16 (List.replicate (min2 (l.length:Int) (p.length:Int)).toNat (([]:QBg):QBg)).length),12] Z (by simp)<|lq_ h (λst=>⟨[(0,.sl 1 (l.map Qm)),(1,.sl 1 (p.map Qm)),(2,.clo (.func 212) [] []),(8,.own 16 st.2.length),(18,.I ((List.replicate (min2 (l.length:Int) (p.length:Int)).toNat (([]:QBg):QBg)).length:Int)),(19,.I st.1)],[(16,.arr 1 (st.2.map Qm))]⟩) (λq=>(.ret,⟨[(6,.Y),(7,.I q)],[]⟩)) (λq=>(.exit 0,⟨[(8,.own 16 q.length)],[(16,.arr 1 (q.map Qm))]⟩)) Z (λ⟨x9,t⟩ o h=>H e [6] Z<|I h (λg h=>B h λz u h=>B h λD v h=>B h λj w h=>B h λO k h=>G e [.T,16] Z (A g) <| 
  dr_ e [.N,.N,.N,.N,.N,.B (.row (Qm z)),.N,.N,.N,.B (.row (Qm D)),.N,.B (.C2 (.tup [.sl 2 (j.1.map QW),.I j.2])),.a .no none true true,.N,.a .no none true,.N,.m (.st (Qm O) ((t.set x9.toNat j.1).map Qm)),.m .s] [0,1,2,8,9,10,18,19] [] [0,1,2,8,10,18,19] [16] Z Z (a5_ (Xd u) (Xd v) (QgU _ _ _ w) (Yx k Z) ⟨(Xz (YV k).2),Ug Z⟩) Z <|
  H e [7] Z<|I h (λi h=>J e [.T,10] Z i<|rR_ h Z) λi h=>K e [.F,7,.S 8 (.own 16 (t.set x9.toNat j.1).length)] Z i (congrArg (λn=>V.own 16 n) (by simp))<|rN_ h Z) λg h=>J e [.F,2] Z g<|rX_ h Z) (λa0 h=>H e [2,.denil 6 [some 1]] Z<|F h Z Z U) (λP h=>J e [10,.frz 16 (P.map Qm) [6] []] Z (A (Wr Qd))<|F h Z Z U)
def Dd (c:Ql)(d:QMk)(e:Qk):O_ (QMk×Int):=(YY c d e).bind λf=>bif (f != 0)then some (([]:L_ QBg),f)else (YC c e).bind λa=>bif (a.2 != 0)then some (([]:L_ QBg),a.2)else (Yr d a.1).bind λb=>some (b.1,b.2)
def QfV (k p l):CT 125 [.agg (Qa k),.sl 1 (p.map Qm),.agg (Qo l)] [] (Dd k p l) (λr=>(.tup [.sl 1 (r.1.map Qm),.I r.2])) no_:=
 W 32 func125 Z λC e r h=>B h λq m h=>g3_ e [11,.A (Qa k),1,.A (Qo l),.o (.C3 (.I q)),9] Z Z Z (MW _ _ _ _ m)<|I h (λb h=>J e [.T,9,.denil 6 [some 1]] Z b<|F h Z Z U) λb h=>B h λf g h=>g4_ e [.F,4,.A (Qa k),.A (Qo l),.o (.C2 (.tup [.sl 1 (f.1.map Qm),.I f.2])),14] Z b Z Z (MR _ _ _ g)<|I h (λa h=>J e [.T,9,.denil 6 [some 1]] Z a<|F h Z Z U) λa h=>B h λi j h=>K e [.F,6,.cm (.fn) [] [] [] [.d,.d,.d] [] (.tup [.sl 1 (i.1.map Qm),.I i.2]),7] Z a (QaS _ _ _ j)<|F h Z Z U
def Jp (a:QB)(c:Qw):O_ (Int×Qz×QB):=(Dd a.net a.now.M a.call.Mode).bind λb=>bif (b.2 != 0)then some (b.2,(Qz.mk 0 0 ([]:LI_)),(QB.mk a.net (QT.mk b.1 a.now.Items a.now.Next a.now.Now) a.call))else (IW a.now.Items c).bind λd=>some (0,(Qz.mk 0 c.Id ([]:LI_)),(QB.mk a.net (QT.mk b.1 d (Qq (a.now.Next+1)) a.now.Now) a.call))
def Wo (a:QB):O_ (Int×Qz×QB):=(YY a.net a.now.M a.call.Mode).bind λe=>bif (e != 0)then some (e,(Qz.mk 0 0 ([]:LI_)),a)else (DZ a.net a.now.M a.call.Mode 64).bind λd=>bif (d != 1)then some (13,(Qz.mk 0 0 ([]:LI_)),a)else (idx a.net.Tasks a.call.Mode.Task).bind λc=>(BD c.Many a.call.Num).bind λb=>bif (b.1 != 0)then some (b.1,(Qz.mk 0 0 ([]:LI_)),a)else bif (64<=(a.now.Items.length:Int))then some (2,(Qz.mk 0 0 ([]:LI_)),a)else bif (a.now.Next==1099511627776)then some (1,(Qz.mk 0 0 ([]:LI_)),a)else bif (0<c.After)then Jp a (Qw.mk a.now.Next a.call.Mode b.2 (Qq (a.now.Now+c.After)))else Jp a (Qw.mk a.now.Next a.call.Mode b.2 0)
def Vu (b):CT 70 [.L 617] [(617,.var (Qx b))] (Wo b) (λr=>(.tup [.agg (Qr r.2.1),.I r.1])) (λr=>[(617,.var (Qx r.2.2))]):=by
 refine W 150 func70 rfl λC e r h=>?_
 obtain⟨x8,a0,h⟩:=Qp h
 refine Qg e [12,.A (Qo b.call.Mode),2,.O 4 (.var (Qo b.call.Mode)),4,.K [0,2,4] [2,4,617]] Z (a2_ Z Z) ?_
 refine AK.draw2 Qe e mixed [.N,.N,.N,.E (.agg (Qa b.net)),.N,.N,.N,.N,.N,.E (.agg (Qo b.call.Mode)),.B (.C3 (.I x8)),.N] [] [] [0,2,4,5] [2,4,617] rfl rfl rfl ⟨⟨⟨U,rfl⟩,rfl⟩,(MW _ _ _ _ a0)⟩ rfl (by kernel_rfl) rfl rfl rfl ?_
 refine tg_ e [7] ?_
 rcases Xn h with⟨x,h⟩|⟨x,h⟩
 ·refine Qg e [.T,2,.v .no [none,none,some 1] (.agg (Qr (Qz.mk 0 0 ([]:LI_)))),2,.O 2 (.var (Qr (Qz.mk 0 0 ([]:LI_)))),5,.K [2,3] [2,617]] Z (a3_ x Z Z) ?_
  cases h
  exact AK.done (ex_ [_,_] (an_ (an_ (ex_ _ (ex_ _ (an_ Z (an_ Z (Or.inl (an_ (Qe.ag Z) (an_ (Qe.sz Z) Z))))))) (an_ Z U)) (gives r1_)))
 obtain⟨a1,y,h⟩:=Qp h
 refine Qg e [.F,4,.K [0,2,4] [2,4,617]] Z (A x) ?_
 refine AK.draw2 Qe e mixed [.N,.N,.N,.E (.agg (Qa b.net)),.N,.N,.N,.N,.N,.E (.agg (Qo b.call.Mode)),.B (.C4 (.I a1)),.N] [] [] [0,2,4,41] [2,4,617] rfl rfl rfl ⟨⟨⟨U,rfl⟩,rfl⟩,(PK _ _ _ _ _ y)⟩ rfl (by kernel_rfl) rfl rfl rfl ?_
 refine tg_ e [1] ?_
 rcases Xn h with⟨i,h⟩|⟨i,h⟩
 ·refine Qg e [.T,2,.v .no [none,none,some 1] (.agg (Qr (Qz.mk 0 0 ([]:LI_)))),1,.O 2 (.var (Qr (Qz.mk 0 0 ([]:LI_)))),5,.K [2,3] [2,617]] Z (a3_ i Z Z) ?_
  cases h
  exact AK.done (ex_ [_,_] (an_ (an_ (ex_ _ (ex_ _ (an_ Z (an_ Z (Or.inl (an_ (Qe.ag Z) (an_ (Qe.sz Z) Z))))))) (an_ Z U)) (gives r1_)))
 obtain⟨j,z,h⟩:=Qp h
 refine Qg e [.F,3,.K [0,2,4] [2,4,617]] Z (A i) ?_
 refine AK.draw2 Qe e mixed [.N,.N,.N,.N,.N,.N,.N,.B (.row (Qi j)),.E (.agg (Qi j)),.N,.m .s] [] [] [0,2,4,6] [2,4,6,617] rfl rfl rfl ⟨⟨U,(Xd z)⟩,rfl⟩ rfl (by kernel_rfl) rfl rfl rfl ?_
 obtain⟨f,D,h⟩:=Qp h
 refine Qg e [.O 6 (.var (Qi j)),2,.K [0,2,4,6] [2,4,6,617]] Z (A Z) ?_
 refine AK.draw2 Qe e mixed [.N,.E (.agg (Ae j.Many)),.N,.N,.N,.N,.N,.B (.C2 (.tup [.agg (QD f.2),.I f.1])),.a .no none true true,.N,.a .no none true,.N,.m .s,.N] [0,2,4,6] [2,4,6,617] [0,2,4,6,7,8] [2,4,6,7,617] rfl rfl rfl ⟨⟨U,rfl⟩,(QeP _ _ _ D)⟩ rfl (by kernel_rfl) rfl rfl rfl ?_
 refine Qg e [.O 7 (.var (QD f.2)),10] Z (A Z) ?_
 refine bg_ h (λk h=>Qg e [.T,2,.v .no [none,none,some 1] (.agg (Qr (Qz.mk 0 0 ([]:LI_)))),2,.O 2 (.var (Qr (Qz.mk 0 0 ([]:LI_)))),6,.K [2,3] [2,617]] rfl (a3_ k rfl rfl) ?_) λk h=>Qg e [.F,7,.o (.ln b.now.Items.length),4] rfl (a2_ k Qd) ?_
 ·cases h
  exact AK.done (ex_ [_,_] (an_ (an_ (ex_ _ (ex_ _ (an_ Z (an_ Z (Or.inl (an_ (Qe.ag Z) (an_ (Qe.sz Z) Z))))))) (an_ Z U)) (gives r1_)))
 refine bg_ h (λl h=>Qg e [.T,2,.v .no [none,none,some 1] (.agg (Qr (Qz.mk 0 0 ([]:LI_)))),1,.O 2 (.var (Qr (Qz.mk 0 0 ([]:LI_)))),6,.K [2,3] [2,617]] rfl (a3_ l rfl rfl) ?_) λl h=>Qg e [.F,11] rfl (A l) ?_
 ·cases h
  exact AK.done (ex_ [_,_] (an_ (an_ (ex_ _ (ex_ _ (an_ Z (an_ Z (Or.inl (an_ (Qe.ag Z) (an_ (Qe.sz Z) Z))))))) (an_ Z U)) (gives r1_)))
 refine bg_ h (λp h=>Qg e [.T,2,.v .no [none,none,some 1] (.agg (Qr (Qz.mk 0 0 ([]:LI_)))),1,.O 2 (.var (Qr (Qz.mk 0 0 ([]:LI_)))),6,.K [2,3] [2,617]] rfl (a3_ p rfl rfl) ?_) λp h=>Qg e [.F,4,.K [0,2,4,6,7] [2,4,6,7,617]] rfl (A p) ?_
 ·cases h
  exact AK.done (ex_ [_,_] (an_ (an_ (ex_ _ (ex_ _ (an_ Z (an_ Z (Or.inl (an_ (Qe.ag Z) (an_ (Qe.sz Z) Z))))))) (an_ Z U)) (gives r1_)))
 refine AK.draw2 Qe e mixed [.N,.N,.N,.N,.N,.E (.agg (Qo b.call.Mode)),.E (.agg (QD f.2)),.E (.agg (Qn (Qw.mk b.now.Next b.call.Mode f.2 0))),.N,.m .s] [] [] [0,2,4,6,9] [2,4,6,9,617] rfl rfl rfl ⟨⟨⟨U,rfl⟩,rfl⟩,rfl⟩ rfl (by kernel_rfl) rfl rfl rfl ?_
 refine Qg e [.O 9 (.var (Qn (Qw.mk b.now.Next b.call.Mode f.2 0))),1] Z (A Z) ?_
 refine AK.meet (λσ=>∃g:Qw,σ=⟨[(0,.L 617),lk_ 2,lk_ 4,lk_ 9],[(2,.var [.I 0,.I 0,.Y]),(4,.var (Qo b.call.Mode)),(9,.var (Qn g)),(617,.var (Qx b))]⟩/\Jp b g=some r) ?_ ?_
 ·refine tg_ e [7] ?_
  refine bq_ e h [.T,.K [0,2,4,6,9] [2,4,6,9,617]] rfl (λq h=>?_) [.F,1,.K [0,2,4,9] [2,4,9,617]] rfl λq h=>?_
  ·refine AK.draw2 Qe e mixed [.N,.N,.N,.N,.N,.N,.N,.N,.N,.m .s] [] [] [0,2,4,9] [2,4,9,617] rfl rfl rfl U rfl (by kernel_rfl) rfl rfl rfl ?_
   refine Qg e [.O 9 (.var (Qn (Qw.mk b.now.Next b.call.Mode f.2 (Qq (b.now.Now+j.After))))),.K [0,2,4,9] [2,4,9,617]] Z (A Z) ?_
   exact AK.met (ex_ _ (an_ Z h))
  exact AK.met (ex_ _ (an_ Z h))
 rintro σ ⟨g,rfl,h⟩
 obtain⟨t,P,h⟩:=Qp h
 refine tg_ e [2,.K [0,2,4,9] [2,4,9,617]] ?_
 refine AK.draw2 Qe e mixed [.N,.N,.N,.N,.E (.agg (Qa b.net)),.N,.N,.N,.N,.N,.E (.agg (Qo b.call.Mode)),.B (.C3 (.tup [.sl 1 (t.1.map Qm),.I t.2])),.a .no none true true,.N,.a .no none true,.N,.N,.N,.m .s,.N] [0,2,4,9] [2,4,9] [0,2,8,9] [2,9,617] rfl rfl rfl ⟨⟨⟨U,rfl⟩,rfl⟩,(QfV _ _ _ _ P)⟩ rfl (by kernel_rfl) rfl rfl rfl ?_
 refine Qg e [.O 617 (.var (Qx (QB.mk b.net (QT.mk t.1 b.now.Items b.now.Next b.now.Now) b.call))),7] Z (A Z) ?_
 rcases Xn h with⟨u,h⟩|⟨u,h⟩
 ·refine Qg e [.T,2,.v .no [none,none,some 1] (.agg (Qr (Qz.mk 0 0 ([]:LI_)))),2,.O 2 (.var (Qr (Qz.mk 0 0 ([]:LI_)))),5,.K [2,3] [2,617]] Z (a3_ u Z Z) ?_
  cases h
  exact AK.done (ex_ [_,_] (an_ (an_ (ex_ _ (ex_ _ (an_ Z (an_ Z (Or.inl (an_ (Qe.ag Z) (an_ (Qe.sz Z) Z))))))) (an_ Z U)) (gives r1_)))
 obtain⟨w,S,h⟩:=Qp h
 refine Qg e [.F,3,.K [0,2,9] [2,9,617]] Z (A u) ?_
 refine AK.draw2 Qe e mixed [.N,.N,.N,.N,.N,.N,.E (.agg (Qn g)),.B (.cd false [.d,.d] 11 (w.map Qn) w.length),.N,.N,.N,.m .s] [] [] [0,2,9] [2,9,617] rfl rfl rfl ⟨⟨U,rfl⟩,⟨(VY _ _ _ S),Qd⟩⟩ rfl (by kernel_rfl) rfl rfl rfl ?_
 refine Qg e [.O 617 (.var (Qx (QB.mk b.net (QT.mk t.1 w b.now.Next b.now.Now) b.call))),13,.O 617 (.var (Qx (QB.mk b.net (QT.mk t.1 w (Qq (b.now.Next+1)) b.now.Now) b.call))),6,.v .no [none,none,some 1] (.agg (Qr (Qz.mk 0 g.Id ([]:LI_)))),1,.O 2 (.var (Qr (Qz.mk 0 g.Id ([]:LI_)))),4,.K [2,3] [2,617]] Z (a4_ Z Z Z Z) ?_
 cases h
 exact AK.done (ex_ [_,_] (an_ (an_ (ex_ _ (ex_ _ (an_ Z (an_ Z (Or.inl (an_ (Qe.ag Z) (an_ (Qe.sz Z) Z))))))) (an_ Z U)) (gives r1_)))
def KX (c:QB):O_ (Int×Qz×QB):=(GC c).bind λa=>bif (a.1 != 0)then some (a.1,(Qz.mk 0 0 ([]:LI_)),c)else (Jc c a.2).bind λb=>some (b.1,(Qz.mk 0 a.2.Id ([a.2.Id]:L_ Int)),b.2)
def SJ (i):CT 72 [.L 617] [(617,.var (Qx i))] (KX i) (λr=>(.tup [.agg (Qr r.2.1),.I r.1])) (λr=>[(617,.var (Qx r.2.2))]):=by
 refine W 24 func72 rfl λC f r h=>?_
 obtain⟨b,j,h⟩:=Qp h
 refine Qg f [9,.cm (.fn) [(617,617)] [(617,617)] [] [.d] [(617,.var (Qx i))] (.tup [.agg (Qn b.2),.I b.1]),5,.O 4 (.var (Qn b.2)),10] Z (a2_ (Mf _ _ j) Z) ?_
 rcases Xn h with⟨c,h⟩|⟨c,h⟩
 ·refine Qg f [.T,2,.v .no [none,none,some 1] (.agg (Qr (Qz.mk 0 0 ([]:LI_)))),2,.O 2 (.var (Qr (Qz.mk 0 0 ([]:LI_)))),5,.K [2,3] [2,617]] Z (a3_ c Z Z) ?_
  cases h
  exact AK.done (ex_ [_,_] (an_ (an_ (ex_ _ (ex_ _ (an_ Z (an_ Z (Or.inl (an_ (Qe.ag Z) (an_ (Qe.sz Z) Z))))))) (an_ Z U)) (gives r1_)))
 obtain⟨e,g,h⟩:=Qp h
 refine Qg f [.F,3,.K [0,2,3,4] [2,4,617]] Z (A c) ?_
 refine AK.draw2 Qe f mixed [.a .no none true,.a .no none true,.a .no none true,.a .no none true,.a (.bd []) (some ([],.sl 1 (([b.2.Id]:L_ Int).map Qb))) true,.a .no (some ([],.agg (Qr (Qz.mk 0 b.2.Id ([b.2.Id]:L_ Int))))) true,.N,.E (.agg (Qn b.2)),.m (.cm (.fn) [(617,617)] [(617,617)] [] [.d,.d,.d] [(617,.var (Qx e.2))] (.I e.1) []),.m .s,.m .s] [0,2,3,4] [4] [2,3] [2,617] rfl rfl rfl ⟨⟨⟨⟨U,rfl⟩,rfl⟩,rfl⟩,⟨U,(Ur _ _ _ g)⟩⟩ rfl (by kernel_rfl) rfl rfl rfl ?_
 refine Qg f [.O 2 (.var (Qr (Qz.mk 0 b.2.Id ([b.2.Id]:L_ Int)))),.O 617 (.var (Qx e.2)),2,.K [2,3] [2,617]] Z (a2_ Z Z) ?_
 cases h
 exact AK.done (ex_ [_,_] (an_ (an_ (ex_ _ (ex_ _ (an_ Z (an_ Z (Or.inl (an_ (Qe.ag Z) (an_ (Qe.sz Z) Z))))))) (an_ Z U)) (gives r1_)))
def Vv  : O_ ((L_ (Int×(O_ Nat)))×(L_ Qh)):=some (([]:(L_ (Int×(O_ Nat)))),([]:L_ Qh))
def QfW (y:Nat->Nat)  : CT 220 [] [] (Vv ) (λ_=>(.L 3)) (λr=>[(1,.map (QG V.I (XN y) r.1)),(3,.var [.Y,.map 1]),(608,.tbl y 3 (r.2.map Qs))]):=
 W 4 func220 Z λC a r h=>H a [7] Z<|AK.newTbl 608 3 y Z Z<|g3_ a [.O 608 (.tbl y 3 (([]:L_ Qh).map Qs)),1,.O 1 (.map (QG V.I (XN y) ([]:(L_ (Int×(O_ Nat)))))),.A [.Y,.map 1],5] Z Z Z Z<|E h Z r3_
def En (a:(L_ (O_ Nat)))(b:(L_ (Int×(O_ Nat))))(c:(L_ Qh)):O_ Int:=some (a.length:Int)
def MY (y:Nat->Nat)(a:(L_ (O_ Nat)))(b:(L_ (Int×(O_ Nat))))(c:(L_ Qh)):CT 288 [.L 617] [(617,.var [.own 615 a.length,.map 618]),(615,.arr 1 (a.map (Xw y))),(618,.map (QG V.I (XN y) b)),(619,.tbl y 3 (c.map Qs))] (En a b c) V.I (λ_=>[(615,.arr 1 (a.map (Xw y))),(617,.var [.own 615 a.length,.map 618]),(618,.map (QG V.I (XN y) b)),(619,.tbl y 3 (c.map Qs))]):=
 W 8 func288 Z λC d r h=>H d [16] Z<|E h Z r4_
def Cb (a:(L_ (O_ Nat)))(f:(L_ (Int×(O_ Nat))))(b:(O_ Nat))(c:(L_ Qh)):O_ ((L_ (O_ Nat))×(L_ Qh)):=(b).bind λd=>(c[d]?).bind λe=>(chk (a.length+([b]:L_ (O_ Nat)).length<=4294967296)).bind λ_=>some ((a++([b]:L_ (O_ Nat))),(c.set d (Qh.mk e.id e.at_ (a.length:Int))))
def SK (y:Nat->Nat)(a:(L_ (O_ Nat)))(d:(L_ (Int×(O_ Nat))))(c:(O_ Nat))(e:(L_ Qh)):CT 396 [.L 617,.ifc 289 (XN y c)] [(617,.var [.own 615 a.length,.map 618]),(615,.arr 1 (a.map (Xw y))),(618,.map (QG V.I (XN y) d)),(619,.tbl y 3 (e.map Qs))] (Cb a d c e) (λ_=>(.tup [])) (λr=>[(615,.arr 1 (r.1.map (Xw y))),(617,.var [.own 615 r.1.length,.map 618]),(618,.map (QG V.I (XN y) d)),(619,.tbl y 3 (r.2.map Qs))]):=by
 refine W 22 func396 rfl λC f r h=>?_
 obtain⟨g,i,h⟩:=Qp h
 obtain⟨m,j,h⟩:=Qp h
 obtain⟨k,h⟩:=Pj h
 refine Qg f [14,.o (.any (JU y 0 g) none),.o (.any (JU y 2 g) none),.x (λσ=>σ.set 619 (.tbl y 3 ((e.set g (Qh.mk m.id m.at_ (a.length:Int))).map Qs))),8,.v (.bd []) [] (.sl 1 (([c]:L_ (O_ Nat)).map (Xw y))),.app ((a++([c]:L_ (O_ Nat))).map (Xw y)) (a++([c]:L_ (O_ Nat))).length,2,.O 617 (.var [.own 615 (a++([c]:L_ (O_ Nat))).length,.map 618]),1,.K [] [615,617,618,619]] Z ⟨⟨⟨⟨⟨⟨U,(λσ l p _=>Qf.nilCheckP Z Z (QI f.n Z) (l _ _ Z) i)⟩,(λσ l p _=>Qf.fieldP Z Z (QI f.n Z) (l _ _ Z) (Qe.fo Z Z) Z)⟩,(Qf.storeP (b:=619) Z Z Z Z (Xz j) Z Z Z Z (Qe.sz Z) (Ug Z))⟩,Z⟩,⟨Qd,Bd k Qd,JS,Gi Qd⟩⟩,Z⟩ ?_
 cases h
 refine AK.done ?_
 exact ex_ [] (an_ U (gives r4_))
def Wp (a:(L_ (O_ Nat)))(b:(L_ Qh)):O_ Int:=some (a.length:Int)
def Lc (y:Nat->Nat)(a:(L_ (O_ Nat)))(b:(L_ Qh)):CT 392 [.own 617 a.length] [(617,.arr 1 (a.map (Xw y))),(618,.tbl y 3 (b.map Qs))] (Wp a b) V.I (λ_=>[(617,.arr 1 (a.map (Xw y))),(618,.tbl y 3 (b.map Qs))]):=
 W 5 func392 Z λC c r h=>H c [13] Z<|E h Z r2_
def Iv (a:(L_ (O_ Nat)))(c:Int)(b:(L_ Qh))(d:Int):O_ Bool:=(idx a c).bind λu=>(u).bind λv=>(b[v]?).bind λe=>(idx a d).bind λf=>(f).bind λg=>(b[g]?).bind λh=>bif (e.at_<h.at_)then some true else (idx a c).bind λi=>(i).bind λj=>(b[j]?).bind λk=>(idx a d).bind λl=>(l).bind λm=>(b[m]?).bind λn=>bif (k.at_==n.at_)then (idx a c).bind λo=>(o).bind λp=>(b[p]?).bind λq=>(idx a d).bind λr=>(r).bind λs=>(b[s]?).bind λt=>some (decide (q.id<t.id))else some false
def Iw (a:Bool):O_ Bool:=some a
def KY (a:(L_ (O_ Nat)))(b:Int)(c:Int)(d:(L_ Qh)):O_ Bool:=(Iv a b d c).bind (λe=>Iw e)
def UO (gA:Nat->Nat)(l1:(L_ (O_ Nat)))(i2:Int)(k3:Int)(t4:(L_ Qh)):CT 393 [.own 617 l1.length,.I i2,.I k3] [(617,.arr 1 (l1.map (Xw gA))),(618,.tbl gA 3 (t4.map Qs))] (KY l1 i2 k3 t4) V.b (λ_=>[(617,.arr 1 (l1.map (Xw gA))),(618,.tbl gA 3 (t4.map Qs))]):=
 W 56 func393 Z λC e r h=>H e [6] Z<|mV_ h (λx6=>⟨[(6,.b x6)],[(617,.arr 1 (l1.map (Xw gA))),(618,.tbl gA 3 (t4.map Qs))]⟩) (λx6 h=>B h λe8 k h=>B h λk9 P h=>B h λS o h=>B h λT f h=>B h λl p h=>B h λa0 q h=>H e [.K [0,1,2,6] [617,618]] Z<|I h (λg h=> 
  dr_ e [.N,.N,.N,.B (.row ((Xw gA) e8)),.B (.any (JU gA 0 k9) none),.B (.any (JU gA 1 k9) none),.B (.any (.I S.at_) none),.N,.N,.N,.B (.row ((Xw gA) T)),.B (.any (JU gA 0 l) none),.B (.any (JU gA 1 l) none),.B (.any (.I a0.at_) none),.N,.E (.b true),.N,.N,.N,.N,.N,.N,.N,.N,.N,.N,.N,.N,.N,.N,.N,.N,.N,.N,.N,.N,.N,.N,.N,.N,.N,.N,.N,.N,.N,.N,.N,.N,.N,.m .s] [] [] [6] [617,618] Z Z ⟨⟨⟨⟨⟨⟨⟨⟨⟨⟨⟨U,(Yx k Z)⟩,(Xz (YV k).2)⟩,(λσ c d _=>Qf.nilCheckP Z Z (QI e.n Z) (c _ _ Z) P)⟩,(λσ c d _=>Qf.fieldP Z Z (QI e.n Z) (c _ _ Z) (Qe.fo Z Z) Z)⟩,(λσ c d _=>Qf.loadP (b:=618) Z Z (QI e.n Z) (c _ _ Z) (d _ _ Z) (Qe.ag Z) (Xz o) Z)⟩,(Yx f Z)⟩,(Xz (YV f).2)⟩,(λσ c d _=>Qf.nilCheckP Z Z (QI e.n Z) (c _ _ Z) p)⟩,(λσ c d _=>Qf.fieldP Z Z (QI e.n Z) (c _ _ Z) (Qe.fo Z Z) Z)⟩,(λσ c d _=>Qf.loadP (b:=618) Z Z (QI e.n Z) (c _ _ Z) (d _ _ Z) (Qe.ag Z) (Xz q) Z)⟩,(cb_ g)⟩ Z <|
  mq_ h Z) λg h=>B h λa1 i h=>B h λu w h=>B h λa2 x h=>B h λa3 j h=>B h λv y h=>B h λa4 z h=>I h (λt h=>B h λb1 D h=>B h λa5 a6 h=>B h λb2 a7 h=>B h λb3 O h=>B h λa8 a9 h=>B h λb4 b0 h=> 
  dr_ e [.N,.N,.N,.B (.row ((Xw gA) e8)),.B (.any (JU gA 0 k9) none),.B (.any (JU gA 1 k9) none),.B (.any (.I S.at_) none),.N,.N,.N,.B (.row ((Xw gA) T)),.B (.any (JU gA 0 l) none),.B (.any (JU gA 1 l) none),.B (.any (.I a0.at_) none),.N,.E (.b false),.N,.N,.N,.B (.row ((Xw gA) a1)),.B (.any (JU gA 0 u) none),.B (.any (JU gA 1 u) none),.B (.any (.I a2.at_) none),.N,.N,.N,.B (.row ((Xw gA) a3)),.B (.any (JU gA 0 v) none),.B (.any (JU gA 1 v) none),.B (.any (.I a4.at_) none),.N,.E (.b true),.N,.N,.N,.B (.row ((Xw gA) b1)),.B (.any (JU gA 0 a5) none),.B (.any (JU gA 0 a5) none),.B (.any (.I b2.id) none),.N,.N,.N,.B (.row ((Xw gA) b3)),.B (.any (JU gA 0 a8) none),.B (.any (JU gA 0 a8) none),.B (.any (.I b4.id) none),.N,.N,.N,.m .s] [] [] [6] [617,618] Z Z ⟨⟨⟨⟨⟨⟨⟨⟨⟨⟨⟨⟨⟨⟨⟨⟨⟨⟨⟨⟨⟨⟨⟨⟨⟨⟨⟨⟨⟨⟨⟨⟨U,(Yx k Z)⟩,(Xz (YV k).2)⟩,(λσ c d _=>Qf.nilCheckP Z Z (QI e.n Z) (c _ _ Z) P)⟩,(λσ c d _=>Qf.fieldP Z Z (QI e.n Z) (c _ _ Z) (Qe.fo Z Z) Z)⟩,(λσ c d _=>Qf.loadP (b:=618) Z Z (QI e.n Z) (c _ _ Z) (d _ _ Z) (Qe.ag Z) (Xz o) Z)⟩,(Yx f Z)⟩,(Xz (YV f).2)⟩,(λσ c d _=>Qf.nilCheckP Z Z (QI e.n Z) (c _ _ Z) p)⟩,(λσ c d _=>Qf.fieldP Z Z (QI e.n Z) (c _ _ Z) (Qe.fo Z Z) Z)⟩,(λσ c d _=>Qf.loadP (b:=618) Z Z (QI e.n Z) (c _ _ Z) (d _ _ Z) (Qe.ag Z) (Xz q) Z)⟩,(cb_ g)⟩,(Yx i Z)⟩,(Xz (YV i).2)⟩,(λσ c d _=>Qf.nilCheckP Z Z (QI e.n Z) (c _ _ Z) w)⟩,(λσ c d _=>Qf.fieldP Z Z (QI e.n Z) (c _ _ Z) (Qe.fo Z Z) Z)⟩,(λσ c d _=>Qf.loadP (b:=618) Z Z (QI e.n Z) (c _ _ Z) (d _ _ Z) (Qe.ag Z) (Xz x) Z)⟩,(Yx j Z)⟩,(Xz (YV j).2)⟩,(λσ c d _=>Qf.nilCheckP Z Z (QI e.n Z) (c _ _ Z) y)⟩,(λσ c d _=>Qf.fieldP Z Z (QI e.n Z) (c _ _ Z) (Qe.fo Z Z) Z)⟩,(λσ c d _=>Qf.loadP (b:=618) Z Z (QI e.n Z) (c _ _ Z) (d _ _ Z) (Qe.ag Z) (Xz z) Z)⟩,(cb_ t)⟩,(Yx D Z)⟩,(Xz (YV D).2)⟩,(λσ c d _=>Qf.nilCheckP Z Z (QI e.n Z) (c _ _ Z) a6)⟩,(λσ c d _=>Qf.fieldP Z Z (QI e.n Z) (c _ _ Z) (Qe.fo Z Z) Z)⟩,(λσ c d _=>Qf.loadP (b:=618) Z Z (QI e.n Z) (c _ _ Z) (d _ _ Z) (Qe.ag Z) (Xz a7) Z)⟩,(Yx O Z)⟩,(Xz (YV O).2)⟩,(λσ c d _=>Qf.nilCheckP Z Z (QI e.n Z) (c _ _ Z) a9)⟩,(λσ c d _=>Qf.fieldP Z Z (QI e.n Z) (c _ _ Z) (Qe.fo Z Z) Z)⟩,(λσ c d _=>Qf.loadP (b:=618) Z Z (QI e.n Z) (c _ _ Z) (d _ _ Z) (Qe.ag Z) (Xz b0) Z)⟩ Z <|
  mq_ h Z) λt h=> 
  dr_ e [.N,.N,.N,.B (.row ((Xw gA) e8)),.B (.any (JU gA 0 k9) none),.B (.any (JU gA 1 k9) none),.B (.any (.I S.at_) none),.N,.N,.N,.B (.row ((Xw gA) T)),.B (.any (JU gA 0 l) none),.B (.any (JU gA 1 l) none),.B (.any (.I a0.at_) none),.N,.E (.b false),.N,.N,.N,.B (.row ((Xw gA) a1)),.B (.any (JU gA 0 u) none),.B (.any (JU gA 1 u) none),.B (.any (.I a2.at_) none),.N,.N,.N,.B (.row ((Xw gA) a3)),.B (.any (JU gA 0 v) none),.B (.any (JU gA 1 v) none),.B (.any (.I a4.at_) none),.N,.E (.b false),.N,.N,.N,.N,.N,.N,.N,.N,.N,.N,.N,.N,.N,.N,.N,.N,.N,.m .s] [] [] [6] [617,618] Z Z ⟨⟨⟨⟨⟨⟨⟨⟨⟨⟨⟨⟨⟨⟨⟨⟨⟨⟨⟨⟨⟨⟨U,(Yx k Z)⟩,(Xz (YV k).2)⟩,(λσ c d _=>Qf.nilCheckP Z Z (QI e.n Z) (c _ _ Z) P)⟩,(λσ c d _=>Qf.fieldP Z Z (QI e.n Z) (c _ _ Z) (Qe.fo Z Z) Z)⟩,(λσ c d _=>Qf.loadP (b:=618) Z Z (QI e.n Z) (c _ _ Z) (d _ _ Z) (Qe.ag Z) (Xz o) Z)⟩,(Yx f Z)⟩,(Xz (YV f).2)⟩,(λσ c d _=>Qf.nilCheckP Z Z (QI e.n Z) (c _ _ Z) p)⟩,(λσ c d _=>Qf.fieldP Z Z (QI e.n Z) (c _ _ Z) (Qe.fo Z Z) Z)⟩,(λσ c d _=>Qf.loadP (b:=618) Z Z (QI e.n Z) (c _ _ Z) (d _ _ Z) (Qe.ag Z) (Xz q) Z)⟩,(cb_ g)⟩,(Yx i Z)⟩,(Xz (YV i).2)⟩,(λσ c d _=>Qf.nilCheckP Z Z (QI e.n Z) (c _ _ Z) w)⟩,(λσ c d _=>Qf.fieldP Z Z (QI e.n Z) (c _ _ Z) (Qe.fo Z Z) Z)⟩,(λσ c d _=>Qf.loadP (b:=618) Z Z (QI e.n Z) (c _ _ Z) (d _ _ Z) (Qe.ag Z) (Xz x) Z)⟩,(Yx j Z)⟩,(Xz (YV j).2)⟩,(λσ c d _=>Qf.nilCheckP Z Z (QI e.n Z) (c _ _ Z) y)⟩,(λσ c d _=>Qf.fieldP Z Z (QI e.n Z) (c _ _ Z) (Qe.fo Z Z) Z)⟩,(λσ c d _=>Qf.loadP (b:=618) Z Z (QI e.n Z) (c _ _ Z) (d _ _ Z) (Qe.ag Z) (Xz z) Z)⟩,(cb_ t)⟩ Z <|
  mq_ h Z) λx6 h=>H e [2] Z<|E h Z r2_
def JV (c:(L_ (O_ Nat)))(a:Int)(d:Int)(i:(L_ Qh)):O_ ((L_ (O_ Nat))×(L_ Qh)):=(idx c d).bind λh=>(idx c a).bind λj=>(idx c a).bind λn=>(idx (c.set a.toNat h) d).bind λm=>(idx ((c.set a.toNat h).set d.toNat j) a).bind λk=>(idx ((c.set a.toNat h).set d.toNat j) d).bind λl=>(k).bind λe=>(i[e]?).bind λb=>(l).bind λf=>((i.set e (Qh.mk b.id b.at_ a))[f]?).bind λg=>some (((c.set a.toNat h).set d.toNat j),((i.set e (Qh.mk b.id b.at_ a)).set f (Qh.mk g.id g.at_ d)))
def UP (gA:Nat->Nat)(p:(L_ (O_ Nat)))(o:Int)(z:Int)(D:(L_ Qh)):CT 394 [.own 617 p.length,.I o,.I z] [(617,.arr 1 (p.map (Xw gA))),(618,.tbl gA 3 (D.map Qs))] (JV p o z D) (λ_=>(.tup [])) (λr=>[(617,.arr 1 (r.1.map (Xw gA))),(618,.tbl gA 3 (r.2.map Qs))]):=by
 refine W 34 func394 rfl λC d r h=>?_
 obtain⟨O,q,h⟩:=Qp h
 obtain⟨e8,s,h⟩:=Qp h
 obtain⟨e9,t,h⟩:=Qp h
 obtain⟨P,g,h⟩:=Qp h
 refine tg_ d [1,.K [0,1,2] [617,618]] ?_
 refine AK.draw2 Qe d mixed [.N,.N,.a .no none true,.a .no none true,.N,.N,.N,.B (.row ((Xw gA) O)),.N,.N,.N,.B (.row ((Xw gA) e8)),.N,.m (.st ((Xw gA) e9) ((p.set o.toNat O).map (Xw gA))),.N,.m (.st ((Xw gA) P) (((p.set o.toNat O).set z.toNat e8).map (Xw gA)))] [0,1,2] [618] [0,1,2] [617,618] rfl rfl rfl ⟨⟨⟨⟨⟨⟨⟨⟨U,(Yx q rfl)⟩,(Xz (YV q).2)⟩,(Yx s rfl)⟩,(Xz (YV s).2)⟩,(Yx t rfl)⟩,⟨(Xz (YV t).2),Ug rfl⟩⟩,(Yx g (by simp))⟩,⟨(Xz (YV g).2),Ug rfl⟩⟩ rfl (by kernel_rfl) rfl rfl rfl ?_
 obtain⟨S,i,h⟩:=Qp h
 obtain⟨T,j,h⟩:=Qp h
 obtain⟨e,u,h⟩:=Qp h
 obtain⟨f,v,h⟩:=Qp h
 obtain⟨k,w,h⟩:=Qp h
 obtain⟨x,y,h⟩:=Qp h
 refine tg_ d [1,.K [0,1,2] [617,618]] ?_
 refine AK.draw2 Qe d mixed [.N,.N,.N,.B (.row ((Xw gA) S)),.N,.N,.N,.B (.row ((Xw gA) T)),.N,.a .no none true,.B (.any (JU gA 0 e) none),.B (.any (JU gA 2 e) none),.m (.any ⟨[],[(618,.tbl gA 3 ((D.set e (Qh.mk f.id f.at_ o)).map Qs))],none⟩),.B (.any (JU gA 0 k) none),.B (.any (JU gA 2 k) none),.m (.any ⟨[],[(618,.tbl gA 3 (((D.set e (Qh.mk f.id f.at_ o)).set k (Qh.mk x.id x.at_ z)).map Qs))],none⟩)] [0,1,2] [617] [] [617,618] rfl rfl rfl ⟨⟨⟨⟨⟨⟨⟨⟨⟨⟨U,(Yx i (by simp))⟩,(Xz (YV i).2)⟩,(Yx j (by simp))⟩,(Xz (YV j).2)⟩,(λσ c l _=>Qf.nilCheckP rfl rfl (QI d.n rfl) (c _ _ rfl) u)⟩,(λσ c l _=>Qf.fieldP rfl rfl (QI d.n rfl) (c _ _ rfl) (Qe.fo rfl rfl) rfl)⟩,(λσ c l=>Qf.storeP (b:=618) rfl rfl (c _ _ rfl) (l _ _ rfl) (Xz v) rfl (c _ _ rfl) rfl rfl (Qe.sz rfl) (Ug rfl))⟩,(λσ c l _=>Qf.nilCheckP rfl rfl (QI d.n rfl) (c _ _ rfl) w)⟩,(λσ c l _=>Qf.fieldP rfl rfl (QI d.n rfl) (c _ _ rfl) (Qe.fo rfl rfl) rfl)⟩,(λσ c l=>Qf.storeP (b:=618) rfl rfl (c _ _ rfl) (l _ _ rfl) (Xz y) rfl (c _ _ rfl) rfl rfl (Qe.sz rfl) (Ug rfl))⟩ rfl (by kernel_rfl) rfl rfl rfl ?_
 refine tg_ d [.K [] [617,618]] ?_
 cases h
 refine AK.done ?_
 exact ex_ [] (an_ U (gives r2_))
def Ld (a:Int)(b:(L_ (O_ Nat)))(d:(L_ Qh)):O_ Bool:=bif ((Qq (Int.tdiv (Qq (a-1)) 2))==a)then some true else (KY b a (Qq (Int.tdiv (Qq (a-1)) 2)) d).bind λc=>some (!c)
def Gp (e:(L_ Qh))(a:(L_ (O_ Nat)))(c:Int)(d:Bool):O_ ((Int×(L_ Qh)×(L_ (O_ Nat)))⊕((L_ Qh)×(L_ (O_ Nat)))):=bif d then some (.inr (e,a))else (JV a (Qq (Int.tdiv (Qq (c-1)) 2)) c e).bind λb=>(chk (b.1.length=a.length)).bind λ_=>some (.inl ((Qq (Int.tdiv (Qq (c-1)) 2)),b.2,b.1))
def Wv (c:Int)(d:(L_ Qh))(a:(L_ (O_ Nat))):O_ ((Int×(L_ Qh)×(L_ (O_ Nat)))⊕((L_ Qh)×(L_ (O_ Nat)))):=(Ld c a d).bind (λb=>Gp d a c b)
def Le (a:(L_ Qh))(b:(L_ (O_ Nat))):O_ ((L_ (O_ Nat))×(L_ Qh)):=some (b,a)
def Fe (a:(L_ (O_ Nat)))(d:(L_ (Int×(O_ Nat))))(b:Int)(c:(L_ Qh)):O_ ((L_ (O_ Nat))×(L_ Qh)):=(QQ (λst=>Wv st.1 st.2.1 st.2.2) (b,c,a)).bind (λq=>Le q.1 q.2)
def Vx (gA:Nat->Nat)(w:(L_ (O_ Nat)))(k:(L_ (Int×(O_ Nat))))(N:Int)(P:(L_ Qh)):CT 322 [.ifc 294 (.L 617),.I N] [(617,.var [.own 615 w.length,.map 618]),(615,.arr 1 (w.map (Xw gA))),(618,.map (QG V.I (XN gA) k)),(619,.tbl gA 3 (P.map Qs))] (Fe w k N P) (λ_=>(.tup [])) (λr=>[(615,.arr 1 (r.1.map (Xw gA))),(617,.var [.own 615 r.1.length,.map 618]),(618,.map (QG V.I (XN gA) k)),(619,.tbl gA 3 (r.2.map Qs))]):=by
 refine W 23 func322 rfl λC g r h=>?_
 refine tg_ g [1,.K [0,1] [615,617,618,619]] ?_
 obtain⟨x,l,h⟩:=Qp h
 refine AK.loop (body:=(λst=>Wv st.1 st.2.1 st.2.2)) (λst σ=>σ=⟨[(0,.ifc 294 (.L 617)),(1,.I st.1)],[(615,.arr 1 (st.2.2.map (Xw gA))),(617,.var [.own 615 st.2.2.length,.map 618]),(618,.map (QG V.I (XN gA) k)),(619,.tbl gA 3 (st.2.1.map Qs))]⟩) (λq e σ=>e=.exit 0/\σ=⟨[],[(615,.arr 1 (q.2.map (Xw gA))),(617,.var [.own 615 q.2.length,.map 618]),(618,.map (QG V.I (XN gA) k)),(619,.tbl gA 3 (q.1.map Qs))]⟩) l rfl ?_ ?_
 ·rintro ⟨u,v,a⟩ o σ rfl h
  refine Qg g [11] Z (A (by decide)) ?_
  obtain⟨i,m,h⟩:=Qp h
  replace h:Gp v a u i=some o:=h
  refine AK.meetX (λσ=>σ=⟨[(0,.ifc 294 (.L 617)),(1,.I u),(4,.I (Qq (Int.tdiv (Qq (u-1)) 2))),(17,.b i)],[(615,.arr 1 (a.map (Xw gA))),(617,.var [.own 615 a.length,.map 618]),(618,.map (QG V.I (XN gA) k)),(619,.tbl gA 3 (v.map Qs))]⟩) ?_ ?_
  ·replace h:=m
   refine tg_ g [5] ?_
   rcases Xn h with⟨c,h⟩|⟨c,h⟩
   ·refine Qg g [.S 11 (.b true),7,.K [0,1,4,17] [615,617,618,619]] Z (tc_ c) ?_
    cases h
    exact mt_
   obtain⟨y,p,h⟩:=Qp h
   refine Qg g [.S 11 (.b false),3,.cm (.mv 393 286) [(617,615),(618,619)] [(615,617),(619,618)] [] [.d,.d,.d] [(617,.arr 1 (a.map (Xw gA))),(618,.tbl gA 3 (v.map Qs))] (.b y),3,.K [0,1,4,17] [615,617,618,619]] Z ⟨⟨(tc_ c),Vi⟩,(UO gA _ _ _ _ _ p)⟩ ?_
   cases h
   exact mt_
  rintro σ rfl
  replace h:Gp v a u i=some o:=h
  refine tg_ g [1] ?_
  rcases Xn h with⟨f,h⟩|⟨f,h⟩
  ·refine Qg g [.T,3,.K [] [615,617,618,619]] Z (A f) ?_
   cases h
   exact RF Z (an_ Z Z)
  obtain⟨j,s,h⟩:=Qp h
  obtain⟨t,h⟩:=Pj h
  refine Qg g [.F,7,.cm (.mv 394 286) [(617,615),(618,619)] [(615,617),(619,618)] [] [.d,.d,.d] [(617,.arr 1 (j.1.map (Xw gA))),(618,.tbl gA 3 (j.2.map Qs))] (.tup []),.O 617 (.var [.own 615 j.1.length,.map 618]),7,.K [0,1] [615,617,618,619]] Z (a4_ f Vj (UP gA _ _ _ _ _ s) (by simp[XC t])) ?_
  cases h
  exact Pi Z Z
 obtain⟨z,D⟩:=x
 replace h:Le z D=some r:=h
 rintro e σ ⟨rfl,rfl⟩
 refine tg_ g [1,.K [] [615,617,618,619]] ?_
 cases h
 refine AK.done ?_
 exact ex_ [] (an_ U (gives r4_))
def BE (d:(L_ (O_ Nat)))(b:(L_ (Int×(O_ Nat))))(e:(O_ Nat))(f:(L_ Qh)):O_ ((L_ (O_ Nat))×(L_ Qh)):=(Cb d b e f).bind λa=>(Wp a.1 a.2).bind λg=>(Fe a.1 b (Qq (g-1)) a.2).bind λc=>some (c.1,c.2)
def Sa (y:Nat->Nat)(c:(L_ (O_ Nat)))(a:(L_ (Int×(O_ Nat))))(j:(O_ Nat))(k:(L_ Qh)):CT 289 [.ifc 294 (.L 617),.ifc 289 (XN y j)] [(617,.var [.own 615 c.length,.map 618]),(615,.arr 1 (c.map (Xw y))),(618,.map (QG V.I (XN y) a)),(619,.tbl y 3 (k.map Qs))] (BE c a j k) (λ_=>(.tup [])) (λr=>[(615,.arr 1 (r.1.map (Xw y))),(617,.var [.own 615 r.1.length,.map 618]),(618,.map (QG V.I (XN y) a)),(619,.tbl y 3 (r.2.map Qs))]):=by
 refine W 12 func289 rfl λC l r h=>?_
 obtain⟨b,e,h⟩:=Qp h
 obtain⟨m,f,h⟩:=Qp h
 obtain⟨g,i,h⟩:=Qp h
 refine Qg l [4,.cm (.me 396) [(617,617),(615,615),(618,618),(619,619)] [(615,615),(617,617),(618,618),(619,619)] [615] [.d,.d] [(615,.arr 1 (b.1.map (Xw y))),(617,.var [.own 615 b.1.length,.map 618]),(618,.map (QG V.I (XN y) a)),(619,.tbl y 3 (b.2.map Qs))] (.tup []),5,.cm (.mv 392 286) [(617,615),(618,619)] [(615,617),(619,618)] [] [.d] [(617,.arr 1 (b.1.map (Xw y))),(618,.tbl y 3 (b.2.map Qs))] (.I m),1,.cm (.fn) [(617,617),(615,615),(618,618),(619,619)] [(615,615),(617,617),(618,618),(619,619)] [615] [.d,.d] [(615,.arr 1 (g.1.map (Xw y))),(617,.var [.own 615 g.1.length,.map 618]),(618,.map (QG V.I (XN y) a)),(619,.tbl y 3 (g.2.map Qs))] (.tup []),1,.K [] [615,617,618,619]] Z (a5_ Qis (SK y _ _ _ _ _ e) QeE (Lc y _ _ _ f) (Vx y _ _ _ _ _ i)) ?_
 cases h
 refine AK.done ?_
 exact ex_ [] (an_ U (gives r4_))
def ED (d:(L_ (O_ Nat)))(c:(L_ (Int×(O_ Nat))))(a:Int)(h:Int)(b:(L_ Qh)):O_ (Int×(L_ (O_ Nat))×(L_ Qh)×(L_ (Int×(O_ Nat)))):=bif ((Xb c a).getD none).isSome then some (5,d,b,c)else (En d c b).bind λf=>bif (f==4096)then some (2,d,b,c)else (chk (d.all (RK b.length))).bind λ_=>(chk (c.all (λq=>RK b.length q.2))).bind λ_=>(BE d (Jd Ge c a (some b.length)) (some b.length) (b++[(Qh.mk a h 0)])).bind λe=>some (0,e.1,e.2,(Jd Ge c a (some b.length)))
def SL (gA:Nat->Nat)(t:(L_ (O_ Nat)))(i:(L_ (Int×(O_ Nat))))(a:Int)(at_4:Int)(p:(L_ Qh)){r:(Int×(L_ (O_ Nat))×(L_ Qh)×(L_ (Int×(O_ Nat))))}(h:ED t i a at_4 p=some r):QX prog 221 [.L 617,.I a,.I at_4] [(617,.var [.own 615 t.length,.map 618]),(615,.arr 1 (t.map (Xw gA))),(618,.map (QG V.I (XN gA) i)),(616,.tbl gA 3 (p.map Qs))] (λv hs=>∃gA:Nat->Nat,True/\Gives (.I r.1) [(615,.arr 1 (r.2.1.map (Xw gA))),(616,.tbl gA 3 (r.2.2.1.map Qs)),(617,.var [.own 615 r.2.1.length,.map 618]),(618,.map (QG V.I (XN gA) r.2.2.2))] v hs):=by
 refine wk_ 37 func221 λC j=>?_
 refine Qg j [14,.o (.any (XN gA ((Xb i a).getD none)) none),.o (.any (.b ((Xb i a).getD none).isSome) none),3] Z (a2_ (λσ u S _=>Qf.lookup (e:=V.I) (f:=(XN gA)) (l:=i) (k:=a) (z:=none) Z Z (QI j.n Z) (u _ _ Z) (S _ _ Z) (u _ _ Z) QhO Ey Qmq Z) (λσ u S _=>Qf.neqNilP Z Z (QI j.n Z) (u _ _ Z) (u _ _ Z) Qmp)) ?_
 rcases Xn h with⟨c,h⟩|⟨c,h⟩
 ·refine Qg j [.T,8,.K [6] [615,616,617,618]] Z (A c) ?_
  cases h
  exact AK.done (ex_ [_] (an_ (an_ Z U) (ex_ _ (an_ U (gives r4_)))))
 obtain⟨P,w,h⟩:=Qp h
 refine Qg j [.F,3,.cm (.fn) [(617,617),(615,615),(618,618),(619,616)] [(615,615),(617,617),(618,618),(616,619)] [615] [.d] [(615,.arr 1 (t.map (Xw gA))),(617,.var [.own 615 t.length,.map 618]),(618,.map (QG V.I (XN gA) i)),(619,.tbl gA 3 (p.map Qs))] (.I P),4] Z (a2_ c (MY gA _ _ _ _ w)) ?_
 rcases Xn h with⟨g,h⟩|⟨g,h⟩
 ·refine Qg j [.T,8,.K [6] [615,616,617,618]] Z (A g) ?_
  cases h
  exact AK.done (ex_ [_] (an_ (an_ Z U) (ex_ _ (an_ U (gives r4_)))))
 obtain⟨y,h⟩:=Pj h
 obtain⟨D,h⟩:=Pj h
 refine Qg j [.F,7,.A (Qs (Qh.mk a at_4 0))] Z (a2_ g Z) ?_
 refine AK.boxP (b:=616) (n:=p.length) (rsN:=(p++[(Qh.mk a at_4 0)]).map Qs) rfl rfl rfl (QI j.n rfl) rfl rfl rfl rfl rfl rfl Qd (JS (m:=[(Qh.mk a at_4 0)])) λgA q=>?_
 obtain⟨s,N,h⟩:=Qp h
 refine Qg j [.O 615 (.arr 1 (t.map (Xw gA))),.O 618 (.map (QG V.I (XN gA) i)),11,.x (λσ=>σ.set 618 (.map (QG V.I (XN gA) (Jd Ge i a (some p.length))))),10,.cm (.fn) [(617,617),(615,615),(618,618),(619,616)] [(615,615),(617,617),(618,618),(616,619)] [615] [.d,.d] [(615,.arr 1 (s.1.map (Xw gA))),(617,.var [.own 615 s.1.length,.map 618]),(618,.map (QG V.I (XN gA) (Jd Ge i a (some p.length)))),(619,.tbl gA 3 (s.2.map Qs))] (.tup []),8,.K [6] [615,616,617,618]] Z (a4_ (congrArg (Ob.arr 1) (QlO q y)) (congrArg Ob.map (QlP q D)) (Qf.mapUpdate (e:=V.I) (f:=(XN gA)) (l:=i) (k:=a) (v:=(some p.length)) Ge Z Z Z Z Z Z QhO Ey Z) (Sa gA _ _ _ _ _ N)) ?_
 cases h
 exact AK.done (ex_ [_] (an_ (an_ Z U) (ex_ _ (an_ U (gives r4_)))))
def Jl (a:(L_ (O_ Nat)))(j:(L_ (Int×(O_ Nat))))(b:(L_ Qh)):O_ (Int×Int×Bool):=(En a j b).bind λc=>bif (c==0)then some (0,0,false)else (idx a 0).bind λd=>(d).bind λe=>(b[e]?).bind λf=>(idx a 0).bind λg=>(g).bind λh=>(b[h]?).bind λi=>some (f.id,i.at_,true)
def Mg (gA:Nat->Nat)(j:(L_ (O_ Nat)))(w:(L_ (Int×(O_ Nat))))(x:(L_ Qh)):CT 290 [.L 617] [(617,.var [.own 615 j.length,.map 618]),(615,.arr 1 (j.map (Xw gA))),(618,.map (QG V.I (XN gA) w)),(619,.tbl gA 3 (x.map Qs))] (Jl j w x) (λr=>(.tup [.I r.1,.I r.2.1,.b r.2.2])) (λ_=>[(615,.arr 1 (j.map (Xw gA))),(617,.var [.own 615 j.length,.map 618]),(618,.map (QG V.I (XN gA) w)),(619,.tbl gA 3 (x.map Qs))]):=
 W 26 func290 Z λC c r h=>B h λy l h=>J c [11,.cm (.fn) [(617,617),(615,615),(618,618),(619,619)] [(615,615),(617,617),(618,618),(619,619)] [615] [.d] [(615,.arr 1 (j.map (Xw gA))),(617,.var [.own 615 j.length,.map 618]),(618,.map (QG V.I (XN gA) w)),(619,.tbl gA 3 (x.map Qs))] (.I y),3] Z (MY gA _ _ _ _ l)<|I h (λe h=>J c [.T,9,.K [2,3,4] [615,617,618,619]] Z e<|e3_ h Z Z r4_) λe h=>B h λz g h=>B h λo p h=>B h λD q h=>B h λO i h=>B h λt u h=>B h λP v h=>G c [.F,3] Z (A e) <| 
  dr_ c [.N,.N,.N,.N,.N,.B (.row ((Xw gA) z)),.B (.any (JU gA 0 o) none),.B (.any (JU gA 0 o) none),.B (.any (.I D.id) none),.a .no none true,.a .no none true,.a .no none true,.a .no none true,.a .no none true,.a (.row ((Xw gA) O)) none true,.a (.any (JU gA 0 t) none) none true,.a (.any (JU gA 1 t) none) none true,.a (.any (.I P.at_) none) none true,.m .s,.m .s,.m .s] [0,4] [615,617,618,619] [2,3,4] [615,617,618,619] Z Z ⟨⟨⟨⟨⟨⟨⟨⟨⟨⟨U,(Yx g Z)⟩,(Xz (YV g).2)⟩,(λσ f k _=>Qf.nilCheckP Z Z (QI c.n Z) (f _ _ Z) p)⟩,(λσ f k _=>Qf.fieldP Z Z (QI c.n Z) (f _ _ Z) (Qe.fo Z Z) Z)⟩,(λσ f k _=>Qf.loadP (b:=619) Z Z (QI c.n Z) (f _ _ Z) (k _ _ Z) (Qe.ag Z) (Xz q) Z)⟩,(Yx i Z)⟩,(Xz (YV i).2)⟩,(λσ f k _=>Qf.nilCheckP Z Z (QI c.n Z) (f _ _ Z) u)⟩,(λσ f k _=>Qf.fieldP Z Z (QI c.n Z) (f _ _ Z) (Qe.fo Z Z) Z)⟩,(λσ f k _=>Qf.loadP (b:=619) Z Z (QI c.n Z) (f _ _ Z) (k _ _ Z) (Qe.ag Z) (Xz v) Z)⟩ Z <|
  H c [2,.K [2,3,4] [615,617,618,619]] Z<|e3_ h Z Z r4_
def YD (a:(L_ (O_ Nat)))(b:Int)(c:(L_ Qh))(d:Int):O_ ((Int×(L_ Qh)×(L_ (O_ Nat)))⊕(Int×(L_ Qh)×(L_ (O_ Nat)))):=(KY a d b c).bind λf=>bif (!f)then some (.inr (b,c,a))else (JV a b d c).bind λe=>(chk (e.1.length=a.length)).bind λ_=>some (.inl (d,e.2,e.1))
def Hl (a:Int)(e:Int)(b:(L_ (O_ Nat)))(c:(L_ Qh)):O_ Bool:=bif ((Qq ((Qq ((Qq (2*a))+1))+1))<e)then (KY b (Qq ((Qq ((Qq (2*a))+1))+1)) (Qq ((Qq (2*a))+1)) c).bind λd=>some d else some false
def Us (b:(L_ (O_ Nat)))(a:Int)(c:(L_ Qh))(d:Bool):O_ ((Int×(L_ Qh)×(L_ (O_ Nat)))⊕(Int×(L_ Qh)×(L_ (O_ Nat)))):=bif d then YD b a c (Qq ((Qq ((Qq (2*a))+1))+1))else YD b a c (Qq ((Qq (2*a))+1))
def JH (e:Int)(a:Int)(b:(L_ Qh))(c:(L_ (O_ Nat))):O_ ((Int×(L_ Qh)×(L_ (O_ Nat)))⊕(Int×(L_ Qh)×(L_ (O_ Nat)))):=
 bif ((e<=(Qq ((Qq (2*a))+1)))||((Qq ((Qq (2*a))+1))<0))then
 some (.inr (a,b,c))
 else
 (Hl a e c b).bind (λd=>Us c a b d)
def Hm (d:Int)(a:Int)(b:(L_ Qh))(c:(L_ (O_ Nat))):O_ (Bool×(L_ (O_ Nat))×(L_ Qh)):=some ((decide (d<a)),c,b)
def BF (b:(L_ (O_ Nat)))(e:(L_ (Int×(O_ Nat))))(a:Int)(c:Int)(d:(L_ Qh)):O_ (Bool×(L_ (O_ Nat))×(L_ Qh)):=(QQ (λst=>JH c st.1 st.2.1 st.2.2) (a,d,b)).bind (λq=>Hm a q.1 q.2.1 q.2.2)
def Sb (gA:Nat->Nat)(D:(L_ (O_ Nat)))(s:(L_ (Int×(O_ Nat))))(t:Int)(m:Int)(t5:(L_ Qh)):CT 323 [.ifc 294 (.L 617),.I t,.I m] [(617,.var [.own 615 D.length,.map 618]),(615,.arr 1 (D.map (Xw gA))),(618,.map (QG V.I (XN gA) s)),(619,.tbl gA 3 (t5.map Qs))] (BF D s t m t5) (λr=>(.b r.1)) (λr=>[(615,.arr 1 (r.2.1.map (Xw gA))),(617,.var [.own 615 r.2.1.length,.map 618]),(618,.map (QG V.I (XN gA) s)),(619,.tbl gA 3 (r.2.2.map Qs))]):=
 W 48 func323 Z λC c r h=>H c [13] Z<|lp_ h (λst=>⟨[(0,.ifc 294 (.L 617)),(1,.I t),(2,.I m),(7,.I st.1)],[(615,.arr 1 (st.2.2.map (Xw gA))),(617,.var [.own 615 st.2.2.length,.map 618]),(618,.map (QG V.I (XN gA) s)),(619,.tbl gA 3 (st.2.1.map Qs))]⟩) (λq=>(.exit 0,⟨[(1,.I t),(7,.I q.1)],[(615,.arr 1 (q.2.2.map (Xw gA))),(617,.var [.own 615 q.2.2.length,.map 618]),(618,.map (QG V.I (XN gA) s)),(619,.tbl gA 3 (q.2.1.map Qs))]⟩)) Z (λ⟨a,g,e⟩ o h=>H c [11] Z<|Y ⟨[(0,.ifc 294 (.L 617)),(1,.I t),(2,.I m),(7,.I a),(8,.I (Qq ((Qq (2*a))+1))),(21,.b ((m<=(Qq ((Qq (2*a))+1)))||((Qq ((Qq (2*a))+1))<0)))],[(615,.arr 1 (e.map (Xw gA))),(617,.var [.own 615 e.length,.map 618]),(618,.map (QG V.I (XN gA) s)),(619,.tbl gA 3 (g.map Qs))]⟩ (H c [5] Z<|bO_ (decide (m<=(Qq ((Qq (2*a))+1)))) (λf=>G c [.S 18 (.b true),4,.S 21 (.b ((m<=(Qq ((Qq (2*a))+1)))||((Qq ((Qq (2*a))+1))<0)))] Z ⟨(tc_ f),(cb_ (Gc f Z))⟩<|M Z) λf=>G c [.S 18 (.b false),4,.S 21 (.b ((m<=(Qq ((Qq (2*a))+1)))||((Qq ((Qq (2*a))+1))<0)))] Z ⟨(tc_ f),(cb_ (JM f Z))⟩<|M Z)<|H c [1] Z<|I h (λi h=>J c [.T,3] Z i<|rX_ h Z) λi h=>J c [.F,8] Z i<|mE_ (λp:Int=>⟨[(0,.ifc 294 (.L 617)),(1,.I t),(2,.I m),(7,.I a),(9,.I p)],[(615,.arr 1 (e.map (Xw gA))),(617,.var [.own 615 e.length,.map 618]),(618,.map (QG V.I (XN gA) s)),(619,.tbl gA 3 (g.map Qs))]⟩) (λp=>YD e a g p=some o) (H c [8] Z<|mV_ h (λu=>⟨[(0,.ifc 294 (.L 617)),(1,.I t),(2,.I m),(7,.I a),(9,.I (Qq ((Qq (2*a))+1))),(10,.I (Qq ((Qq ((Qq (2*a))+1))+1))),(33,.b u)],[(615,.arr 1 (e.map (Xw gA))),(617,.var [.own 615 e.length,.map 618]),(618,.map (QG V.I (XN gA) s)),(619,.tbl gA 3 (g.map Qs))]⟩) (λu h=>H c [5] Z<|I h (λj h=>B h λN w h=>G c [.S 28 (.b true),3,.cm (.mv 393 286) [(617,615),(618,619)] [(615,617),(619,618)] [] [.d,.d,.d] [(617,.arr 1 (e.map (Xw gA))),(618,.tbl gA 3 (g.map Qs))] (.b N),2] Z ⟨⟨(tc_ j),Vi⟩,(UO gA _ _ _ _ _ w)⟩<|mq_ h Z) λj h=>L c [.S 28 (.b false),6] Z j<|mq_ h Z) λu h=>H c [1] Z<|I h (λk h=>J c [.T,4] Z k<|me_ h Z) λk h=>J c [.F,1] Z k<|me_ h Z) λp h=>B h λP x h=>K c [6,.cm (.mv 393 286) [(617,615),(618,619)] [(615,617),(619,618)] [] [.d,.d,.d] [(617,.arr 1 (e.map (Xw gA))),(618,.tbl gA 3 (g.map Qs))] (.b P),3] Z Vi (UO gA _ _ _ _ _ x)<|I h (λl h=>J c [.T,3] Z l<|rX_ h Z) λl h=>B h λv y h=>X h λz h=>g4_ c [.F,7,.cm (.mv 394 286) [(617,615),(618,619)] [(615,617),(619,618)] [] [.d,.d,.d] [(617,.arr 1 (v.1.map (Xw gA))),(618,.tbl gA 3 (v.2.map Qs))] (.tup []),.O 617 (.var [.own 615 v.1.length,.map 618]),7] Z l Vj (UP gA _ _ _ _ _ y) (by simp[XC z])<|rN_ h Z) λ⟨a0,a1,a2⟩ h=>H c [11] Z<|E h Z r4_
def Ff (a:(L_ (O_ Nat)))(c:(L_ (Int×(O_ Nat))))(d:(L_ Qh)):O_ ((O_ Nat)×(L_ (O_ Nat))):=(idx a (Qq ((a.length:Int)-1))).bind λb=>(chk (decide (0<=(Qq ((a.length:Int)-1)))&&decide ((Qq ((a.length:Int)-1)).toNat<=a.length))).bind λ_=>some (b,(a.take (Qq ((a.length:Int)-1)).toNat))
def Vy (y:Nat->Nat)(b:(L_ (O_ Nat)))(f:(L_ (Int×(O_ Nat))))(g:(L_ Qh)):CT 395 [.L 617] [(617,.var [.own 615 b.length,.map 618]),(615,.arr 1 (b.map (Xw y))),(618,.map (QG V.I (XN y) f)),(619,.tbl y 3 (g.map Qs))] (Ff b f g) (λr=>(.ifc 289 (XN y r.1))) (λr=>[(615,.arr 1 (r.2.map (Xw y))),(617,.var [.own 615 r.2.length,.map 618]),(618,.map (QG V.I (XN y) f)),(619,.tbl y 3 (g.map Qs))]):=by
 refine W 27 func395 rfl λC d r h=>?_
 obtain⟨k,e,h⟩:=Qp h
 refine tg_ d [6,.K [0] [615,617,618,619]] ?_
 refine AK.draw2 Qe d mixed [.N,.N,.N,.N,.N,.N,.N,.N,.N,.B (.row ((Xw y) k)),.N] [] [] [0,3] [615,617,618,619] rfl rfl rfl ⟨⟨U,(Yx e rfl)⟩,(Xz (YV e).2)⟩ rfl (by kernel_rfl) rfl rfl rfl ?_
 obtain⟨c,h⟩:=Pj h
 refine tg_ d [2,.K [0,3] [615,617,618,619]] ?_
 have i:(Qq ((b.length:Int)-1)).toNat=(b.take (Qq ((b.length:Int)-1)).toNat).length:=by rw[KS,ZC (XC (IQ c))]
 exact 
   dr_ d [.a .no none true,.N,.N,.N,.N,.N,.N,.N,.N,.m (.any ⟨[],[(615,.arr 1 ((b.take (Qq ((b.length:Int)-1)).toNat).map (Xw y)))],some (23,.own 615 (Qq ((b.length:Int)-1)).toNat)⟩),.N,.m .s] [0,3] [617,618,619] [3] [615,617,618,619] Z Z (A (λσ j l=>Qf.sliceO Z Z (QI d.n Z) (j _ _ Z) (l _ _ Z) (Qe.es Z) Cv.no (Cv.val (j _ _ Z) (XC (VR c)) Z) (XC (IQ c)) (by simp))) Z <|
   K d [.O 617 (.var [.own 615 (Qq ((b.length:Int)-1)).toNat,.map 618]),9,.O 617 (.var [.own 615 (b.take (Qq ((b.length:Int)-1)).toNat).length,.map 618])] Z Z (congrArg (λn=>Ob.var [.own 615 n,.map 618]) (by rw[<-i]))<|E h Z r4_
def EE (c:(L_ (O_ Nat)))(e:(L_ (Int×(O_ Nat))))(f:(L_ Qh)):O_ ((O_ Nat)×(L_ (O_ Nat))×(L_ Qh)):=(Wp c f).bind λg=>(JV c 0 (Qq (g-1)) f).bind λd=>(chk (d.1.length=c.length)).bind λ_=>(BF d.1 e 0 (Qq (g-1)) d.2).bind λa=>(Ff a.2.1 e a.2.2).bind λb=>some (b.1,b.2,a.2.2)
def SM (y:Nat->Nat)(i:(L_ (O_ Nat)))(e:(L_ (Int×(O_ Nat))))(j:(L_ Qh)):CT 291 [.ifc 294 (.L 617)] [(617,.var [.own 615 i.length,.map 618]),(615,.arr 1 (i.map (Xw y))),(618,.map (QG V.I (XN y) e)),(619,.tbl y 3 (j.map Qs))] (EE i e j) (λr=>(.ifc 289 (XN y r.1))) (λr=>[(615,.arr 1 (r.2.1.map (Xw y))),(617,.var [.own 615 r.2.1.length,.map 618]),(618,.map (QG V.I (XN y) e)),(619,.tbl y 3 (r.2.2.map Qs))]):=
 W 15 func291 Z λC p r h=>B h λq k h=>B h λl m h=>X h λo h=>B h λa f h=>B h λc g h=>G p [8,.cm (.mv 392 286) [(617,615),(618,619)] [(615,617),(619,618)] [] [.d] [(617,.arr 1 (i.map (Xw y))),(618,.tbl y 3 (j.map Qs))] (.I q),8,.cm (.mv 394 286) [(617,615),(618,619)] [(615,617),(619,618)] [] [.d,.d,.d] [(617,.arr 1 (l.1.map (Xw y))),(618,.tbl y 3 (l.2.map Qs))] (.tup []),.O 617 (.var [.own 615 l.1.length,.map 618]),6,.cm (.fn) [(617,617),(615,615),(618,618),(619,619)] [(615,615),(617,617),(618,618),(619,619)] [615] [.d,.d,.d] [(615,.arr 1 (a.2.1.map (Xw y))),(617,.var [.own 615 a.2.1.length,.map 618]),(618,.map (QG V.I (XN y) e)),(619,.tbl y 3 (a.2.2.map Qs))] (.b a.1),5,.cm (.me 395) [(617,617),(615,615),(618,618),(619,619)] [(615,615),(617,617),(618,618),(619,619)] [615] [.d] [(615,.arr 1 (c.2.map (Xw y))),(617,.var [.own 615 c.2.length,.map 618]),(618,.map (QG V.I (XN y) e)),(619,.tbl y 3 (a.2.2.map Qs))] (.ifc 289 (XN y c.1)),4] Z (a8_ QeE (Lc y _ _ _ k) Vj (UP y _ _ _ _ _ m) (by simp[XC o]) (Sb y _ _ _ _ _ _ f) Qjl (Vy y _ _ _ _ g))<|E h Z r4_

end Go.Proofs
