/- Walks through the program. -/
import Derived.Test.YtholdcjomliiiaaGreatDoorW2V3
import Derived.Test.YtholdcjomliiiaaGreatDoorW2V3
import Derived.Test.YtholdcjomliiiaaGreatDoorW2V3
import Derived.Test.YtholdcjomliiiaaGreatDoorProg
set_option linter.all false
set_option maxRecDepth 100000
set_option maxHeartbeats 4000000
noncomputable section
namespace Go.Proofs
open Go Go.RowKit Go.Vm Go.Proofs.Tryz
structure QK where
 Name:ByteArray
 Kind:Int
 Lo:Int
 Hi:Int
 Names:(List ByteArray)
 First:Int
 Then:Int
structure Xn where
 Name:ByteArray
 Colour:Int
 First:(List (Int×Int))
structure JH where
 Name:ByteArray
 Colour:Int
structure Qs where
 Kind:Int
 Num:Int
 Kids:(List Qs)
structure Jy where
 Place:Int
 Expr:Qs
structure QL where
 Name:ByteArray
 Vars:(List JH)
 Guard:Qs
 Join:Int
 Split:Int
 Ins:(List Jy)
 Outs:(List Jy)
 Cancel:(List Int)
 After:Int
 Many:(Int×Int×Int)
structure Qc where
 Colours:(List QK)
 Places:(List Xn)
 Tasks:(List QL)
 From:Int
 To:Int
structure Qd where
 Task:Int
 Vars:(List Int)
 Ins:(List Int)
 Outs:(List Int)
structure Xt where
 Do:Int
 Id:Int
 Mode:Qd
 Num:Int
structure Xj where
 Most:Int
 Enough:Int
 Open:Int
 Done:Int
 Failed:Int
structure Qm where
 Id:Int
 Mode:Qd
 Batch:Xj
 Until:Int
structure QF where
 M:(List (List (Int×Int)))
 Items:(List Qm)
 Next:Int
 Now:Int
structure Qz where
 Err:Int
 Id:Int
 Closed:(List Int)
structure QR where
 net:Qc
 now:QF
 call:Xt
structure JD where
 all:(List QK)
 sizes:(List Int)
 k:Int
structure Xr where
 net:Qc
 m:(List (List (Int×Int)))
 task:QL
 env:(List Int)
structure Qk where
 id:Int
 at_:Int
 place:Int
structure Vv where
 Kind:Int
 At:Int
structure YU where
 From:Int
 To:Int
 Mode:Qd
structure Sg where
 States:(List (List (List (Int×Int))))
 Edges:(List YU)
 Full:Bool
structure QQ where
 L:(List (Int×Int))
def LC (x:ByteArray):L_ V:=[.s x]
def Qb (x:Int):L_ V:=[.i .i64 x]
def Qwc (l:L_ Int):∀r∈l.map Qb,∀v∈r,v.sca=true:=QyR (λ_=>rfl) l
def Qwd (x:(L_ ByteArray)):L_ V:=[.sl 1 (x.map LC)]
def Xm (x:QK):L_ V:=[.s x.Name,.i .i64 x.Kind,.i .i64 x.Lo,.i .i64 x.Hi,.sl 1 (x.Names.map LC),.i .i64 x.First,.i .i64 x.Then]
def Qi6 (x:(L_ QK)):L_ V:=[.sl 7 (x.map Xm)]
def QB (x:(Int×Int)):L_ V:=[.i .i64 x.1,.i .i64 x.2]
def Qj (x:(L_ (Int×Int))):L_ V:=[.sl 2 (x.map QB)]
def Xd (x:Xn):L_ V:=[.s x.Name,.i .i64 x.Colour,.sl 2 (x.First.map QB)]
def Qlu (x:(L_ Xn)):L_ V:=[.sl 3 (x.map Xd)]
def YM (x:JH):L_ V:=[.s x.Name,.i .i64 x.Colour]
def FW (x:(L_ JH)):L_ V:=[.sl 2 (x.map YM)]
mutual
def Qhu : Qs->L_ V
 |⟨h,O,x2⟩=>[.i .i64 h,.i .i64 O,.sl 3 (WJ x2)]
def WJ : L_ Qs->L_ (L_ V)
 |[]=>[]|e::es=>Qhu e::WJ es
end
def QY (x:Qs):L_ V:=[.i .i64 x.Kind,.i .i64 x.Num,.sl 3 (WJ x.Kids)]
def QrD : ∀x:Qs,Qhu x=QY x
 |⟨h,O,x2⟩=>by rw[Qhu];rfl
def Py : ∀l:L_ Qs,WJ l=l.map QY
 |[]=>by rw[WJ];rfl|e::es=>by rw[WJ,Py es,QrD];rfl
def BB (l:L_ Qs):(WJ l).length=l.length:=by rw[Py,Dx]
def Kj {l:L_ Qs}{j:Int}{x:Qs}(h:idx l j=some x):0<=j/\(WJ l)[j.toNat]? = some (QY x):=by rw[Py];exact XE h
def KP (x:Jy):L_ V:=[.i .i64 x.Place,.i .i64 x.Expr.Kind,.i .i64 x.Expr.Num,.sl 3 (WJ x.Expr.Kids)]
def Qwe (x:(L_ Jy)):L_ V:=[.sl 4 (x.map KP)]
def XH (x:(L_ Int)):L_ V:=[.sl 1 (x.map Qb)]
def QcU (x:(Int×Int×Int)):L_ V:=[.i .i64 x.1,.i .i64 x.2.1,.i .i64 x.2.2]
def QE (x:QL):L_ V:=[.s x.Name,.sl 2 (x.Vars.map YM),.i .i64 x.Guard.Kind,.i .i64 x.Guard.Num,.sl 3 (WJ x.Guard.Kids),.i .i64 x.Join,.i .i64 x.Split,.sl 4 (x.Ins.map KP),.sl 4 (x.Outs.map KP),.sl 1 (x.Cancel.map Qb),.i .i64 x.After,.i .i64 x.Many.1,.i .i64 x.Many.2.1,.i .i64 x.Many.2.2]
def QuY (x:(L_ QL)):L_ V:=[.sl 14 (x.map QE)]
def Qi (x:Qc):L_ V:=[.sl 7 (x.Colours.map Xm),.sl 3 (x.Places.map Xd),.sl 14 (x.Tasks.map QE),.i .i64 x.From,.i .i64 x.To]
def Qy (x:Qd):L_ V:=[.i .i64 x.Task,.sl 1 (x.Vars.map Qb),.sl 1 (x.Ins.map Qb),.sl 1 (x.Outs.map Qb)]
def Jl (x:Xt):L_ V:=[.i .i64 x.Do,.i .i64 x.Id,.i .i64 x.Mode.Task,.sl 1 (x.Mode.Vars.map Qb),.sl 1 (x.Mode.Ins.map Qb),.sl 1 (x.Mode.Outs.map Qb),.i .i64 x.Num]
def Xa (x:(L_ (L_ (Int×Int)))):L_ V:=[.sl 1 (x.map Qj)]
def XV (x:Xj):L_ V:=[.i .i64 x.Most,.i .i64 x.Enough,.i .i64 x.Open,.i .i64 x.Done,.i .i64 x.Failed]
def Qt (x:Qm):L_ V:=[.i .i64 x.Id,.i .i64 x.Mode.Task,.sl 1 (x.Mode.Vars.map Qb),.sl 1 (x.Mode.Ins.map Qb),.sl 1 (x.Mode.Outs.map Qb),.i .i64 x.Batch.Most,.i .i64 x.Batch.Enough,.i .i64 x.Batch.Open,.i .i64 x.Batch.Done,.i .i64 x.Batch.Failed,.i .i64 x.Until]
def Xw (x:QF):L_ V:=[.sl 1 (x.M.map Qj),.sl 11 (x.Items.map Qt),.i .i64 x.Next,.i .i64 x.Now]
def QM (x:Qz):L_ V:=[.i .i64 x.Err,.i .i64 x.Id,.sl 1 (x.Closed.map Qb)]
def QZ (x:QR):L_ V:=[.sl 7 (x.net.Colours.map Xm),.sl 3 (x.net.Places.map Xd),.sl 14 (x.net.Tasks.map QE),.i .i64 x.net.From,.i .i64 x.net.To,.sl 1 (x.now.M.map Qj),.sl 11 (x.now.Items.map Qt),.i .i64 x.now.Next,.i .i64 x.now.Now,.i .i64 x.call.Do,.i .i64 x.call.Id,.i .i64 x.call.Mode.Task,.sl 1 (x.call.Mode.Vars.map Qb),.sl 1 (x.call.Mode.Ins.map Qb),.sl 1 (x.call.Mode.Outs.map Qb),.i .i64 x.call.Num]
def NM (x:JD):L_ V:=[.sl 7 (x.all.map Xm),.sl 1 (x.sizes.map Qb),.i .i64 x.k]
def JQ (x:Xr):L_ V:=[.sl 7 (x.net.Colours.map Xm),.sl 3 (x.net.Places.map Xd),.sl 14 (x.net.Tasks.map QE),.i .i64 x.net.From,.i .i64 x.net.To,.sl 1 (x.m.map Qj),.s x.task.Name,.sl 2 (x.task.Vars.map YM),.i .i64 x.task.Guard.Kind,.i .i64 x.task.Guard.Num,.sl 3 (WJ x.task.Guard.Kids),.i .i64 x.task.Join,.i .i64 x.task.Split,.sl 4 (x.task.Ins.map KP),.sl 4 (x.task.Outs.map KP),.sl 1 (x.task.Cancel.map Qb),.i .i64 x.task.After,.i .i64 x.task.Many.1,.i .i64 x.task.Many.2.1,.i .i64 x.task.Many.2.2,.sl 1 (x.env.map Qb)]
def Gk (x:Int):L_ V:=[.i .u8 x]
def Kw (x:(L_ (L_ Int))):L_ V:=[.sl 1 (x.map XH)]
def QuZ (x:(L_ Qd)):L_ V:=[.sl 4 (x.map Qy)]
def Qu (x:Qk):L_ V:=[.i .i64 x.id,.i .i64 x.at_,.i .i64 x.place]
def Qwf (x:Vv):L_ V:=[.i .i64 x.Kind,.i .i64 x.At]
def Dd (x:YU):L_ V:=[.i .i64 x.From,.i .i64 x.To,.i .i64 x.Mode.Task,.sl 1 (x.Mode.Vars.map Qb),.sl 1 (x.Mode.Ins.map Qb),.sl 1 (x.Mode.Outs.map Qb)]
def Qcy (x:Sg):L_ V:=[.sl 1 (x.States.map Xa),.sl 6 (x.Edges.map Dd),.b x.Full]
def XN (x:QQ):L_ V:=[.sl 2 (x.L.map QB)]
def DQ (fn:Nat):HP:=QzO Tryz.f102 0 fn
def Cn (fn:Nat):HP:=QzO Tryz.f281 0 fn
def QxN : Go.Shelf.Ren:=⟨λ| 20=>251|n=>n,λ| 0=>0|3=>3|4=>4|22=>49|n=>n,λn=>n⟩
def Qwg : Lays2.n20 prog QxN where
 mixed:=by kernel_rfl
 f20:=func251.trans (congrArg some (by kernel_rfl))
 t0:=underlying0
 a0:=isAgg0
 z0:=sizeOf0
 v0:=zeroValue0
 t3:=underlying3
 a3:=isAgg3
 z3:=sizeOf3
 v3:=zeroValue3
 t4:=underlying4
 a4:=isAgg4
 z4:=sizeOf4
 v4:=zeroValue4
 t22:=underlying49
 a22:=isAgg49
 z22:=sizeOf49
 v22:=zeroValue49
 i3:=by kernel_rfl
def QzV (a0 h O a3 a4 b0 b1 b2 b3 b4:Int):EqT prog 109 [.int .i64 a0,.int .i64 h,.int .i64 O,.int .i64 a3,.int .i64 a4] [.int .i64 b0,.int .i64 b1,.int .i64 b2,.int .i64 b3,.int .i64 b4] ((a0==b0)&&((h==b1)&&((O==b2)&&((a3==b3)&&(a4==b4))))):=by
 refine⟨by kernel_rfl,λw=>?_⟩;have u3:=underlying3;have g3:=isAgg3;have z3:=sizeOf3;have hS:prog.underlying 109=some (.struct (prog.fieldsOf 109)):=by kernel_rfl
 have hp:prog.stoodInHeld 109=false:=by kernel_rfl
 show(Op.equalIn (9999+1) 109 (.agg #[.int .i64 a0,.int .i64 h,.int .i64 O,.int .i64 a3,.int .i64 a4]) (.agg #[.int .i64 b0,.int .i64 b1,.int .i64 b2,.int .i64 b3,.int .i64 b4])).run prog w=_;rw[run_equalIn_agg w 9999 109 _ _ hS hp];simp only[Program.fieldsOf,underlying109]
 go_simp
 by_cases h0:a0=b0<;>by_cases h1:h=b1<;>by_cases h2:O=b2<;>by_cases h3:a3=b3<;>by_cases h4:a4=b4<;>simp[h0,h1,h2,h3,h4]
def Qu0 (a0 h O b0 b1 b2:Int):EqT prog 83 [.int .i64 a0,.int .i64 h,.int .i64 O] [.int .i64 b0,.int .i64 b1,.int .i64 b2] ((a0==b0)&&((h==b1)&&(O==b2))):=by
 refine⟨by kernel_rfl,λw=>?_⟩;have u3:=underlying3;have g3:=isAgg3;have z3:=sizeOf3;show(Op.equalIn (9999+1) 83 (.agg #[.int .i64 a0,.int .i64 h,.int .i64 O]) (.agg #[.int .i64 b0,.int .i64 b1,.int .i64 b2])).run prog w=_;rw[Op.equalIn];simp only[Xl,run_underlying underlying83,Xo];simp only[Std.Legacy.Range.forIn_eq_forIn_range',Std.Legacy.Range.size,Nat.sub_zero,Nat.add_sub_cancel,Nat.div_one,List.range'_succ,List.range'_zero,List.forIn_cons,List.forIn_nil]
 go_simp
 by_cases h0:a0=b0<;>by_cases h1:h=b1<;>by_cases h2:O=b2<;>simp[h0,h1,h2]
def QyD (a0 h O b1:Int):EqT prog 97 [.int .i64 a0,.int .i64 h] [.int .i64 O,.int .i64 b1] ((a0==O)&&(h==b1)):=by
 refine⟨by kernel_rfl,λw=>?_⟩;have u3:=underlying3;have g3:=isAgg3;have z3:=sizeOf3;show(Op.equalIn (9999+1) 97 (.agg #[.int .i64 a0,.int .i64 h]) (.agg #[.int .i64 O,.int .i64 b1])).run prog w=_;rw[Op.equalIn];simp only[Xl,run_underlying underlying97,Xo];simp only[Std.Legacy.Range.forIn_eq_forIn_range',Std.Legacy.Range.size,Nat.sub_zero,Nat.add_sub_cancel,Nat.div_one,List.range'_succ,List.range'_zero,List.forIn_cons,List.forIn_nil]
 go_simp
 by_cases h0:a0=O<;>by_cases h1:h=b1<;>simp[h0,h1]
def QyY : Qi4 prog 75 1=some (1,false,1):=by kernel_rfl
def QyZ : Qi4 prog 75 2=some (2,false,1):=by kernel_rfl
def QxO : Go.Shelf.Ren:=⟨λ| 157=>338|199=>355|229=>354|261=>359|311=>365|312=>366|n=>n,λ| 0=>0|3=>3|4=>4|5=>5|9=>9|21=>21|31=>73|40=>350|46=>284|49=>368|51=>323|119=>348|141=>359|152=>355|154=>357|193=>364|194=>365|196=>367|198=>370|201=>373|226=>378|227=>379|n=>n,λ| 0=>0|6=>1|n=>n⟩
def Qwh : Lays.n157 prog QxO where
 mixed:=by kernel_rfl
 f157:=func338.trans (congrArg some (by kernel_rfl))
 f199:=func355.trans (congrArg some (by kernel_rfl))
 f229:=func354.trans (congrArg some (by kernel_rfl))
 f261:=func359.trans (congrArg some (by kernel_rfl))
 f311:=func365.trans (congrArg some (by kernel_rfl))
 f312:=func366.trans (congrArg some (by kernel_rfl))
 t0:=underlying0
 a0:=isAgg0
 z0:=sizeOf0
 v0:=zeroValue0
 t3:=underlying3
 a3:=isAgg3
 z3:=sizeOf3
 v3:=zeroValue3
 t4:=underlying4
 a4:=isAgg4
 z4:=sizeOf4
 v4:=zeroValue4
 t5:=underlying5
 a5:=isAgg5
 z5:=sizeOf5
 v5:=zeroValue5
 t9:=underlying9
 a9:=isAgg9
 z9:=sizeOf9
 v9:=zeroValue9
 t21:=underlying21
 a21:=isAgg21
 z21:=sizeOf21
 v21:=zeroValue21
 t31:=underlying73
 a31:=isAgg73
 z31:=sizeOf73
 v31:=zeroValue73
 t40:=underlying350
 a40:=isAgg350
 z40:=sizeOf350
 v40:=zeroValue350
 t46:=underlying284
 a46:=isAgg284
 z46:=sizeOf284
 v46:=zeroValue284
 t49:=underlying368
 a49:=isAgg368
 z49:=sizeOf368
 v49:=zeroValue368
 t51:=underlying323
 a51:=isAgg323
 z51:=sizeOf323
 v51:=zeroValue323
 t119:=underlying348
 a119:=isAgg348
 z119:=sizeOf348
 t141:=underlying359
 a141:=isAgg359
 z141:=sizeOf359
 v141:=zeroValue359
 t152:=underlying355
 a152:=isAgg355
 z152:=sizeOf355
 v152:=zeroValue355
 t154:=underlying357
 a154:=isAgg357
 z154:=sizeOf357
 v154:=zeroValue357
 t193:=underlying364
 a193:=isAgg364
 z193:=sizeOf364
 v193:=zeroValue364
 t194:=underlying365
 a194:=isAgg365
 z194:=sizeOf365
 v194:=zeroValue365
 t196:=underlying367
 a196:=isAgg367
 z196:=sizeOf367
 v196:=zeroValue367
 t198:=underlying370
 a198:=isAgg370
 z198:=sizeOf370
 v198:=zeroValue370
 t201:=underlying373
 a201:=isAgg373
 z201:=sizeOf373
 v201:=zeroValue373
 t226:=underlying378
 a226:=isAgg378
 z226:=sizeOf378
 v226:=zeroValue378
 t227:=underlying379
 a227:=isAgg379
 z227:=sizeOf379
 v227:=zeroValue379
 g0:=by kernel_rfl
 g6:=by kernel_rfl
def Qi7 : QnW prog 116=true:=by kernel_rfl
def Qu1 : Go.Shelf.Ren:=⟨λ| 22=>218|29=>285|30=>286|n=>n,λ| 24=>38|9=>111|n=>n,λn=>n⟩
def QtP : Qi5 prog Qu1 "slices.Insert[[]baldric/api.Item,baldric/api.Item]" "slices.overlaps[baldric/api.Item]" 111 11 136 (.agg #[.int .i64 0,.int .i64 0,.slice none 0 0,.slice none 0 0,.slice none 0 0,.int .i64 0,.int .i64 0,.int .i64 0,.int .i64 0,.int .i64 0,.int .i64 0]) where
 mixed:=by kernel_rfl
 f22:=func218.trans (congrArg some (by kernel_rfl))
 f29:=func285.trans (congrArg some (by kernel_rfl))
 nm:=by kernel_rfl
 nx:=by kernel_rfl
 fd:=by kernel_rfl
 t0:=underlying0
 t3:=underlying3
 t4:=underlying4
 t24:=underlying38
 zE:=sizeOf111
 iE:=by kernel_rfl
 zc:=by kernel_rfl
 z0:=by decide
 small:=by decide
def QlK : Qi3 prog 3 .i64=true:=by kernel_rfl
def Qi8 : Qi3 prog 325 .u64=true:=by kernel_rfl
def Qu2 : Qi3 prog 5 .u8=true:=by kernel_rfl
def BC : Bz prog 3 (V.i .i64) (Value.int .i64):=Bz.int (by kernel_rfl)
def Qhv : Bz prog 9 V.s Value.string:=Bz.str (by kernel_rfl)
def Qu3 : (CW prog 298 "Pop" = some (389,true)∧QlE prog 298=true)∨(CW prog 298 "Pop" = some (389,false)∧Qc9 prog 298=true):=.inl ⟨by kernel_rfl,by kernel_rfl⟩
def QtQ : (CW prog 298 "Push" = some (390,true)∧QlE prog 298=true)∨(CW prog 298 "Push" = some (390,false)∧Qc9 prog 298=true):=.inl ⟨by kernel_rfl,by kernel_rfl⟩
def mixed : prog.follows .mixedOrders=true:=by kernel_rfl
def Qwi : Rz prog 102=some (9,3):=by kernel_rfl
def QsM : Rz prog 124=some (3,3):=by kernel_rfl
def Aa : Rz prog 135=some (3,3):=by kernel_rfl
def Qwj : Rz prog 253=some (3,4):=by kernel_rfl
def Qdf : Rz prog 264=some (9,4):=by kernel_rfl
def QsN : Rz prog 288=some (3,293):=by kernel_rfl
def QnX : CW prog 298 "Len" = some (386,false)∧QeI prog 298 290=true∧AW prog 290=some false:=⟨by kernel_rfl,by kernel_rfl,by kernel_rfl⟩
def QfM : CW prog 298 "Less" = some (387,false)∧QeI prog 298 290=true∧AW prog 290=some false:=⟨by kernel_rfl,by kernel_rfl,by kernel_rfl⟩
def QfN : CW prog 298 "Swap" = some (388,false)∧QeI prog 298 290=true∧AW prog 290=some false:=⟨by kernel_rfl,by kernel_rfl,by kernel_rfl⟩
def QxP : Go.Shelf.Ren:=⟨λ| 125=>283|128=>323|129=>324|189=>210|215=>347|216=>320|257=>282|294=>314|295=>315|296=>316|297=>317|298=>318|299=>319|300=>321|301=>322|328=>342|329=>343|330=>344|331=>345|332=>346|343=>356|n=>n,λ| 0=>0|3=>3|4=>4|5=>5|9=>9|28=>49|46=>284|51=>323|53=>325|131=>126|182=>315|183=>316|218=>341|222=>345|228=>351|229=>352|n=>n,λn=>n⟩
def Qwk : Lays.n189 prog QxP where
 mixed:=by kernel_rfl
 f125:=func283.trans (congrArg some (by kernel_rfl))
 f128:=func323.trans (congrArg some (by kernel_rfl))
 f129:=func324.trans (congrArg some (by kernel_rfl))
 f189:=func210.trans (congrArg some (by kernel_rfl))
 f215:=func347.trans (congrArg some (by kernel_rfl))
 f216:=func320.trans (congrArg some (by kernel_rfl))
 f257:=func282.trans (congrArg some (by kernel_rfl))
 f294:=func314.trans (congrArg some (by kernel_rfl))
 f295:=func315.trans (congrArg some (by kernel_rfl))
 f296:=func316.trans (congrArg some (by kernel_rfl))
 f297:=func317.trans (congrArg some (by kernel_rfl))
 f298:=func318.trans (congrArg some (by kernel_rfl))
 f299:=func319.trans (congrArg some (by kernel_rfl))
 f300:=func321.trans (congrArg some (by kernel_rfl))
 f301:=func322.trans (congrArg some (by kernel_rfl))
 f328:=func342.trans (congrArg some (by kernel_rfl))
 f329:=func343.trans (congrArg some (by kernel_rfl))
 f330:=func344.trans (congrArg some (by kernel_rfl))
 f331:=func345.trans (congrArg some (by kernel_rfl))
 f332:=func346.trans (congrArg some (by kernel_rfl))
 f343:=func356.trans (congrArg some (by kernel_rfl))
 t0:=underlying0
 a0:=isAgg0
 z0:=sizeOf0
 v0:=zeroValue0
 t3:=underlying3
 a3:=isAgg3
 z3:=sizeOf3
 v3:=zeroValue3
 t4:=underlying4
 a4:=isAgg4
 z4:=sizeOf4
 v4:=zeroValue4
 t5:=underlying5
 a5:=isAgg5
 z5:=sizeOf5
 v5:=zeroValue5
 t9:=underlying9
 a9:=isAgg9
 z9:=sizeOf9
 v9:=zeroValue9
 t28:=underlying49
 a28:=isAgg49
 z28:=sizeOf49
 v28:=zeroValue49
 t46:=underlying284
 a46:=isAgg284
 z46:=sizeOf284
 v46:=zeroValue284
 t51:=underlying323
 a51:=isAgg323
 z51:=sizeOf323
 v51:=zeroValue323
 t53:=underlying325
 a53:=isAgg325
 z53:=sizeOf325
 v53:=zeroValue325
 t131:=underlying126
 a131:=isAgg126
 z131:=sizeOf126
 v131:=zeroValue126
 t182:=underlying315
 a182:=isAgg315
 z182:=sizeOf315
 v182:=zeroValue315
 t183:=underlying316
 a183:=isAgg316
 z183:=sizeOf316
 v183:=zeroValue316
 t218:=underlying341
 a218:=isAgg341
 z218:=sizeOf341
 v218:=zeroValue341
 t222:=underlying345
 a222:=isAgg345
 z222:=sizeOf345
 v222:=zeroValue345
 t228:=underlying351
 a228:=isAgg351
 z228:=sizeOf351
 v228:=zeroValue351
 t229:=underlying352
 a229:=isAgg352
 z229:=sizeOf352
 v229:=zeroValue352
def Qwl : prog.underlying 182=some (.slice 5):=by kernel_rfl
def QzW : prog.underlying 207=some (.slice 49):=by kernel_rfl
def QAL : prog.underlying 37=some (.slice 77):=by kernel_rfl
def QAM : prog.underlying 38=some (.slice 111):=by kernel_rfl
def QAN : prog.underlying 49=some (.slice 3):=by kernel_rfl
def QAO : prog.underlying 77=some (.slice 97):=by kernel_rfl
def QzX : prog.underlying 293=some (.pointer 296):=by kernel_rfl
def QzY : MB prog 293 (.lit (.pointer none)):=MB.one (v:=.pointer none) (by kernel_rfl)
def QfO : MB prog 3 ((V.i .i64) 0):=MB.one (v:=.int .i64 0) (by kernel_rfl)
def Qu4 : MB prog 4 (V.b false):=MB.one (v:=.bool false) (by kernel_rfl)
def QBw : XY prog 3=some [.i .i64 0]:=by kernel_rfl
def QBx : XY prog 5=some [.i .u8 0]:=by kernel_rfl
def QBy : XY prog 9=some [.s (⟨#[]⟩:ByteArray)]:=by kernel_rfl
def QAP : XY prog 26=some [.Y,.Y,.Y,.i .i64 0,.i .i64 0]:=by kernel_rfl
def QAQ : XY prog 34=some [.Y,.Y,.b false]:=by kernel_rfl
def QAR : XY prog 37=some [.Y]:=by kernel_rfl
def QAS : XY prog 40=some [.Y,.Y,.i .i64 0,.i .i64 0]:=by kernel_rfl
def QyE : XY prog 49=some [.Y]:=by kernel_rfl
def QAT : XY prog 51=some [.i .i64 0,.Y,.Y,.Y]:=by kernel_rfl
def QAU : XY prog 53=some [.i .i64 0,.i .i64 0,.i .i64 0,.Y,.Y,.Y,.i .i64 0]:=by kernel_rfl
def QAV : XY prog 54=some [.i .i64 0]:=by kernel_rfl
def QAW : XY prog 56=some [.i .i64 0,.i .i64 0,.Y]:=by kernel_rfl
def QAX : XY prog 60=some [.Y]:=by kernel_rfl
def QAY : XY prog 72=some [.i .i64 0,.i .i64 0,.Y]:=by kernel_rfl
def QAZ : XY prog 75=some [.s (⟨#[]⟩:ByteArray),.i .i64 0,.i .i64 0,.i .i64 0,.Y,.i .i64 0,.i .i64 0]:=by kernel_rfl
def QA0 : XY prog 77=some [.Y]:=by kernel_rfl
def QA1 : XY prog 79=some [.s (⟨#[]⟩:ByteArray),.i .i64 0,.Y]:=by kernel_rfl
def QA2 : XY prog 81=some [.i .i64 0,.i .i64 0,.i .i64 0,.Y]:=by kernel_rfl
def QA3 : XY prog 83=some [.i .i64 0,.i .i64 0,.i .i64 0]:=by kernel_rfl
def QA4 : XY prog 86=some [.s (⟨#[]⟩:ByteArray),.Y,.i .i64 0,.i .i64 0,.Y,.i .i64 0,.i .i64 0,.Y,.Y,.Y,.i .i64 0,.i .i64 0,.i .i64 0,.i .i64 0]:=by kernel_rfl
def QA5 : XY prog 93=some [.s (⟨#[]⟩:ByteArray),.i .i64 0]:=by kernel_rfl
def QA6 : XY prog 97=some [.i .i64 0,.i .i64 0]:=by kernel_rfl
def QzZ : XY prog 104=some [.Y,.Y,.Y,.i .i64 0,.i .i64 0,.i .i64 0,.lit (.map none),.Y,.Y,.b false]:=by kernel_rfl
def Qz0 : XY prog 109=some [.i .i64 0,.i .i64 0,.i .i64 0,.i .i64 0,.i .i64 0]:=by kernel_rfl
def Qz1 : XY prog 111=some [.i .i64 0,.i .i64 0,.Y,.Y,.Y,.i .i64 0,.i .i64 0,.i .i64 0,.i .i64 0,.i .i64 0,.i .i64 0]:=by kernel_rfl
def Qz2 : XY prog 115=some [.Y,.Y,.Y,.i .i64 0,.i .i64 0,.Y,.Y,.i .i64 0,.i .i64 0,.i .i64 0,.i .i64 0,.i .i64 0,.Y,.Y,.Y,.i .i64 0]:=by kernel_rfl
def Qz3 : XY prog 131=some [.i .i64 0,.i .i64 0]:=by kernel_rfl
def Qz4 : XY prog 143=some [.i .i64 0,.i .i64 0,.i .i64 0,.Y,.Y,.Y]:=by kernel_rfl
def Qbq : XY prog 167=some [.lit (.nilFunc),.i .i64 0]:=by kernel_rfl
def Qz5 : XY prog 207=some [.Y]:=by kernel_rfl
def Qz6 : XY prog 213=some [.Y,.Y,.Y,.i .i64 0,.i .i64 0,.Y,.s (⟨#[]⟩:ByteArray),.Y,.i .i64 0,.i .i64 0,.Y,.i .i64 0,.i .i64 0,.Y,.Y,.Y,.i .i64 0,.i .i64 0,.i .i64 0,.i .i64 0,.Y]:=by kernel_rfl
def Qz7 : XY prog 229=some [.lit (.nilFunc)]:=by kernel_rfl
def Qz8 : XY prog 234=some [.lit (.nilFunc)]:=by kernel_rfl
def Qz9 : XY prog 243=some [.Y,.Y,.i .i64 0]:=by kernel_rfl
def QAa : XY prog 260=some [.Y]:=by kernel_rfl
def QAb : XY prog 273=some [.lit (.nilFunc)]:=by kernel_rfl
def QAc : XY prog 292=some [.Y,.lit (.map none)]:=by kernel_rfl
def QAd : XY prog 293=some [.lit (.pointer none)]:=by kernel_rfl
def QAe : XY prog 296=some [.i .i64 0,.i .i64 0,.i .i64 0]:=by kernel_rfl
def Ab : Az:={ ag:=[(3,false),(4,false),(9,false),(22,false),(23,false),(24,false),(26,true),(28,false),(31,false),(32,false),(34,true),(37,false),(38,false),(40,true),(49,false),(51,true),(53,true),(54,false),(56,true),(60,false),(70,false),(72,true),(73,false),(75,true),(76,false),(77,false),(79,true),(81,true),(82,false),(83,true),(84,false),(86,true),(93,true),(97,true),(102,false),(109,true),(111,true),(131,true),(135,false),(167,true),(207,false),(213,true),(216,false),(229,false),(234,false),(237,false),(243,true),(273,false),(288,false),(290,false),(293,false)],sz:=[(3,1),(4,1),(26,5),(31,1),(32,1),(34,3),(37,1),(38,1),(40,4),(49,1),(51,4),(53,7),(54,1),(56,3),(60,1),(72,3),(75,7),(76,1),(77,1),(79,3),(81,4),(83,3),(86,14),(93,2),(97,2),(109,5),(111,11),(131,2),(167,2),(207,1),(213,21),(229,1),(234,1),(243,3),(273,1),(290,1),(293,1)],fo:=[(26,[0,1,2,3,4]),(34,[0,1,2]),(40,[0,1,2,3]),(51,[0,1,2,3]),(53,[0,1,2,6]),(56,[0,1,2]),(72,[0,1,2]),(75,[0,1,2,3,4,5,6]),(79,[0,1,2]),(81,[0,1]),(86,[0,1,2,5,6,7,8,9,10,11]),(93,[0,1]),(104,[0,5,6,7]),(109,[0,1,2,3,4]),(111,[0,1,5,10]),(115,[0,5,9]),(167,[0,1]),(213,[0,5,6,20]),(243,[0,1,2]),(260,[0]),(292,[0,1]),(296,[0,1,2])],sp:=[(26,[(0,1),(1,1),(2,1),(3,1),(4,1)]),(34,[(0,1),(1,1),(2,1)]),(40,[(0,1),(1,1),(2,1),(3,1)]),(51,[(0,1),(1,1),(2,1),(3,1)]),(53,[(0,1),(1,1),(2,4),(6,1)]),(56,[(0,1),(1,1),(2,1)]),(72,[(0,1),(1,1),(2,1)]),(75,[(0,1),(1,1),(2,1),(3,1),(4,1),(5,1),(6,1)]),(79,[(0,1),(1,1),(2,1)]),(81,[(0,1),(1,3)]),(86,[(0,1),(1,1),(2,3),(5,1),(6,1),(7,1),(8,1),(9,1),(10,1),(11,3)]),(104,[(0,5),(5,1),(6,1),(7,3)]),(109,[(0,1),(1,1),(2,1),(3,1),(4,1)]),(111,[(0,1),(1,4),(5,5),(10,1)]),(115,[(0,5),(5,4),(9,7)]),(131,[(0,1),(1,1)]),(143,[(0,1),(1,1),(2,4)]),(167,[(0,1),(1,1)]),(213,[(0,5),(5,1),(6,14),(20,1)]),(243,[(0,1),(1,1),(2,1)]),(260,[(0,1)]),(292,[(0,1),(1,1)]),(296,[(0,1),(1,1),(2,1)])],es:=[(22,(75,7,80)),(23,(79,3,48)),(24,(86,14,200)),(27,(53,7,104)),(31,(37,1,24)),(32,(143,6,96)),(37,(77,1,24)),(38,(111,11,136)),(41,(56,3,40)),(49,(3,1,8)),(60,(51,4,80)),(70,(72,3,40)),(73,(9,1,16)),(76,(97,2,16)),(77,(97,2,16)),(82,(81,4,48)),(84,(93,2,24)),(182,(5,1,1)),(207,(49,1,24)),(223,(167,2,16)),(290,(293,1,8)),(303,(3,1,8))],ar:=[(83,(3,1)),(97,(2,1))],zv:=[(3,[.i .i64 0]),(5,[.i .u8 0]),(9,[.s (⟨#[]⟩:ByteArray)]),(26,[.Y,.Y,.Y,.i .i64 0,.i .i64 0]),(34,[.Y,.Y,.b false]),(37,[.Y]),(40,[.Y,.Y,.i .i64 0,.i .i64 0]),(49,[.Y]),(51,[.i .i64 0,.Y,.Y,.Y]),(53,[.i .i64 0,.i .i64 0,.i .i64 0,.Y,.Y,.Y,.i .i64 0]),(54,[.i .i64 0]),(56,[.i .i64 0,.i .i64 0,.Y]),(60,[.Y]),(72,[.i .i64 0,.i .i64 0,.Y]),(75,[.s (⟨#[]⟩:ByteArray),.i .i64 0,.i .i64 0,.i .i64 0,.Y,.i .i64 0,.i .i64 0]),(77,[.Y]),(79,[.s (⟨#[]⟩:ByteArray),.i .i64 0,.Y]),(81,[.i .i64 0,.i .i64 0,.i .i64 0,.Y]),(83,[.i .i64 0,.i .i64 0,.i .i64 0]),(86,[.s (⟨#[]⟩:ByteArray),.Y,.i .i64 0,.i .i64 0,.Y,.i .i64 0,.i .i64 0,.Y,.Y,.Y,.i .i64 0,.i .i64 0,.i .i64 0,.i .i64 0]),(93,[.s (⟨#[]⟩:ByteArray),.i .i64 0]),(97,[.i .i64 0,.i .i64 0]),(104,[.Y,.Y,.Y,.i .i64 0,.i .i64 0,.i .i64 0,.lit (.map none),.Y,.Y,.b false]),(109,[.i .i64 0,.i .i64 0,.i .i64 0,.i .i64 0,.i .i64 0]),(111,[.i .i64 0,.i .i64 0,.Y,.Y,.Y,.i .i64 0,.i .i64 0,.i .i64 0,.i .i64 0,.i .i64 0,.i .i64 0]),(115,[.Y,.Y,.Y,.i .i64 0,.i .i64 0,.Y,.Y,.i .i64 0,.i .i64 0,.i .i64 0,.i .i64 0,.i .i64 0,.Y,.Y,.Y,.i .i64 0]),(131,[.i .i64 0,.i .i64 0]),(143,[.i .i64 0,.i .i64 0,.i .i64 0,.Y,.Y,.Y]),(167,[.lit (.nilFunc),.i .i64 0]),(207,[.Y]),(213,[.Y,.Y,.Y,.i .i64 0,.i .i64 0,.Y,.s (⟨#[]⟩:ByteArray),.Y,.i .i64 0,.i .i64 0,.Y,.i .i64 0,.i .i64 0,.Y,.Y,.Y,.i .i64 0,.i .i64 0,.i .i64 0,.i .i64 0,.Y]),(229,[.lit (.nilFunc)]),(234,[.lit (.nilFunc)]),(243,[.Y,.Y,.i .i64 0]),(260,[.Y]),(273,[.lit (.nilFunc)]),(292,[.Y,.lit (.map none)]),(293,[.lit (.pointer none)]),(296,[.i .i64 0,.i .i64 0,.i .i64 0])],sb:=[9],bo:=[4],cc:=[293,298],en:=[4,5,6,7,8,9,10,11,12,13,14,15,16,17,18,19,20,21,22,23,24,25,26,27,28,29,30,31,32,33,34,35,36,37,38,39,40,41,42,43,44,45,46,47,48,49,50,51,52,53,54,55,56,57,58,59,60,61,62,63,64,65,66,67,68,69,70,71,72,73,74,75,76,77,78,79,80,81,82,83,84,85,86,87,88,89,90,91,92,93,94,95,96,97,98,99,100,101,102,103,104,105,106,107,108,109,110,111,112,113,114,115,116,117,118,119,120,121,122,123,124,125,126,127,128,129,130,131,132,133,134,135,136,137,138,139,140,141,142,143,144,145,146,147,148,149,150,151,152,153,154,155,156,157,158,159,160,161,162,163,164,165,166,167,168,169,170,171,172,173,174,175,176,177,178,179,180,181,182,183,184,185,186,187,188,189,190,191,192,193,194,195,196,197,198,199,200,201,202,203,204,205,206,207,208,209,210,211,212,213,214,215,216,217,218,219,220,221,222,223,224,225,226,227,228,229,230,231,232,233,234,235,236,237,238,239,240,241,242,243,244,245,246,247,248,249,250,251,252,253,254,255,256,257,258,259,260,261,262,263,264,265,266,267,268,269,270,271,272,273,274,275,276,277,278,279,280,281,284,287,288,289,290,291,292,293,294,295,296,297,298,299,300,301,302,303,304,305,306,307,308,309,310,311,312,313,326,327,328,329,330,331,332,333,334,335,336,337,338,339,340,341,349,350,351,352,353,357,358,360,361,362,363,364,367,368,386,387,388,389,390] }
def QC : Ek prog Ab:=Az.ok (by kernel_rfl) (JA.2 ⟨QBw,JA.2 ⟨QBx,JA.2 ⟨QBy,JA.2 ⟨QAP,JA.2 ⟨QAQ,JA.2 ⟨QAR,JA.2 ⟨QAS,JA.2 ⟨QyE,JA.2 ⟨QAT,JA.2 ⟨QAU,JA.2 ⟨QAV,JA.2 ⟨QAW,JA.2 ⟨QAX,JA.2 ⟨QAY,JA.2 ⟨QAZ,JA.2 ⟨QA0,JA.2 ⟨QA1,JA.2 ⟨QA2,JA.2 ⟨QA3,JA.2 ⟨QA4,JA.2 ⟨QA5,JA.2 ⟨QA6,JA.2 ⟨QzZ,JA.2 ⟨Qz0,JA.2 ⟨Qz1,JA.2 ⟨Qz2,JA.2 ⟨Qz3,JA.2 ⟨Qz4,JA.2 ⟨Qbq,JA.2 ⟨Qz5,JA.2 ⟨Qz6,JA.2 ⟨Qz7,JA.2 ⟨Qz8,JA.2 ⟨Qz9,JA.2 ⟨QAa,JA.2 ⟨QAb,JA.2 ⟨QAc,JA.2 ⟨QAd,JA.2 ⟨QAe,λ_ h=>(by cases h)⟩⟩⟩⟩⟩⟩⟩⟩⟩⟩⟩⟩⟩⟩⟩⟩⟩⟩⟩⟩⟩⟩⟩⟩⟩⟩⟩⟩⟩⟩⟩⟩⟩⟩⟩⟩⟩⟩⟩)
def YF {C:XC}{Q:Exit->St->Prop}{n:Nat}{pt pt1:Pt}{ks ks1:L_ Fr}{σ σ1:St}{φ:Prop}(O:Ki prog C n)(ds:L_ HK)(e:Vm.go prog C Ab n ds pt ks σ True=some ⟨pt1,ks1,σ1,φ⟩)(hφ:φ)(h:AK prog C Q pt1 ks1 σ1):AK prog C Q pt ks σ:=AK.go QC O ds e hφ h
abbrev QBg := L_ (Int×Int)
abbrev QMk := L_ QBg
abbrev LI_ := L_ Int
abbrev QLL := L_ (L_ Int)
abbrev QSB := L_ (ByteArray×Bool)
def U : True:=trivial
def an_ {a b:Prop}(x:a)(y:b):a/\b:=⟨x,y⟩
def ex_ {α:Sort _}{p:α->Prop}(w:α)(h:p w):∃x,p x:=⟨w,h⟩
end Go.Proofs
namespace Go.Vm
open Go Go.RowKit
noncomputable abbrev HK.K (a b:L_ Nat):HK:=.keep a b
noncomputable abbrev HK.S (a:Nat)(b:V):HK:=.say a b
noncomputable abbrev HK.O (a:Nat)(b:Ob):HK:=.sayO a b
noncomputable abbrev HK.T:HK:=.br true
noncomputable abbrev HK.F:HK:=.br false
noncomputable abbrev Dw.N:Dw:=.a .no none false
noncomputable abbrev Dw.B (h:Dy):Dw:=.a h none false
noncomputable abbrev Dw.E (v:V):Dw:=.a .no (some ([],v)) false
noncomputable abbrev V.I (n:Int):V:=.i .i64 n
noncomputable abbrev V.L (n:Nat):V:=.loc n 0 0
noncomputable abbrev HK.A (x:L_ V):HK:=.v .no [] (.agg x)
noncomputable instance dn_ (n:Nat):OfNat HK n:=⟨.n n⟩
noncomputable abbrev Dy.C1 (v:V):Dy:=.c false [.d] v
noncomputable abbrev Dy.C2 (v:V):Dy:=.c false [.d,.d] v
noncomputable abbrev Dy.C3 (v:V):Dy:=.c false [.d,.d,.d] v
noncomputable abbrev Dy.C4 (v:V):Dy:=.c false [.d,.d,.d,.d] v
end Go.Vm
namespace Go.Proofs
open Go Go.RowKit Go.Vm Go.Proofs.Tryz
def bg_ {α:Type}{c:Bool}{x y:O_ α}{r:α}{G:Prop}(h:(bif c then x else y)=some r)(f:c=true->x=some r->G)(g:c=false->y=some r->G):G:=by
 cases c
 ·exact g rfl h
 exact f rfl h
noncomputable abbrev lk_ (n:Nat):Nat×V:=(n,.loc n 0 0)
def a1_ {h:Prop}(O:h):True/\h:=⟨trivial,O⟩
def a2_ {h O:Prop}(h0:h)(h1:O):(True/\h)/\O:=⟨⟨trivial,h0⟩,h1⟩
def a3_ {h O x2:Prop}(h0:h)(h1:O)(h2:x2):((True/\h)/\O)/\x2:=⟨⟨⟨trivial,h0⟩,h1⟩,h2⟩
def a4_ {h O x2 x3:Prop}(h0:h)(h1:O)(h2:x2)(h3:x3):(((True/\h)/\O)/\x2)/\x3:=⟨⟨⟨⟨trivial,h0⟩,h1⟩,h2⟩,h3⟩
def a5_ {h O x2 x3 x4:Prop}(h0:h)(h1:O)(h2:x2)(h3:x3)(h4:x4):((((True/\h)/\O)/\x2)/\x3)/\x4:=⟨⟨⟨⟨⟨trivial,h0⟩,h1⟩,h2⟩,h3⟩,h4⟩
def a6_ {h O x2 x3 x4 x5:Prop}(h0:h)(h1:O)(h2:x2)(h3:x3)(h4:x4)(h5:x5):(((((True/\h)/\O)/\x2)/\x3)/\x4)/\x5:=⟨⟨⟨⟨⟨⟨trivial,h0⟩,h1⟩,h2⟩,h3⟩,h4⟩,h5⟩
def a7_ {h O x2 x3 x4 x5 x6:Prop}(h0:h)(h1:O)(h2:x2)(h3:x3)(h4:x4)(h5:x5)(h6:x6):((((((True/\h)/\O)/\x2)/\x3)/\x4)/\x5)/\x6:=⟨⟨⟨⟨⟨⟨⟨trivial,h0⟩,h1⟩,h2⟩,h3⟩,h4⟩,h5⟩,h6⟩
def a8_ {h O x2 x3 x4 x5 x6 x7:Prop}(h0:h)(h1:O)(h2:x2)(h3:x3)(h4:x4)(h5:x5)(h6:x6)(h7:x7):(((((((True/\h)/\O)/\x2)/\x3)/\x4)/\x5)/\x6)/\x7:=⟨⟨⟨⟨⟨⟨⟨⟨trivial,h0⟩,h1⟩,h2⟩,h3⟩,h4⟩,h5⟩,h6⟩,h7⟩
def a9_ {h O x2 x3 x4 x5 x6 x7 x8:Prop}(h0:h)(h1:O)(h2:x2)(h3:x3)(h4:x4)(h5:x5)(h6:x6)(h7:x7)(h8:x8):((((((((True/\h)/\O)/\x2)/\x3)/\x4)/\x5)/\x6)/\x7)/\x8:=⟨⟨⟨⟨⟨⟨⟨⟨⟨trivial,h0⟩,h1⟩,h2⟩,h3⟩,h4⟩,h5⟩,h6⟩,h7⟩,h8⟩
def aB_ {x0 x1 x2 x3 x4 x5 x6 x7 x8 x9 h:Prop}(h0:x0)(h1:x1)(h2:x2)(h3:x3)(h4:x4)(h5:x5)(h6:x6)(h7:x7)(h8:x8)(h9:x9)(O:h):((((((((((True/\x0)/\x1)/\x2)/\x3)/\x4)/\x5)/\x6)/\x7)/\x8)/\x9)/\h:=⟨⟨⟨⟨⟨⟨⟨⟨⟨⟨⟨trivial,h0⟩,h1⟩,h2⟩,h3⟩,h4⟩,h5⟩,h6⟩,h7⟩,h8⟩,h9⟩,O⟩
def r1_ {α:Type}{a0:α}:a0=a0/\True:=⟨rfl,trivial⟩
def r2_ {α:Type}{a0 h:α}:a0=a0/\h=h/\True:=⟨rfl,rfl,trivial⟩
def r3_ {α:Type}{a0 h O:α}:a0=a0/\h=h/\O=O/\True:=⟨rfl,rfl,rfl,trivial⟩
def r4_ {α:Type}{a0 h O a3:α}:a0=a0/\h=h/\O=O/\a3=a3/\True:=⟨rfl,rfl,rfl,rfl,trivial⟩
def r5_ {α:Type}{a0 h O a3 a4:α}:a0=a0/\h=h/\O=O/\a3=a3/\a4=a4/\True:=⟨rfl,rfl,rfl,rfl,rfl,trivial⟩
def rB_ {α:Type}{a0 O a2 a3 a4 a5 a6 a7 a8 a9 h:α}:a0=a0/\O=O/\a2=a2/\a3=a3/\a4=a4/\a5=a5/\a6=a6/\a7=a7/\a8=a8/\a9=a9/\h=h/\True:=⟨rfl,rfl,rfl,rfl,rfl,rfl,rfl,rfl,rfl,rfl,rfl,trivial⟩
def wk_ {f:FuncId}{fn:Func}{c:Code}{args:L_ V}{hs:H_}{O:V->H_->Prop}(n:Nat)(hf:prog.funcs[f]? = some fn)(h:∀C:XC,Ki prog C n->AK prog C (QfF prog fn.results.toList O) (.c c) [] ⟨Rv 0 args,hs⟩)(hb:fn.body=some c:=by rfl)(hn:fn.ntmps=n:=by rfl)(hle:(Nat.ble args.length n&&Nat.ble n 621)=true:=by rfl):QX prog f args hs O:=QX.walk n hf hb hn hle h
def mt_ {C:XC}{Q:Exit->St->Prop}{ks:L_ Fr}{σ:St}:AK prog C Q (.x .normal) (.cut (λs=>s=σ)::ks) σ:=AK.met rfl
def cb_ {a b:Bool}(h:a=b):V.b a=V.b b:=congrArg V.b h
def tc_ {a b:Bool}(h:a=b):True/\V.b a=V.b b:=⟨trivial,congrArg V.b h⟩
def QxQ : Exit->Bool
 |.normal=>true|.ret=>true|_=>false
def tg_ {C:XC}{Q:Exit->St->Prop}{n:Nat}{pt pt1:Pt}{ks ks1:L_ Fr}{σ σ1:St}(O:Ki prog C n)(ds:L_ HK)(h:AK prog C Q pt1 ks1 σ1)(e:Vm.go prog C Ab n ds pt ks σ True=some ⟨pt1,ks1,σ1,True⟩:=by rfl):AK prog C Q pt ks σ:=AK.go QC O ds e trivial h
def QBz {c:Bool}{β:Type}{f:Unit->O_ β}{r:β}(h:(chk c).bind f=some r):c=true/\f ()=some r:=by
 obtain⟨_,k,h⟩:=QI h;exact⟨QlD k,h⟩
def Z {α:Sort _}{a:α}:a=a:=rfl
def bE_ {α β:Type}{a:O_ α}{k:α->O_ β}{r:β}{G:Prop}(h:a.bind k=some r)(f:∀x,a=some x->k x=some r->G):G:=by
 obtain⟨x,O,h2⟩:=QI h;exact f x O h2
def cB_ {c:Bool}{β:Type}{k:Unit->O_ β}{r:β}{G:Prop}(h:(chk c).bind k=some r)(f:c=true->k ()=some r->G):G:=by
 obtain⟨_,O,h2⟩:=QI h;exact f (QlD O) h2
def bf_ {α:Type}{c:Bool}{x y:O_ α}{r:α}{G:Prop}(h:(bif c then x else y)=some r)(f:c=true->x=some r->G)(g:c=false->y=some r->G):G:=by
 cases c
 ·exact g rfl h
 exact f rfl h
def Rq (σ s:St):O_ St:=match XI σ.fr (s.fr.map Prod.fst)with
 |some a=>match XI σ.hp (s.hp.map Prod.fst)with|some b=>bif St.closed ⟨a,b⟩then some ⟨a,b⟩else none|none=>none
 |none=>none
def Np {P:Program}{C:XC}{Q:Exit->St->Prop}{pt:Pt}{ks:L_ Fr}{σ s:St}(e:Rq σ s=some s)(k:AK P C Q pt ks s):AK P C Q pt ks σ:=by
 unfold Rq at e;split at e
 ·rename_i a ha;split at e
  ·rename_i b hb;replace e:=Yn e;obtain⟨hc,e⟩:=e;cases e;exact AK.weaken (λh w O=>R.to O (QsG (Tf ha)) (QlI (Tf hb)) hc) k
  cases e
 cases e
def rS {τ ρ:Type}(E:τ->St)(X:ρ->Exit×St)(o:τ⊕ρ):Exit->St->Prop:=Qsv (λt s=>s=E t) (λq e s=>e=(X q).1/\s=(X q).2) o
def cS {β:Type}(E:β->St)(v:β)(s:St):Prop:=s=E v
def no_ {α:Type}(_:α):H_:=[]
def CP {α:Type}(f:Nat)(us:L_ V)(O:H_)(o:O_ α)(h:α->V->H_->Prop):Prop:=∀r,o=some r->QX prog f us O (h r)
def CT {α:Type}(f:Nat)(us:L_ V)(h:H_)(o:O_ α)(V:α->V)(O:α->H_):Prop:=CP f us h o λr=>Gives (V r) (O r)
def QxR {α:Type}(O:L_ ResultVar)(h:α->V->H_->Prop)(r:α):Exit->St->Prop:=QfF prog O (h r)
def AF {α:Type}(C:XC)(n:Nat)(o:O_ α)(r:α)(Q:Exit->St->Prop)(pt:Pt)(ks:L_ Fr)(σ:St):Prop:=Ki prog C n->o=some r->AK prog C Q pt ks σ
def pl_ (C:XC)(n k:Nat)(pt:Pt)(ks:L_ Fr)(σ:St):O_ Cfg:=plain prog C Ab n k pt ks σ True
def Ja {C:XC}{n k:Nat}{pt pt1:Pt}{ks ks1:L_ Fr}{σ σ1:St}{φ:Prop}{Q:Exit->St->Prop}(O:Ki prog C n)(e:pl_ C n k pt ks σ=some ⟨pt1,ks1,σ1,φ⟩)(hφ:φ)(h:AK prog C Q pt1 ks1 σ1):AK prog C Q pt ks σ:=by
 refine AK.go QC O [.n k] ?_ hφ h;unfold pl_ at e;simp only[Vm.go,e]
def brA (C:XC)(n k:Nat)(pt:Pt)(ks:L_ Fr)(σ:St):O_ (Bool×L_ Fr×Pt×St×Pt×St×Prop):=match pl_ C n k pt ks σ with
 |some ⟨.c (.cond p x y),ks1,s,φ⟩=>match s.opd p with|some (.b c)=>some (c,ks1,.c x,s,.c y,s,φ)|_=>none
 |some ⟨.o ops (o::l),ks1,s,φ⟩=>match o.guard with
  |some (j,_)=>match ops[j]? with
   |some h=>match h.dst with
    |some d=>match Go.Vm.look s.fr d with|some (.b c)=>some (c,ks1,.o ops (o::l),s.put d (.b true),.o ops (o::l),s.put d (.b false),φ)|_=>none
    |none=>none
   |none=>none
  |none=>none
 |_=>none
def QnY {C:XC}{n k:Nat}{pt p q:Pt}{ks ks1:L_ Fr}{σ s t:St}{c:Bool}{Q:Exit->St->Prop}(hC:Ki prog C n)(e:brA C n k pt ks σ=some (c,ks1,p,s,q,t,True))(f:c=true->AK prog C Q p ks1 s)(g:c=false->AK prog C Q q ks1 t):AK prog C Q pt ks σ:=by
 unfold brA at e;split at e
 ·rename_i p x y ks1 s φ hp;split at e
  ·rename_i c h;cases e;refine Ja hC hp trivial ?_;cases c
   ·exact YX.cond_false h (g rfl)
   exact YX.cond_true h (f rfl)
  cases e
 ·rename_i ops o l ks1 s φ hp;split at e
  ·split at e
   ·split at e
    ·split at e
     ·rename_i d _ c h;cases e;refine Ja hC hp trivial ?_;cases c
      ·exact AK.weaken (λa w O=>R.say ⟨_,h,rfl⟩ O) (g rfl)
      exact AK.weaken (λa w O=>R.say ⟨_,h,rfl⟩ O) (f rfl)
     cases e
    cases e
   cases e
  cases e
 cases e
def enA (C:XC)(n k:Nat)(pt:Pt)(ks:L_ Fr)(σ s:St):O_ (Exit×L_ Fr×St×Prop):=match pl_ C n k pt ks σ with
 |some ⟨.x e,ks1,t,φ⟩=>match Rq t s with|some h=>some (e,ks1,h,φ)|none=>none
 |_=>none
def Qu5 {C:XC}{n k:Nat}{pt:Pt}{ks ks1:L_ Fr}{σ s:St}{x:Exit}{Q:Exit->St->Prop}(O:Ki prog C n)(e:enA C n k pt ks σ s=some (x,ks1,s,True))(h:AK prog C Q (.x x) ks1 s):AK prog C Q pt ks σ:=by
 unfold enA at e;split at e
 ·rename_i hp;split at e
  ·rename_i hs;cases e;exact Ja O hp trivial (Np hs h)
  cases e
 cases e
def enP {C:XC}{n k:Nat}{pt p:Pt}{ks ks1:L_ Fr}{σ σ1 s:St}{Q:Exit->St->Prop}(O:Ki prog C n)(e:(pl_ C n k pt ks σ,Rq σ1 s)=(some ⟨p,ks1,σ1,True⟩,some s))(h:AK prog C Q p ks1 s):AK prog C Q pt ks σ:=Ja O (congrArg Prod.fst e) trivial (Np (congrArg Prod.snd e) h)
def jn (d:S_×H_)(a:S_)(b:H_):St:=⟨d.1++a,d.2++b⟩
def wP_ {α:Type}{f:FuncId}{fn:Func}{c:Code}{args:L_ V}{hs:H_}{o:O_ α}{O:α->V->H_->Prop}(n:Nat)(hf:prog.funcs[f]? = some fn)(hb:(fn.body,fn.ntmps,Nat.ble args.length n&&Nat.ble n 621)=(some c,n,true))(h:∀{C:XC} {r:α},AF C n o r (QxR fn.results.toList O r) (.c c) [] ⟨Rv 0 args,hs⟩):CP f args hs o O:=λ_ e=>QX.walk n hf (congrArg (λx=>x.1) hb) (congrArg (λx=>x.2.1) hb) (congrArg (λx=>x.2.2) hb) λ_ hC=>h hC e
def W {α:Type}{f:FuncId}{fn:Func}{c:Code}{args:L_ V}{hs:H_}{o:O_ α}{V:α->V}{O:α->H_}(n:Nat)(hf:prog.funcs[f]? = some fn)(hb:(fn.body,fn.ntmps,Nat.ble args.length n&&Nat.ble n 621)=(some c,n,true))(h:∀{C:XC} {r:α},AF C n o r (QxR fn.results.toList (λr=>Gives (V r) (O r)) r) (.c c) [] ⟨Rv 0 args,hs⟩):CT f args hs o V O:=wP_ n hf hb h
section
variable {α β:Type}{C:XC}{n:Nat}{Q:Exit->St->Prop}{r:α}{o:O_ α}{pt pt1:Pt}{ks ks1:L_ Fr}{σ σ1:St}{φ:Prop}
def gA_ (ds:L_ HK)(e:Vm.go prog C Ab n ds pt ks σ True=some ⟨pt1,ks1,σ1,φ⟩)(hφ:φ)(h:AF C n o r Q pt1 ks1 σ1):AF C n o r Q pt ks σ:=λO a=>AK.go QC O ds e hφ (h O a)
def K (ds:L_ HK)(e:Vm.go prog C Ab n ds pt ks σ True=some ⟨pt1,ks1,σ1,φ⟩)(hφ:Ki prog C n->φ)(h:AF C n o r Q pt1 ks1 σ1):AF C n o r Q pt ks σ:=λO a=>AK.go QC O ds e (hφ O) (h O a)
def gT_ (ds:L_ HK)(e:Vm.go prog C Ab n ds pt ks σ True=some ⟨pt1,ks1,σ1,True⟩)(h:AF C n o r Q pt1 ks1 σ1):AF C n o r Q pt ks σ:=gA_ ds e trivial h
def G {x:Prop}(ds:L_ HK)(e:Vm.go prog C Ab n ds pt ks σ True=some ⟨pt1,ks1,σ1,True/\x⟩)(a:x)(h:AF C n o r Q pt1 ks1 σ1):AF C n o r Q pt ks σ:=gA_ ds e ⟨trivial,a⟩ h
def g2_ {x y:Prop}(ds:L_ HK)(e:Vm.go prog C Ab n ds pt ks σ True=some ⟨pt1,ks1,σ1,(True/\x)/\y⟩)(a:x)(b:y)(h:AF C n o r Q pt1 ks1 σ1):AF C n o r Q pt ks σ:=gA_ ds e ⟨⟨trivial,a⟩,b⟩ h
def g3_ {x y z:Prop}(ds:L_ HK)(e:Vm.go prog C Ab n ds pt ks σ True=some ⟨pt1,ks1,σ1,((True/\x)/\y)/\z⟩)(a:x)(b:y)(c:z)(h:AF C n o r Q pt1 ks1 σ1):AF C n o r Q pt ks σ:=gA_ ds e ⟨⟨⟨trivial,a⟩,b⟩,c⟩ h
def gP_ (k:Nat)(e:pl_ C n k pt ks σ=some ⟨pt1,ks1,σ1,True⟩)(h:AF C n o r Q pt1 ks1 σ1):AF C n o r Q pt ks σ:=λO a=>Ja O e trivial (h O a)
def B {a:O_ β}{f:β->O_ α}(h:∀v,a=some v->AF C n (f v) r Q pt ks σ):AF C n (a.bind f) r Q pt ks σ:=λhC e=>bE_ e λx O h2=>h x O hC h2
def kA_ {c:Bool}{f:Unit->O_ α}(h:c=true->AF C n (f ()) r Q pt ks σ):AF C n ((chk c).bind f) r Q pt ks σ:=λhC e=>cB_ e λO h2=>h O hC h2
def I {c:Bool}{x y:O_ α}{p q:Pt}{s t:St}(k:Nat)(e:brA C n k pt ks σ=some (c,ks1,p,s,q,t,True))(f:AF C n x r Q p ks1 s)(g:AF C n y r Q q ks1 t):AF C n (bif c then x else y) r Q pt ks σ:=λO a=>bf_ a (λh b=>QnY O e (λ_=>f O b) λu=>Bool.noConfusion (h.symm.trans u)) λh b=>QnY O e (λu=>Bool.noConfusion (h.symm.trans u)) λ_=>g O b
def H {c:Bool}{p q:Pt}{s t:St}(k:Nat)(e:brA C n k pt ks σ=some (c,ks1,p,s,q,t,True))(f:c=true->AF C n o r Q p ks1 s)(g:c=false->AF C n o r Q q ks1 t):AF C n o r Q pt ks σ:=λO a=>QnY O e (λh=>f h O a) λh=>g h O a
def J {row:β->L_ V}{l:L_ β}{j:Int}{f:β->O_ α}{σ1:β->St}(k:Nat)(e:(λd=>Vm.go prog C Ab n [.n k,.o (.row (row d))] pt ks σ True)=λd=>some ⟨pt1,ks1,σ1 d,True/\(0<=j/\(l.map row)[j.toNat]? = some (row d))⟩)(h:∀d,AF C n (f d) r Q pt1 ks1 (σ1 d)):AF C n ((idx l j).bind f) r Q pt ks σ:=λO a=>bE_ a λd h1 h2=>AK.go QC O _ (congrFun e d) ⟨trivial,XE h1⟩ (h d O h2)
def N {row:β->L_ V}{l:L_ β}(k:Nat)(e:Vm.go prog C Ab n [.n k,.o (.ln l.length)] pt ks σ True=some ⟨pt1,ks1,σ1,True/\(l.map row).length=l.length⟩)(h:AF C n o r Q pt1 ks1 σ1):AF C n o r Q pt ks σ:=gA_ _ e ⟨trivial,Qx⟩ h
def xR_ {rw:L_ β->L_ (L_ V)}{row:β->L_ V}{l:L_ β}{j:Int}{f:β->O_ α}{σ1:β->St}(k:Nat)(p:∀{l:L_ β} {j:Int} {d:β},idx l j=some d->0<=j/\(rw l)[j.toNat]? = some (row d))(e:(λd=>Vm.go prog C Ab n [.n k,.o (.row (row d))] pt ks σ True)=λd=>some ⟨pt1,ks1,σ1 d,True/\(0<=j/\(rw l)[j.toNat]? = some (row d))⟩)(h:∀d,idx l j=some d->AF C n (f d) r Q pt1 ks1 (σ1 d)):AF C n ((idx l j).bind f) r Q pt ks σ:=λhC a=>bE_ a λd O h2=>AK.go QC hC _ (congrFun e d) ⟨trivial,p O⟩ (h d O hC h2)
def nR_ {rw:L_ β->L_ (L_ V)}{l:L_ β}(k:Nat)(p:∀l,(rw l).length=l.length)(e:Vm.go prog C Ab n [.n k,.o (.ln l.length)] pt ks σ True=some ⟨pt1,ks1,σ1,True/\(rw l).length=l.length⟩)(h:AF C n o r Q pt1 ks1 σ1):AF C n o r Q pt ks σ:=gA_ _ e ⟨trivial,p _⟩ h
def dM_ : L_ V->L_ Vm.Mode
 |[]=>[]|_::l=>.d::dM_ l
def A {a:O_ β}{f:β->O_ α}{fn:Nat}{us:L_ V}{W:β->V}{σ1:β->St}(k:Nat)(c:CT fn us [] a W no_)(e:(λv=>Vm.go prog C Ab n [.n k,.o (.c false (dM_ us) (W v))] pt ks σ True)=λv=>some ⟨pt1,ks1,σ1 v,True/\QX prog fn us [] (Gives (W v) [])⟩)(h:∀v,AF C n (f v) r Q pt1 ks1 (σ1 v)):AF C n (a.bind f) r Q pt ks σ:=λO b=>bE_ b λd h1 h2=>AK.go QC O _ (congrFun e d) ⟨trivial,c _ h1⟩ (h d O h2)
def oC_ {a:O_ (L_ β)}{f:L_ β->O_ α}{fn:Nat}{us:L_ V}{z:Nat}{row:β->L_ V}{σ1:L_ β->St}(k:Nat)(ms:L_ Vm.Mode)(c:CT fn us [] a (λv=>.own 600 v.length) λv=>[(600,.arr z (v.map row))])(e:(λv=>Vm.go prog C Ab n [.n k,.o (.co false ms z (v.map row) v.length)] pt ks σ True)=λv=>some ⟨pt1,ks1,σ1 v,True/\(QX prog fn us [] (Gives (.own 600 v.length) [(600,.arr z (v.map row))])/\(v.map row).length=v.length/\(false=false\/∀r∈v.map row,∀v∈r,v.sca=true))⟩)(h:∀v,AF C n (f v) r Q pt1 ks1 (σ1 v)):AF C n (a.bind f) r Q pt ks σ:=λO b=>bE_ b λd h1 h2=>AK.go QC O _ (congrFun e d) ⟨trivial,c _ h1,Qx,.inl rfl⟩ (h d O h2)
def zA_ {a:O_ β}{f:β->O_ α}{fn:Nat}{us:L_ V}{hs:H_}{W:β->V}{O:β->H_}{σ1:β->St}(k:Nat)(en:Ent)(M N:L_ (Nat×Nat))(dead:L_ Nat)(c:CT fn us hs a W O)(e:(λv=>Vm.go prog C Ab n [.n k,.cm en M N dead (dM_ us) (O v) (W v)] pt ks σ True)=λv=>some ⟨pt1,ks1,σ1 v,True/\QX prog fn us hs (Gives (W v) (O v))⟩)(h:∀v,AF C n (f v) r Q pt1 ks1 (σ1 v)):AF C n (a.bind f) r Q pt ks σ:=λhC b=>bE_ b λd h1 h2=>AK.go QC hC _ (congrFun e d) ⟨trivial,c _ h1⟩ (h d hC h2)
def sw_ : L_ (Nat×Nat)->L_ (Nat×Nat)
 |[]=>[]|(a,b)::l=>(b,a)::sw_ l
def S {a:O_ β}{f:β->O_ α}{fn:Nat}{us:L_ V}{hs:H_}{W:β->V}{O:β->H_}{σ1:β->St}(k:Nat)(en:Ent)(M:L_ (Nat×Nat))(c:CT fn us hs a W O)(e:(λv=>Vm.go prog C Ab n [.n k,.cm en M (sw_ M) [] (dM_ us) (O v) (W v)] pt ks σ True)=λv=>some ⟨pt1,ks1,σ1 v,True/\QX prog fn us hs (Gives (W v) (O v))⟩)(h:∀v,AF C n (f v) r Q pt1 ks1 (σ1 v)):AF C n (a.bind f) r Q pt ks σ:=zA_ k en M _ _ c e h
def M {v:α}{E:α->St}{O:L_ Fr}(k:Nat)(e:(pl_ C n k pt ks σ,Rq σ1 (E v))=(some ⟨.x .normal,.cut (cS E r)::O,σ1,True⟩,some (E v))):AF C n (some v) r Q pt ks σ:=λhC h=>enP hC e (by cases h;exact mt_)
def tA_ {s0:St}{h:L_ Fr}(k:Nat)(e:(pl_ C n k pt ks σ,Rq σ1 s0)=(some ⟨.x .normal,.cut (λs=>s=s0)::h,σ1,True⟩,some s0)):AF C n o r Q pt ks σ:=λO _=>enP O e (AK.met rfl)
def Y {s0:St}{O:L_ Fr}{b b':Bool}(k x:Nat)(e:(pl_ C n k pt ks σ,Go.Vm.look σ1.fr x,Go.Vm.look s0.fr x,Rq (σ1.put x (.b b)) s0)=(some ⟨.x .normal,.cut (λs=>s=s0)::O,σ1,True⟩,some (.b b'),some (.b b),some s0))(h:b'=b):AF C n o r Q pt ks σ:=λhC _=>by
 simp only[Prod.mk.injEq]at e;obtain⟨e1,e2,-,e4⟩:=e;subst h;exact Ja hC e1 trivial (AK.weaken (λa w hR=>R.say ⟨_,e2,rfl⟩ hR) (Np e4 (AK.met rfl)))
def P {E:β->St}{K:β->O_ α}{v:β}{O:L_ Fr}(k:Nat)(e:pl_ C n k pt ks σ=some ⟨.x .normal,.cut (λs=>∃v,s=E v/\K v=some r)::O,σ1,True⟩){o:O_ α}(a:(K v,Rq σ1 (E v))=(o,some (E v))):AF C n o r Q pt ks σ:=λhC h=>Ja hC e trivial (Np (congrArg Prod.snd a) (AK.met ⟨v,rfl,(congrArg Prod.fst a).trans h⟩))
def uA_ {s0:St}{O:L_ Fr}(k:Nat){o':O_ α}(e:pl_ C n k pt ks σ=some ⟨.x .normal,.cut (λs=>s=s0/\o'=some r)::O,σ1,True⟩)(a:(o',Rq σ1 s0)=(o,some s0)):AF C n o r Q pt ks σ:=λhC h=>Ja hC e trivial (Np (congrArg Prod.snd a) (AK.met ⟨rfl,(congrArg Prod.fst a).trans h⟩))
def fA_ {γ:Type}{E:β->γ->St}{K:β->γ->O_ α}{v:β}{u:γ}{O:L_ Fr}(k:Nat)(e:pl_ C n k pt ks σ=some ⟨.x .normal,.cut (λs=>∃v u,s=E v u/\K v u=some r)::O,σ1,True⟩){o:O_ α}(a:(K v u,Rq σ1 (E v u))=(o,some (E v u))):AF C n o r Q pt ks σ:=λhC h=>Ja hC e trivial (Np (congrArg Prod.snd a) (AK.met ⟨v,u,rfl,(congrArg Prod.fst a).trans h⟩))
def mV_ {a:O_ β}{f:β->O_ α}{c:Code}{fr:S_}{hp:H_}(k:Nat)(ts os:L_ Nat)(E:β->S_×H_)(e:(pl_ C n k pt ks σ,XI σ1.fr ts,XI σ1.hp os)=(some ⟨.c c,ks1,σ1,True⟩,some fr,some hp))(g:∀{x},AF C n a x Q (.c c) (.cut (cS (λx=>jn (E x) fr hp) x)::ks1) σ1)(h:∀x,AF C n (f x) r Q (.x .normal) ks1 (jn (E x) fr hp)):AF C n (a.bind f) r Q pt ks σ:=λO b=>bE_ b λx h1 h2=>Ja O (congrArg Prod.fst e) trivial (AK.meetX _ (g O h1) λs (e:s=jn (E x) fr hp)=>e▸h x O h2)
def T {c:Code}{fr:S_}{hp:H_}(k:Nat)(ts os:L_ Nat)(s0:S_×H_)(e:(pl_ C n k pt ks σ,XI σ1.fr ts,XI σ1.hp os)=(some ⟨.c c,ks1,σ1,True⟩,some fr,some hp))(g:AF C n o r Q (.c c) (.cut (λs=>s=jn s0 fr hp)::ks1) σ1)(h:AF C n o r Q (.x .normal) ks1 (jn s0 fr hp)):AF C n o r Q pt ks σ:=λO b=>Ja O (congrArg Prod.fst e) trivial (AK.meetX _ (g O b) λ_ e=>e▸h O b)
def mE_ {c d:Code}{fr:S_}{hp:H_}(k:Nat)(ts os:L_ Nat)(E:β->S_×H_)(K:β->O_ α)(e:(pl_ C n k pt ks σ,XI σ1.fr ts,XI σ1.hp os)=(some ⟨.c (.seq c d),ks1,σ1,True⟩,some fr,some hp))(g:AF C n o r Q (.c c) (.cut (λs=>∃v,s=jn (E v) fr hp/\K v=some r)::ks1) σ1)(h:∀x,AF C n (K x) r Q (.c d) ks1 (jn (E x) fr hp)):AF C n o r Q pt ks σ:=λO b=>Ja O (congrArg Prod.fst e) trivial (AK.meet _ (g O b) λ_ ⟨v,e,a⟩=>e▸h v O a)
def mU_ {c d:Code}{fr:S_}{hp:H_}(k:Nat)(ts os:L_ Nat)(s0:S_×H_)(o':O_ α)(e:(pl_ C n k pt ks σ,XI σ1.fr ts,XI σ1.hp os)=(some ⟨.c (.seq c d),ks1,σ1,True⟩,some fr,some hp))(g:AF C n o r Q (.c c) (.cut (λs=>s=jn s0 fr hp/\o'=some r)::ks1) σ1)(h:AF C n o' r Q (.c d) ks1 (jn s0 fr hp)):AF C n o r Q pt ks σ:=λO b=>Ja O (congrArg Prod.fst e) trivial (AK.meet _ (g O b) λ_ ⟨e,a⟩=>e▸h O a)
def mF_ {γ:Type}{c d:Code}{fr:S_}{hp:H_}(k:Nat)(ts os:L_ Nat)(E:β->γ->S_×H_)(K:β->γ->O_ α)(e:(pl_ C n k pt ks σ,XI σ1.fr ts,XI σ1.hp os)=(some ⟨.c (.seq c d),ks1,σ1,True⟩,some fr,some hp))(g:AF C n o r Q (.c c) (.cut (λs=>∃v u,s=jn (E v u) fr hp/\K v u=some r)::ks1) σ1)(h:∀x y,AF C n (K x y) r Q (.c d) ks1 (jn (E x y) fr hp)):AF C n o r Q pt ks σ:=λO b=>Ja O (congrArg Prod.fst e) trivial (AK.meet _ (g O b) λ_ ⟨v,u,e,a⟩=>e▸h v u O a)
def lA_ {τ ρ:Type}{body:τ->O_ (τ⊕ρ)}{s0:τ}{f:ρ->O_ α}{c:Code}{fr:S_}{hp:H_}{fs:S_}{O:H_}(k:Nat)(ts os:L_ Nat)(E:τ->S_×H_)(us vs:L_ Nat)(X:ρ->Exit×S_×H_)(e:(pl_ C n k pt ks σ,XI σ1.fr ts,XI σ1.hp os,XI σ1.fr us,XI σ1.hp vs,Rq σ1 (jn (E s0) fr hp))=(some ⟨.c (.loop c),ks1,σ1,True⟩,some fr,some hp,some fs,some O,some (jn (E s0) fr hp)))(g:∀t {o},AF C n (body t) o (rS (λt=>jn (E t) fr hp) (λq=>((X q).1,jn (X q).2 fs O)) o) (.c c) [] (jn (E t) fr hp))(h:∀q,AF C n (f q) r Q (.x (X q).1) ks1 (jn (X q).2 fs O)):AF C n ((Qq body s0).bind f) r Q pt ks σ:=λhC b=>bE_ b λq h1 h2=>Ja hC (congrArg Prod.fst e) trivial (Np (congrArg (λx=>x.2.2.2.2.2) e) (AK.loop (λt s=>s=jn (E t) fr hp) (λq e s=>e=(X q).1/\s=jn (X q).2 fs O) h1 rfl (λt o s O hb=>O▸g t hC hb) λe s O=>by obtain⟨rfl,rfl⟩:=O;exact h q hC h2))
def F {τ ρ ρ':Type}{body:τ->O_ (τ⊕(ρ⊕ρ'))}{s0:τ}{f:ρ->O_ α}{f':ρ'->O_ α}{c:Code}{fr:S_}{hp:H_}{fs fu:S_}{O hu:H_}(k:Nat)(ts os:L_ Nat)(E:τ->S_×H_)(us vs:L_ Nat)(X:ρ->Exit×S_×H_)(xs ys:L_ Nat)(Y:ρ'->Exit×S_×H_)(e:(pl_ C n k pt ks σ,XI σ1.fr ts,XI σ1.hp os,XI σ1.fr us,XI σ1.hp vs,XI σ1.fr xs,XI σ1.hp ys,Rq σ1 (jn (E s0) fr hp))=(some ⟨.c (.loop c),ks1,σ1,True⟩,some fr,some hp,some fs,some O,some fu,some hu,some (jn (E s0) fr hp)))(g:∀t {o},AF C n (body t) o (rS (λt=>jn (E t) fr hp) (Sum.elim (λq=>((X q).1,jn (X q).2 fs O)) λq=>((Y q).1,jn (Y q).2 fu hu)) o) (.c c) [] (jn (E t) fr hp))(h:∀q,AF C n (f q) r Q (.x (X q).1) ks1 (jn (X q).2 fs O))(h':∀q,AF C n (f' q) r Q (.x (Y q).1) ks1 (jn (Y q).2 fu hu)):AF C n ((Qq body s0).bind (Sum.elim f f')) r Q pt ks σ:=λhC b=>bE_ b λq h1 h2=>Ja hC (congrArg Prod.fst e) trivial (Np (congrArg (λx=>x.2.2.2.2.2.2.2) e) (AK.loop (λt s=>s=jn (E t) fr hp) (λq e s=>e=(Sum.elim (λq=>((X q).1,jn (X q).2 fs O)) (λq=>((Y q).1,jn (Y q).2 fu hu)) q).1/\s=(Sum.elim (λq=>((X q).1,jn (X q).2 fs O)) (λq=>((Y q).1,jn (Y q).2 fu hu)) q).2) h1 rfl (λt o s O hb=>O▸g t hC hb) λe s O=>match q,O,h2 with
 |.inl q,O,h2=>by obtain⟨rfl,rfl⟩:=O;exact h q hC h2
 |.inr q,O,h2=>by obtain⟨rfl,rfl⟩:=O;exact h' q hC h2))
end
section
variable {C:XC}{n:Nat}{pt:Pt}{ks:L_ Fr}{σ:St}{τ ρ:Type}{ee:τ->St}{xx:ρ->Exit×St}{o:τ⊕ρ}
def R {t:τ}(k:Nat)(e:enA C n k pt ks σ (ee t)=some (.normal,[],ee t,True)):AF C n (some (.inl t)) o (rS ee xx o) pt ks σ:=λO h=>Qu5 O e (by cases h;exact AK.done ⟨t,rfl,rfl⟩)
def X {q:ρ}{i:Nat}(k:Nat)(e:(enA C n k pt ks σ (xx q).2,(xx q).1)=(some (.exit i,[],(xx q).2,True),.exit i)):AF C n (some (.inr q)) o (rS ee xx o) pt ks σ:=λO h=>Qu5 O (congrArg Prod.fst e) (by cases h;exact AK.done ⟨q,rfl,(congrArg Prod.snd e).symm,rfl⟩)
def L {q:ρ}(k:Nat)(e:(enA C n k pt ks σ (xx q).2,(xx q).1)=(some (.ret,[],(xx q).2,True),.ret)):AF C n (some (.inr q)) o (rS ee xx o) pt ks σ:=λO h=>Qu5 O (congrArg Prod.fst e) (by cases h;exact AK.done ⟨q,rfl,(congrArg Prod.snd e).symm,rfl⟩)
end
def QAf (s:St):ResultVar->O_ V
 |.tmp t=>Go.Vm.look s.fr t|.cell p T=>match Go.Vm.look s.fr p with
  |some (.loc b 0 0)=>match Go.Vm.look s.hp b with
   |some (.var h)=>match Go.Vm.look Ab.ag T with
    |some true=>match Go.Vm.look Ab.sz T with|some k=>bif Nat.beq k h.length then some (.agg h)else none|none=>none
    |some false=>match h with|[v]=>some v|_=>none
    |none=>none
   |_=>none
  |_=>none
def Qu6 (s:St):L_ ResultVar->O_ (L_ V)
 |[]=>some []|x::l=>match QAf s x with
  |some v=>match Qu6 s l with|some vs=>some (v::vs)|none=>none
  |none=>none
def QAg {s:St}:∀{l:L_ ResultVar} {vs:L_ V},Qu6 s l=some vs->Res prog s l vs:=by
 intro l
 induction l with
 |nil=>intro vs h;cases h;trivial
 |cons x l ih=>
  intro vs h;rw[Qu6]at h;split at h
  ·rename_i v O;split at h
   ·rename_i us hu;cases h;cases x with
    |tmp t=>exact⟨O,ih hu⟩|cell p T=>
     refine⟨?_,ih hu⟩;dsimp only[QAf]at O;split at O
     ·rename_i b h1;split at O
      ·rename_i cs h2;split at O
       ·rename_i h3;split at O
        ·rename_i k h4;replace O:=Yn O;cases O.2;exact⟨b,cs,h1,h2,.inl ⟨QC.ag h3,(QC.sz h4).trans (congrArg some (Yp O.1)),rfl⟩⟩
        cases O
       ·rename_i h3;split at O
        ·cases O;exact⟨b,_,h1,h2,.inr ⟨QC.ag h3,rfl⟩⟩
        cases O
       cases O
      cases O
     cases O
   cases h
  cases h
section
variable {α:Type}{a q:α}{C:XC}{n:Nat}{pt:Pt}{ks ks1:L_ Fr}{σ s:St}
def E {p:α->V->H_->Prop}{O:L_ ResultVar}{v:V}{vs:L_ V}{out:H_}{x:Exit}(k:Nat)(e:(pl_ C n k pt ks σ,QxQ x,Qu6 s O,QiS vs,p a,XI s.hp (keys out))=(some ⟨.x x,[],s,True⟩,true,some vs,v,Gives v out,some out)):AF C n (some a) q (QxR O p q) pt ks σ:=λhC h=>by
 simp only[Prod.mk.injEq]at e;obtain⟨e1,e2,e3,rfl,e5,e6⟩:=e;refine Ja hC e1 trivial (AK.done ?_);cases h;have:p a (QiS vs) s.hp:=e5▸gives (QlI (Tf e6));cases x<;>first|exact⟨vs,QAg e3,this⟩|cases e2
end
section
variable {α β γ δ ε ζ:Type}{C:XC}{n:Nat}{r:α}{o:O_ α}{Q:Exit->St->Prop}{pt pt1:Pt}{ks ks1:L_ Fr}{σ σ1:St}
def QfP (O:Ki prog C n)(h:o=some r)(t:AF C n o r Q pt ks σ):AK prog C Q pt ks σ:=t O h
def QpU (f:AK prog C Q pt1 ks1 σ1->AK prog C Q pt ks σ)(h:AF C n o r Q pt1 ks1 σ1):AF C n o r Q pt ks σ:=λO a=>f (h O a)
def pA_ {l y:L_ β}{f:Unit->O_ α}(k z:Nat)(row:β->L_ V)(e:Vm.go prog C Ab n [.n k,.v (.bd []) [] (.sl z (y.map row)),.app ((l++y).map row) (l++y).length] pt ks σ True=some ⟨pt1,ks1,σ1,(True/\V.sl z (y.map row)=.sl z (y.map row))/\((l.map row).length=l.length/\decide (l.length+(y.map row).length<=4294967296)=true/\l.map row++y.map row=(l++y).map row/\l.length+(y.map row).length=(l++y).length)⟩)(h:AF C n (f ()) r Q pt1 ks1 σ1):AF C n ((chk (l.length+y.length<=4294967296)).bind f) r Q pt ks σ:=λO a=>cB_ a λh1 h2=>AK.go QC O _ e ⟨⟨trivial,rfl⟩,Qx,Il h1 Qx,WA,CX Qx⟩ (h O h2)
def pB_ {l y:L_ β}{f:Unit->O_ α}(k:Nat)(row:β->L_ V)(e:Vm.go prog C Ab n [.n k,.app ((l++y).map row) (l++y).length] pt ks σ True=some ⟨pt1,ks1,σ1,True/\((l.map row).length=l.length/\decide (l.length+(y.map row).length<=4294967296)=true/\l.map row++y.map row=(l++y).map row/\l.length+(y.map row).length=(l++y).length)⟩)(h:AF C n (f ()) r Q pt1 ks1 σ1):AF C n ((chk (l.length+y.length<=4294967296)).bind f) r Q pt ks σ:=λO a=>cB_ a λh1 h2=>AK.go QC O _ e ⟨trivial,Qx,Il h1 Qx,WA,CX Qx⟩ (h O h2)
def aD_ (k t b z:Nat)(e:Vm.go prog C Ab n [.n k,.adopt t b z] pt ks σ True=some ⟨pt1,ks1,σ1,True⟩)(h:AF C n o r Q pt1 ks1 σ1):AF C n o r Q pt ks σ:=gT_ _ e h
def zF_ {row:β->L_ V}{l:L_ β}(k b:Nat)(O os:L_ Nat)(e:Vm.go prog C Ab n [.n k,.frz b (l.map row) O os] pt ks σ True=some ⟨pt1,ks1,σ1,True/\(True/\(l.length<=(l.map row).length/\(l.map row).take l.length=l.map row))⟩)(h:AF C n o r Q pt1 ks1 σ1):AF C n o r Q pt ks σ:=gA_ _ e ⟨trivial,trivial,Kf Qx⟩ h
def cV_ {γ:Type}{row:γ->L_ V}{l:L_ γ}{a:O_ β}{f:β->O_ α}{fn:Nat}{us:L_ V}{W:β->V}{σ1:β->St}(k:Nat)(ms:L_ Vm.Mode)(c:CT fn us [] a W no_)(e:(λv=>Vm.go prog C Ab n [.n k,.o (.c true ms (W v))] pt ks σ True)=λv=>some ⟨pt1,ks1,σ1 v,True/\((l.length<=(l.map row).length/\(l.map row).take l.length=l.map row)/\QX prog fn us [] (Gives (W v) []))⟩)(h:∀v,AF C n (f v) r Q pt1 ks1 (σ1 v)):AF C n (a.bind f) r Q pt ks σ:=λO b=>bE_ b λd h1 h2=>AK.go QC O _ (congrFun e d) ⟨trivial,QpM rfl,c _ h1⟩ (h d O h2)
def vI_ {φ:Prop}(k b d:Nat)(e:Vm.go prog C Ab n [.n k,.o (.any (.loc b 0 d) none)] pt ks σ True=some ⟨pt1,ks1,σ1,True/\φ⟩)(h:AF C n o r Q pt1 ks1 σ1)(p:Ki prog C n->φ:=by exact λO σ h1 h2 _=>Qf.idxV rfl rfl (QP O.n rfl) (h1 _ _ rfl) (h1 _ _ rfl) (QC.es rfl) (h2 _ _ rfl) (by decide)):AF C n o r Q pt ks σ:=λO a=>AK.go QC O _ e ⟨trivial,p O⟩ (h O a)
def zN_ {row:β->L_ V}{l:L_ β}{ops:Array Oper}{op:Oper}{rest:L_ Oper}{x y:Operand}{T U d z t:Nat}(k:Nat)(hT:prog.underlying T=some (.slice t))(o':O_ α)(e:(pl_ C n k pt ks σ,op.guard,op.op,op.dst,Nat.ble (d+1) n,σ1.opd x,σ1.opd y)=(some ⟨.o ops (op::rest),ks1,σ1,True⟩,none,.binOp .eql T x y U,some d,true,some (.sl z (l.map row)),some (.Y)))(h1:AF C n o' r Q (.o ops rest) ks1 (σ1.put d (.b true)))(h2:AF C n o r Q (.o ops rest) ks1 (σ1.put d (.b false)))(h0:l=[]->o=o':=by intro h;subst h;rfl):AF C n o r Q pt ks σ:=λO a=>by
 simp only[Prod.mk.injEq]at e;obtain⟨e1,e2,e3,e4,e5,e6,e7⟩:=e;exact Ja O e1 trivial (AK.eqNil e2 e3 e4 (QP O.n e5) e6 e7 hT (λh=>h1 O ((h0 (List.map_eq_nil_iff.1 h)).symm.trans a)) (h2 O a))
def QAh {γ1 γ2:Type}{c d:Code}{fr:S_}{hp:H_}(k:Nat)(ts os:L_ Nat)(E:β->γ1->γ2->S_×H_)(K:β->γ1->γ2->O_ α)(e:(pl_ C n k pt ks σ,XI σ1.fr ts,XI σ1.hp os)=(some ⟨.c (.seq c d),ks1,σ1,True⟩,some fr,some hp))(g:AF C n o r Q (.c c) (.cut (λs=>∃v0 O v2,s=jn (E v0 O v2) fr hp/\K v0 O v2=some r)::ks1) σ1)(h:∀v0 O v2,AF C n (K v0 O v2) r Q (.c d) ks1 (jn (E v0 O v2) fr hp)):AF C n o r Q pt ks σ:=λhC b=>Ja hC (congrArg Prod.fst e) trivial (AK.meet _ (g hC b) λ_ ⟨v0,O,v2,e,a⟩=>e▸h v0 O v2 hC a)
def QsO {γ1 γ2:Type}{E:β->γ1->γ2->St}{K:β->γ1->γ2->O_ α}{v0:β}{O:γ1}{v2:γ2}{ks0:L_ Fr}(k:Nat)(e:pl_ C n k pt ks σ=some ⟨.x .normal,.cut (λs=>∃v0 O v2,s=E v0 O v2/\K v0 O v2=some r)::ks0,σ1,True⟩){o:O_ α}(a:(K v0 O v2,Rq σ1 (E v0 O v2))=(o,some (E v0 O v2))):AF C n o r Q pt ks σ:=λhC h=>Ja hC e trivial (Np (congrArg Prod.snd a) (AK.met ⟨v0,O,v2,rfl,(congrArg Prod.fst a).trans h⟩))
def Qu7 {γ1 γ2 γ3 γ4 γ5 γ6 γ7 γ8 γ9:Type}{c d:Code}{fr:S_}{hp:H_}(k:Nat)(ts os:L_ Nat)(E:β->γ1->γ2->γ3->γ4->γ5->γ6->γ7->γ8->γ9->S_×H_)(K:β->γ1->γ2->γ3->γ4->γ5->γ6->γ7->γ8->γ9->O_ α)(e:(pl_ C n k pt ks σ,XI σ1.fr ts,XI σ1.hp os)=(some ⟨.c (.seq c d),ks1,σ1,True⟩,some fr,some hp))(g:AF C n o r Q (.c c) (.cut (λs=>∃v0 O v2 v3 v4 v5 v6 v7 v8 v9,s=jn (E v0 O v2 v3 v4 v5 v6 v7 v8 v9) fr hp/\K v0 O v2 v3 v4 v5 v6 v7 v8 v9=some r)::ks1) σ1)(h:∀v0 O v2 v3 v4 v5 v6 v7 v8 v9,AF C n (K v0 O v2 v3 v4 v5 v6 v7 v8 v9) r Q (.c d) ks1 (jn (E v0 O v2 v3 v4 v5 v6 v7 v8 v9) fr hp)):AF C n o r Q pt ks σ:=λhC b=>Ja hC (congrArg Prod.fst e) trivial (AK.meet _ (g hC b) λ_ ⟨v0,O,v2,v3,v4,v5,v6,v7,v8,v9,e,a⟩=>e▸h v0 O v2 v3 v4 v5 v6 v7 v8 v9 hC a)
def Qkh {γ1 γ2 γ3 γ4 γ5 γ6 γ7 γ8 γ9:Type}{E:β->γ1->γ2->γ3->γ4->γ5->γ6->γ7->γ8->γ9->St}{K:β->γ1->γ2->γ3->γ4->γ5->γ6->γ7->γ8->γ9->O_ α}{v0:β}{O:γ1}{v2:γ2}{v3:γ3}{v4:γ4}{v5:γ5}{v6:γ6}{v7:γ7}{v8:γ8}{v9:γ9}{ks0:L_ Fr}(k:Nat)(e:pl_ C n k pt ks σ=some ⟨.x .normal,.cut (λs=>∃v0 O v2 v3 v4 v5 v6 v7 v8 v9,s=E v0 O v2 v3 v4 v5 v6 v7 v8 v9/\K v0 O v2 v3 v4 v5 v6 v7 v8 v9=some r)::ks0,σ1,True⟩){o:O_ α}(a:(K v0 O v2 v3 v4 v5 v6 v7 v8 v9,Rq σ1 (E v0 O v2 v3 v4 v5 v6 v7 v8 v9))=(o,some (E v0 O v2 v3 v4 v5 v6 v7 v8 v9))):AF C n o r Q pt ks σ:=λhC h=>Ja hC e trivial (Np (congrArg Prod.snd a) (AK.met ⟨v0,O,v2,v3,v4,v5,v6,v7,v8,v9,rfl,(congrArg Prod.fst a).trans h⟩))
def jF_ {c:Bool}{x y:O_ α}(f:c=true->AF C n x r Q pt ks σ)(g:c=false->AF C n y r Q pt ks σ):AF C n (bif c then x else y) r Q pt ks σ:=λO a=>bf_ a (λh b=>f h O b) λh b=>g h O b
def s2_ {a:O_ (β⊕γ)}{f:β->O_ α}{g:γ->O_ α}(h1:∀v,a=some (.inl v)->AF C n (f v) r Q pt ks σ)(h2:∀v,a=some (.inr v)->AF C n (g v) r Q pt ks σ):AF C n (a.bind (Sum.elim f g)) r Q pt ks σ:=λO b=>bE_ b λx h a=>match x,h,a with|.inl v,h,a=>h1 v h O a|.inr v,h,a=>h2 v h O a
def s3_ {a:O_ (β⊕(γ⊕δ))}{f:β->O_ α}{g:γ->O_ α}{k:δ->O_ α}(O:∀v,a=some (.inl v)->AF C n (f v) r Q pt ks σ)(h2:∀v,a=some (.inr (.inl v))->AF C n (g v) r Q pt ks σ)(h3:∀v,a=some (.inr (.inr v))->AF C n (k v) r Q pt ks σ):AF C n (a.bind (Sum.elim f (Sum.elim g k))) r Q pt ks σ:=s2_ O λv h=>match v,h with|.inl v,h=>h2 v h|.inr v,h=>h3 v h
def s4_ {a:O_ (β⊕(γ⊕(δ⊕ε)))}{f:β->O_ α}{g:γ->O_ α}{k:δ->O_ α}{l:ε->O_ α}(O:∀v,a=some (.inl v)->AF C n (f v) r Q pt ks σ)(h2:∀v,a=some (.inr (.inl v))->AF C n (g v) r Q pt ks σ)(h3:∀v,a=some (.inr (.inr (.inl v)))->AF C n (k v) r Q pt ks σ)(h4:∀v,a=some (.inr (.inr (.inr v)))->AF C n (l v) r Q pt ks σ):AF C n (a.bind (Sum.elim f (Sum.elim g (Sum.elim k l)))) r Q pt ks σ:=s3_ O h2 λv h=>match v,h with|.inl v,h=>h3 v h|.inr v,h=>h4 v h
def s5_ {a:O_ (β⊕(γ⊕(δ⊕(ε⊕ζ))))}{f:β->O_ α}{g:γ->O_ α}{k:δ->O_ α}{l:ε->O_ α}{m:ζ->O_ α}(O:∀v,a=some (.inl v)->AF C n (f v) r Q pt ks σ)(h2:∀v,a=some (.inr (.inl v))->AF C n (g v) r Q pt ks σ)(h3:∀v,a=some (.inr (.inr (.inl v)))->AF C n (k v) r Q pt ks σ)(h4:∀v,a=some (.inr (.inr (.inr (.inl v))))->AF C n (l v) r Q pt ks σ)(h5:∀v,a=some (.inr (.inr (.inr (.inr v))))->AF C n (m v) r Q pt ks σ):AF C n (a.bind (Sum.elim f (Sum.elim g (Sum.elim k (Sum.elim l m))))) r Q pt ks σ:=s4_ O h2 h3 λv h=>match v,h with|.inl v,h=>h4 v h|.inr v,h=>h5 v h
def lN_ {c:Code}(k m:Nat)(e:pl_ C n k pt ks σ=some ⟨.c (.loop c),ks1,σ1,True⟩)(h:AF C n o r Q (.c c) (.cut (Rnd prog C Q ks1 c (m-1))::ks1) σ1)(hm:(m-1)+1=m:=by rfl):AF C n o r Q pt ks σ:=λO a=>Ja O e trivial (AK.loopN m (hm▸AK.rnd (h O a)))
def rd_ {c:Code}{O:L_ Fr}{m:Nat}(k:Nat)(e:pl_ C n k pt ks σ=some ⟨.x .normal,.cut (Rnd prog C Q O c (m+1))::O,σ1,True⟩)(h:AF C n o r Q (.c c) (.cut (Rnd prog C Q O c m)::O) σ1):AF C n o r Q pt ks σ:=λhC a=>Ja hC e trivial (AK.met (AK.rnd (h hC a)))
def vA_ {l:L_ β}{j:Int}{f:β->O_ α}{σ1:β->St}(k:Nat)(row:β->L_ V)(e:(λd=>Vm.go prog C Ab n [.n k,.o (.row (row d))] pt ks σ True)=λd=>some ⟨pt1,ks1,σ1 d,(True/\(0<=j/\j<(l.length:Int)))/\(l.map row)[j.toNat]? = some (row d)⟩)(h:∀d,AF C n (f d) r Q pt1 ks1 (σ1 d)):AF C n ((idx l j).bind f) r Q pt ks σ:=λhC a=>bE_ a λd O h2=>AK.go QC hC _ (congrFun e d) ⟨⟨trivial,Yu O rfl⟩,Xq (Yz O).2⟩ (h d hC h2)
end
def dz_ : L_ (Nat×Dw)->L_ Dw
 |[]=>[]|(k,d)::l=>List.replicate k (.a .no none false)++d::dz_ l
def Us {α:Type}{o:O_ α}{r:α}{id n:Nat}{C:XC}{Q:Exit->St->Prop}{ops:Array Oper}{ks ks1:L_ Fr}{pt:Pt}{σ base:St}{sf fr:S_}{sh hp:H_}{ri:L_ (It×Nat)}{ms:L_ YI}{B:St}{φ:Prop}(k:Nat)(e0:pl_ C n k pt ks σ=some ⟨.c (.region id ops true),ks1,base,True⟩)(ds:L_ Dw)(sts O ts os:L_ Nat)(hS:(XI base.fr sts,XI base.hp O)=(some sf,some sh))(e:AX prog C Ab n ops ⟨sf,sh⟩ ds ops.toList 0 [] [] base True=some ⟨ri,ms,B,φ⟩)(hφ:Ki prog C n->φ)(hf:(XI (OK ms ri++B.fr) ts,XI (MG ms ri++B.hp) os,St.closed ⟨fr,hp⟩)=(some fr,some hp,true))(h:AF C n o r Q (.x .normal) ks1 ⟨fr,hp⟩)(hl:ds.length=ops.size:=by rfl)(hk:okV ops base ⟨sf,sh⟩ ⟨ri,ms,B,φ⟩=true:=by kernel_rfl):AF C n o r Q pt ks σ:=λhN a=>Ja hN e0 trivial (AK.draw2 QC hN mixed ds sts O ts os (congrArg (λx=>x.1) hS) (congrArg (λx=>x.2) hS) e (hφ hN) hl hk (congrArg (λx=>x.1) hf) (congrArg (λx=>x.2.1) hf) (congrArg (λx=>x.2.2) hf) (h hN a))
def D {α:Type}{o:O_ α}{r:α}{id n:Nat}{C:XC}{Q:Exit->St->Prop}{ops:Array Oper}{ks ks1:L_ Fr}{pt:Pt}{σ base:St}{sf fr:S_}{sh hp:H_}{ri:L_ (It×Nat)}{ms:L_ YI}{B:St}{φ:Prop}(k:Nat)(e0:pl_ C n k pt ks σ=some ⟨.c (.region id ops true),ks1,base,True⟩)(ds:L_ Dw)(sts O ts os:L_ Nat)(hS:(XI base.fr sts,XI base.hp O)=(some sf,some sh))(e:AX prog C Ab n ops ⟨sf,sh⟩ ds ops.toList 0 [] [] base True=some ⟨ri,ms,B,φ⟩)(hφ:φ)(hf:(XI (OK ms ri++B.fr) ts,XI (MG ms ri++B.hp) os,St.closed ⟨fr,hp⟩)=(some fr,some hp,true))(h:AF C n o r Q (.x .normal) ks1 ⟨fr,hp⟩)(hl:ds.length=ops.size:=by rfl)(hk:okV ops base ⟨sf,sh⟩ ⟨ri,ms,B,φ⟩=true:=by kernel_rfl):AF C n o r Q pt ks σ:=λhN a=>Ja hN e0 trivial (AK.draw2 QC hN mixed ds sts O ts os (congrArg (λx=>x.1) hS) (congrArg (λx=>x.2) hS) e hφ hl hk (congrArg (λx=>x.1) hf) (congrArg (λx=>x.2.1) hf) (congrArg (λx=>x.2.2) hf) (h hN a))
end Go.Proofs
namespace Go.Vm
noncomputable abbrev V.G{α:Type}(f:α->L_ V)(x:α):V:=.agg (f x)
noncomputable abbrev V.M{α:Type}(z:Nat)(f:α->L_ V)(l:L_ α):V:=.sl z (l.map f)
noncomputable abbrev V.P{α:Type}(o:Nat)(l:L_ α):V:=.own o l.length
noncomputable abbrev Ob.W{α:Type}(f:α->L_ V)(x:α):Ob:=.var (f x)
noncomputable abbrev Ob.R{α:Type}(z:Nat)(f:α->L_ V)(l:L_ α):Ob:=.arr z (l.map f)
end Go.Vm
namespace Go.Proofs
open Go Go.RowKit Go.Vm Go.Proofs.Tryz
open Option renaming some→Q,bind→j_,none→n_
open Sum renaming inl→y_,inr→i_
open Bool renaming true→t_,false→f_
variable (a h:Int)(k:Xj)(g l0:QBg)(m:Bool)(b:Qc)(n:(L_ Qm))(c:Int)(e:QMk)(r:Qd)(d1:QMk)(k1:ByteArray)(d:Int)(t:Qs)(s:Int)(f:LI_)(j0:Int)(l:QR)(i:QF)(e2:(L_ ByteArray))(g0:(L_ QK))(o g3:Int)(f4:Qs->O_ Int)(j3:Qs)(h3:LI_->Qs->O_ (Int×Int))(d2:LI_)(f2:Qs)(f0:(L_ (O_ Nat)))(f3:(L_ (Int×(O_ Nat))))(g2:(L_ Qk))(l3:QF)(m0:Xt)(j:QL)(q:Int)(g4:(QBg×QBg))(k2:Qs->Int->O_ Bool)(d3:Qs)(i1:Int)(h0:Bool)(d4:LI_)(p e4:Qm)(i0:Int)(e1:QMk)(m3:(QMk×Int))(k4:QMk)(j1:QLL)(m1:(Int×Int×Int))(j2:Int)(f1:QBg)(k0:Qc)(e0:Int)(h4:(Bool×JD))(i3:Int)(g1:LI_)(j4:(L_ Qs))(e3:Int)
abbrev QBA (a0 a1:V):L_ V:=[.J,.J,a0,.J,.J,.J,.J,a1,.J,.J,.J,.J,.J]
abbrev QfQ (a0:V):L_ V:=[.J,.J,a0,.J,.J,.J,.J,.J,.J,.J,.J,.J,.J]
abbrev QBB (a0 a1 a2 a3 a4 a5 a6 a7 a8:V):L_ V:=[.J,.J,.J,.J,a0,a1,a2,a3,a4,.J,a5,a6,a7,.J,.J,.J,.J,.J,.J,.J,.J,.J,.J,.J,.J,.J,.J,.J,.J,.J,.J,.J,.J,.J,.J,.J,.J,.J,.J,.J,.J,.J,.J,.J,.J,.J,.J,.J,.J,.J,.J,.J,.J,.J,a8,.J,.J,.J,.J,.J,.J,.J,.J,.J,.J,.J,.J,.J,.J,.J,.J,.J,.J,.J,.J,.J,.J,.J,.J,.J,.J,.J,.J,.J,.J,.J,.J,.J,.J,.J,.J,.J,.J,.J,.J,.J,.J,.J,.J,.J,.J,.J,.J,.J,.J,.J,.J,.J,.J]
abbrev Tg (a0 a1 a2 a3 a4 a5 a6 a7:V):L_ V:=[.J,.J,.J,.J,a0,a1,a2,a3,a4,.J,a5,a6,a7,.J,.J,.J,.J,.J,.J,.J,.J,.J,.J,.J,.J,.J,.J,.J,.J,.J,.J,.J,.J,.J,.J,.J,.J,.J,.J,.J,.J,.J,.J,.J,.J,.J,.J,.J,.J,.J,.J,.J,.J,.J,.J,.J,.J,.J,.J,.J,.J,.J,.J,.J,.J,.J,.J,.J,.J,.J,.J,.J,.J,.J,.J,.J,.J,.J,.J,.J,.J,.J,.J,.J,.J,.J,.J,.J,.J,.J,.J,.J,.J,.J,.J,.J,.J,.J,.J,.J,.J,.J,.J,.J,.J,.J,.J,.J,.J]
def Qlv  : O_ Qc:=Q (Qc.mk ([(QK.mk (⟨#[110]⟩:ByteArray) 2 0 0 ([(⟨#[107]⟩:ByteArray)]:L_ ByteArray) 0 0)]:L_ QK) ([(Xn.mk (⟨#[97]⟩:ByteArray) 0 ([]:QBg)),(Xn.mk (⟨#[98]⟩:ByteArray) 0 ([]:QBg))]:L_ Xn) ([(QL.mk (⟨#[116]⟩:ByteArray) ([]:(L_ JH)) (Qs.mk 1 1 ([]:(L_ Qs))) 1 1 ([(Jy.mk 0 (Qs.mk 1 0 ([]:(L_ Qs))))]:L_ Jy) ([(Jy.mk 1 (Qs.mk 1 0 ([]:(L_ Qs))))]:L_ Jy) ([]:LI_) 2 (1,3,2))]:L_ QL) 0 1)
def QpV : CT 14 [] [] (Qlv ) (λr=>(.G Qi r)) no_:=
 W 22 func14 Z<|gA_ [7,.v .no [n_,n_,Q 3] (.agg (QY (Qs.mk 1 0 ([]:(L_ Qs))))),6,.v .no [n_,n_,Q 3] (.agg (QY (Qs.mk 1 1 ([]:(L_ Qs))))),6,.v (.bd []) [] (.sl 1 (([(⟨#[107]⟩:ByteArray)]:L_ ByteArray).map LC)),1,.v (.bd []) [] (.sl 7 (([(QK.mk (⟨#[110]⟩:ByteArray) 2 0 0 ([(⟨#[107]⟩:ByteArray)]:L_ ByteArray) 0 0)]:L_ QK).map Xm)),.v .no [n_,n_,Q 2] (.agg (Xd (Xn.mk (⟨#[97]⟩:ByteArray) 0 ([]:QBg)))),.v .no [n_,n_,Q 2] (.agg (Xd (Xn.mk (⟨#[98]⟩:ByteArray) 0 ([]:QBg)))),.v (.bd []) [] (.sl 3 (([(Xn.mk (⟨#[97]⟩:ByteArray) 0 ([]:QBg)),(Xn.mk (⟨#[98]⟩:ByteArray) 0 ([]:QBg))]:L_ Xn).map Xd)),3,.v (.bd []) [] (.sl 4 (([(Jy.mk 0 (Qs.mk 1 0 ([]:(L_ Qs))))]:L_ Jy).map KP)),2,.v (.bd []) [] (.sl 4 (([(Jy.mk 1 (Qs.mk 1 0 ([]:(L_ Qs))))]:L_ Jy).map KP)),1,.v .no [n_,Q 2,n_,n_,n_,n_,n_,n_,n_,Q 1,n_,n_,n_,n_] (.agg (QE (QL.mk (⟨#[116]⟩:ByteArray) ([]:(L_ JH)) (Qs.mk 1 1 ([]:(L_ Qs))) 1 1 ([(Jy.mk 0 (Qs.mk 1 0 ([]:(L_ Qs))))]:L_ Jy) ([(Jy.mk 1 (Qs.mk 1 0 ([]:(L_ Qs))))]:L_ Jy) ([]:LI_) 2 (1,3,2)))),.v (.bd []) [] (.sl 14 (([(QL.mk (⟨#[116]⟩:ByteArray) ([]:(L_ JH)) (Qs.mk 1 1 ([]:(L_ Qs))) 1 1 ([(Jy.mk 0 (Qs.mk 1 0 ([]:(L_ Qs))))]:L_ Jy) ([(Jy.mk 1 (Qs.mk 1 0 ([]:(L_ Qs))))]:L_ Jy) ([]:LI_) 2 (1,3,2))]:L_ QL).map QE)),5] Z (aB_ Z Z Z Z Z Z Z Z Z Z Z)<|E 0 Z
def JI:O_ QBg:=j_ (chk ((([]:QBg).length+g.length)*16<=140737488355328)) λ_=>Q (([]:QBg)++g)
def Fh {a}:CT 36 [.M 2 QB a] [] (JI a) (λr=>(.P 600 r)) (λr=>[(600,.R 2 QB r)]):=
 W 8 func36 Z<|zN_ 9 QAO (Q ([]:QBg)) Z (aD_ 10 2 600 2 Z<|E 0 Z)<|kA_ λb=>K [8,.O 5 (.arr 2 (([]:QBg).map QB)),.S 5 (.own 5 ([]:QBg).length),1,.x (λz=>z.app 5 2 7 (([]:QBg)++a).length ((([]:QBg)++a).map QB)),4,.ren 5 600] Z (λc=>(a3_ Z Z (Qf.appSB (by_:=16) (zs:=[.I 0,.I 0]) (e:=97) (e':=97) (z':=2) (by':=16) Z Z (QP c.n Z) Z Z Z Qx (by kernel_rfl) (by kernel_rfl) (by kernel_rfl) Z (by decide) (by decide) (Qgn b Qx) Z WA (CX Qx))))<|E 0 Z
def EF (a:QBg):O_ Unit:=Q ()
def Sh {a}:CT 120 [.map 621] [(621,.map (QO V.I V.I a))] (EF a) (λ_=>(.clo (.func 211) [] [.L 1])) (λ_=>[(1,.var [.map 621]),(621,.map (QO V.I V.I a))]):=
 W 4 func120 Z<|E 13 Z
def Dz:O_ LI_:=j_ (chk (f.length+([j0]:L_ Int).length<=4294967296)) λ_=>Q (f++([j0]:L_ Int))
def Nq (lpl lpf:Nat)(a:LI_)(c:Int){r:LI_}(h:Dz a c=Q r):Qbo prog lpl (Cn lpf) (QBA (.L 622) (.I c)) [(621,.lp lpl (Cn lpf) (QfQ (.L 622)) 0),(622,.var [.P 619 a]),(619,.R 1 Qb a)] (Gives (.b true) [(619,.R 1 Qb r),(621,.lp lpl (Cn lpf) (QfQ (.L 622)) 0),(622,.var [.P 619 r])]):=by
 refine Qbo.walk (b:=621) 13 Z Z λC d=>?_;refine tg_ d [3] ?_;refine AK.done (an_ rfl (ex_ _ (an_ rfl ?_)));exact QfP d h<|pA_ 4 1 Qb Z<|G [1,.O 622 (.var [.own 619 (a++([c]:L_ Int)).length]),2,.K [] [619,621,622]] Z Z<|(λd h=>by
   cases h;refine AK.done ?_;exact ex_ _ (an_ Z (gives r3_)))
def Pz (lpl lpf:Nat)(c:LI_)(i:QBg)(hlen:c.length+i.length<=4294967296):QX prog 211 [.clo (.yield lpl) [] [],.L 623] [(621,.lp lpl (Cn lpf) (QfQ (.L 622)) 0),(622,.var [.P 619 c]),(619,.R 1 Qb c),(623,.var [.map 624]),(624,.map (QO V.I V.I i))] (λv hs=>∃r:L_ Int,r.Perm (c++i.map Prod.fst)/\Gives (.tup []) [(619,.R 1 Qb r),(621,.lp lpl (Cn lpf) (QfQ (.L 622)) 0),(622,.var [.P 619 r]),(623,.var [.map 624]),(624,.map (QO V.I V.I i))] v hs):=by
 refine wk_ 14 func211 λC a=>?_;refine tg_ a [3] ?_;refine AK.openMap (b:=624) BC rfl λk l L4 p s=>?_;refine YF a [.x (λσ=>(σ.set 5 (.itr k l #[] n_)).put 5 (.L 5)),3,.K [0,5] [5,619,621,622,623,624]] rfl (a1_ (Qf.range (b:=624) rfl rfl (QP a.n rfl) rfl rfl Aa rfl)) ?_;have hL0:Js L4 #[]=L4:=by simp[Js]
 have z:(c++(Js L4 #[]).map (λq=>q.2.1)).Perm (c++i.map Prod.fst):=by
  rw[hL0];refine List.Perm.append_left c ?_;have:=s.map Prod.fst;rwa[QaW]at this
 refine AK.range (body:=QuW) (λ(_:Nat) seen σ=>∃(cur:O_ Nat) (st:L_ Int),(st++(Js L4 seen).map (λq=>q.2.1)).Perm (c++i.map Prod.fst)/\σ=⟨[(0,.clo (.yield lpl) [] []),lk_ 5],[(5,.itr k l seen cur),(619,.R 1 Qb st),(621,.lp lpl (Cn lpf) (QfQ (.L 622)) 0),(622,.var [.P 619 st]),(623,.var [.map 624]),(624,.mapX k l (Nn V.I V.I L4) (QO V.I V.I i))]⟩) (λ(q:Empty) _ _=>False) (λ_ e σ=>∃st:L_ Int,st.Perm (c++i.map Prod.fst)/\e=.exit 0/\σ=⟨[],[(619,.R 1 Qb st),(621,.lp lpl (Cn lpf) (QfQ (.L 622)) 0),(622,.var [.P 619 st]),(623,.var [.map 624]),(624,.mapX k l (Nn V.I V.I L4) (QO V.I V.I i))]⟩) p s (Qwa i 0) (ex_ _ (ex_ c (an_ z rfl))) ?_ ?_
 ·rintro n0 seen σ ⟨cur,o,hpp,rfl⟩ hex;refine tg_ a [2] ?_;refine AK.nextT (b:=5) (m:=624) rfl rfl rfl (QP a.n rfl) rfl rfl rfl rfl ?_ ?_
  ·intro hleft;refine tg_ a [7,.K [] [619,621,622,623,624]] ?_;exact AK.done (Or.inl (an_ hleft (an_ (λh=>(by cases h)) (ex_ o (an_ (by simpa[hleft] using hpp) (an_ Z Z))))))
  intro O y v9 u;have hpk:=(Qhj p u).map (λq=>q.2.1);have w:((o++[y])++(Js L4 (seen.push O)).map (λq=>q.2.1)).Perm (c++i.map Prod.fst):=List.Perm.trans (by simpa using (List.Perm.append_left o hpk).symm) hpp;have a0:o.length+([y]:L_ Int).length<=4294967296:=by
   have:=w.length_eq;simp at this ⊢;omega
  have t:Dz o y=Q (o++[y]):=by
   unfold Dz;rw[Ql a0];rfl
  obtain⟨j,hxe⟩:∃x,x=o++[y]:=⟨_,rfl⟩;rw[<-hxe]at t w;refine YF a [10,.x (λσ=>σ.put 8 (.tup [.I y,.I v9])),8,.x (λσ=>(σ.after [619] [(619,.R 1 Qb j),(621,.lp lpl (Cn lpf) (QfQ (.L 622)) 0),(622,.var [.P 619 j])]).put 12 (.b t_)),6,.K [0,5] [5,619,621,622,623,624]] rfl (a2_ (Qf.entryT (b:=5) (m:=624) (e:=V.I) (f:=V.I) rfl rfl (QP a.n rfl) rfl u rfl rfl) (Qf.yieldV (b:=621) (M:=[(621,621),(622,622),(619,619)]) (N:=[(619,619),(621,621),(622,622)]) (dead:=[619]) (ms:=(List.replicate 13 .d)) (outs:=[(619,.R 1 Qb j),(621,.lp lpl (Cn lpf) (QfQ (.L 622)) 0),(622,.var [.P 619 j])]) (r:=.b t_) rfl rfl rfl rfl rfl rfl rfl (QP a.n rfl) a.g rfl rfl (Nq _ _ _ _ t))) ?_;exact AK.done (Or.inr (ex_ _ (an_ u (Or.inl (ex_ (n0+1) (an_ Z (an_ Z (ex_ _ (ex_ j (an_ w Z))))))))))
 rintro e σ ⟨o,hpp,rfl,rfl⟩;refine tg_ a [1] ?_;refine AK.closeMap (b:=624) rfl ?_;refine tg_ a [.K [] [619,621,622,623,624]] ?_;refine AK.done ?_;exact ex_ [] (an_ U (ex_ o (an_ hpp (gives r5_))))
def ZK (a:QBg)(h:a.length<=4294967296):QX prog 281 [.Y,.clo (.func 211) [] [.L 621]] [(621,.var [.map 622]),(622,.map (QO V.I V.I a))] (λv hs=>∃r:L_ Int,r.Perm (a.map Prod.fst)/\Gives (.P 600 r) [(600,.R 1 Qb r),(621,.var [.map 622]),(622,.map (QO V.I V.I a))] v hs):=by
 refine QX.walkR 13 func281 Z ntmps281 Z λC c hR=>?_;refine tg_ c [13,.K [2,4,6] [2,621,622]] ?_;refine YF c [.adoptO 2 0 607 1,.O 607 (.arr 1 (([]:L_ Int).map Qb)),.O 2 (.var [.own 607 ([]:L_ Int).length])] rfl (a2_ rfl rfl) ?_;refine AK.rangeFE (ι:=L_ Int) (Φ:=λx=>x.Perm (a.map Prod.fst)) 617 [2] [(621,617),(622,2),(619,607),(623,621),(624,622)] [(607,619),(617,621),(2,622),(621,623),(622,624)] [607] [.d,.d] Cn c hR (λ_=>rfl) rfl rfl rfl rfl λlpl lpf=>?_;refine ex_ (λb:L_ Int=>[(619,.R 1 Qb b),(621,.lp lpl (Cn lpf) (QfQ (.L 622)) 0),(622,.var [.P 619 b]),(623,.var [.map 624]),(624,.map (QO V.I V.I a))]) (ex_ (λ_=>.tup []) (ex_ (λb=>_) (ex_ _ (ex_ _ (an_ rfl (an_ rfl (an_ (Pz _ _ ([]:L_ Int) a (by simpa using h)) λb=>ex_ _ (ex_ (QfQ (.L 2)) (ex_ 0 (an_ rfl (an_ rfl (an_ (bne_iff_ne.1 (show(0 != 1)=t_ from rfl)) λhpp=>?_))))))))))));refine QzN Z ?_;refine tg_ c [9,.K [4] [607,621,622],.ren 607 600,.K [4] [600,621,622]] ?_;refine AK.done ?_;exact ex_ [_] (an_ (an_ Z U) (ex_ b (an_ hpp (gives r3_))))
def Qen (a:QBg)(h:a.length<=4294967296):QX prog 209 [.clo (.func 211) [] [.L 621]] [(621,.var [.map 622]),(622,.map (QO V.I V.I a))] (λv hs=>∃r:L_ Int,r.Perm (a.map Prod.fst)/\Gives (.P 600 r) [(600,.R 1 Qb r),(621,.var [.map 622]),(622,.map (QO V.I V.I a))] v hs):=by
 refine wk_ 5 func209 λC c=>?_;refine tg_ c [8] ?_;refine AK.callE (ι:=L_ Int) (Φ:=λx=>x.Perm (a.map Prod.fst)) [(621,621),(622,622)] [(4,600),(621,621),(622,622)] [] [.d,.d] (λb=>[(600,.R 1 Qb b),(621,.var [.map 622]),(622,.map (QO V.I V.I a))]) (λb=>(.P 600 b)) (λb=>_) rfl c (JP.fn rfl rfl rfl) rfl (QP c.n rfl) rfl rfl (ZK a h) (λb=>ex_ _ rfl) λb O=>?_;refine tg_ c [4,.K [2] [4,621,622],.ren 4 600,.K [2] [600,621,622]] ?_;refine AK.done ?_;exact ex_ [_] (an_ (an_ Z U) (ex_ b (an_ O (gives r3_))))
def KQ (l:L_ Int):O_ LI_:=j_ (chk (l.length<4611686018427387904)) λ_=>Q (El l)
def Co (l){r}(h:KQ l=Q r):QX prog 210 [.P 621 l] [(621,.R 1 Qb l)] (Gives (.tup []) [(621,.R 1 Qb r)]):=by
 obtain⟨_,a,h⟩:=QI h;cases h;exact QtM Qwk l (Xe (QlD a))
def Nr:O_ LI_:=j_ (chk (g.length<=4294967296)) λ_=>Q (El (g.map Prod.fst))
def QfR {a}:CT 119 [.clo (.func 211) [] [.L 621]] [(621,.var [.map 622]),(622,.map (QO V.I V.I a))] (Nr a) (λr=>(.P 600 r)) (λr=>[(600,.R 1 Qb r),(621,.var [.map 622]),(622,.map (QO V.I V.I a))]):=
 W 9 func119 Z<|B λ_ O=>(λe h=>by
   replace O:=Xe (QlD O);cases h;refine tg_ e [8] ?_;refine AK.callE (ι:=L_ Int) (Φ:=λx=>x.Perm (a.map Prod.fst)) [(621,621),(622,622)] [(5,600),(621,621),(622,622)] [] [.d] (λb=>[(600,.R 1 Qb b),(621,.var [.map 622]),(622,.map (QO V.I V.I a))]) (λb=>(.P 600 b)) (λb=>_) rfl e (JP.fn rfl rfl rfl) rfl (QP e.n rfl) rfl rfl (Qen a O) (λb=>ex_ _ rfl) λb hpp=>?_;have f:KQ b=Q (El (a.map Prod.fst)):=by
    unfold KQ;rw[Ql (by have:=hpp.length_eq;simp at this;omega),QuX hpp];rfl
   have c:(El (a.map Prod.fst)).length=b.length:=by rw[EX,hpp.length_eq]
   refine YF e [6,.cm (.fn) [(621,5)] [(5,621)] [] [.d] [(621,.arr 1 (((El (a.map Prod.fst))).map Qb))] (.tup []),.S 3 (.own 5 (El (a.map Prod.fst)).length),.S 5 (.own 5 (El (a.map Prod.fst)).length),.S 6 (.own 5 (El (a.map Prod.fst)).length),9,.K [2] [5,621,622],.ren 5 600,.K [2] [600,621,622]] rfl (a4_ (Co _ f) (by simp[c]) (by simp[c]) (by simp[c])) ?_;refine AK.done ?_;exact ex_ [_] (an_ (an_ Z U) (gives r3_)))
def Uj:O_ ((Int×QBg)⊕QBg):=Q (y_ ((Qh (a+1)),g))
def Gl (c:QBg):O_ ((Int×QBg)⊕QBg):=cond (e0<f.length) (j_ (idx f e0) λa=>cond (0<((Xg f1 a).getD 0)) (j_ (chk (c.length+([(a,((Xg f1 a).getD 0))]:QBg).length<=4294967296)) λ_=>Uj e0 (c++([(a,((Xg f1 a).getD 0))]:QBg)))<|Uj e0 c)<|Q (i_ c)
def Ut:O_ QBg:=j_ (EF g) λc=>j_ (Nr g) λb=>j_ (Qq (λst=>Gl b g st.1 st.2) (0,([]:QBg))) (λq=>Q q)
def Ns {b}:CT 67 [.map 621] [(621,.map (QO V.I V.I b))] (Ut b) (λr=>(.P 600 r)) (λr=>[(600,.R 2 QB r),(621,.map (QO V.I V.I b))]):=
 W 28 func67 Z<|zA_ 14 .fn [(621,621)] [(7,1),(621,621)] [] Sh Z λi=>zA_ 0 .fn [(621,7),(622,621)] [(8,600),(7,621),(621,622)] [] QfR Z λj=>aD_ 5 3 18 2 Z<|lA_ 0 [0,8,9] [8,621] (λst=>([(3,.P 18 st.2),(10,.I st.1)],[(18,.R 2 QB st.2)])) [] [621] (λq=>(.exit 0,([(3,.P 18 q)],[(18,.R 2 QB q)]))) Z (λ⟨g,k⟩=>I 6 Z (mE_ 2 [0,8,9,10] [8,621] (λa:QBg=>([(3,.P 18 a)],[(18,.R 2 QB a)])) (λa=>Uj g a) Z (vA_ 4 Qb Z λc=>K [7,.o (.any (.I ((Xg b c).getD 0)) n_),3] Z (λe=>(a1_ (λy d f _=>Qf.lookup (z:=0) Z Z (QP e.n Z) (d _ _ Z) (f _ _ Z) (d _ _ Z) Aa BC QfO Z)))<|I 0 Z (K [5,.o (.any (.I ((Xg b c).getD 0)) n_),1] Z (λe=>(a1_ (λy d f _=>Qf.lookup (z:=0) Z Z (QP e.n Z) (d _ _ Z) (f _ _ Z) (d _ _ Z) Aa BC QfO Z)))<|pA_ 0 2 QB Z<|P 3 Z Z)<|P 2 Z Z) λa=>R 4 Z)<|X 2 Z) λh=>gT_ [9,.ren 18 600] Z<|E 0 Z
def Qa3:O_ ((Int×QBg)⊕QBg):=Q (y_ ((Qh (a+1)),g))
def Hw:O_ ((Int×QBg)⊕QBg):=cond (j0<f.length) (j_ (idx f j0) λa=>cond (0<=a) (Qa3 j0 (YQ UP f1 a (min2 (Qh (((Xg f1 a).getD 0)+1)) 1048576)))<|Qa3 j0 f1)<|Q (i_ f1)
def QfS:O_ QBg:=j_ (Ut g) λa=>Q a
def Th:O_ QBg:=j_ (Qq (λst=>Hw f st.1 st.2) (0,([]:QBg))) (λq=>QfS q)
def Qlw {d}:CT 38 [.M 1 Qb d] [] (Th d) (λr=>(.P 600 r)) (λr=>[(600,.R 2 QB r)]):=
 W 25 func38 Z<|N 15 Z<|lA_ 4 [3,7,8] [] (λst=>([(9,.I st.1)],[(6,.map (QO V.I V.I st.2))])) [3] [] (λq=>(.exit 0,([],[(6,.map (QO V.I V.I q))]))) Z (λ⟨h,c⟩=>I 6 Z (mE_ 2 [3,7,8,9] [] (λb:QBg=>([],[(6,.map (QO V.I V.I b))])) (λb=>Qa3 h b) Z (J 3 Z λa=>I 10 Z (K [5,.o (.any (.I ((Xg c a).getD 0)) n_),2,.x (λy=>y.set 6 (.map (QO V.I V.I (YQ UP c a (min2 (Qh (((Xg c a).getD 0)+1)) 1048576))))),2] Z (λi=>(a2_ (λy g j _=>Qf.lookup (z:=0) Z Z (QP i.n Z) (g _ _ Z) (j _ _ Z) (g _ _ Z) Aa BC QfO Z) (Qf.mapUpdate (e:=V.I) (f:=V.I) (l:=c) (k:=a) (v:=(min2 (Qh (((Xg c a).getD 0)+1)) 1048576)) UP Z Z Z Z Z Z Aa BC Z)))<|P 0 Z Z)<|P 2 Z Z) λb=>R 4 Z)<|X 2 Z) λp=>zA_ 5 .fn [(621,6)] [(24,600),(6,621)] [] Ns Z λm=>gT_ [4,.ren 24 600] Z<|E 0 Z
def Ea:O_ ((Int×Int)⊕(Unit⊕Unit)):=
 cond (d<g.length) (j_ (idx g d) λb=>
 cond ((b.1<=c)||((b.2<1)||(1048576<b.2))) (Q (i_ (y_ ())))<|Q (y_ (b.1,(Qh (d+1)))))<|Q (i_ (i_ ()))
def Qab : O_ Bool:=Q f_
def Qac : O_ Bool:=Q t_
def Gr:O_ Bool:=j_ (Qq (λst=>Ea g st.1 st.2) ((-1),0)) (Sum.elim (λq=>Qab) (λq=>Qac))
def BY {f}:CT 57 [.M 2 QB f] [] (Gr f) V.b no_:=
 W 29 func57 Z<|N 14 Z<|F 4 [6,7] [] (λst=>([(3,.I st.1),(8,.I st.2)],[])) [] [] (λq=>(.ret,([(2,.b f_)],[]))) [] [] (λq=>(.exit 0,([],[]))) Z (λ⟨d,g⟩=>I 6 Z (J 6 Z λe=>T 7 [5,6,7,8] [5] ([(25,.b ((e.1<=d)||((e.2<1)||(1048576<e.2))))],[]) Z (H 6 Z (λa=>Y 10 25 Z (Jf a Z)) λa=>H 5 Z (λc=>Y 5 25 Z (Xk a (Jf c Z))) λc=>Y 5 25 Z (Xk a (Xk c Z)))<|I 1 Z (L 9 Z)<|R 13 Z)<|X 2 Z) (λ_=>E 2 Z) (λ_=>E 8 Z)
def Na:O_ ((Int×QBg)⊕QBg):=cond (c<g.length) (j_ (idx g c) λa=>Q (y_ ((Qh (c+1)),(YQ UP f1 a.1 a.2))))<|Q (i_ f1)
def Ti:O_ (Unit⊕QBg):=j_ (Gr g) λb=>cond (!b) (Q (y_ ()))<|j_ (Qq (λst=>Na g st.1 st.2) (0,([]:QBg))) (λq=>Q (i_ q))
def BT {c}:CP 101 [.M 2 QB c] [] (Ti c) ((Sum.elim (λq=>(Gives (.tup [.lit (.map none),.b false]) [])) (λq=>(Gives (.tup [.map 601,.b true]) [(601,.map (QO V.I V.I q))])))):=
 wP_ 24 func101 Z<|A 10 BY Z λh=>I 3 Z (E 8 Z)<|N 12 Z<|lA_ 4 [4,11,12] [] (λst=>([(13,.I st.1)],[(10,.map (QO V.I V.I st.2))])) [4] [] (λq=>(.exit 0,([],[(10,.map (QO V.I V.I q))]))) Z (λ⟨i,d⟩=>I 6 Z (J 6 Z λa=>G [11,.x (λz=>z.set 10 (.map (QO V.I V.I (YQ UP d a.1 a.2)))),7] Z (Qf.mapUpdate (e:=V.I) (f:=V.I) (l:=d) (k:=a.1) (v:=a.2) UP Z Z Z Z Z Z Aa BC Z)<|R 0 Z)<|X 2 Z) λg=>gT_ [10,.ren 10 601] Z<|E 0 Z
def Qh8 (b:Unit):O_ (Unit⊕(QBg⊕(QBg⊕(QBg×QBg)))):=j_ (Ti g) (Sum.elim (λq=>Q (y_ ())) (λq=>Q (i_ (y_ q))))
def Qh9:O_ (Unit⊕(QBg⊕(QBg⊕(QBg×QBg)))):=j_ (Ti g) (Sum.elim (λq=>Q (i_ (i_ (y_ l0)))) (λq=>Q (i_ (i_ (i_ (l0,q))))))
def PA:O_ (Unit⊕(QBg⊕(QBg⊕(QBg×QBg)))):=j_ (Ti g) (Sum.elim (λq=>Qh8 l0 q) (λq=>Qh9 l0 q))
def KN {h i}:CP 66 [.M 2 QB h,.M 2 QB i] [] (PA h i) ((Sum.elim (λq=>(Gives (.tup [.lit (.map none),.lit (.map none),.b false]) [])) (Sum.elim (λq=>(Gives (.tup [.lit (.map none),.map 603,.b false]) [(603,.map (QO V.I V.I q))])) (Sum.elim (λq=>(Gives (.tup [.map 602,.lit (.map none),.b false]) [(602,.map (QO V.I V.I q))])) (λq=>(Gives (.tup [.map 602,.map 603,.b true]) [(602,.map (QO V.I V.I q.1)),(603,.map (QO V.I V.I q.2))])))))):=
 wP_ 25 func66 Z<|gP_ 10 Z<|s2_ (λm e=>G [.cm (.fn) [] [] [] [.d] [] (.tup [.lit (.map n_),.b f_]),10] Z (BT _ e)<|s2_ (λj a=>G [.cm (.fn) [] [] [] [.d] [] (.tup [.lit (.map n_),.b f_]),21] Z (BT _ a)<|E 0 Z) λf a=>G [.cm (.fn) [] [(16,601)] [] [.d] [(601,.map (QO V.I V.I f))] (.tup [.map 601,.b t_]),21,.ren 16 603] Z (BT _ a)<|E 0 Z) λk e=>G [.cm (.fn) [] [(11,601)] [] [.d] [(601,.map (QO V.I V.I k))] (.tup [.map 601,.b t_]),10] Z (BT _ e)<|s2_ (λl c=>G [.cm (.fn) [] [] [] [.d] [] (.tup [.lit (.map n_),.b f_]),21,.ren 11 602] Z (BT _ c)<|E 0 Z) λg c=>G [.cm (.fn) [] [(16,601)] [] [.d] [(601,.map (QO V.I V.I g))] (.tup [.map 601,.b t_]),21,.ren 11 602,.ren 16 603] Z (BT _ c)<|E 0 Z
def Iq:O_ (QBg⊕Unit):=cond (1048576<((Xg (YQ UP g c (Qh (((Xg g c).getD 0)+d))) c).getD 0)) (Q (i_ ()))<|Q (y_ (YQ UP g c (Qh (((Xg g c).getD 0)+d))))
def Qdg:O_ (QBg×Int):=j_ (Ut g) λb=>Q (b,0)
def Qdh : O_ (QBg×Int):=Q (([]:QBg),2)
def Qi9:O_ (QBg×Int):=j_ (MF (λst p=>Iq st p.1 p.2) g4.1 g4.2) (Sum.elim (λq=>Qdg q) (λq=>Qdh))
def JV:O_ (QBg×Int):=j_ (PA g l0) (Sum.elim (λq=>Q (([]:QBg),1)) (Sum.elim (λq=>Q (([]:QBg),1)) (Sum.elim (λq=>Q (([]:QBg),1)) (λq=>Qi9 q))))
def Qdi {a1 b2}:CT 37 [.M 2 QB a1,.M 2 QB b2] [] (JV a1 b2) (λr=>(.tup [.M 2 QB r.1,.I r.2])) no_:=
 W 38 func37 Z<|@λC r=>gP_ 10 Z<|s4_ (λa8 i=>G [.cm (.fn) [] [] [] [.d,.d] [] (.tup [.lit (.map n_),.lit (.map n_),.b f_]),25,.denil 4 [Q 2]] Z (KN _ i)<|E 0 Z) (λa9 i=>G [.cm (.fn) [] [(14,603)] [] [.d,.d] [(603,.map (QO V.I V.I a9))] (.tup [.lit (.map n_),.map 603,.b f_]),25,.denil 4 [Q 2]] Z (KN _ i)<|E 0 Z) (λa5 i=>G [.cm (.fn) [] [(14,602)] [] [.d,.d] [(602,.map (QO V.I V.I a5))] (.tup [.map 602,.lit (.map n_),.b f_]),25,.denil 4 [Q 2]] Z (KN _ i)<|E 0 Z) λy i=>G [.cm (.fn) [] [(14,602),(613,603)] [] [.d,.d] [(602,.map (QO V.I V.I y.1)),(603,.map (QO V.I V.I y.2))] (.tup [.map 602,.map 603,.b t_]),23] Z (KN _ i)<|λg h=>AK.openMapK (b:=613) BC Z λt u L12 O a6 a0=>QfP g h<|K [.x (λσ=>(σ.set 21 (.itr t u #[] n_)).put 21 (.L 21)),3,.K [6,21] [14,21,613]] Z (λg=>(a1_ (Qf.range (b:=613) Z Z (QP g.n Z) Z Z Aa Z)))<|B λa7 a3=>(λg h=>by
   refine AK.range (body:=(λst p=>Iq st p.1 p.2)) (λst seen σ=>∃cur:O_ Nat,σ=⟨[(6,.map 14),lk_ 21],[(14,.map (QO V.I V.I st)),(21,.itr t u seen cur),(613,.mapX t u (Nn V.I V.I L12) (QO V.I V.I y.2))]⟩) (λq e σ=>e=.ret/\σ=⟨[(4,.Y),(5,.I 2)],[]⟩) (λst e σ=>e=.exit 0/\σ=⟨[(6,.map 14)],[(14,.map (QO V.I V.I st))]⟩) O a0 a3 (ex_ _ rfl) ?_ ?_
   ·rintro a seen σ ⟨cur,rfl⟩ hex;refine tg_ g [2] ?_;refine AK.nextT (b:=21) (m:=613) rfl rfl rfl (QP g.n rfl) rfl rfl rfl rfl ?_ ?_
    ·intro hleft;refine tg_ g [7,.K [6] [14]] ?_;exact AK.done (Or.inl (an_ hleft (an_ (λh=>(by cases h)) (an_ Z Z))))
    intro b0 c s j;obtain⟨o,h⟩:=hex _ j;have ho:=h;replace h:Iq a c s=Q o:=h;refine YF g [10,.x (λσ=>σ.put 24 (.tup [.I c,.I s])),10,.o (.any (.I ((Xg a c).getD 0)) n_),2,.x (λσ=>σ.set 14 (.map (QO V.I V.I (YQ UP a c (Qh (((Xg a c).getD 0)+s)))))),6,.o (.any (.I ((Xg (YQ UP a c (Qh (((Xg a c).getD 0)+s))) c).getD 0)) n_),3] rfl (a4_ (Qf.entryT (b:=21) (m:=613) (e:=V.I) (f:=V.I) rfl rfl (QP g.n rfl) rfl j rfl rfl) (λσ h1 h2 _=>Qf.lookup (z:=0) rfl rfl (QP g.n rfl) (h1 _ _ rfl) (h2 _ _ rfl) (h1 _ _ rfl) Aa BC QfO rfl) (Qf.mapUpdate (e:=V.I) (f:=V.I) (l:=a) (k:=c) (v:=(Qh (((Xg a c).getD 0)+s))) UP rfl rfl rfl rfl rfl rfl Aa BC rfl) (λσ h1 h2 _=>Qf.lookup (e:=V.I) (f:=V.I) (l:=(YQ UP a c (Qh (((Xg a c).getD 0)+s)))) (k:=c) (z:=0) rfl rfl (QP g.n rfl) (h1 _ _ rfl) (h2 _ _ rfl) (h1 _ _ rfl) Aa BC QfO rfl)) ?_;refine bg_ h (λw h=>YF g [.T,8,.K [4,5] []] rfl (a1_ w) ?_) λw h=>YF g [.F,2,.K [6,21] [14,21,613]] rfl (a1_ w) ?_
    ·cases h;exact AK.done (Or.inr (ex_ _ (an_ j (Or.inr (ex_ _ (an_ ho (an_ (λh=>(by cases h)) (an_ Z Z))))))))
    cases h;exact AK.done (Or.inr (ex_ _ (an_ j (Or.inl (ex_ _ (an_ ho (an_ Z (ex_ _ Z))))))))
   rcases a7 with(a|_)
   ·replace h:Qdg a=Q r:=h;rintro e σ ⟨rfl,rfl⟩;obtain⟨a2,a4,h⟩:=QI h;refine YF g [5,.cm (.fn) [(621,14)] [(37,600),(14,621)] [] [.d] [(600,.R 2 QB a2),(621,.map (QO V.I V.I a))] (.P 600 a2),5,.frz 37 (a2.map QB) [4] [],.K [4,5] []] rfl (a2_ (Ns _ a4) (a1_ (Kf Qx))) ?_;exact E 0 Z g h
   replace h:Qdh=Q r:=h;unfold Qdh at h;rintro e σ ⟨rfl,rfl⟩;refine tg_ g [2,.denil 4 [Q 2],.K [4,5] []] ?_;exact E 0 Z g h)
def Gb:O_ ((Int×QMk)⊕QMk):=j_ (chk (e.length+([f1]:L_ QBg).length<=4294967296)) λ_=>Q (y_ ((Qh (d+1)),(e++([f1]:L_ QBg))))
def Gc:O_ ((Int×QMk)⊕QMk):=cond (c<b.Places.length) (j_ (idx b.Places c) λf=>j_ (JI f.First) λa=>cond (c==b.From) (j_ (Th ([0]:L_ Int)) λg=>j_ (JV a g) λd=>cond (d.2==0) (Gb e c d.1)<|Gb e c a)<|Gb e c a)<|Q (i_ e)
def Gs:O_ QMk:=j_ (Qq (λst=>Gc b st.1 st.2) (0,([]:L_ QBg))) (λq=>Q q)
def Vx {c}:CT 21 [.G Qi c] [] (Gs c) (λr=>(.P 600 r)) (λr=>[(600,.R 1 Qj r)]):=
 W 40 func21 Z<|N 16 Z<|aD_ 4 3 34 1 Z<|lA_ 0 [1,10,11] [1] (λst=>([(3,.P 34 st.2),(12,.I st.1)],[(34,.R 1 Qj st.2)])) [] [] (λq=>(.exit 0,([(3,.P 34 q)],[(34,.R 1 Qj q)]))) Z (λ⟨e,f⟩=>I 6 Z (J 7 Z λg=>oC_ 10 [.d] Fh Z λb=>mE_ 3 [1,3,10,11,12] [1,34] (λa:QBg=>([(6,.M 2 QB a)],[])) (λa=>Gb f e a) Z (I 8 Z (G [3,.v (.bd []) [] (.sl 1 (([0]:L_ Int).map Qb))] Z Z<|oC_ 0 [.d] Qlw Z λh=>zF_ 0 27 [27] [] Z<|G [.frz 19 (b.map QB) [6,19,25] []] Z (a3_ (Kf Qx) (Kf Qx) (Kf Qx))<|A 0 Qdi Z λi=>I 13 Z (P 4 Z Z)<|P 1 Z Z)<|zF_ 1 19 [6] [] Z<|P 0 Z Z) λa=>pA_ 3 1 Qj Z<|R 8 Z)<|X 2 Z) λj=>gT_ [9,.ren 34 600] Z<|E 0 Z
def OM:O_ QF:=j_ (Gs b) λa=>Q (QF.mk a ([]:L_ Qm) 1 0)
def QeJ {a}:CT 9 [.G Qi a] [] (OM a) (λr=>(.G Xw r)) no_:=
 W 6 func9 Z<|oC_ 9 [.d] Vx Z λb=>G [5,.frz 4 (b.map Qj) [] [2],.denilO 2 [n_,Q 11,n_,n_]] Z (a1_ ⟨(Kf Qx),U⟩)<|E 0 Z
def DR:O_ QMk:=j_ (chk ((([]:L_ QBg).length+e.length)*24<=140737488355328)) λ_=>Q (([]:L_ QBg)++e)
def Ow {a}:CT 69 [.M 1 Qj a] [] (DR a) (λr=>(.P 600 r)) (λr=>[(600,.R 1 Qj r)]):=
 W 8 func69 Z<|zN_ 9 QAL (Q ([]:L_ QBg)) Z (aD_ 10 2 600 1 Z<|E 0 Z)<|kA_ λb=>K [8,.O 5 (.arr 1 (([]:L_ QBg).map Qj)),.S 5 (.own 5 ([]:L_ QBg).length),1,.x (λz=>z.app 5 1 7 (([]:L_ QBg)++a).length ((([]:L_ QBg)++a).map Qj)),4,.ren 5 600] Z (λc=>(a3_ Z Z (Qf.appSB (by_:=24) (zs:=[.Y]) (e:=77) (e':=77) (z':=1) (by':=24) Z Z (QP c.n Z) Z Z Z Qx (by kernel_rfl) (by kernel_rfl) (by kernel_rfl) Z (by decide) (by decide) (Qgn b Qx) Z WA (CX Qx))))<|E 0 Z
def PB:O_ ((Int×QMk)⊕QMk):=cond (d<e.length) (j_ (idx e1 d) λc=>j_ (JI c) λa=>j_ (idx e1 d) λf=>Q (y_ ((Qh (d+1)),(e1.set d.toNat a))))<|Q (i_ e1)
def Hx:O_ QMk:=j_ (DR e) λa=>j_ (Qq (λst=>PB a st.1 st.2) (0,a)) (λq=>Q q)
def PC {g}:CT 40 [.M 1 Qj g] [] (Hx g) (λr=>(.P 600 r)) (λr=>[(600,.R 1 Qj r)]):=
 W 22 func40 Z<|oC_ 8 [.d] Ow Z λi=>lA_ 12 [9] [] (λst=>([(3,.P 7 st.2),(8,.P 7 st.2),(10,.I st.1)],[(7,.R 1 Qj st.2)])) [] [] (λq=>(.exit 0,([(3,.P 7 q)],[(7,.R 1 Qj q)]))) Z (λ⟨c,e⟩=>I 6 Z (vA_ 8 Qj Z λh=>oC_ 8 [.d] Fh Z λb=>B λf a=>G [1] Z (Yu a Z)<|zF_ 0 18 [18] [] Z<|g3_ [.st (Qj f) ((e.set c.toNat b).map Qj),7,.S 3 (.own 7 (e.set c.toNat b).length),.S 8 (.own 7 (e.set c.toNat b).length)] Z ⟨(Xq (Yz a).2),EC Z⟩ (congrArg (λn=>V.own 7 n) (by simp)) (congrArg (λn=>V.own 7 n) (by simp))<|R 0 Z)<|X 2 Z) λj=>gT_ [9,.ren 7 600] Z<|E 0 Z
def Wf:O_ (L_ Qm):=j_ (chk ((([]:L_ Qm).length+n.length)*136<=140737488355328)) λ_=>Q (([]:L_ Qm)++n)
def PE {a}:CT 42 [.M 11 Qt a] [] (Wf a) (λr=>(.P 600 r)) (λr=>[(600,.R 11 Qt r)]):=
 W 8 func42 Z<|zN_ 9 QAM (Q ([]:L_ Qm)) Z (aD_ 10 2 600 11 Z<|E 0 Z)<|kA_ λb=>K [8,.O 5 (.arr 11 (([]:L_ Qm).map Qt)),.S 5 (.own 5 ([]:L_ Qm).length),1,.x (λz=>z.app 5 11 7 (([]:L_ Qm)++a).length ((([]:L_ Qm)++a).map Qt)),4,.ren 5 600] Z (λc=>(a3_ Z Z (Qf.appSB (by_:=136) (zs:=[.I 0,.I 0,.Y,.Y,.Y,.I 0,.I 0,.I 0,.I 0,.I 0,.I 0]) (e:=111) (e':=111) (z':=11) (by':=136) Z Z (QP c.n Z) Z Z Z Qx (by kernel_rfl) (by kernel_rfl) (by kernel_rfl) Z (by decide) (by decide) (Qgn b Qx) Z WA (CX Qx))))<|E 0 Z
def XF:O_ LI_:=j_ (chk ((([]:L_ Int).length+f.length)*8<=140737488355328)) λ_=>Q (([]:L_ Int)++f)
def Yf {a}:CT 43 [.M 1 Qb a] [] (XF a) (λr=>(.P 600 r)) (λr=>[(600,.R 1 Qb r)]):=
 W 8 func43 Z<|zN_ 9 QAN (Q ([]:L_ Int)) Z (aD_ 10 2 600 1 Z<|E 0 Z)<|kA_ λb=>K [8,.O 5 (.arr 1 (([]:L_ Int).map Qb)),.S 5 (.own 5 ([]:L_ Int).length),1,.x (λz=>z.app 5 1 7 (([]:L_ Int)++a).length ((([]:L_ Int)++a).map Qb)),4,.ren 5 600] Z (λc=>(a3_ Z Z (Qf.appSB (by_:=8) (zs:=[.I 0]) (e:=3) (e':=3) (z':=1) (by':=8) Z Z (QP c.n Z) Z Z Z Qx (by kernel_rfl) (by kernel_rfl) (by kernel_rfl) Z (by decide) (by decide) (Qgn b Qx) Z WA (CX Qx))))<|E 0 Z
def FX (d:(L_ Qm)):O_ ((Int×(L_ Qm))⊕(L_ Qm)):=cond (c<n.length) (j_ (idx d c) λa=>j_ (XF a.Mode.Vars) λe=>j_ (XF a.Mode.Ins) λf=>j_ (XF a.Mode.Outs) λg=>j_ (idx d c) λb=>Q (y_ ((Qh (c+1)),(d.set c.toNat (Qm.mk b.Id (Qd.mk a.Mode.Task e f g) b.Batch b.Until)))))<|Q (i_ d)
def YN:O_ QF:=j_ (Hx i.M) λc=>j_ (Wf i.Items) λb=>j_ (Qq (λst=>FX b st.1 st.2) (0,b)) (λq=>Q (QF.mk c q i.Next i.Now))
def Jm {g}:CT 23 [.G Xw g] [] (YN g) (λr=>(.G Xw r)) no_:=
 W 43 func23 Z<|B λj p=>B λx t=>D 7 Z [.N,.N,.B (.cd f_ [.d] 1 (j.map Qj) j.length),.N,.N,.B (.co f_ [.d] 11 (x.map Qt) x.length),.N,.m .s,.N,.m .s] [] [] [1,2] [1,2,11] Z Z (a2_ ⟨(PC _ p),Qx⟩ ⟨(PE _ t),Qx,.inl Z⟩) Z<|lA_ 11 [1,2,16] [2] (λst=>([(15,.P 11 st.2),(17,.I st.1)],[(1,.var [.M 1 Qj j,.P 11 st.2,.I g.Next,.I g.Now]),(11,.R 11 Qt st.2)])) [1,2] [2] (λq=>(.exit 0,([],[(1,.var [.M 1 Qj j,.P 11 q,.I g.Next,.I g.Now]),(11,.R 11 Qt q)]))) Z (λ⟨u,v⟩=>I 6 Z (vA_ 8 Qt Z λh=>B λc k=>B λe l=>B λf o=>B λb i=>D 13 Z [.N,.N,.N,.N,.N,.N,.N,.B (.cd f_ [.d] 1 (c.map Qb) c.length),.N,.N,.B (.cd f_ [.d] 1 (e.map Qb) e.length),.N,.N,.B (.cd f_ [.d] 1 (f.map Qb) f.length),.E (.agg (Qy (Qd.mk h.Mode.Task c e f))),.N,.N,.m (.st (Qt b) ((v.set u.toNat (Qm.mk b.Id (Qd.mk h.Mode.Task c e f) b.Batch b.Until)).map Qt))] [] [] [1,2,15,16,17] [1,2,11] Z Z (a6_ ⟨(Yf _ k),Qx⟩ ⟨(Yf _ l),Qx⟩ ⟨(Yf _ o),Qx⟩ Z (Yu i Z) ⟨(Xq (Yz i).2),EC Z⟩) Z<|g2_ [6,.S 15 (.own 11 (v.set u.toNat (Qm.mk b.Id (Qd.mk h.Mode.Task c e f) b.Batch b.Until)).length),.O 1 (.var [.M 1 Qj j,.own 11 (v.set u.toNat (Qm.mk b.Id (Qd.mk h.Mode.Task c e f) b.Batch b.Until)).length,.I g.Next,.I g.Now])] Z (congrArg (λn=>V.own 11 n) (by simp)) (congrArg (λn=>Ob.var [.M 1 Qj j,.own 11 n,.I g.Next,.I g.Now]) (by simp))<|R 0 Z)<|X 2 Z) λw=>G [9,.frz 11 (w.map Qt) [] [2]] Z (a1_ ⟨(Kf Qx),U⟩)<|E 0 Z
def WX : O_ (Unit⊕(Unit⊕(Unit⊕(Unit⊕Unit)))):=Q (y_ ())
def FY:O_ (Unit⊕(Unit⊕(Unit⊕(Unit⊕Unit)))):=cond (l.call.Do==1) (Q (i_ (y_ ())))<|cond (l.call.Do==2) WX<|cond (l.call.Do==3) WX<|cond (l.call.Do==4) WX<|cond (l.call.Do==5) (Q (i_ (i_ (y_ ()))))<|cond (l.call.Do==6) (Q (i_ (i_ (i_ (y_ ())))))<|Q (i_ (i_ (i_ (i_ ()))))
def Ec {a}:CP 44 [.L 621] [(621,.W QZ a)] (FY a) ((Sum.elim (λq=>(Gives (.clo (.func 72) [.L 621] []) [(621,.W QZ a)])) (Sum.elim (λq=>(Gives (.clo (.func 71) [.L 621] []) [(621,.W QZ a)])) (Sum.elim (λq=>(Gives (.clo (.func 73) [.L 621] []) [(621,.W QZ a)])) (Sum.elim (λq=>(Gives (.clo (.func 74) [.L 621] []) [(621,.W QZ a)])) (λq=>(Gives (.lit (.nilFunc)) [(621,.W QZ a)]))))))):=
 wP_ 28 func44 Z<|mU_ 20 [0] [621] ([],[]) (WX) Z (I 13 Z (E 25 Z)<|I 9 Z (uA_ 8 Z Z)<|I 9 Z (uA_ 8 Z Z)<|I 9 Z (uA_ 8 Z Z)<|I 9 Z (E 25 Z)<|I 8 Z (E 24 Z)<|E 21 Z)<|E 16 Z
def Fz:O_ Int:=cond (h<a) (Q 0)<|Q (Qh ((Qh (min2 (IntKind.u64.wrap ((IntKind.u64.wrap h)-(IntKind.u64.wrap a))) 1024))+1))
def QlL {a b}:CT 339 [.I a,.I b] [] (Fz a b) V.I no_:=
 W 16 func339 Z<|I 13 Z (E 7 Z)<|K [5,.o (.any (.i .u64 (IntKind.u64.wrap b)) n_),1,.o (.any (.i .u64 (IntKind.u64.wrap a)) n_),2,.o (.any (.I (Qh (min2 (IntKind.u64.wrap ((IntKind.u64.wrap b)-(IntKind.u64.wrap a))) 1024))) n_),5] Z (λd=>(a3_ (λz c e _=>Qf.convI Z Z (QP d.n Z) (c _ _ Z) QlK Qi8) (λz c e _=>Qf.convI Z Z (QP d.n Z) (c _ _ Z) QlK Qi8) (λz c e _=>Qf.convI Z Z (QP d.n Z) (c _ _ Z) Qi8 QlK)))<|E 0 Z
def AA:O_ Bool:=
 Q (cond (97<=a) ((a<=122)||((65<=a)&&(a<=90)))<|((65<=a)&&(a<=90)))
def Qbr {d}:CT 305 [.i .u8 d] [] (AA d) V.b no_:=
 W 17 func305 Z<|T 6 [] [] ([(2,.b (cond (97<=d) ((d<=122)||((65<=d)&&(d<=90)))<|((65<=d)&&(d<=90))))],[]) Z (H 4 Z (λa=>H 4 Z (λc=>Y 9 2 Z (Te a (Jf c Z))) λc=>H 3 Z (λe=>Y 6 2 Z (Te a (Xk c (Ye e Z)))) λe=>Y 6 2 Z (Te a (Xk c (YH e Z)))) λa=>H 7 Z (λf=>Y 6 2 Z (QfH a (Ye f Z))) λf=>Y 6 2 Z (QfH a (YH f Z)))<|E 2 Z
def LD (a:ByteArray):O_ Bool:=cond (KT a (⟨#[]⟩:ByteArray)) (Q t_)<|cond (32<(a.size:Int)) (Q t_)<|(sidx a 0).bind λb=>(AA b).bind λc=>Q (!c)
def Tj:O_ Bool:=j_ (AA a) λb=>cond (!b) (cond (a<48) (Q (a != 95))<|cond (57<a) (Q (a != 95))<|Q f_)<|Q f_
def Tk:O_ (Int⊕(Unit⊕Unit)):=cond m (Q (i_ (y_ ())))<|Q (y_ (Qh (a+1)))
def Uu:O_ (Int⊕(Unit⊕Unit)):=cond (d<(k1.size:Int)) (j_ (sidx k1 d) λb=>j_ (Tj b) (λc=>Tk d c))<|Q (i_ (i_ ()))
def Tl : O_ Bool:=Q f_
def Tm : O_ Bool:=Q t_
def Tn:O_ Bool:=cond h0 (Q f_)<|j_ (Qq (λst=>Uu k1 st) 0) (Sum.elim (λq=>Tl) (λq=>Tm))
def GD:O_ Bool:=j_ (LD k1) (λb=>Tn k1 b)
def Tp {f}:CT 254 [.s f] [] (GD f) V.b no_:=
 W 42 func254 Z<|mV_ 7 [0] [] (λg=>([(17,.b g)],[])) Z (I 4 Z (M 11 Z)<|I 5 Z (M 6 Z)<|B λh d=>G [1,.o (.num h)] Z d<|A 0 Qbr Z λk=>M 3 Z) λg=>I 1 Z (E 7 Z)<|F 11 [0,19] [] (λst=>([(20,.I st)],[])) [] [] (λq=>(.ret,([(2,.b f_)],[]))) [] [] (λq=>(.exit 0,([],[]))) Z (λi=>I 6 Z (B λe a=>G [14,.o (.num e),4] Z a<|mV_ 0 [0,19,20] [] (λc=>([(40,.b c)],[])) Z (A 2 Qbr Z λj=>I 2 Z (I 3 Z (M 9 Z)<|I 5 Z (M 4 Z)<|M 4 Z)<|M 12 Z) λc=>I 1 Z (L 8 Z)<|R 7 Z)<|X 2 Z) (λ_=>E 2 Z) (λ_=>E 8 Z)
def RA (c:QSB):O_ Bool:=j_ (GD k1) λb=>cond (!b) (Q t_)<|Q ((Xg c k1).getD f_)
def RC (d:QSB)(c:ByteArray)(b:Bool):O_ ((Int×QSB)⊕(Unit⊕Unit)):=cond b (Q (i_ (y_ ())))<|Q (y_ ((Qh (a+1)),(YQ TX d c t_)))
def DS (e:QSB):O_ ((Int×QSB)⊕(Unit⊕Unit)):=cond (o<e2.length) (j_ (idx e2 o) λa=>j_ (RA a e) (λc=>RC o e a c))<|Q (i_ (i_ ()))
def RD : O_ Bool:=Q f_
def RF : O_ Bool:=Q t_
def BZ:O_ Bool:=j_ (Qq (λst=>DS e2 st.1 st.2) (0,([]:QSB))) (Sum.elim (λq=>RD) (λq=>RF))
def Qkr {g}:CT 340 [.M 1 LC g] [] (BZ g) V.b no_:=
 W 24 func340 Z<|N 15 Z<|F 4 [3,7,8] [] (λst=>([(9,.I st.1)],[(6,.map (QO V.s V.b st.2))])) [] [] (λq=>(.ret,([(2,.b f_)],[]))) [] [] (λq=>(.exit 0,([],[]))) Z (λ⟨p,d⟩=>I 6 Z (J 6 Z λa=>mV_ 6 [3,5,7,8,9] [6] (λc=>([(20,.b c)],[])) Z (A 2 Tp Z λi=>I 2 Z (M 5 Z)<|K [2,.o (.any (.b ((Xg d a).getD f_)) n_),2] Z (λj=>(a1_ (λy h m _=>Qf.lookup (z:=f_) Z Z (QP j.n Z) (h _ _ Z) (m _ _ Z) (h _ _ Z) Qdf Qhv Qu4 Z)))<|M 0 Z) λc=>I 1 Z (L 9 Z)<|G [5,.x (λy=>y.set 6 (.map (QO V.s V.b (YQ TX d a t_)))),7] Z (Qf.mapUpdate (e:=V.s) (f:=V.b) (l:=d) (k:=a) (v:=t_) TX Z Z Z Z Z Z Qdf Qhv Z)<|R 0 Z)<|X 2 Z) (λ_=>E 2 Z) (λ_=>E 8 Z)
def GN : O_ Int:=Q 0
def FA (b:QK)(a:LI_):O_ Int:=cond (b.Kind==1) (j_ (Fz b.Lo b.Hi) λe=>Q e)<|cond (b.Kind==2) (j_ (BZ b.Names) λf=>cond f (Q b.Names.length)<|GN)<|cond (b.Kind==3) (cond ((0<=(min2 b.First b.Then))&&((max2 b.First b.Then)<(a.length:Int))) (j_ (idx a b.First) λc=>j_ (idx a b.Then) λd=>Q (Qh (c*d)))<|GN)<|GN
def QlM {e c}:CT 308 [.G Xm e,.M 1 Qb c] [] (FA e c) V.I no_:=
 W 51 func308 Z<|mU_ 6 [] [] ([],[]) (GN) Z (I 13 Z (A 6 QlL Z λj=>E 6 Z)<|I 6 Z (A 4 Qkr Z λk=>I 2 Z (N 4 Z<|E 6 Z)<|uA_ 2 Z Z)<|I 6 Z (T 1 [1,2] [2] ([(39,.b ((0<=(min2 e.First e.Then))&&((max2 e.First e.Then)<(c.length:Int))))],[]) Z (H 8 Z (λd=>N 6 Z<|Y 3 39 Z (Ye d Z)) λd=>Y 10 39 Z (YH d Z))<|I 1 Z (B λh f=>B λi g=>D 1 Z (dz_ [(3,.B (.row (Qb h))),(4,.B (.row (Qb i))),(2,.N)]) [] [] [4] [] Z Z (a2_ (XE f) (XE g)) Z<|E 4 Z)<|uA_ 2 Z Z)<|uA_ 2 Z Z)<|E 6 Z
def RG (a:QK)(d:QSB)(b:Int):O_ Bool:=j_ (GD a.Name) λc=>cond (!c) (Q t_)<|cond ((Xg d a.Name).getD f_) (Q t_)<|cond (b<1) (Q t_)<|Q (decide (1024<b))
def RH (a:QSB)(c:QK)(d:Bool):O_ ((Int×QSB×LI_)⊕(Unit⊕LI_)):=cond d (Q (i_ (y_ ())))<|j_ (chk (f.length+([j0]:L_ Int).length<=4294967296)) λ_=>Q (y_ ((Qh (o+1)),(YQ TX a c.Name t_),(f++([j0]:L_ Int))))
def DT (g:QSB)(a:LI_):O_ ((Int×QSB×LI_)⊕(Unit⊕LI_)):=cond (o<g0.length) (j_ (idx g0 o) λb=>j_ (FA b a) λc=>j_ (RG b g c) (λe=>RH a c o g b e))<|Q (i_ (i_ a))
def Uv:O_ (LI_×Bool):=cond (32<(g0.length:Int)) (Q (([]:L_ Int),f_))<|j_ (Qq (λst=>DT g0 st.1 st.2.1 st.2.2) (0,([]:QSB),([]:L_ Int))) (Sum.elim (λq=>Q (([]:L_ Int),f_)) (λq=>Q (q,t_)))
def QbY {h}:CT 257 [.M 7 Xm h] [] (Uv h) (λr=>(.tup [.M 1 Qb r.1,.b r.2])) no_:=
 W 49 func257 Z<|N 10 Z<|I 3 Z (gT_ [8,.denil 2 [Q 1]] Z<|E 0 Z)<|N 17 Z<|aD_ 4 5 43 1 Z<|F 0 [4,13,14] [] (λst=>([(5,.P 43 st.2.2),(15,.I st.1)],[(12,.map (QO V.s V.b st.2.1)),(43,.R 1 Qb st.2.2)])) [] [] (λq=>(.ret,([(2,.Y),(3,.b f_)],[]))) [] [] (λq=>(.exit 0,([(5,.P 43 q)],[(43,.R 1 Qb q)]))) Z (λ⟨y,g,j⟩=>I 6 Z (J 6 Z λa=>cV_ 9 [.d,.o _] QlM Z λm=>mV_ 5 [4,5,7,8,13,14,15] [7,12,43] (λc=>([(39,.b c)],[])) Z (A 3 Tp Z λp=>I 2 Z (M 14 Z)<|K [3,.o (.any (.b ((Xg g a.Name).getD f_)) n_),2] Z (λt=>(a1_ (λσ i u _=>Qf.lookup (z:=f_) Z Z (QP t.n Z) (i _ _ Z) (u _ _ Z) (i _ _ Z) Qdf Qhv Qu4 Z)))<|I 0 Z (M 8 Z)<|I 4 Z (M 4 Z)<|M 4 Z) λc=>I 1 Z (L 10 Z)<|G [7,.x (λσ=>σ.set 12 (.map (QO V.s V.b (YQ TX g a.Name t_)))),5] Z (Qf.mapUpdate (e:=V.s) (f:=V.b) (l:=g) (k:=a.Name) (v:=t_) TX Z Z Z Z Z Z Qdf Qhv Z)<|pA_ 0 1 Qb Z<|R 8 Z)<|X 2 Z) (λ_=>gT_ [2,.denil 2 [Q 1]] Z<|E 0 Z) (λw=>zF_ 10 43 [2] [] Z<|E 0 Z)
def Gt:O_ (Bool×JD):=
 j_ (Uv g0) λc=>
 cond ((!c.2)||((o<0)||(g0.length<=o))) (Q (f_,(JD.mk ([]:(L_ QK)) ([]:LI_) 0)))<|Q (t_,(JD.mk g0 c.1 o))
def Qad {e d}:CT 208 [.M 7 Xm e,.I d] [] (Gt e d) (λr=>(.tup [.G NM r.2,.b r.1])) no_:=
 W 30 func208 Z<|A 9 QbY Z λf=>T 9 [0,1,4,6] [4] ([(24,.b ((!f.2)||((d<0)||(e.length<=d))))],[]) Z (H 4 Z (λc=>Y 10 24 Z (Jf c Z)) λc=>H 4 Z (λa=>Y 6 24 Z (Xk c (Jf a Z))) λa=>N 2 Z<|Y 3 24 Z (Xk c (Xk a Z)))<|I 1 Z (G [2,.v .no [Q 7,Q 1,n_] (.agg (NM (JD.mk ([]:(L_ QK)) ([]:LI_) 0))),6] Z Z<|E 0 Z)<|E 13 Z
def Jg:O_ Int:=j_ (Gt g0 o) λb=>cond (!b.1) (Q 0)<|j_ (idx b.2.sizes o) λd=>Q d
def LE {a b}:CT 117 [.M 7 Xm a,.I b] [] (Jg a b) V.I no_:=
 W 20 func117 Z<|A 9 Qad Z λc=>I 15 Z (E 7 Z)<|J 7 Z λd=>E 5 Z
def Vy:O_ Bool:=j_ (Gr g) λa=>cond (!a) (Q t_)<|cond (0<(g.length:Int)) (j_ (idx g (Qh ((g.length:Int)-1))) λd=>Q (decide (c<=d.1)))<|Q f_
def Vz:O_ (Int⊕(Unit⊕Unit)):=cond m (Q (i_ (y_ ())))<|Q (y_ (Qh (a+1)))
def AB:O_ (Int⊕(Unit⊕Unit)):=cond (e0<e.length) (j_ (idx e e0) λg=>j_ (idx k0.Places e0) λb=>j_ (Jg k0.Colours b.Colour) λc=>j_ (Vy g c) (λd=>Vz e0 d))<|Q (i_ (i_ ()))
def Cp:O_ Bool:=cond ((e.length:Int)!=b.Places.length) (Q f_)<|j_ (Qq (λst=>AB e b st) 0) (Sum.elim (λq=>Q f_) (λq=>Q t_))
def QeK {j k}:CT 64 [.G Qi j,.M 1 Qj k] [] (Cp j k) V.b no_:=
 W 50 func64 Z<|N 10 Z<|N 2 Z<|I 3 Z (E 7 Z)<|N 6 Z<|F 4 [2,14,15] [2] (λst=>([(16,.I st)],[])) [] [] (λq=>(.ret,([(4,.b f_)],[]))) [] [] (λq=>(.exit 0,([],[]))) Z (λn=>I 6 Z (J 7 Z λo=>B λh e=>B λi f=>D 6 Z (dz_ [(5,.B (.row (Xd h))),(2,.B (.C2 (.I i))),(0,.N)]) [] [] [2,6,7,14,15,16] [2] Z Z (a2_ (XE e) (LE _ f)) Z<|mV_ 2 [2,14,15,16] [2] (λg=>([(48,.b g)],[])) Z (A 2 BY Z λl=>I 2 Z (M 16 Z)<|N 1 Z<|I 2 Z (N 2 Z<|J 1 Z λm=>M 7 Z)<|M 12 Z) λg=>I 1 Z (L 8 Z)<|R 7 Z)<|X 2 Z) (λ_=>E 2 Z) (λ_=>E 8 Z)
def GE:O_ Bool:=Q ((h<=a)&&(a<=c))
def GO {e a c}:CT 215 [.I e,.I a,.I c] [] (GE e a c) V.b no_:=
 W 15 func215 Z<|T 6 [] [] ([(6,.b ((a<=e)&&(e<=c)))],[]) Z (H 5 Z (λd=>Y 6 6 Z (Ye d Z)) λd=>Y 6 6 Z (YH d Z))<|E 2 Z
def Ir:O_ Int:=Q (Qh ((Qh (k.Open+k.Done))+k.Failed))
def QeL {a}:CT 227 [.G XV a] [] (Ir a) V.I no_:=
 W 11 func227 Z<|E 20 Z
def NN:O_ Bool:=j_ (GE k.Most 1 16) λb=>cond (!b) (Q t_)<|j_ (GE k.Enough 1 k.Most) λc=>Q (!c)
def Yy:O_ (Int⊕(Unit⊕Unit)):=cond (c<(([k.Open,k.Done,k.Failed]:L_ Int).length:Int)) (j_ (idx ([k.Open,k.Done,k.Failed]:L_ Int) c) λa=>j_ (GE a 0 k.Most) λd=>cond (!d) (Q (i_ (y_ ())))<|Q (y_ (Qh (c+1))))<|Q (i_ (i_ ()))
def VA:O_ Bool:=j_ (Ir k) λa=>j_ (GE a 1 k.Most) λb=>Q b
def EG:O_ Bool:=cond m (Q f_)<|j_ (Qq (λst=>Yy k st) 0) (Sum.elim (λq=>Q f_) (λq=>VA k))
def JR:O_ Bool:=j_ (NN k) (λb=>EG k b)
def NO {e}:CT 134 [.G XV e] [] (JR e) V.b no_:=
 W 40 func134 Z<|mV_ 8 [1] [1] (λj=>([(16,.b j)],[])) Z (A 3 GO Z λo=>I 2 Z (M 8 Z)<|A 4 GO Z λp=>M 3 Z) λj=>I 1 Z (E 7 Z)<|G [11,.v (.bd []) [] (.sl 1 (([e.Open,e.Done,e.Failed]:L_ Int).map Qb))] Z Z<|N 0 Z<|F 4 [1,23,24] [1] (λst=>([(25,.I st)],[])) [] [] (λq=>(.ret,([(2,.b f_)],[]))) [1] [1] (λq=>(.exit 0,([],[]))) Z (λk=>I 6 Z (J 6 Z λl=>A 9 GO Z λm=>I 3 Z (L 8 Z)<|R 7 Z)<|X 2 Z) (λ_=>E 2 Z) (λ_=>B λh f=>B λi g=>D 3 Z [.N,.B (.C1 (.I h)),.N,.N,.B (.C3 (.b i)),.N] [] [] [2] [] Z Z (a2_ (QeL _ f) (GO _ g)) Z<|E 2 Z)
def PF:O_ Bool:=j_ (JR k) λb=>cond b (cond (k.Enough<=k.Done) (Q t_)<|Q (k.Open==0))<|Q f_
def Qae:O_ Bool:=Q m
def KU:O_ Bool:=j_ (PF k) (λb=>Qae b)
def Qaf {a}:CT 128 [.G XV a] [] (KU a) V.b no_:=
 W 17 func128 Z<|mV_ 7 [] [] (λc=>([(2,.b c)],[])) Z (A 2 NO Z λd=>I 1 Z (I 6 Z (M 7 Z)<|M 7 Z)<|M 13 Z) λc=>E 2 Z
def Tq:O_ Bool:=cond (p.Id<=i0) (Q t_)<|cond (j2<=p.Id) (Q t_)<|cond (p.Until<0) (Q t_)<|j_ (JR p.Batch) λc=>cond (!c) (Q t_)<|j_ (KU p.Batch) λd=>Q d
def Qdj (b:Bool):O_ ((Int×Int)⊕(Unit⊕Unit)):=cond b (Q (i_ (y_ ())))<|Q (y_ (p.Id,(Qh (i0+1))))
def Uw:O_ ((Int×Int)⊕(Unit⊕Unit)):=cond (s<n.length) (j_ (idx n s) λb=>j_ (Tq b d c) (λa=>Qdj b s a))<|Q (i_ (i_ ()))
def SF:O_ Bool:=j_ (Qq (λst=>Uw n c st.1 st.2) (0,0)) (Sum.elim (λq=>Q f_) (λq=>Q (decide ((n.length:Int)<=64))))
def QlP {d next_2}:CT 75 [.M 11 Qt d,.I next_2] [] (SF d next_2) V.b no_:=
 W 46 func75 Z<|N 14 Z<|F 4 [0,1,8,9] [] (λst=>([(5,.I st.1),(10,.I st.2)],[])) [] [] (λq=>(.ret,([(4,.b f_)],[]))) [0] [] (λq=>(.exit 0,([],[]))) Z (λ⟨c,h⟩=>I 6 Z (J 6 Z λe=>mV_ 7 [0,1,7,8,9,10] [7] (λa=>([(39,.b a)],[])) Z (I 6 Z (M 22 Z)<|I 6 Z (M 16 Z)<|I 5 Z (M 11 Z)<|A 2 NO Z λf=>I 3 Z (M 5 Z)<|A 2 Qaf Z λg=>M 2 Z) λa=>I 1 Z (L 9 Z)<|R 13 Z)<|X 2 Z) (λ_=>E 2 Z) (λ_=>N 5 Z<|E 5 Z)
def Uk (b:JD):O_ Bool:=cond (0<=a) (j_ (idx b.sizes b.k) λc=>Q (decide (a<c)))<|Q f_
def ZO:O_ Bool:=Q m
def Wg (a:JD)(b:Int):O_ Bool:=j_ (Uk b a) (λc=>ZO c)
def ZP {a c}:CT 292 [.G NM a,.I c] [] (Wg a c) V.b no_:=
 W 17 func292 Z<|mV_ 7 [] [] (λd=>([(4,.b d)],[])) Z (I 4 Z (J 5 Z λe=>M 5 Z)<|M 11 Z) λd=>E 2 Z
def KC (a:JD):O_ QK:=j_ (idx a.all a.k) λb=>Q b
def Hy {a}:CT 293 [.G NM a] [] (KC a) (λr=>(.G Xm r)) no_:=
 W 9 func293 Z<|J 12 Z λb=>E 5 Z
def FZ:O_ Bool:=cond (!h4.1) (Q t_)<|j_ (Wg h4.2 i3) λa=>Q (!a)
def Ha (e:Bool):O_ (Int×Bool):=cond e (Q (0,f_))<|j_ (KC h4.2) λa=>cond (a.Kind==1) (j_ (KC h4.2) λb=>Q ((Qh (b.Lo+i3)),t_))<|Q (i3,t_)
def Gd:O_ (Int×Bool):=j_ (Gt g0 o) λb=>j_ (FZ b g3) (λe=>Ha b g3 e)
def Qjb {f g h}:CT 228 [.M 7 Xm f,.I g,.I h] [] (Gd f g h) (λr=>(.tup [.I r.1,.b r.2])) no_:=
 W 36 func228 Z<|A 10 Qad Z λl=>mV_ 11 [2,8] [8] (λi=>([(16,.b i)],[])) Z (I 4 Z (M 7 Z)<|A 2 ZP Z λj=>M 4 Z) λi=>I 1 Z (E 9 Z)<|A 3 Hy Z λa=>K [.o (.any (.I a.Kind) n_),4] Z (λc=>(a1_ (λz d k _=>Qf.field Z Z (QP c.n Z) (d _ _ Z) QyY Z)))<|I 0 Z (A 3 Hy Z λe=>K [.o (.any (.I e.Lo) n_),9] Z (λc=>(a1_ (λz d k _=>Qf.field Z Z (QP c.n Z) (d _ _ Z) QyZ Z)))<|E 0 Z)<|E 11 Z
def GF:O_ ((Int×LI_)⊕(Unit⊕LI_)):=cond (e0<j.Vars.length) (j_ (idx j.Vars e0) λf=>j_ (idx d4 e0) λg=>j_ (Gd k0.Colours f.Colour g) λe=>cond (!e.2) (Q (i_ (y_ ())))<|j_ (idx g1 e0) λi=>Q (y_ ((Qh (e0+1)),(g1.set e0.toNat e.1))))<|Q (i_ (i_ g1))
def DA:O_ (LI_×Int):=
 cond ((c<0)||(b.Tasks.length<=c)) (Q (([]:L_ Int),3))<|j_ (idx b.Tasks c) λa=>
 cond ((f.length:Int)!=a.Vars.length) (Q (([]:L_ Int),1))<|j_ (chk (decide (0<=(a.Vars.length:Int))&&decide ((a.Vars.length:Int)<=(a.Vars.length:Int))&&decide ((a.Vars.length:Int)<=4294967296))) λ_=>
 j_ (Qq (λst=>GF a f b st.1 st.2) (0,(List.replicate (a.Vars.length:Int).toNat (0:Int)))) (Sum.elim (λq=>Q (([]:L_ Int),1)) (λq=>Q (q,0)))
def QbJ {t e f}:CT 136 [.G Qi t,.I e,.M 1 Qb f] [] (DA t e f) (λr=>(.tup [.M 1 Qb r.1,.I r.2])) no_:=
 W 64 func136 Z<|T 9 [1,2,3] [3] ([(22,.b ((e<0)||((t.Tasks.length:Int)<=e)))],[]) Z (H 4 Z (λi=>Y 7 22 Z (Jf i Z)) λi=>N 3 Z<|Y 3 22 Z (Xk i Z))<|I 1 Z (gT_ [8,.denil 6 [Q 1]] Z<|E 0 Z)<|J 7 Z λj=>N 9 Z<|N 1 Z<|I 3 Z (gT_ [8,.denil 6 [Q 1]] Z<|E 0 Z)<|N 5 Z<|kA_ λk=>g2_ [.o (.rows ((List.replicate (j.Vars.length:Int).toNat (0:Int)).map Qb)),.S 36 (.own 36 (List.replicate (j.Vars.length:Int).toNat (0:Int)).length),7] Z ⟨k,Qsm Z⟩ (by simp)<|N 0 Z<|F 4 [2,3,37,38] [3] (λst=>([(9,.P 36 st.2),(39,.I st.1)],[(36,.R 1 Qb st.2)])) [] [] (λq=>(.ret,([(6,.Y),(7,.I 1)],[]))) [] [] (λq=>(.exit 0,([(9,.P 36 q)],[(36,.R 1 Qb q)]))) Z (λ⟨l,m⟩=>I 6 Z (J 7 Z λw=>B λu p=>B λg s=>D 7 Z (dz_ [(6,.B (.row (Qb u))),(1,.B (.C3 (.tup [.I g.1,.b g.2]))),(4,.N)]) [] [] [2,3,9,10,12,13,37,38,39] [3,36] Z Z (a2_ (XE p) (Qjb _ s)) Z<|I 8 Z (L 10 Z)<|B λv h=>g3_ [7,.st (Qb v) ((m.set l.toNat g.1).map Qb),7,.S 9 (.own 36 (m.set l.toNat g.1).length)] Z (Yu h Z) ⟨(Xq (Yz h).2),EC Z⟩ (congrArg (λn=>V.own 36 n) (by simp))<|R 0 Z)<|X 2 Z) (λ_=>gT_ [2,.denil 6 [Q 1]] Z<|E 0 Z) (λx=>zF_ 10 36 [6] [] Z<|E 0 Z)
def VB:O_ ((Int×Int)⊕Int):=cond (i1<t.Kids.length) (j_ (idx t.Kids i1) λe=>j_ (f4 e) λb=>Q (y_ ((max2 q b),(Qh (i1+1)))))<|Q (i_ q)
def QeM:O_ Int:=Q (Qh (a+1))
def PG:O_ Int:=j_ (Qq (λst=>VB j3 f4 st.1 st.2) (0,0)) (λq=>QeM q)
def WB : Nat->Qs->O_ Int
 |0,_=>none|n+1,a=>PG (WB n) a
def VC:O_ Int:=WB (SizeOf.sizeOf t) t
def Qku {O:Qs->O_ Int}{hrec_expr_Depth:∀(a:Qs) {r:Int},O a=Q r->QX prog 269 [.G QY a] [] (Gives (.I r) [])}{a:Qs}:CT 269 [.G QY a] [] (PG O a) V.I no_:=
 W 20 func269 Z<|nR_ 16 BB Z<|lA_ 4 [7,8] [] (λst=>([(3,.I st.1),(9,.I st.2)],[])) [] [] (λq=>(.exit 0,([(3,.I q)],[]))) Z (λ⟨g,h⟩=>I 6 Z (xR_ 6 Kj Z λi f=>B λe b=>G [8,.o (.C1 (.I e)),9] Z (hrec_expr_Depth _ b)<|R 0 Z)<|X 2 Z) λj=>E 10 Z
def QbZ : ∀(fuel:Nat) (a:Qs) {r:Int},WB fuel a=Q r->QX prog 269 [.G QY a] [] (Gives (.I r) [])
 |0,_,_,h=>by cases h
 |n+1,a,_,h=>@Qku (WB n) (λ_ _ h=>QbZ n _ h) a _ h
def Qn3 (a){r}(h:VC a=Q r):QX prog 269 [.G QY a] [] (Gives (.I r) []):=QbZ _ a h
def Qag:O_ ((Int×Int)⊕Int):=cond (i1<t.Kids.length) (j_ (idx t.Kids i1) λe=>j_ (f4 e) λb=>Q (y_ ((Qh (q+b)),(Qh (i1+1)))))<|Q (i_ q)
def Qgo:O_ Int:=Q a
def SG:O_ Int:=j_ (Qq (λst=>Qag j3 f4 st.1 st.2) (1,0)) (λq=>Qgo q)
def Du : Nat->Qs->O_ Int
 |0,_=>none|n+1,a=>SG (Du n) a
def Qa4:O_ Int:=Du (SizeOf.sizeOf t) t
def QlQ {O:Qs->O_ Int}{hrec_expr_Size:∀(a:Qs) {r:Int},O a=Q r->QX prog 270 [.G QY a] [] (Gives (.I r) [])}{a:Qs}:CT 270 [.G QY a] [] (SG O a) V.I no_:=
 W 19 func270 Z<|nR_ 16 BB Z<|lA_ 4 [7,8] [] (λst=>([(3,.I st.1),(9,.I st.2)],[])) [] [] (λq=>(.exit 0,([(3,.I q)],[]))) Z (λ⟨g,h⟩=>I 6 Z (xR_ 6 Kj Z λi f=>B λe b=>G [8,.o (.C1 (.I e)),9] Z (hrec_expr_Size _ b)<|R 0 Z)<|X 2 Z) λj=>E 9 Z
def Qdk : ∀(fuel:Nat) (a:Qs) {r:Int},Du fuel a=Q r->QX prog 270 [.G QY a] [] (Gives (.I r) [])
 |0,_,_,h=>by cases h
 |n+1,a,_,h=>@QlQ (Du n) (λ_ _ h=>Qdk n _ h) a _ h
def QpX (a){r}(h:Qa4 a=Q r):QX prog 270 [.G QY a] [] (Gives (.I r) []):=Qdk _ a h
def Ca:O_ Int:=cond m (Q 1)<|cond (a==5) (Q 2)<|cond (a==6) (Q 3)<|Q (-1)
def Cb:O_ Int:=cond m (Q 0)<|cond (a==3) (Ca a (a==3))<|Ca a (a==4)
def Si:O_ Int:=cond (a==1) (Cb a (a==1))<|Cb a (a==2)
def QpY {a}:CT 310 [.I a] [] (Si a) V.I no_:=
 W 14 func310 Z<|mE_ 12 [3] [] (λc:Bool=>([(4,.b c)],[])) (λc=>Cb a c) Z (I 6 Z (P 1 Z Z)<|P 4 Z Z) λc=>I 0 Z (E 8 Z)<|mE_ 0 [3] [] (λd:Bool=>([(7,.b d)],[])) (λd=>Ca a d) Z (I 6 Z (P 1 Z Z)<|P 4 Z Z) λd=>I 0 Z (E 8 Z)<|I 6 Z (E 8 Z)<|I 6 Z (E 8 Z)<|E 9 Z
def ON:O_ Bool:=Q ((1<=a)&&(a<=11))
def Qn4 {JZ}:CT 311 [.I JZ] [] (ON JZ) V.b no_:=
 W 9 func311 Z<|T 6 [] [] ([(2,.b ((1<=JZ)&&(JZ<=11)))],[]) Z (H 4 Z (λa=>Y 5 2 Z (Ye a Z)) λa=>Y 5 2 Z (YH a Z))<|E 2 Z
def PH:O_ Bool:=j_ (k2 d3 i1) λc=>Q (!c)
def Qkv {O:Qs->Int->O_ Bool}{hrec_expr_parts:∀(g:Qs) (a:Int) {r:Bool},O g a=Q r->QX prog 271 [.G QY g,.I a] [] (Gives (.b r) [])}{h:Qs}{e:Int}:CT 313 [.G QY h,.L 621] [(621,.W Qb e)] (PH O h e) V.b (λ_=>[(621,.W Qb e)]):=
 W 8 func313 Z<|B λi f=>G [10,.o (.C2 (.b i)),5] Z (hrec_expr_parts _ _ f)<|E 0 Z
def XZ (h:Qs->Int->O_ Bool)(d:Int)(a:Int):O_ (Int⊕(Int⊕Unit)):=cond (a<j4.length) (j_ (idx j4 a) λe=>j_ (PH h e d) λb=>cond b (Q (i_ (y_ a)))<|Q (y_ (Qh (a+1))))<|Q (i_ (i_ ()))
def Kk:O_ Int:=j_ (Qq (λst=>XZ j4 k2 e3 st) 0) (Sum.elim (λq=>Q q) (λq=>Q (-1)))
def MK {O:Qs->Int->O_ Bool}{hrec_expr_parts:∀(g:Qs) (a:Int) {r:Bool},O g a=Q r->QX prog 271 [.G QY g,.I a] [] (Gives (.b r) [])}{h:(L_ Qs)}{e:Int}:CT 341 [.sl 3 (WJ h),.clo (.func 313) [] [.L 621]] [(621,.W Qb e)] (Kk O h e) V.I (λ_=>[(621,.W Qb e)]):=
 W 19 func341 Z<|nR_ 9 BB Z<|F 4 [0,1,7] [621] (λst=>([(8,.I st)],[])) [] [621] (λq=>(.ret,([(4,.I q)],[]))) [] [621] (λq=>(.exit 0,([],[]))) Z (λj=>I 6 Z (xR_ 15 Kj Z λk i=>B λf c=>G [1,.cm (.clo) [(621,621)] [(621,621)] [] [.d,.d] [(621,.W Qb e)] (.b f),2] Z (@Qkv O hrec_expr_parts _ _ _ c)<|I 0 Z (L 9 Z)<|R 7 Z)<|X 2 Z) (λl=>E 2 Z) (λ_=>E 8 Z)
def Ya:O_ Bool:=j_ (Kk k2 j4 e3) λc=>Q (decide (0<=c))
def Iu {O:Qs->Int->O_ Bool}{hrec_expr_parts:∀(f:Qs) (a:Int) {r:Bool},O f a=Q r->QX prog 271 [.G QY f,.I a] [] (Gives (.b r) [])}{g:(L_ Qs)}{c:Int}:CT 312 [.sl 3 (WJ g),.clo (.func 313) [] [.L 621]] [(621,.W Qb c)] (Ya O g c) V.b (λ_=>[(621,.W Qb c)]):=
 W 9 func312 Z<|B λh e=>G [9,.cm (.fn) [(621,621)] [(621,621)] [] [.d,.d] [(621,.W Qb c)] (.I h),5] Z (@MK O hrec_expr_parts _ _ _ e)<|E 0 Z
def VD:O_ Bool:=cond (t.Kind==5) (j_ (ON t.Num) λa=>Q (!a))<|Q f_
def VE:O_ Bool:=cond h0 (Q f_)<|j_ (Ya k2 d3.Kids i1) λc=>Q (!c)
def Iv:O_ Bool:=
 j_ (Si d3.Kind) λd=>
 cond ((d3.Kids.length:Int)!=d) (Q f_)<|cond ((d3.Kind==2)&&((d3.Num<0)||(i1<=d3.Num))) (Q f_)<|j_ (VD d3) (λc=>VE k2 d3 i1 c)
def Jt : Nat->Qs->Int->O_ Bool
 |0,_,_=>none|n+1,b,a=>Iv (Jt n) b a
def VF:O_ Bool:=Jt (SizeOf.sizeOf t) t s
def Qkw {O:Qs->Int->O_ Bool}{hrec_expr_parts:∀(f:Qs) (e:Int) {r:Bool},O f e=Q r->QX prog 271 [.G QY f,.I e] [] (Gives (.b r) [])}{f:Qs}{e:Int}:CT 271 [.G QY f,.I e] [] (Iv O f e) V.b no_:=
 W 43 func271 Z<|B λm k=>D 10 Z [.N,.N,.B (.ln f.Kids.length),.N,.N,.B (.C1 (.I m)),.N,.N] [] [] [2,3,5] [2,3] Z Z (a2_ (BB _) (QpY _ k)) Z<|I 1 Z (E 8 Z)<|T 1 [2,3] [2,3] ([(13,.b ((f.Kind==2)&&((f.Num<0)||(e<=f.Num))))],[]) Z (H 5 Z (λg=>H 4 Z (λh=>Y 8 13 Z (Ye g (Jf h Z))) λh=>Y 8 13 Z (Ye g (Xk h Z))) λg=>Y 12 13 Z (YH g Z))<|I 1 Z (E 8 Z)<|mV_ 1 [2,3] [2,3] (λi=>([(28,.b i)],[])) Z (I 5 Z (A 2 Qn4 Z λo=>M 4 Z)<|M 7 Z) λi=>I 1 Z (E 8 Z)<|B λl j=>G [8,.cm (.fn) [(621,3)] [(3,621)] [] [.d,.d] [(621,.W Qb e)] (.b l),5] Z (@Iu O hrec_expr_parts _ _ _ j)<|E 0 Z
def Qb0 : ∀(fuel:Nat) (c:Qs) (a:Int) {r:Bool},Jt fuel c a=Q r->QX prog 271 [.G QY c,.I a] [] (Gives (.b r) [])
 |0,_,_,_,h=>by cases h
 |n+1,c,a,_,h=>@Qkw (Jt n) (λ_ _ _ h=>Qb0 n _ _ h) c a _ h
def Qn5 (c a){r}(h:VF c a=Q r):QX prog 271 [.G QY c,.I a] [] (Gives (.b r) []):=Qb0 _ c a h
def VG:O_ Bool:=j_ (VC t) λd=>cond (d<=40) (j_ (Qa4 t) λe=>cond (e<=400) (j_ (VF t s) λc=>Q c)<|Q f_)<|Q f_
def Ac:O_ Bool:=j_ (VG t s) (λc=>Q c)
def VH {i a}:CT 200 [.G QY i,.I a] [] (Ac i a) V.b no_:=
 W 18 func200 Z<|mV_ 7 [] [] (λj=>([(4,.b j)],[])) Z (B λk f=>G [2,.o (.C1 (.I k)),2] Z (Qn3 _ f)<|I 0 Z (B λl g=>G [1,.o (.C1 (.I l)),3] Z (QpX _ g)<|I 0 Z (B λh e=>G [2,.o (.C2 (.b h)),3] Z (Qn5 _ _ e)<|M 0 Z)<|M 6 Z)<|M 11 Z) λj=>E 2 Z
def Wa:O_ (LI_⊕(LI_⊕(LI_⊕(LI_⊕LI_)))):=cond h0 (Q (i_ (i_ (y_ f))))<|cond (j0==5) (Q (i_ (i_ (i_ (y_ f)))))<|Q (i_ (i_ (i_ (i_ f))))
def WK:O_ (LI_⊕(LI_⊕(LI_⊕(LI_⊕LI_)))):=cond (j0==1) (Q (y_ f))<|cond (j0==2) (Q (i_ (y_ f)))<|cond (j0==3) (Wa f j0 (j0==3))<|Wa f j0 (j0==4)
def Ad {d a}:CP 328 [.M 1 Qb d,.I a] [] (WK d a) ((Sum.elim (λq=>(Gives (.clo (.func 349) [.M 1 Qb q] []) [])) (Sum.elim (λq=>(Gives (.clo (.func 350) [.M 1 Qb q] []) [])) (Sum.elim (λq=>(Gives (.clo (.func 351) [.M 1 Qb q] []) [])) (Sum.elim (λq=>(Gives (.clo (.func 352) [.M 1 Qb q] []) [])) (λq=>(Gives (.clo (.func 353) [.M 1 Qb q] []) []))))))):=
 wP_ 25 func328 Z<|I 18 Z (E 10 Z)<|I 6 Z (E 10 Z)<|mE_ 0 [0,5] [] (λc:Bool=>([(14,.b c)],[])) (λc=>Wa d a c) Z (I 6 Z (P 1 Z Z)<|P 4 Z Z) λc=>I 0 Z (E 10 Z)<|I 6 Z (E 10 Z)<|E 11 Z
def Qb1 (b:LI_)(a:Qs):O_ (Int×Int):=Q (a.Num,0)
def Qhw {a b}:CT 349 [.M 1 Qb a,.G QY b] [] (Qb1 a b) (λr=>(.tup [.I r.1,.I r.2])) no_:=
 W 8 func349 Z<|E 16 Z
def CY:O_ (Int×Int):=j_ (idx f j3.Num) λc=>Q (c,0)
def QfT {a b}:CT 350 [.M 1 Qb a,.G QY b] [] (CY a b) (λr=>(.tup [.I r.1,.I r.2])) no_:=
 W 11 func350 Z<|J 12 Z λc=>E 6 Z
def LF:O_ (Int×Int):=cond (((decide (a<0))==(decide (h<0)))&&((decide ((Qh (a+h))<0))!=(decide (a<0)))) (Q (0,6))<|Q ((Qh (a+h)),0)
def QrK {c d}:CT 360 [.I c,.I d] [] (LF c d) (λr=>(.tup [.I r.1,.I r.2])) no_:=
 W 23 func360 Z<|T 16 [6] [] ([(21,.b (((decide (c<0))==(decide (d<0)))&&((decide ((Qh (c+d))<0))!=(decide (c<0)))))],[]) Z (H 7 Z (λa=>Y 7 21 Z (Ye a Z)) λa=>Y 7 21 Z (YH a Z))<|I 1 Z (E 8 Z)<|E 10 Z
def DU:O_ (Int×Int):=cond (((decide (a<0))!=(decide (h<0)))&&((decide ((Qh (a-h))<0))!=(decide (a<0)))) (Q (0,6))<|Q ((Qh (a-h)),0)
def Qhx {c d}:CT 361 [.I c,.I d] [] (DU c d) (λr=>(.tup [.I r.1,.I r.2])) no_:=
 W 23 func361 Z<|T 16 [6] [] ([(21,.b (((decide (c<0))!=(decide (d<0)))&&((decide ((Qh (c-d))<0))!=(decide (c<0)))))],[]) Z (H 7 Z (λa=>Y 7 21 Z (Ye a Z)) λa=>Y 7 21 Z (YH a Z))<|I 1 Z (E 8 Z)<|E 10 Z
def Hz:O_ Int:=cond (a<0) (Q (IntKind.u64.wrap (0-(IntKind.u64.wrap a))))<|Q (IntKind.u64.wrap a)
def Qgp {a}:CT 368 [.I a] [] (Hz a) (λr=>(.i .u64 r)) no_:=
 W 10 func368 Z<|I 12 Z (K [3,.o (.any (.i .u64 (IntKind.u64.wrap a)) n_),6] Z (λb=>(a1_ (λz c d _=>Qf.convI Z Z (QP b.n Z) (c _ _ Z) QlK Qi8)))<|E 0 Z)<|K [5,.o (.any (.i .u64 (IntKind.u64.wrap a)) n_),4] Z (λb=>(a1_ (λz c d _=>Qf.convI Z Z (QP b.n Z) (c _ _ Z) QlK Qi8)))<|E 0 Z
def ER:O_ (Int×Int):=Q ((IntKind.u64.wrap ((IntKind.u64.wrap ((IntKind.u64.wrap ((Wd .u64 a 32)*(Wd .u64 h 32)))+(Wd .u64 (IntKind.u64.wrap ((IntKind.u64.wrap ((Wd .u64 a 32)*(Eo .u64 h 4294967295)))+(Wd .u64 (IntKind.u64.wrap ((Eo .u64 a 4294967295)*(Eo .u64 h 4294967295))) 32))) 32)))+(Wd .u64 (IntKind.u64.wrap ((Eo .u64 (IntKind.u64.wrap ((IntKind.u64.wrap ((Wd .u64 a 32)*(Eo .u64 h 4294967295)))+(Wd .u64 (IntKind.u64.wrap ((Eo .u64 a 4294967295)*(Eo .u64 h 4294967295))) 32))) 4294967295)+(IntKind.u64.wrap ((Eo .u64 a 4294967295)*(Wd .u64 h 32))))) 32))),(IntKind.u64.wrap (a*h)))
def Qhy {b c}:CT 367 [.i .u64 b,.i .u64 c] [] (ER b c) (λr=>(.tup [.i .u64 r.1,.i .u64 r.2])) no_:=
 W 51 func367 Z<|K [9,.o (.any (.i .u64 (Eo .u64 b 4294967295)) n_),6,.o (.any (.i .u64 (Wd .u64 b 32)) n_),6,.o (.any (.i .u64 (Eo .u64 c 4294967295)) n_),6,.o (.any (.i .u64 (Wd .u64 c 32)) n_),17,.o (.any (.i .u64 (Wd .u64 (IntKind.u64.wrap ((Eo .u64 b 4294967295)*(Eo .u64 c 4294967295))) 32)) n_),7,.o (.any (.i .u64 (Eo .u64 (IntKind.u64.wrap ((IntKind.u64.wrap ((Wd .u64 b 32)*(Eo .u64 c 4294967295)))+(Wd .u64 (IntKind.u64.wrap ((Eo .u64 b 4294967295)*(Eo .u64 c 4294967295))) 32))) 4294967295)) n_),6,.o (.any (.i .u64 (Wd .u64 (IntKind.u64.wrap ((IntKind.u64.wrap ((Wd .u64 b 32)*(Eo .u64 c 4294967295)))+(Wd .u64 (IntKind.u64.wrap ((Eo .u64 b 4294967295)*(Eo .u64 c 4294967295))) 32))) 32)) n_),21,.o (.any (.i .u64 (Wd .u64 (IntKind.u64.wrap ((Eo .u64 (IntKind.u64.wrap ((IntKind.u64.wrap ((Wd .u64 b 32)*(Eo .u64 c 4294967295)))+(Wd .u64 (IntKind.u64.wrap ((Eo .u64 b 4294967295)*(Eo .u64 c 4294967295))) 32))) 4294967295)+(IntKind.u64.wrap ((Eo .u64 b 4294967295)*(Wd .u64 c 32))))) 32)) n_),13] Z (λd=>(a8_ (λz a e _=>Qf.andB Z Z (QP d.n Z) (a _ _ Z) (a _ _ Z)) (λz a e _=>Qf.shr Z Z (QP d.n Z) (a _ _ Z) (a _ _ Z) (by decide)) (λz a e _=>Qf.andB Z Z (QP d.n Z) (a _ _ Z) (a _ _ Z)) (λz a e _=>Qf.shr Z Z (QP d.n Z) (a _ _ Z) (a _ _ Z) (by decide)) (λz a e _=>Qf.shr Z Z (QP d.n Z) (a _ _ Z) (a _ _ Z) (by decide)) (λz a e _=>Qf.andB Z Z (QP d.n Z) (a _ _ Z) (a _ _ Z)) (λz a e _=>Qf.shr Z Z (QP d.n Z) (a _ _ Z) (a _ _ Z) (by decide)) (λz a e _=>Qf.shr Z Z (QP d.n Z) (a _ _ Z) (a _ _ Z) (by decide))))<|E 0 Z
def DV (b:(Int×Int))(c:Int)(d:Int)(a:Int):O_ (Int×Int):=
 cond ((0<b.1)||(a<b.2)) (Q (0,6))<|Q ((Qh (c*d)),0)
def Cc:O_ (Int×Int):=j_ (Hz a) λd=>j_ (Hz h) λe=>j_ (ER d e) λc=>cond ((decide (a<0))!=(decide (h<0))) (DV c a h (IntKind.u64.wrap (9223372036854775807+1)))<|DV c a h 9223372036854775807
def Qkx {d e}:CT 362 [.I d,.I e] [] (Cc d e) (λr=>(.tup [.I r.1,.I r.2])) no_:=
 W 34 func362 Z<|A 9 Qgp Z λg=>A 1 Qgp Z λh=>A 0 Qhy Z λf=>mE_ 12 [0,1,6,7] [] (λa:Int=>([(8,.i .u64 a)],[])) (λa=>DV f d e a) Z (I 9 Z (P 5 Z Z)<|P 1 Z Z) λa=>T 2 [0,1] [] ([(30,.b ((0<f.1)||(a<f.2)))],[]) Z (H 4 Z (λc=>Y 5 30 Z (Jf c Z)) λc=>Y 5 30 Z (Xk c Z))<|I 1 Z (E 8 Z)<|E 12 Z
def WL:O_ (Int×Int×Int):=cond (h==0) (Q (0,0,7))<|cond ((a==(-9223372036854775808))&&(h==(-1))) (Q (0,0,6))<|j_ (chk (h != 0)) λ_=>j_ (chk (h != 0)) λ_=>Q ((Qh (Int.tdiv a h)),(Int.tmod a h),0)
def Qbs {e f}:CT 363 [.I e,.I f] [] (WL e f) (λr=>(.tup [.I r.1,.I r.2.1,.I r.2.2])) no_:=
 W 23 func363 Z<|I 16 Z (E 10 Z)<|T 1 [0,1] [] ([(10,.b ((e==(-9223372036854775808))&&(f==(-1))))],[]) Z (H 4 Z (λa=>Y 5 10 Z (Ye a Z)) λa=>Y 5 10 Z (YH a Z))<|I 1 Z (E 10 Z)<|kA_ λc=>kA_ λd=>D 4 Z [.N,.N,.N,.N,.N,.N,.N,.N,.N] [] [] [4,5,6] [] Z Z (a2_ (neZ c) (neZ d)) Z<|E 2 Z
def KK:O_ (Int×Int):=cond m (Q (1,0))<|Q (0,0)
def EY {a}:CT 364 [.b a] [] (KK a) (λr=>(.tup [.I r.1,.I r.2])) no_:=
 W 5 func364 Z<|I 12 Z (E 8 Z)<|E 9 Z
def VI:O_ (Int×Int):=cond (a != 0) (j_ (KK (h != 0)) λc=>Q (c.1,c.2))<|j_ (KK f_) λb=>Q (b.1,b.2)
def Qdl:O_ (Int×Int):=Q (a,h)
def VJ:O_ (Int×Int):=cond (a != 0) (j_ (KK t_) λc=>Q (c.1,c.2))<|j_ (KK (h != 0)) λb=>Q (b.1,b.2)
def Qdm:O_ (Int×Int):=Q (a,h)
def KD:O_ (Int×Int):=cond (a==1) (j_ (LF h c) λk=>Q (k.1,k.2))<|cond (a==2) (j_ (DU h c) λb=>Q (b.1,b.2))<|cond (a==3) (j_ (Cc h c) λd=>Q (d.1,d.2))<|cond (a==4) (j_ (WL h c) λe=>Q (e.1,e.2.2))<|cond (a==5) (j_ (WL h c) λf=>Q (f.2.1,f.2.2))<|cond (a==6) (j_ (KK (h==c)) λg=>Q (g.1,g.2))<|cond (a==7) (j_ (KK (h != c)) λl=>Q (l.1,l.2))<|cond (a==8) (j_ (KK (decide (h<c))) λi=>Q (i.1,i.2))<|cond (a==9) (j_ (KK (decide (h<=c))) λj=>Q (j.1,j.2))<|cond (a==10) (j_ (VI h c) (λv=>Qdl v.1 v.2))<|cond (a==11) (j_ (VJ h c) (λv=>Qdm v.1 v.2))<|Q (0,1)
def VK {JZ a b}:CT 358 [.I JZ,.I a,.I b] [] (KD JZ a b) (λr=>(.tup [.I r.1,.I r.2])) no_:=
 W 112 func358 Z<|I 19 Z (A 4 QrK Z λt=>E 9 Z)<|I 6 Z (A 4 Qhx Z λc=>E 9 Z)<|I 6 Z (A 4 Qkx Z λd=>E 9 Z)<|I 6 Z (A 4 Qbs Z λe=>E 20 Z)<|I 6 Z (A 4 Qbs Z λf=>E 20 Z)<|I 6 Z (A 5 EY Z λg=>E 9 Z)<|I 6 Z (A 5 EY Z λh=>E 9 Z)<|I 6 Z (A 5 EY Z λi=>E 9 Z)<|I 6 Z (A 5 EY Z λj=>E 9 Z)<|I 6 Z (mV_ 1 [] [] (λv=>([(6,.I v.1),(7,.I v.2)],[])) Z (I 4 Z (A 3 EY Z λk=>M 5 Z)<|A 3 EY Z λl=>M 5 Z) λ⟨m,n⟩=>E 4 Z)<|I 6 Z (mV_ 1 [] [] (λv=>([(6,.I v.1),(7,.I v.2)],[])) Z (I 4 Z (A 3 EY Z λo=>M 5 Z)<|A 3 EY Z λp=>M 5 Z) λ⟨q,s⟩=>E 4 Z)<|E 10 Z
def VL:O_ (Int×Int):=j_ (KD 2 0 a) λb=>Q (b.1,b.2)
def QrL {a}:CT 357 [.I a] [] (VL a) (λr=>(.tup [.I r.1,.I r.2])) no_:=
 W 8 func357 Z<|A 9 VK Z λb=>E 7 Z
def Bl:O_ (Int×Int):=j_ (idx f2.Kids 0) λf=>j_ (h3 d2 f) λc=>cond (c.2 != 0) (Q (0,c.2))<|cond (f2.Kind==3) (j_ (VL c.1) λa=>Q (a.1,a.2))<|j_ (KD 6 c.1 0) λb=>Q (b.1,b.2)
def Qhz {O:LI_->Qs->O_ (Int×Int)}{hrec_expr_env_eval:∀(a:LI_) (b:Qs) {r:(Int×Int)},O a b=Q r->QX prog 294 [.M 1 Qb a,.G QY b] [] (Gives (.tup [.I r.1,.I r.2]) [])}{a:LI_}{b:Qs}:CT 351 [.M 1 Qb a,.G QY b] [] (Bl O a b) (λr=>(.tup [.I r.1,.I r.2])) no_:=
 W 33 func351 Z<|xR_ 12 Kj Z λj g=>B λf e=>G [1,.o (.C2 (.tup [.I f.1,.I f.2])),16] Z (hrec_expr_env_eval _ _ e)<|I 0 Z (E 10 Z)<|I 8 Z (A 3 QrL Z λh=>E 9 Z)<|A 6 VK Z λi=>E 7 Z
def DW (f:(Int×Int))(g:Qs)(O:LI_->Qs->O_ (Int×Int))(h:LI_)(d:Bool):O_ (Int×Int):=cond d (j_ (KD 7 f.1 0) λb=>Q (b.1,b.2))<|j_ (idx g.Kids 1) λe=>j_ (O h e) λa=>cond (a.2 != 0) (Q (0,a.2))<|j_ (KD g.Num f.1 a.1) λc=>Q (c.1,c.2)
def PI:O_ (Int×Int):=j_ (idx f2.Kids 0) λd=>j_ (h3 d2 d) λa=>cond (a.2 != 0) (Q (0,a.2))<|cond ((f2.Num==10)&&(a.1==0)) (DW a f2 h3 d2 ((f2.Num==10)&&(a.1==0)))<|cond (f2.Num==11) (DW a f2 h3 d2 (a.1 != 0))<|DW a f2 h3 d2 f_
def Qky {O:LI_->Qs->O_ (Int×Int)}{hrec_expr_env_eval:∀(g:LI_) (f:Qs) {r:(Int×Int)},O g f=Q r->QX prog 294 [.M 1 Qb g,.G QY f] [] (Gives (.tup [.I r.1,.I r.2]) [])}{g:LI_}{f:Qs}:CT 352 [.M 1 Qb g,.G QY f] [] (PI O g f) (λr=>(.tup [.I r.1,.I r.2])) no_:=
 W 60 func352 Z<|xR_ 12 Kj Z λt m=>B λj k=>G [1,.o (.C2 (.tup [.I j.1,.I j.2])),16] Z (hrec_expr_env_eval _ _ k)<|I 0 Z (E 10 Z)<|mE_ 0 [0,3,6] [3] (λe:Bool=>([(22,.b e)],[])) (λe=>DW j f O g e) Z (T 1 [0,3,6] [3] ([(22,.b ((f.Num==10)&&(j.1==0)))],[]) Z (H 5 Z (λa=>Y 5 22 Z (Ye a Z)) λa=>Y 5 22 Z (YH a Z))<|I 1 Z (P 1 Z Z)<|I 5 Z (P 5 Z Z)<|P 5 Z Z) λe=>I 0 Z (A 3 VK Z λp=>E 9 Z)<|xR_ 8 Kj Z λq l=>B λh i=>G [1,.o (.C2 (.tup [.I h.1,.I h.2])),14] Z (hrec_expr_env_eval _ _ i)<|I 0 Z (E 9 Z)<|A 8 VK Z λs=>E 7 Z
def HR:O_ (Int×Int):=j_ (idx f2.Kids 0) λh=>j_ (h3 d2 h) λe=>cond (e.2 != 0) (Q (0,e.2))<|cond (e.1 != 0) (j_ (idx f2.Kids 1) λf=>j_ (h3 d2 f) λa=>Q (a.1,a.2))<|j_ (idx f2.Kids 2) λg=>j_ (h3 d2 g) λb=>Q (b.1,b.2)
def QhA {rec_expr_env_eval:LI_->Qs->O_ (Int×Int)}{O:∀(a:LI_) (b:Qs) {r:(Int×Int)},rec_expr_env_eval a b=Q r->QX prog 294 [.M 1 Qb a,.G QY b] [] (Gives (.tup [.I r.1,.I r.2]) [])}{a:LI_}{b:Qs}:CT 353 [.M 1 Qb a,.G QY b] [] (HR rec_expr_env_eval a b) (λr=>(.tup [.I r.1,.I r.2])) no_:=
 W 40 func353 Z<|xR_ 12 Kj Z λs m=>B λj i=>G [1,.o (.C2 (.tup [.I j.1,.I j.2])),16] Z (O _ _ i)<|I 0 Z (E 10 Z)<|I 7 Z (xR_ 5 Kj Z λp k=>B λe f=>G [1,.o (.C2 (.tup [.I e.1,.I e.2])),9] Z (O _ _ f)<|E 0 Z)<|xR_ 8 Kj Z λq l=>B λg h=>G [1,.o (.C2 (.tup [.I g.1,.I g.2])),7] Z (O _ _ h)<|E 0 Z
def Ae:O_ (Int×Int):=j_ (CY f t) λa=>Q (a.1,a.2)
def De:O_ (Int×Int):=j_ (Bl h3 d4 f2) λa=>Q (a.1,a.2)
def Af:O_ (Int×Int):=j_ (PI h3 d4 f2) λa=>Q (a.1,a.2)
def Ag:O_ (Int×Int):=j_ (HR h3 d4 f2) λa=>Q (a.1,a.2)
def Bm:O_ (Int×Int):=j_ (WK d2 f2.Kind) λc=>(Sum.elim (λq=>j_ (Qb1 q f2) λd=>Q (d.1,d.2)) (Sum.elim (λq=>Ae f2 q) (Sum.elim (λq=>De h3 f2 q) (Sum.elim (λq=>Af h3 f2 q) (λq=>Ag h3 f2 q))))) c
def XU : Nat->LI_->Qs->O_ (Int×Int)
 |0,_,_=>none|n+1,a,b=>Bm (XU n) a b
def NP:O_ (Int×Int):=XU (SizeOf.sizeOf j3) f j3
def QhB {O:LI_->Qs->O_ (Int×Int)}{hrec_expr_env_eval:∀(h:LI_) (i:Qs) {r:(Int×Int)},O h i=Q r->QX prog 294 [.M 1 Qb h,.G QY i] [] (Gives (.tup [.I r.1,.I r.2]) [])}{h:LI_}{i:Qs}:CT 294 [.M 1 Qb h,.G QY i] [] (Bm O h i) (λr=>(.tup [.I r.1,.I r.2])) no_:=
 W 14 func294 Z<|gP_ 8 Z<|s5_ (λz b=>B λj k=>Us 0 Z [.N,.N,.N,.B (.any (.clo (.func 349) [.M 1 Qb z] []) n_),.N,.B (.C2 (.tup [.I j.1,.I j.2])),.N,.N,.m .s,.m .s] [] [] [4,5] [] Z Z (λe=>(a2_ (λc f g _=>Qf.callSame (md:=.cm (.fn) [] [] [] [.d,.d] [] (.clo (.func 349) [.M 1 Qb z] []) []) QC e f g Z (a1_ (Ad _ b))) (Qhw _ k))) Z<|E 2 Z) (λC b=>B λl n=>Us 0 Z [.N,.N,.N,.B (.any (.clo (.func 350) [.M 1 Qb C] []) n_),.N,.B (.C2 (.tup [.I l.1,.I l.2])),.N,.N,.m .s,.m .s] [] [] [4,5] [] Z Z (λe=>(a2_ (λc f g _=>Qf.callSame (md:=.cm (.fn) [] [] [] [.d,.d] [] (.clo (.func 350) [.M 1 Qb C] []) []) QC e f g Z (a1_ (Ad _ b))) (QfT _ n))) Z<|E 2 Z) (λo b=>B λp q=>Us 0 Z [.N,.N,.N,.B (.any (.clo (.func 351) [.M 1 Qb o] []) n_),.N,.B (.C2 (.tup [.I p.1,.I p.2])),.N,.N,.m .s,.m .s] [] [] [4,5] [] Z Z (λe=>(a2_ (λc f g _=>Qf.callSame (md:=.cm (.fn) [] [] [] [.d,.d] [] (.clo (.func 351) [.M 1 Qb o] []) []) QC e f g Z (a1_ (Ad _ b))) (@Qhz O hrec_expr_env_eval _ _ _ q))) Z<|E 2 Z) (λt b=>B λu v=>Us 0 Z [.N,.N,.N,.B (.any (.clo (.func 352) [.M 1 Qb t] []) n_),.N,.B (.C2 (.tup [.I u.1,.I u.2])),.N,.N,.m .s,.m .s] [] [] [4,5] [] Z Z (λe=>(a2_ (λc f g _=>Qf.callSame (md:=.cm (.fn) [] [] [] [.d,.d] [] (.clo (.func 352) [.M 1 Qb t] []) []) QC e f g Z (a1_ (Ad _ b))) (@Qky O hrec_expr_env_eval _ _ _ v))) Z<|E 2 Z) λw b=>B λx y=>Us 0 Z [.N,.N,.N,.B (.any (.clo (.func 353) [.M 1 Qb w] []) n_),.N,.B (.C2 (.tup [.I x.1,.I x.2])),.N,.N,.m .s,.m .s] [] [] [4,5] [] Z Z (λe=>(a2_ (λc f g _=>Qf.callSame (md:=.cm (.fn) [] [] [] [.d,.d] [] (.clo (.func 353) [.M 1 Qb w] []) []) QC e f g Z (a1_ (Ad _ b))) (@QhA O hrec_expr_env_eval _ _ _ y))) Z<|E 2 Z
def VM : ∀(fuel:Nat) (a:LI_) (b:Qs) {r:(Int×Int)},XU fuel a b=Q r->QX prog 294 [.M 1 Qb a,.G QY b] [] (Gives (.tup [.I r.1,.I r.2]) [])
 |0,_,_,_,h=>by cases h
 |n+1,a,b,_,h=>@QhB (XU n) (λ_ _ _ h=>VM n _ _ h) a b _ h
def Qjd (a b){r}(h:NP a b=Q r):QX prog 294 [.M 1 Qb a,.G QY b] [] (Gives (.tup [.I r.1,.I r.2]) []):=VM _ a b h
def HA:O_ (Int×Int):=j_ (Ac t f.length) λd=>cond (!d) (Q (0,1))<|j_ (NP f t) λc=>Q (c.1,c.2)
def Qgq {e a}:CT 229 [.G QY e,.M 1 Qb a] [] (HA e a) (λr=>(.tup [.I r.1,.I r.2])) no_:=
 W 16 func229 Z<|N 12 Z<|A 0 VH Z λg=>I 3 Z (E 8 Z)<|B λf b=>G [6,.o (.C2 (.tup [.I f.1,.I f.2])),7] Z (Qjd _ _ b)<|E 0 Z
def Wb:O_ (Int×Bool):=j_ (Wg h4.2 i3) λb=>cond (!b) (Q (0,f_))<|Q (i3,t_)
def Ge:O_ (Int×Bool):=
 j_ (Gt g0 o) λc=>
 cond (!c.1) (Q (0,f_))<|j_ (KC c.2) λa=>
 cond (a.Kind==1) (cond ((g3<a.Lo)||(a.Hi<g3)) (Q (0,f_))<|Wb c (Qh (g3-a.Lo)))<|Wb c g3
def Qje {f g e}:CT 230 [.M 7 Xm f,.I g,.I e] [] (Ge f g e) (λr=>(.tup [.I r.1,.b r.2])) no_:=
 W 43 func230 Z<|A 10 Qad Z λh=>I 15 Z (E 8 Z)<|mE_ 2 [8] [8] (λc:Int=>([(2,.I c)],[])) (λc=>Wb h c) Z (A 3 Hy Z λd=>I 11 Z (T 2 [2,8,10] [8,10] ([(33,.b ((e<d.Lo)||(d.Hi<e)))],[]) Z (H 6 Z (λa=>Y 6 33 Z (Jf a Z)) λa=>Y 6 33 Z (Xk a Z))<|I 1 Z (E 9 Z)<|P 9 Z Z)<|P 1 Z Z) λc=>A 5 ZP Z λi=>I 3 Z (E 8 Z)<|E 10 Z
def Df (j:(L_ Jy))(h:LI_)(k:Qc)(e:Int)(c:QMk):O_ ((Int×QMk)⊕(Int⊕QMk)):=
 cond (e<f.length) (j_ (idx f e) λd=>
 cond ((d<0)||((j.length:Int)<=d)) (Q (i_ (y_ 11)))<|j_ (idx j d) λl=>
 j_ (HA l.Expr h) λa=>
 cond (a.2 != 0) (Q (i_ (y_ a.2)))<|j_ (idx j d) λb=>
 cond ((b.Place<0)||((k.Places.length:Int)<=b.Place)) (Q (i_ (y_ 3)))<|j_ (idx k.Places b.Place) λm=>
 j_ (Ge k.Colours m.Colour a.1) λi=>
 cond (!i.2) (Q (i_ (y_ 8)))<|j_ (idx c b.Place) λn=>
 j_ (Th ([i.1]:L_ Int)) λo=>
 j_ (JV n o) λg=>
 j_ (idx c b.Place) λp=>
 cond (g.2 != 0) (Q (i_ (y_ g.2)))<|Q (y_ ((Qh (e+1)),(c.set b.Place.toNat g.1))))<|Q (i_ (i_ c))
def YC (d:(L_ Jy))(a:LI_)(c:LI_):O_ (QMk×Int):=j_ (chk (decide (0<=(b.Places.length:Int))&&decide ((b.Places.length:Int)<=(b.Places.length:Int))&&decide ((b.Places.length:Int)<=4294967296))) λ_=>j_ (Qq (λst=>Df a d c b st.1 st.2) (0,(List.replicate (b.Places.length:Int).toNat (([]:QBg):QBg)))) (Sum.elim (λq=>Q (([]:L_ QBg),q)) (λq=>Q (q,0)))
def Cq {t l2 e k}:CT 137 [.G Qi t,.M 4 KP l2,.M 1 Qb e,.M 1 Qb k] [] (YC t l2 e k) (λr=>(.tup [.M 1 Qj r.1,.I r.2])) no_:=
 W 97 func137 Z<|N 11 Z<|kA_ λa0=>G [.o (.rows (List.replicate (t.Places.length:Int).toNat [.Y]))] Z ⟨a0,Z⟩<|QpU (AK.denilA (b:=21) [Q 2] Z (QnT (f:=Qj) (x:=([]:QBg)) Z))<|G [.S 21 (.own 21 (List.replicate (t.Places.length:Int).toNat (([]:QBg):QBg)).length),7] Z (by simp)<|N 0 Z<|F 4 [1,3,4,22,23] [4] (λst=>([(10,.P 21 st.2),(24,.I st.1)],[(21,.R 1 Qj st.2)])) [] [] (λq=>(.ret,([(8,.Y),(9,.I q)],[]))) [] [] (λq=>(.exit 0,([(10,.P 21 q)],[(21,.R 1 Qj q)]))) Z (λ⟨a4,u⟩=>I 6 Z (J 6 Z λv=>T 6 [1,3,4,10,12,22,23,24] [4,21] ([(35,.b ((v<0)||((l2.length:Int)<=v)))],[]) Z (H 4 Z (λg=>Y 6 35 Z (Jf g Z)) λg=>N 2 Z<|Y 3 35 Z (Xk g Z))<|I 1 Z (L 10 Z)<|J 6 Z λa5=>A 3 Qgq Z λa6=>I 14 Z (L 11 Z)<|J 6 Z λi=>T 7 [1,3,4,10,13,15,22,23,24] [4,21] ([(62,.b ((i.Place<0)||((t.Places.length:Int)<=i.Place)))],[]) Z (H 4 Z (λh=>Y 7 62 Z (Jf h Z)) λh=>N 3 Z<|Y 3 62 Z (Xk h Z))<|I 1 Z (L 10 Z)<|B λa1 w=>B λs y=>D 3 Z (dz_ [(5,.B (.row (Xd a1))),(3,.B (.C3 (.tup [.I s.1,.b s.2]))),(4,.N)]) [] [] [1,3,4,10,15,16,17,22,23,24] [4,21] Z Z (a2_ (XE w) (Qje _ y)) Z<|I 8 Z (L 10 Z)<|B λa2 l=>B λz C=>B λj O=>B λa3 p=>D 3 Z [.N,.N,.N,.N,.N,.B (.row (Qj a2)),.N,.a (.bd []) (Q ([],.sl 1 (([s.1]:L_ Int).map Qb))) f_,.B (.cd f_ [.d] 2 (z.map QB) z.length),.B (.C2 (.tup [.M 2 QB j.1,.I j.2])),.a .no n_ t_ t_,.N,.a .no n_ t_,.N,.m (.st (Qj a3) ((u.set i.Place.toNat j.1).map Qj)),.N] [1,3,4,10,15,16,22,23,24] [4] [1,3,4,10,14,22,23,24] [4,21] Z Z (a7_ (Yu l Z) (Xq (Yz l).2) Z ⟨(Qlw _ C),Qx⟩ (Qdi _ O) (Yu p Z) ⟨(Xq (Yz p).2),EC Z⟩) Z<|I 7 Z (L 10 Z)<|G [7,.S 10 (.own 21 (u.set i.Place.toNat j.1).length)] Z (congrArg (λn=>V.own 21 n) (by simp))<|R 0 Z)<|X 2 Z) (λa7=>gT_ [2,.denil 8 [Q 1]] Z<|E 0 Z) (λa8=>zF_ 10 21 [8] [] Z<|E 0 Z)
def Yr:O_ (QMk×Int):=j_ (DA b r.Task r.Vars) λd=>cond (d.2 != 0) (Q (([]:L_ QBg),d.2))<|j_ (idx b.Tasks r.Task) λe=>j_ (YC b e.Ins r.Ins d.1) λa=>Q (a.1,a.2)
def VN {g h}:CT 78 [.G Qi g,.G Qy h] [] (Yr g h) (λr=>(.tup [.M 1 Qj r.1,.I r.2])) no_:=
 W 34 func78 Z<|A 15 QbJ Z λj=>I 14 Z (gT_ [9,.denil 4 [Q 1]] Z<|E 0 Z)<|B λi f=>B λb e=>D 3 Z (dz_ [(5,.B (.row (QE i))),(5,.B (.C4 (.tup [.M 1 Qj b.1,.I b.2]))),(2,.m .s),(0,.m .s)]) [] [] [4,5] [] Z Z (a2_ (XE f) (Cq _ e)) Z<|E 2 Z
def Ah:O_ (QMk×Int):=j_ (DA b r.Task r.Vars) λd=>cond (d.2 != 0) (Q (([]:L_ QBg),d.2))<|j_ (idx b.Tasks r.Task) λe=>j_ (YC b e.Outs r.Outs d.1) λa=>Q (a.1,a.2)
def QeN {g h}:CT 79 [.G Qi g,.G Qy h] [] (Ah g h) (λr=>(.tup [.M 1 Qj r.1,.I r.2])) no_:=
 W 34 func79 Z<|A 15 QbJ Z λj=>I 14 Z (gT_ [9,.denil 4 [Q 1]] Z<|E 0 Z)<|B λi f=>B λb e=>D 3 Z (dz_ [(5,.B (.row (QE i))),(5,.B (.C4 (.tup [.M 1 Qj b.1,.I b.2]))),(2,.m .s),(0,.m .s)]) [] [] [4,5] [] Z Z (a2_ (XE f) (Cq _ e)) Z<|E 2 Z
def LG:O_ Bool:=
 j_ (Yr k0 p.Mode) λc=>
 j_ (Ah k0 p.Mode) λd=>
 Q ((c.2 != 0)||(d.2 != 0))
def Qik {d c}:CT 77 [.G Qt d,.L 621] [(621,.W Qi c)] (LG d c) V.b (λ_=>[(621,.W Qi c)]):=
 W 28 func77 Z<|A 11 VN Z λe=>A 12 QeN Z λf=>T 8 [] [621] ([(3,.b ((e.2 != 0)||(f.2 != 0)))],[]) Z (H 4 Z (λa=>Y 5 3 Z (Jf a Z)) λa=>Y 5 3 Z (Xk a Z))<|E 2 Z
def JL:O_ (Int⊕(Int⊕Unit)):=cond (e0<n.length) (j_ (idx n e0) λe=>j_ (LG e k0) λb=>cond b (Q (i_ (y_ e0)))<|Q (y_ (Qh (e0+1))))<|Q (i_ (i_ ()))
def Dg:O_ Int:=j_ (Qq (λst=>JL n k0 st) 0) (Sum.elim (λq=>Q q) (λq=>Q (-1)))
def MN {b a}:CT 135 [.M 11 Qt b,.clo (.func 77) [] [.L 621]] [(621,.W Qi a)] (Dg b a) V.I (λ_=>[(621,.W Qi a)]):=
 W 19 func135 Z<|N 9 Z<|F 4 [0,1,7] [621] (λst=>([(8,.I st)],[])) [] [621] (λq=>(.ret,([(4,.I q)],[]))) [] [621] (λq=>(.exit 0,([],[]))) Z (λd=>I 6 Z (J 15 Z λe=>S 1 .clo [(621,621)] Qik Z λc=>I 2 Z (L 9 Z)<|R 7 Z)<|X 2 Z) (λf=>E 2 Z) (λ_=>E 8 Z)
def JM:O_ Bool:=j_ (Dg n k0) λc=>Q (decide (0<=c))
def Iw {c a}:CT 76 [.M 11 Qt c,.clo (.func 77) [] [.L 621]] [(621,.W Qi a)] (JM c a) V.b (λ_=>[(621,.W Qi a)]):=
 W 9 func76 Z<|S 9 .fn [(621,621)] MN Z λd=>E 5 Z
def Qb2:O_ Bool:=j_ (Cp b i.M) λd=>cond (!d) (Q t_)<|cond (i.Next<1) (Q t_)<|cond (1099511627776<i.Next) (Q t_)<|cond (i.Now<0) (Q t_)<|cond (1099511627776<i.Now) (Q t_)<|j_ (SF i.Items i.Next) λa=>Q (!a)
def RI (d:Bool):O_ Bool:=cond d (Q f_)<|j_ (JM i.Items k0) λa=>Q (!a)
def Ux:O_ Bool:=j_ (Qb2 b i) (λc=>RI i b c)
def HS {a c}:CT 45 [.G Qi a,.G Xw c] [] (Ux a c) V.b no_:=
 W 43 func45 Z<|mV_ 9 [2,3] [2,3] (λd=>([(37,.b d)],[])) Z (A 4 QeK Z λg=>I 2 Z (M 28 Z)<|I 5 Z (M 23 Z)<|I 5 Z (M 18 Z)<|I 5 Z (M 13 Z)<|I 5 Z (M 8 Z)<|A 4 QlP Z λe=>M 3 Z) λd=>I 1 Z (E 7 Z)<|S 7 .fn [(621,2)] Iw Z λf=>E 5 Z
def Qah:O_ Bool:=Q (p.Id==i0)
def Qkz {c a}:CT 226 [.G Qt c,.L 621] [(621,.W Qb a)] (Qah c a) V.b (λ_=>[(621,.W Qb a)]):=
 W 8 func226 Z<|E 16 Z
def Yh:O_ (Int⊕(Int⊕Unit)):=cond (d<n.length) (j_ (idx n d) λe=>j_ (Qah e c) λb=>cond b (Q (i_ (y_ d)))<|Q (y_ (Qh (d+1))))<|Q (i_ (i_ ()))
def Wr:O_ Int:=j_ (Qq (λst=>Yh n c st) 0) (Sum.elim (λq=>Q q) (λq=>Q (-1)))
def Iz {b a}:CT 135 [.M 11 Qt b,.clo (.func 226) [] [.L 621]] [(621,.W Qb a)] (Wr b a) V.I (λ_=>[(621,.W Qb a)]):=
 W 19 func135 Z<|N 9 Z<|F 4 [0,1,7] [621] (λst=>([(8,.I st)],[])) [] [621] (λq=>(.ret,([(4,.I q)],[]))) [] [621] (λq=>(.exit 0,([],[]))) Z (λd=>I 6 Z (J 15 Z λe=>S 1 .clo [(621,621)] Qkz Z λc=>I 2 Z (L 9 Z)<|R 7 Z)<|X 2 Z) (λf=>E 2 Z) (λ_=>E 8 Z)
def KR:O_ Int:=j_ (Wr n c) λa=>Q a
def QeO {b a}:CT 133 [.M 11 Qt b,.I a] [] (KR b a) V.I no_:=
 W 8 func133 Z<|S 10 .fn [(621,3)] Iz Z λc=>E 4 Z
def JE:O_ (Int×Qm):=j_ (KR l.now.Items l.call.Id) λb=>cond (0<=b) (j_ (idx l.now.Items b) λc=>Q (0,c))<|cond ((0<l.call.Id)&&(l.call.Id<l.now.Next)) (Q (12,(Qm.mk 0 (Qd.mk 0 ([]:LI_) ([]:LI_) ([]:LI_)) (Xj.mk 0 0 0 0 0) 0)))<|Q (3,(Qm.mk 0 (Qd.mk 0 ([]:LI_) ([]:LI_) ([]:LI_)) (Xj.mk 0 0 0 0 0) 0))
def TY {f}:CT 126 [.L 621] [(621,.W QZ f)] (JE f) (λr=>(.tup [.G Qt r.2,.I r.1])) (λ_=>[(621,.W QZ f)]):=
 W 49 func126 Z<|B λj i=>D 7 Z (dz_ [(10,.B (.C2 (.I j))),(0,.N)]) [] [] [0,2,4] [2,621] Z Z (a1_ (QeO _ i)) Z<|I 10 Z (J 8 Z λk=>E 8 Z)<|T 1 [2] [2,621] ([(27,.b ((0<f.call.Id)&&(f.call.Id<f.now.Next)))],[]) Z (gT_ [.K [0,2] [2,621]] Z<|(λg h=>by
   rcases QvS (decide (0<f.call.Id))with e|e
   ·refine AK.draw2 QC g mixed [.N,.N,.N,.N,.N,.N,.E (.b t_),.N,.N,.N,.N,.N,.N,.N,.N,.N,.N,.N,.N,.N] [] [] [2,27] [2,621] rfl rfl rfl (tc_ e) rfl (by kernel_rfl) rfl rfl rfl ?_;refine YF g [.S 27 (.b ((0<f.call.Id)&&(f.call.Id<f.now.Next))),.K [2,27] [2,621]] rfl (a1_ (cb_ (Ye e rfl))) ?_;exact tA_ 0 Z g h
   refine AK.draw2 QC g mixed [.N,.N,.N,.N,.N,.N,.E (.b f_),.N,.N,.N,.N,.N,.N,.N,.N,.N,.N,.N,.N,.N] [] [] [2,27] [2,621] rfl rfl rfl (tc_ e) rfl (by kernel_rfl) rfl rfl rfl ?_;refine YF g [.S 27 (.b ((0<f.call.Id)&&(f.call.Id<f.now.Next))),.K [2,27] [2,621]] rfl (a1_ (cb_ (YH e rfl))) ?_;exact tA_ 0 Z g h))<|I 1 Z (G [2,.v .no [n_,n_,Q 1,Q 1,Q 1,n_,n_,n_,n_,n_,n_] (.agg (Qt (Qm.mk 0 (Qd.mk 0 ([]:LI_) ([]:LI_) ([]:LI_)) (Xj.mk 0 0 0 0 0) 0))),7] Z Z<|E 0 Z)<|G [5,.v .no [n_,n_,Q 1,Q 1,Q 1,n_,n_,n_,n_,n_,n_] (.agg (Qt (Qm.mk 0 (Qd.mk 0 ([]:LI_) ([]:LI_) ([]:LI_)) (Xj.mk 0 0 0 0 0) 0))),5] Z Z<|E 0 Z
def DB:O_ (Int×Xj):=Q (0,k)
def Uy:O_ (Int×Xj):=DB (Xj.mk k.Most k.Enough (Qh (k.Open-1)) k.Done (Qh (k.Failed+1)))
def Dv:O_ (Int×Xj):=j_ (JR k) λd=>cond (!d) (Q (1,k))<|j_ (KU k) λe=>cond e (Q (12,k))<|cond (c==0) (j_ (Ir k) λa=>cond (a==k.Most) (Q (2,k))<|DB (Xj.mk k.Most k.Enough (Qh (k.Open+1)) k.Done k.Failed))<|cond (c==1) (Uy (Xj.mk k.Most k.Enough k.Open (Qh (k.Done+1)) (Qh (k.Failed-1))))<|cond (c==2) (Uy k)<|DB k
def Qai {i b}:CT 287 [.G XV i,.I b] [] (Dv i b) (λr=>(.tup [.G XV r.2,.I r.1])) no_:=
 W 49 func287 Z<|A 12 NO Z λj=>I 4 Z (E 10 Z)<|A 3 Qaf Z λk=>I 3 Z (E 10 Z)<|mE_ 3 [2,4] [4] (λe:Xj=>([],[(2,.W XV e)])) (λe=>DB e) Z (mE_ 6 [2,4] [4] (λf:Xj=>([],[(2,.W XV f)])) (λf=>Uy f) Z (I 13 Z (B λh g=>D 8 Z [.N,.B (.C1 (.I h)),.N,.N,.N] [] [] [2,4,26] [2,4] Z Z (a1_ (QeL _ g)) Z<|I 1 Z (E 16 Z)<|P 16 Z Z)<|I 9 Z (P 24 Z Z)<|I 8 Z (P 7 Z Z)<|P 10 Z Z) λf=>P 20 Z Z) λe=>E 8 Z
def PJ:O_ (Int×Xj):=j_ (Dv k 0) λa=>Q (a.1,a.2)
def QrM {a}:CT 220 [.G XV a] [] (PJ a) (λr=>(.tup [.G XV r.2,.I r.1])) no_:=
 W 8 func220 Z<|A 10 Qai Z λb=>E 7 Z
def Nb:O_ (Int×Xj):=j_ (Dv k 1) λa=>Q (a.1,a.2)
def QpZ {a}:CT 221 [.G XV a] [] (Nb a) (λr=>(.tup [.G XV r.2,.I r.1])) no_:=
 W 8 func221 Z<|A 10 Qai Z λb=>E 7 Z
def Nc:O_ (Int×Xj):=j_ (Dv k 2) λa=>Q (a.1,a.2)
def Qp0 {a}:CT 222 [.G XV a] [] (Nc a) (λr=>(.tup [.G XV r.2,.I r.1])) no_:=
 W 8 func222 Z<|A 10 Qai Z λb=>E 7 Z
def DC (c:Xj):O_ (Int×Xj):=cond (l.call.Do==4) (j_ (PJ c) λe=>Q (e.1,e.2))<|cond (l.call.Do==2) (j_ (Nb c) λa=>Q (a.1,a.2))<|j_ (Nc c) λb=>Q (b.1,b.2)
def Qeo {a b}:CT 127 [.L 621,.G XV b] [(621,.W QZ a)] (DC a b) (λr=>(.tup [.G XV r.2,.I r.1])) (λ_=>[(621,.W QZ a)]):=
 W 27 func127 Z<|I 24 Z (A 3 QrM Z λe=>E 9 Z)<|I 6 Z (A 3 QpZ Z λc=>E 9 Z)<|A 6 Qp0 Z λd=>E 7 Z
def IA:O_ Qm:=j_ (XF p.Mode.Vars) λb=>j_ (XF p.Mode.Ins) λc=>j_ (XF p.Mode.Outs) λd=>Q (Qm.mk p.Id (Qd.mk p.Mode.Task b c d) p.Batch p.Until)
def Qb3 {f}:CT 219 [.G Qt f] [] (IA f) (λr=>(.G Qt r)) no_:=
 W 22 func219 Z<|B λg b=>B λh c=>B λi e=>D 7 Z (dz_ [(3,.B (.cd f_ [.d] 1 (g.map Qb) g.length)),(3,.B (.cd f_ [.d] 1 (h.map Qb) h.length)),(3,.B (.cd f_ [.d] 1 (i.map Qb) i.length)),(2,.m .s),(2,.m .s),(2,.m .s)]) [] [] [1,2] [1,2] Z Z (a3_ ⟨(Yf _ b),Qx⟩ ⟨(Yf _ c),Qx⟩ ⟨(Yf _ e),Qx⟩) Z<|E 8 Z
def VO:O_ ((Int×(L_ Qm))⊕(L_ Qm)):=Q (y_ ((Qh (a+1)),n))
def AC (e:(L_ Qm)):O_ ((Int×(L_ Qm))⊕(L_ Qm)):=cond (d<n.length) (j_ (idx n d) λa=>cond (a.Id != c) (j_ (IA a) λb=>j_ (chk (e.length+([b]:L_ Qm).length<=4294967296)) λ_=>VO d (e++([b]:L_ Qm)))<|VO d e)<|Q (i_ e)
def Ai:O_ (L_ Qm):=j_ (Qq (λst=>AC n c st.1 st.2) (0,([]:L_ Qm))) (λq=>Q q)
def VP {c b}:CT 216 [.M 11 Qt c,.I b] [] (Ai c b) (λr=>(.P 600 r)) (λr=>[(600,.R 11 Qt r)]):=
 W 25 func216 Z<|N 14 Z<|aD_ 4 5 18 11 Z<|lA_ 0 [1,8,9] [] (λst=>([(5,.P 18 st.2),(10,.I st.1)],[(18,.R 11 Qt st.2)])) [] [] (λq=>(.exit 0,([(5,.P 18 q)],[(18,.R 11 Qt q)]))) Z (λ⟨d,g⟩=>I 6 Z (mE_ 2 [1,8,9,10] [] (λa:(L_ Qm)=>([(5,.P 18 a)],[(18,.R 11 Qt a)])) (λa=>VO d a) Z (J 3 Z λe=>I 13 Z (A 3 Qb3 Z λf=>pA_ 0 11 Qt Z<|P 3 Z Z)<|P 2 Z Z) λa=>R 4 Z)<|X 2 Z) λh=>gT_ [9,.ren 18 600] Z<|E 0 Z
def QbK:O_ Bool:=Q (decide (e4.Id<p.Id))
def QlT {c a}:CT 217 [.G Qt c,.L 621] [(621,.W Qt a)] (QbK c a) V.b (λ_=>[(621,.W Qt a)]):=
 W 9 func217 Z<|E 17 Z
def Yi:O_ (Int⊕(Int⊕Unit)):=cond (i0<n.length) (j_ (idx n i0) λe=>j_ (QbK e p) λb=>cond b (Q (i_ (y_ i0)))<|Q (y_ (Qh (i0+1))))<|Q (i_ (i_ ()))
def JN:O_ Int:=j_ (Qq (λst=>Yi n p st) 0) (Sum.elim (λq=>Q q) (λq=>Q (-1)))
def IE {a b}:CT 135 [.P 621 a,.clo (.func 217) [] [.L 622]] [(621,.R 11 Qt a),(622,.W Qt b)] (JN a b) V.I (λ_=>[(621,.R 11 Qt a),(622,.W Qt b)]):=
 W 19 func135 Z<|F 14 [0,1,7] [621,622] (λst=>([(8,.I st)],[])) [] [621,622] (λq=>(.ret,([(4,.I q)],[]))) [] [621,622] (λq=>(.exit 0,([],[]))) Z (λd=>I 6 Z (vA_ 16 Qt Z λe=>S 0 .clo [(621,622)] QlT Z λc=>I 2 Z (L 9 Z)<|R 7 Z)<|X 2 Z) (λf=>E 2 Z) (λ_=>E 8 Z)
def YR (l:(L_ Qm))(i:Int)(m:(L_ Qm)):O_ (L_ Qm):=match m with|[u]=>(chk (decide (0<=i)&&decide (i.toNat<=l.length)&&decide (l.length+1<=4294967296))).bind λ_=>Q (l.take i.toNat++u::l.drop i.toNat)|_=>n_
def OO (l i m){r}(h:YR l i m=Q r):QX prog 218 [.P 619 l,.I i,.P 620 m] [(619,.R 11 Qt l),(620,.R 11 Qt m)] (Gives (.P 619 r) [(619,.R 11 Qt r)]):=by
 unfold YR at h;split at h
 ·rename_i u;obtain⟨_,a,h⟩:=QI h;replace a:=QlD a;simp only[QN,Qw]at a;cases h;have:=QsK QtP (l.map Qt) (Qt u) i a.1.1 (by rw[Dx];exact a.1.2) (by rw[Dx];exact a.2);rw[<-List.map_take,<-List.map_drop,<-GC,<-QaU,Dx,Dx]at this;exact this
 cases h
def PK (b:(L_ Qm))(h:Int):O_ (L_ Qm):=j_ (IA p) λc=>j_ (YR b h ([c]:L_ Qm)) λd=>Q d
def US:O_ (L_ Qm):=j_ (Ai n p.Id) λb=>j_ (JN b p) λc=>cond (c<0) (PK p b b.length)<|PK p b c
def Qgr {c a}:CT 125 [.M 11 Qt c,.G Qt a] [] (US c a) (λr=>(.P 600 r)) (λr=>[(600,.R 11 Qt r)]):=
 W 24 func125 Z<|oC_ 11 [.d,.d] VP Z λf=>S 7 .fn [(621,10),(622,3)] IE Z λh=>mE_ 3 [3,5] [3,10] (λat_6:Int=>([(6,.I at_6)],[])) (λat_6=>PK a f at_6) Z (I 6 Z (P 5 Z Z)<|P 1 Z Z) λat_6=>A 5 Qb3 Z λg=>B λe b=>g2_ [1,.O 22 (.arr 11 (([g]:L_ Qm).map Qt)),.cm (.fn) [(619,10),(620,22)] [(10,619)] [10,22] [.d,.d,.d] [(619,.R 11 Qt e)] (.P 619 e),4,.ren 10 600] Z Z (OO _ _ _ b)<|E 0 Z
def PL:O_ Bool:=j_ (JR k) λb=>cond b (Q (decide (k.Enough<=k.Done)))<|Q f_
def Qaj:O_ Bool:=Q m
def BU:O_ Bool:=j_ (PL k) (λb=>Qaj b)
def Qp1 {a}:CT 129 [.G XV a] [] (BU a) V.b no_:=
 W 12 func129 Z<|mV_ 7 [] [] (λc=>([(2,.b c)],[])) Z (A 2 NO Z λd=>I 1 Z (M 8 Z)<|M 8 Z) λc=>E 2 Z
def Wh:O_ ((Int×QMk)⊕(Int⊕QMk)):=cond (d<((List.replicate (min2 e.length d1.length).toNat (([]:QBg):QBg)).length:Int)) (j_ (idx e d) λa=>j_ (idx d1 d) λc=>j_ (JV a c) λb=>j_ (idx e1 d) λh=>cond (b.2 != 0) (Q (i_ (y_ b.2)))<|Q (y_ ((Qh (d+1)),(e1.set d.toNat b.1))))<|Q (i_ (i_ e1))
def Ws:O_ (QMk×Int):=j_ (chk (decide (0<=(min2 e.length d1.length))&&decide ((min2 e.length d1.length)<=(min2 e.length d1.length))&&decide ((min2 e.length d1.length)<=4294967296))) λ_=>j_ (Qq (λst=>Wh e d1 st.1 st.2) (0,(List.replicate (min2 e.length d1.length).toNat (([]:QBg):QBg)))) (Sum.elim (λq=>Q (([]:L_ QBg),q)) (λq=>Q (q,0)))
def Qdn {l p}:CT 213 [.M 1 Qj l,.M 1 Qj p,.clo (.func 37) [] []] [] (Ws l p) (λr=>(.tup [.M 1 Qj r.1,.I r.2])) no_:=
 W 43 func213 Z<|N 9 Z<|N 1 Z<|kA_ λt=>G [1,.o (.rows (List.replicate (min2 l.length p.length).toNat [.Y]))] Z ⟨t,Z⟩<|QpU (AK.denilA (b:=16) [Q 2] Z (QnT (f:=Qj) (x:=([]:QBg)) Z))<|G [.S 16 (.own 16 (List.replicate (min2 l.length p.length).toNat (([]:QBg):QBg)).length),12] Z (by simp)<|F 0 [0,1,2,18] [] (λst=>([(8,.P 16 st.2),(19,.I st.1)],[(16,.R 1 Qj st.2)])) [] [] (λq=>(.ret,([(6,.Y),(7,.I q)],[]))) [] [] (λq=>(.exit 0,([(8,.P 16 q)],[(16,.R 1 Qj q)]))) Z (λ⟨y,h⟩=>I 6 Z (B λu i=>B λv j=>B λe k=>B λw g=>D 16 Z [.N,.N,.N,.N,.N,.B (.row (Qj u)),.N,.N,.N,.B (.row (Qj v)),.N,.B (.C2 (.tup [.M 2 QB e.1,.I e.2])),.a .no n_ t_ t_,.N,.a .no n_ t_,.N,.m (.st (Qj w) ((h.set y.toNat e.1).map Qj)),.m .s] [0,1,2,8,9,10,18,19] [] [0,1,2,8,10,18,19] [16] Z Z (a5_ (XE i) (XE j) (Qdi _ k) (Yu g Z) ⟨(Xq (Yz g).2),EC Z⟩) Z<|I 7 Z (L 10 Z)<|G [7,.S 8 (.own 16 (h.set y.toNat e.1).length)] Z (congrArg (λn=>V.own 16 n) (by simp))<|R 0 Z)<|X 2 Z) (λz=>gT_ [2,.denil 6 [Q 1]] Z<|E 0 Z) (λC=>zF_ 10 16 [6] [] Z<|E 0 Z)
def Ed:O_ ((Int×QMk)⊕QMk):=Q (y_ ((Qh (a+1)),e))
def JJ:O_ ((Int×QMk)⊕QMk):=cond (q<j.Cancel.length) (j_ (idx j.Cancel q) λc=>cond ((0<=c)&&(c<(e1.length:Int))) (j_ (idx e1 c) λe=>Ed q (e1.set c.toNat ([]:QBg)))<|Ed q e1)<|Q (i_ e1)
def Uz:O_ (QMk×Int):=j_ (Ws k4 m3.1) λa=>Q (a.1,a.2)
def WC:O_ (QMk×Int):=j_ (Ah b r) λa=>cond (a.2 != 0) (Q (([]:L_ QBg),a.2))<|j_ (Hx e) λd=>j_ (idx b.Tasks r.Task) λc=>j_ (Qq (λst=>JJ c st.1 st.2) (0,d)) (λq=>Uz a q)
def Qgs {k l m}:CT 123 [.G Qi k,.M 1 Qj l,.G Qy m] [] (WC k l m) (λr=>(.tup [.M 1 Qj r.1,.I r.2])) no_:=
 W 53 func123 Z<|A 12 QeN Z λt=>I 14 Z (gT_ [9,.denil 6 [Q 1]] Z<|E 0 Z)<|oC_ 5 [.d] PC Z λo=>J 10 Z λp=>N 2 Z<|lA_ 4 [8,30,31] [] (λst=>([(10,.P 23 st.2),(32,.I st.1)],[(23,.R 1 Qj st.2)])) [8] [] (λq=>(.exit 0,([(10,.P 23 q)],[(23,.R 1 Qj q)]))) Z (λ⟨h,g⟩=>I 6 Z (mE_ 2 [8,30,31,32] [] (λa:QMk=>([(10,.P 23 a)],[(23,.R 1 Qj a)])) (λa=>Ed h a) Z (J 3 Z λe=>T 5 [8,10,12,30,31,32] [23] ([(43,.b ((0<=e)&&(e<(g.length:Int))))],[]) Z (H 4 Z (λc=>Y 6 43 Z (Ye c Z)) λc=>Y 6 43 Z (YH c Z))<|I 1 Z (B λi f=>g3_ [4,.x (λz=>z.set 23 (.arr 1 ((g.set e.toNat ([]:QBg)).map Qj))),2,.S 10 (.own 23 (g.set e.toNat ([]:QBg)).length)] Z (Yu f Z) (Qf.storeNil (zz:=2) (r:=Qj i) Z Z Z Z (Xq (Yz f).2) Z (QC.sz Z) Z (EC Z)) (congrArg (λn=>V.own 23 n) (by simp))<|P 0 Z Z)<|P 2 Z Z) λa=>R 4 Z)<|X 2 Z) λj=>G [6,.frz 23 (j.map Qj) [10,48] []] Z (a2_ (Kf Qx) (Kf Qx))<|S 0 .fn [] Qdn Z λs=>E 7 Z
def Wc:O_ (Int×QR):=j_ (WC l.net l.now.M p.Mode) λb=>cond (b.2 != 0) (Q (b.2,l))<|j_ (Ai l.now.Items p.Id) λd=>Q (0,(QR.mk l.net (QF.mk b.1 d l.now.Next l.now.Now) l.call))
def Qgt {f g}:CT 130 [.L 621,.G Qt g,.clo (.func 123) [] []] [(621,.W QZ f)] (Wc f g) (λr=>(.I r.1)) (λr=>[(621,.W QZ r.2)]):=
 W 45 func130 Z<|B λh b=>D 7 Z (dz_ [(12,.B (.C3 (.tup [.M 1 Qj h.1,.I h.2]))),(4,.N)]) [] [] [0,4,7,8] [4,621] Z Z (a1_ (Qgs _ b)) Z<|I 8 Z (E 8 Z)<|B λi e=>D 3 Z (dz_ [(1,.a .no n_ t_),(8,.B (.cd f_ [.d,.d] 11 (i.map Qt) i.length)),(3,.m .s),(3,.m .s)]) [0,4,7] [4] [] [621] Z Z (a1_ ⟨(VP _ e),Qx⟩) Z<|E 7 Z
def BV:O_ (QMk×Int):=j_ (Yr b r) λc=>cond (c.2 != 0) (Q (([]:L_ QBg),c.2))<|j_ (Ws e c.1) λa=>Q (a.1,a.2)
def Qp2 {a b c}:CT 131 [.G Qi a,.M 1 Qj b,.G Qy c] [] (BV a b c) (λr=>(.tup [.M 1 Qj r.1,.I r.2])) no_:=
 W 24 func131 Z<|A 12 VN Z λe=>I 14 Z (gT_ [9,.denil 6 [Q 1]] Z<|E 0 Z)<|S 6 .fn [] Qdn Z λd=>E 7 Z
def YA:O_ (Int×QR):=j_ (BV l.net l.now.M p.Mode) λb=>cond (b.2 != 0) (Q (b.2,l))<|j_ (Ai l.now.Items p.Id) λd=>Q (0,(QR.mk l.net (QF.mk b.1 d l.now.Next l.now.Now) l.call))
def Cr {f g}:CT 130 [.L 621,.G Qt g,.clo (.func 131) [] []] [(621,.W QZ f)] (YA f g) (λr=>(.I r.1)) (λr=>[(621,.W QZ r.2)]):=
 W 45 func130 Z<|B λh b=>D 7 Z (dz_ [(12,.B (.C3 (.tup [.M 1 Qj h.1,.I h.2]))),(4,.N)]) [] [] [0,4,7,8] [4,621] Z Z (a1_ (Qp2 _ b)) Z<|I 8 Z (E 8 Z)<|B λi e=>D 3 Z (dz_ [(1,.a .no n_ t_),(8,.B (.cd f_ [.d,.d] 11 (i.map Qt) i.length)),(3,.m .s),(3,.m .s)]) [0,4,7] [4] [] [621] Z Z (a1_ ⟨(VP _ e),Qx⟩) Z<|E 7 Z
def YB:O_ (Int×Qz×QR):=cond (o != 0) (Q (o,(Qz.mk 0 0 ([]:LI_)),l))<|j_ (KU p.Batch) λf=>cond (!f) (j_ (US l.now.Items p) λg=>Q (0,(Qz.mk 0 p.Id ([]:LI_)),(QR.mk l.net (QF.mk l.now.M g l.now.Next l.now.Now) l.call)))<|j_ (BU p.Batch) λh=>cond h (j_ (Wc l p) λd=>Q (d.1,(Qz.mk 0 p.Id ([p.Id]:L_ Int)),d.2))<|j_ (YA l p) λe=>Q (e.1,(Qz.mk 0 p.Id ([p.Id]:L_ Int)),e.2)
def WD:O_ (Int×Qz×QR):=j_ (JE l) λa=>cond (a.1==0) (j_ (DC l a.2.Batch) λb=>YB l b.1 (Qm.mk a.2.Id a.2.Mode b.2 a.2.Until))<|YB l a.1 a.2
def Qcz {k}:CT 72 [.L 621] [(621,.W QZ k)] (WD k) (λr=>(.tup [.G QM r.2.1,.I r.1])) (λr=>[(621,.W QZ r.2.2)]):=
 W 63 func72 Z<|S 9 .fn [(621,621)] TY Z λq=>mF_ 8 [0,2,4] [2,621] (λ(c:Int) (b:Qm)=>([(5,.I c)],[(4,.W Qt b)])) (λc b=>YB k c b) Z (I 6 Z (S 4 .fn [(621,621)] Qeo Z λl=>fA_ 7 Z Z)<|fA_ 1 Z Z) λc b=>I 7 Z (G [2,.v .no [n_,n_,Q 1] (.agg (QM (Qz.mk 0 0 ([]:LI_)))),7] Z Z<|E 0 Z)<|G [8,.v (.bd []) [] (.sl 1 (([b.Id]:L_ Int).map Qb)),11] Z Z<|A 0 Qaf Z λo=>I 4 Z (B λe f=>D 1 Z (dz_ [(7,.B (.cd f_ [.d,.d] 11 (e.map Qt) e.length)),(3,.m .s)]) [] [] [2,4] [2,4,621] Z Z (a1_ ⟨(Qgr _ f),Qx⟩) Z<|G [5,.v .no [n_,n_,Q 1] (.agg (QM (Qz.mk 0 b.Id ([]:LI_)))),7] Z Z<|E 0 Z)<|A 4 Qp1 Z λp=>I 3 Z (B λg h=>D 1 Z [.a .no (Q ([],.agg (QM (Qz.mk 0 b.Id ([b.Id]:L_ Int))))) t_,.N,.E (.G Qt b),.m (.cm (.fn) [(621,621)] [(621,621)] [] [.d,.d,.d] [(621,.W QZ g.2)] (.I g.1) []),.m .s,.N] [0,2,4,6] [2,4,6] [2,3] [2,621] Z Z (a3_ Z Z (a1_ (Qgt _ h))) Z<|E 4 Z)<|B λi j=>D 4 Z [.a .no (Q ([],.agg (QM (Qz.mk 0 b.Id ([b.Id]:L_ Int))))) t_,.N,.E (.G Qt b),.m (.cm (.fn) [(621,621)] [(621,621)] [] [.d,.d,.d] [(621,.W QZ i.2)] (.I i.1) []),.m .s,.N] [0,2,4,6] [2,4,6] [2,3] [2,621] Z Z (a3_ Z Z (a1_ (Cr _ j))) Z<|E 2 Z
def YY (c:Qc)(f:QMk)(a:Int)(b:LI_):O_ (Int×Xr):=(DA c a b).bind λd=>cond (d.2 != 0) (Q (d.2,(Xr.mk (Qc.mk ([]:(L_ QK)) ([]:(L_ Xn)) ([]:(L_ QL)) 0 0) ([]:QMk) (QL.mk (⟨#[]⟩:ByteArray) ([]:(L_ JH)) (Qs.mk 0 0 ([]:(L_ Qs))) 0 0 ([]:(L_ Jy)) ([]:(L_ Jy)) ([]:LI_) 0 (0,0,0)) ([]:LI_))))<|(idx c.Tasks a).bind λe=>Q (0,(Xr.mk c f e d.1))
def QeP {f g b c}:CT 160 [.G Qi f,.M 1 Qj g,.I b,.M 1 Qb c] [] (YY f g b c) (λr=>(.tup [.G JQ r.2,.I r.1])) no_:=
 W 32 func160 Z<|A 12 QbJ Z λh=>I 14 Z (G [2,.v .no [Q 7,Q 3,Q 14,n_,n_,Q 1,n_,Q 2,n_,n_,Q 3,n_,n_,Q 4,Q 4,Q 1,n_,n_,n_,n_,Q 1] (.agg (JQ (Xr.mk (Qc.mk ([]:(L_ QK)) ([]:(L_ Xn)) ([]:(L_ QL)) 0 0) ([]:QMk) (QL.mk (⟨#[]⟩:ByteArray) ([]:(L_ JH)) (Qs.mk 0 0 ([]:(L_ Qs))) 0 0 ([]:(L_ Jy)) ([]:(L_ Jy)) ([]:LI_) 0 (0,0,0)) ([]:LI_)))),7] Z Z<|E 0 Z)<|B λe d=>D 3 Z (dz_ [(5,.B (.row (QE e))),(3,.m .s),(0,.m .s)]) [] [] [8,9] [8] Z Z (a1_ (XE d)) Z<|E 2 Z
def XR (b:Xr):O_ Int:=j_ (HA b.task.Guard b.env) λa=>cond (a.2 != 0) (Q a.2)<|cond (a.1==0) (Q 9)<|Q 0
def OP {a}:CT 161 [.G JQ a] [] (XR a) V.I no_:=
 W 21 func161 Z<|A 13 Qgq Z λb=>I 16 Z (E 9 Z)<|I 7 Z (E 8 Z)<|E 9 Z
def Bn:O_ QLL:=Q j1
def RJ:O_ ((Int×LI_)⊕LI_):=Q (y_ ((Qh (a+1)),f))
def Ju:O_ QLL:=
 cond ((h<0)||((16<h)||((a==3)&&(4<h)))) (Q ([]:QLL))<|cond (a==1) (j_ (Qq (λst=>cond (st.1<h) (j_ (chk (st.2.length+([st.1]:L_ Int).length<=4294967296)) λd=>Q (y_ ((Qh (st.1+1)),(st.2++([st.1]:L_ Int)))))<|Q (i_ st.2)) (0,([]:L_ Int))) (λq=>Q ([q]:QLL)))<|cond (a==2) (j_ (Qq (λst=>cond (st.1<h) (j_ (chk (st.2.length+([([st.1]:L_ Int)]:QLL).length<=4294967296)) λe=>Q (y_ ((Qh (st.1+1)),(st.2++([([st.1]:L_ Int)]:QLL)))))<|Q (i_ st.2)) (0,([]:QLL))) (λq=>Bn q))<|cond (a==3) (j_ (Qq (λst=>j_ (chk (0<=h)) λf=>cond (st.1<(QuT .i64 1 h)) (j_ (Qq (λg=>cond (g.1<h) (j_ (chk (0<=g.1)) λi=>cond ((Eo .i64 (Wd .i64 st.1 g.1) 1)==1) (j_ (chk (g.2.length+([g.1]:L_ Int).length<=4294967296)) λi=>RJ g.1 (g.2++([g.1]:L_ Int)))<|RJ g.1 g.2)<|Q (i_ g.2)) (0,([]:L_ Int))) (λj=>j_ (chk (st.2.length+([j]:QLL).length<=4294967296)) λk=>Q (y_ ((Qh (st.1+1)),(st.2++([j]:QLL))))))<|Q (i_ st.2)) (1,([]:QLL))) (λq=>Bn q))<|Bn ([]:QLL)
def RK {c a}:CT 158 [.I c,.I a] [] (Ju c a) (λr=>(.P 600 r)) (λr=>[(600,.R 1 XH r)]):=
 W 79 func158 Z<|T 7 [0,1] [] ([(25,.b ((a<0)||((16<a)||((c==3)&&(4<a)))))],[]) Z (H 4 Z (λd=>Y 12 25 Z (Jf d Z)) λd=>H 4 Z (λg=>Y 8 25 Z (Xk d (Jf g Z))) λg=>H 3 Z (λi=>Y 5 25 Z (Xk d (Xk g (Ye i Z)))) λi=>Y 5 25 Z (Xk d (Xk g (YH i Z))))<|I 1 Z (aD_ 7 4 600 1 Z<|E 0 Z)<|mE_ 7 [] [] (λe:QLL=>([(5,.P 604 e)],[(604,.R 1 XH e)])) (λe=>Bn e) Z (I 12 Z (aD_ 13 6 33 1 Z<|lA_ 0 [29] [] (λst=>([(6,.P 33 st.2),(30,.I st.1)],[(33,.R 1 Qb st.2)])) [] [] (λq=>(.exit 1,([(6,.P 33 q)],[(33,.R 1 Qb q)]))) Z (λ⟨w,x⟩=>I 6 Z (pA_ 13 1 Qb Z<|R 8 Z)<|X 2 Z) λk=>g2_ [5,.frz 33 (k.map Qb) [6,38] [],1,.O 39 (.arr 1 (([k]:QLL).map XH)),6,.ren 39 600] Z (a2_ (Kf Qx) (Kf Qx)) Z<|E 0 Z)<|I 6 Z (aD_ 7 5 46 1 Z<|lA_ 0 [42] [] (λst=>([(5,.P 46 st.2),(43,.I st.1)],[(46,.R 1 XH st.2)])) [] [] (λq=>(.exit 3,([(5,.P 46 q)],[(46,.R 1 XH q)]))) Z (λ⟨s,y⟩=>I 6 Z (G [13,.v (.bd []) [] (.sl 1 (([s]:L_ Int).map Qb))] Z Z<|pA_ 0 1 XH Z<|R 8 Z)<|X 2 Z) λz=>gT_ [2,.ren 46 604] Z<|P 0 Z Z)<|I 6 Z (aD_ 6 5 74 1 Z<|lA_ 0 [1] [] (λst=>([(5,.P 74 st.2),(9,.I st.1)],[(74,.R 1 XH st.2)])) [] [] (λq=>(.exit 5,([(5,.P 74 q)],[(74,.R 1 XH q)]))) Z (λ⟨set_33,C⟩=>kA_ λl=>K [5,.o (.any (.I (QuT .i64 1 a)) n_),3] Z (λp=>(a1_ (λσ h u _=>Qf.shl Z Z (QP p.n Z) (h _ _ Z) (h _ _ Z) (Xe l))))<|I 0 Z (aD_ 17 10 69 1 Z<|lA_ 0 [1,5,9,60] [74] (λst=>([(10,.P 69 st.2),(61,.I st.1)],[(69,.R 1 Qb st.2)])) [1,5,9] [74] (λq=>(.exit 7,([(10,.P 69 q)],[(69,.R 1 Qb q)]))) Z (λ⟨j,a0⟩=>I 6 Z (mE_ 2 [1,5,9,60,61] [74] (λf:LI_=>([(10,.P 69 f)],[(69,.R 1 Qb f)])) (λf=>RJ j f) Z (kA_ λm=>K [11,.o (.any (.I (Wd .i64 set_33 j)) n_),.o (.any (.I (Eo .i64 (Wd .i64 set_33 j) 1)) n_),3] Z (λp=>(a2_ (λσ h u _=>Qf.shr Z Z (QP p.n Z) (h _ _ Z) (h _ _ Z) (Xe m)) (λσ h u _=>Qf.andB Z Z (QP p.n Z) (h _ _ Z) (h _ _ Z))))<|I 0 Z (pA_ 3 1 Qb Z<|P 3 Z Z)<|P 2 Z Z) λf=>R 4 Z)<|X 2 Z) λt=>G [5,.frz 69 (t.map Qb) [10,75] []] Z (a2_ (Kf Qx) (Kf Qx))<|pA_ 0 1 XH Z<|R 9 Z)<|X 2 Z) λa1=>gT_ [2,.ren 74 604] Z<|P 0 Z Z)<|aD_ 2 5 604 1 Z<|P 0 Z Z) λe=>gT_ [7,.ren 604 600] Z<|E 0 Z
def WM:O_ (Int⊕(Unit⊕Unit)):=cond (q<f.length) (j_ (idx f q) λe=>j_ (idx d2 q) λb=>cond (e != b) (Q (i_ (y_ ())))<|Q (y_ (Qh (q+1))))<|Q (i_ (i_ ()))
def Kq:O_ Bool:=cond ((f.length:Int)!=d2.length) (Q f_)<|j_ (Qq (λst=>WM f d2 st) 0) (Sum.elim (λq=>Q f_) (λq=>Q t_))
def QcC {f g}:CT 250 [.M 1 Qb f,.M 1 Qb g] [] (Kq f g) V.b no_:=
 W 26 func250 Z<|N 9 Z<|N 1 Z<|I 3 Z (E 7 Z)<|N 6 Z<|F 4 [0,1,12] [] (λst=>([(13,.I st)],[])) [] [] (λq=>(.ret,([(4,.b f_)],[]))) [] [] (λq=>(.exit 0,([],[]))) Z (λi=>I 6 Z (B λh d=>B λe c=>D 11 Z (dz_ [(2,.B (.row (Qb h))),(3,.B (.row (Qb e))),(1,.N)]) [] [] [0,1,12,13,24] [] Z Z (a2_ (XE d) (XE c)) Z<|I 1 Z (L 8 Z)<|R 7 Z)<|X 2 Z) (λ_=>E 2 Z) (λ_=>E 8 Z)
def NQ:O_ Bool:=j_ (Kq f d2) λc=>Q c
def Qjg {c a}:CT 249 [.M 1 Qb c,.L 621] [(621,.W XH a)] (NQ c a) V.b (λ_=>[(621,.W XH a)]):=
 W 7 func249 Z<|A 9 QcC Z λd=>E 4 Z
def Jz:O_ (Int⊕(Int⊕Unit)):=cond (e3<j1.length) (j_ (idx j1 e3) λe=>j_ (NQ e g1) λb=>cond b (Q (i_ (y_ e3)))<|Q (y_ (Qh (e3+1))))<|Q (i_ (i_ ()))
def GG:O_ Int:=j_ (Qq (λst=>Jz j1 g1 st) 0) (Sum.elim (λq=>Q q) (λq=>Q (-1)))
def ZN {b a}:CT 245 [.M 1 XH b,.clo (.func 249) [] [.L 621]] [(621,.W XH a)] (GG b a) V.I (λ_=>[(621,.W XH a)]):=
 W 19 func245 Z<|N 9 Z<|F 4 [0,1,7] [621] (λst=>([(8,.I st)],[])) [] [621] (λq=>(.ret,([(4,.I q)],[]))) [] [621] (λq=>(.exit 0,([],[]))) Z (λd=>I 6 Z (J 15 Z λe=>S 1 .clo [(621,621)] Qjg Z λc=>I 2 Z (L 9 Z)<|R 7 Z)<|X 2 Z) (λf=>E 2 Z) (λ_=>E 8 Z)
def Da:O_ Bool:=j_ (GG j1 g1) λc=>Q (decide (0<=c))
def Tr {c a}:CT 248 [.M 1 XH c,.clo (.func 249) [] [.L 621]] [(621,.W XH a)] (Da c a) V.b (λ_=>[(621,.W XH a)]):=
 W 9 func248 Z<|S 9 .fn [(621,621)] ZN Z λd=>E 5 Z
def EZ:O_ Bool:=j_ (Ju a h) λd=>j_ (Da d f) λe=>Q e
def Qdo {a c e}:CT 167 [.I a,.I c,.M 1 Qb e] [] (EZ a c e) V.b no_:=
 W 12 func167 Z<|oC_ 10 [.d,.d] RK Z λf=>zF_ 1 9 [9] [] Z<|S 0 .fn [(621,5)] Tr Z λg=>E 4 Z
def Gu:O_ (Unit⊕Unit):=cond (((Xg g c).getD 0)<d) (Q (i_ ()))<|Q (y_ ())
def HB : O_ Bool:=Q t_
def HC : O_ Bool:=Q f_
def Ul:O_ Bool:=j_ (MF (λst p=>Gu l0 p.1 p.2) () g) (Sum.elim (λq=>HB) (λq=>HC))
def Sj {k g}:CT 284 [.map 621,.map 622] [(621,.map (QO V.I V.I k)),(622,.map (QO V.I V.I g))] (Ul k g) V.b (λ_=>[(621,.map (QO V.I V.I k)),(622,.map (QO V.I V.I g))]):=
 W 19 func284 Z<|@λC r=>gP_ 9 Z<|λa h=>AK.openMap (b:=621) BC Z λc d L5 l s=>QfP a h<|K [.x (λσ=>(σ.set 8 (.itr c d #[] n_)).put 8 (.L 8)),3,.K [1,8] [8,621,622]] Z (λa=>(a1_ (Qf.range (b:=621) Z Z (QP a.n Z) Z Z Aa Z)))<|B λu t=>(λa h=>by
   refine AK.range (body:=(λst p=>Gu g p.1 p.2)) (λst seen σ=>∃cur:O_ Nat,σ=⟨[(1,.map 622),lk_ 8],[(8,.itr c d seen cur),(621,.mapX c d (Nn V.I V.I L5) (QO V.I V.I k)),(622,.map (QO V.I V.I g))]⟩) (λq e σ=>e=.ret/\σ=⟨[(4,.b f_)],[(621,.mapX c d (Nn V.I V.I L5) (QO V.I V.I k)),(622,.map (QO V.I V.I g))]⟩) (λst e σ=>e=.exit 0/\σ=⟨[],[(621,.mapX c d (Nn V.I V.I L5) (QO V.I V.I k)),(622,.map (QO V.I V.I g))]⟩) l s t (ex_ _ rfl) ?_ ?_
   ·rintro _ seen σ ⟨cur,rfl⟩ hex;refine tg_ a [2] ?_;refine AK.nextT (b:=8) (m:=621) rfl rfl rfl (QP a.n rfl) rfl rfl rfl rfl ?_ ?_
    ·intro hleft;refine tg_ a [7,.K [] [621,622]] ?_;exact AK.done (Or.inl (an_ hleft (an_ (λh=>(by cases h)) (an_ Z Z))))
    intro O v w i;obtain⟨o,h⟩:=hex _ i;have ho:=h;replace h:Gu g v w=Q o:=h;refine YF a [10,.x (λσ=>σ.put 11 (.tup [.I v,.I w])),11,.o (.any (.I ((Xg g v).getD 0)) n_),3] rfl (a2_ (Qf.entryT (b:=8) (m:=621) (e:=V.I) (f:=V.I) rfl rfl (QP a.n rfl) rfl i rfl rfl) (λσ y h2 _=>Qf.lookup (z:=0) rfl rfl (QP a.n rfl) (y _ _ rfl) (h2 _ _ rfl) (y _ _ rfl) Aa BC QfO rfl)) ?_;refine bg_ h (λj h=>YF a [.T,7,.K [4] [621,622]] rfl (a1_ j) ?_) λj h=>YF a [.F,2,.K [1,8] [8,621,622]] rfl (a1_ j) ?_
    ·cases h;exact AK.done (Or.inr (ex_ _ (an_ i (Or.inr (ex_ _ (an_ ho (an_ (λh=>(by cases h)) (an_ Z Z))))))))
    cases h;exact AK.done (Or.inr (ex_ _ (an_ i (Or.inl (ex_ _ (an_ ho (an_ Z (ex_ _ Z))))))))
   rcases u with(_|_)
   ·replace h:HB=Q r:=h;unfold HB at h;rintro e σ ⟨rfl,rfl⟩;refine tg_ a [8] ?_;refine AK.closeMap (b:=621) rfl ?_;refine tg_ a [.K [4] [621,622]] ?_;exact E 0 Z a h
   replace h:HC=Q r:=h;unfold HC at h;rintro e σ ⟨rfl,rfl⟩;refine tg_ a [2] ?_;refine AK.closeMap (b:=621) rfl ?_;refine tg_ a [.K [4] [621,622]] ?_;exact E 0 Z a h)
def QeQ:O_ Bool:=j_ (Ul g4.1 g4.2) λa=>Q a
def OQ:O_ Bool:=j_ (PA g l0) (Sum.elim (λq=>Q f_) (Sum.elim (λq=>Q f_) (Sum.elim (λq=>Q f_) (λq=>QeQ q))))
def Qob {c e}:CT 303 [.M 2 QB c,.M 2 QB e] [] (OQ c e) V.b no_:=
 W 21 func303 Z<|gP_ 9 Z<|s4_ (λj a=>G [.cm (.fn) [] [] [] [.d,.d] [] (.tup [.lit (.map n_),.lit (.map n_),.b f_]),21] Z (KN _ a)<|E 0 Z) (λg a=>G [.cm (.fn) [] [(11,603)] [] [.d,.d] [(603,.map (QO V.I V.I g))] (.tup [.lit (.map n_),.map 603,.b f_]),21] Z (KN _ a)<|E 0 Z) (λh a=>G [.cm (.fn) [] [(11,602)] [] [.d,.d] [(602,.map (QO V.I V.I h))] (.tup [.map 602,.lit (.map n_),.b f_]),21] Z (KN _ a)<|E 0 Z) λf a=>G [.cm (.fn) [] [(11,602),(613,603)] [] [.d,.d] [(602,.map (QO V.I V.I f.1)),(603,.map (QO V.I V.I f.2))] (.tup [.map 602,.map 603,.b t_]),15] Z (KN _ a)<|S 0 .fn [(621,11),(622,613)] Sj Z λi=>E 5 Z
def QS:O_ (Int⊕(Unit⊕Unit)):=cond (d<e.length) (j_ (idx e d) λf=>j_ (idx d1 d) λb=>j_ (OQ f b) λc=>cond (!c) (Q (i_ (y_ ())))<|Q (y_ (Qh (d+1))))<|Q (i_ (i_ ()))
def XK:O_ Bool:=cond ((e.length:Int)!=d1.length) (Q f_)<|j_ (Qq (λst=>QS e d1 st) 0) (Sum.elim (λq=>Q f_) (λq=>Q t_))
def Ew {a c}:CT 30 [.M 1 Qj a,.M 1 Qj c,.clo (.func 303) [] []] [] (XK a c) V.b no_:=
 W 32 func30 Z<|N 9 Z<|N 1 Z<|I 3 Z (E 7 Z)<|N 6 Z<|F 4 [1,2,15,16] [] (λst=>([(17,.I st)],[])) [] [] (λq=>(.ret,([(6,.b f_)],[]))) [] [] (λq=>(.exit 0,([],[]))) Z (λf=>I 6 Z (J 7 Z λg=>J 9 Z λd=>A 9 Qob Z λe=>I 3 Z (L 8 Z)<|R 7 Z)<|X 2 Z) (λ_=>E 2 Z) (λ_=>E 8 Z)
def GH:O_ Bool:=j_ (XK e d1) λc=>Q c
def Qdp {a c}:CT 246 [.M 1 Qj a,.M 1 Qj c] [] (GH a c) V.b no_:=
 W 8 func246 Z<|S 9 .fn [] Ew Z λd=>E 4 Z
def JB:O_ (Int⊕(Int⊕Unit)):=cond (o<f.length) (j_ (idx f o) λd=>cond (j0==d) (Q (i_ (y_ o)))<|Q (y_ (Qh (o+1))))<|Q (i_ (i_ ()))
def BD:O_ Int:=Q a
def BE : O_ Int:=Q (-1)
def Gv:O_ Int:=j_ (Qq (λst=>JB f j0 st) 0) (Sum.elim (λq=>BD q) (λq=>BE))
def QcD {a b}:CT 304 [.M 1 Qb a,.I b] [] (Gv a b) V.I no_:=
 W 19 func304 Z<|N 9 Z<|F 4 [0,1,7] [] (λst=>([(8,.I st)],[])) [] [] (λq=>(.ret,([(4,.I q)],[]))) [] [] (λq=>(.exit 0,([],[]))) Z (λc=>I 6 Z (J 15 Z λd=>I 4 Z (L 9 Z)<|R 7 Z)<|X 2 Z) (λe=>E 2 Z) (λ_=>E 8 Z)
def Jb:O_ Bool:=j_ (Gv f j0) λc=>Q (decide (0<=c))
def IF {a c}:CT 247 [.M 1 Qb a,.I c] [] (Jb a c) V.b no_:=
 W 9 func247 Z<|A 9 QcD Z λd=>E 5 Z
def WE:O_ (Int⊕(Unit⊕Unit)):=Q (y_ (Qh (a+1)))
def HD (c:Xr):O_ Bool:=cond (m3.2==0) (j_ (GH m3.1 c.m) λb=>Q b)<|Q f_
def HE:O_ (Int⊕(Unit⊕Unit)):=cond m (Q (i_ (y_ ())))<|WE a
def YL (d:Xr)(b:LI_)(a:Int):O_ (Int⊕(Unit⊕Unit)):=cond (a<d.task.Ins.length) (j_ (Jb b a) λf=>cond f (WE a)<|j_ (XF b) λc=>j_ (chk (c.length+([a]:L_ Int).length<=4294967296)) λ_=>j_ (KQ (c++([a]:L_ Int))) λe=>j_ (chk (e.length=(c++([a]:L_ Int)).length)) λ_=>j_ (YC d.net d.task.Ins e d.env) λg=>j_ (HD g d) (λh=>HE a h))<|Q (i_ (i_ ()))
def XD (b:Xr)(a:LI_):O_ Int:=j_ (YC b.net b.task.Ins a b.env) λc=>cond (c.2 != 0) (Q c.2)<|j_ (GH c.1 b.m) λd=>cond (!d) (Q 10)<|cond (b.task.Join != 3) (Q 0)<|j_ (Qq (λst=>YL b a st) 0) (Sum.elim (λq=>Q 11) (λq=>Q 0))
def Sk {i e}:CT 166 [.G JQ i,.M 1 Qb e] [] (XD i e) V.I no_:=
 W 76 func166 Z<|A 16 Cq Z λo=>I 16 Z (E 9 Z)<|A 5 Qdp Z λp=>I 4 Z (E 8 Z)<|I 9 Z (E 8 Z)<|N 9 Z<|F 4 [1,2,41] [2] (λst=>([(42,.I st)],[])) [] [] (λq=>(.ret,([(4,.I 11)],[]))) [] [] (λq=>(.exit 1,([],[]))) Z (λh=>I 6 Z (mU_ 2 [1,2,41,42] [2] ([],[]) (WE h) Z (A 12 IF Z λj=>I 2 Z (uA_ 3 Z Z)<|oC_ 5 [.d] Yf Z λk=>pA_ 1 1 Qb Z<|B λa f=>kA_ λc=>gA_ [6,.cm (.fn) [(621,49)] [(49,621)] [] [.d] [(621,.R 1 Qb a)] (.tup []),.S 8 (.P 49 a),.S 52 (.P 49 a),.S 53 (.P 49 a),12,.frz 49 (a.map Qb) [8,52,53,61] []] Z (a5_ (Co _ f) (by simp[Xe c]) (by simp[Xe c]) (by simp[Xe c]) (a4_ (Kf Qx) (Kf Qx) (Kf Qx) (Kf Qx)))<|A 0 Cq Z λl=>mV_ 8 [1,2,41,42] [2] (λg=>([(74,.b g)],[])) Z (I 4 Z (A 3 Qdp Z λm=>M 2 Z)<|M 6 Z) λg=>I 1 Z (L 8 Z)<|uA_ 2 Z Z)<|R 4 Z)<|X 2 Z) (λ_=>E 2 Z) (λ_=>E 8 Z)
def Ym (b:Xr)(a:LI_):O_ Int:=j_ (YC b.net b.task.Outs a b.env) λc=>Q c.2
def Sl {b a}:CT 165 [.G JQ b,.M 1 Qb a] [] (Ym b a) V.I no_:=
 W 20 func165 Z<|A 16 Cq Z λc=>E 14 Z
def Hb (a:(Int×Xr))(d:Qd):O_ Bool:=j_ (EZ a.2.task.Join a.2.task.Ins.length d.Ins) λb=>cond (!b) (Q t_)<|j_ (EZ a.2.task.Split a.2.task.Outs.length d.Outs) λc=>Q (!c)
def Hc (c:(Int×Xr))(d:Qd)(e:Bool):O_ Int:=cond e (Q 11)<|j_ (XD c.2 d.Ins) λa=>cond (a != 0) (Q a)<|j_ (Ym c.2 d.Outs) λb=>Q b
def Kl (b:(Int×Xr))(c:Qd)(a:Int):O_ Int:=cond (a != 0) (Q a)<|j_ (Hb b c) (λd=>Hc b c d)
def Yb:O_ Int:=j_ (YY b e r.Task r.Vars) λa=>cond (a.1==0) (j_ (XR a.2) λc=>Kl a r c)<|Kl a r a.1
def VQ {d e c}:CT 103 [.G Qi d,.M 1 Qj e,.G Qy c] [] (Yb d e c) V.I no_:=
 W 62 func103 Z<|A 15 QeP Z λg=>mE_ 8 [5,7] [5,7] (λa:Int=>([(8,.I a)],[])) (λa=>Kl g c a) Z (I 6 Z (A 2 OP Z λh=>P 2 Z Z)<|P 1 Z Z) λa=>I 7 Z (E 8 Z)<|mV_ 4 [5,7] [5,7] (λf=>([(50,.b f)],[])) Z (N 7 Z<|A 2 Qdo Z λi=>I 2 Z (M 13 Z)<|N 6 Z<|A 2 Qdo Z λj=>M 3 Z) λf=>I 1 Z (E 7 Z)<|A 8 Sk Z λk=>I 9 Z (E 8 Z)<|A 7 Sl Z λl=>E 4 Z
def EH (l:L_ Int):O_ LI_:=j_ (chk (l.length<4611686018427387904)) λ_=>Q (EE l)
def Qbt (l){r}(h:EH l=Q r):QX prog 251 [.P 621 l] [(621,.R 1 Qb l)] (Gives (.P 621 r) [(621,.R 1 Qb r)]):=by
 obtain⟨_,a,h⟩:=QI h;cases h;exact QtN Qwg l (Xe (QlD a))
def Bo:O_ ((Int×LI_)⊕LI_):=Q (y_ ((Qh (a+1)),f))
def RL (a:Jy)(c:QMk):O_ Bool:=cond (0<=a.Place) (cond (a.Place<(c.length:Int)) (j_ (idx c a.Place) λb=>Q ((b.length:Int)==0))<|Q f_)<|Q f_
def RM (b:Jy)(c:Int)(d:Bool):O_ ((Int×LI_)⊕LI_):=cond d (j_ (chk (f.length+([b.Place]:L_ Int).length<=4294967296)) λ_=>Bo c (f++([b.Place]:L_ Int)))<|Bo c f
def Bp:O_ ((Int×LI_)⊕LI_):=cond (j2<j.Ins.length) (j_ (idx j.Ins j2) λc=>j_ (RL c e1) (λd=>RM g1 c j2 d))<|Q (i_ g1)
def Bq:O_ LI_:=j_ (KQ f) λb=>j_ (chk (b.length=f.length)) λ_=>j_ (EH b) λc=>Q c
def DD:O_ LI_:=
 cond ((d<0)||(b.Tasks.length<=d)) (Q ([]:L_ Int))<|j_ (idx b.Tasks d) λa=>
 j_ (Qq (λst=>Bp a e st.1 st.2) (0,([]:L_ Int))) (λq=>Bq q)
def QkH {l o a}:CT 168 [.G Qi l,.M 1 Qj o,.I a] [] (DD l o a) (λr=>(.P 600 r)) (λr=>[(600,.R 1 Qb r)]):=
 W 59 func168 Z<|T 8 [1,2,3] [3] ([(18,.b ((a<0)||(l.Tasks.length<=a)))],[]) Z (H 4 Z (λf=>Y 7 18 Z (Jf f Z)) λf=>N 3 Z<|Y 3 18 Z (Xk f Z))<|I 1 Z (aD_ 7 6 600 1 Z<|E 0 Z)<|J 13 Z λv=>N 2 Z<|aD_ 4 7 49 1 Z<|lA_ 0 [1,24,25] [] (λst=>([(7,.P 49 st.2),(26,.I st.1)],[(49,.R 1 Qb st.2)])) [] [] (λq=>(.exit 0,([(7,.P 49 q)],[(49,.R 1 Qb q)]))) Z (λ⟨m,p⟩=>I 6 Z (mE_ 2 [1,24,25,26] [] (λc:LI_=>([(7,.P 49 c)],[(49,.R 1 Qb c)])) (λc=>Bo m c) Z (J 3 Z λs=>mV_ 6 [1,7,9,24,25,26] [9,49] (λh=>([(48,.b h)],[])) Z (I 5 Z (N 3 Z<|I 3 Z (J 3 Z λt=>N 1 Z<|M 3 Z)<|M 9 Z)<|M 16 Z) λh=>I 1 Z (pA_ 4 1 Qb Z<|P 3 Z Z)<|P 2 Z Z) λc=>R 4 Z)<|X 2 Z) λu=>B λg i=>kA_ λe=>B λj k=>gA_ [5,.cm (.fn) [(621,49)] [(49,621)] [] [.d] [(621,.R 1 Qb g)] (.tup []),.S 7 (.P 49 g),.S 55 (.P 49 g),5,.cm (.fn) [(621,49)] [(49,621)] [] [.d] [(621,.R 1 Qb j)] (.P 621 j),4,.ren 49 600] Z (a4_ (Co _ i) (by simp[Xe e]) (by simp[Xe e]) (Qbt _ k))<|E 0 Z
def QbL:O_ LI_:=j_ (Qq (λst=>cond (st.1<(f.length:Int)) (j_ (idx f st.1) λg=>j_ (Qq (λh=>cond (0<=h.1) (j_ (chk (0<=(Qh (8*h.1)))) λi=>j_ (chk (h.2.length+([(IntKind.u8.wrap (Wd .i64 g (Qh (8*h.1))))]:L_ Int).length<=4294967296)) λi=>Q (y_ ((Qh (h.1-1)),(h.2++([(IntKind.u8.wrap (Wd .i64 g (Qh (8*h.1))))]:L_ Int)))))<|Q (i_ h.2)) ((Qh (a-1)),st.2)) (λj=>Q (y_ ((Qh (st.1+1)),j))))<|Q (i_ st.2)) (0,([]:L_ Int))) (λq=>Q q)
def Ql0 {a f}:CT 212 [.Y,.I a,.M 1 Qb f] [] (QbL a f) (λr=>(.P 600 r)) (λr=>[(600,.R 1 Gk r)]):=
 W 32 func212 Z<|N 9 Z<|aD_ 4 0 22 1 Z<|lA_ 0 [1,10,11] [] (λst=>([(0,.P 22 st.2),(12,.I st.1)],[(22,.R 1 Gk st.2)])) [] [] (λq=>(.exit 0,([(0,.P 22 q)],[(22,.R 1 Gk q)]))) Z (λ⟨l,m⟩=>I 6 Z (J 6 Z λb=>lA_ 12 [1,8,10,11,12] [] (λst=>([(0,.P 22 st.2),(9,.I st.1)],[(22,.R 1 Gk st.2)])) [1,10,11,12] [] (λq=>(.exit 2,([(0,.P 22 q)],[(22,.R 1 Gk q)]))) Z (λ⟨c,h⟩=>I 7 Z (kA_ λd=>K [9,.o (.any (.I (Wd .i64 b (Qh (8*c)))) n_),.o (.any (.i .u8 (IntKind.u8.wrap (Wd .i64 b (Qh (8*c))))) n_)] Z (λg=>(a2_ (λz e j _=>Qf.shr Z Z (QP g.n Z) (e _ _ Z) (e _ _ Z) (Xe d)) (λz e j _=>Qf.convI Z Z (QP g.n Z) (e _ _ Z) QlK Qu2)))<|pA_ 0 1 Gk Z<|R 9 Z)<|X 2 Z) λk=>R 7 Z)<|X 2 Z) λp=>gT_ [9,.ren 22 600] Z<|E 0 Z
def Cs:O_ ((Int×LI_)⊕LI_):=cond (0<=h) (j_ (chk (0<=(Qh (8*h)))) λ_=>j_ (chk (f.length+([(IntKind.u8.wrap (Wd .i64 a (Qh (8*h))))]:L_ Int).length<=4294967296)) λ_=>Q (y_ ((Qh (h-1)),(f++([(IntKind.u8.wrap (Wd .i64 a (Qh (8*h))))]:L_ Int)))))<|Q (i_ f)
def Qdq:O_ ((Int×LI_)⊕LI_):=Q (y_ ((Qh (a+1)),f))
def LH:O_ ((Int×LI_)⊕LI_):=cond (o<f.length) (j_ (idx f o) λc=>j_ (Qq (λst=>Cs c st.1 st.2) ((Qh (j0-1)),d2)) (λq=>Qdq o q))<|Q (i_ d2)
def FB:O_ LI_:=j_ (Qq (λst=>LH d2 j0 st.1 st.2) (0,f)) (λq=>Q q)
def Qdr {f a g}:CT 212 [.P 619 f,.I a,.M 1 Qb g] [(619,.R 1 Gk f)] (FB f a g) (λr=>(.P 619 r)) (λr=>[(619,.R 1 Gk r)]):=
 W 32 func212 Z<|N 9 Z<|lA_ 4 [1,10,11] [] (λst=>([(0,.P 619 st.2),(12,.I st.1)],[(619,.R 1 Gk st.2)])) [] [] (λq=>(.exit 0,([(0,.P 619 q)],[(619,.R 1 Gk q)]))) Z (λ⟨p,s⟩=>I 6 Z (J 6 Z λb=>lA_ 12 [1,8,10,11,12] [] (λst=>([(0,.P 619 st.2),(9,.I st.1)],[(619,.R 1 Gk st.2)])) [1,10,11,12] [] (λq=>(.exit 2,([(0,.P 619 q)],[(619,.R 1 Gk q)]))) Z (λ⟨c,j⟩=>I 7 Z (kA_ λd=>K [9,.o (.any (.I (Wd .i64 b (Qh (8*c)))) n_),.o (.any (.i .u8 (IntKind.u8.wrap (Wd .i64 b (Qh (8*c))))) n_)] Z (λh=>(a2_ (λz e k _=>Qf.shr Z Z (QP h.n Z) (e _ _ Z) (e _ _ Z) (Xe d)) (λz e k _=>Qf.convI Z Z (QP h.n Z) (e _ _ Z) QlK Qu2)))<|pA_ 0 1 Gk Z<|R 9 Z)<|X 2 Z) λl=>R 7 Z)<|X 2 Z) λm=>E 9 Z
def Ts:O_ Bool:=j_ (Gr g) λb=>cond (!b) (Q t_)<|cond (65535<(g.length:Int)) (Q t_)<|cond (0<(g.length:Int)) (j_ (idx g (Qh ((g.length:Int)-1))) λc=>Q (decide (4294967295<c.1)))<|Q f_
def LI:O_ ((Int×LI_)⊕LI_):=cond (c<g.length) (j_ (idx g c) λd=>j_ (FB f 4 ([d.1,d.2]:L_ Int)) λe=>Q (y_ ((Qh (c+1)),e)))<|Q (i_ f)
def Qds:O_ ((Int×LI_)⊕(Unit⊕LI_)):=Q (y_ ((Qh (a+1)),f))
def Qdt (c:Bool):O_ ((Int×LI_)⊕(Unit⊕LI_)):=cond c (Q (i_ (y_ ())))<|j_ (FB f 2 ([(f1.length:Int)]:L_ Int)) λd=>j_ (Qq (λst=>LI f1 st.1 st.2) (0,d)) (λq=>Qds e0 q)
def LJ:O_ ((Int×LI_)⊕(Unit⊕LI_)):=cond (d<e.length) (j_ (idx e d) λb=>j_ (Ts b) (λa=>Qdt f b d a))<|Q (i_ (i_ f))
def FC:O_ (LI_×Int):=cond (64<(e.length:Int)) (Q (([]:L_ Int),1))<|j_ (QbL 1 ([(e.length:Int)]:L_ Int)) λb=>j_ (Qq (λst=>LJ e st.1 st.2) (0,b)) (Sum.elim (λq=>Q (([]:L_ Int),1)) (λq=>Q (q,0)))
def Qdu {d}:CT 121 [.M 1 Qj d] [] (FC d) (λr=>(.tup [.M 1 Gk r.1,.I r.2])) no_:=
 W 66 func121 Z<|N 10 Z<|I 3 Z (gT_ [8,.denil 2 [Q 1]] Z<|E 0 Z)<|N 5 Z<|G [.v (.bd []) [] (.sl 1 (([(d.length:Int)]:L_ Int).map Qb))] Z Z<|zA_ 0 .fn [] [(15,600)] [] Ql0 Z λp=>N 7 Z<|F 4 [16,17] [] (λst=>([(4,.P 15 st.2),(18,.I st.1)],[(15,.R 1 Gk st.2)])) [] [] (λq=>(.ret,([(2,.Y),(3,.I 1)],[]))) [] [] (λq=>(.exit 0,([(4,.P 15 q)],[(15,.R 1 Gk q)]))) Z (λ⟨s,f⟩=>I 6 Z (J 6 Z λe=>mV_ 6 [4,6,16,17,18] [15] (λa=>([(44,.b a)],[])) Z (A 2 BY Z λg=>I 2 Z (M 20 Z)<|N 1 Z<|I 3 Z (M 15 Z)<|N 1 Z<|I 2 Z (N 2 Z<|J 1 Z λh=>M 6 Z)<|M 11 Z) λa=>I 1 Z (L 10 Z)<|N 6 Z<|G [.v (.bd []) [] (.sl 1 (([(e.length:Int)]:L_ Int).map Qb))] Z Z<|zA_ 0 .fn [(619,15)] [(15,619)] [15] Qdr Z λi=>N 6 Z<|lA_ 4 [16,17,18,50,51] [] (λst=>([(4,.P 15 st.2),(52,.I st.1)],[(15,.R 1 Gk st.2)])) [16,17,18] [] (λq=>(.exit 2,([(4,.P 15 q)],[(15,.R 1 Gk q)]))) Z (λ⟨j,k⟩=>I 6 Z (J 6 Z λc=>G [11,.v (.bd []) [] (.sl 1 (([c.1,c.2]:L_ Int).map Qb))] Z Z<|zA_ 0 .fn [(619,15)] [(15,619)] [15] Qdr Z λl=>R 8 Z)<|X 2 Z) λm=>R 7 Z)<|X 2 Z) (λ_=>gT_ [2,.denil 2 [Q 1]] Z<|E 0 Z) (λo=>zF_ 10 15 [2] [] Z<|E 0 Z)
def IG:O_ ByteArray:=j_ (FC e) λb=>Q (NL b.1)
def VR {a}:CT 252 [.M 1 Qj a] [] (IG a) V.s no_:=
 W 12 func252 Z<|A 8 Qdu Z λb=>K [10,.o (.any (.s (NL b.1)) n_),4] Z (λc=>(a1_ (λz d e _=>Qf.b2s Z Z (QP c.n Z) (d _ _ Z) Z Qwl Qu2 (QC.sb Z))))<|E 0 Z
def QeR:O_ (Qc×QL):=Q (b,j)
def Qjh {a b}:CT 159 [.G Qi a,.G QE b] [] (QeR a b) (λ_=>(.clo (.func 244) [] [.L 3,.L 2])) (λr=>[(2,.W Qi r.1),(3,.W QE r.2)]):=
 W 6 func159 Z<|E 14 Z
def BF:O_ QLL:=j_ (chk ((([]:QLL).length+j1.length)*24<=140737488355328)) λ_=>Q (([]:QLL)++j1)
def Qak {a}:CT 163 [.M 1 XH a] [] (BF a) (λr=>(.P 600 r)) (λr=>[(600,.R 1 XH r)]):=
 W 8 func163 Z<|zN_ 9 QzW (Q ([]:QLL)) Z (aD_ 10 2 600 1 Z<|E 0 Z)<|kA_ λb=>K [8,.O 5 (.arr 1 (([]:QLL).map XH)),.S 5 (.own 5 ([]:QLL).length),1,.x (λz=>z.app 5 1 7 (([]:QLL)++a).length ((([]:QLL)++a).map XH)),4,.ren 5 600] Z (λc=>(a3_ Z Z (Qf.appSB (by_:=24) (zs:=[.Y]) (e:=49) (e':=49) (z':=1) (by':=24) Z Z (QP c.n Z) Z Z Z Qx (by kernel_rfl) (by kernel_rfl) (by kernel_rfl) Z (by decide) (by decide) (Qgn b Qx) Z WA (CX Qx))))<|E 0 Z
def IH (b:Xr):O_ Bool:=j_ (Ym b f) λc=>Q (c != 0)
def Qb4 {a c}:CT 164 [.M 1 Qb a,.L 621] [(621,.W JQ c)] (IH a c) V.b (λ_=>[(621,.W JQ c)]):=
 W 8 func164 Z<|A 9 Sl Z λd=>E 5 Z
def GP (d:Xr)(a:Int):O_ (Int⊕(Int⊕Unit)):=cond (a<j1.length) (j_ (idx j1 a) λe=>j_ (IH e d) λb=>cond b (Q (i_ (y_ a)))<|Q (y_ (Qh (a+1))))<|Q (i_ (i_ ()))
def Db (b:Xr):O_ Int:=j_ (Qq (λst=>GP j1 b st) 0) (Sum.elim (λq=>Q q) (λq=>Q (-1)))
def Tv {a b}:CT 245 [.P 621 a,.clo (.func 164) [] [.L 622]] [(621,.R 1 XH a),(622,.W JQ b)] (Db a b) V.I (λ_=>[(621,.R 1 XH a),(622,.W JQ b)]):=
 W 19 func245 Z<|F 14 [0,1,7] [621,622] (λst=>([(8,.I st)],[])) [] [621,622] (λq=>(.ret,([(4,.I q)],[]))) [] [621,622] (λq=>(.exit 0,([],[]))) Z (λd=>I 6 Z (vA_ 16 XH Z λe=>S 0 .clo [(621,622)] Qb4 Z λc=>I 2 Z (L 9 Z)<|R 7 Z)<|X 2 Z) (λf=>E 2 Z) (λ_=>E 8 Z)
def Gw:O_ ((Int×Int×QLL)⊕(Int×QLL)):=Q (y_ (h,(Qh (a+1)),j1))
def Gx (f:Xr)(c:Int)(b:Int)(a:QLL):O_ ((Int×Int×QLL)⊕(Int×QLL)):=cond (b<a.length) (j_ (idx a b) λd=>j_ (IH d f) λe=>cond (!e) (j_ (idx a c) λg=>Gw b (Qh (c+1)) (a.set c.toNat d))<|Gw b c a)<|Q (i_ (c,a))
def Gy:O_ QLL:=j_ (chk (decide (0<=a)&&decide (a.toNat<=j1.length))) λ_=>j_ (chk (decide (0<=a)&&decide (a.toNat<=(j1.take a.toNat++List.replicate (j1.length-a.toNat) (([]:LI_):LI_)).length))) λ_=>Q ((j1.take a.toNat++List.replicate (j1.length-a.toNat) (([]:LI_):LI_)).take a.toNat)
def WN (c:Xr):O_ QLL:=j_ (Db j1 c) λb=>cond (b==(-1)) (Q j1)<|j_ (Qq (λst=>Gx c st.1 st.2.1 st.2.2) (b,(Qh (b+1)),j1)) (λq=>Gy q.1 q.2)
def Sm {p s}:CT 162 [.P 621 p,.clo (.func 164) [] [.L 622]] [(621,.R 1 XH p),(622,.W JQ s)] (WN p s) (λr=>(.P 621 r)) (λr=>[(621,.R 1 XH r),(622,.W JQ s)]):=
 W 42 func162 Z<|S 9 .fn [(621,621),(622,622)] Tv Z λz=>I 10 Z (E 8 Z)<|lA_ 11 [1] [622] (λst=>([(0,.P 621 st.2.2),(5,.I st.1),(6,.I st.2.1)],[(621,.R 1 XH st.2.2)])) [] [622] (λq=>(.exit 0,([(0,.P 621 q.2),(5,.I q.1)],[(621,.R 1 XH q.2)]))) Z (λ⟨v,t,m⟩=>I 9 Z (mF_ 2 [1,6] [622] (λ(i:Int) (g:QLL)=>([(0,.P 621 g),(5,.I i)],[(621,.R 1 XH g)])) (λi g=>Gw t i g) Z (vA_ 6 XH Z λo=>S 7 .clo [(621,622)] Qb4 Z λy=>I 3 Z (B λu j=>g3_ [6,.st (XH u) ((m.set v.toNat o).map XH),8,.S 0 (.own 621 (m.set v.toNat o).length)] Z (Yu j Z) ⟨(Xq (Yz j).2),EC Z⟩ (congrArg (λn=>V.own 621 n) (by simp))<|fA_ 0 Z Z)<|fA_ 2 Z Z) λi g=>R 5 Z)<|X 2 Z) λ⟨a,c⟩=>kA_ λd=>gP_ 6 Z<|λk h=>AK.clearTail (b:=621) (l:=a.toNat) (n:=c.length) Z Z Z Z Z Z (QP k.n Z) Z Z Qx (QC.es Z) QyE Z Z Z (GL.val Z (Xe (Qgl d)) Z) (Xe (Sf d)) Z<|QfP k h<|QpU (AK.denilA (b:=621) [Q 1] Z (QzP (f:=XH) (x:=(([]:LI_):LI_)) (λ_=>rfl) Z))<|g2_ [.S 0 (.own 621 (c.take a.toNat++List.replicate (c.length-a.toNat) (([]:LI_):LI_)).length),.S 36 (.own 621 (c.take a.toNat++List.replicate (c.length-a.toNat) (([]:LI_):LI_)).length),6] Z (Qv9 (Xe (Sf d))) (Qv9 (Xe (Sf d)))<|kA_ λe=>(λk h=>by
   have w:a.toNat=((c.take a.toNat++List.replicate (c.length-a.toNat) (([]:LI_):LI_)).take a.toNat).length:=by rw[Kv,OB (Xe (Sf e))]
   refine YF k [.x (λσ=>(σ.set 621 (.arr 1 (((c.take a.toNat++List.replicate (c.length-a.toNat) (([]:LI_):LI_)).take a.toNat).map XH))).put 41 (.own 621 a.toNat)),.S 41 (.own 621 ((c.take a.toNat++List.replicate (c.length-a.toNat) (([]:LI_):LI_)).take a.toNat).length),4,.K [4] [621,622]] rfl (a2_ (Qf.sliceO rfl rfl (QP k.n rfl) rfl rfl (QC.es rfl) GL.no (GL.val rfl (Xe (Qgl e)) rfl) (Xe (Sf e)) (by simp)) (QzI (Xe (Sf e)))) ?_;exact E 0 Z k h)
def OR (a:(Int×Xr)):O_ Bool:=cond (a.1 != 0) (Q t_)<|j_ (XR a.2) λb=>Q (b != 0)
def Dh (b:(L_ Qd)):O_ ((Int×(L_ Qd))⊕((L_ Qd)⊕(L_ Qd))):=Q (y_ ((Qh (a+1)),b))
def Ct (h:LI_)(g:Int)(k:Int)(e:Int)(a:(L_ Qd)):O_ ((Int×(L_ Qd))⊕((L_ Qd)⊕(L_ Qd))):=cond (e<j1.length) (j_ (idx j1 e) λi=>j_ (XF g1) λb=>j_ (XF h) λc=>j_ (XF i) λd=>j_ (chk (a.length+([(Qd.mk g b c d)]:L_ Qd).length<=4294967296)) λ_=>cond (((a++[(Qd.mk g b c d)]).length:Int)==k) (Q (i_ (y_ (a++[(Qd.mk g b c d)]))))<|Q (y_ ((Qh (e+1)),(a++[(Qd.mk g b c d)]))))<|Q (i_ (i_ a))
def Cu (d:(Int×Xr))(e:QLL)(h:LI_)(i:Int)(j:Int)(a:Int)(b:(L_ Qd)):O_ ((Int×(L_ Qd))⊕((L_ Qd)⊕(L_ Qd))):=cond (a<j1.length) (j_ (idx j1 a) λc=>j_ (XD d.2 c) λf=>cond (f != 0) (Dh a b)<|j_ (Qq (λst=>Ct e h c i j st.1 st.2) (0,b)) (Sum.elim (λq=>Q (i_ (y_ q))) (λq=>Dh a q)))<|Q (i_ (i_ b))
def OS (e:(L_ Qd))(f:QLL)(a:(Int×Xr))(g:QLL)(h:LI_)(i:Int)(j:Int)(b:Bool):O_ ((L_ Qd)⊕(L_ Qd)):=cond b (Q (i_ e))<|j_ (BF f) λc=>j_ (WN c a.2) λd=>j_ (Qq (λst=>Cu g a d h i j st.1 st.2) (0,e)) (Sum.elim (λq=>Q (y_ q)) (λq=>Q (i_ q)))
def AD (k:(L_ Qd))(h:QLL)(i:QLL)(j:(L_ Qd))(c:LI_):O_ ((L_ Qd)⊕(L_ Qd)):=j_ (YY b e d c) λa=>j_ (OR a) (λf=>OS j i a h c d s f)
def OT (lpl lpf:Nat)(w:Qc)(x:QMk)(i:Int)(y:Int)(j:(L_ Qd))(z:QLL)(O:QLL)(l8:(L_ Qd))(p9:LI_){r:((L_ Qd)⊕(L_ Qd))}(h:AD w x i y j z O l8 p9=Q r):Qbo prog lpl (DQ lpf) (QBB (.L 622) (.L 623) (.L 624) (.L 625) (.L 626) (.L 627) (.L 628) (.L 629) (.M 1 Qb p9)) [(621,.lp lpl (DQ lpf) (Tg (.L 622) (.L 623) (.L 624) (.L 625) (.L 626) (.L 627) (.L 628) (.L 629)) 0),(622,.W Qi w),(623,.W Xa x),(624,.W Qb i),(625,.W Qb y),(626,.var [.P 619 j]),(619,.R 4 Qy j),(627,.W Kw z),(628,.W Kw O),(629,.var [.P 620 l8]),(620,.R 4 Qy l8)] ((Sum.elim (λq=>(Gives (.b false) [(619,.R 4 Qy j),(620,.R 4 Qy q),(621,.lp lpl (DQ lpf) (Tg (.L 622) (.L 623) (.L 624) (.L 625) (.L 626) (.L 627) (.L 628) (.L 629)) 2),(622,.W Qi w),(623,.W Xa x),(624,.W Qb i),(625,.W Qb y),(626,.var [.P 620 q]),(627,.W Kw z),(628,.W Kw O),(629,.var [.P 620 q])])) (λq=>(Gives (.b true) [(619,.R 4 Qy j),(620,.R 4 Qy q),(621,.lp lpl (DQ lpf) (Tg (.L 622) (.L 623) (.L 624) (.L 625) (.L 626) (.L 627) (.L 628) (.L 629)) 0),(622,.W Qi w),(623,.W Xa x),(624,.W Qb i),(625,.W Qb y),(626,.var [.P 619 j]),(627,.W Kw z),(628,.W Kw O),(629,.var [.P 620 q])]))) r):=by
 refine Qbo.walk (b:=621) 109 Z Z λC k=>?_;refine tg_ k [3] ?_;refine AK.done (an_ rfl (ex_ _ (an_ rfl ?_)));exact QfP k h<|A 7 QeP Z λa1=>mV_ 10 [6,7,8,10,11,12,13,14] [14,619,620,621,622,623,624,625,626,627,628,629] (λl=>([(69,.b l)],[])) Z (I 4 Z (M 5 Z)<|A 1 OP Z λa2=>M 3 Z) λl=>I 1 Z (gT_ [3,.K [] [619,620,621,622,623,624,625,626,627,628,629]] Z<|(λk h=>by
   cases h;refine AK.done ?_;exact ex_ _ (an_ Z (gives rB_))))<|oC_ 5 [.d] Qak Z λa3=>S 1 .fn [(621,71),(622,14)] Sm Z λa4=>N 6 Z<|F 4 [6,7,8,12,13,14,16,74,75] [14,71,619,621,622,623,624,625,626,627,628] (λst=>([(76,.I st.1)],[(620,.R 4 Qy st.2),(629,.var [.P 620 st.2])])) [] [619,621,622,623,624,625,627,628] (λq=>(.ret,([],[(620,.R 4 Qy q),(626,.var [.P 620 q]),(629,.var [.P 620 q])]))) [] [619,621,622,623,624,625,626,627,628] (λq=>(.exit 2,([],[(620,.R 4 Qy q),(629,.var [.P 620 q])]))) Z (λ⟨a0,a5⟩=>I 6 Z (mE_ 2 [6,7,8,12,13,14,16,74,75,76] [14,71,619,621,622,623,624,625,626,627,628] (λg:(L_ Qd)=>([],[(620,.R 4 Qy g),(629,.var [.P 620 g])])) (λg=>Dh a0 g) Z (J 3 Z λa6=>A 9 Sk Z λa7=>I 3 Z (P 3 Z Z)<|F 10 [6,7,8,12,13,14,16,18,74,75,76,84,85] [14,71,619,621,622,623,624,625,626,627,628] (λst=>([(86,.I st.1)],[(620,.R 4 Qy st.2),(629,.var [.P 620 st.2])])) [] [619,621,622,623,624,625,627,628] (λq=>(.ret,([],[(620,.R 4 Qy q),(626,.var [.P 620 q]),(629,.var [.P 620 q])]))) [6,7,8,12,13,14,16,74,75,76] [14,71,619,621,622,623,624,625,626,627,628] (λq=>(.exit 4,([],[(620,.R 4 Qy q),(629,.var [.P 620 q])]))) Z (λ⟨a8,o⟩=>I 6 Z (vA_ 7 XH Z λa9=>B λc p=>B λe t=>B λf u=>kA_ λv=>D 4 Z [.N,.N,.N,.B (.cd f_ [.d] 1 (c.map Qb) c.length),.N,.B (.cd f_ [.d] 1 (e.map Qb) e.length),.N,.B (.cd f_ [.d] 1 (f.map Qb) f.length),.E (.agg (Qy (Qd.mk i c e f))),.a (.bd []) (Q ([],.sl 4 (([(Qd.mk i c e f)]:L_ Qd).map Qy))) f_,.m (.app ((o++[(Qd.mk i c e f)]).map Qy) (o++[(Qd.mk i c e f)]).length),.m .s] [] [] [6,7,8,12,13,14,16,18,74,75,76,84,85,86] [14,71,619,620,621,622,623,624,625,626,627,628,629] Z Z (a6_ ⟨(Yf _ p),Qx⟩ ⟨(Yf _ t),Qx⟩ ⟨(Yf _ u),Qx⟩ Z Z ⟨Qx,Il v Qx,WA,CX Qx⟩) Z<|I 9 Z (L 9 Z)<|R 7 Z)<|X 2 Z) (λb0=>L 3 Z) (λb1=>P 2 Z Z)) λg=>R 4 Z)<|X 2 Z) (λb2=>gT_ [2,.K [] [619,620,621,622,623,624,625,626,627,628,629]] Z<|(λk h=>by
   cases h;refine AK.done ?_;exact ex_ _ (an_ Z (gives rB_)))) (λb3=>gT_ [2,.K [] [619,620,621,622,623,624,625,626,627,628,629]] Z<|(λk h=>by
   cases h;refine AK.done ?_;exact ex_ _ (an_ Z (gives rB_))))
def LK:O_ Bool:=cond (0<=a) (j_ (idx f a) λc=>j_ (idx j.Vars a) λd=>j_ (Jg k0.Colours d.Colour) λe=>Q (decide (e<=(Qh (c+1)))))<|Q f_
def VS:O_ ((Int×LI_)⊕(Int×LI_)):=cond h0 (j_ (idx f j0) λc=>Q (y_ ((Qh (j0-1)),(f.set j0.toNat 0))))<|Q (i_ (j0,f))
def Wi:O_ ((Int×LI_)⊕(Int×LI_)):=j_ (LK e0 g1 j k0) (λc=>VS g1 e0 c)
def LL (b:(L_ Qd))(h:Int)(a:LI_):O_ ((LI_×(L_ Qd))⊕((L_ Qd)⊕(L_ Qd))):=cond (h<0) (Q (i_ (y_ b)))<|j_ (idx a h) λc=>j_ (idx a h) λd=>Q (y_ ((a.set h.toNat (Qh (c+1))),b))
def LM (c:(L_ Qd)):O_ ((LI_×(L_ Qd))⊕((L_ Qd)⊕(L_ Qd))):=j_ (Qq (λst=>Wi j k0 st.1 st.2) ((Qh ((g1.length:Int)-1)),g1)) (λq=>LL c q.1 q.2)
def LN (i:(L_ Qd))(j:QLL)(k:QLL)(l:QL)(f:Qc)(a:LI_)(c:(L_ Qd)):O_ ((LI_×(L_ Qd))⊕((L_ Qd)⊕(L_ Qd))):=j_ (XF a) λg=>j_ (AD b e d s i j k c g) (Sum.elim (λq=>Q (i_ (i_ q))) (λq=>LM l f a q))
def HT (g:(L_ Qd))(h:QLL)(i:QLL)(j:(L_ Qd))(a:QL)(c:Qc):O_ ((L_ Qd)⊕(L_ Qd)):=j_ (chk (decide (0<=(a.Vars.length:Int))&&decide ((a.Vars.length:Int)<=(a.Vars.length:Int))&&decide ((a.Vars.length:Int)<=4294967296))) λ_=>j_ (Qq (λst=>LN b e d s g h i a c st.1 st.2) ((List.replicate (a.Vars.length:Int).toNat (0:Int)),j)) (Sum.elim (λq=>Q (y_ q)) (λq=>Q (i_ q)))
def VT {lpl lpf:Nat}{l:Qc}{m:QMk}{p:Int}{s:Int}{f:(L_ Qd)}{t:QLL}{u:QLL}{l8:(L_ Qd)}{z:QL}{j:Qc}:CP 244 [.clo (.yield lpl) [] [],.L 630,.L 631] [(621,.lp lpl (DQ lpf) (Tg (.L 622) (.L 623) (.L 624) (.L 625) (.L 626) (.L 627) (.L 628) (.L 629)) 0),(622,.W Qi l),(623,.W Xa m),(624,.W Qb p),(625,.W Qb s),(626,.var [.P 619 f]),(619,.R 4 Qy f),(627,.W Kw t),(628,.W Kw u),(629,.var [.P 620 l8]),(620,.R 4 Qy l8),(630,.W QE z),(631,.W Qi j)] (HT l m p s f t u l8 z j) ((Sum.elim (λq=>(Gives (.tup []) [(619,.R 4 Qy f),(620,.R 4 Qy q),(621,.lp lpl (DQ lpf) (Tg (.L 622) (.L 623) (.L 624) (.L 625) (.L 626) (.L 627) (.L 628) (.L 629)) 0),(622,.W Qi l),(623,.W Xa m),(624,.W Qb p),(625,.W Qb s),(626,.var [.P 619 f]),(627,.W Kw t),(628,.W Kw u),(629,.var [.P 620 q]),(630,.W QE z),(631,.W Qi j)])) (λq=>(Gives (.tup []) [(619,.R 4 Qy f),(620,.R 4 Qy q),(621,.lp lpl (DQ lpf) (Tg (.L 622) (.L 623) (.L 624) (.L 625) (.L 626) (.L 627) (.L 628) (.L 629)) 2),(622,.W Qi l),(623,.W Xa m),(624,.W Qb p),(625,.W Qb s),(626,.var [.P 620 q]),(627,.W Kw t),(628,.W Kw u),(629,.var [.P 620 q]),(630,.W QE z),(631,.W Qi j)])))):=
 wP_ 50 func244 Z<|N 4 Z<|kA_ λC=>g2_ [.o (.rows ((List.replicate (z.Vars.length:Int).toNat (0:Int)).map Qb)),.S 9 (.own 9 (List.replicate (z.Vars.length:Int).toNat (0:Int)).length),4] Z ⟨C,Qsm Z⟩ (by simp)<|F 0 [0,1,2] [619,621,622,623,624,625,626,627,628,630,631] (λst=>([(4,.P 9 st.1)],[(9,.R 1 Qb st.1),(620,.R 4 Qy st.2),(629,.var [.P 620 st.2])])) [] [619,621,622,623,624,625,626,627,628,630,631] (λq=>(.ret,([],[(620,.R 4 Qy q),(629,.var [.P 620 q])]))) [] [619,622,623,624,625,627,628,630,631] (λq=>(.ret,([],[(620,.R 4 Qy q),(621,.lp lpl (DQ lpf) (Tg (.L 622) (.L 623) (.L 624) (.L 625) (.L 626) (.L 627) (.L 628) (.L 629)) 2),(626,.var [.P 620 q]),(629,.var [.P 620 q])]))) Z (λ⟨a7,b3⟩=>B λO a0=>G [6,.o (.co t_ [.o (a7.map Qb)] 1 (O.map Qb) O.length)] Z ⟨(QpM Z),⟨(Yf _ a0),Qx,.inr (Qwc _)⟩⟩<|zF_ 0 12 [12] [] Z<|s2_ (λe h=>K [.x (λc=>(c.after [619,620] [(619,.R 4 Qy f),(620,.R 4 Qy e),(621,.lp lpl (DQ lpf) (Tg (.L 622) (.L 623) (.L 624) (.L 625) (.L 626) (.L 627) (.L 628) (.L 629)) 2),(622,.W Qi l),(623,.W Xa m),(624,.W Qb p),(625,.W Qb s),(626,.var [.P 620 e]),(627,.W Kw t),(628,.W Kw u),(629,.var [.P 620 e])]).put 13 (.b f_)),7] Z (λhC=>(a1_ (Qf.yieldV (b:=621) (M:=[(621,621),(622,622),(623,623),(624,624),(625,625),(626,626),(619,619),(627,627),(628,628),(629,629),(620,620)]) (N:=[(619,619),(620,620),(621,621),(622,622),(623,623),(624,624),(625,625),(626,626),(627,627),(628,628),(629,629)]) (dead:=[619,620]) (ms:=(List.replicate 109 .d)) (outs:=[(619,.R 4 Qy f),(620,.R 4 Qy e),(621,.lp lpl (DQ lpf) (Tg (.L 622) (.L 623) (.L 624) (.L 625) (.L 626) (.L 627) (.L 628) (.L 629)) 2),(622,.W Qi l),(623,.W Xa m),(624,.W Qb p),(625,.W Qb s),(626,.var [.P 620 e]),(627,.W Kw t),(628,.W Kw u),(629,.var [.P 620 e])]) (r:=.b f_) Z Z Z Z Z Z Z (QP hC.n Z) hC.g Z Z (OT _ _ _ _ _ _ _ _ _ _ _ h))))<|L 0 Z) λk h=>K [.x (λc=>(c.after [619,620] [(619,.R 4 Qy f),(620,.R 4 Qy k),(621,.lp lpl (DQ lpf) (Tg (.L 622) (.L 623) (.L 624) (.L 625) (.L 626) (.L 627) (.L 628) (.L 629)) 0),(622,.W Qi l),(623,.W Xa m),(624,.W Qb p),(625,.W Qb s),(626,.var [.P 619 f]),(627,.W Kw t),(628,.W Kw u),(629,.var [.P 620 k])]).put 13 (.b t_)),16] Z (λhC=>(a1_ (Qf.yieldV (b:=621) (M:=[(621,621),(622,622),(623,623),(624,624),(625,625),(626,626),(619,619),(627,627),(628,628),(629,629),(620,620)]) (N:=[(619,619),(620,620),(621,621),(622,622),(623,623),(624,624),(625,625),(626,626),(627,627),(628,628),(629,629)]) (dead:=[619,620]) (ms:=(List.replicate 109 .d)) (outs:=[(619,.R 4 Qy f),(620,.R 4 Qy k),(621,.lp lpl (DQ lpf) (Tg (.L 622) (.L 623) (.L 624) (.L 625) (.L 626) (.L 627) (.L 628) (.L 629)) 0),(622,.W Qi l),(623,.W Xa m),(624,.W Qb p),(625,.W Qb s),(626,.var [.P 619 f]),(627,.W Kw t),(628,.W Kw u),(629,.var [.P 620 k])]) (r:=.b t_) Z Z Z Z Z Z Z (QP hC.n Z) hC.g Z Z (OT _ _ _ _ _ _ _ _ _ _ _ h))))<|lA_ 0 [0,1,2] [619,620,621,622,623,624,625,626,627,628,629,630,631] (λst=>([(4,.P 9 st.2),(5,.I st.1)],[(9,.R 1 Qb st.2)])) [0,1,2] [619,620,621,622,623,624,625,626,627,628,629,630,631] (λq=>(.exit 2,([(4,.P 9 q.2),(5,.I q.1)],[(9,.R 1 Qb q.2)]))) Z (λ⟨at_25,a1⟩=>mV_ 2 [0,1,2,4,5] [9,619,620,621,622,623,624,625,626,627,628,629,630,631] (λa2=>([(36,.b a2)],[])) Z (jF_ (λi=>B λa8 v=>B λa9 a3=>B λb0 a4=>D 0 Z [.N,.N,.E (.b t_),.N,.N,.N,.B (.row (Qb a8)),.N,.N,.N,.N,.N,.N,.B (.row (YM a9)),.N,.N,.B (.C2 (.I b0)),.N,.N] [] [] [0,1,2,4,5,36] [9,619,620,621,622,623,624,625,626,627,628,629,630,631] Z Z ⟨⟨⟨⟨(tc_ i),(Yu v Z)⟩,(Xq (Yz v).2)⟩,(XE a3)⟩,(LE _ a4)⟩ Z<|M 0 Z) λi=>D 0 Z (dz_ [(2,.E (.b f_)),(15,.N)]) [] [] [0,1,2,4,5,36] [9,619,620,621,622,623,624,625,626,627,628,629,630,631] Z Z (tc_ i) Z<|M 0 Z) λa2=>I 1 Z (B λb1 w=>g3_ [8,.st (Qb b1) ((a1.set at_25.toNat 0).map Qb),8,.S 4 (.own 9 (a1.set at_25.toNat 0).length)] Z (Yu w Z) ⟨(Xq (Yz w).2),EC Z⟩ (congrArg (λn=>V.own 9 n) (by simp))<|R 0 Z)<|X 2 Z) λ⟨at_29,a5⟩=>I 9 Z (L 3 Z)<|vA_ 6 Qb Z λa6=>B λb2 y=>g3_ [2,.st (Qb b2) ((a5.set at_29.toNat (Qh (a6+1))).map Qb),2,.S 4 (.own 9 (a5.set at_29.toNat (Qh (a6+1))).length)] Z (Yu y Z) ⟨(Xq (Yz y).2),EC Z⟩ (congrArg (λn=>V.own 9 n) (by simp))<|R 0 Z) (λb4=>E 1 Z) (λb5=>E 1 Z)
def QeS (a:(L_ Qd)):O_ (L_ Qd):=Q a
def QeT (a:(L_ Qd)):O_ (L_ Qd):=Q a
def II:O_ (L_ Qd):=
 cond ((d<0)||((b.Tasks.length<=d)||(s<1))) (Q ([]:L_ Qd))<|j_ (idx b.Tasks d) λc=>
 j_ (Ju c.Join c.Ins.length) λf=>
 j_ (Ju c.Split c.Outs.length) λg=>
 j_ (QeR b c) λa=>
 j_ (HT b e d s ([]:L_ Qd) f g ([]:L_ Qd) a.2 a.1) (Sum.elim (λq=>QeS q) (λq=>QeT q))
def Qoc (t x c e){r}(h:II t x c e=Q r):QX prog 102 [.G Qi t,.M 1 Qj x,.I c,.I e] [] (Gives (.M 4 Qy r) []):=by
 refine QX.walkR 109 func102 Z ntmps102 Z λC p hR=>?_;exact QfP p h<|T 11 [4,5,6,7,8] [4,5,6,7,8] ([(33,.b ((c<0)||((t.Tasks.length<=c)||(e<1))))],[]) Z (H 4 Z (λj=>Y 11 33 Z (Jf j Z)) λj=>N 3 Z<|H 3 Z (λq=>Y 4 33 Z (Xk j (Jf q Z))) λq=>Y 4 33 Z (Xk j (Xk q Z)))<|I 1 Z (g2_ [3,.O 8 (.var [.Y]),4,.denilO 8 [Q 4],.O 8 (.var (QuZ ([]:L_ Qd))),.K [8] [8]] Z Z Z<|(λp h=>by
   cases h;refine AK.done ?_;exact ex_ [_] (an_ (an_ (ex_ _ (ex_ _ (an_ Z (an_ Z (Or.inr (an_ (QC.ag Z) Z)))))) U) (gives U))))<|J 7 Z λu=>B λk v=>B λl w=>D 6 Z [.N,.N,.N,.N,.B (.ln u.Ins.length),.B (.cd f_ [.d,.d] 1 (k.map XH) k.length),.N,.N,.N,.N,.B (.ln u.Outs.length),.B (.cd f_ [.d,.d] 1 (l.map XH) l.length),.N,.N,.m .s,.m .s] [] [] [4,5,6,7,8,9,10,11] [4,5,6,7,8,9,10,11] Z Z (a4_ Qx ⟨(RK _ v),Qx⟩ Qx ⟨(RK _ w),Qx⟩) Z<|zA_ 11 .fn [] [(53,2),(613,3)] [] Qjh Z λo=>gT_ [3,.adoptO 8 0 608 4,.adoptO 12 0 609 4] Z<|s2_ (λf g=>(λp h=>by
   replace h:QeS f=Q r:=h;refine AK.rangeF 617 [4,5,6,7,8,10,11,12] [(621,617),(622,4),(623,5),(624,6),(625,7),(626,8),(619,608),(627,10),(628,11),(629,12),(620,609),(630,613),(631,53)] [(608,619),(609,620),(617,621),(4,622),(5,623),(6,624),(7,625),(8,626),(10,627),(11,628),(12,629),(613,630),(53,631)] [608,609] [.d,.d,.d] DQ p hR (λ_=>rfl) rfl rfl rfl rfl λlpl lpf=>?_;refine ex_ [(619,.arr 4 (([]:L_ Qd).map Qy)),(620,.R 4 Qy f),(621,.lp lpl (DQ lpf) (Tg (.L 622) (.L 623) (.L 624) (.L 625) (.L 626) (.L 627) (.L 628) (.L 629)) 0),(622,.W Qi t),(623,.W Xa x),(624,.W Qb c),(625,.W Qb e),(626,.var [.own 619 ([]:L_ Qd).length]),(627,.W Kw k),(628,.W Kw l),(629,.var [.P 620 f]),(630,.W QE o.2),(631,.W Qi o.1)] (ex_ (.tup []) (ex_ _ (ex_ _ (ex_ (Tg (.L 4) (.L 5) (.L 6) (.L 7) (.L 8) (.L 10) (.L 11) (.L 12)) (ex_ 0 (an_ rfl ?_))))));refine an_ (VT _ g) (an_ rfl (an_ (bne_iff_ne.1 (show(0 != 1)=t_ from rfl)) ?_));refine QzN Z ?_;refine YF p [6,.O 8 (.var [.P 609 f]),3,.frz 609 (f.map Qy) [] [8],.K [8] [8]] rfl (a2_ rfl (a1_ ⟨(Kf Qx),U⟩)) ?_;cases h;refine AK.done ?_;exact ex_ [_] (an_ (an_ (ex_ _ (ex_ _ (an_ Z (an_ Z (Or.inr (an_ (QC.ag Z) Z)))))) U) (gives U)))) λi g=>(λp h=>by
   replace h:QeT i=Q r:=h;refine AK.rangeF 617 [4,5,6,7,8,10,11,12] [(621,617),(622,4),(623,5),(624,6),(625,7),(626,8),(619,608),(627,10),(628,11),(629,12),(620,609),(630,613),(631,53)] [(608,619),(609,620),(617,621),(4,622),(5,623),(6,624),(7,625),(8,626),(10,627),(11,628),(12,629),(613,630),(53,631)] [608,609] [.d,.d,.d] DQ p hR (λ_=>rfl) rfl rfl rfl rfl λlpl lpf=>?_;refine ex_ [(619,.arr 4 (([]:L_ Qd).map Qy)),(620,.R 4 Qy i),(621,.lp lpl (DQ lpf) (Tg (.L 622) (.L 623) (.L 624) (.L 625) (.L 626) (.L 627) (.L 628) (.L 629)) 2),(622,.W Qi t),(623,.W Xa x),(624,.W Qb c),(625,.W Qb e),(626,.var [.P 620 i]),(627,.W Kw k),(628,.W Kw l),(629,.var [.P 620 i]),(630,.W QE o.2),(631,.W Qi o.1)] (ex_ (.tup []) (ex_ _ (ex_ _ (ex_ (Tg (.L 4) (.L 5) (.L 6) (.L 7) (.L 8) (.L 10) (.L 11) (.L 12)) (ex_ 2 (an_ rfl ?_))))));refine an_ (VT _ g) (an_ rfl (an_ (bne_iff_ne.1 (show(2 != 1)=t_ from rfl)) ?_));refine QBv Z ?_;refine YF p [3,.frz 609 (i.map Qy) [] [8],.K [8] [8]] rfl (a1_ (a1_ ⟨(Kf Qx),U⟩)) ?_;cases h;refine AK.done ?_;exact ex_ [_] (an_ (an_ (ex_ _ (ex_ _ (an_ Z (an_ Z (Or.inr (an_ (QC.ag Z) Z)))))) U) (gives U)))
def Ua (c:(L_ Qd)):O_ ((Int×(L_ Qd))⊕(L_ Qd)):=cond (s<b.Tasks.length) (j_ (II b e s (Qh (d-c.length))) λa=>j_ (chk (c.length+a.length<=4294967296)) λ_=>Q (y_ ((Qh (s+1)),(c++a))))<|Q (i_ c)
def Hd:O_ (L_ Qd):=j_ (Qq (λst=>Ua b e d st.1 st.2) (0,([]:L_ Qd))) (λq=>Q q)
def Qia {f g a}:CT 59 [.G Qi f,.M 1 Qj g,.I a] [] (Hd f g a) (λr=>(.P 600 r)) (λr=>[(600,.R 4 Qy r)]):=
 W 27 func59 Z<|N 16 Z<|aD_ 4 7 15 4 Z<|lA_ 0 [1,2,3,11] [3] (λst=>([(7,.P 15 st.2),(12,.I st.1)],[(15,.R 4 Qy st.2)])) [] [] (λq=>(.exit 0,([(7,.P 15 q)],[(15,.R 4 Qy q)]))) Z (λ⟨i,j⟩=>I 6 Z (B λe b=>G [19,.o (.C4 (.M 4 Qy e))] Z (Qoc _ _ _ _ b)<|pB_ 0 Qy Z<|R 8 Z)<|X 2 Z) λh=>gT_ [9,.ren 15 600] Z<|E 0 Z
noncomputable def FD:O_ (QBg⊕Empty):=Q (y_ (YQ UP g c (Qh (((Xg g c).getD 0)-d))))
def QbM:O_ (QBg×Int):=j_ (Ut g) λb=>Q (b,0)
noncomputable def Qib:O_ (QBg×Int):=j_ (Ul g4.2 g4.1) λO=>cond (!O) (Q (([]:QBg),10))<|j_ (MF (λst p=>FD st p.1 p.2) g4.1 g4.2) (Sum.elim (λq=>QbM q) (λq=>Empty.elim q))
def JS:O_ (QBg×Int):=j_ (PA g l0) (Sum.elim (λq=>Q (([]:QBg),1)) (Sum.elim (λq=>Q (([]:QBg),1)) (Sum.elim (λq=>Q (([]:QBg),1)) (λq=>Qib q))))
def QrR {a1 b2}:CT 214 [.M 2 QB a1,.M 2 QB b2] [] (JS a1 b2) (λr=>(.tup [.M 2 QB r.1,.I r.2])) no_:=
 W 40 func214 Z<|@λC r=>gP_ 10 Z<|s4_ (λa8 c=>G [.cm (.fn) [] [] [] [.d,.d] [] (.tup [.lit (.map n_),.lit (.map n_),.b f_]),28,.denil 4 [Q 2]] Z (KN _ c)<|E 0 Z) (λa9 c=>G [.cm (.fn) [] [(14,603)] [] [.d,.d] [(603,.map (QO V.I V.I a9))] (.tup [.lit (.map n_),.map 603,.b f_]),28,.denil 4 [Q 2]] Z (KN _ c)<|E 0 Z) (λa4 c=>G [.cm (.fn) [] [(14,602)] [] [.d,.d] [(602,.map (QO V.I V.I a4))] (.tup [.map 602,.lit (.map n_),.b f_]),28,.denil 4 [Q 2]] Z (KN _ c)<|E 0 Z) λw c=>G [.cm (.fn) [] [(14,602),(613,603)] [] [.d,.d] [(602,.map (QO V.I V.I w.1)),(603,.map (QO V.I V.I w.2))] (.tup [.map 602,.map 603,.b t_]),23] Z (KN _ c)<|S 0 .fn [(621,613),(622,14)] Sj Z λb0=>I 4 Z (gT_ [9,.denil 4 [Q 2]] Z<|E 0 Z)<|gP_ 7 Z<|λi h=>AK.openMapK (b:=613) BC Z λj s L14 y a5 O=>QfP i h<|K [.x (λσ=>(σ.set 27 (.itr j s #[] n_)).put 27 (.L 27)),3,.K [6,27] [14,27,613]] Z (λi=>(a1_ (Qf.range (b:=613) Z Z (QP i.n Z) Z Z Aa Z)))<|B λa6 a2=>(λi h=>by
   refine AK.range (body:=(λst p=>FD st p.1 p.2)) (λst seen σ=>∃cur:O_ Nat,σ=⟨[(6,.map 14),lk_ 27],[(14,.map (QO V.I V.I st)),(27,.itr j s seen cur),(613,.mapX j s (Nn V.I V.I L14) (QO V.I V.I w.2))]⟩) (λ(q:Empty) _ _=>False) (λst e σ=>e=.exit 1/\σ=⟨[(6,.map 14)],[(14,.map (QO V.I V.I st))]⟩) y O a2 (ex_ _ rfl) ?_ ?_
   ·rintro a seen σ ⟨cur,rfl⟩ hex;refine tg_ i [2] ?_;refine AK.nextT (b:=27) (m:=613) rfl rfl rfl (QP i.n rfl) rfl rfl rfl rfl ?_ ?_
    ·intro hleft;refine tg_ i [7,.K [6] [14]] ?_;exact AK.done (Or.inl (an_ hleft (an_ (λh=>(by cases h)) (an_ Z Z))))
    intro a7 g u t;obtain⟨o,h⟩:=hex _ t;have ho:=h;replace h:FD a g u=Q o:=h;refine YF i [10,.x (λσ=>σ.put 30 (.tup [.I g,.I u])),9,.o (.any (.I ((Xg a g).getD 0)) n_),2,.x (λσ=>σ.set 14 (.map (QO V.I V.I (YQ UP a g (Qh (((Xg a g).getD 0)-u)))))),2,.K [6,27] [14,27,613]] rfl (a3_ (Qf.entryT (b:=27) (m:=613) (e:=V.I) (f:=V.I) rfl rfl (QP i.n rfl) rfl t rfl rfl) (λσ h1 h2 _=>Qf.lookup (z:=0) rfl rfl (QP i.n rfl) (h1 _ _ rfl) (h2 _ _ rfl) (h1 _ _ rfl) Aa BC QfO rfl) (Qf.mapUpdate (e:=V.I) (f:=V.I) (l:=a) (k:=g) (v:=(Qh (((Xg a g).getD 0)-u))) UP rfl rfl rfl rfl rfl rfl Aa BC rfl)) ?_;cases h;exact AK.done (Or.inr (ex_ _ (an_ t (Or.inl (ex_ _ (an_ ho (an_ Z (ex_ _ Z))))))))
   rcases a6 with(a|q)
   ·replace h:QbM a=Q r:=h;rintro e σ ⟨rfl,rfl⟩;obtain⟨a0,a3,h⟩:=QI h;refine YF i [5,.cm (.fn) [(621,14)] [(39,600),(14,621)] [] [.d] [(600,.R 2 QB a0),(621,.map (QO V.I V.I a))] (.P 600 a0),5,.frz 39 (a0.map QB) [4] [],.K [4,5] []] rfl (a2_ (Ns _ a3) (a1_ (Kf Qx))) ?_;exact E 0 Z i h
   exact q.elim)
def JT:O_ ((Int×QMk)⊕(Int⊕QMk)):=cond (d<((List.replicate (min2 e.length d1.length).toNat (([]:QBg):QBg)).length:Int)) (j_ (idx e d) λa=>j_ (idx d1 d) λc=>j_ (JS a c) λb=>j_ (idx e1 d) λh=>cond (b.2 != 0) (Q (i_ (y_ b.2)))<|Q (y_ ((Qh (d+1)),(e1.set d.toNat b.1))))<|Q (i_ (i_ e1))
def Nt:O_ (QMk×Int):=Q (([]:L_ QBg),a)
def Nu:O_ (QMk×Int):=Q (e,0)
def Jd:O_ (QMk×Int):=j_ (chk (decide (0<=(min2 e.length d1.length))&&decide ((min2 e.length d1.length)<=(min2 e.length d1.length))&&decide ((min2 e.length d1.length)<=4294967296))) λ_=>j_ (Qq (λst=>JT e d1 st.1 st.2) (0,(List.replicate (min2 e.length d1.length).toNat (([]:QBg):QBg)))) (Sum.elim (λq=>Nt q) (λq=>Nu q))
def Qil {l p}:CT 213 [.M 1 Qj l,.M 1 Qj p,.clo (.func 214) [] []] [] (Jd l p) (λr=>(.tup [.M 1 Qj r.1,.I r.2])) no_:=
 W 43 func213 Z<|N 9 Z<|N 1 Z<|kA_ λt=>G [1,.o (.rows (List.replicate (min2 l.length p.length).toNat [.Y]))] Z ⟨t,Z⟩<|QpU (AK.denilA (b:=16) [Q 2] Z (QnT (f:=Qj) (x:=([]:QBg)) Z))<|G [.S 16 (.own 16 (List.replicate (min2 l.length p.length).toNat (([]:QBg):QBg)).length),12] Z (by simp)<|F 0 [0,1,2,18] [] (λst=>([(8,.P 16 st.2),(19,.I st.1)],[(16,.R 1 Qj st.2)])) [] [] (λq=>(.ret,([(6,.Y),(7,.I q)],[]))) [] [] (λq=>(.exit 0,([(8,.P 16 q)],[(16,.R 1 Qj q)]))) Z (λ⟨y,h⟩=>I 6 Z (B λu i=>B λv j=>B λe k=>B λw g=>D 16 Z [.N,.N,.N,.N,.N,.B (.row (Qj u)),.N,.N,.N,.B (.row (Qj v)),.N,.B (.C2 (.tup [.M 2 QB e.1,.I e.2])),.a .no n_ t_ t_,.N,.a .no n_ t_,.N,.m (.st (Qj w) ((h.set y.toNat e.1).map Qj)),.m .s] [0,1,2,8,9,10,18,19] [] [0,1,2,8,10,18,19] [16] Z Z (a5_ (XE i) (XE j) (QrR _ k) (Yu g Z) ⟨(Xq (Yz g).2),EC Z⟩) Z<|I 7 Z (L 10 Z)<|G [7,.S 8 (.own 16 (h.set y.toNat e.1).length)] Z (congrArg (λn=>V.own 16 n) (by simp))<|R 0 Z)<|X 2 Z) (λz=>gT_ [2,.denil 6 [Q 1]] Z<|E 0 Z) (λC=>zF_ 10 16 [6] [] Z<|E 0 Z)
def KV:O_ (QMk×Int):=j_ (Yb b e r) λf=>cond (f != 0) (Q (([]:L_ QBg),f))<|j_ (Yr b r) λa=>cond (a.2 != 0) (Q (([]:L_ QBg),a.2))<|j_ (Jd e a.1) λc=>Q (c.1,c.2)
def Qgu {a b c}:CT 122 [.G Qi a,.M 1 Qj b,.G Qy c] [] (KV a b c) (λr=>(.tup [.M 1 Qj r.1,.I r.2])) no_:=
 W 32 func122 Z<|A 14 VQ Z λf=>I 9 Z (gT_ [9,.denil 6 [Q 1]] Z<|E 0 Z)<|A 6 VN Z λd=>I 14 Z (gT_ [9,.denil 6 [Q 1]] Z<|E 0 Z)<|S 6 .fn [] Qil Z λe=>E 7 Z
def YP:O_ (QMk×Int):=j_ (KV b e r) λc=>cond (c.2 != 0) (Q (([]:L_ QBg),c.2))<|j_ (WC b c.1 r) λa=>Q (a.1,a.2)
def Qji {a b c}:CT 70 [.G Qi a,.M 1 Qj b,.G Qy c] [] (YP a b c) (λr=>(.tup [.M 1 Qj r.1,.I r.2])) no_:=
 W 26 func70 Z<|A 13 Qgu Z λe=>I 14 Z (gT_ [9,.denil 6 [Q 1]] Z<|E 0 Z)<|A 7 Qgs Z λd=>E 7 Z
def ES (b:QSB)(c:(L_ QMk)):O_ ((Int×QSB×(L_ QMk))⊕((L_ QMk)⊕(QSB×(L_ QMk)))):=Q (y_ ((Qh (a+1)),b,c))
def RO (b:QSB):O_ Bool:=cond (m3.2 != 0) (Q t_)<|j_ (IG m3.1) λc=>Q ((Xg b c).getD f_)
def RP (e:QSB)(d:(L_ QMk))(b:Int)(c:(QMk×Int))(f:Bool):O_ ((Int×QSB×(L_ QMk))⊕((L_ QMk)⊕(QSB×(L_ QMk)))):=cond f (ES a e d)<|cond ((d.length:Int)==(min2 (max2 0 b) 4096)) (Q (i_ (y_ d)))<|j_ (IG c.1) λg=>j_ (chk (d.length+([c.1]:L_ QMk).length<=4294967296)) λ_=>ES a (YQ TX e g t_) (d++([c.1]:L_ QMk))
def HU (f:(L_ Qd))(a:Int)(O:Int)(k:Qc)(b:Int)(c:Int)(d:QSB)(e:(L_ QMk)):O_ ((Int×QSB×(L_ QMk))⊕((L_ QMk)⊕(QSB×(L_ QMk)))):=cond (c<f.length) (j_ (idx f c) λg=>cond (g.Task==a) (ES c d e)<|j_ (idx e O) λi=>j_ (YP k i g) λh=>j_ (RO h d) (λj=>RP c d e b h j))<|Q (i_ (i_ (d,e)))
def RQ (a:(L_ QMk)):O_ ((Int×QSB×(L_ QMk))⊕((L_ QMk)⊕(L_ QMk))):=Q (i_ (y_ a))
def RS (c:QSB)(b:(L_ QMk)):O_ ((Int×QSB×(L_ QMk))⊕((L_ QMk)⊕(L_ QMk))):=Q (y_ ((Qh (a+1)),c,b))
def HV (a:QSB)(g:(L_ QMk)):O_ ((Int×QSB×(L_ QMk))⊕((L_ QMk)⊕(L_ QMk))):=cond (s<g.length) (j_ (idx g s) λe=>j_ (Hd b e 9223372036854775807) λf=>j_ (Qq (λst=>HU f c s b d st.1 st.2.1 st.2.2) (0,a,g)) (Sum.elim (λq=>RQ q) (λq=>RS s q.1 q.2)))<|Q (i_ (i_ g))
def PM:O_ ((L_ QMk)×Bool):=cond ((min2 (max2 0 s) 4096)==0) (Q (([]:L_ QMk),f_))<|j_ (IG e) λc=>j_ (Hx e) λa=>j_ (Qq (λst=>HV b d s st.1 st.2.1 st.2.2) (0,(YQ TX ([]:QSB) c t_),([a]:L_ QMk))) (Sum.elim (λq=>Q (q,f_)) (λq=>Q (q,t_)))
def QkK {n1 m2 g h}:CT 169 [.G Qi n1,.M 1 Qj m2,.I g,.I h] [] (PM n1 m2 g h) (λr=>(.tup [.M 1 Xa r.1,.b r.2])) no_:=
 W 83 func169 Z<|I 22 Z (gT_ [8,.denil 8 [Q 1]] Z<|E 0 Z)<|A 6 VR Z λu=>G [.x (λc=>c.set 23 (.map (QO V.s V.b (YQ TX ([]:QSB) u t_)))),7] Z (Qf.insert (e:=V.s) (f:=V.b) (l:=([]:QSB)) (k:=u) (v:=t_) TX Z Z Z Z Z Z Qdf Qhv Z)<|oC_ 0 [.d] PC Z λa3=>zF_ 0 28 [28] [] Z<|G [1,.O 29 (.arr 1 (([a3]:L_ QMk).map Xa)),10] Z Z<|F 0 [2,4,10,11] [4] (λst=>([(12,.P 29 st.2.2),(13,.I st.1)],[(23,.map (QO V.s V.b st.2.1)),(29,.R 1 Xa st.2.2)])) [] [] (λq=>(.ret,([(8,.P 29 q),(9,.b f_)],[(29,.R 1 Xa q)]))) [] [] (λq=>(.exit 0,([(12,.P 29 q)],[(29,.R 1 Xa q)]))) Z (λ⟨at_13,a9,b0⟩=>I 9 Z (B λa4 m=>B λw y=>D 5 Z [.E (.G Qi n1),.N,.N,.N,.B (.row (Xa a4)),.B (.co f_ [.d,.d,.d] 4 (w.map Qy) w.length),.N,.N] [] [] [2,4,10,11,12,13,41,42,43] [4,23,29,41] Z Z (a4_ Z (Yu m Z) (Xq (Yz m).2) ⟨(Qia _ y),Qx,.inl Z⟩) Z<|F 2 [2,4,10,11,13,41,42] [4,41] (λst=>([(12,.P 29 st.2.2),(43,.I st.1)],[(23,.map (QO V.s V.b st.2.1)),(29,.R 1 Xa st.2.2)])) [] [] (λq=>(.ret,([(8,.P 29 q),(9,.b f_)],[(29,.R 1 Xa q)]))) [2,4,10,11,13] [4] (λq=>(.exit 2,([(12,.P 29 q.2)],[(23,.map (QO V.s V.b q.1)),(29,.R 1 Xa q.2)]))) Z (λ⟨a5,t,b1⟩=>I 6 Z (mF_ 2 [2,4,10,11,13,41,42,43] [4,41] (λ(j:QSB) (i:(L_ QMk))=>([(12,.P 29 i)],[(23,.map (QO V.s V.b j)),(29,.R 1 Xa i)])) (λj i=>ES a5 j i) Z (vA_ 4 Qy Z λa6=>I 13 Z (fA_ 3 Z Z)<|B λa7 p=>B λC a0=>D 3 Z [.E (.G Qi n1),.N,.N,.N,.B (.row (Xa a7)),.E (.G Qy a6),.B (.C3 (.tup [.M 1 Qj C.1,.I C.2])),.N,.N,.N,.N,.N] [] [] [2,4,10,11,12,13,16,17,41,42,43] [4,23,29,41] Z Z (a5_ Z (Yu p Z) (Xq (Yz p).2) Z (Qji _ a0)) Z<|mV_ 3 [2,4,10,11,12,13,16,41,42,43] [4,23,29,41] (λa1=>([(68,.b a1)],[])) Z (I 4 Z (M 6 Z)<|A 2 VR Z λa8=>K [.o (.any (.b ((Xg t a8).getD f_)) n_),2] Z (λhC=>(a1_ (λc h1 h2 _=>Qf.lookup (z:=f_) Z Z (QP hC.n Z) (h1 _ _ Z) (h2 _ _ Z) (h1 _ _ Z) Qdf Qhv Qu4 Z)))<|M 0 Z) λa1=>I 1 Z (fA_ 3 Z Z)<|I 11 Z (L 11 Z)<|A 6 VR Z λa2=>G [.x (λc=>c.set 23 (.map (QO V.s V.b (YQ TX t a2 t_)))),5] Z (Qf.mapUpdate (e:=V.s) (f:=V.b) (l:=t) (k:=a2) (v:=t_) TX Z Z Z Z Z Z Qdf Qhv Z)<|pA_ 0 1 Xa Z<|fA_ 3 Z Z) λj i=>R 4 Z)<|X 2 Z) (λb2=>L 3 Z) (λ⟨b3,b4⟩=>R 8 Z))<|X 2 Z) (λb5=>zF_ 2 29 [8] [] Z<|E 0 Z) (λb6=>zF_ 10 29 [8] [] Z<|E 0 Z)
def Tw:O_ Bool:=j_ (idx e a) λc=>Q (decide (0<(c.length:Int)))
def Qim {c a}:CT 171 [.I c,.L 621] [(621,.W Xa a)] (Tw c a) V.b (λ_=>[(621,.W Xa a)]):=
 W 10 func171 Z<|J 9 Z λd=>N 1 Z<|E 5 Z
def Wj:O_ (Int⊕(Int⊕Unit)):=cond (j2<f.length) (j_ (idx f j2) λe=>j_ (Tw e e1) λb=>cond b (Q (i_ (y_ j2)))<|Q (y_ (Qh (j2+1))))<|Q (i_ (i_ ()))
def Cv:O_ Int:=Q a
def Ud:O_ Int:=j_ (Qq (λst=>Wj f e1 st) 0) (Sum.elim (λq=>Cv q) (λq=>Q (-1)))
def TA {b a}:CT 253 [.M 1 Qb b,.clo (.func 171) [] [.L 621]] [(621,.W Xa a)] (Ud b a) V.I (λ_=>[(621,.W Xa a)]):=
 W 19 func253 Z<|N 9 Z<|F 4 [0,1,7] [621] (λst=>([(8,.I st)],[])) [] [621] (λq=>(.ret,([(4,.I q)],[]))) [] [621] (λq=>(.exit 0,([],[]))) Z (λd=>I 6 Z (J 15 Z λe=>S 1 .clo [(621,621)] Qim Z λc=>I 2 Z (L 9 Z)<|R 7 Z)<|X 2 Z) (λf=>E 2 Z) (λ_=>E 8 Z)
def Wk:O_ Bool:=j_ (Ud f e1) λc=>Q (decide (0<=c))
def PN {c a}:CT 170 [.M 1 Qb c,.clo (.func 171) [] [.L 621]] [(621,.W Xa a)] (Wk c a) V.b (λ_=>[(621,.W Xa a)]):=
 W 9 func170 Z<|S 9 .fn [(621,621)] TA Z λd=>E 5 Z
def HW (e:((L_ QMk)×Bool))(a:LI_)(b:Int):O_ ((LI_×Int)⊕(Unit⊕Unit)):=cond (b<e.1.length) (j_ (idx e.1 b) λc=>j_ (Wk a c) λd=>cond d (Q (i_ (y_ ())))<|Q (y_ (a,(Qh (b+1)))))<|Q (i_ (i_ ()))
def RT (a:((L_ QMk)×Bool)):O_ Int:=cond (!a.2) (Q 2)<|Q 1
def PO:O_ Int:=j_ (DD b e d) λf=>j_ (PM b e d s) λa=>j_ (Qq (λst=>HW a st.1 st.2) (f,0)) (Sum.elim (λq=>Q 0) (λq=>RT a))
def QkM {e f b a}:CT 104 [.G Qi e,.M 1 Qj f,.I b,.I a] [] (PO e f b a) V.I no_:=
 W 38 func104 Z<|oC_ 11 [.d,.d,.d] QkH Z λj=>A 9 QkK Z λk=>N 11 Z<|zF_ 4 17 [9] [] Z<|F 0 [11,26,27] [] (λst=>([(9,.M 1 Qb st.1),(28,.I st.2)],[])) [] [] (λq=>(.ret,([(8,.I 0)],[]))) [11] [] (λq=>(.exit 0,([],[]))) Z (λ⟨c,g⟩=>I 6 Z (J 6 Z λh=>S 9 .fn [(621,13)] PN Z λi=>I 2 Z (L 8 Z)<|R 7 Z)<|X 2 Z) (λ_=>E 2 Z) (λ_=>I 9 Z (E 7 Z)<|E 8 Z)
def WF:O_ Int:=j_ (Yb b e r) λf=>cond (f != 0) (Q 0)<|j_ (idx b.Tasks r.Task) λg=>cond (g.Join != 3) (Q 1)<|j_ (PO b e r.Task d) λa=>Q a
def Qb5 {b c d a}:CT 60 [.G Qi b,.M 1 Qj c,.G Qy d,.I a] [] (WF b c d a) V.I no_:=
 W 30 func60 Z<|A 14 VQ Z λf=>I 4 Z (E 8 Z)<|J 6 Z λg=>I 6 Z (E 8 Z)<|A 10 QkM Z λe=>E 4 Z
def VU:O_ Bool:=cond (m1.1<1) (Q t_)<|j_ (GE m1.2.1 m1.1 16) λb=>cond (!b) (Q t_)<|j_ (GE m1.2.2 1 m1.2.1) λc=>cond (!c) (Q t_)<|j_ (GE j2 m1.1 m1.2.1) λd=>Q (!d)
def VV (c:Bool):O_ (Int×Xj):=cond c (Q (1,(Xj.mk 0 0 0 0 0)))<|Q (0,(Xj.mk m1.2.1 m1.2.2 j2 0 0))
def EI:O_ (Int×Xj):=j_ (VU m1 a) (λc=>VV m1 a c)
def Cw:O_ (Int×Xj):=cond ((m1.1==0)&&((m1.2.1==0)&&(m1.2.2==0))) (EI j2 (1,1,1))<|EI j2 m1
def Qod {a d}:CT 124 [.G QcU a,.I d] [] (Cw a d) (λr=>(.tup [.G XV r.2,.I r.1])) no_:=
 W 45 func124 Z<|mE_ 7 [1,2,4] [4] (λc:(Int×Int×Int)=>([],[(2,.W QcU c)])) (λc=>EI d c) Z (K [4,.o (.any (.b ((a.1==0)&&((a.2.1==0)&&(a.2.2==0)))) n_),2] Z (λg=>(a1_ (λz e k _=>Qf.eqAgg Z Z (QP g.n Z) (e _ _ Z) (e _ _ Z) Z Z (Qu0 _ _ _ _ _ _))))<|I 0 Z (P 4 Z Z)<|P 1 Z Z) λc=>D 1 Z (dz_ [(8,.N)]) [] [] [1,4,6,7,8] [4] Z Z U Z<|mV_ 3 [1,4,7,8] [4] (λf=>([(39,.b f)],[])) Z (I 4 Z (M 19 Z)<|A 2 GO Z λh=>I 3 Z (M 13 Z)<|A 2 GO Z λi=>I 3 Z (M 7 Z)<|A 3 GO Z λj=>M 3 Z) λf=>I 1 Z (E 9 Z)<|E 13 Z
def Kr:O_ (Int×Qz×QR):=j_ (KV l.net l.now.M l.call.Mode) λb=>cond (b.2 != 0) (Q (b.2,(Qz.mk 0 0 ([]:LI_)),(QR.mk l.net (QF.mk b.1 l.now.Items l.now.Next l.now.Now) l.call)))<|j_ (US l.now.Items p) λd=>Q (0,(Qz.mk 0 p.Id ([]:LI_)),(QR.mk l.net (QF.mk b.1 d (Qh (l.now.Next+1)) l.now.Now) l.call))
def Gm:O_ (Int×Qz×QR):=j_ (Yb l.net l.now.M l.call.Mode) λe=>cond (e != 0) (Q (e,(Qz.mk 0 0 ([]:LI_)),l))<|j_ (WF l.net l.now.M l.call.Mode 64) λd=>cond (d != 1) (Q (13,(Qz.mk 0 0 ([]:LI_)),l))<|j_ (idx l.net.Tasks l.call.Mode.Task) λc=>j_ (Cw c.Many l.call.Num) λb=>cond (b.1 != 0) (Q (b.1,(Qz.mk 0 0 ([]:LI_)),l))<|cond (64<=(l.now.Items.length:Int)) (Q (2,(Qz.mk 0 0 ([]:LI_)),l))<|cond (l.now.Next==1099511627776) (Q (1,(Qz.mk 0 0 ([]:LI_)),l))<|cond (0<c.After) (Kr l (Qm.mk l.now.Next l.call.Mode b.2 (Qh (l.now.Now+c.After))))<|Kr l (Qm.mk l.now.Next l.call.Mode b.2 0)
def QfW {e}:CT 71 [.L 621] [(621,.W QZ e)] (Gm e) (λr=>(.tup [.G QM r.2.1,.I r.1])) (λr=>[(621,.W QZ r.2.2)]):=
 W 150 func71 Z<|B λu q=>D 19 Z (dz_ [(10,.B (.C3 (.I u))),(0,.N)]) [] [] [0,2,4,5] [2,4,621] Z Z (a1_ (VQ _ q)) Z<|I 7 Z (G [2,.v .no [n_,n_,Q 1] (.agg (QM (Qz.mk 0 0 ([]:LI_)))),7] Z Z<|E 0 Z)<|B λt f=>D 4 Z (dz_ [(10,.B (.C4 (.I t))),(0,.N)]) [] [] [0,2,4,41] [2,4,621] Z Z (a1_ (Qb5 _ f)) Z<|I 1 Z (G [2,.v .no [n_,n_,Q 1] (.agg (QM (Qz.mk 0 0 ([]:LI_)))),6] Z Z<|E 0 Z)<|B λg h=>D 3 Z (dz_ [(7,.B (.row (QE g))),(2,.m .s)]) [] [] [0,2,4,6] [2,4,6,621] Z Z (a1_ (XE h)) Z<|B λi j=>D 2 Z [.N,.E (.G QcU g.Many),.N,.N,.N,.N,.N,.B (.C2 (.tup [.G XV i.2,.I i.1])),.a .no n_ t_ t_,.N,.a .no n_ t_,.N,.m .s,.N] [0,2,4,6] [2,4,6,621] [0,2,4,6,7,8] [2,4,6,7,621] Z Z (a2_ Z (Qod _ j)) Z<|I 10 Z (G [2,.v .no [n_,n_,Q 1] (.agg (QM (Qz.mk 0 0 ([]:LI_)))),8] Z Z<|E 0 Z)<|N 7 Z<|I 4 Z (G [2,.v .no [n_,n_,Q 1] (.agg (QM (Qz.mk 0 0 ([]:LI_)))),7] Z Z<|E 0 Z)<|I 11 Z (G [2,.v .no [n_,n_,Q 1] (.agg (QM (Qz.mk 0 0 ([]:LI_)))),7] Z Z<|E 0 Z)<|D 4 Z (dz_ [(9,.m .s)]) [] [] [0,2,4,6,9] [2,4,6,9,621] Z Z U Z<|mE_ 1 [0,2,4,9] [2,4,621] (λb:Qm=>([],[(9,.W Qt b)])) (λb=>Kr e b) Z (I 7 Z (D 0 Z (dz_ [(9,.m .s)]) [] [] [0,2,4,9] [2,4,9,621] Z Z U Z<|P 0 Z Z)<|P 1 Z Z) λb=>B λk l=>D 2 Z [.N,.N,.N,.N,.E (.G Qi e.net),.N,.N,.N,.N,.N,.E (.G Qy e.call.Mode),.B (.C3 (.tup [.M 1 Qj k.1,.I k.2])),.a .no n_ t_ t_,.N,.a .no n_ t_,.N,.N,.N,.m .s,.N] [0,2,4,9] [2,4,9] [0,2,8,9] [2,9,621] Z Z (a3_ Z Z (Qgu _ l)) Z<|I 7 Z (G [2,.v .no [n_,n_,Q 1] (.agg (QM (Qz.mk 0 0 ([]:LI_)))),7] Z Z<|E 0 Z)<|B λo p=>D 3 Z (dz_ [(7,.B (.cd f_ [.d,.d] 11 (o.map Qt) o.length)),(3,.m .s)]) [] [] [0,2,9] [2,9,621] Z Z (a1_ ⟨(Qgr _ p),Qx⟩) Z<|G [19,.v .no [n_,n_,Q 1] (.agg (QM (Qz.mk 0 b.Id ([]:LI_)))),5] Z Z<|E 0 Z
def DE:O_ (Int×Qz×QR):=j_ (JE l) λa=>cond (a.1 != 0) (Q (a.1,(Qz.mk 0 0 ([]:LI_)),l))<|j_ (YA l a.2) λb=>Q (b.1,(Qz.mk 0 a.2.Id ([a.2.Id]:L_ Int)),b.2)
def Qep {f}:CT 73 [.L 621] [(621,.W QZ f)] (DE f) (λr=>(.tup [.G QM r.2.1,.I r.1])) (λr=>[(621,.W QZ r.2.2)]):=
 W 24 func73 Z<|S 9 .fn [(621,621)] TY Z λe=>I 15 Z (G [2,.v .no [n_,n_,Q 1] (.agg (QM (Qz.mk 0 0 ([]:LI_)))),7] Z Z<|E 0 Z)<|B λb c=>D 3 Z [.a .no n_ t_,.a .no n_ t_,.a .no n_ t_,.a .no n_ t_,.a (.bd []) (Q ([],.sl 1 (([e.2.Id]:L_ Int).map Qb))) t_,.a .no (Q ([],.agg (QM (Qz.mk 0 e.2.Id ([e.2.Id]:L_ Int))))) t_,.N,.E (.G Qt e.2),.m (.cm (.fn) [(621,621)] [(621,621)] [] [.d,.d,.d] [(621,.W QZ b.2)] (.I b.1) []),.m .s,.m .s] [0,2,3,4] [4] [2,3] [2,621] Z Z (a4_ Z Z Z (a1_ (Cr _ c))) Z<|E 2 Z
def QfX  : O_ ((L_ (Int×(O_ Nat)))×(L_ Qk)):=Q (([]:(L_ (Int×(O_ Nat)))),([]:L_ Qk))
def Qp3 {h:Nat->Nat}:CT 223 [] [] (QfX ) (λ_=>(.L 3)) (λr=>[(1,.map (QO V.I (Yx h) r.1)),(3,.var [.Y,.map 1]),(612,.tbl h 3 (r.2.map Qu))]):=
 W 4 func223 Z<|gP_ 7 Z<|QpU (AK.newTbl 612 3 h Z Z)<|E 7 Z
def Br (b:(L_ (Int×(O_ Nat))))(c:(L_ Qk)):O_ Int:=Q (f0.length:Int)
def VW {h:Nat->Nat}{a:(L_ (O_ Nat))}{b:(L_ (Int×(O_ Nat)))}{c:(L_ Qk)}:CT 288 [.L 621] [(621,.var [.P 619 a,.map 622]),(619,.arr 1 (a.map (XJ h))),(622,.map (QO V.I (Yx h) b)),(623,.tbl h 3 (c.map Qu))] (Br a b c) V.I (λ_=>[(619,.arr 1 (a.map (XJ h))),(621,.var [.P 619 a,.map 622]),(622,.map (QO V.I (Yx h) b)),(623,.tbl h 3 (c.map Qu))]):=
 W 8 func288 Z<|E 16 Z
def LO (f:(L_ (Int×(O_ Nat))))(b:(O_ Nat))(c:(L_ Qk)):O_ ((L_ (O_ Nat))×(L_ Qk)):=j_ (b) λd=>j_ (c[d]?) λe=>j_ (chk (f0.length+([b]:L_ (O_ Nat)).length<=4294967296)) λ_=>Q ((f0++([b]:L_ (O_ Nat))),(c.set d (Qk.mk e.id e.at_ f0.length)))
def Qeq {O:Nat->Nat}{a:(L_ (O_ Nat))}{c:(L_ (Int×(O_ Nat)))}{i:(O_ Nat)}{d:(L_ Qk)}:CT 390 [.L 621,.ifc 293 (Yx O i)] [(621,.var [.P 619 a,.map 622]),(619,.arr 1 (a.map (XJ O))),(622,.map (QO V.I (Yx O) c)),(623,.tbl O 3 (d.map Qu))] (LO a c i d) (λ_=>(.tup [])) (λr=>[(619,.arr 1 (r.1.map (XJ O))),(621,.var [.P 619 r.1,.map 622]),(622,.map (QO V.I (Yx O) c)),(623,.tbl O 3 (r.2.map Qu))]):=
 W 22 func390 Z<|B λe f=>B λj g=>K [14,.o (.any (We O 0 e) n_),.o (.any (We O 2 e) n_),.x (λz=>z.set 623 (.tbl O 3 ((d.set e (Qk.mk j.id j.at_ a.length)).map Qu))),8] Z (λk=>⟨⟨⟨U,(λz h l _=>Qf.nilCheckP Z Z (QP k.n Z) (h _ _ Z) f)⟩,(λz h l _=>Qf.fieldP Z Z (QP k.n Z) (h _ _ Z) (QC.fo Z Z) Z)⟩,(Qf.storeP (b:=623) Z Z Z Z (Xq g) Z Z Z Z (QC.sz Z) (EC Z))⟩)<|pA_ 0 1 (XJ O) Z<|E 3 Z
def Gn (b:(L_ Qk)):O_ Int:=Q (f0.length:Int)
def Sn {h:Nat->Nat}{a:(L_ (O_ Nat))}{b:(L_ Qk)}:CT 386 [.P 621 a] [(621,.arr 1 (a.map (XJ h))),(622,.tbl h 3 (b.map Qu))] (Gn a b) V.I (λ_=>[(621,.arr 1 (a.map (XJ h))),(622,.tbl h 3 (b.map Qu))]):=
 W 5 func386 Z<|E 13 Z
def Rr (b:(L_ Qk))(d:Int):O_ Bool:=j_ (idx f0 q) λu=>j_ (u) λv=>j_ (b[v]?) λe=>j_ (idx f0 d) λf=>j_ (f) λg=>j_ (b[g]?) λh=>cond (e.at_<h.at_) (Q t_)<|j_ (idx f0 q) λi=>j_ (i) λj=>j_ (b[j]?) λk=>j_ (idx f0 d) λl=>j_ (l) λm=>j_ (b[m]?) λn=>cond (k.at_==n.at_) (j_ (idx f0 q) λo=>j_ (o) λp=>j_ (b[p]?) λa=>j_ (idx f0 d) λr=>j_ (r) λs=>j_ (b[s]?) λt=>Q (decide (a.id<t.id)))<|Q f_
def Ru:O_ Bool:=Q m
def DG (d:(L_ Qk)):O_ Bool:=j_ (Rr f0 q d i1) (λe=>Ru e)
def Fi {gA:Nat->Nat}{l1:(L_ (O_ Nat))}{i2:Int}{k3:Int}{t4:(L_ Qk)}:CT 387 [.P 621 l1,.I i2,.I k3] [(621,.arr 1 (l1.map (XJ gA))),(622,.tbl gA 3 (t4.map Qu))] (DG l1 i2 k3 t4) V.b (λ_=>[(621,.arr 1 (l1.map (XJ gA))),(622,.tbl gA 3 (t4.map Qu))]):=
 W 56 func387 Z<|mV_ 6 [] [621,622] (λx6=>([(6,.b x6)],[])) Z (B λe8 j=>B λk9 C=>B λO l=>B λa0 f=>B λk o=>B λa1 p=>jF_ (λg=>Us 0 Z [.N,.N,.N,.B (.row ((XJ gA) e8)),.B (.any (We gA 0 k9) n_),.B (.any (We gA 1 k9) n_),.B (.any (.I O.at_) n_),.N,.N,.N,.B (.row ((XJ gA) a0)),.B (.any (We gA 0 k) n_),.B (.any (We gA 1 k) n_),.B (.any (.I a1.at_) n_),.N,.E (.b t_),.N,.N,.N,.N,.N,.N,.N,.N,.N,.N,.N,.N,.N,.N,.N,.N,.N,.N,.N,.N,.N,.N,.N,.N,.N,.N,.N,.N,.N,.N,.N,.N,.N,.m .s] [] [] [6] [621,622] Z Z (λe=>⟨⟨⟨⟨⟨⟨⟨⟨⟨⟨⟨U,(Yu j Z)⟩,(Xq (Yz j).2)⟩,(λσ c d _=>Qf.nilCheckP Z Z (QP e.n Z) (c _ _ Z) C)⟩,(λσ c d _=>Qf.fieldP Z Z (QP e.n Z) (c _ _ Z) (QC.fo Z Z) Z)⟩,(λσ c d _=>Qf.loadP (b:=622) Z Z (QP e.n Z) (c _ _ Z) (d _ _ Z) (QC.ag Z) (Xq l) Z)⟩,(Yu f Z)⟩,(Xq (Yz f).2)⟩,(λσ c d _=>Qf.nilCheckP Z Z (QP e.n Z) (c _ _ Z) o)⟩,(λσ c d _=>Qf.fieldP Z Z (QP e.n Z) (c _ _ Z) (QC.fo Z Z) Z)⟩,(λσ c d _=>Qf.loadP (b:=622) Z Z (QP e.n Z) (c _ _ Z) (d _ _ Z) (QC.ag Z) (Xq p) Z)⟩,(cb_ g)⟩) Z<|M 0 Z) λg=>B λa2 h=>B λr u=>B λa3 v=>B λa4 i=>B λt w=>B λa5 x=>jF_ (λq=>B λb2 y=>B λa6 a7=>B λb3 a8=>B λb4 z=>B λa9 b0=>B λb5 b1=>Us 0 Z [.N,.N,.N,.B (.row ((XJ gA) e8)),.B (.any (We gA 0 k9) n_),.B (.any (We gA 1 k9) n_),.B (.any (.I O.at_) n_),.N,.N,.N,.B (.row ((XJ gA) a0)),.B (.any (We gA 0 k) n_),.B (.any (We gA 1 k) n_),.B (.any (.I a1.at_) n_),.N,.E (.b f_),.N,.N,.N,.B (.row ((XJ gA) a2)),.B (.any (We gA 0 r) n_),.B (.any (We gA 1 r) n_),.B (.any (.I a3.at_) n_),.N,.N,.N,.B (.row ((XJ gA) a4)),.B (.any (We gA 0 t) n_),.B (.any (We gA 1 t) n_),.B (.any (.I a5.at_) n_),.N,.E (.b t_),.N,.N,.N,.B (.row ((XJ gA) b2)),.B (.any (We gA 0 a6) n_),.B (.any (We gA 0 a6) n_),.B (.any (.I b3.id) n_),.N,.N,.N,.B (.row ((XJ gA) b4)),.B (.any (We gA 0 a9) n_),.B (.any (We gA 0 a9) n_),.B (.any (.I b5.id) n_),.N,.N,.N,.m .s] [] [] [6] [621,622] Z Z (λe=>⟨⟨⟨⟨⟨⟨⟨⟨⟨⟨⟨⟨⟨⟨⟨⟨⟨⟨⟨⟨⟨⟨⟨⟨⟨⟨⟨⟨⟨⟨⟨⟨U,(Yu j Z)⟩,(Xq (Yz j).2)⟩,(λσ c d _=>Qf.nilCheckP Z Z (QP e.n Z) (c _ _ Z) C)⟩,(λσ c d _=>Qf.fieldP Z Z (QP e.n Z) (c _ _ Z) (QC.fo Z Z) Z)⟩,(λσ c d _=>Qf.loadP (b:=622) Z Z (QP e.n Z) (c _ _ Z) (d _ _ Z) (QC.ag Z) (Xq l) Z)⟩,(Yu f Z)⟩,(Xq (Yz f).2)⟩,(λσ c d _=>Qf.nilCheckP Z Z (QP e.n Z) (c _ _ Z) o)⟩,(λσ c d _=>Qf.fieldP Z Z (QP e.n Z) (c _ _ Z) (QC.fo Z Z) Z)⟩,(λσ c d _=>Qf.loadP (b:=622) Z Z (QP e.n Z) (c _ _ Z) (d _ _ Z) (QC.ag Z) (Xq p) Z)⟩,(cb_ g)⟩,(Yu h Z)⟩,(Xq (Yz h).2)⟩,(λσ c d _=>Qf.nilCheckP Z Z (QP e.n Z) (c _ _ Z) u)⟩,(λσ c d _=>Qf.fieldP Z Z (QP e.n Z) (c _ _ Z) (QC.fo Z Z) Z)⟩,(λσ c d _=>Qf.loadP (b:=622) Z Z (QP e.n Z) (c _ _ Z) (d _ _ Z) (QC.ag Z) (Xq v) Z)⟩,(Yu i Z)⟩,(Xq (Yz i).2)⟩,(λσ c d _=>Qf.nilCheckP Z Z (QP e.n Z) (c _ _ Z) w)⟩,(λσ c d _=>Qf.fieldP Z Z (QP e.n Z) (c _ _ Z) (QC.fo Z Z) Z)⟩,(λσ c d _=>Qf.loadP (b:=622) Z Z (QP e.n Z) (c _ _ Z) (d _ _ Z) (QC.ag Z) (Xq x) Z)⟩,(cb_ q)⟩,(Yu y Z)⟩,(Xq (Yz y).2)⟩,(λσ c d _=>Qf.nilCheckP Z Z (QP e.n Z) (c _ _ Z) a7)⟩,(λσ c d _=>Qf.fieldP Z Z (QP e.n Z) (c _ _ Z) (QC.fo Z Z) Z)⟩,(λσ c d _=>Qf.loadP (b:=622) Z Z (QP e.n Z) (c _ _ Z) (d _ _ Z) (QC.ag Z) (Xq a8) Z)⟩,(Yu z Z)⟩,(Xq (Yz z).2)⟩,(λσ c d _=>Qf.nilCheckP Z Z (QP e.n Z) (c _ _ Z) b0)⟩,(λσ c d _=>Qf.fieldP Z Z (QP e.n Z) (c _ _ Z) (QC.fo Z Z) Z)⟩,(λσ c d _=>Qf.loadP (b:=622) Z Z (QP e.n Z) (c _ _ Z) (d _ _ Z) (QC.ag Z) (Xq b1) Z)⟩) Z<|M 0 Z) λq=>Us 0 Z [.N,.N,.N,.B (.row ((XJ gA) e8)),.B (.any (We gA 0 k9) n_),.B (.any (We gA 1 k9) n_),.B (.any (.I O.at_) n_),.N,.N,.N,.B (.row ((XJ gA) a0)),.B (.any (We gA 0 k) n_),.B (.any (We gA 1 k) n_),.B (.any (.I a1.at_) n_),.N,.E (.b f_),.N,.N,.N,.B (.row ((XJ gA) a2)),.B (.any (We gA 0 r) n_),.B (.any (We gA 1 r) n_),.B (.any (.I a3.at_) n_),.N,.N,.N,.B (.row ((XJ gA) a4)),.B (.any (We gA 0 t) n_),.B (.any (We gA 1 t) n_),.B (.any (.I a5.at_) n_),.N,.E (.b f_),.N,.N,.N,.N,.N,.N,.N,.N,.N,.N,.N,.N,.N,.N,.N,.N,.N,.m .s] [] [] [6] [621,622] Z Z (λe=>⟨⟨⟨⟨⟨⟨⟨⟨⟨⟨⟨⟨⟨⟨⟨⟨⟨⟨⟨⟨⟨⟨U,(Yu j Z)⟩,(Xq (Yz j).2)⟩,(λσ c d _=>Qf.nilCheckP Z Z (QP e.n Z) (c _ _ Z) C)⟩,(λσ c d _=>Qf.fieldP Z Z (QP e.n Z) (c _ _ Z) (QC.fo Z Z) Z)⟩,(λσ c d _=>Qf.loadP (b:=622) Z Z (QP e.n Z) (c _ _ Z) (d _ _ Z) (QC.ag Z) (Xq l) Z)⟩,(Yu f Z)⟩,(Xq (Yz f).2)⟩,(λσ c d _=>Qf.nilCheckP Z Z (QP e.n Z) (c _ _ Z) o)⟩,(λσ c d _=>Qf.fieldP Z Z (QP e.n Z) (c _ _ Z) (QC.fo Z Z) Z)⟩,(λσ c d _=>Qf.loadP (b:=622) Z Z (QP e.n Z) (c _ _ Z) (d _ _ Z) (QC.ag Z) (Xq p) Z)⟩,(cb_ g)⟩,(Yu h Z)⟩,(Xq (Yz h).2)⟩,(λσ c d _=>Qf.nilCheckP Z Z (QP e.n Z) (c _ _ Z) u)⟩,(λσ c d _=>Qf.fieldP Z Z (QP e.n Z) (c _ _ Z) (QC.fo Z Z) Z)⟩,(λσ c d _=>Qf.loadP (b:=622) Z Z (QP e.n Z) (c _ _ Z) (d _ _ Z) (QC.ag Z) (Xq v) Z)⟩,(Yu i Z)⟩,(Xq (Yz i).2)⟩,(λσ c d _=>Qf.nilCheckP Z Z (QP e.n Z) (c _ _ Z) w)⟩,(λσ c d _=>Qf.fieldP Z Z (QP e.n Z) (c _ _ Z) (QC.fo Z Z) Z)⟩,(λσ c d _=>Qf.loadP (b:=622) Z Z (QP e.n Z) (c _ _ Z) (d _ _ Z) (QC.ag Z) (Xq x) Z)⟩,(cb_ q)⟩) Z<|M 0 Z) λx6=>E 2 Z
def Wl (i:(L_ Qk)):O_ ((L_ (O_ Nat))×(L_ Qk)):=j_ (idx f0 i1) λh=>j_ (idx f0 q) λj=>j_ (idx f0 q) λn=>j_ (idx (f0.set q.toNat h) i1) λm=>j_ (idx ((f0.set q.toNat h).set i1.toNat j) q) λk=>j_ (idx ((f0.set q.toNat h).set i1.toNat j) i1) λl=>j_ (k) λe=>j_ (i[e]?) λb=>j_ (l) λf=>j_ ((i.set e (Qk.mk b.id b.at_ q))[f]?) λg=>Q (((f0.set q.toNat h).set i1.toNat j),((i.set e (Qk.mk b.id b.at_ q)).set f (Qk.mk g.id g.at_ i1)))
def Fj {gA:Nat->Nat}{l:(L_ (O_ Nat))}{k:Int}{x:Int}{y:(L_ Qk)}:CT 388 [.P 621 l,.I k,.I x] [(621,.arr 1 (l.map (XJ gA))),(622,.tbl gA 3 (y.map Qu))] (Wl l k x y) (λ_=>(.tup [])) (λr=>[(621,.arr 1 (r.1.map (XJ gA))),(622,.tbl gA 3 (r.2.map Qu))]):=
 W 34 func388 Z<|B λC o=>B λe8 p=>B λe9 q=>B λO f=>D 1 Z [.N,.N,.a .no n_ t_,.a .no n_ t_,.N,.N,.N,.B (.row ((XJ gA) C)),.N,.N,.N,.B (.row ((XJ gA) e8)),.N,.m (.st ((XJ gA) e9) ((l.set k.toNat C).map (XJ gA))),.N,.m (.st ((XJ gA) O) (((l.set k.toNat C).set x.toNat e8).map (XJ gA)))] [0,1,2] [622] [0,1,2] [621,622] Z Z (a8_ (Yu o Z) (Xq (Yz o).2) (Yu p Z) (Xq (Yz p).2) (Yu q Z) ⟨(Xq (Yz q).2),EC Z⟩ (Yu f (by simp)) ⟨(Xq (Yz f).2),EC Z⟩) Z<|B λa0 g=>B λa1 h=>B λd s=>B λe t=>B λi u=>B λv w=>Us 1 Z [.N,.N,.N,.B (.row ((XJ gA) a0)),.N,.N,.N,.B (.row ((XJ gA) a1)),.N,.a .no n_ t_,.B (.any (We gA 0 d) n_),.B (.any (We gA 2 d) n_),.m (.any ⟨[],[(622,.tbl gA 3 ((y.set d (Qk.mk e.id e.at_ k)).map Qu))],n_⟩),.B (.any (We gA 0 i) n_),.B (.any (We gA 2 i) n_),.m (.any ⟨[],[(622,.tbl gA 3 (((y.set d (Qk.mk e.id e.at_ k)).set i (Qk.mk v.id v.at_ x)).map Qu))],n_⟩)] [0,1,2] [621] [] [621,622] Z Z (λz=>⟨⟨⟨⟨⟨⟨⟨⟨⟨⟨U,(Yu g (by simp))⟩,(Xq (Yz g).2)⟩,(Yu h (by simp))⟩,(Xq (Yz h).2)⟩,(λσ c j _=>Qf.nilCheckP Z Z (QP z.n Z) (c _ _ Z) s)⟩,(λσ c j _=>Qf.fieldP Z Z (QP z.n Z) (c _ _ Z) (QC.fo Z Z) Z)⟩,(λσ c j=>Qf.storeP (b:=622) Z Z (c _ _ Z) (j _ _ Z) (Xq t) Z (c _ _ Z) Z Z (QC.sz Z) (EC Z))⟩,(λσ c j _=>Qf.nilCheckP Z Z (QP z.n Z) (c _ _ Z) u)⟩,(λσ c j _=>Qf.fieldP Z Z (QP z.n Z) (c _ _ Z) (QC.fo Z Z) Z)⟩,(λσ c j=>Qf.storeP (b:=622) Z Z (c _ _ Z) (j _ _ Z) (Xq w) Z (c _ _ Z) Z Z (QC.sz Z) (EC Z))⟩) Z<|E 0 Z
def So:O_ Bool:=cond ((Qh (Int.tdiv (Qh (a-1)) 2))==a) (Q t_)<|j_ (DG f0 a (Qh (Int.tdiv (Qh (a-1)) 2)) g2) λc=>Q (!c)
def Sp (a:(L_ (O_ Nat)))(c:Int)(d:Bool):O_ ((Int×(L_ Qk)×(L_ (O_ Nat)))⊕((L_ Qk)×(L_ (O_ Nat)))):=cond d (Q (i_ (g2,a)))<|j_ (Wl a (Qh (Int.tdiv (Qh (c-1)) 2)) c g2) λb=>j_ (chk (b.1.length=a.length)) λ_=>Q (y_ ((Qh (Int.tdiv (Qh (c-1)) 2)),b.2,b.1))
def UT (c:(L_ (O_ Nat))):O_ ((Int×(L_ Qk)×(L_ (O_ Nat)))⊕((L_ Qk)×(L_ (O_ Nat)))):=j_ (So a c g2) (λb=>Sp g2 c a b)
def Nv (d:(L_ (Int×(O_ Nat))))(b:Int)(c:(L_ Qk)):O_ ((L_ (O_ Nat))×(L_ Qk)):=j_ (Qq (λst=>UT st.1 st.2.1 st.2.2) (b,c,f0)) (λq=>Q (q.2,q.1))
def QfZ {gA:Nat->Nat}{h:(L_ (O_ Nat))}{i:(L_ (Int×(O_ Nat)))}{l:Int}{m:(L_ Qk)}:CT 326 [.ifc 298 (.L 621),.I l] [(621,.var [.P 619 h,.map 622]),(619,.arr 1 (h.map (XJ gA))),(622,.map (QO V.I (Yx gA) i)),(623,.tbl gA 3 (m.map Qu))] (Nv h i l m) (λ_=>(.tup [])) (λr=>[(619,.arr 1 (r.1.map (XJ gA))),(621,.var [.P 619 r.1,.map 622]),(622,.map (QO V.I (Yx gA) i)),(623,.tbl gA 3 (r.2.map Qu))]):=
 W 23 func326 Z<|lA_ 1 [0] [622] (λst=>([(1,.I st.1)],[(619,.arr 1 (st.2.2.map (XJ gA))),(621,.var [.P 619 st.2.2,.map 622]),(623,.tbl gA 3 (st.2.1.map Qu))])) [] [622] (λq=>(.exit 0,([],[(619,.arr 1 (q.2.map (XJ gA))),(621,.var [.P 619 q.2,.map 622]),(623,.tbl gA 3 (q.1.map Qu))]))) Z (λ⟨t,o,j⟩=>G [11] Z (by decide)<|mV_ 0 [0,1,4] [619,621,622,623] (λc=>([(17,.b c)],[])) Z (I 5 Z (M 7 Z)<|B λk e=>g2_ [3,.cm (.mv 387 290) [(621,619),(622,623)] [(619,621),(623,622)] [] [.d,.d,.d] [(621,.arr 1 (j.map (XJ gA))),(622,.tbl gA 3 (o.map Qu))] (.b k),3] Z QfM (@Fi gA _ _ _ _ _ e)<|M 0 Z) λc=>I 1 Z (X 3 Z)<|B λa f=>kA_ λg=>g3_ [7,.cm (.mv 388 290) [(621,619),(622,623)] [(619,621),(623,622)] [] [.d,.d,.d] [(621,.arr 1 (a.1.map (XJ gA))),(622,.tbl gA 3 (a.2.map Qu))] (.tup []),.O 621 (.var [.P 619 a.1,.map 622]),7] Z QfN (@Fj gA _ _ _ _ _ f) (by simp[Xe g])<|R 0 Z) λ⟨p,s⟩=>E 1 Z
def IJ (e:(O_ Nat))(f:(L_ Qk)):O_ ((L_ (O_ Nat))×(L_ Qk)):=j_ (LO f0 f3 e f) λa=>j_ (Gn a.1 a.2) λg=>j_ (Nv a.1 f3 (Qh (g-1)) a.2) λc=>Q (c.1,c.2)
def Qdz {O:Nat->Nat}{c:(L_ (O_ Nat))}{a:(L_ (Int×(O_ Nat)))}{i:(O_ Nat)}{j:(L_ Qk)}:CT 289 [.ifc 298 (.L 621),.ifc 293 (Yx O i)] [(621,.var [.P 619 c,.map 622]),(619,.arr 1 (c.map (XJ O))),(622,.map (QO V.I (Yx O) a)),(623,.tbl O 3 (j.map Qu))] (IJ c a i j) (λ_=>(.tup [])) (λr=>[(619,.arr 1 (r.1.map (XJ O))),(621,.var [.P 619 r.1,.map 622]),(622,.map (QO V.I (Yx O) a)),(623,.tbl O 3 (r.2.map Qu))]):=
 W 12 func289 Z<|B λb e=>B λk f=>B λg h=>gA_ [4,.cm (.me 390) [(621,621),(619,619),(622,622),(623,623)] [(619,619),(621,621),(622,622),(623,623)] [619] [.d,.d] [(619,.arr 1 (b.1.map (XJ O))),(621,.var [.P 619 b.1,.map 622]),(622,.map (QO V.I (Yx O) a)),(623,.tbl O 3 (b.2.map Qu))] (.tup []),5,.cm (.mv 386 290) [(621,619),(622,623)] [(619,621),(623,622)] [] [.d] [(621,.arr 1 (b.1.map (XJ O))),(622,.tbl O 3 (b.2.map Qu))] (.I k),1,.cm (.fn) [(621,621),(619,619),(622,622),(623,623)] [(619,619),(621,621),(622,622),(623,623)] [619] [.d,.d] [(619,.arr 1 (g.1.map (XJ O))),(621,.var [.P 619 g.1,.map 622]),(622,.map (QO V.I (Yx O) a)),(623,.tbl O 3 (g.2.map Qu))] (.tup []),1] Z (a5_ QtQ (@Qeq O _ _ _ _ _ e) QnX (@Sn O _ _ _ f) (@QfZ O _ _ _ _ _ h))<|E 0 Z
def BG (b:(L_ Qk)):O_ (Int×(L_ (O_ Nat))×(L_ Qk)×(L_ (Int×(O_ Nat)))):=cond (((Xg f3 q).getD n_).isSome) (Q (5,f0,b,f3))<|j_ (Br f0 f3 b) λf=>cond (f==4096) (Q (2,f0,b,f3))<|j_ (chk (f0.all (okP b.length))) λ_=>j_ (chk (f3.all (λa=>okP b.length a.2))) λ_=>j_ (IJ f0 (YQ UP f3 q (Q b.length)) (Q b.length) (b++[(Qk.mk q i1 0)])) λe=>Q (0,e.1,e.2,(YQ UP f3 q (Q b.length)))
def Qer {gA:Nat->Nat}{q:(L_ (O_ Nat))}{c:(L_ (Int×(O_ Nat)))}{a:Int}{at_4:Int}{g:(L_ Qk)}:CP 224 [.L 621,.I a,.I at_4] [(621,.var [.P 619 q,.map 622]),(619,.arr 1 (q.map (XJ gA))),(622,.map (QO V.I (Yx gA) c)),(620,.tbl gA 3 (g.map Qu))] (BG q c a at_4 g) (λr=>λv hs=>∃gA:Nat->Nat,True/\Gives (.I r.1) [(619,.arr 1 (r.2.1.map (XJ gA))),(620,.tbl gA 3 (r.2.2.1.map Qu)),(621,.var [.P 619 r.2.1,.map 622]),(622,.map (QO V.I (Yx gA) r.2.2.2))] v hs):=
 wP_ 37 func224 Z<|K [14,.o (.any (Yx gA ((Xg c a).getD n_)) n_),.o (.any (.b ((Xg c a).getD n_).isSome) n_),3] Z (λi=>(a2_ (λσ s h2 _=>Qf.lookup (z:=n_) Z Z (QP i.n Z) (s _ _ Z) (h2 _ _ Z) (s _ _ Z) QsN BC QzY Z) (λσ s h2 _=>Qf.neqNilP Z Z (QP i.n Z) (s _ _ Z) (s _ _ Z) QzX)))<|I 0 Z (gT_ [8,.K [6] [619,620,621,622]] Z<|(λi h=>by
   cases h;refine AK.done ?_;exact ex_ [_] (an_ (an_ Z U) (ex_ _ (an_ U (gives r4_))))))<|B λC t=>G [3,.cm (.fn) [(621,621),(619,619),(622,622),(623,620)] [(619,619),(621,621),(622,622),(620,623)] [619] [.d] [(619,.arr 1 (q.map (XJ gA))),(621,.var [.P 619 q,.map 622]),(622,.map (QO V.I (Yx gA) c)),(623,.tbl gA 3 (g.map Qu))] (.I C),4] Z (@VW gA _ _ _ _ t)<|I 0 Z (gT_ [8,.K [6] [619,620,621,622]] Z<|(λi h=>by
   cases h;refine AK.done ?_;exact ex_ [_] (an_ (an_ Z U) (ex_ _ (an_ U (gives r4_))))))<|kA_ λu=>kA_ λw=>gP_ 8 Z<|λi h=>AK.boxP (b:=620) (n:=g.length) (rsN:=(g++[(Qk.mk a at_4 0)]).map Qu) Z Z Z (QP i.n Z) Z Z Z Z Z Z Qx (WA (m:=[(Qk.mk a at_4 0)])) λgA j=>QfP i h<|B λp y=>gA_ [.O 619 (.arr 1 (q.map (XJ gA))),.O 622 (.map (QO V.I (Yx gA) c)),11,.x (λσ=>σ.set 622 (.map (QO V.I (Yx gA) (YQ UP c a (Q g.length))))),10,.cm (.fn) [(621,621),(619,619),(622,622),(623,620)] [(619,619),(621,621),(622,622),(620,623)] [619] [.d,.d] [(619,.arr 1 (p.1.map (XJ gA))),(621,.var [.P 619 p.1,.map 622]),(622,.map (QO V.I (Yx gA) (YQ UP c a (Q g.length)))),(623,.tbl gA 3 (p.2.map Qu))] (.tup []),8,.K [6] [619,620,621,622]] Z (a4_ (congrArg (Ob.arr 1) (QyV j u)) (congrArg Ob.map (QyW j w)) (Qf.mapUpdate (e:=V.I) (f:=(Yx gA)) (l:=c) (k:=a) (v:=(Q g.length)) UP Z Z Z Z Z Z QsN BC Z) (@Qdz gA _ _ _ _ _ y))<|(λi h=>by
   cases h;refine AK.done ?_;exact ex_ [_] (an_ (an_ Z U) (ex_ _ (an_ U (gives r4_)))))
def Km:O_ (Int×Int×Bool):=j_ (Br f0 f3 g2) λc=>cond (c==0) (Q (0,0,f_))<|j_ (idx f0 0) λd=>j_ (d) λe=>j_ (g2[e]?) λf=>j_ (idx f0 0) λg=>j_ (g) λh=>j_ (g2[h]?) λi=>Q (f.id,i.at_,t_)
def TZ {O:Nat->Nat}{g:(L_ (O_ Nat))}{u:(L_ (Int×(O_ Nat)))}{v:(L_ Qk)}:CT 290 [.L 621] [(621,.var [.P 619 g,.map 622]),(619,.arr 1 (g.map (XJ O))),(622,.map (QO V.I (Yx O) u)),(623,.tbl O 3 (v.map Qu))] (Km g u v) (λr=>(.tup [.I r.1,.I r.2.1,.b r.2.2])) (λ_=>[(619,.arr 1 (g.map (XJ O))),(621,.var [.P 619 g,.map 622]),(622,.map (QO V.I (Yx O) u)),(623,.tbl O 3 (v.map Qu))]):=
 W 26 func290 Z<|B λw j=>G [11,.cm (.fn) [(621,621),(619,619),(622,622),(623,623)] [(619,619),(621,621),(622,622),(623,623)] [619] [.d] [(619,.arr 1 (g.map (XJ O))),(621,.var [.P 619 g,.map 622]),(622,.map (QO V.I (Yx O) u)),(623,.tbl O 3 (v.map Qu))] (.I w),3] Z (@VW O _ _ _ _ j)<|I 0 Z (E 9 Z)<|B λx e=>B λk l=>B λy o=>B λz f=>B λp q=>B λC t=>Us 3 Z [.N,.N,.N,.N,.N,.B (.row ((XJ O) x)),.B (.any (We O 0 k) n_),.B (.any (We O 0 k) n_),.B (.any (.I y.id) n_),.a .no n_ t_,.a .no n_ t_,.a .no n_ t_,.a .no n_ t_,.a .no n_ t_,.a (.row ((XJ O) z)) n_ t_,.a (.any (We O 0 p) n_) n_ t_,.a (.any (We O 1 p) n_) n_ t_,.a (.any (.I C.at_) n_) n_ t_,.m .s,.m .s,.m .s] [0,4] [619,621,622,623] [2,3,4] [619,621,622,623] Z Z (λi=>⟨⟨⟨⟨⟨⟨⟨⟨⟨⟨U,(Yu e Z)⟩,(Xq (Yz e).2)⟩,(λσ c h _=>Qf.nilCheckP Z Z (QP i.n Z) (c _ _ Z) l)⟩,(λσ c h _=>Qf.fieldP Z Z (QP i.n Z) (c _ _ Z) (QC.fo Z Z) Z)⟩,(λσ c h _=>Qf.loadP (b:=623) Z Z (QP i.n Z) (c _ _ Z) (h _ _ Z) (QC.ag Z) (Xq o) Z)⟩,(Yu f Z)⟩,(Xq (Yz f).2)⟩,(λσ c h _=>Qf.nilCheckP Z Z (QP i.n Z) (c _ _ Z) q)⟩,(λσ c h _=>Qf.fieldP Z Z (QP i.n Z) (c _ _ Z) (QC.fo Z Z) Z)⟩,(λσ c h _=>Qf.loadP (b:=623) Z Z (QP i.n Z) (c _ _ Z) (h _ _ Z) (QC.ag Z) (Xq t) Z)⟩) Z<|E 2 Z
def Jn (c:(L_ Qk))(d:Int):O_ ((Int×(L_ Qk)×(L_ (O_ Nat)))⊕(Int×(L_ Qk)×(L_ (O_ Nat)))):=j_ (DG f0 d q c) λf=>cond (!f) (Q (i_ (q,c,f0)))<|j_ (Wl f0 q d c) λe=>j_ (chk (e.1.length=f0.length)) λ_=>Q (y_ (d,e.2,e.1))
def OU:O_ Bool:=cond ((Qh ((Qh ((Qh (2*a))+1))+1))<h) (j_ (DG f0 (Qh ((Qh ((Qh (2*a))+1))+1)) (Qh ((Qh (2*a))+1)) g2) λd=>Q d)<|Q f_
def Cx (c:(L_ Qk))(d:Bool):O_ ((Int×(L_ Qk)×(L_ (O_ Nat)))⊕(Int×(L_ Qk)×(L_ (O_ Nat)))):=cond d (Jn f0 q c (Qh ((Qh ((Qh (2*q))+1))+1)))<|Jn f0 q c (Qh ((Qh (2*q))+1))
def KS (c:(L_ (O_ Nat))):O_ ((Int×(L_ Qk)×(L_ (O_ Nat)))⊕(Int×(L_ Qk)×(L_ (O_ Nat)))):=
 cond ((a<=(Qh ((Qh (2*h))+1)))||((Qh ((Qh (2*h))+1))<0)) (Q (i_ (h,g2,c)))<|j_ (OU h a c g2) (λd=>Cx c h g2 d)
def OV (c:(L_ (O_ Nat))):O_ (Bool×(L_ (O_ Nat))×(L_ Qk)):=Q ((decide (a<h)),c,g2)
def IK (e:(L_ (Int×(O_ Nat))))(a:Int)(c:Int)(d:(L_ Qk)):O_ (Bool×(L_ (O_ Nat))×(L_ Qk)):=j_ (Qq (λst=>KS c st.1 st.2.1 st.2.2) (a,d,f0)) (λq=>OV a q.1 q.2.1 q.2.2)
def QdA {gA:Nat->Nat}{o:(L_ (O_ Nat))}{p:(L_ (Int×(O_ Nat)))}{v:Int}{s:Int}{w:(L_ Qk)}:CT 327 [.ifc 298 (.L 621),.I v,.I s] [(621,.var [.P 619 o,.map 622]),(619,.arr 1 (o.map (XJ gA))),(622,.map (QO V.I (Yx gA) p)),(623,.tbl gA 3 (w.map Qu))] (IK o p v s w) (λr=>(.b r.1)) (λr=>[(619,.arr 1 (r.2.1.map (XJ gA))),(621,.var [.P 619 r.2.1,.map 622]),(622,.map (QO V.I (Yx gA) p)),(623,.tbl gA 3 (r.2.2.map Qu))]):=
 W 48 func327 Z<|lA_ 13 [0,1,2] [622] (λst=>([(7,.I st.1)],[(619,.arr 1 (st.2.2.map (XJ gA))),(621,.var [.P 619 st.2.2,.map 622]),(623,.tbl gA 3 (st.2.1.map Qu))])) [1] [622] (λq=>(.exit 0,([(7,.I q.1)],[(619,.arr 1 (q.2.2.map (XJ gA))),(621,.var [.P 619 q.2.2,.map 622]),(623,.tbl gA 3 (q.2.1.map Qu))]))) Z (λ⟨e,f,g⟩=>T 11 [0,1,2,7,8] [619,621,622,623] ([(21,.b ((s<=(Qh ((Qh (2*e))+1)))||((Qh ((Qh (2*e))+1))<0)))],[]) Z (H 5 Z (λa=>Y 4 21 Z (Jf a Z)) λa=>Y 4 21 Z (Xk a Z))<|I 1 Z (X 3 Z)<|mE_ 8 [0,1,2,7] [619,621,622,623] (λc:Int=>([(9,.I c)],[])) (λc=>Jn g e f c) Z (mV_ 8 [0,1,2,7,9,10] [619,621,622,623] (λi=>([(33,.b i)],[])) Z (I 5 Z (B λt j=>g2_ [3,.cm (.mv 387 290) [(621,619),(622,623)] [(619,621),(623,622)] [] [.d,.d,.d] [(621,.arr 1 (g.map (XJ gA))),(622,.tbl gA 3 (f.map Qu))] (.b t),2] Z QfM (@Fi gA _ _ _ _ _ j)<|M 0 Z)<|M 6 Z) λi=>I 1 Z (P 4 Z Z)<|P 1 Z Z) λc=>B λu k=>g2_ [6,.cm (.mv 387 290) [(621,619),(622,623)] [(619,621),(623,622)] [] [.d,.d,.d] [(621,.arr 1 (g.map (XJ gA))),(622,.tbl gA 3 (f.map Qu))] (.b u),3] Z QfM (@Fi gA _ _ _ _ _ k)<|I 0 Z (X 3 Z)<|B λh l=>kA_ λm=>g3_ [7,.cm (.mv 388 290) [(621,619),(622,623)] [(619,621),(623,622)] [] [.d,.d,.d] [(621,.arr 1 (h.1.map (XJ gA))),(622,.tbl gA 3 (h.2.map Qu))] (.tup []),.O 621 (.var [.P 619 h.1,.map 622]),7] Z QfN (@Fj gA _ _ _ _ _ l) (by simp[Xe m])<|R 0 Z) λ⟨x,y,z⟩=>E 11 Z
def Nw (c:(L_ (Int×(O_ Nat))))(d:(L_ Qk)):O_ ((O_ Nat)×(L_ (O_ Nat))):=j_ (idx f0 (Qh ((f0.length:Int)-1))) λb=>j_ (chk (decide (0<=(Qh ((f0.length:Int)-1)))&&decide ((Qh ((f0.length:Int)-1)).toNat<=f0.length))) λ_=>Q (b,(f0.take (Qh ((f0.length:Int)-1)).toNat))
def Qf0 {gA:Nat->Nat}{b:(L_ (O_ Nat))}{f:(L_ (Int×(O_ Nat)))}{g:(L_ Qk)}:CT 389 [.L 621] [(621,.var [.P 619 b,.map 622]),(619,.arr 1 (b.map (XJ gA))),(622,.map (QO V.I (Yx gA) f)),(623,.tbl gA 3 (g.map Qu))] (Nw b f g) (λr=>(.ifc 293 (Yx gA r.1))) (λr=>[(619,.arr 1 (r.2.map (XJ gA))),(621,.var [.P 619 r.2,.map 622]),(622,.map (QO V.I (Yx gA) f)),(623,.tbl gA 3 (g.map Qu))]):=
 W 27 func389 Z<|B λk d=>D 6 Z [.N,.N,.N,.N,.N,.N,.N,.N,.N,.B (.row ((XJ gA) k)),.N] [] [] [0,3] [619,621,622,623] Z Z (a2_ (Yu d Z) (Xq (Yz d).2)) Z<|gT_ [2,.K [0,3] [619,621,622,623]] Z<|kA_ λc=>(λe h=>by
   have i:(Qh ((b.length:Int)-1)).toNat=(b.take (Qh ((b.length:Int)-1)).toNat).length:=by rw[Kv,OB (Xe (Sf c))]
   refine AK.draw2 QC e mixed [.a .no n_ t_,.N,.N,.N,.N,.N,.N,.N,.N,.m (.any ⟨[],[(619,.arr 1 ((b.take (Qh ((b.length:Int)-1)).toNat).map (XJ gA)))],Q (23,.own 619 (Qh ((b.length:Int)-1)).toNat)⟩),.N,.m .s] [0,3] [621,622,623] [3] [619,621,622,623] rfl rfl rfl ⟨U,(λz j l=>Qf.sliceO rfl rfl (QP e.n rfl) (j _ _ rfl) (l _ _ rfl) (QC.es rfl) GL.no (GL.val (j _ _ rfl) (Xe (Qgl c)) rfl) (Xe (Sf c)) (by simp))⟩ rfl (by kernel_rfl) rfl rfl rfl ?_;refine YF e [.O 621 (.var [.own 619 (Qh ((b.length:Int)-1)).toNat,.map 622]),9,.O 621 (.var [.own 619 (b.take (Qh ((b.length:Int)-1)).toNat).length,.map 622]),.K [2] [619,621,622,623]] rfl (a2_ rfl (congrArg (λn=>Ob.var [.own 619 n,.map 622]) (by rw[<-i]))) ?_;exact E 0 Z e h)
def BH:O_ ((O_ Nat)×(L_ (O_ Nat))×(L_ Qk)):=j_ (Gn f0 g2) λg=>j_ (Wl f0 0 (Qh (g-1)) g2) λd=>j_ (chk (d.1.length=f0.length)) λ_=>j_ (IK d.1 f3 0 (Qh (g-1)) d.2) λa=>j_ (Nw a.2.1 f3 a.2.2) λb=>Q (b.1,b.2,a.2.2)
def Qes {gA:Nat->Nat}{h:(L_ (O_ Nat))}{e:(L_ (Int×(O_ Nat)))}{i:(L_ Qk)}:CT 291 [.ifc 298 (.L 621)] [(621,.var [.P 619 h,.map 622]),(619,.arr 1 (h.map (XJ gA))),(622,.map (QO V.I (Yx gA) e)),(623,.tbl gA 3 (i.map Qu))] (BH h e i) (λr=>(.ifc 293 (Yx gA r.1))) (λr=>[(619,.arr 1 (r.2.1.map (XJ gA))),(621,.var [.P 619 r.2.1,.map 622]),(622,.map (QO V.I (Yx gA) e)),(623,.tbl gA 3 (r.2.2.map Qu))]):=
 W 15 func291 Z<|B λo j=>B λk l=>kA_ λm=>B λa f=>B λc g=>gA_ [8,.cm (.mv 386 290) [(621,619),(622,623)] [(619,621),(623,622)] [] [.d] [(621,.arr 1 (h.map (XJ gA))),(622,.tbl gA 3 (i.map Qu))] (.I o),8,.cm (.mv 388 290) [(621,619),(622,623)] [(619,621),(623,622)] [] [.d,.d,.d] [(621,.arr 1 (k.1.map (XJ gA))),(622,.tbl gA 3 (k.2.map Qu))] (.tup []),.O 621 (.var [.P 619 k.1,.map 622]),6,.cm (.fn) [(621,621),(619,619),(622,622),(623,623)] [(619,619),(621,621),(622,622),(623,623)] [619] [.d,.d,.d] [(619,.arr 1 (a.2.1.map (XJ gA))),(621,.var [.P 619 a.2.1,.map 622]),(622,.map (QO V.I (Yx gA) e)),(623,.tbl gA 3 (a.2.2.map Qu))] (.b a.1),5,.cm (.me 389) [(621,621),(619,619),(622,622),(623,623)] [(619,619),(621,621),(622,622),(623,623)] [619] [.d] [(619,.arr 1 (c.2.map (XJ gA))),(621,.var [.P 619 c.2,.map 622]),(622,.map (QO V.I (Yx gA) e)),(623,.tbl gA 3 (a.2.2.map Qu))] (.ifc 293 (Yx gA c.1)),4] Z (a8_ QnX (@Sn gA _ _ _ j) QfN (@Fj gA _ _ _ _ _ l) (by simp[Xe m]) (@QdA gA _ _ _ _ _ _ f) Qu3 (@Qf0 gA _ _ _ _ g))<|E 0 Z
def Wm (b:(L_ (Int×(O_ Nat))))(d:(L_ Qk))(i:(L_ (O_ Nat))):O_ ((Int×Int×Bool×LI_×(L_ (Int×(O_ Nat)))×(L_ Qk)×(L_ (O_ Nat)))⊕(LI_×(L_ (Int×(O_ Nat)))×(L_ Qk)×(L_ (O_ Nat)))):=cond (h0&&(c<=a)) (j_ (chk (d4.length+([h]:L_ Int).length<=4294967296)) λ_=>j_ (BH i b d) λf=>j_ (Km f.2.1 (Ip b h) f.2.2) λe=>Q (y_ (e.1,e.2.1,e.2.2,(d4++([h]:L_ Int)),(Ip b h),f.2.2,f.2.1)))<|Q (i_ (d4,b,d,i))
def VX (d:(L_ (O_ Nat))):O_ (LI_×(L_ (O_ Nat))×(L_ (Int×(O_ Nat)))×(L_ Qk)):=Q (f,d,f3,g2)
def RU (e:(L_ Qk)):O_ (LI_×(L_ (O_ Nat))×(L_ (Int×(O_ Nat)))×(L_ Qk)):=j_ (Km f0 f3 e) λb=>j_ (Qq (λst=>Wm q st.1 st.2.1 st.2.2.1 st.2.2.2.1 st.2.2.2.2.1 st.2.2.2.2.2.1 st.2.2.2.2.2.2) (b.1,b.2.1,b.2.2,([]:L_ Int),f3,e,f0)) (λa=>VX a.1 a.2.1 a.2.2.1 a.2.2.2)
def QhF {gA:Nat->Nat}{m:(L_ (O_ Nat))}{t:(L_ (Int×(O_ Nat)))}{c:Int}{u:(L_ Qk)}:CT 225 [.L 621,.I c] [(621,.var [.P 619 m,.map 622]),(619,.arr 1 (m.map (XJ gA))),(622,.map (QO V.I (Yx gA) t)),(623,.tbl gA 3 (u.map Qu))] (RU m t c u) (λr=>(.P 600 r.1)) (λr=>[(600,.R 1 Qb r.1),(619,.arr 1 (r.2.1.map (XJ gA))),(621,.var [.P 619 r.2.1,.map 622]),(622,.map (QO V.I (Yx gA) r.2.2.1)),(623,.tbl gA 3 (r.2.2.2.map Qu))]):=
 W 42 func225 Z<|B λv w=>G [14,.cm (.fn) [(621,621),(619,619),(622,622),(623,623)] [(619,619),(621,621),(622,622),(623,623)] [619] [.d] [(619,.arr 1 (m.map (XJ gA))),(621,.var [.P 619 m,.map 622]),(622,.map (QO V.I (Yx gA) t)),(623,.tbl gA 3 (u.map Qu))] (.tup [.I v.1,.I v.2.1,.b v.2.2]),10] Z (@TZ gA _ _ _ _ w)<|aD_ 0 5 27 1 Z<|lA_ 0 [0,1] [] (λst=>([(5,.P 27 st.2.2.2.1),(6,.I st.1),(7,.I st.2.1),(8,.b st.2.2.1)],[(27,.R 1 Qb st.2.2.2.1),(619,.arr 1 (st.2.2.2.2.2.2.map (XJ gA))),(621,.var [.P 619 st.2.2.2.2.2.2,.map 622]),(622,.map (QO V.I (Yx gA) st.2.2.2.2.1)),(623,.tbl gA 3 (st.2.2.2.2.2.1.map Qu))])) [] [] (λq=>(.exit 0,([(5,.P 27 q.1)],[(27,.R 1 Qb q.1),(619,.arr 1 (q.2.2.2.map (XJ gA))),(621,.var [.P 619 q.2.2.2,.map 622]),(622,.map (QO V.I (Yx gA) q.2.1)),(623,.tbl gA 3 (q.2.2.1.map Qu))]))) Z (λ⟨g,at_14,o,y,i,z,C⟩=>T 2 [0,1,5,6] [27,619,621,622,623] ([(20,.b (o&&(at_14<=c)))],[]) Z (H 3 Z (λh=>Y 5 20 Z (Ye h Z)) λh=>Y 5 20 Z (YH h Z))<|I 1 Z (pA_ 8 1 Qb Z<|B λa p=>B λj s=>g3_ [9,.cm (.fn) [(621,621),(619,619),(622,622),(623,623)] [(619,619),(621,621),(622,622),(623,623)] [619] [.d] [(619,.arr 1 (a.2.1.map (XJ gA))),(621,.var [.P 619 a.2.1,.map 622]),(622,.map (QO V.I (Yx gA) i)),(623,.tbl gA 3 (a.2.2.map Qu))] (.ifc 293 (Yx gA a.1)),8,.x (λn=>n.set 622 (.map (QO V.I (Yx gA) (Ip i g)))),5,.cm (.fn) [(621,621),(619,619),(622,622),(623,623)] [(619,619),(621,621),(622,622),(623,623)] [619] [.d] [(619,.arr 1 (a.2.1.map (XJ gA))),(621,.var [.P 619 a.2.1,.map 622]),(622,.map (QO V.I (Yx gA) (Ip i g))),(623,.tbl gA 3 (a.2.2.map Qu))] (.tup [.I j.1,.I j.2.1,.b j.2.2]),8] Z (@Qes gA _ _ _ _ p) (Qf.delete (e:=V.I) (f:=(Yx gA)) (l:=i) (k:=g) Z Z Z Z Z QsN BC) (@TZ gA _ _ _ _ s)<|R 0 Z)<|X 2 Z) λ⟨O,a0,a1,a2⟩=>gT_ [9,.ren 27 600] Z<|E 0 Z
def PP (f:(L_ (Int×Bool)))(e:Qm)(b:(L_ (O_ Nat)))(c:(L_ (Int×(O_ Nat))))(d:(L_ Qk)):O_ ((Int×(L_ (Int×Bool))×(L_ (O_ Nat))×(L_ (Int×(O_ Nat)))×(L_ Qk))⊕((L_ (O_ Nat))×(L_ (Int×(O_ Nat)))×(L_ Qk))):=Q (y_ ((Qh (a+1)),(YQ UP f e.Id t_),b,c,d))
def Ee (e:(L_ (Int×Bool)))(f:(L_ (O_ Nat)))(g:(L_ (Int×(O_ Nat))))(b:(L_ Qk)):O_ ((Int×(L_ (Int×Bool))×(L_ (O_ Nat))×(L_ (Int×(O_ Nat)))×(L_ Qk))⊕((L_ (O_ Nat))×(L_ (Int×(O_ Nat)))×(L_ Qk))):=cond (c<n.length) (j_ (idx n c) λa=>cond ((!((Xg e a.Id).getD f_))&&(0<a.Until)) (j_ (BG f g a.Id a.Until b) λd=>PP c e a d.2.1 d.2.2.2 d.2.2.1)<|PP c e a f g b)<|Q (i_ (f,g,b))
def Qal:O_ LI_:=j_ (RU f0 f3 a g2) λe=>Q e.1
def HF:O_ LI_:=j_ (QfX) λb=>j_ (Qq (λst=>Ee n st.1 st.2.1 st.2.2.1 st.2.2.2.1 st.2.2.2.2) (0,([]:(L_ (Int×Bool))),([]:L_ (O_ Nat)),b.1,b.2)) (λq=>Qal c q.1 q.2.1 q.2.2)
def Qp4 {gA:Nat->Nat}{u:(L_ Qm)}{c:Int}:CT 132 [.M 11 Qt u,.I c] [] (HF u c) (λr=>(.P 600 r)) (λr=>[(600,.R 1 Qb r)]):=
 W 40 func132 Z<|@λC r=>B λx4 a5=>g2_ [7,.cm (.fn) [] [(9,1),(613,3),(614,612)] [] [] [(1,.map (QO V.I (Yx gA) x4.1)),(3,.var [.Y,.map 1]),(612,.tbl gA 3 (x4.2.map Qu))] (.L 3),6,.O 10 (.map (QO V.I V.b ([]:(L_ (Int×Bool))))),7] Z (@Qp3 gA _  a5) Z<|N 0 Z<|g2_ [4,.adoptO 613 0 618 1,.O 618 (.arr 1 (([]:L_ (O_ Nat)).map (XJ gA))),.O 613 (.var [.own 618 ([]:L_ (O_ Nat)).length,.map 9]),.K [1,5,6,11,12,13] [9,10,613,614,618]] Z Z (congrArg (λn=>Ob.var [.own 618 n,.map 9]) (by simp))<|(λg h=>by
   obtain⟨a6,a1,h⟩:=QI h;refine AK.loop (body:=(λst=>Ee u st.1 st.2.1 st.2.2.1 st.2.2.2.1 st.2.2.2.2)) (λst σ=>∃gA:Nat->Nat,σ=⟨[(1,.I c),(5,.L 613),(6,.map 10),(11,.M 11 Qt u),(12,.I u.length),(13,.I st.1)],[(9,.map (QO V.I (Yx gA) st.2.2.2.1)),(10,.map (QO V.I V.b st.2.1)),(613,.var [.P 618 st.2.2.1,.map 9]),(614,.tbl gA 3 (st.2.2.2.2.map Qu)),(618,.arr 1 (st.2.2.1.map (XJ gA)))]⟩) (λq e σ=>e=.exit 0/\∃gA:Nat->Nat,σ=⟨[(1,.I c),(5,.L 613)],[(9,.map (QO V.I (Yx gA) q.2.1)),(613,.var [.P 618 q.1,.map 9]),(614,.tbl gA 3 (q.2.2.map Qu)),(618,.arr 1 (q.1.map (XJ gA)))]⟩) a1 (ex_ _ rfl) ?_ ?_
   ·rintro ⟨x6,t,l8,m9,a7⟩ o σ ⟨gA,rfl⟩ h;refine tg_ g [6] ?_;rcases Xy h with⟨m,h⟩|⟨m,h⟩
    ·obtain⟨a,a2,h⟩:=QI h;refine YF g [.T,6,.o (.row (Qt a)),.A (Qt a),2,.O 8 (.W Qt a),2] rfl (a4_ m (XE a2) rfl rfl) ?_;refine AK.meet (λσ=>∃gA:Nat->Nat,∃w:(L_ (O_ Nat)),∃y:(L_ (Int×(O_ Nat))),∃a0:(L_ Qk),σ=⟨[(1,.I c),(5,.L 613),(6,.map 10),lk_ 8,(11,.M 11 Qt u),(12,.I u.length),(13,.I x6)],[(8,.W Qt a),(9,.map (QO V.I (Yx gA) y)),(10,.map (QO V.I V.b t)),(613,.var [.P 618 w,.map 9]),(614,.tbl gA 3 (a0.map Qu)),(618,.arr 1 (w.map (XJ gA)))]⟩/\PP x6 t a w y a0=Q o) ?_ ?_
     ·refine tg_ g [1] ?_;refine AK.meetX (λσ=>σ=⟨[(1,.I c),(5,.L 613),(6,.map 10),lk_ 8,(11,.M 11 Qt u),(12,.I u.length),(13,.I x6),(26,.b ((!((Xg t a.Id).getD f_))&&(0<a.Until)))],[(8,.W Qt a),(9,.map (QO V.I (Yx gA) m9)),(10,.map (QO V.I V.b t)),(613,.var [.P 618 l8,.map 9]),(614,.tbl gA 3 (a7.map Qu)),(618,.arr 1 (l8.map (XJ gA)))]⟩) ?_ ?_
      ·refine YF g [4,.o (.any (.b ((Xg t a.Id).getD f_)) n_),2] rfl (a1_ (λσ h1 h2 _=>Qf.lookup (z:=f_) rfl rfl (QP g.n rfl) (h1 _ _ rfl) (h2 _ _ rfl) (h1 _ _ rfl) Qwj BC Qu4 rfl)) ?_;rcases QvS (!((Xg t a.Id).getD f_))with i|i
       ·refine YF g [.S 22 (.b t_),5,.S 26 (.b ((!((Xg t a.Id).getD f_))&&(0<a.Until))),.K [1,5,6,8,11,12,13,26] [8,9,10,613,614,618]] rfl ⟨(tc_ i),(cb_ (Ye i rfl))⟩ ?_;exact mt_
       refine YF g [.S 22 (.b f_),5,.S 26 (.b ((!((Xg t a.Id).getD f_))&&(0<a.Until))),.K [1,5,6,8,11,12,13,26] [8,9,10,613,614,618]] rfl ⟨(tc_ i),(cb_ (YH i rfl))⟩ ?_;exact mt_
      rintro σ rfl;refine tg_ g [1] ?_;rcases Xy h with⟨p,h⟩|⟨p,h⟩
      ·obtain⟨s,a3,h⟩:=QI h;refine YF g [.T,6] rfl (a1_ p) ?_;refine AK.callE (ι:=Nat->Nat) (Φ:=λ_=>True) [(621,613),(619,618),(622,9),(620,614)] [(618,619),(614,620),(613,621),(9,622)] [618,614] [.d,.d,.d] (λgA=>[(619,.arr 1 (s.2.1.map (XJ gA))),(620,.tbl gA 3 (s.2.2.1.map Qu)),(621,.var [.P 619 s.2.1,.map 622]),(622,.map (QO V.I (Yx gA) s.2.2.2))]) (λgA=>.I s.1) (λgA=>_) rfl g (JP.fn rfl (by kernel_rfl) rfl) rfl (QP g.n rfl) rfl rfl (@Qer gA _ _ _ _ _ _ a3) (λgA=>ex_ _ rfl) λgA _=>?_;refine tg_ g [1,.K [1,5,6,8,11,12,13] [8,9,10,613,614,618]] ?_;exact AK.met (ex_ _ (ex_ _ (ex_ _ (ex_ _ (an_ Z h)))))
      refine YF g [.F,1,.K [1,5,6,8,11,12,13] [8,9,10,613,614,618]] rfl (a1_ p) ?_;exact AK.met (ex_ _ (ex_ _ (ex_ _ (ex_ _ (an_ Z h)))))
     rintro σ ⟨gA,w,y,a0,rfl,h⟩;refine YF g [4,.x (λσ=>σ.set 10 (.map (QO V.I V.b (YQ UP t a.Id t_)))),7,.K [1,5,6,11,12,13] [9,10,613,614,618]] rfl (a1_ (Qf.mapUpdate (e:=V.I) (f:=V.b) (l:=t) (k:=a.Id) (v:=t_) UP rfl rfl rfl rfl rfl rfl Qwj BC rfl)) ?_;cases h;exact QBr Z (ex_ _ Z)
    refine YF g [.F,2,.K [1,5] [9,613,614,618]] rfl (a1_ m) ?_;cases h;exact QBs Z (an_ Z (ex_ _ Z))
   obtain⟨a8,a9,b0⟩:=a6;replace h:Qal c a8 a9 b0=Q r:=h;rintro e σ ⟨rfl,gA,rfl⟩;obtain⟨j,a4,h⟩:=QI h;refine YF g [6,.cm (.fn) [(621,613),(619,618),(622,9),(623,614)] [(39,600),(618,619),(613,621),(9,622),(614,623)] [618] [.d,.d] [(600,.R 1 Qb j.1),(619,.arr 1 (j.2.1.map (XJ gA))),(621,.var [.P 619 j.2.1,.map 622]),(622,.map (QO V.I (Yx gA) j.2.2.1)),(623,.tbl gA 3 (j.2.2.2.map Qu))] (.P 600 j.1),4,.K [4] [39],.ren 39 600,.K [4] [600]] rfl (a1_ (@QhF gA _ _ _ _ _ a4)) ?_;exact E 0 Z g h)
def YS:O_ ((Int×QR)⊕((Int×QR)⊕QR)):=cond (j0<f.length) (j_ (idx f j0) λd=>j_ (KR l.now.Items d) λe=>j_ (idx l.now.Items e) λa=>j_ (YA l a) λb=>cond (b.1 != 0) (Q (i_ (y_ (b.1,b.2))))<|Q (y_ ((Qh (j0+1)),b.2)))<|Q (i_ (i_ l))
def Ef:O_ (Int×Qz×QR):=cond (l.now.Now==1099511627776) (Q (1,(Qz.mk 0 0 ([]:LI_)),l))<|j_ (HF l.now.Items (Qh (l.now.Now+1))) λb=>j_ (Qq (λst=>YS b st.1 st.2) (0,(QR.mk l.net (QF.mk l.now.M l.now.Items l.now.Next (Qh (l.now.Now+1))) l.call))) (Sum.elim (λq=>Q (q.1,(Qz.mk 0 0 ([]:LI_)),q.2)) (λq=>Q (0,(Qz.mk 0 0 b),q)))
def Qgx {l}:CT 74 [.L 621] [(621,.W QZ l)] (Ef l) (λr=>(.tup [.G QM r.2.1,.I r.1])) (λr=>[(621,.W QZ r.2.2)]):=
 W 64 func74 Z<|I 17 Z (G [2,.v .no [n_,n_,Q 1] (.agg (QM (Qz.mk 0 0 ([]:LI_)))),6] Z Z<|E 0 Z)<|B λi j=>D 17 Z (dz_ [(10,.B (.co f_ [.d,.d] 1 (i.map Qb) i.length)),(0,.N)]) [] [] [0,2,4] [2,34,621] Z Z (a1_ ⟨(@Qp4 (λ_=>0) _ _ _ j),Qx,.inl Z⟩) Z<|F 10 [0,2,4,35,36] [2,34] (λst=>([(37,.I st.1)],[(621,.W QZ st.2)])) [2] [] (λq=>(.ret,([(3,.I q.1)],[(2,.var (QM (Qz.mk 0 0 ([]:LI_)))),(621,.W QZ q.2)]))) [2,4] [2,34] (λq=>(.exit 0,([],[(621,.W QZ q)]))) Z (λ⟨o,p⟩=>I 6 Z (vA_ 7 Qb Z λs=>B λk b=>B λe f=>B λg h=>D 4 Z [.N,.N,.N,.N,.N,.N,.N,.N,.N,.N,.N,.N,.B (.C2 (.I k)),.B (.row (Qt e)),.E (.G Qt e),.m (.cm (.fn) [(621,621)] [(621,621)] [] [.d,.d,.d] [(621,.W QZ g.2)] (.I g.1) []),.N] [] [] [0,2,4,7,35,36,37] [2,34,621] Z Z (a4_ (QeO _ b) (XE f) Z (a1_ (Cr _ h))) Z<|I 7 Z (G [2,.v .no [n_,n_,Q 1] (.agg (QM (Qz.mk 0 0 ([]:LI_)))),8] Z Z<|L 0 Z)<|R 7 Z)<|X 2 Z) (λ⟨t,u⟩=>E 2 Z) (λw=>G [11,.frz 34 (i.map Qb) [] [2]] Z (a1_ ⟨(Kf Qx),U⟩)<|E 0 Z)
def IL (f:Unit):O_ (QF×Qz):=j_ (Ux b i) λc=>cond (!c) (j_ (YN i) λd=>Q (d,(Qz.mk 1 0 ([]:LI_))))<|j_ (WD (QR.mk b l3 m0)) λa=>cond (a.1 != 0) (j_ (YN i) λe=>Q (e,(Qz.mk a.1 0 ([]:LI_))))<|Q (a.2.2.now,a.2.1)
def IM (f:Unit):O_ (QF×Qz):=j_ (Ux b i) λc=>cond (!c) (j_ (YN i) λd=>Q (d,(Qz.mk 1 0 ([]:LI_))))<|j_ (Gm (QR.mk b l3 m0)) λa=>cond (a.1 != 0) (j_ (YN i) λe=>Q (e,(Qz.mk a.1 0 ([]:LI_))))<|Q (a.2.2.now,a.2.1)
def IN (f:Unit):O_ (QF×Qz):=j_ (Ux b i) λc=>cond (!c) (j_ (YN i) λd=>Q (d,(Qz.mk 1 0 ([]:LI_))))<|j_ (DE (QR.mk b l3 m0)) λa=>cond (a.1 != 0) (j_ (YN i) λe=>Q (e,(Qz.mk a.1 0 ([]:LI_))))<|Q (a.2.2.now,a.2.1)
def IP (f:Unit):O_ (QF×Qz):=j_ (Ux b i) λc=>cond (!c) (j_ (YN i) λd=>Q (d,(Qz.mk 1 0 ([]:LI_))))<|j_ (Ef (QR.mk b l3 m0)) λa=>cond (a.1 != 0) (j_ (YN i) λe=>Q (e,(Qz.mk a.1 0 ([]:LI_))))<|Q (a.2.2.now,a.2.1)
def IQ (c:Unit):O_ (QF×Qz):=j_ (YN i) λa=>Q (a,(Qz.mk 1 0 ([]:LI_)))
def Nd:O_ (QF×Qz):=j_ (YN i) λd=>j_ (FY (QR.mk b d m0)) (Sum.elim (λq=>IL b i d m0 q) (Sum.elim (λq=>IM b i d m0 q) (Sum.elim (λq=>IN b i d m0 q) (Sum.elim (λq=>IP b i d m0 q) (λq=>IQ i q)))))
def Qp5 {h w i}:CT 24 [.G Qi h,.G Xw w,.G Jl i] [] (Nd h w i) (λr=>(.tup [.G Xw r.1,.G QM r.2])) no_:=
 W 47 func24 Z<|B λj l=>D 10 Z (dz_ [(2,.B (.C1 (.G Xw j))),(3,.N)]) [] [] [3,4,6,7,8] [3,4,6,7,17] Z Z (a1_ (Jm _ l)) Z<|gP_ 4 Z<|s5_ (λx e=>K [.cm (.fn) [(621,17)] [(17,621)] [] [.d] [(621,.var (QZ (QR.mk h j i)))] (.clo (.func 72) [.L 621] []),7,.o (.any (.b f_) n_),3] Z (λg=>(a2_ (Ec _ e) (λc f k _=>Qf.eqFn Z Z (QP g.n Z) (f _ _ Z) (f _ _ Z) Qi7)))<|A 0 HS Z λy=>I 4 Z (A 3 Jm Z λz=>G [.v .no [n_,n_,Q 1] (.agg (QM (Qz.mk 1 0 ([]:LI_)))),6] Z Z<|E 0 Z)<|S 5 .clo [(621,17)] Qcz Z λp=>I 15 Z (A 3 Jm Z λC=>G [1,.v .no [n_,n_,Q 1] (.agg (QM (Qz.mk p.1 0 ([]:LI_)))),6] Z Z<|E 0 Z)<|D 3 Z (dz_ [(4,.a .no n_ t_),(0,.m .s),(0,.m .s)]) [6,7,8,10] [7,10,17] [6,7] [6,7] Z Z U Z<|E 2 Z) (λO e=>K [.cm (.fn) [(621,17)] [(17,621)] [] [.d] [(621,.var (QZ (QR.mk h j i)))] (.clo (.func 71) [.L 621] []),7,.o (.any (.b f_) n_),3] Z (λg=>(a2_ (Ec _ e) (λc f k _=>Qf.eqFn Z Z (QP g.n Z) (f _ _ Z) (f _ _ Z) Qi7)))<|A 0 HS Z λa0=>I 4 Z (A 3 Jm Z λa1=>G [.v .no [n_,n_,Q 1] (.agg (QM (Qz.mk 1 0 ([]:LI_)))),6] Z Z<|E 0 Z)<|S 5 .clo [(621,17)] QfW Z λq=>I 15 Z (A 3 Jm Z λa2=>G [1,.v .no [n_,n_,Q 1] (.agg (QM (Qz.mk q.1 0 ([]:LI_)))),6] Z Z<|E 0 Z)<|D 3 Z (dz_ [(4,.a .no n_ t_),(0,.m .s),(0,.m .s)]) [6,7,8,10] [7,10,17] [6,7] [6,7] Z Z U Z<|E 2 Z) (λa3 e=>K [.cm (.fn) [(621,17)] [(17,621)] [] [.d] [(621,.var (QZ (QR.mk h j i)))] (.clo (.func 73) [.L 621] []),7,.o (.any (.b f_) n_),3] Z (λg=>(a2_ (Ec _ e) (λc f k _=>Qf.eqFn Z Z (QP g.n Z) (f _ _ Z) (f _ _ Z) Qi7)))<|A 0 HS Z λa4=>I 4 Z (A 3 Jm Z λa5=>G [.v .no [n_,n_,Q 1] (.agg (QM (Qz.mk 1 0 ([]:LI_)))),6] Z Z<|E 0 Z)<|S 5 .clo [(621,17)] Qep Z λt=>I 15 Z (A 3 Jm Z λa6=>G [1,.v .no [n_,n_,Q 1] (.agg (QM (Qz.mk t.1 0 ([]:LI_)))),6] Z Z<|E 0 Z)<|D 3 Z (dz_ [(4,.a .no n_ t_),(0,.m .s),(0,.m .s)]) [6,7,8,10] [7,10,17] [6,7] [6,7] Z Z U Z<|E 2 Z) (λa7 e=>K [.cm (.fn) [(621,17)] [(17,621)] [] [.d] [(621,.var (QZ (QR.mk h j i)))] (.clo (.func 74) [.L 621] []),7,.o (.any (.b f_) n_),3] Z (λg=>(a2_ (Ec _ e) (λc f k _=>Qf.eqFn Z Z (QP g.n Z) (f _ _ Z) (f _ _ Z) Qi7)))<|A 0 HS Z λa8=>I 4 Z (A 3 Jm Z λa9=>G [.v .no [n_,n_,Q 1] (.agg (QM (Qz.mk 1 0 ([]:LI_)))),6] Z Z<|E 0 Z)<|S 5 .clo [(621,17)] Qgx Z λu=>I 15 Z (A 3 Jm Z λb0=>G [1,.v .no [n_,n_,Q 1] (.agg (QM (Qz.mk u.1 0 ([]:LI_)))),6] Z Z<|E 0 Z)<|D 3 Z (dz_ [(4,.a .no n_ t_),(0,.m .s),(0,.m .s)]) [6,7,8,10] [7,10,17] [6,7] [6,7] Z Z U Z<|E 2 Z) λb1 e=>K [.cm (.fn) [(621,17)] [(17,621)] [] [.d] [(621,.var (QZ (QR.mk h j i)))] (.lit (.nilFunc)),7,.o (.any (.b t_) n_),12] Z (λg=>(a2_ (Ec _ e) (λc f k _=>Qf.eqFn0 Z Z (QP g.n Z) (f _ _ Z) (f _ _ Z) Qi7)))<|A 0 Jm Z λb2=>G [.v .no [n_,n_,Q 1] (.agg (QM (Qz.mk 1 0 ([]:LI_)))),6] Z Z<|E 0 Z
def WO (e:(L_ Xt))(g:Qc)(c:Int)(f:QF)(a:(L_ Qz)):O_ ((Int×QF×(L_ Qz))⊕(QF×(L_ Qz))):=cond (c<e.length) (j_ (idx e c) λd=>j_ (Nd g f d) λb=>j_ (chk (a.length+([b.2]:L_ Qz).length<=4294967296)) λ_=>Q (y_ ((Qh (c+1)),b.1,(a++([b.2]:L_ Qz)))))<|Q (i_ (f,a))
def IR (c:(L_ Xt)):O_ ((L_ Qz)×QF):=j_ (YN i) λd=>j_ (Qq (λst=>WO c b st.1 st.2.1 st.2.2) (0,d,([]:L_ Qz))) (λq=>Q (q.2,q.1))
def VY {a b c}:CT 8 [.G Qi a,.G Xw b,.M 7 Jl c] [] (IR a b c) (λr=>(.tup [.G Xw r.2,.M 3 QM r.1])) no_:=
 W 34 func8 Z<|A 11 Jm Z λi=>N 12 Z<|aD_ 4 8 27 3 Z<|lA_ 0 [3,4,6,14,15] [3,6] (λst=>([(8,.P 27 st.2.2),(16,.I st.1)],[(4,.W Xw st.2.1),(27,.R 3 QM st.2.2)])) [4,6] [6] (λq=>(.exit 0,([(8,.P 27 q.2)],[(4,.W Xw q.1),(27,.R 3 QM q.2)]))) Z (λ⟨j,k,d⟩=>I 6 Z (J 6 Z λe=>A 15 Qp5 Z λf=>pA_ 10 3 QM Z<|R 8 Z)<|X 2 Z) λ⟨g,h⟩=>zF_ 11 27 [7] [] Z<|E 0 Z
def He:O_ (Int⊕(Unit⊕Unit)):=cond (q<f.length) (j_ (idx f q) λe=>j_ (idx d2 q) λb=>cond (e != b) (Q (i_ (y_ ())))<|Q (y_ (Qh (q+1))))<|Q (i_ (i_ ()))
def QeU : O_ Bool:=Q f_
def QeV : O_ Bool:=Q t_
def Di:O_ Bool:=cond ((f.length:Int)!=d2.length) (Q f_)<|j_ (Qq (λst=>He f d2 st) 0) (Sum.elim (λq=>QeU) (λq=>QeV))
def EJ {f g}:CT 15 [.M 1 Qb f,.M 1 Qb g] [] (Di f g) V.b no_:=
 W 26 func15 Z<|N 9 Z<|N 1 Z<|I 3 Z (E 7 Z)<|F 9 [0,1] [] (λst=>([(5,.I st)],[])) [] [] (λq=>(.ret,([(4,.b f_)],[]))) [] [] (λq=>(.exit 0,([],[]))) Z (λi=>N 5 Z<|I 3 Z (B λh d=>B λe c=>D 5 Z (dz_ [(2,.B (.row (Qb h))),(3,.B (.row (Qb e))),(1,.N)]) [] [] [0,1,5,25] [] Z Z (a2_ (XE d) (XE c)) Z<|I 1 Z (L 8 Z)<|R 8 Z)<|X 2 Z) (λ_=>E 2 Z) (λ_=>E 8 Z)
noncomputable def UA (O:Int)(h:Int):O_ (Int⊕Empty):=Q (y_ (Qh (a+h)))
def Qam:O_ Int:=Q a
noncomputable def Qan:O_ Int:=j_ (MF (λst p=>UA st p.1 p.2) 0 g) (Sum.elim (λq=>Qam q) (λq=>Empty.elim q))
def Nf:O_ Int:=j_ (Ti g) (Sum.elim (λq=>Q 0) (λq=>Qan q))
def Qao {y}:CT 56 [.M 2 QB y] [] (Nf y) V.I no_:=
 W 23 func56 Z<|@λC r=>gP_ 8 Z<|s2_ (λa5 c=>K [.cm (.fn) [] [] [] [.d] [] (.tup [.lit (.map n_),.b f_]),16,.x (λσ=>(σ.set 14 .itr0).put 14 (.L 14)),3] Z (λa=>(a2_ (BT _ c) (Qf.range0 Z Z (QP a.n Z) Z Aa Z)))<|λa h=>AK.loopOnce<|QfP a h<|K [2,.x (λσ=>σ.put 15 (.tup [.b f_])),17] Z (λa=>(a1_ (Qf.next0 Z Z (QP a.n Z) Z Z)))<|E 0 Z) λz c=>G [.cm (.fn) [] [(10,601)] [] [.d] [(601,.map (QO V.I V.I z))] (.tup [.map 601,.b t_]),16] Z (BT _ c)<|λa h=>AK.openMap (b:=10) BC Z λg i L7 k l=>QfP a h<|K [.x (λσ=>(σ.set 14 (.itr g i #[] n_)).put 14 (.L 14)),3,.K [5,14] [10,14]] Z (λa=>(a1_ (Qf.range (b:=10) Z Z (QP a.n Z) Z Z Aa Z)))<|B λv s=>(λa h=>by
   refine AK.range (body:=(λst p=>UA st p.1 p.2)) (λst seen σ=>∃cur:O_ Nat,σ=⟨[(5,.I st),lk_ 14],[(10,.mapX g i (Nn V.I V.I L7) (QO V.I V.I z)),(14,.itr g i seen cur)]⟩) (λ(q:Empty) _ _=>False) (λst e σ=>e=.exit 0/\σ=⟨[(5,.I st)],[]⟩) k l s (ex_ _ rfl) ?_ ?_
   ·rintro w seen σ ⟨cur,rfl⟩ hex;refine tg_ a [2] ?_;refine AK.nextT (b:=14) (m:=10) rfl rfl rfl (QP a.n rfl) rfl rfl rfl rfl ?_ ?_
    ·intro hleft;refine tg_ a [7,.K [5] []] ?_;exact AK.done (Or.inl (an_ hleft (an_ (λh=>(by cases h)) (an_ Z Z))))
    intro O t u j;obtain⟨o,h⟩:=hex _ j;have ho:=h;replace h:UA w t u=Q o:=h;refine YF a [10,.x (λσ=>σ.put 17 (.tup [.I t,.I u])),11,.K [5,14] [10,14]] rfl (a1_ (Qf.entryT (b:=14) (m:=10) (e:=V.I) (f:=V.I) rfl rfl (QP a.n rfl) rfl j rfl rfl)) ?_;cases h;exact AK.done (Or.inr (ex_ _ (an_ j (Or.inl (ex_ _ (an_ ho (an_ Z (ex_ _ Z))))))))
   rcases v with(w|q)
   ·replace h:Qam w=Q r:=h;unfold Qam at h;rintro e σ ⟨rfl,rfl⟩;refine tg_ a [9,.K [2] []] ?_;exact E 0 Z a h
   exact q.elim)
def Qjj:O_ Bool:=j_ (cond (0<=b.To) (cond (b.To<(e.length:Int)) (j_ (idx e b.To) λa=>j_ (Nf a) λf=>Q (decide (0<f)))<|Q f_)<|Q f_) (λc=>Q c)
def Qoh {a c}:CT 55 [.G Qi a,.M 1 Qj c] [] (Qjj a c) V.b no_:=
 W 24 func55 Z<|mV_ 7 [] [] (λd=>([(4,.b d)],[])) Z (I 5 Z (N 3 Z<|I 3 Z (J 3 Z λe=>A 1 Qao Z λf=>M 4 Z)<|M 10 Z)<|M 17 Z) λd=>E 2 Z
def VZ:O_ (Int⊕(Unit⊕Unit)):=j_ (Nf g) λa=>cond (a != d) (Q (i_ (y_ ())))<|Q (y_ (Qh (c+1)))
def Qjk:O_ Bool:=j_ (cond ((e.length:Int)!=b.Places.length) (Q t_)<|j_ (Qjj b e) λd=>Q (!d)) (λc=>cond c (Q f_)<|j_ (Qq (λf=>cond (f<(e.length:Int)) (j_ (idx e f) λg=>cond (f==b.To) (VZ g f 1)<|VZ g f 0)<|Q (i_ (i_ ()))) 0) (Sum.elim (λh=>Q f_) (λh=>Q t_)))
def Qon {e f}:CT 29 [.G Qi e,.M 1 Qj f] [] (Qjk e f) V.b no_:=
 W 36 func29 Z<|mV_ 8 [1,2] [2] (λg=>([(19,.b g)],[])) Z (N 2 Z<|N 2 Z<|I 2 Z (M 6 Z)<|A 2 Qoh Z λi=>M 3 Z) λg=>I 1 Z (E 7 Z)<|N 6 Z<|F 4 [2,20,21] [2] (λst=>([(22,.I st)],[])) [] [] (λq=>(.ret,([(4,.b f_)],[]))) [] [] (λq=>(.exit 0,([],[]))) Z (λc=>I 6 Z (J 7 Z λd=>mE_ 10 [2,6,20,21,22] [2] (λa:Int=>([(7,.I a)],[])) (λa=>VZ d c a) Z (I 8 Z (P 3 Z Z)<|P 1 Z Z) λa=>A 3 Qao Z λh=>I 4 Z (L 8 Z)<|R 7 Z)<|X 2 Z) (λ_=>E 2 Z) (λ_=>E 8 Z)
def QbN:O_ Bool:=j_ (j_ (Qjk b i.M) λd=>cond d (Q ((i.Items.length:Int)==0))<|Q f_) (λc=>Q c)
def QdB {a c}:CT 16 [.G Qi a,.G Xw c] [] (QbN a c) V.b no_:=
 W 15 func16 Z<|mV_ 8 [] [] (λd=>([(4,.b d)],[])) Z (A 4 Qon Z λe=>I 1 Z (N 2 Z<|M 4 Z)<|M 7 Z) λd=>E 2 Z
def IS:O_ Bool:=cond ((g.length:Int)!=l0.length) (Q f_)<|j_ (Qq (λst=>cond (st<(g.length:Int)) (j_ (idx g st) λf=>j_ (idx l0 st) λa=>cond (!((f.1==a.1)&&(f.2==a.2))) (Q (i_ (y_ ())))<|Q (y_ (Qh (st+1))))<|Q (i_ (i_ ()))) 0) (Sum.elim (λq=>Q f_) (λq=>Q t_))
def Vh {g h}:CT 58 [.M 2 QB g,.M 2 QB h] [] (IS g h) V.b no_:=
 W 26 func58 Z<|N 9 Z<|N 1 Z<|I 3 Z (E 7 Z)<|N 6 Z<|F 4 [0,1,12] [] (λst=>([(13,.I st)],[])) [] [] (λq=>(.ret,([(4,.b f_)],[]))) [] [] (λq=>(.exit 0,([],[]))) Z (λk=>I 6 Z (B λe f=>B λc d=>Us 11 Z [.N,.N,.B (.row (QB e)),.N,.N,.N,.B (.row (QB c)),.N,.B (.any (.b (!((e.1==c.1)&&(e.2==c.2)))) n_)] [] [] [0,1,12,13,24] [] Z Z (λj=>(a3_ (XE f) (XE d) (λz i l _=>Qf.neAgg Z Z (QP j.n Z) (i _ _ Z) (i _ _ Z) Z Z (QyD _ _ _ _)))) Z<|I 1 Z (L 8 Z)<|R 7 Z)<|X 2 Z) (λ_=>E 2 Z) (λ_=>E 8 Z)
def Qoo:O_ Bool:=j_ (j_ (Gr g) λf=>cond f (j_ (Gr l0) λa=>cond a (j_ (IS g l0) λh=>Q h)<|Q f_)<|Q f_) (λc=>Q c)
def QrU {a c}:CT 31 [.M 2 QB a,.M 2 QB c] [] (Qoo a c) V.b no_:=
 W 16 func31 Z<|mV_ 6 [] [] (λd=>([(4,.b d)],[])) Z (A 2 BY Z λf=>I 1 Z (A 1 BY Z λg=>I 2 Z (A 2 Vh Z λe=>M 3 Z)<|M 6 Z)<|M 10 Z) λd=>E 2 Z
def Kg:O_ Bool:=cond ((e.length:Int)!=d1.length) (Q f_)<|j_ (Qq (λst=>cond (st<(e.length:Int)) (j_ (idx e st) λg=>j_ (idx d1 st) λh=>j_ (Qoo g h) λi=>cond (!i) (Q (i_ (y_ ())))<|Q (y_ (Qh (st+1))))<|Q (i_ (i_ ()))) 0) (Sum.elim (λq=>Q f_) (λq=>Q t_))
def GT {a c}:CT 30 [.M 1 Qj a,.M 1 Qj c,.clo (.func 31) [] []] [] (Kg a c) V.b no_:=
 W 32 func30 Z<|N 9 Z<|N 1 Z<|I 3 Z (E 7 Z)<|N 6 Z<|F 4 [1,2,15,16] [] (λst=>([(17,.I st)],[])) [] [] (λq=>(.ret,([(6,.b f_)],[]))) [] [] (λq=>(.exit 0,([],[]))) Z (λf=>I 6 Z (J 7 Z λg=>J 9 Z λd=>A 9 QrU Z λe=>I 3 Z (L 8 Z)<|R 7 Z)<|X 2 Z) (λ_=>E 2 Z) (λ_=>E 8 Z)
def Qlx:O_ Bool:=j_ (Kg e d1) λc=>Q c
def Qp7 {a c}:CT 17 [.M 1 Qj a,.M 1 Qj c] [] (Qlx a c) V.b no_:=
 W 8 func17 Z<|S 9 .fn [] GT Z λd=>E 4 Z
def UB (c:(L_ Qd))(d:QBg):O_ ((Bool×Int×(L_ Qd)×QBg)⊕(Bool×(L_ Qd))):=Q (y_ (m,(Qh (a+1)),c,d))
def Cy (d:(L_ Qd))(e:Int)(a:Bool)(b:QBg):O_ ((Bool×Int×(L_ Qd)×QBg)⊕(Bool×(L_ Qd))):=cond (((Xg b r.Task).getD 0)==1) (j_ (chk (d.length+([r]:L_ Qd).length<=4294967296)) λ_=>UB e a (d++([r]:L_ Qd)) b)<|cond (((Xg b r.Task).getD 0)==2) (UB e f_ d b)<|UB e a d b
def TB (h:(L_ Qd))(i:Qc)(j:QMk)(b:Int)(a:Bool)(d:Int)(e:(L_ Qd))(f:QBg):O_ ((Bool×Int×(L_ Qd)×QBg)⊕(Bool×(L_ Qd))):=cond (d<h.length) (j_ (idx h d) λc=>cond (!(Xg f c.Task).isSome) (j_ (WF i j c b) λg=>Cy c e d a (YQ UP f c.Task g))<|Cy c e d a f)<|Q (i_ (a,e))
def AY:O_ ((L_ Qd)×Bool):=j_ (Hd b e s) λa=>j_ (Qq (λst=>TB a b e d st.1 st.2.1 st.2.2.1 st.2.2.2) (t_,0,([]:L_ Qd),([]:QBg))) (λq=>Q (q.2,q.1))
def QdC {n1 m2 h j}:CT 32 [.G Qi n1,.M 1 Qj m2,.I h,.I j] [] (AY n1 m2 h j) (λr=>(.tup [.M 4 Qy r.1,.b r.2])) no_:=
 W 59 func32 Z<|oC_ 29 [.d,.d,.d] Qia Z λx7=>aD_ 5 10 50 4 Z<|lA_ 0 [1,2,4,12,21,22] [4,21] (λst=>([(10,.P 50 st.2.2.1),(11,.b st.1),(23,.I st.2.1)],[(17,.map (QO V.I V.I st.2.2.2)),(50,.R 4 Qy st.2.2.1)])) [] [] (λq=>(.exit 0,([(10,.P 50 q.2),(11,.b q.1)],[(50,.R 4 Qy q.2)]))) Z (λ⟨p,C,a2,s⟩=>I 6 Z (QAh 2 [1,2,4,12,21,22,23] [4,21] (λ(g:Bool) (t:(L_ Qd)) (w:QBg)=>([(10,.P 50 t),(11,.b g)],[(17,.map (QO V.I V.I w)),(50,.R 4 Qy t)])) (λg t w=>UB C g t w) Z (vA_ 4 Qy Z λi=>mE_ 4 [1,2,4,10,11,12,14,21,22,23] [4,14,21,50] (λu:QBg=>([],[(17,.map (QO V.I V.I u))])) (λu=>Cy i a2 C p u) Z (K [5,.o (.any (.tup [.I ((Xg s i.Task).getD 0),.b (Xg s i.Task).isSome]) n_),13] Z (λhC=>(a1_ (λc x O _=>Qf.lookupOk (e:=V.I) (f:=V.I) (l:=s) (k:=i.Task) (z:=0) Z Z (QP hC.n Z) (x _ _ Z) (O _ _ Z) (x _ _ Z) QsM BC QfO Z Z)))<|I 0 Z (B λy a0=>D 0 Z [.N,.N,.N,.E (.G Qi n1),.N,.E (.G Qy i),.N,.B (.C4 (.I y)),.m (.any ⟨[],[(17,.map (QO V.I V.I (YQ UP s i.Task y)))],n_⟩)] [] [] [1,2,4,10,11,12,14,21,22,23] [4,14,17,21,50] Z Z (a4_ Z Z (Qb5 _ a0) (λc x O=>Qf.mapUpdate (e:=V.I) (f:=V.I) (l:=s) (k:=i.Task) (v:=y) UP Z Z (x _ _ Z) (O _ _ Z) (x _ _ Z) (x _ _ Z) QsM BC Z)) Z<|P 0 Z Z)<|P 1 Z Z) λu=>K [5,.o (.any (.I ((Xg u i.Task).getD 0)) n_),9] Z (λhC=>(a1_ (λc x O _=>Qf.lookup (z:=0) Z Z (QP hC.n Z) (x _ _ Z) (O _ _ Z) (x _ _ Z) QsM BC QfO Z)))<|I 0 Z (pA_ 3 4 Qy Z<|QsO 4 Z Z)<|I 6 Z (QsO 5 Z Z)<|QsO 3 Z Z) λg t w=>R 4 Z)<|X 2 Z) λ⟨a1,a3⟩=>zF_ 11 50 [8] [] Z<|E 0 Z
def QeW:O_ (L_ Qd):=j_ (AY b i.M 64 o) λd=>Q d.1
def Qjl {b c a}:CT 18 [.G Qi b,.G Xw c,.I a] [] (QeW b c a) (λr=>(.M 4 Qy r)) no_:=
 W 18 func18 Z<|A 13 QdC Z λd=>E 14 Z
end Go.Proofs
