/- Walks through the program. -/
import Derived.Test.YtopbdpofkfimkaaGreatDoorS2V3
import Derived.Test.YtopbdpofkfimkaaGreatDoorS2V3
import Derived.Test.YtopbdpofkfimkaaGreatDoorS2V3
import Derived.Test.YtopbdpofkfimkaaGreatDoorProg
set_option linter.all false
set_option maxRecDepth 100000
set_option maxHeartbeats 4000000
noncomputable section
namespace Go.Proofs
open Go Go.RowKit Go.Vm Go.Proofs.Tryz
structure Qj where
 Name:ByteArray
 Kind:Int
 Lo:Int
 Hi:Int
 Names:(List ByteArray)
 First:Int
 Then:Int
structure Qp where
 Name:ByteArray
 Colour:Int
 First:(List (Int×Int))
structure XB where
 Name:ByteArray
 Colour:Int
structure Qo where
 Kind:Int
 Num:Int
 Kids:(List Qo)
structure Xf where
 Place:Int
 Expr:Qo
structure Qm where
 Name:ByteArray
 Vars:(List XB)
 Guard:Qo
 Join:Int
 Split:Int
 Ins:(List Xf)
 Outs:(List Xf)
 Cancel:(List Int)
 After:Int
 Many:(Int×Int×Int)
structure Qg where
 Colours:(List Qj)
 Places:(List Qp)
 Tasks:(List Qm)
 From:Int
 To:Int
structure Qv where
 Kind:Int
 Text:ByteArray
 At:Int
structure Yh where
 s:ByteArray
 at_:Int
structure Zs where
 Kind:Int
 At:Int
structure Ke where
 all:(List Qj)
 sizes:(List Int)
 k:Int
structure Qq where
 Task:Int
 Vars:(List Int)
 Ins:(List Int)
 Outs:(List Int)
structure Jw where
 Most:Int
 Enough:Int
 Open:Int
 Done:Int
 Failed:Int
structure QW where
 Id:Int
 Mode:Qq
 Batch:Jw
 Until:Int
structure YT where
 M:(List (List (Int×Int)))
 Items:(List QW)
 Next:Int
 Now:Int
structure QfI where
 Err:Int
 At:Int
 Calls:Int
 Crashes:Int
 Case:YT
 Over:Bool
 Told:Int
structure Qu where
 place:Int
 data:(List Int)
structure Yo where
 slot:Int
 long:Int
 used:Int
 turn:Int
structure Ij where
 inside:Int
 outside:Int
 n:Int
structure Hq where
 Do:Int
 Id:Int
 Mode:Qq
 Num:Int
structure Gp where
 Err:Int
 Id:Int
 Closed:(List Int)
structure Xx where
 net:Qg
 m:(List (List (Int×Int)))
 task:Qm
 env:(List Int)
structure Yb where
 net:Qg
 now:YT
 call:Hq
structure XT where
 Told:Int
 Clause:Int
 Task:Int
 Trace:(List Qq)
structure Xj where
 From:Int
 To:Int
 Mode:Qq
structure QN where
 States:(List (List (List (Int×Int))))
 Edges:(List Xj)
 Full:Bool
structure Xk where
 net:Qg
 space:QN
structure QF where
 state:Int
 far:Int
def QG (x:ByteArray):L_ V:=[.s x]
def Qa (x:Int):L_ V:=[.i .i64 x]
def QuY (l:L_ Int):∀r∈l.map Qa,∀v∈r,v.sca=true:=QxB (λ_=>rfl) l
def QuZ (x:(L_ ByteArray)):L_ V:=[.sl 1 (x.map QG)]
def Qc (x:Qj):L_ V:=[.s x.Name,.i .i64 x.Kind,.i .i64 x.Lo,.i .i64 x.Hi,.sl 1 (x.Names.map QG),.i .i64 x.First,.i .i64 x.Then]
def QiP (x:(L_ Qj)):L_ V:=[.sl 7 (x.map Qc)]
def XS (x:(Int×Int)):L_ V:=[.i .i64 x.1,.i .i64 x.2]
def Qs (x:(L_ (Int×Int))):L_ V:=[.sl 2 (x.map XS)]
def Qd (x:Qp):L_ V:=[.s x.Name,.i .i64 x.Colour,.sl 2 (x.First.map XS)]
def QlC (x:(L_ Qp)):L_ V:=[.sl 3 (x.map Qd)]
def Xa (x:XB):L_ V:=[.s x.Name,.i .i64 x.Colour]
def US (x:(L_ XB)):L_ V:=[.sl 2 (x.map Xa)]
mutual
def Qhg : Qo->L_ V
 |⟨h,O,x2⟩=>[.i .i64 h,.i .i64 O,.sl 3 (QS x2)]
def QS : L_ Qo->L_ (L_ V)
 |[]=>[]|e::es=>Qhg e::QS es
end
def QM (x:Qo):L_ V:=[.i .i64 x.Kind,.i .i64 x.Num,.sl 3 (QS x.Kids)]
def QqX : ∀x:Qo,Qhg x=QM x
 |⟨h,O,x2⟩=>by rw[Qhg];rfl
def KD : ∀l:L_ Qo,QS l=l.map QM
 |[]=>by rw[QS];rfl|e::es=>by rw[QS,KD es,QqX];rfl
def Ge (l:L_ Qo):(QS l).length=l.length:=by rw[KD,KO]
def Ed {l:L_ Qo}{j:Int}{x:Qo}(h:idx l j=some x):0<=j/\(QS l)[j.toNat]? = some (QM x):=by rw[KD];exact KJ h
def Qno {l:L_ Qo}{i:Nat}{x:Qo}(h:l[i]? = some x):(QS l)[i]? = some (QM x):=by rw[KD];exact Jf h
def Qt1 {l:L_ Qo}{i:Nat}{x:Qo}{r:L_ V}(h:r=QM x):(QS l).set i r=QS (l.set i x):=by rw[KD,KD,h,List.map_set]
def Qt2 {l:L_ Qo}(h:QS l=[]):l=[]:=by rw[KD]at h;exact List.map_eq_nil_iff.1 h
def Qt3 (l m:L_ Qo):QS l++QS m=QS (l++m):=by simp[KD]
def QC (x:Xf):L_ V:=[.i .i64 x.Place,.i .i64 x.Expr.Kind,.i .i64 x.Expr.Num,.sl 3 (QS x.Expr.Kids)]
def QqB (x:(L_ Xf)):L_ V:=[.sl 4 (x.map QC)]
def XL (x:(L_ Int)):L_ V:=[.sl 1 (x.map Qa)]
def Qkj (x:(Int×Int×Int)):L_ V:=[.i .i64 x.1,.i .i64 x.2.1,.i .i64 x.2.2]
def Qb (x:Qm):L_ V:=[.s x.Name,.sl 2 (x.Vars.map Xa),.i .i64 x.Guard.Kind,.i .i64 x.Guard.Num,.sl 3 (QS x.Guard.Kids),.i .i64 x.Join,.i .i64 x.Split,.sl 4 (x.Ins.map QC),.sl 4 (x.Outs.map QC),.sl 1 (x.Cancel.map Qa),.i .i64 x.After,.i .i64 x.Many.1,.i .i64 x.Many.2.1,.i .i64 x.Many.2.2]
def Qnp (x:(L_ Qm)):L_ V:=[.sl 14 (x.map Qb)]
def Qi (x:Qg):L_ V:=[.sl 7 (x.Colours.map Qc),.sl 3 (x.Places.map Qd),.sl 14 (x.Tasks.map Qb),.i .i64 x.From,.i .i64 x.To]
def Qn (x:Qv):L_ V:=[.i .i64 x.Kind,.s x.Text,.i .i64 x.At]
def JE (x:Yh):L_ V:=[.s x.s,.i .i64 x.at_]
def Qu0 (x:Zs):L_ V:=[.i .i64 x.Kind,.i .i64 x.At]
def Lt (x:Ke):L_ V:=[.sl 7 (x.all.map Qc),.sl 1 (x.sizes.map Qa),.i .i64 x.k]
def Qr (x:Int):L_ V:=[.i .u8 x]
def XR (x:(L_ (L_ (Int×Int)))):L_ V:=[.sl 1 (x.map Qs)]
def QH (x:Qq):L_ V:=[.i .i64 x.Task,.sl 1 (x.Vars.map Qa),.sl 1 (x.Ins.map Qa),.sl 1 (x.Outs.map Qa)]
def KR (x:Jw):L_ V:=[.i .i64 x.Most,.i .i64 x.Enough,.i .i64 x.Open,.i .i64 x.Done,.i .i64 x.Failed]
def QD (x:QW):L_ V:=[.i .i64 x.Id,.i .i64 x.Mode.Task,.sl 1 (x.Mode.Vars.map Qa),.sl 1 (x.Mode.Ins.map Qa),.sl 1 (x.Mode.Outs.map Qa),.i .i64 x.Batch.Most,.i .i64 x.Batch.Enough,.i .i64 x.Batch.Open,.i .i64 x.Batch.Done,.i .i64 x.Batch.Failed,.i .i64 x.Until]
def YX (x:YT):L_ V:=[.sl 1 (x.M.map Qs),.sl 11 (x.Items.map QD),.i .i64 x.Next,.i .i64 x.Now]
def Qs8 (x:QfI):L_ V:=[.i .i64 x.Err,.i .i64 x.At,.i .i64 x.Calls,.i .i64 x.Crashes,.sl 1 (x.Case.M.map Qs),.sl 11 (x.Case.Items.map QD),.i .i64 x.Case.Next,.i .i64 x.Case.Now,.b x.Over,.i .i64 x.Told]
def Qt (x:(L_ Int)):L_ V:=[.i .u8 (x.getD 0 0),.i .u8 (x.getD 1 0),.i .u8 (x.getD 2 0),.i .u8 (x.getD 3 0),.i .u8 (x.getD 4 0),.i .u8 (x.getD 5 0),.i .u8 (x.getD 6 0),.i .u8 (x.getD 7 0),.i .u8 (x.getD 8 0),.i .u8 (x.getD 9 0),.i .u8 (x.getD 10 0),.i .u8 (x.getD 11 0),.i .u8 (x.getD 12 0),.i .u8 (x.getD 13 0),.i .u8 (x.getD 14 0),.i .u8 (x.getD 15 0),.i .u8 (x.getD 16 0),.i .u8 (x.getD 17 0),.i .u8 (x.getD 18 0),.i .u8 (x.getD 19 0),.i .u8 (x.getD 20 0),.i .u8 (x.getD 21 0),.i .u8 (x.getD 22 0),.i .u8 (x.getD 23 0),.i .u8 (x.getD 24 0),.i .u8 (x.getD 25 0),.i .u8 (x.getD 26 0),.i .u8 (x.getD 27 0),.i .u8 (x.getD 28 0),.i .u8 (x.getD 29 0),.i .u8 (x.getD 30 0),.i .u8 (x.getD 31 0)]
def Qe (x:Qu):L_ V:=[.i .i64 x.place,.i .u8 (x.data.getD 0 0),.i .u8 (x.data.getD 1 0),.i .u8 (x.data.getD 2 0),.i .u8 (x.data.getD 3 0),.i .u8 (x.data.getD 4 0),.i .u8 (x.data.getD 5 0),.i .u8 (x.data.getD 6 0),.i .u8 (x.data.getD 7 0),.i .u8 (x.data.getD 8 0),.i .u8 (x.data.getD 9 0),.i .u8 (x.data.getD 10 0),.i .u8 (x.data.getD 11 0),.i .u8 (x.data.getD 12 0),.i .u8 (x.data.getD 13 0),.i .u8 (x.data.getD 14 0),.i .u8 (x.data.getD 15 0),.i .u8 (x.data.getD 16 0),.i .u8 (x.data.getD 17 0),.i .u8 (x.data.getD 18 0),.i .u8 (x.data.getD 19 0),.i .u8 (x.data.getD 20 0),.i .u8 (x.data.getD 21 0),.i .u8 (x.data.getD 22 0),.i .u8 (x.data.getD 23 0),.i .u8 (x.data.getD 24 0),.i .u8 (x.data.getD 25 0),.i .u8 (x.data.getD 26 0),.i .u8 (x.data.getD 27 0),.i .u8 (x.data.getD 28 0),.i .u8 (x.data.getD 29 0),.i .u8 (x.data.getD 30 0),.i .u8 (x.data.getD 31 0)]
def YU (x:Yo):L_ V:=[.i .i64 x.slot,.i .i64 x.long,.i .i64 x.used,.i .i64 x.turn]
def OK (x:Ij):L_ V:=[.i .i64 x.inside,.i .i64 x.outside,.i .i64 x.n]
def QO (x:(L_ Int)):L_ V:=[.sl 1 (x.map Qr)]
def Ki (x:(Int×Int)):L_ V:=[.i .u8 x.1,.i .u8 x.2]
def BE (x:Hq):L_ V:=[.i .i64 x.Do,.i .i64 x.Id,.i .i64 x.Mode.Task,.sl 1 (x.Mode.Vars.map Qa),.sl 1 (x.Mode.Ins.map Qa),.sl 1 (x.Mode.Outs.map Qa),.i .i64 x.Num]
def DS (x:Gp):L_ V:=[.i .i64 x.Err,.i .i64 x.Id,.sl 1 (x.Closed.map Qa)]
def JM (x:(L_ (L_ Int))):L_ V:=[.sl 1 (x.map XL)]
def Jp (x:Xx):L_ V:=[.sl 7 (x.net.Colours.map Qc),.sl 3 (x.net.Places.map Qd),.sl 14 (x.net.Tasks.map Qb),.i .i64 x.net.From,.i .i64 x.net.To,.sl 1 (x.m.map Qs),.s x.task.Name,.sl 2 (x.task.Vars.map Xa),.i .i64 x.task.Guard.Kind,.i .i64 x.task.Guard.Num,.sl 3 (QS x.task.Guard.Kids),.i .i64 x.task.Join,.i .i64 x.task.Split,.sl 4 (x.task.Ins.map QC),.sl 4 (x.task.Outs.map QC),.sl 1 (x.task.Cancel.map Qa),.i .i64 x.task.After,.i .i64 x.task.Many.1,.i .i64 x.task.Many.2.1,.i .i64 x.task.Many.2.2,.sl 1 (x.env.map Qa)]
def Qt4 (x:(L_ Qq)):L_ V:=[.sl 4 (x.map QH)]
def XY (x:Yb):L_ V:=[.sl 7 (x.net.Colours.map Qc),.sl 3 (x.net.Places.map Qd),.sl 14 (x.net.Tasks.map Qb),.i .i64 x.net.From,.i .i64 x.net.To,.sl 1 (x.now.M.map Qs),.sl 11 (x.now.Items.map QD),.i .i64 x.now.Next,.i .i64 x.now.Now,.i .i64 x.call.Do,.i .i64 x.call.Id,.i .i64 x.call.Mode.Task,.sl 1 (x.call.Mode.Vars.map Qa),.sl 1 (x.call.Mode.Ins.map Qa),.sl 1 (x.call.Mode.Outs.map Qa),.i .i64 x.call.Num]
def JD (x:XT):L_ V:=[.i .i64 x.Told,.i .i64 x.Clause,.i .i64 x.Task,.sl 4 (x.Trace.map QH)]
def YO (x:Xj):L_ V:=[.i .i64 x.From,.i .i64 x.To,.i .i64 x.Mode.Task,.sl 1 (x.Mode.Vars.map Qa),.sl 1 (x.Mode.Ins.map Qa),.sl 1 (x.Mode.Outs.map Qa)]
def XP (x:QN):L_ V:=[.sl 1 (x.States.map XR),.sl 6 (x.Edges.map YO),.b x.Full]
def YW (x:Xk):L_ V:=[.sl 7 (x.net.Colours.map Qc),.sl 3 (x.net.Places.map Qd),.sl 14 (x.net.Tasks.map Qb),.i .i64 x.net.From,.i .i64 x.net.To,.sl 1 (x.space.States.map XR),.sl 6 (x.space.Edges.map YO),.b x.space.Full]
def QA (x:QF):L_ V:=[.i .i64 x.state,.i .i64 x.far]
noncomputable def Qhh (fn:Nat):Ec:=Qpd Tryz.f267 0 fn
noncomputable def WL (fn:Nat):Ec:=Qpd Tryz.f297 0 fn
noncomputable def Qhi (fn:Nat):Ec:=Qpd Tryz.f336 0 fn
noncomputable def Kn (fn:Nat):Ec:=Qpd Tryz.f364 0 fn
noncomputable def Hr (fn:Nat):Ec:=Qpd Tryz.f402 0 fn
noncomputable def Nw (fn:Nat):Ec:=Qpd Tryz.f41 0 fn
def Qwp : Go.Shelf.Ren:=⟨λ| 20=>31|n=>n,λ| 0=>0|3=>3|4=>4|22=>39|n=>n,λn=>n⟩
def Qu1 : Lays2.n20 prog Qwp where
 mixed:=by kernel_rfl
 f20:=func31.trans (congrArg some (by kernel_rfl))
 t0:=underlying0
 a0:=isAgg0
 z0:=sizeOf0
 v0:=zeroValue0
 t3:=underlying3
 a3:=isAgg3
 z3:=sizeOf3
 v3:=zeroValue3
 t4:=underlying4
 a4:=isAgg4
 z4:=sizeOf4
 v4:=zeroValue4
 t22:=underlying39
 a22:=isAgg39
 z22:=sizeOf39
 v22:=zeroValue39
 i3:=by kernel_rfl
def Qu2 (a0 h O b0 b1 b2:Int):EqT prog 118 [.int .i64 a0,.int .i64 h,.int .i64 O] [.int .i64 b0,.int .i64 b1,.int .i64 b2] ((a0==b0)&&((h==b1)&&(O==b2))):=by
 refine⟨by kernel_rfl,λw=>?_⟩;have u3:=underlying3;have g3:=isAgg3;have z3:=sizeOf3;show(Op.equalIn (9999+1) 118 (.agg #[.int .i64 a0,.int .i64 h,.int .i64 O]) (.agg #[.int .i64 b0,.int .i64 b1,.int .i64 b2])).run prog w=_;rw[Op.equalIn];simp only[Xh,run_underlying underlying118,Xp];simp only[Std.Legacy.Range.forIn_eq_forIn_range',Std.Legacy.Range.size,Nat.sub_zero,Nat.add_sub_cancel,Nat.div_one,List.range'_succ,List.range'_zero,List.forIn_cons,List.forIn_nil]
 go_simp
 by_cases h0:a0=b0<;>by_cases h1:h=b1<;>by_cases h2:O=b2<;>simp[h0,h1,h2]
def Qwq : ZN prog 240 0=some (0,false,1):=by kernel_rfl
def Qwr : ZN prog 254 1=some (1,false,1):=by kernel_rfl
def Qws : ZN prog 254 2=some (2,false,1):=by kernel_rfl
def Qwt : ZN prog 284 0=some (0,false,1):=by kernel_rfl
def QxH : ZN prog 31 0=some (0,false,1):=by kernel_rfl
def Qwu : Go.Shelf.Ren:=⟨λ| 157=>386|199=>436|229=>435|261=>461|311=>476|312=>477|n=>n,λ| 0=>0|3=>3|4=>4|5=>5|9=>9|21=>21|31=>242|40=>515|46=>149|49=>561|51=>219|119=>513|141=>538|152=>534|154=>536|193=>557|194=>558|196=>560|198=>563|201=>566|226=>571|227=>572|n=>n,λ| 0=>0|6=>2|n=>n⟩
def Qu3 : Lays.n157 prog Qwu where
 mixed:=by kernel_rfl
 f157:=func386.trans (congrArg some (by kernel_rfl))
 f199:=func436.trans (congrArg some (by kernel_rfl))
 f229:=func435.trans (congrArg some (by kernel_rfl))
 f261:=func461.trans (congrArg some (by kernel_rfl))
 f311:=func476.trans (congrArg some (by kernel_rfl))
 f312:=func477.trans (congrArg some (by kernel_rfl))
 t0:=underlying0
 a0:=isAgg0
 z0:=sizeOf0
 v0:=zeroValue0
 t3:=underlying3
 a3:=isAgg3
 z3:=sizeOf3
 v3:=zeroValue3
 t4:=underlying4
 a4:=isAgg4
 z4:=sizeOf4
 v4:=zeroValue4
 t5:=underlying5
 a5:=isAgg5
 z5:=sizeOf5
 v5:=zeroValue5
 t9:=underlying9
 a9:=isAgg9
 z9:=sizeOf9
 v9:=zeroValue9
 t21:=underlying21
 a21:=isAgg21
 z21:=sizeOf21
 v21:=zeroValue21
 t31:=underlying242
 a31:=isAgg242
 z31:=sizeOf242
 v31:=zeroValue242
 t40:=underlying515
 a40:=isAgg515
 z40:=sizeOf515
 v40:=zeroValue515
 t46:=underlying149
 a46:=isAgg149
 z46:=sizeOf149
 v46:=zeroValue149
 t49:=underlying561
 a49:=isAgg561
 z49:=sizeOf561
 v49:=zeroValue561
 t51:=underlying219
 a51:=isAgg219
 z51:=sizeOf219
 v51:=zeroValue219
 t119:=underlying513
 a119:=isAgg513
 z119:=sizeOf513
 t141:=underlying538
 a141:=isAgg538
 z141:=sizeOf538
 v141:=zeroValue538
 t152:=underlying534
 a152:=isAgg534
 z152:=sizeOf534
 v152:=zeroValue534
 t154:=underlying536
 a154:=isAgg536
 z154:=sizeOf536
 v154:=zeroValue536
 t193:=underlying557
 a193:=isAgg557
 z193:=sizeOf557
 v193:=zeroValue557
 t194:=underlying558
 a194:=isAgg558
 z194:=sizeOf558
 v194:=zeroValue558
 t196:=underlying560
 a196:=isAgg560
 z196:=sizeOf560
 v196:=zeroValue560
 t198:=underlying563
 a198:=isAgg563
 z198:=sizeOf563
 v198:=zeroValue563
 t201:=underlying566
 a201:=isAgg566
 z201:=sizeOf566
 v201:=zeroValue566
 t226:=underlying571
 a226:=isAgg571
 z226:=sizeOf571
 v226:=zeroValue571
 t227:=underlying572
 a227:=isAgg572
 z227:=sizeOf572
 v227:=zeroValue572
 g0:=by kernel_rfl
 g6:=by kernel_rfl
def Qsj : Qnm prog 1=true:=by kernel_rfl
def Qu4 : Qnm prog 395=true:=by kernel_rfl
def Qt5 : Go.Shelf.Ren:=⟨λ| 22=>447|29=>463|30=>464|n=>n,λ| 24=>58|9=>197|n=>n,λn=>n⟩
def Qs9 : QiO prog Qt5 "slices.Insert[[]baldric/api.Item,baldric/api.Item]" "slices.overlaps[baldric/api.Item]" 197 11 136 (.agg #[.int .i64 0,.int .i64 0,.slice none 0 0,.slice none 0 0,.slice none 0 0,.int .i64 0,.int .i64 0,.int .i64 0,.int .i64 0,.int .i64 0,.int .i64 0]) where
 mixed:=by kernel_rfl
 f22:=func447.trans (congrArg some (by kernel_rfl))
 f29:=func463.trans (congrArg some (by kernel_rfl))
 nm:=by kernel_rfl
 nx:=by kernel_rfl
 fd:=by kernel_rfl
 t0:=underlying0
 t3:=underlying3
 t4:=underlying4
 t24:=underlying58
 zE:=sizeOf197
 iE:=by kernel_rfl
 zc:=by kernel_rfl
 z0:=by decide
 small:=by decide
def Qu5 : Qha prog 219 .u32=true:=by kernel_rfl
def CX : Qha prog 221 .u64=true:=by kernel_rfl
def Rq : Qha prog 3 .i64=true:=by kernel_rfl
def Vs : Qha prog 5 .u8=true:=by kernel_rfl
def KX : Dh prog 3 (V.i .i64) (Value.int .i64):=Dh.int (by kernel_rfl)
def OL : Dh prog 9 V.s Value.string:=Dh.str (by kernel_rfl)
def Qu6 : (AG prog 78 "Pop" = some (501,true)∧QlT prog 78=true)∨(AG prog 78 "Pop" = some (501,false)∧Qcc prog 78=true):=.inl ⟨by kernel_rfl,by kernel_rfl⟩
def Qt6 : (AG prog 78 "Push" = some (502,true)∧QlT prog 78=true)∨(AG prog 78 "Push" = some (502,false)∧Qcc prog 78=true):=.inl ⟨by kernel_rfl,by kernel_rfl⟩
def mixed : prog.follows .mixedOrders=true:=by kernel_rfl
def Qu7 : IZ prog 136=some (9,3):=by kernel_rfl
def Ik : IZ prog 150=some (3,3):=by kernel_rfl
def Et : IZ prog 151=some (3,3):=by kernel_rfl
def BF : IZ prog 336=some (9,4):=by kernel_rfl
def Qkk : IZ prog 72=some (3,39):=by kernel_rfl
def QqC : AG prog 78 "Len" = some (28,false)∧Qec prog 78 75=true∧Ux prog 75=some false:=⟨by kernel_rfl,by kernel_rfl,by kernel_rfl⟩
def Qhj : AG prog 78 "Less" = some (499,false)∧Qec prog 78 75=true∧Ux prog 75=some false:=⟨by kernel_rfl,by kernel_rfl,by kernel_rfl⟩
def Qhk : AG prog 78 "Swap" = some (500,false)∧Qec prog 78 75=true∧Ux prog 75=some false:=⟨by kernel_rfl,by kernel_rfl,by kernel_rfl⟩
def Qxo : Qo8 prog 39=true:=by kernel_rfl
def Qwv : Go.Shelf.Ren:=⟨λ| 125=>62|128=>114|129=>115|189=>30|215=>203|216=>111|257=>61|294=>105|295=>106|296=>107|297=>108|298=>109|299=>110|300=>112|301=>113|328=>198|329=>199|330=>200|331=>201|332=>202|343=>299|n=>n,λ| 0=>0|3=>3|4=>4|5=>5|9=>9|28=>39|46=>149|51=>219|53=>221|131=>206|182=>212|183=>213|218=>314|222=>318|228=>402|229=>403|n=>n,λn=>n⟩
def Qu8 : Lays.n189 prog Qwv where
 mixed:=by kernel_rfl
 f125:=func62.trans (congrArg some (by kernel_rfl))
 f128:=func114.trans (congrArg some (by kernel_rfl))
 f129:=func115.trans (congrArg some (by kernel_rfl))
 f189:=func30.trans (congrArg some (by kernel_rfl))
 f215:=func203.trans (congrArg some (by kernel_rfl))
 f216:=func111.trans (congrArg some (by kernel_rfl))
 f257:=func61.trans (congrArg some (by kernel_rfl))
 f294:=func105.trans (congrArg some (by kernel_rfl))
 f295:=func106.trans (congrArg some (by kernel_rfl))
 f296:=func107.trans (congrArg some (by kernel_rfl))
 f297:=func108.trans (congrArg some (by kernel_rfl))
 f298:=func109.trans (congrArg some (by kernel_rfl))
 f299:=func110.trans (congrArg some (by kernel_rfl))
 f300:=func112.trans (congrArg some (by kernel_rfl))
 f301:=func113.trans (congrArg some (by kernel_rfl))
 f328:=func198.trans (congrArg some (by kernel_rfl))
 f329:=func199.trans (congrArg some (by kernel_rfl))
 f330:=func200.trans (congrArg some (by kernel_rfl))
 f331:=func201.trans (congrArg some (by kernel_rfl))
 f332:=func202.trans (congrArg some (by kernel_rfl))
 f343:=func299.trans (congrArg some (by kernel_rfl))
 t0:=underlying0
 a0:=isAgg0
 z0:=sizeOf0
 v0:=zeroValue0
 t3:=underlying3
 a3:=isAgg3
 z3:=sizeOf3
 v3:=zeroValue3
 t4:=underlying4
 a4:=isAgg4
 z4:=sizeOf4
 v4:=zeroValue4
 t5:=underlying5
 a5:=isAgg5
 z5:=sizeOf5
 v5:=zeroValue5
 t9:=underlying9
 a9:=isAgg9
 z9:=sizeOf9
 v9:=zeroValue9
 t28:=underlying39
 a28:=isAgg39
 z28:=sizeOf39
 v28:=zeroValue39
 t46:=underlying149
 a46:=isAgg149
 z46:=sizeOf149
 v46:=zeroValue149
 t51:=underlying219
 a51:=isAgg219
 z51:=sizeOf219
 v51:=zeroValue219
 t53:=underlying221
 a53:=isAgg221
 z53:=sizeOf221
 v53:=zeroValue221
 t131:=underlying206
 a131:=isAgg206
 z131:=sizeOf206
 v131:=zeroValue206
 t182:=underlying212
 a182:=isAgg212
 z182:=sizeOf212
 v182:=zeroValue212
 t183:=underlying213
 a183:=isAgg213
 z183:=sizeOf213
 v183:=zeroValue213
 t218:=underlying314
 a218:=isAgg314
 z218:=sizeOf314
 v218:=zeroValue314
 t222:=underlying318
 a222:=isAgg318
 z222:=sizeOf318
 v222:=zeroValue318
 t228:=underlying402
 a228:=isAgg402
 z228:=sizeOf402
 v228:=zeroValue402
 t229:=underlying403
 a229:=isAgg403
 z229:=sizeOf403
 v229:=zeroValue403
def Qyq : prog.underlying 113=some (.slice 297):=by kernel_rfl
def Qyr : prog.underlying 114=some (.slice 116):=by kernel_rfl
def Qys : prog.underlying 117=some (.slice 300):=by kernel_rfl
def Qyt : prog.underlying 187=some (.slice 64):=by kernel_rfl
def QzG : prog.underlying 22=some (.slice 254):=by kernel_rfl
def QzH : prog.underlying 23=some (.slice 129):=by kernel_rfl
def QzI : prog.underlying 24=some (.slice 120):=by kernel_rfl
def Qyu : prog.underlying 242=some (.slice 9):=by kernel_rfl
def Qyv : prog.underlying 322=some (.slice 39):=by kernel_rfl
def QzJ : prog.underlying 39=some (.slice 3):=by kernel_rfl
def QzK : prog.underlying 45=some (.slice 87):=by kernel_rfl
def QzL : prog.underlying 58=some (.slice 197):=by kernel_rfl
def Qxp : prog.underlying 64=some (.slice 5):=by kernel_rfl
def QzM : prog.underlying 87=some (.slice 131):=by kernel_rfl
def Qxq : prog.underlying 94=some (.pointer 177):=by kernel_rfl
def Qyw : Qxn prog 430:=⟨Tryz.f430,func430,by kernel_rfl,by kernel_rfl,by kernel_rfl,by kernel_rfl⟩
def OM : Ig prog 3 ((V.i .i64) 0):=Ig.one (v:=.int .i64 0) (by kernel_rfl)
def Qxr : Ig prog 39 ((λx=>V.sl 1 (x.map Qa)) ([]:(L_ Int))):=Ig.sl (by kernel_rfl)
def Ql0 : Ig prog 4 (V.b false):=Ig.one (v:=.bool false) (by kernel_rfl)
def QAk : Xm prog 3=some [.i .i64 0]:=by kernel_rfl
def QAl : Xm prog 5=some [.i .u8 0]:=by kernel_rfl
def QAm : Xm prog 9=some [.s (⟨#[]⟩:ByteArray)]:=by kernel_rfl
def QzN : Xm prog 26=some [.Y,.Y,.Y,.i .i64 0,.i .i64 0]:=by kernel_rfl
def QzO : Xm prog 29=some [.Y]:=by kernel_rfl
def QzP : Xm prog 31=some [.i .i64 0,.i .i64 0,.i .i64 0,.Y]:=by kernel_rfl
def QzQ : Xm prog 37=some [.Y,.Y,.b false]:=by kernel_rfl
def Qxs : Xm prog 39=some [.Y]:=by kernel_rfl
def QzR : Xm prog 45=some [.Y]:=by kernel_rfl
def QzS : Xm prog 47=some [.i .i64 0]:=by kernel_rfl
def QzT : Xm prog 51=some [.i .i64 0,.Y,.Y,.Y]:=by kernel_rfl
def QzU : Xm prog 53=some [.i .i64 0,.i .i64 0,.i .i64 0,.Y,.Y,.Y]:=by kernel_rfl
def QzV : Xm prog 60=some [.Y,.Y,.i .i64 0,.i .i64 0]:=by kernel_rfl
def QzW : Xm prog 62=some [.i .i64 0,.i .i64 0,.i .i64 0,.i .i64 0,.Y,.Y,.i .i64 0,.i .i64 0,.b false,.i .i64 0]:=by kernel_rfl
def QzX : Xm prog 64=some [.Y]:=by kernel_rfl
def QzY : Xm prog 75=some [.Y]:=by kernel_rfl
def QzZ : Xm prog 80=some [.i .i64 0,.i .i64 0]:=by kernel_rfl
def Qz0 : Xm prog 87=some [.Y]:=by kernel_rfl
def Qz1 : Xm prog 90=some [.i .i64 0,.i .i64 0]:=by kernel_rfl
def Qz2 : Xm prog 98=some [.Y,.Y,.Y,.i .i64 0,.i .i64 0,.lit (.pointer none),.lit (.pointer none),.i .i64 0,.i .i64 0,.i .i64 0,.i .i64 0,.Y,.Y,.i .i64 0,.i .i64 0,.b false,.i .i64 0]:=by kernel_rfl
def Qz3 : Xm prog 99=some [.Y]:=by kernel_rfl
def Qyx : Xm prog 101=some [.i .u8 0,.i .u8 0]:=by kernel_rfl
def Qyy : Xm prog 106=some [.lit (.pointer none),.Y,.Y,.Y,.i .i64 0,.i .i64 0,.Y,.Y,.i .i64 0,.i .i64 0]:=by kernel_rfl
def Qyz : Xm prog 109=some [.lit (.pointer none)]:=by kernel_rfl
def QyA : Xm prog 116=some [.i .i64 0,.i .i64 0,.Y]:=by kernel_rfl
def QyB : Xm prog 118=some [.i .i64 0,.i .i64 0,.i .i64 0]:=by kernel_rfl
def QyC : Xm prog 120=some [.s (⟨#[]⟩:ByteArray),.Y,.i .i64 0,.i .i64 0,.Y,.i .i64 0,.i .i64 0,.Y,.Y,.Y,.i .i64 0,.i .i64 0,.i .i64 0,.i .i64 0]:=by kernel_rfl
def QyD : Xm prog 123=some [.Y,.Y,.Y,.i .i64 0,.i .i64 0,.Y,.Y,.b false]:=by kernel_rfl
def Qu9 : Xm prog 124=some [.lit (.nilFunc)]:=by kernel_rfl
def QyE : Xm prog 129=some [.s (⟨#[]⟩:ByteArray),.i .i64 0,.Y]:=by kernel_rfl
def QyF : Xm prog 131=some [.i .i64 0,.i .i64 0]:=by kernel_rfl
def QyG : Xm prog 138=some [.Y,.Y,.Y,.i .i64 0,.i .i64 0,.i .i64 0,.lit (.map none),.Y,.Y,.b false]:=by kernel_rfl
def QyH : Xm prog 150=some [.lit (.map none)]:=by kernel_rfl
def ZP : Xm prog 165=some [.lit (.nilFunc),.i .i64 0]:=by kernel_rfl
def QyI : Xm prog 177=some [.Y,.Y,.b false,.i .i64 0,.i .i64 0,.i .i64 0]:=by kernel_rfl
def QyJ : Xm prog 186=some [.i .i64 0,.i .i64 0,.i .i64 0,.i .i64 0]:=by kernel_rfl
def QyK : Xm prog 187=some [.Y]:=by kernel_rfl
def QyL : Xm prog 189=some [.lit (.pointer none),.lit (.pointer none),.lit (.pointer none),.lit (.pointer none),.i .i64 0,.i .i64 0,.i .i64 0,.i .i64 0,.Y,.Y,.b false]:=by kernel_rfl
def QyM : Xm prog 195=some [.i .i64 0,.i .i64 0,.i .i64 0,.i .i64 0,.i .i64 0]:=by kernel_rfl
def QyN : Xm prog 197=some [.i .i64 0,.i .i64 0,.Y,.Y,.Y,.i .i64 0,.i .i64 0,.i .i64 0,.i .i64 0,.i .i64 0,.i .i64 0]:=by kernel_rfl
def QyO : Xm prog 224=some [.Y,.Y,.Y,.i .i64 0,.i .i64 0,.Y,.s (⟨#[]⟩:ByteArray),.Y,.i .i64 0,.i .i64 0,.Y,.i .i64 0,.i .i64 0,.Y,.Y,.Y,.i .i64 0,.i .i64 0,.i .i64 0,.i .i64 0,.Y]:=by kernel_rfl
def Qva : Xm prog 227=some [.lit (.nilFunc)]:=by kernel_rfl
def QyP : Xm prog 236=some [.s (⟨#[]⟩:ByteArray),.i .i64 0]:=by kernel_rfl
def QyQ : Xm prog 240=some [.i .i64 0,.s (⟨#[]⟩:ByteArray),.i .i64 0]:=by kernel_rfl
def QyR : Xm prog 244=some [.Y,.i .i64 0,.i .i64 0,.i .i64 0,.i .i64 0,.Y,.Y,.Y,.i .i64 0,.i .i64 0,.Y]:=by kernel_rfl
def QyS : Xm prog 254=some [.s (⟨#[]⟩:ByteArray),.i .i64 0,.i .i64 0,.i .i64 0,.Y,.i .i64 0,.i .i64 0]:=by kernel_rfl
def QyT : Xm prog 258=some [.lit (.nilFunc)]:=by kernel_rfl
def QyU : Xm prog 265=some [.lit (.nilFunc)]:=by kernel_rfl
def QyV : Xm prog 280=some [.i .i64 0,.i .i64 0,.i .i64 0,.Y,.Y,.Y,.i .i64 0]:=by kernel_rfl
def QyW : Xm prog 284=some [.i .i64 0,.i .i64 0,.Y]:=by kernel_rfl
def QyX : Xm prog 287=some [.i .u8 0,.i .u8 0,.i .u8 0,.i .u8 0,.i .u8 0,.i .u8 0,.i .u8 0,.i .u8 0,.i .u8 0,.i .u8 0,.i .u8 0,.i .u8 0,.i .u8 0,.i .u8 0,.i .u8 0,.i .u8 0,.i .u8 0,.i .u8 0,.i .u8 0,.i .u8 0,.i .u8 0,.i .u8 0,.i .u8 0,.i .u8 0,.i .u8 0,.i .u8 0,.i .u8 0,.i .u8 0,.i .u8 0,.i .u8 0,.i .u8 0,.i .u8 0]:=by kernel_rfl
def QyY : Xm prog 289=some [.i .i64 0,.i .u8 0,.i .u8 0,.i .u8 0,.i .u8 0,.i .u8 0,.i .u8 0,.i .u8 0,.i .u8 0,.i .u8 0,.i .u8 0,.i .u8 0,.i .u8 0,.i .u8 0,.i .u8 0,.i .u8 0,.i .u8 0,.i .u8 0,.i .u8 0,.i .u8 0,.i .u8 0,.i .u8 0,.i .u8 0,.i .u8 0,.i .u8 0,.i .u8 0,.i .u8 0,.i .u8 0,.i .u8 0,.i .u8 0,.i .u8 0,.i .u8 0,.i .u8 0]:=by kernel_rfl
def QyZ : Xm prog 297=some [.s (⟨#[]⟩:ByteArray),.i .i64 0]:=by kernel_rfl
def Qy0 : Xm prog 300=some [.i .i64 0,.i .i64 0,.i .i64 0,.Y]:=by kernel_rfl
def Qy1 : Xm prog 322=some [.Y]:=by kernel_rfl
def Qy2 : Xm prog 338=some [.lit (.pointer none),.s (⟨#[]⟩:ByteArray),.Y,.i .i64 0,.i .i64 0,.Y,.i .i64 0,.i .i64 0,.Y,.Y,.Y,.i .i64 0,.i .i64 0,.i .i64 0,.i .i64 0,.lit (.map none)]:=by kernel_rfl
def Qy3 : Xm prog 346=some [.Y,.Y,.i .i64 0]:=by kernel_rfl
def Qy4 : Xm prog 352=some [.lit (.nilFunc)]:=by kernel_rfl
def Qy5 : Xm prog 394=some [.Y,.Y,.Y,.i .i64 0,.i .i64 0,.Y,.Y,.i .i64 0,.i .i64 0,.i .i64 0,.i .i64 0,.i .i64 0,.Y,.Y,.Y,.i .i64 0]:=by kernel_rfl
def Qy6 : Xm prog 425=some [.lit (.pointer none),.i .i64 0,.i .i64 0]:=by kernel_rfl
def Qy7 : Xm prog 434=some [.i .i64 0,.i .i64 0,.i .i64 0]:=by kernel_rfl
def Eu : EJ:={ ag:=[(3,false),(4,false),(5,false),(9,false),(22,false),(23,false),(24,false),(26,true),(27,false),(29,false),(31,true),(34,false),(35,false),(37,true),(39,false),(45,false),(47,false),(51,true),(53,true),(58,false),(60,true),(62,true),(64,false),(75,false),(80,true),(87,false),(90,true),(94,false),(96,false),(99,false),(101,true),(104,false),(107,false),(113,false),(114,false),(116,true),(117,false),(118,true),(120,true),(123,true),(124,false),(129,true),(131,true),(136,false),(150,false),(151,false),(159,false),(165,true),(174,false),(175,false),(183,false),(186,true),(187,false),(195,true),(197,true),(224,true),(227,false),(240,true),(241,false),(242,false),(248,false),(254,true),(258,false),(265,false),(268,false),(280,true),(284,true),(287,true),(289,true),(297,true),(300,true),(322,false),(336,false),(346,true),(352,false),(434,true)],sz:=[(3,1),(4,1),(9,1),(22,1),(23,1),(24,1),(26,5),(29,1),(31,4),(34,1),(35,1),(37,3),(39,1),(45,1),(47,1),(51,4),(53,6),(58,1),(60,4),(62,10),(64,1),(75,1),(80,2),(87,1),(90,2),(96,1),(99,1),(101,2),(113,1),(114,1),(116,3),(117,1),(118,3),(120,14),(123,8),(129,3),(131,2),(150,1),(165,2),(175,1),(183,1),(186,4),(187,1),(195,5),(197,11),(224,21),(240,3),(242,1),(254,7),(258,1),(265,1),(280,7),(284,3),(287,32),(289,33),(297,2),(300,4),(322,1),(346,3),(352,1),(434,3)],fo:=[(26,[0,1,2,3,4]),(31,[0,1,2,3]),(37,[0,1,2]),(51,[0,1,2,3]),(53,[0,1,2]),(60,[0,1,2,3]),(62,[0,1,2,3,4,8,9]),(80,[0,1]),(98,[0,5,6,7]),(106,[0,1,6]),(109,[0]),(116,[0,1,2]),(120,[0,1,2,5,6,7,8,9,10,11]),(123,[0,5]),(129,[0,1,2]),(138,[0,5,6,7]),(165,[0,1]),(177,[0,1,2,3,4,5]),(186,[0,1,2,3]),(189,[0,1,3,4,8,9,10]),(195,[0,1,2,3,4]),(197,[0,1,5,10]),(224,[0,5,6,20]),(236,[0,1]),(240,[0,1,2]),(244,[0,1,2,3,4,5,10]),(254,[0,1,2,3,4,5,6]),(280,[0,1,2,6]),(284,[0,1,2]),(289,[0,1]),(297,[0,1]),(300,[0,1]),(338,[0,1,15]),(346,[0,1,2]),(394,[0,5,9]),(425,[0,1,2]),(434,[0,1,2])],sp:=[(31,[(0,1),(1,1),(2,1),(3,1)]),(37,[(0,1),(1,1),(2,1)]),(51,[(0,1),(1,1),(2,1),(3,1)]),(53,[(0,1),(1,1),(2,4)]),(60,[(0,1),(1,1),(2,1),(3,1)]),(80,[(0,1),(1,1)]),(90,[(0,1),(1,1)]),(98,[(0,5),(5,1),(6,1),(7,10)]),(106,[(0,1),(1,5),(6,4)]),(109,[(0,1)]),(116,[(0,1),(1,1),(2,1)]),(120,[(0,1),(1,1),(2,3),(5,1),(6,1),(7,1),(8,1),(9,1),(10,1),(11,3)]),(123,[(0,5),(5,3)]),(129,[(0,1),(1,1),(2,1)]),(138,[(0,5),(5,1),(6,1),(7,3)]),(165,[(0,1),(1,1)]),(177,[(0,1),(1,1),(2,1),(3,1),(4,1),(5,1)]),(186,[(0,1),(1,1),(2,1),(3,1)]),(189,[(0,1),(1,2),(3,1),(4,4),(8,1),(9,1),(10,1)]),(195,[(0,1),(1,1),(2,1),(3,1),(4,1)]),(197,[(0,1),(1,4),(5,5),(10,1)]),(224,[(0,5),(5,1),(6,14),(20,1)]),(236,[(0,1),(1,1)]),(240,[(0,1),(1,1),(2,1)]),(244,[(0,1),(1,1),(2,1),(3,1),(4,1),(5,5),(10,1)]),(254,[(0,1),(1,1),(2,1),(3,1),(4,1),(5,1),(6,1)]),(280,[(0,1),(1,1),(2,4),(6,1)]),(284,[(0,1),(1,1),(2,1)]),(289,[(0,1),(1,32)]),(297,[(0,1),(1,1)]),(300,[(0,1),(1,3)]),(338,[(0,1),(1,14),(15,1)]),(346,[(0,1),(1,1),(2,1)]),(394,[(0,5),(5,4),(9,7)]),(425,[(0,1),(1,1),(2,1)]),(434,[(0,1),(1,1),(2,1)])],es:=[(22,(254,7,80)),(23,(129,3,48)),(24,(120,14,200)),(29,(51,4,80)),(34,(45,1,24)),(35,(53,6,96)),(39,(3,1,8)),(45,(87,1,24)),(58,(197,11,136)),(64,(5,1,1)),(75,(80,2,16)),(87,(131,2,16)),(99,(101,2,2)),(113,(297,2,24)),(114,(116,3,40)),(117,(300,4,48)),(125,(124,1,8)),(159,(240,3,32)),(174,(287,32,32)),(175,(289,33,40)),(187,(64,1,24)),(242,(9,1,16)),(251,(165,2,16)),(292,(280,7,104)),(322,(39,1,24)),(405,(3,1,8)),(522,(227,1,8))],ar:=[(101,(2,1)),(118,(3,1)),(131,(2,1)),(184,(2,1)),(287,(32,1))],zv:=[(3,[.i .i64 0]),(5,[.i .u8 0]),(9,[.s (⟨#[]⟩:ByteArray)]),(26,[.Y,.Y,.Y,.i .i64 0,.i .i64 0]),(29,[.Y]),(31,[.i .i64 0,.i .i64 0,.i .i64 0,.Y]),(37,[.Y,.Y,.b false]),(39,[.Y]),(45,[.Y]),(47,[.i .i64 0]),(51,[.i .i64 0,.Y,.Y,.Y]),(53,[.i .i64 0,.i .i64 0,.i .i64 0,.Y,.Y,.Y]),(60,[.Y,.Y,.i .i64 0,.i .i64 0]),(62,[.i .i64 0,.i .i64 0,.i .i64 0,.i .i64 0,.Y,.Y,.i .i64 0,.i .i64 0,.b false,.i .i64 0]),(64,[.Y]),(75,[.Y]),(80,[.i .i64 0,.i .i64 0]),(87,[.Y]),(90,[.i .i64 0,.i .i64 0]),(98,[.Y,.Y,.Y,.i .i64 0,.i .i64 0,.lit (.pointer none),.lit (.pointer none),.i .i64 0,.i .i64 0,.i .i64 0,.i .i64 0,.Y,.Y,.i .i64 0,.i .i64 0,.b false,.i .i64 0]),(99,[.Y]),(101,[.i .u8 0,.i .u8 0]),(106,[.lit (.pointer none),.Y,.Y,.Y,.i .i64 0,.i .i64 0,.Y,.Y,.i .i64 0,.i .i64 0]),(109,[.lit (.pointer none)]),(116,[.i .i64 0,.i .i64 0,.Y]),(118,[.i .i64 0,.i .i64 0,.i .i64 0]),(120,[.s (⟨#[]⟩:ByteArray),.Y,.i .i64 0,.i .i64 0,.Y,.i .i64 0,.i .i64 0,.Y,.Y,.Y,.i .i64 0,.i .i64 0,.i .i64 0,.i .i64 0]),(123,[.Y,.Y,.Y,.i .i64 0,.i .i64 0,.Y,.Y,.b false]),(124,[.lit (.nilFunc)]),(129,[.s (⟨#[]⟩:ByteArray),.i .i64 0,.Y]),(131,[.i .i64 0,.i .i64 0]),(138,[.Y,.Y,.Y,.i .i64 0,.i .i64 0,.i .i64 0,.lit (.map none),.Y,.Y,.b false]),(150,[.lit (.map none)]),(165,[.lit (.nilFunc),.i .i64 0]),(177,[.Y,.Y,.b false,.i .i64 0,.i .i64 0,.i .i64 0]),(186,[.i .i64 0,.i .i64 0,.i .i64 0,.i .i64 0]),(187,[.Y]),(189,[.lit (.pointer none),.lit (.pointer none),.lit (.pointer none),.lit (.pointer none),.i .i64 0,.i .i64 0,.i .i64 0,.i .i64 0,.Y,.Y,.b false]),(195,[.i .i64 0,.i .i64 0,.i .i64 0,.i .i64 0,.i .i64 0]),(197,[.i .i64 0,.i .i64 0,.Y,.Y,.Y,.i .i64 0,.i .i64 0,.i .i64 0,.i .i64 0,.i .i64 0,.i .i64 0]),(224,[.Y,.Y,.Y,.i .i64 0,.i .i64 0,.Y,.s (⟨#[]⟩:ByteArray),.Y,.i .i64 0,.i .i64 0,.Y,.i .i64 0,.i .i64 0,.Y,.Y,.Y,.i .i64 0,.i .i64 0,.i .i64 0,.i .i64 0,.Y]),(227,[.lit (.nilFunc)]),(236,[.s (⟨#[]⟩:ByteArray),.i .i64 0]),(240,[.i .i64 0,.s (⟨#[]⟩:ByteArray),.i .i64 0]),(244,[.Y,.i .i64 0,.i .i64 0,.i .i64 0,.i .i64 0,.Y,.Y,.Y,.i .i64 0,.i .i64 0,.Y]),(254,[.s (⟨#[]⟩:ByteArray),.i .i64 0,.i .i64 0,.i .i64 0,.Y,.i .i64 0,.i .i64 0]),(258,[.lit (.nilFunc)]),(265,[.lit (.nilFunc)]),(280,[.i .i64 0,.i .i64 0,.i .i64 0,.Y,.Y,.Y,.i .i64 0]),(284,[.i .i64 0,.i .i64 0,.Y]),(287,[.i .u8 0,.i .u8 0,.i .u8 0,.i .u8 0,.i .u8 0,.i .u8 0,.i .u8 0,.i .u8 0,.i .u8 0,.i .u8 0,.i .u8 0,.i .u8 0,.i .u8 0,.i .u8 0,.i .u8 0,.i .u8 0,.i .u8 0,.i .u8 0,.i .u8 0,.i .u8 0,.i .u8 0,.i .u8 0,.i .u8 0,.i .u8 0,.i .u8 0,.i .u8 0,.i .u8 0,.i .u8 0,.i .u8 0,.i .u8 0,.i .u8 0,.i .u8 0]),(289,[.i .i64 0,.i .u8 0,.i .u8 0,.i .u8 0,.i .u8 0,.i .u8 0,.i .u8 0,.i .u8 0,.i .u8 0,.i .u8 0,.i .u8 0,.i .u8 0,.i .u8 0,.i .u8 0,.i .u8 0,.i .u8 0,.i .u8 0,.i .u8 0,.i .u8 0,.i .u8 0,.i .u8 0,.i .u8 0,.i .u8 0,.i .u8 0,.i .u8 0,.i .u8 0,.i .u8 0,.i .u8 0,.i .u8 0,.i .u8 0,.i .u8 0,.i .u8 0,.i .u8 0]),(297,[.s (⟨#[]⟩:ByteArray),.i .i64 0]),(300,[.i .i64 0,.i .i64 0,.i .i64 0,.Y]),(322,[.Y]),(338,[.lit (.pointer none),.s (⟨#[]⟩:ByteArray),.Y,.i .i64 0,.i .i64 0,.Y,.i .i64 0,.i .i64 0,.Y,.Y,.Y,.i .i64 0,.i .i64 0,.i .i64 0,.i .i64 0,.lit (.map none)]),(346,[.Y,.Y,.i .i64 0]),(352,[.lit (.nilFunc)]),(394,[.Y,.Y,.Y,.i .i64 0,.i .i64 0,.Y,.Y,.i .i64 0,.i .i64 0,.i .i64 0,.i .i64 0,.i .i64 0,.Y,.Y,.Y,.i .i64 0]),(425,[.lit (.pointer none),.i .i64 0,.i .i64 0]),(434,[.i .i64 0,.i .i64 0,.i .i64 0])],sb:=[9],bo:=[4],cc:=[9,78,80],en:=[4,5,6,7,8,9,10,11,12,13,14,15,16,17,18,19,20,21,22,23,24,25,26,27,28,29,30,31,32,33,34,35,36,37,38,39,40,41,42,43,45,46,47,48,49,50,51,52,53,54,55,56,57,58,59,60,63,64,65,66,67,68,69,70,71,72,73,74,75,76,77,78,79,80,81,82,83,84,85,86,89,91,92,93,94,95,96,97,98,99,100,101,102,103,104,116,117,118,119,120,121,122,123,124,125,126,127,128,129,130,132,133,134,135,136,137,138,139,140,141,142,143,144,145,146,147,148,149,150,151,152,153,154,155,156,157,158,159,160,161,162,163,164,165,166,167,168,169,170,171,172,173,174,175,176,177,180,181,182,183,184,185,186,187,188,189,190,191,192,193,194,195,196,197,204,205,206,207,208,209,210,211,212,213,214,216,217,218,219,220,221,222,223,224,225,227,228,229,230,232,233,234,235,236,237,238,239,240,241,242,243,244,245,246,247,248,249,250,251,252,253,254,255,256,257,258,259,260,261,262,263,264,265,266,267,268,269,271,272,274,275,276,277,278,279,280,283,284,285,286,287,288,289,290,291,292,293,294,295,296,297,300,301,302,303,304,305,306,307,308,309,310,311,312,313,314,315,316,317,319,320,321,322,323,324,325,326,327,328,329,330,331,334,335,336,337,344,345,346,347,350,351,352,355,358,359,360,361,364,365,366,367,368,373,374,375,376,377,380,381,383,385,386,387,388,389,390,391,392,393,397,398,399,401,402,403,404,405,406,407,410,411,412,413,414,415,416,417,418,419,422,423,425,426,427,428,429,431,432,434,438,439,440,441,442,443,444,445,446,447,448,450,455,456,457,458,459,460,462,465,468,469,470,471,472,475,479,480,499,500,501,502] }
def QU : DI prog Eu:=EJ.ok (by kernel_rfl) (XN.2 ⟨QAk,XN.2 ⟨QAl,XN.2 ⟨QAm,XN.2 ⟨QzN,XN.2 ⟨QzO,XN.2 ⟨QzP,XN.2 ⟨QzQ,XN.2 ⟨Qxs,XN.2 ⟨QzR,XN.2 ⟨QzS,XN.2 ⟨QzT,XN.2 ⟨QzU,XN.2 ⟨QzV,XN.2 ⟨QzW,XN.2 ⟨QzX,XN.2 ⟨QzY,XN.2 ⟨QzZ,XN.2 ⟨Qz0,XN.2 ⟨Qz1,XN.2 ⟨Qz2,XN.2 ⟨Qz3,XN.2 ⟨Qyx,XN.2 ⟨Qyy,XN.2 ⟨Qyz,XN.2 ⟨QyA,XN.2 ⟨QyB,XN.2 ⟨QyC,XN.2 ⟨QyD,XN.2 ⟨Qu9,XN.2 ⟨QyE,XN.2 ⟨QyF,XN.2 ⟨QyG,XN.2 ⟨QyH,XN.2 ⟨ZP,XN.2 ⟨QyI,XN.2 ⟨QyJ,XN.2 ⟨QyK,XN.2 ⟨QyL,XN.2 ⟨QyM,XN.2 ⟨QyN,XN.2 ⟨QyO,XN.2 ⟨Qva,XN.2 ⟨QyP,XN.2 ⟨QyQ,XN.2 ⟨QyR,XN.2 ⟨QyS,XN.2 ⟨QyT,XN.2 ⟨QyU,XN.2 ⟨QyV,XN.2 ⟨QyW,XN.2 ⟨QyX,XN.2 ⟨QyY,XN.2 ⟨QyZ,XN.2 ⟨Qy0,XN.2 ⟨Qy1,XN.2 ⟨Qy2,XN.2 ⟨Qy3,XN.2 ⟨Qy4,XN.2 ⟨Qy5,XN.2 ⟨Qy6,XN.2 ⟨Qy7,λ_ h=>(by cases h)⟩⟩⟩⟩⟩⟩⟩⟩⟩⟩⟩⟩⟩⟩⟩⟩⟩⟩⟩⟩⟩⟩⟩⟩⟩⟩⟩⟩⟩⟩⟩⟩⟩⟩⟩⟩⟩⟩⟩⟩⟩⟩⟩⟩⟩⟩⟩⟩⟩⟩⟩⟩⟩⟩⟩⟩⟩⟩⟩⟩⟩)
def YA {C:Xs}{Q:Exit->St->Prop}{n:Nat}{pt pt1:Pt}{ks ks1:L_ Fr}{σ σ1:St}{φ:Prop}(hC:JA prog C n)(O:L_ Cv)(e:Vm.go prog C Eu n O pt ks σ True=some ⟨pt1,ks1,σ1,φ⟩)(hφ:φ)(h:AK prog C Q pt1 ks1 σ1):AK prog C Q pt ks σ:=AK.go QU hC O e hφ h
abbrev QBg := L_ (Int×Int)
abbrev QMk := L_ QBg
abbrev LI_ := L_ Int
abbrev QLL := L_ (L_ Int)
abbrev QSB := L_ (ByteArray×Bool)
def U : True:=trivial
def an_ {a b:Prop}(x:a)(y:b):a/\b:=⟨x,y⟩
def ex_ {α:Sort _}{p:α->Prop}(w:α)(h:p w):∃x,p x:=⟨w,h⟩
end Go.Proofs
namespace Go.Vm
open Go Go.RowKit
noncomputable abbrev Cv.K (a b:L_ Nat):Cv:=.keep a b
noncomputable abbrev Cv.S (a:Nat)(b:V):Cv:=.say a b
noncomputable abbrev Cv.O (a:Nat)(b:Ob):Cv:=.sayO a b
noncomputable abbrev Cv.T:Cv:=.br true
noncomputable abbrev Cv.F:Cv:=.br false
noncomputable abbrev Dw.N:Dw:=.a .no none false
noncomputable abbrev Dw.B (h:WE):Dw:=.a h none false
noncomputable abbrev Dw.E (v:V):Dw:=.a .no (some ([],v)) false
noncomputable abbrev V.I (n:Int):V:=.i .i64 n
noncomputable abbrev V.L (n:Nat):V:=.loc n 0 0
noncomputable abbrev Cv.A (x:L_ V):Cv:=.v .no [] (.agg x)
noncomputable instance dn_ (n:Nat):OfNat Cv n:=⟨.n n⟩
noncomputable abbrev WE.C1 (v:V):WE:=.c false [.d] v
noncomputable abbrev WE.C2 (v:V):WE:=.c false [.d,.d] v
noncomputable abbrev WE.C3 (v:V):WE:=.c false [.d,.d,.d] v
noncomputable abbrev WE.C4 (v:V):WE:=.c false [.d,.d,.d,.d] v
noncomputable abbrev WE.C5 (v:V):WE:=.c false [.d,.d,.d,.d,.d] v
noncomputable abbrev WE.C6 (v:V):WE:=.c false [.d,.d,.d,.d,.d,.d] v
noncomputable abbrev WE.C7 (v:V):WE:=.c false [.d,.d,.d,.d,.d,.d,.d] v
noncomputable abbrev WE.C8 (v:V):WE:=.c false [.d,.d,.d,.d,.d,.d,.d,.d] v
end Go.Vm
namespace Go.Proofs
open Go Go.RowKit Go.Vm Go.Proofs.Tryz
def bg_ {α:Type}{c:Bool}{x y:O_ α}{r:α}{G:Prop}(h:(bif c then x else y)=some r)(f:c=true->x=some r->G)(g:c=false->y=some r->G):G:=by
 cases c
 ·exact g rfl h
 exact f rfl h
noncomputable abbrev lk_ (n:Nat):Nat×V:=(n,.loc n 0 0)
def a1_ {h:Prop}(O:h):True/\h:=⟨trivial,O⟩
def a2_ {h O:Prop}(h0:h)(h1:O):(True/\h)/\O:=⟨⟨trivial,h0⟩,h1⟩
def a3_ {h O x2:Prop}(h0:h)(h1:O)(h2:x2):((True/\h)/\O)/\x2:=⟨⟨⟨trivial,h0⟩,h1⟩,h2⟩
def a4_ {h O x2 x3:Prop}(h0:h)(h1:O)(h2:x2)(h3:x3):(((True/\h)/\O)/\x2)/\x3:=⟨⟨⟨⟨trivial,h0⟩,h1⟩,h2⟩,h3⟩
def a5_ {h O x2 x3 x4:Prop}(h0:h)(h1:O)(h2:x2)(h3:x3)(h4:x4):((((True/\h)/\O)/\x2)/\x3)/\x4:=⟨⟨⟨⟨⟨trivial,h0⟩,h1⟩,h2⟩,h3⟩,h4⟩
def a6_ {h O x2 x3 x4 x5:Prop}(h0:h)(h1:O)(h2:x2)(h3:x3)(h4:x4)(h5:x5):(((((True/\h)/\O)/\x2)/\x3)/\x4)/\x5:=⟨⟨⟨⟨⟨⟨trivial,h0⟩,h1⟩,h2⟩,h3⟩,h4⟩,h5⟩
def a7_ {h O x2 x3 x4 x5 x6:Prop}(h0:h)(h1:O)(h2:x2)(h3:x3)(h4:x4)(h5:x5)(h6:x6):((((((True/\h)/\O)/\x2)/\x3)/\x4)/\x5)/\x6:=⟨⟨⟨⟨⟨⟨⟨trivial,h0⟩,h1⟩,h2⟩,h3⟩,h4⟩,h5⟩,h6⟩
def a8_ {h O x2 x3 x4 x5 x6 x7:Prop}(h0:h)(h1:O)(h2:x2)(h3:x3)(h4:x4)(h5:x5)(h6:x6)(h7:x7):(((((((True/\h)/\O)/\x2)/\x3)/\x4)/\x5)/\x6)/\x7:=⟨⟨⟨⟨⟨⟨⟨⟨trivial,h0⟩,h1⟩,h2⟩,h3⟩,h4⟩,h5⟩,h6⟩,h7⟩
def a9_ {h O x2 x3 x4 x5 x6 x7 x8:Prop}(h0:h)(h1:O)(h2:x2)(h3:x3)(h4:x4)(h5:x5)(h6:x6)(h7:x7)(h8:x8):((((((((True/\h)/\O)/\x2)/\x3)/\x4)/\x5)/\x6)/\x7)/\x8:=⟨⟨⟨⟨⟨⟨⟨⟨⟨trivial,h0⟩,h1⟩,h2⟩,h3⟩,h4⟩,h5⟩,h6⟩,h7⟩,h8⟩
def aA_ {h O x2 x3 x4 x5 x6 x7 x8 x9:Prop}(h0:h)(h1:O)(h2:x2)(h3:x3)(h4:x4)(h5:x5)(h6:x6)(h7:x7)(h8:x8)(h9:x9):(((((((((True/\h)/\O)/\x2)/\x3)/\x4)/\x5)/\x6)/\x7)/\x8)/\x9:=⟨⟨⟨⟨⟨⟨⟨⟨⟨⟨trivial,h0⟩,h1⟩,h2⟩,h3⟩,h4⟩,h5⟩,h6⟩,h7⟩,h8⟩,h9⟩
def r1_ {α:Type}{a0:α}:a0=a0/\True:=⟨rfl,trivial⟩
def r2_ {α:Type}{a0 h:α}:a0=a0/\h=h/\True:=⟨rfl,rfl,trivial⟩
def r3_ {α:Type}{a0 h O:α}:a0=a0/\h=h/\O=O/\True:=⟨rfl,rfl,rfl,trivial⟩
def r4_ {α:Type}{a0 h O a3:α}:a0=a0/\h=h/\O=O/\a3=a3/\True:=⟨rfl,rfl,rfl,rfl,trivial⟩
def r5_ {α:Type}{a0 h O a3 a4:α}:a0=a0/\h=h/\O=O/\a3=a3/\a4=a4/\True:=⟨rfl,rfl,rfl,rfl,rfl,trivial⟩
def r8_ {α:Type}{a0 h O a3 a4 a5 a6 a7:α}:a0=a0/\h=h/\O=O/\a3=a3/\a4=a4/\a5=a5/\a6=a6/\a7=a7/\True:=⟨rfl,rfl,rfl,rfl,rfl,rfl,rfl,rfl,trivial⟩
def rA_ {α:Type}{a0 h O a3 a4 a5 a6 a7 a8 a9:α}:a0=a0/\h=h/\O=O/\a3=a3/\a4=a4/\a5=a5/\a6=a6/\a7=a7/\a8=a8/\a9=a9/\True:=⟨rfl,rfl,rfl,rfl,rfl,rfl,rfl,rfl,rfl,rfl,trivial⟩
def rB_ {α:Type}{a0 O a2 a3 a4 a5 a6 a7 a8 a9 h:α}:a0=a0/\O=O/\a2=a2/\a3=a3/\a4=a4/\a5=a5/\a6=a6/\a7=a7/\a8=a8/\a9=a9/\h=h/\True:=⟨rfl,rfl,rfl,rfl,rfl,rfl,rfl,rfl,rfl,rfl,rfl,trivial⟩
def wk_ {f:FuncId}{fn:Func}{c:Code}{args:L_ V}{hs:H_}{post:V->H_->Prop}(n:Nat)(hf:prog.funcs[f]? = some fn)(h:∀C:Xs,JA prog C n->AK prog C (QeY prog fn.results.toList post) (.c c) [] ⟨OG 0 args,hs⟩)(hb:fn.body=some c:=by rfl)(hn:fn.ntmps=n:=by rfl)(O:(Nat.ble args.length n&&Nat.ble n 639)=true:=by rfl):QQ prog f args hs post:=QQ.walk n hf hb hn O h
def mt_ {C:Xs}{Q:Exit->St->Prop}{ks:L_ Fr}{σ:St}:AK prog C Q (.x .normal) (.cut (λs=>s=σ)::ks) σ:=AK.met rfl
def cb_ {a b:Bool}(h:a=b):V.b a=V.b b:=congrArg V.b h
def tc_ {a b:Bool}(h:a=b):True/\V.b a=V.b b:=⟨trivial,congrArg V.b h⟩
def Qww : Exit->Bool
 |.normal=>true|.ret=>true|_=>false
def tg_ {C:Xs}{Q:Exit->St->Prop}{n:Nat}{pt pt1:Pt}{ks ks1:L_ Fr}{σ σ1:St}(hC:JA prog C n)(O:L_ Cv)(h:AK prog C Q pt1 ks1 σ1)(e:Vm.go prog C Eu n O pt ks σ True=some ⟨pt1,ks1,σ1,True⟩:=by rfl):AK prog C Q pt ks σ:=AK.go QU hC O e trivial h
def Qy8 {c:Bool}{β:Type}{f:Unit->O_ β}{r:β}(h:(chk c).bind f=some r):c=true/\f ()=some r:=by
 obtain⟨_,k,h⟩:=XO h;exact⟨QiE k,h⟩
def Z {α:Sort _}{a:α}:a=a:=rfl
def bE_ {α β:Type}{a:O_ α}{k:α->O_ β}{r:β}{G:Prop}(h:a.bind k=some r)(f:∀x,a=some x->k x=some r->G):G:=by
 obtain⟨x,O,h2⟩:=XO h;exact f x O h2
def cB_ {c:Bool}{β:Type}{k:Unit->O_ β}{r:β}{G:Prop}(h:(chk c).bind k=some r)(f:c=true->k ()=some r->G):G:=by
 obtain⟨_,O,h2⟩:=XO h;exact f (QiE O) h2
def bf_ {α:Type}{c:Bool}{x y:O_ α}{r:α}{G:Prop}(h:(bif c then x else y)=some r)(f:c=true->x=some r->G)(g:c=false->y=some r->G):G:=by
 cases c
 ·exact g rfl h
 exact f rfl h
def Oo (σ s:St):O_ St:=match Xz σ.fr (s.fr.map Prod.fst)with
 |some a=>match Xz σ.hp (s.hp.map Prod.fst)with|some b=>bif St.closed ⟨a,b⟩then some ⟨a,b⟩else none|none=>none
 |none=>none
def Lb {P:Program}{C:Xs}{Q:Exit->St->Prop}{pt:Pt}{ks:L_ Fr}{σ s:St}(e:Oo σ s=some s)(k:AK P C Q pt ks s):AK P C Q pt ks σ:=by
 unfold Oo at e;split at e
 ·rename_i a ha;split at e
  ·rename_i b hb;replace e:=XV e;obtain⟨hc,e⟩:=e;cases e;exact AK.weaken (λh w O=>R.to O (Qsb (Rp ha)) (QlX (Rp hb)) hc) k
  cases e
 cases e
def rS {τ ρ:Type}(E:τ->St)(X:ρ->Exit×St)(o:τ⊕ρ):Exit->St->Prop:=QrW (λt s=>s=E t) (λq e s=>e=(X q).1/\s=(X q).2) o
def cS {β:Type}(E:β->St)(v:β)(s:St):Prop:=s=E v
def no_ {α:Type}(_:α):H_:=[]
def CP {α:Type}(f:Nat)(us:L_ V)(h:H_)(o:O_ α)(post:α->V->H_->Prop):Prop:=∀r,o=some r->QQ prog f us h (post r)
def CT {α:Type}(f:Nat)(us:L_ V)(h:H_)(o:O_ α)(V:α->V)(O:α->H_):Prop:=CP f us h o λr=>Gives (V r) (O r)
def Qwx {α:Type}(h:L_ ResultVar)(post:α->V->H_->Prop)(r:α):Exit->St->Prop:=QeY prog h (post r)
def AF {α:Type}(C:Xs)(n:Nat)(o:O_ α)(r:α)(Q:Exit->St->Prop)(pt:Pt)(ks:L_ Fr)(σ:St):Prop:=JA prog C n->o=some r->AK prog C Q pt ks σ
def pl_ (C:Xs)(n k:Nat)(pt:Pt)(ks:L_ Fr)(σ:St):O_ Cfg:=plain prog C Eu n k pt ks σ True
def YD {C:Xs}{n k:Nat}{pt pt1:Pt}{ks ks1:L_ Fr}{σ σ1:St}{φ:Prop}{Q:Exit->St->Prop}(O:JA prog C n)(e:pl_ C n k pt ks σ=some ⟨pt1,ks1,σ1,φ⟩)(hφ:φ)(h:AK prog C Q pt1 ks1 σ1):AK prog C Q pt ks σ:=by
 refine AK.go QU O [.n k] ?_ hφ h;unfold pl_ at e;simp only[Vm.go,e]
def brA (C:Xs)(n k:Nat)(pt:Pt)(ks:L_ Fr)(σ:St):O_ (Bool×L_ Fr×Pt×St×Pt×St×Prop):=match pl_ C n k pt ks σ with
 |some ⟨.c (.cond p x y),ks1,s,φ⟩=>match s.opd p with|some (.b c)=>some (c,ks1,.c x,s,.c y,s,φ)|_=>none
 |some ⟨.o ops (o::l),ks1,s,φ⟩=>match o.guard with
  |some (j,_)=>match ops[j]? with
   |some h=>match h.dst with
    |some d=>match Go.Vm.look s.fr d with|some (.b c)=>some (c,ks1,.o ops (o::l),s.put d (.b true),.o ops (o::l),s.put d (.b false),φ)|_=>none
    |none=>none
   |none=>none
  |none=>none
 |_=>none
def Qnq {C:Xs}{n k:Nat}{pt p q:Pt}{ks ks1:L_ Fr}{σ s t:St}{c:Bool}{Q:Exit->St->Prop}(hC:JA prog C n)(e:brA C n k pt ks σ=some (c,ks1,p,s,q,t,True))(f:c=true->AK prog C Q p ks1 s)(g:c=false->AK prog C Q q ks1 t):AK prog C Q pt ks σ:=by
 unfold brA at e;split at e
 ·rename_i p x y ks1 s φ hp;split at e
  ·rename_i c h;cases e;refine YD hC hp trivial ?_;cases c
   ·exact Yz.cond_false h (g rfl)
   exact Yz.cond_true h (f rfl)
  cases e
 ·rename_i ops o l ks1 s φ hp;split at e
  ·split at e
   ·split at e
    ·split at e
     ·rename_i d _ c h;cases e;refine YD hC hp trivial ?_;cases c
      ·exact AK.weaken (λa w O=>R.say ⟨_,h,rfl⟩ O) (g rfl)
      exact AK.weaken (λa w O=>R.say ⟨_,h,rfl⟩ O) (f rfl)
     cases e
    cases e
   cases e
  cases e
 cases e
def enA (C:Xs)(n k:Nat)(pt:Pt)(ks:L_ Fr)(σ s:St):O_ (Exit×L_ Fr×St×Prop):=match pl_ C n k pt ks σ with
 |some ⟨.x e,ks1,t,φ⟩=>match Oo t s with|some h=>some (e,ks1,h,φ)|none=>none
 |_=>none
def Qt7 {C:Xs}{n k:Nat}{pt:Pt}{ks ks1:L_ Fr}{σ s:St}{x:Exit}{Q:Exit->St->Prop}(O:JA prog C n)(e:enA C n k pt ks σ s=some (x,ks1,s,True))(h:AK prog C Q (.x x) ks1 s):AK prog C Q pt ks σ:=by
 unfold enA at e;split at e
 ·rename_i hp;split at e
  ·rename_i hs;cases e;exact YD O hp trivial (Lb hs h)
  cases e
 cases e
def enP {C:Xs}{n k:Nat}{pt p:Pt}{ks ks1:L_ Fr}{σ σ1 s:St}{Q:Exit->St->Prop}(O:JA prog C n)(e:(pl_ C n k pt ks σ,Oo σ1 s)=(some ⟨p,ks1,σ1,True⟩,some s))(h:AK prog C Q p ks1 s):AK prog C Q pt ks σ:=YD O (congrArg Prod.fst e) trivial (Lb (congrArg Prod.snd e) h)
def jn (d:S_×H_)(a:S_)(b:H_):St:=⟨d.1++a,d.2++b⟩
def wP_ {α:Type}{f:FuncId}{fn:Func}{c:Code}{args:L_ V}{hs:H_}{o:O_ α}{post:α->V->H_->Prop}(n:Nat)(hf:prog.funcs[f]? = some fn)(O:(fn.body,fn.ntmps,Nat.ble args.length n&&Nat.ble n 639)=(some c,n,true))(h:∀{C:Xs} {r:α},AF C n o r (Qwx fn.results.toList post r) (.c c) [] ⟨OG 0 args,hs⟩):CP f args hs o post:=λ_ e=>QQ.walk n hf (congrArg (λx=>x.1) O) (congrArg (λx=>x.2.1) O) (congrArg (λx=>x.2.2) O) λ_ hC=>h hC e
def W {α:Type}{f:FuncId}{fn:Func}{c:Code}{args:L_ V}{hs:H_}{o:O_ α}{V:α->V}{O:α->H_}(n:Nat)(hf:prog.funcs[f]? = some fn)(hb:(fn.body,fn.ntmps,Nat.ble args.length n&&Nat.ble n 639)=(some c,n,true))(h:∀{C:Xs} {r:α},AF C n o r (Qwx fn.results.toList (λr=>Gives (V r) (O r)) r) (.c c) [] ⟨OG 0 args,hs⟩):CT f args hs o V O:=wP_ n hf hb h
section
variable {α β:Type}{C:Xs}{n:Nat}{Q:Exit->St->Prop}{r:α}{o:O_ α}{pt pt1:Pt}{ks ks1:L_ Fr}{σ σ1:St}{φ:Prop}
def gA_ (O:L_ Cv)(e:Vm.go prog C Eu n O pt ks σ True=some ⟨pt1,ks1,σ1,φ⟩)(hφ:φ)(h:AF C n o r Q pt1 ks1 σ1):AF C n o r Q pt ks σ:=λhC a=>AK.go QU hC O e hφ (h hC a)
def K (ds:L_ Cv)(e:Vm.go prog C Eu n ds pt ks σ True=some ⟨pt1,ks1,σ1,φ⟩)(hφ:JA prog C n->φ)(h:AF C n o r Q pt1 ks1 σ1):AF C n o r Q pt ks σ:=λO a=>AK.go QU O ds e (hφ O) (h O a)
def gT_ (O:L_ Cv)(e:Vm.go prog C Eu n O pt ks σ True=some ⟨pt1,ks1,σ1,True⟩)(h:AF C n o r Q pt1 ks1 σ1):AF C n o r Q pt ks σ:=gA_ O e trivial h
def G {x:Prop}(O:L_ Cv)(e:Vm.go prog C Eu n O pt ks σ True=some ⟨pt1,ks1,σ1,True/\x⟩)(a:x)(h:AF C n o r Q pt1 ks1 σ1):AF C n o r Q pt ks σ:=gA_ O e ⟨trivial,a⟩ h
def g2_ {x y:Prop}(O:L_ Cv)(e:Vm.go prog C Eu n O pt ks σ True=some ⟨pt1,ks1,σ1,(True/\x)/\y⟩)(a:x)(b:y)(h:AF C n o r Q pt1 ks1 σ1):AF C n o r Q pt ks σ:=gA_ O e ⟨⟨trivial,a⟩,b⟩ h
def g3_ {x y z:Prop}(O:L_ Cv)(e:Vm.go prog C Eu n O pt ks σ True=some ⟨pt1,ks1,σ1,((True/\x)/\y)/\z⟩)(a:x)(b:y)(c:z)(h:AF C n o r Q pt1 ks1 σ1):AF C n o r Q pt ks σ:=gA_ O e ⟨⟨⟨trivial,a⟩,b⟩,c⟩ h
def gP_ (k:Nat)(e:pl_ C n k pt ks σ=some ⟨pt1,ks1,σ1,True⟩)(h:AF C n o r Q pt1 ks1 σ1):AF C n o r Q pt ks σ:=λO a=>YD O e trivial (h O a)
def B {a:O_ β}{f:β->O_ α}(h:∀v,a=some v->AF C n (f v) r Q pt ks σ):AF C n (a.bind f) r Q pt ks σ:=λhC e=>bE_ e λx O h2=>h x O hC h2
def kA_ {c:Bool}{f:Unit->O_ α}(h:c=true->AF C n (f ()) r Q pt ks σ):AF C n ((chk c).bind f) r Q pt ks σ:=λhC e=>cB_ e λO h2=>h O hC h2
def I {c:Bool}{x y:O_ α}{p q:Pt}{s t:St}(k:Nat)(e:brA C n k pt ks σ=some (c,ks1,p,s,q,t,True))(f:AF C n x r Q p ks1 s)(g:AF C n y r Q q ks1 t):AF C n (bif c then x else y) r Q pt ks σ:=λO a=>bf_ a (λh b=>Qnq O e (λ_=>f O b) λu=>Bool.noConfusion (h.symm.trans u)) λh b=>Qnq O e (λu=>Bool.noConfusion (h.symm.trans u)) λ_=>g O b
def H {c:Bool}{p q:Pt}{s t:St}(k:Nat)(e:brA C n k pt ks σ=some (c,ks1,p,s,q,t,True))(f:c=true->AF C n o r Q p ks1 s)(g:c=false->AF C n o r Q q ks1 t):AF C n o r Q pt ks σ:=λO a=>Qnq O e (λh=>f h O a) λh=>g h O a
def J {row:β->L_ V}{l:L_ β}{j:Int}{f:β->O_ α}{σ1:β->St}(k:Nat)(e:(λd=>Vm.go prog C Eu n [.n k,.o (.row (row d))] pt ks σ True)=λd=>some ⟨pt1,ks1,σ1 d,True/\(0<=j/\(l.map row)[j.toNat]? = some (row d))⟩)(h:∀d,AF C n (f d) r Q pt1 ks1 (σ1 d)):AF C n ((idx l j).bind f) r Q pt ks σ:=λO a=>bE_ a λd h1 h2=>AK.go QU O _ (congrFun e d) ⟨trivial,KJ h1⟩ (h d O h2)
def N {row:β->L_ V}{l:L_ β}(k:Nat)(e:Vm.go prog C Eu n [.n k,.o (.ln l.length)] pt ks σ True=some ⟨pt1,ks1,σ1,True/\(l.map row).length=l.length⟩)(h:AF C n o r Q pt1 ks1 σ1):AF C n o r Q pt ks σ:=gA_ _ e ⟨trivial,Ql⟩ h
def xR_ {rw:L_ β->L_ (L_ V)}{row:β->L_ V}{l:L_ β}{j:Int}{f:β->O_ α}{σ1:β->St}(k:Nat)(p:∀{l:L_ β} {j:Int} {d:β},idx l j=some d->0<=j/\(rw l)[j.toNat]? = some (row d))(e:(λd=>Vm.go prog C Eu n [.n k,.o (.row (row d))] pt ks σ True)=λd=>some ⟨pt1,ks1,σ1 d,True/\(0<=j/\(rw l)[j.toNat]? = some (row d))⟩)(h:∀d,idx l j=some d->AF C n (f d) r Q pt1 ks1 (σ1 d)):AF C n ((idx l j).bind f) r Q pt ks σ:=λhC a=>bE_ a λd O h2=>AK.go QU hC _ (congrFun e d) ⟨trivial,p O⟩ (h d O hC h2)
def nR_ {rw:L_ β->L_ (L_ V)}{l:L_ β}(k:Nat)(p:∀l,(rw l).length=l.length)(e:Vm.go prog C Eu n [.n k,.o (.ln l.length)] pt ks σ True=some ⟨pt1,ks1,σ1,True/\(rw l).length=l.length⟩)(h:AF C n o r Q pt1 ks1 σ1):AF C n o r Q pt ks σ:=gA_ _ e ⟨trivial,p _⟩ h
def dM_ : L_ V->L_ Vm.Mode
 |[]=>[]|_::l=>.d::dM_ l
def A {a:O_ β}{f:β->O_ α}{fn:Nat}{us:L_ V}{W:β->V}{σ1:β->St}(k:Nat)(c:CT fn us [] a W no_)(e:(λv=>Vm.go prog C Eu n [.n k,.o (.c false (dM_ us) (W v))] pt ks σ True)=λv=>some ⟨pt1,ks1,σ1 v,True/\QQ prog fn us [] (Gives (W v) [])⟩)(h:∀v,AF C n (f v) r Q pt1 ks1 (σ1 v)):AF C n (a.bind f) r Q pt ks σ:=λO b=>bE_ b λd h1 h2=>AK.go QU O _ (congrFun e d) ⟨trivial,c _ h1⟩ (h d O h2)
def oC_ {a:O_ (L_ β)}{f:L_ β->O_ α}{fn:Nat}{us:L_ V}{z:Nat}{row:β->L_ V}{σ1:L_ β->St}(k:Nat)(ms:L_ Vm.Mode)(c:CT fn us [] a (λv=>.own 600 v.length) λv=>[(600,.arr z (v.map row))])(e:(λv=>Vm.go prog C Eu n [.n k,.o (.co false ms z (v.map row) v.length)] pt ks σ True)=λv=>some ⟨pt1,ks1,σ1 v,True/\(QQ prog fn us [] (Gives (.own 600 v.length) [(600,.arr z (v.map row))])/\(v.map row).length=v.length/\(false=false\/∀r∈v.map row,∀v∈r,v.sca=true))⟩)(h:∀v,AF C n (f v) r Q pt1 ks1 (σ1 v)):AF C n (a.bind f) r Q pt ks σ:=λO b=>bE_ b λd h1 h2=>AK.go QU O _ (congrFun e d) ⟨trivial,c _ h1,Ql,.inl rfl⟩ (h d O h2)
def zA_ {a:O_ β}{f:β->O_ α}{fn:Nat}{us:L_ V}{hs:H_}{W:β->V}{O:β->H_}{σ1:β->St}(k:Nat)(en:Ent)(M N:L_ (Nat×Nat))(dead:L_ Nat)(c:CT fn us hs a W O)(e:(λv=>Vm.go prog C Eu n [.n k,.cm en M N dead (dM_ us) (O v) (W v)] pt ks σ True)=λv=>some ⟨pt1,ks1,σ1 v,True/\QQ prog fn us hs (Gives (W v) (O v))⟩)(h:∀v,AF C n (f v) r Q pt1 ks1 (σ1 v)):AF C n (a.bind f) r Q pt ks σ:=λhC b=>bE_ b λd h1 h2=>AK.go QU hC _ (congrFun e d) ⟨trivial,c _ h1⟩ (h d hC h2)
def sw_ : L_ (Nat×Nat)->L_ (Nat×Nat)
 |[]=>[]|(a,b)::l=>(b,a)::sw_ l
def S {a:O_ β}{f:β->O_ α}{fn:Nat}{us:L_ V}{hs:H_}{W:β->V}{O:β->H_}{σ1:β->St}(k:Nat)(en:Ent)(M:L_ (Nat×Nat))(c:CT fn us hs a W O)(e:(λv=>Vm.go prog C Eu n [.n k,.cm en M (sw_ M) [] (dM_ us) (O v) (W v)] pt ks σ True)=λv=>some ⟨pt1,ks1,σ1 v,True/\QQ prog fn us hs (Gives (W v) (O v))⟩)(h:∀v,AF C n (f v) r Q pt1 ks1 (σ1 v)):AF C n (a.bind f) r Q pt ks σ:=zA_ k en M _ _ c e h
def M {v:α}{E:α->St}{O:L_ Fr}(k:Nat)(e:(pl_ C n k pt ks σ,Oo σ1 (E v))=(some ⟨.x .normal,.cut (cS E r)::O,σ1,True⟩,some (E v))):AF C n (some v) r Q pt ks σ:=λhC h=>enP hC e (by cases h;exact mt_)
def tA_ {s0:St}{h:L_ Fr}(k:Nat)(e:(pl_ C n k pt ks σ,Oo σ1 s0)=(some ⟨.x .normal,.cut (λs=>s=s0)::h,σ1,True⟩,some s0)):AF C n o r Q pt ks σ:=λO _=>enP O e (AK.met rfl)
def Y {s0:St}{O:L_ Fr}{b b':Bool}(k x:Nat)(e:(pl_ C n k pt ks σ,Go.Vm.look σ1.fr x,Go.Vm.look s0.fr x,Oo (σ1.put x (.b b)) s0)=(some ⟨.x .normal,.cut (λs=>s=s0)::O,σ1,True⟩,some (.b b'),some (.b b),some s0))(h:b'=b):AF C n o r Q pt ks σ:=λhC _=>by
 simp only[Prod.mk.injEq]at e;obtain⟨e1,e2,-,e4⟩:=e;subst h;exact YD hC e1 trivial (AK.weaken (λa w hR=>R.say ⟨_,e2,rfl⟩ hR) (Lb e4 (AK.met rfl)))
def P {E:β->St}{K:β->O_ α}{v:β}{O:L_ Fr}(k:Nat)(e:pl_ C n k pt ks σ=some ⟨.x .normal,.cut (λs=>∃v,s=E v/\K v=some r)::O,σ1,True⟩){o:O_ α}(a:(K v,Oo σ1 (E v))=(o,some (E v))):AF C n o r Q pt ks σ:=λhC h=>YD hC e trivial (Lb (congrArg Prod.snd a) (AK.met ⟨v,rfl,(congrArg Prod.fst a).trans h⟩))
def uA_ {s0:St}{O:L_ Fr}(k:Nat){o':O_ α}(e:pl_ C n k pt ks σ=some ⟨.x .normal,.cut (λs=>s=s0/\o'=some r)::O,σ1,True⟩)(a:(o',Oo σ1 s0)=(o,some s0)):AF C n o r Q pt ks σ:=λhC h=>YD hC e trivial (Lb (congrArg Prod.snd a) (AK.met ⟨rfl,(congrArg Prod.fst a).trans h⟩))
def fA_ {γ:Type}{E:β->γ->St}{K:β->γ->O_ α}{v:β}{u:γ}{O:L_ Fr}(k:Nat)(e:pl_ C n k pt ks σ=some ⟨.x .normal,.cut (λs=>∃v u,s=E v u/\K v u=some r)::O,σ1,True⟩){o:O_ α}(a:(K v u,Oo σ1 (E v u))=(o,some (E v u))):AF C n o r Q pt ks σ:=λhC h=>YD hC e trivial (Lb (congrArg Prod.snd a) (AK.met ⟨v,u,rfl,(congrArg Prod.fst a).trans h⟩))
def mV_ {a:O_ β}{f:β->O_ α}{c:Code}{fr:S_}{hp:H_}(k:Nat)(ts os:L_ Nat)(E:β->S_×H_)(e:(pl_ C n k pt ks σ,Xz σ1.fr ts,Xz σ1.hp os)=(some ⟨.c c,ks1,σ1,True⟩,some fr,some hp))(g:∀{x},AF C n a x Q (.c c) (.cut (cS (λx=>jn (E x) fr hp) x)::ks1) σ1)(h:∀x,AF C n (f x) r Q (.x .normal) ks1 (jn (E x) fr hp)):AF C n (a.bind f) r Q pt ks σ:=λO b=>bE_ b λx h1 h2=>YD O (congrArg Prod.fst e) trivial (AK.meetX _ (g O h1) λs (e:s=jn (E x) fr hp)=>e▸h x O h2)
def T {c:Code}{fr:S_}{hp:H_}(k:Nat)(ts os:L_ Nat)(s0:S_×H_)(e:(pl_ C n k pt ks σ,Xz σ1.fr ts,Xz σ1.hp os)=(some ⟨.c c,ks1,σ1,True⟩,some fr,some hp))(g:AF C n o r Q (.c c) (.cut (λs=>s=jn s0 fr hp)::ks1) σ1)(h:AF C n o r Q (.x .normal) ks1 (jn s0 fr hp)):AF C n o r Q pt ks σ:=λO b=>YD O (congrArg Prod.fst e) trivial (AK.meetX _ (g O b) λ_ e=>e▸h O b)
def mE_ {c d:Code}{fr:S_}{hp:H_}(k:Nat)(ts os:L_ Nat)(E:β->S_×H_)(K:β->O_ α)(e:(pl_ C n k pt ks σ,Xz σ1.fr ts,Xz σ1.hp os)=(some ⟨.c (.seq c d),ks1,σ1,True⟩,some fr,some hp))(g:AF C n o r Q (.c c) (.cut (λs=>∃v,s=jn (E v) fr hp/\K v=some r)::ks1) σ1)(h:∀x,AF C n (K x) r Q (.c d) ks1 (jn (E x) fr hp)):AF C n o r Q pt ks σ:=λO b=>YD O (congrArg Prod.fst e) trivial (AK.meet _ (g O b) λ_ ⟨v,e,a⟩=>e▸h v O a)
def mU_ {c d:Code}{fr:S_}{hp:H_}(k:Nat)(ts os:L_ Nat)(s0:S_×H_)(o':O_ α)(e:(pl_ C n k pt ks σ,Xz σ1.fr ts,Xz σ1.hp os)=(some ⟨.c (.seq c d),ks1,σ1,True⟩,some fr,some hp))(g:AF C n o r Q (.c c) (.cut (λs=>s=jn s0 fr hp/\o'=some r)::ks1) σ1)(h:AF C n o' r Q (.c d) ks1 (jn s0 fr hp)):AF C n o r Q pt ks σ:=λO b=>YD O (congrArg Prod.fst e) trivial (AK.meet _ (g O b) λ_ ⟨e,a⟩=>e▸h O a)
def mF_ {γ:Type}{c d:Code}{fr:S_}{hp:H_}(k:Nat)(ts os:L_ Nat)(E:β->γ->S_×H_)(K:β->γ->O_ α)(e:(pl_ C n k pt ks σ,Xz σ1.fr ts,Xz σ1.hp os)=(some ⟨.c (.seq c d),ks1,σ1,True⟩,some fr,some hp))(g:AF C n o r Q (.c c) (.cut (λs=>∃v u,s=jn (E v u) fr hp/\K v u=some r)::ks1) σ1)(h:∀x y,AF C n (K x y) r Q (.c d) ks1 (jn (E x y) fr hp)):AF C n o r Q pt ks σ:=λO b=>YD O (congrArg Prod.fst e) trivial (AK.meet _ (g O b) λ_ ⟨v,u,e,a⟩=>e▸h v u O a)
def lA_ {τ ρ:Type}{body:τ->O_ (τ⊕ρ)}{s0:τ}{f:ρ->O_ α}{c:Code}{fr:S_}{hp:H_}{fs:S_}{O:H_}(k:Nat)(ts os:L_ Nat)(E:τ->S_×H_)(us vs:L_ Nat)(X:ρ->Exit×S_×H_)(e:(pl_ C n k pt ks σ,Xz σ1.fr ts,Xz σ1.hp os,Xz σ1.fr us,Xz σ1.hp vs,Oo σ1 (jn (E s0) fr hp))=(some ⟨.c (.loop c),ks1,σ1,True⟩,some fr,some hp,some fs,some O,some (jn (E s0) fr hp)))(g:∀t {o},AF C n (body t) o (rS (λt=>jn (E t) fr hp) (λq=>((X q).1,jn (X q).2 fs O)) o) (.c c) [] (jn (E t) fr hp))(h:∀q,AF C n (f q) r Q (.x (X q).1) ks1 (jn (X q).2 fs O)):AF C n ((Qx body s0).bind f) r Q pt ks σ:=λhC b=>bE_ b λq h1 h2=>YD hC (congrArg Prod.fst e) trivial (Lb (congrArg (λx=>x.k.2) e) (AK.loop (λt s=>s=jn (E t) fr hp) (λq e s=>e=(X q).1/\s=jn (X q).2 fs O) h1 rfl (λt o s O hb=>O▸g t hC hb) λe s O=>by obtain⟨rfl,rfl⟩:=O;exact h q hC h2))
def F {τ ρ ρ':Type}{body:τ->O_ (τ⊕(ρ⊕ρ'))}{s0:τ}{f:ρ->O_ α}{f':ρ'->O_ α}{c:Code}{fr:S_}{hp:H_}{fs fu:S_}{O hu:H_}(k:Nat)(ts os:L_ Nat)(E:τ->S_×H_)(us vs:L_ Nat)(X:ρ->Exit×S_×H_)(xs ys:L_ Nat)(Y:ρ'->Exit×S_×H_)(e:(pl_ C n k pt ks σ,Xz σ1.fr ts,Xz σ1.hp os,Xz σ1.fr us,Xz σ1.hp vs,Xz σ1.fr xs,Xz σ1.hp ys,Oo σ1 (jn (E s0) fr hp))=(some ⟨.c (.loop c),ks1,σ1,True⟩,some fr,some hp,some fs,some O,some fu,some hu,some (jn (E s0) fr hp)))(g:∀t {o},AF C n (body t) o (rS (λt=>jn (E t) fr hp) (Sum.elim (λq=>((X q).1,jn (X q).2 fs O)) λq=>((Y q).1,jn (Y q).2 fu hu)) o) (.c c) [] (jn (E t) fr hp))(h:∀q,AF C n (f q) r Q (.x (X q).1) ks1 (jn (X q).2 fs O))(h':∀q,AF C n (f' q) r Q (.x (Y q).1) ks1 (jn (Y q).2 fu hu)):AF C n ((Qx body s0).bind (Sum.elim f f')) r Q pt ks σ:=λhC b=>bE_ b λq h1 h2=>YD hC (congrArg Prod.fst e) trivial (Lb (congrArg (λx=>x.k.2.2.2) e) (AK.loop (λt s=>s=jn (E t) fr hp) (λq e s=>e=(Sum.elim (λq=>((X q).1,jn (X q).2 fs O)) (λq=>((Y q).1,jn (Y q).2 fu hu)) q).1/\s=(Sum.elim (λq=>((X q).1,jn (X q).2 fs O)) (λq=>((Y q).1,jn (Y q).2 fu hu)) q).2) h1 rfl (λt o s O hb=>O▸g t hC hb) λe s O=>match q,O,h2 with
 |.inl q,O,h2=>by obtain⟨rfl,rfl⟩:=O;exact h q hC h2
 |.inr q,O,h2=>by obtain⟨rfl,rfl⟩:=O;exact h' q hC h2))
end
section
variable {C:Xs}{n:Nat}{pt:Pt}{ks:L_ Fr}{σ:St}{τ ρ:Type}{ee:τ->St}{xx:ρ->Exit×St}{o:τ⊕ρ}
def R {t:τ}(k:Nat)(e:enA C n k pt ks σ (ee t)=some (.normal,[],ee t,True)):AF C n (some (.inl t)) o (rS ee xx o) pt ks σ:=λO h=>Qt7 O e (by cases h;exact AK.done ⟨t,rfl,rfl⟩)
def X {q:ρ}{i:Nat}(k:Nat)(e:(enA C n k pt ks σ (xx q).2,(xx q).1)=(some (.exit i,[],(xx q).2,True),.exit i)):AF C n (some (.inr q)) o (rS ee xx o) pt ks σ:=λO h=>Qt7 O (congrArg Prod.fst e) (by cases h;exact AK.done ⟨q,rfl,(congrArg Prod.snd e).symm,rfl⟩)
def L {q:ρ}(k:Nat)(e:(enA C n k pt ks σ (xx q).2,(xx q).1)=(some (.ret,[],(xx q).2,True),.ret)):AF C n (some (.inr q)) o (rS ee xx o) pt ks σ:=λO h=>Qt7 O (congrArg Prod.fst e) (by cases h;exact AK.done ⟨q,rfl,(congrArg Prod.snd e).symm,rfl⟩)
end
def Qy9 (s:St):ResultVar->O_ V
 |.tmp t=>Go.Vm.look s.fr t|.cell p T=>match Go.Vm.look s.fr p with
  |some (.loc b 0 0)=>match Go.Vm.look s.hp b with
   |some (.var h)=>match Go.Vm.look Eu.ag T with
    |some true=>match Go.Vm.look Eu.sz T with|some k=>bif Nat.beq k h.length then some (.agg h)else none|none=>none
    |some false=>match h with|[v]=>some v|_=>none
    |none=>none
   |_=>none
  |_=>none
def Qt8 (s:St):L_ ResultVar->O_ (L_ V)
 |[]=>some []|x::l=>match Qy9 s x with
  |some v=>match Qt8 s l with|some vs=>some (v::vs)|none=>none
  |none=>none
def Qza {s:St}:∀{l:L_ ResultVar} {vs:L_ V},Qt8 s l=some vs->Res prog s l vs:=by
 intro l
 induction l with
 |nil=>intro vs h;cases h;trivial
 |cons x l ih=>
  intro vs h;rw[Qt8]at h;split at h
  ·rename_i v O;split at h
   ·rename_i us hu;cases h;cases x with
    |tmp t=>exact⟨O,ih hu⟩|cell p T=>
     refine⟨?_,ih hu⟩;dsimp only[Qy9]at O;split at O
     ·rename_i b h1;split at O
      ·rename_i cs h2;split at O
       ·rename_i h3;split at O
        ·rename_i k h4;replace O:=XV O;cases O.2;exact⟨b,cs,h1,h2,.inl ⟨QU.ag h3,(QU.sz h4).trans (congrArg some (Yr O.1)),rfl⟩⟩
        cases O
       ·rename_i h3;split at O
        ·cases O;exact⟨b,_,h1,h2,.inr ⟨QU.ag h3,rfl⟩⟩
        cases O
       cases O
      cases O
     cases O
   cases h
  cases h
section
variable {α:Type}{a q:α}{C:Xs}{n:Nat}{pt:Pt}{ks ks1:L_ Fr}{σ s:St}
def E {p:α->V->H_->Prop}{O:L_ ResultVar}{v:V}{vs:L_ V}{out:H_}{x:Exit}(k:Nat)(e:(pl_ C n k pt ks σ,Qww x,Qt8 s O,QiD vs,p a,Xz s.hp (keys out))=(some ⟨.x x,[],s,True⟩,true,some vs,v,Gives v out,some out)):AF C n (some a) q (Qwx O p q) pt ks σ:=λhC h=>by
 simp only[Prod.mk.injEq]at e;obtain⟨e1,e2,e3,rfl,e5,e6⟩:=e;refine YD hC e1 trivial (AK.done ?_);cases h;have:p a (QiD vs) s.hp:=e5▸gives (QlX (Rp e6));cases x<;>first|exact⟨vs,Qza e3,this⟩|cases e2
end
section
variable {α β γ δ ε ζ:Type}{C:Xs}{n:Nat}{r:α}{o:O_ α}{Q:Exit->St->Prop}{pt pt1:Pt}{ks ks1:L_ Fr}{σ σ1:St}
def Mu (O:JA prog C n)(h:o=some r)(t:AF C n o r Q pt ks σ):AK prog C Q pt ks σ:=t O h
def Qt9 (f:AK prog C Q pt1 ks1 σ1->AK prog C Q pt ks σ)(h:AF C n o r Q pt1 ks1 σ1):AF C n o r Q pt ks σ:=λO a=>f (h O a)
def pA_ {l y:L_ β}{f:Unit->O_ α}(k z:Nat)(row:β->L_ V)(e:Vm.go prog C Eu n [.n k,.v (.bd []) [] (.sl z (y.map row)),.app ((l++y).map row) (l++y).length] pt ks σ True=some ⟨pt1,ks1,σ1,(True/\V.sl z (y.map row)=.sl z (y.map row))/\((l.map row).length=l.length/\decide (l.length+(y.map row).length<=4294967296)=true/\l.map row++y.map row=(l++y).map row/\l.length+(y.map row).length=(l++y).length)⟩)(h:AF C n (f ()) r Q pt1 ks1 σ1):AF C n ((chk (l.length+y.length<=4294967296)).bind f) r Q pt ks σ:=λO a=>cB_ a λh1 h2=>AK.go QU O _ e ⟨⟨trivial,rfl⟩,Ql,Gd h1 Ql,Yg,JB Ql⟩ (h O h2)
def pB_ {l y:L_ β}{f:Unit->O_ α}(k:Nat)(row:β->L_ V)(e:Vm.go prog C Eu n [.n k,.app ((l++y).map row) (l++y).length] pt ks σ True=some ⟨pt1,ks1,σ1,True/\((l.map row).length=l.length/\decide (l.length+(y.map row).length<=4294967296)=true/\l.map row++y.map row=(l++y).map row/\l.length+(y.map row).length=(l++y).length)⟩)(h:AF C n (f ()) r Q pt1 ks1 σ1):AF C n ((chk (l.length+y.length<=4294967296)).bind f) r Q pt ks σ:=λO a=>cB_ a λh1 h2=>AK.go QU O _ e ⟨trivial,Ql,Gd h1 Ql,Yg,JB Ql⟩ (h O h2)
def aD_ (k t b z:Nat)(e:Vm.go prog C Eu n [.n k,.adopt t b z] pt ks σ True=some ⟨pt1,ks1,σ1,True⟩)(h:AF C n o r Q pt1 ks1 σ1):AF C n o r Q pt ks σ:=gT_ _ e h
def zF_ {row:β->L_ V}{l:L_ β}(k b:Nat)(O os:L_ Nat)(e:Vm.go prog C Eu n [.n k,.frz b (l.map row) O os] pt ks σ True=some ⟨pt1,ks1,σ1,True/\(True/\(l.length<=(l.map row).length/\(l.map row).take l.length=l.map row))⟩)(h:AF C n o r Q pt1 ks1 σ1):AF C n o r Q pt ks σ:=gA_ _ e ⟨trivial,trivial,JC Ql⟩ h
def cV_ {γ:Type}{row:γ->L_ V}{l:L_ γ}{a:O_ β}{f:β->O_ α}{fn:Nat}{us:L_ V}{W:β->V}{σ1:β->St}(k:Nat)(ms:L_ Vm.Mode)(c:CT fn us [] a W no_)(e:(λv=>Vm.go prog C Eu n [.n k,.o (.c true ms (W v))] pt ks σ True)=λv=>some ⟨pt1,ks1,σ1 v,True/\((l.length<=(l.map row).length/\(l.map row).take l.length=l.map row)/\QQ prog fn us [] (Gives (W v) []))⟩)(h:∀v,AF C n (f v) r Q pt1 ks1 (σ1 v)):AF C n (a.bind f) r Q pt ks σ:=λO b=>bE_ b λd h1 h2=>AK.go QU O _ (congrFun e d) ⟨trivial,Qth rfl,c _ h1⟩ (h d O h2)
def vI_ {φ:Prop}(k b d:Nat)(e:Vm.go prog C Eu n [.n k,.o (.any (.loc b 0 d) none)] pt ks σ True=some ⟨pt1,ks1,σ1,True/\φ⟩)(h:AF C n o r Q pt1 ks1 σ1)(p:JA prog C n->φ:=by exact λO σ h1 h2 _=>Stp.idxV rfl rfl (QK O.n rfl) (h1 _ _ rfl) (h1 _ _ rfl) (QU.es rfl) (h2 _ _ rfl) (by decide)):AF C n o r Q pt ks σ:=λO a=>AK.go QU O _ e ⟨trivial,p O⟩ (h O a)
def zN_ {row:β->L_ V}{l:L_ β}{ops:Array Oper}{op:Oper}{rest:L_ Oper}{x y:Operand}{T U d z t:Nat}(k:Nat)(hT:prog.underlying T=some (.slice t))(o':O_ α)(e:(pl_ C n k pt ks σ,op.guard,op.op,op.dst,Nat.ble (d+1) n,σ1.opd x,σ1.opd y)=(some ⟨.o ops (op::rest),ks1,σ1,True⟩,none,.binOp .eql T x y U,some d,true,some (.sl z (l.map row)),some (.Y)))(h1:AF C n o' r Q (.o ops rest) ks1 (σ1.put d (.b true)))(h2:AF C n o r Q (.o ops rest) ks1 (σ1.put d (.b false)))(h0:l=[]->o=o':=by intro h;subst h;rfl):AF C n o r Q pt ks σ:=λO a=>by
 simp only[Prod.mk.injEq]at e;obtain⟨e1,e2,e3,e4,e5,e6,e7⟩:=e;exact YD O e1 trivial (AK.eqNil e2 e3 e4 (QK O.n e5) e6 e7 hT (λh=>h1 O ((h0 (List.map_eq_nil_iff.1 h)).symm.trans a)) (h2 O a))
def Qzb {γ1 γ2:Type}{c d:Code}{fr:S_}{hp:H_}(k:Nat)(ts os:L_ Nat)(E:β->γ1->γ2->S_×H_)(K:β->γ1->γ2->O_ α)(e:(pl_ C n k pt ks σ,Xz σ1.fr ts,Xz σ1.hp os)=(some ⟨.c (.seq c d),ks1,σ1,True⟩,some fr,some hp))(g:AF C n o r Q (.c c) (.cut (λs=>∃v0 O v2,s=jn (E v0 O v2) fr hp/\K v0 O v2=some r)::ks1) σ1)(h:∀v0 O v2,AF C n (K v0 O v2) r Q (.c d) ks1 (jn (E v0 O v2) fr hp)):AF C n o r Q pt ks σ:=λhC b=>YD hC (congrArg Prod.fst e) trivial (AK.meet _ (g hC b) λ_ ⟨v0,O,v2,e,a⟩=>e▸h v0 O v2 hC a)
def Qsk {γ1 γ2:Type}{E:β->γ1->γ2->St}{K:β->γ1->γ2->O_ α}{v0:β}{O:γ1}{v2:γ2}{ks0:L_ Fr}(k:Nat)(e:pl_ C n k pt ks σ=some ⟨.x .normal,.cut (λs=>∃v0 O v2,s=E v0 O v2/\K v0 O v2=some r)::ks0,σ1,True⟩){o:O_ α}(a:(K v0 O v2,Oo σ1 (E v0 O v2))=(o,some (E v0 O v2))):AF C n o r Q pt ks σ:=λhC h=>YD hC e trivial (Lb (congrArg Prod.snd a) (AK.met ⟨v0,O,v2,rfl,(congrArg Prod.fst a).trans h⟩))
def QAn {γ1 γ2 γ3:Type}{c d:Code}{fr:S_}{hp:H_}(k:Nat)(ts os:L_ Nat)(E:β->γ1->γ2->γ3->S_×H_)(K:β->γ1->γ2->γ3->O_ α)(e:(pl_ C n k pt ks σ,Xz σ1.fr ts,Xz σ1.hp os)=(some ⟨.c (.seq c d),ks1,σ1,True⟩,some fr,some hp))(g:AF C n o r Q (.c c) (.cut (λs=>∃v0 O v2 v3,s=jn (E v0 O v2 v3) fr hp/\K v0 O v2 v3=some r)::ks1) σ1)(h:∀v0 O v2 v3,AF C n (K v0 O v2 v3) r Q (.c d) ks1 (jn (E v0 O v2 v3) fr hp)):AF C n o r Q pt ks σ:=λhC b=>YD hC (congrArg Prod.fst e) trivial (AK.meet _ (g hC b) λ_ ⟨v0,O,v2,v3,e,a⟩=>e▸h v0 O v2 v3 hC a)
def Qzc {γ1 γ2 γ3:Type}{E:β->γ1->γ2->γ3->St}{K:β->γ1->γ2->γ3->O_ α}{v0:β}{O:γ1}{v2:γ2}{v3:γ3}{ks0:L_ Fr}(k:Nat)(e:pl_ C n k pt ks σ=some ⟨.x .normal,.cut (λs=>∃v0 O v2 v3,s=E v0 O v2 v3/\K v0 O v2 v3=some r)::ks0,σ1,True⟩){o:O_ α}(a:(K v0 O v2 v3,Oo σ1 (E v0 O v2 v3))=(o,some (E v0 O v2 v3))):AF C n o r Q pt ks σ:=λhC h=>YD hC e trivial (Lb (congrArg Prod.snd a) (AK.met ⟨v0,O,v2,v3,rfl,(congrArg Prod.fst a).trans h⟩))
def Qua {γ1 γ2 γ3 γ4 γ5 γ6 γ7 γ8 γ9:Type}{c d:Code}{fr:S_}{hp:H_}(k:Nat)(ts os:L_ Nat)(E:β->γ1->γ2->γ3->γ4->γ5->γ6->γ7->γ8->γ9->S_×H_)(K:β->γ1->γ2->γ3->γ4->γ5->γ6->γ7->γ8->γ9->O_ α)(e:(pl_ C n k pt ks σ,Xz σ1.fr ts,Xz σ1.hp os)=(some ⟨.c (.seq c d),ks1,σ1,True⟩,some fr,some hp))(g:AF C n o r Q (.c c) (.cut (λs=>∃v0 O v2 v3 v4 v5 v6 v7 v8 v9,s=jn (E v0 O v2 v3 v4 v5 v6 v7 v8 v9) fr hp/\K v0 O v2 v3 v4 v5 v6 v7 v8 v9=some r)::ks1) σ1)(h:∀v0 O v2 v3 v4 v5 v6 v7 v8 v9,AF C n (K v0 O v2 v3 v4 v5 v6 v7 v8 v9) r Q (.c d) ks1 (jn (E v0 O v2 v3 v4 v5 v6 v7 v8 v9) fr hp)):AF C n o r Q pt ks σ:=λhC b=>YD hC (congrArg Prod.fst e) trivial (AK.meet _ (g hC b) λ_ ⟨v0,O,v2,v3,v4,v5,v6,v7,v8,v9,e,a⟩=>e▸h v0 O v2 v3 v4 v5 v6 v7 v8 v9 hC a)
def Qkl {γ1 γ2 γ3 γ4 γ5 γ6 γ7 γ8 γ9:Type}{E:β->γ1->γ2->γ3->γ4->γ5->γ6->γ7->γ8->γ9->St}{K:β->γ1->γ2->γ3->γ4->γ5->γ6->γ7->γ8->γ9->O_ α}{v0:β}{O:γ1}{v2:γ2}{v3:γ3}{v4:γ4}{v5:γ5}{v6:γ6}{v7:γ7}{v8:γ8}{v9:γ9}{ks0:L_ Fr}(k:Nat)(e:pl_ C n k pt ks σ=some ⟨.x .normal,.cut (λs=>∃v0 O v2 v3 v4 v5 v6 v7 v8 v9,s=E v0 O v2 v3 v4 v5 v6 v7 v8 v9/\K v0 O v2 v3 v4 v5 v6 v7 v8 v9=some r)::ks0,σ1,True⟩){o:O_ α}(a:(K v0 O v2 v3 v4 v5 v6 v7 v8 v9,Oo σ1 (E v0 O v2 v3 v4 v5 v6 v7 v8 v9))=(o,some (E v0 O v2 v3 v4 v5 v6 v7 v8 v9))):AF C n o r Q pt ks σ:=λhC h=>YD hC e trivial (Lb (congrArg Prod.snd a) (AK.met ⟨v0,O,v2,v3,v4,v5,v6,v7,v8,v9,rfl,(congrArg Prod.fst a).trans h⟩))
def nO_ : AF C n (none:O_ α) r Q pt ks σ:=λ_ h=>by cases h
def jF_ {c:Bool}{x y:O_ α}(f:c=true->AF C n x r Q pt ks σ)(g:c=false->AF C n y r Q pt ks σ):AF C n (bif c then x else y) r Q pt ks σ:=λO a=>bf_ a (λh b=>f h O b) λh b=>g h O b
def s2_ {a:O_ (β⊕γ)}{f:β->O_ α}{g:γ->O_ α}(h1:∀v,a=some (.inl v)->AF C n (f v) r Q pt ks σ)(h2:∀v,a=some (.inr v)->AF C n (g v) r Q pt ks σ):AF C n (a.bind (Sum.elim f g)) r Q pt ks σ:=λO b=>bE_ b λx h a=>match x,h,a with|.inl v,h,a=>h1 v h O a|.inr v,h,a=>h2 v h O a
def s3_ {a:O_ (β⊕(γ⊕δ))}{f:β->O_ α}{g:γ->O_ α}{k:δ->O_ α}(O:∀v,a=some (.inl v)->AF C n (f v) r Q pt ks σ)(h2:∀v,a=some (.inr (.inl v))->AF C n (g v) r Q pt ks σ)(h3:∀v,a=some (.inr (.inr v))->AF C n (k v) r Q pt ks σ):AF C n (a.bind (Sum.elim f (Sum.elim g k))) r Q pt ks σ:=s2_ O λv h=>match v,h with|.inl v,h=>h2 v h|.inr v,h=>h3 v h
def s4_ {a:O_ (β⊕(γ⊕(δ⊕ε)))}{f:β->O_ α}{g:γ->O_ α}{k:δ->O_ α}{l:ε->O_ α}(O:∀v,a=some (.inl v)->AF C n (f v) r Q pt ks σ)(h2:∀v,a=some (.inr (.inl v))->AF C n (g v) r Q pt ks σ)(h3:∀v,a=some (.inr (.inr (.inl v)))->AF C n (k v) r Q pt ks σ)(h4:∀v,a=some (.inr (.inr (.inr v)))->AF C n (l v) r Q pt ks σ):AF C n (a.bind (Sum.elim f (Sum.elim g (Sum.elim k l)))) r Q pt ks σ:=s3_ O h2 λv h=>match v,h with|.inl v,h=>h3 v h|.inr v,h=>h4 v h
def s5_ {a:O_ (β⊕(γ⊕(δ⊕(ε⊕ζ))))}{f:β->O_ α}{g:γ->O_ α}{k:δ->O_ α}{l:ε->O_ α}{m:ζ->O_ α}(O:∀v,a=some (.inl v)->AF C n (f v) r Q pt ks σ)(h2:∀v,a=some (.inr (.inl v))->AF C n (g v) r Q pt ks σ)(h3:∀v,a=some (.inr (.inr (.inl v)))->AF C n (k v) r Q pt ks σ)(h4:∀v,a=some (.inr (.inr (.inr (.inl v))))->AF C n (l v) r Q pt ks σ)(h5:∀v,a=some (.inr (.inr (.inr (.inr v))))->AF C n (m v) r Q pt ks σ):AF C n (a.bind (Sum.elim f (Sum.elim g (Sum.elim k (Sum.elim l m))))) r Q pt ks σ:=s4_ O h2 h3 λv h=>match v,h with|.inl v,h=>h4 v h|.inr v,h=>h5 v h
def lN_ {c:Code}(k m:Nat)(e:pl_ C n k pt ks σ=some ⟨.c (.loop c),ks1,σ1,True⟩)(h:AF C n o r Q (.c c) (.cut (Rnd prog C Q ks1 c (m-1))::ks1) σ1)(hm:(m-1)+1=m:=by rfl):AF C n o r Q pt ks σ:=λO a=>YD O e trivial (AK.loopN m (hm▸AK.rnd (h O a)))
def rd_ {c:Code}{O:L_ Fr}{m:Nat}(k:Nat)(e:pl_ C n k pt ks σ=some ⟨.x .normal,.cut (Rnd prog C Q O c (m+1))::O,σ1,True⟩)(h:AF C n o r Q (.c c) (.cut (Rnd prog C Q O c m)::O) σ1):AF C n o r Q pt ks σ:=λhC a=>YD hC e trivial (AK.met (AK.rnd (h hC a)))
def vA_ {l:L_ β}{j:Int}{f:β->O_ α}{σ1:β->St}(k:Nat)(row:β->L_ V)(e:(λd=>Vm.go prog C Eu n [.n k,.o (.row (row d))] pt ks σ True)=λd=>some ⟨pt1,ks1,σ1 d,(True/\(0<=j/\j<(l.length:Int)))/\(l.map row)[j.toNat]? = some (row d)⟩)(h:∀d,AF C n (f d) r Q pt1 ks1 (σ1 d)):AF C n ((idx l j).bind f) r Q pt ks σ:=λhC a=>bE_ a λd O h2=>AK.go QU hC _ (congrFun e d) ⟨⟨trivial,JU O rfl⟩,Jf (Kg O).2⟩ (h d hC h2)
end
def dz_ : L_ (Nat×Dw)->L_ Dw
 |[]=>[]|(k,d)::l=>List.replicate k (.a .no none false)++d::dz_ l
def Ko {α:Type}{o:O_ α}{r:α}{id n:Nat}{C:Xs}{Q:Exit->St->Prop}{ops:Array Oper}{ks ks1:L_ Fr}{pt:Pt}{σ base:St}{sf fr:S_}{sh hp:H_}{ri:L_ (It×Nat)}{ms:L_ Yt}{B:St}{φ:Prop}(k:Nat)(e0:pl_ C n k pt ks σ=some ⟨.c (.region id ops true),ks1,base,True⟩)(ds:L_ Dw)(sts O ts os:L_ Nat)(hS:(Xz base.fr sts,Xz base.hp O)=(some sf,some sh))(e:Ub prog C Eu n ops ⟨sf,sh⟩ ds ops.toList 0 [] [] base True=some ⟨ri,ms,B,φ⟩)(hφ:JA prog C n->φ)(hf:(Xz (Mq ms ri++B.fr) ts,Xz (Ii ms ri++B.hp) os,St.closed ⟨fr,hp⟩)=(some fr,some hp,true))(h:AF C n o r Q (.x .normal) ks1 ⟨fr,hp⟩)(hl:ds.length=ops.size:=by rfl)(hk:okV n ops base ⟨sf,sh⟩ ⟨ri,ms,B,φ⟩=true:=by kernel_rfl):AF C n o r Q pt ks σ:=λhN a=>YD hN e0 trivial (AK.draw2 QU hN mixed ds sts O ts os (congrArg (λx=>x.1) hS) (congrArg (λx=>x.2) hS) e (hφ hN) hl hk (congrArg (λx=>x.1) hf) (congrArg (λx=>x.2.1) hf) (congrArg (λx=>x.2.2) hf) (h hN a))
def D {α:Type}{o:O_ α}{r:α}{id n:Nat}{C:Xs}{Q:Exit->St->Prop}{ops:Array Oper}{ks ks1:L_ Fr}{pt:Pt}{σ base:St}{sf fr:S_}{sh hp:H_}{ri:L_ (It×Nat)}{ms:L_ Yt}{B:St}{φ:Prop}(k:Nat)(e0:pl_ C n k pt ks σ=some ⟨.c (.region id ops true),ks1,base,True⟩)(ds:L_ Dw)(sts O ts os:L_ Nat)(hS:(Xz base.fr sts,Xz base.hp O)=(some sf,some sh))(e:Ub prog C Eu n ops ⟨sf,sh⟩ ds ops.toList 0 [] [] base True=some ⟨ri,ms,B,φ⟩)(hφ:φ)(hf:(Xz (Mq ms ri++B.fr) ts,Xz (Ii ms ri++B.hp) os,St.closed ⟨fr,hp⟩)=(some fr,some hp,true))(h:AF C n o r Q (.x .normal) ks1 ⟨fr,hp⟩)(hl:ds.length=ops.size:=by rfl)(hk:okV n ops base ⟨sf,sh⟩ ⟨ri,ms,B,φ⟩=true:=by kernel_rfl):AF C n o r Q pt ks σ:=λhN a=>YD hN e0 trivial (AK.draw2 QU hN mixed ds sts O ts os (congrArg (λx=>x.1) hS) (congrArg (λx=>x.2) hS) e hφ hl hk (congrArg (λx=>x.1) hf) (congrArg (λx=>x.2.1) hf) (congrArg (λx=>x.2.2) hf) (h hN a))
def mk_ : True:=trivial
end Go.Proofs
namespace Go.Vm
noncomputable abbrev V.G{α:Type}(f:α->L_ V)(x:α):V:=.agg (f x)
noncomputable abbrev V.M{α:Type}(z:Nat)(f:α->L_ V)(l:L_ α):V:=.sl z (l.map f)
noncomputable abbrev V.P{α:Type}(o:Nat)(l:L_ α):V:=.own o l.length
noncomputable abbrev Ob.W{α:Type}(f:α->L_ V)(x:α):Ob:=.var (f x)
noncomputable abbrev Ob.R{α:Type}(z:Nat)(f:α->L_ V)(l:L_ α):Ob:=.arr z (l.map f)
end Go.Vm
namespace Go.Proofs
open Go Go.RowKit Go.Vm Go.Proofs.Tryz
open Option renaming some→Q,bind→j_,none→n_
open Sum renaming inl→y_,inr→i_
open Bool renaming true→t_,false→f_
variable (a k:Int)(r:(L_ Qv))(o h0 s i0:Int)(i:(L_ Qj))(m:(L_ Qp))(l:(L_ Qm))(h n:Int)(p:(L_ ByteArray))(d:LI_)(f:QBg)(g:ByteArray)(l0:Bool)(b:Qg)(c j:Int)(j0:Jw)(i2:QBg)(e:QMk)(m1:(L_ XB))(t m0:Int)(i3:(L_ Qo))(k3 l3:Int)(k1 h4:(L_ Xf))(q:LI_)(j1 m3 j4 k4:Int)(j2:QSB)(k0:Qo)(i1:(L_ QW))(j3:Int)(h3:Xk)(l4:(L_ Qv))(m4 h5 j5 k5:Int)(h6:(L_ Qj))(k6:(L_ Qp))(m6:(L_ Qm))(l5 m5:Int)(h7:(L_ ByteArray))(j7:(ByteArray×Bool))(k7:(L_ Qv))(h8 i8 j8 k8 m8 g9:Int)
abbrev QAo (a0 a1:V):L_ V:=[.J,.J,a0,.J,.J,.J,.J,a1,.J,.J,.J,.J,.J]
abbrev Lc (a0:V):L_ V:=[.J,.J,a0,.J,.J,.J,.J,.J,.J,.J,.J,.J,.J]
abbrev Qub (a0 a1 a2 a3:V):L_ V:=[.J,.J,.J,a0,.J,.J,a1,a2,a3,.J,.J,.J,.J,.J,.J,.J,.J,.J,.J,.J,.J,.J,.J,.J,.J,.J,.J,.J,.J,.J,.J,.J,.J,.J,.J,.J,.J,.J,.J,.J,.J,.J,.J,.J,.J,.J,.J,.J,.J,.J,.J,.J,.J,.J,.J,.J]
abbrev Quc (a0 a1 a2:V):L_ V:=[.J,a0,.J,.J,a1,a2,.J,.J,.J,.J,.J,.J,.J,.J,.J,.J,.J,.J,.J,.J,.J,.J,.J,.J]
abbrev QAp (a0 a1:V):L_ V:=[.J,.J,.J,a0,.J,.J,.J,a1,.J,.J,.J,.J,.J,.J,.J,.J,.J,.J]
abbrev QiQ (a0:V):L_ V:=[.J,.J,.J,a0,.J,.J,.J,.J,.J,.J,.J,.J,.J,.J,.J,.J,.J,.J]
abbrev QAq (a0 a1 a2 a3 a4 a5 a6 a7 a8:V):L_ V:=[.J,.J,.J,.J,a0,a1,a2,a3,a4,.J,a5,a6,a7,.J,.J,.J,.J,.J,.J,.J,.J,.J,.J,.J,.J,.J,.J,.J,.J,.J,.J,.J,.J,.J,.J,.J,.J,.J,.J,.J,.J,.J,.J,.J,.J,.J,.J,.J,.J,.J,.J,.J,.J,.J,a8,.J,.J,.J,.J,.J,.J,.J,.J,.J,.J,.J,.J,.J,.J,.J,.J,.J,.J,.J,.J,.J,.J,.J,.J,.J,.J,.J,.J,.J,.J,.J,.J,.J,.J,.J,.J,.J,.J,.J,.J,.J,.J,.J,.J,.J,.J,.J,.J,.J,.J,.J,.J,.J,.J]
abbrev Rr (a0 a1 a2 a3 a4 a5 a6 a7:V):L_ V:=[.J,.J,.J,.J,a0,a1,a2,a3,a4,.J,a5,a6,a7,.J,.J,.J,.J,.J,.J,.J,.J,.J,.J,.J,.J,.J,.J,.J,.J,.J,.J,.J,.J,.J,.J,.J,.J,.J,.J,.J,.J,.J,.J,.J,.J,.J,.J,.J,.J,.J,.J,.J,.J,.J,.J,.J,.J,.J,.J,.J,.J,.J,.J,.J,.J,.J,.J,.J,.J,.J,.J,.J,.J,.J,.J,.J,.J,.J,.J,.J,.J,.J,.J,.J,.J,.J,.J,.J,.J,.J,.J,.J,.J,.J,.J,.J,.J,.J,.J,.J,.J,.J,.J,.J,.J,.J,.J,.J,.J]
abbrev QAr (a0 a1 a2 a3 a4:V):L_ V:=[.J,.J,.J,a0,.J,a1,a2,.J,.J,.J,.J,.J,.J,.J,.J,.J,.J,.J,.J,.J,.J,.J,.J,.J,.J,.J,a3,a4,.J,.J,.J,.J,.J,.J,.J,.J,.J,.J,.J,.J,.J,.J,.J,.J,.J,.J,.J,.J,.J,.J,.J,.J,.J,.J,.J,.J,.J,.J,.J,.J,.J,.J,.J,.J]
abbrev QiR (a0 a1 a2:V):L_ V:=[.J,.J,.J,a0,.J,a1,a2,.J,.J,.J,.J,.J,.J,.J,.J,.J,.J,.J,.J,.J,.J,.J,.J,.J,.J,.J,.J,.J,.J,.J,.J,.J,.J,.J,.J,.J,.J,.J,.J,.J,.J,.J,.J,.J,.J,.J,.J,.J,.J,.J,.J,.J,.J,.J,.J,.J,.J,.J,.J,.J,.J,.J,.J,.J]
def Qhl  : O_ ByteArray:=Q (⟨#[99,111,108,111,117,114,32,110,32,61,32,105,110,116,32,48,32,46,46,32,50,59,32,112,108,97,99,101,32,97,58,32,110,59,32,112,108,97,99,101,32,98,58,32,110,59,32,112,108,97,99,101,32,99,58,32,110,59,32,116,97,115,107,32,116,32,123,32,118,97,114,32,120,58,32,110,59,32,119,104,101,110,32,120,32,60,32,50,59,32,105,110,32,97,40,120,41,59,32,111,117,116,32,98,40,120,32,43,32,49,41,59,32,125,32,116,97,115,107,32,117,32,123,32,118,97,114,32,121,58,32,110,59,32,105,110,32,98,40,121,41,59,32,111,117,116,32,99,40,121,41,59,32,97,102,116,101,114,32,51,59,32,125,32,102,114,111,109,32,97,59,32,116,111,32,99,59]⟩:ByteArray)
def QhO : CT 17 [] [] (Qhl ) V.s no_:=
 W 1 func17 Z<|E 11 Z
def ZQ:O_ Bool:=
 Q ((a==32)||((a==9)||((a==10)||(a==13))))
def QfJ {e}:CT 214 [.i .u8 e] [] (ZQ e) V.b no_:=
 W 17 func214 Z<|T 6 [] [] ([(2,.b ((e==32)||((e==9)||((e==10)||(e==13)))))],[]) Z (H 4 Z (λa=>Y 13 2 Z (Gt a Z)) λa=>H 4 Z (λc=>Y 9 2 Z (JQ a (Gt c Z))) λc=>H 4 Z (λd=>Y 5 2 Z (JQ a (JQ c (Gt d Z)))) λd=>Y 5 2 Z (JQ a (JQ c (JQ d Z))))<|E 2 Z
def QlD:O_ Int:=j_ (Qx (λst=>j_ (cond (st<(g.size:Int)) (j_ (sidx g st) λa=>j_ (ZQ a) λf=>Q f)<|Q f_) (λb=>cond b (Q (y_ (Qf (st+1))))<|Q (i_ st))) c) (λq=>Q q)
def Qpl {d at_2}:CT 213 [.s d,.I at_2,.clo (.func 214) [] []] [] (QlD d at_2) V.I no_:=
 W 21 func213 Z<|lA_ 7 [0,2] [] (λst=>([(1,.I st)],[])) [] [] (λq=>(.exit 0,([(1,.I q)],[]))) Z (λh=>mV_ 2 [0,1,2] [] (λe=>([(17,.b e)],[])) Z (I 6 Z (B λc a=>G [3,.o (.num c)] Z a<|A 0 QfJ Z λf=>M 2 Z)<|M 7 Z) λe=>I 1 Z (R 9 Z)<|X 2 Z) λO=>E 9 Z
def Mv (a:Yh):O_ Yh:=j_ (Qx (λst=>j_ (QlD a.s a.at_) λe=>j_ (cond (e==(a.s.size:Int)) (Q t_)<|j_ (sidx a.s e) λf=>Q (f != 35)) (λg=>cond g (Q (i_ (Yh.mk a.s e)))<|none)) ()) (λq=>Q q)
def RY {g}:CT 125 [.L 639] [(639,.W JE g)] (Mv g) (λ_=>(.tup [])) (λr=>[(639,.W JE r)]):=
 W 48 func125 Z<|lA_ 1 [0] [639] (λst=>([],[])) [] [] (λq=>(.ret,([],[(639,.W JE q)]))) Z (λ_=>B λh e=>Ko 2 Z (dz_ [(9,.B (.any (.I h) n_)),(2,.m .s)]) [] [] [0] [639] Z Z (λj=>(a1_ (λz k l _=>Stp.callSame (md:=.cm (.fn) [] [] [] [.d,.d,.d] [] (.I h) []) QU j k l Z (a1_ (Qpl _ e))))) Z<|mV_ 3 [0] [639] (λi=>([(35,.b i)],[])) Z (jF_ (λc=>D 0 Z (dz_ [(10,.E (.b t_)),(10,.N)]) [] [] [0,35] [639] Z Z (tc_ c) Z<|M 0 Z) λc=>B λn f=>D 0 Z (dz_ [(10,.E (.b f_)),(8,.B (.num n)),(1,.N)]) [] [] [0,35] [639] Z Z ⟨(tc_ c),f⟩ Z<|M 0 Z) λi=>I 1 Z (L 3 Z)<|nO_) λo=>E 1 Z
def Ld:O_ Bool:=
 Q (cond (97<=a) ((a<=122)||((65<=a)&&(a<=90)))<|((65<=a)&&(a<=90)))
def Pk {d}:CT 216 [.i .u8 d] [] (Ld d) V.b no_:=
 W 17 func216 Z<|T 6 [] [] ([(2,.b (cond (97<=d) ((d<=122)||((65<=d)&&(d<=90)))<|((65<=d)&&(d<=90))))],[]) Z (H 4 Z (λa=>H 4 Z (λc=>Y 9 2 Z (Qo5 a (Gt c Z))) λc=>H 3 Z (λe=>Y 6 2 Z (Qo5 a (JQ c (YN e Z)))) λe=>Y 6 2 Z (Qo5 a (JQ c (Kl e Z)))) λa=>H 7 Z (λf=>Y 6 2 Z (QtB a (YN f Z))) λf=>Y 6 2 Z (QtB a (Kl f Z)))<|E 2 Z
def BG:O_ Bool:=Q ((48<=a)&&(a<=57))
def CY {c}:CT 218 [.i .u8 c] [] (BG c) V.b no_:=
 W 9 func218 Z<|T 6 [] [] ([(2,.b ((48<=c)&&(c<=57)))],[]) Z (H 4 Z (λa=>Y 5 2 Z (YN a Z)) λa=>Y 5 2 Z (Kl a Z))<|E 2 Z
def ZR:O_ Bool:=j_ (j_ (Ld a) λd=>cond d (Q t_)<|j_ (BG a) λe=>cond e (Q t_)<|Q (a==95)) (λb=>Q b)
def QfQ {a}:CT 217 [.i .u8 a] [] (ZR a) V.b no_:=
 W 13 func217 Z<|mV_ 6 [] [] (λc=>([(2,.b c)],[])) Z (A 2 Pk Z λd=>I 1 Z (M 9 Z)<|A 1 CY Z λe=>I 2 Z (M 5 Z)<|M 5 Z) λc=>E 2 Z
def Vt:O_ Int:=j_ (Qx (λst=>j_ (cond (st<(g.size:Int)) (j_ (sidx g st) λa=>j_ (ZR a) λf=>Q f)<|Q f_) (λb=>cond b (Q (y_ (Qf (st+1))))<|Q (i_ st))) c) (λq=>Q q)
def CC {d at_2}:CT 213 [.s d,.I at_2,.clo (.func 217) [] []] [] (Vt d at_2) V.I no_:=
 W 21 func213 Z<|lA_ 7 [0,2] [] (λst=>([(1,.I st)],[])) [] [] (λq=>(.exit 0,([(1,.I q)],[]))) Z (λh=>mV_ 2 [0,1,2] [] (λe=>([(17,.b e)],[])) Z (I 6 Z (B λc a=>G [3,.o (.num c)] Z a<|A 0 QfQ Z λf=>M 2 Z)<|M 7 Z) λe=>I 1 Z (R 9 Z)<|X 2 Z) λO=>E 9 Z
def Nx:O_ Int:=j_ (Qx (λst=>j_ (cond (st<(g.size:Int)) (j_ (sidx g st) λa=>j_ (BG a) λf=>Q f)<|Q f_) (λb=>cond b (Q (y_ (Qf (st+1))))<|Q (i_ st))) c) (λq=>Q q)
def ON {d at_2}:CT 213 [.s d,.I at_2,.clo (.func 218) [] []] [] (Nx d at_2) V.I no_:=
 W 21 func213 Z<|lA_ 7 [0,2] [] (λst=>([(1,.I st)],[])) [] [] (λq=>(.exit 0,([(1,.I q)],[]))) Z (λh=>mV_ 2 [0,1,2] [] (λe=>([(17,.b e)],[])) Z (I 6 Z (B λc a=>G [3,.o (.num c)] Z a<|A 0 CY Z λf=>M 2 Z)<|M 7 Z) λe=>I 1 Z (R 9 Z)<|X 2 Z) λO=>E 9 Z
def QkA (a:ByteArray):O_ Bool:=cond (Km a (⟨#[]⟩:ByteArray)) (Q t_)<|cond (1<(a.size:Int)) ((sidx a 0).bind λd=>cond (d==48) (Q t_)<|(Nx a 0).bind λb=>Q (decide (b<(a.size:Int))))<|(Nx a 0).bind λc=>Q (decide (c<(a.size:Int)))
def Vu:O_ (Int×Bool):=j_ (QkA g) (λb=>cond b n_<|j_ (Qx (λc=>cond (c.2<(g.size:Int)) (j_ (sidx g c.2) λd=>cond ((Qf (Int.tdiv (Qf (9223372036854775807-(Qf (IntKind.u8.wrap (d-48))))) 10))<c.1) n_<|Q (y_ ((Qf ((Qf (c.1*10))+(Qf (IntKind.u8.wrap (d-48))))),(Qf (c.2+1)))))<|Q (i_ c.1)) (0,0)) (λf=>Q (f,t_)))
def Qba {e}:CT 306 [.s e] [] (Vu e) (λr=>(.tup [.I r.1,.b r.2])) no_:=
 W 47 func306 Z<|mV_ 8 [0] [] (λf=>([(25,.b f)],[])) Z (I 4 Z (M 17 Z)<|I 4 Z (B λg d=>G [1,.o (.num g),4] Z d<|I 0 Z (M 7 Z)<|S 1 .fn [] ON Z λh=>M 5 Z)<|S 7 .fn [] ON Z λi=>M 5 Z) λf=>I 1 Z (nO_)<|lA_ 16 [0,27] [] (λst=>([(4,.I st.1),(28,.I st.2)],[])) [] [] (λq=>(.exit 0,([(4,.I q)],[]))) Z (λ⟨j,k⟩=>I 6 Z (B λa c=>K [14,.o (.num a),1,.o (.any (.I (Qf (IntKind.u8.wrap (a-48)))) n_),13] Z (λl=>(a3_ c (λz m t _=>Stp.convI Z Z (QK l.n Z) (m _ _ Z) Vs Rq) (by decide)))<|I 0 Z (nO_)<|R 15 Z)<|X 2 Z) λp=>E 10 Z
def SH (a:Yh):O_ (Int×Int):=j_ (Nx a.s a.at_) λb=>j_ (j_ (Vt a.s b) λe=>cond (b<e) (Q t_)<|cond ((Qf (a.at_+1))<b) (j_ (sidx a.s a.at_) λf=>Q (f==48))<|Q f_) (λc=>cond c n_<|j_ (chk (decide (0<=a.at_)&&decide (0<=b)&&decide (a.at_.toNat<=b.toNat)&&decide (b.toNat<=a.s.size))) λg=>j_ (Vu (a.s.extract a.at_.toNat b.toNat)) λh=>cond (!h.2) n_<|Q (b,0))
def QdG {m}:CT 219 [.L 639] [(639,.W JE m)] (SH m) (λr=>(.tup [.I r.1,.I r.2])) (λ_=>[(639,.W JE m)]):=
 W 62 func219 Z<|B λt u=>Ko 7 Z (dz_ [(8,.B (.any (.I t) n_)),(0,.N)]) [] [] [0,4] [639] Z Z (λg=>(a1_ (λz f i _=>Stp.callSame (md:=.cm (.fn) [] [] [] [.d,.d,.d] [] (.I t) []) QU g f i Z (a1_ (ON _ u))))) Z<|mV_ 3 [0,4] [639] (λw=>([(44,.b w)],[])) Z (B λl j=>jF_ (λh=>Ko 0 Z (dz_ [(5,.B (.any (.I l) n_)),(2,.E (.b t_)),(19,.N)]) [] [] [0,4,44] [639] Z Z (λg=>(a2_ (λz f i _=>Stp.callSame (md:=.cm (.fn) [] [] [] [.d,.d,.d] [] (.I l) []) QU g f i Z (a1_ (CC _ j))) (cb_ h))) Z<|M 0 Z) λh=>jF_ (λk=>B λv o=>Ko 0 Z (dz_ [(5,.B (.any (.I l) n_)),(2,.E (.b f_)),(7,.E (.b t_)),(8,.B (.num v)),(2,.N)]) [] [] [0,4,44] [639] Z Z (λg=>(a4_ (λz f i _=>Stp.callSame (md:=.cm (.fn) [] [] [] [.d,.d,.d] [] (.I l) []) QU g f i Z (a1_ (CC _ j))) (cb_ h) (cb_ k) o)) Z<|M 0 Z) λk=>Ko 0 Z (dz_ [(5,.B (.any (.I l) n_)),(2,.E (.b f_)),(7,.E (.b f_)),(11,.N)]) [] [] [0,4,44] [639] Z Z (λg=>(a3_ (λz f i _=>Stp.callSame (md:=.cm (.fn) [] [] [] [.d,.d,.d] [] (.I l) []) QU g f i Z (a1_ (CC _ j))) (cb_ h) (cb_ k))) Z<|M 0 Z) λw=>I 1 Z (nO_)<|kA_ λe=>B λp q=>Ko 4 Z (dz_ [(9,.B (.any (.s (m.s.extract m.at_.toNat t.toNat)) n_)),(0,.B (.C1 (.tup [.I p.1,.b p.2]))),(4,.N)]) [] [] [4,6] [639] Z Z (λg=>(a2_ (λz f i _=>Stp.sliceS Z Z (QK g.n Z) (f _ _ Z) (QU.sb Z) (Kt.val (f _ _ Z) (QZ (Qr2 e)) Z) (Kt.val (f _ _ Z) (QZ (Qr3 e)) Z) (QZ (Qr4 e)) (QZ (Qr5 e))) (Qba _ q))) Z<|I 7 Z (nO_)<|E 10 Z
def QiS  : O_ (L_ ByteArray):=Q ([(⟨#[46,46]⟩:ByteArray),(⟨#[61,61]⟩:ByteArray),(⟨#[33,61]⟩:ByteArray),(⟨#[60,61]⟩:ByteArray),(⟨#[38,38]⟩:ByteArray),(⟨#[124,124]⟩:ByteArray)]:L_ ByteArray)
def Qnr : CT 309 [] [] (QiS ) (λr=>(.P 600 r)) (λr=>[(600,.R 1 QG r)]):=
 W 2 func309 Z<|G [8,.O 1 (.arr 1 (([(⟨#[46,46]⟩:ByteArray),(⟨#[61,61]⟩:ByteArray),(⟨#[33,61]⟩:ByteArray),(⟨#[60,61]⟩:ByteArray),(⟨#[38,38]⟩:ByteArray),(⟨#[124,124]⟩:ByteArray)]:L_ ByteArray).map QG)),4,.ren 1 600] Z Z<|E 0 Z
def Ac (h:ByteArray):O_ Bool:=j_ (cond ((h.size:Int)<=(g.size:Int)) (j_ (chk (decide (0<=(h.size:Int))&&decide (0<=(h.size:Int).toNat)&&decide ((h.size:Int).toNat<=g.size))) λc=>Q (Km (g.extract 0 (h.size:Int).toNat) h))<|Q f_) (λb=>Q b)
def NA {c prefix_2}:CT 374 [.s c,.s prefix_2] [] (Ac c prefix_2) V.b no_:=
 W 18 func374 Z<|mV_ 6 [] [] (λd=>([(4,.b d)],[])) Z (I 7 Z (kA_ λa=>K [3,.o (.any (.s (c.extract 0 (prefix_2.size:Int).toNat)) n_),5] Z (λf=>(a1_ (λz e g _=>Stp.sliceS Z Z (QK f.n Z) (e _ _ Z) (QU.sb Z) Kt.no (Kt.val (e _ _ Z) (QZ (ZK a)) Z) (QZ (ZL a)) (QZ (Qch a)))))<|M 0 Z)<|M 9 Z) λd=>E 2 Z
def Vd (h:ByteArray):O_ Bool:=j_ (Ac g h) λb=>Q b
def Qe2 {a prefix_2}:CT 308 [.s a,.s prefix_2] [] (Vd a prefix_2) V.b no_:=
 W 8 func308 Z<|A 9 NA Z λc=>E 4 Z
def SI (b:ByteArray):O_ Bool:=j_ (Vd b g) λc=>Q c
def QdH {c a}:CT 307 [.s c,.L 639] [(639,.W QG a)] (SI c a) V.b (λ_=>[(639,.W QG a)]):=
 W 7 func307 Z<|A 9 Qe2 Z λd=>E 4 Z
def Ad:O_ Int:=j_ (Qx (λst=>cond (st<(p.length:Int)) (j_ (idx p st) λf=>j_ (SI f g) λa=>cond a (Q (i_ (y_ st)))<|Q (y_ (Qf (st+1))))<|Q (i_ (i_ ()))) 0) (Sum.elim (λq=>Q q) (λq=>Q (-1)))
def NE {b a}:CT 237 [.M 1 QG b,.clo (.func 307) [] [.L 639]] [(639,.W QG a)] (Ad b a) V.I (λ_=>[(639,.W QG a)]):=
 W 19 func237 Z<|N 9 Z<|F 4 [0,1,7] [639] (λst=>([(8,.I st)],[])) [] [639] (λq=>(.ret,([(4,.I q)],[]))) [] [639] (λq=>(.exit 0,([],[]))) Z (λd=>I 6 Z (J 15 Z λe=>S 1 .clo [(639,639)] QdH Z λc=>I 2 Z (L 9 Z)<|R 7 Z)<|X 2 Z) (λf=>E 2 Z) (λ_=>E 8 Z)
def EK:O_ Bool:=j_ (Ad p g) λc=>Q (decide (0<=c))
def Le {c a}:CT 140 [.M 1 QG c,.clo (.func 307) [] [.L 639]] [(639,.W QG a)] (EK c a) V.b (λ_=>[(639,.W QG a)]):=
 W 9 func140 Z<|S 9 .fn [(639,639)] NE Z λd=>E 5 Z
def Ae:O_ Int:=Q (Qki g c)
def NF {a b}:CT 375 [.s a,.i .u8 b] [] (Ae a b) V.I no_:=
 W 8 func375 Z<|K [9,.o (.any (.I (Qki a b)) n_),4] Z (λd=>(a1_ (λz c e _=>Stp.idxByteS Z Z (QK d.n Z) (c _ _ Z) (c _ _ Z) Qyw)))<|E 0 Z
def Ve:O_ Int:=j_ (Ae g c) λa=>Q a
def Qe3 {a b}:CT 310 [.s a,.i .u8 b] [] (Ve a b) V.I no_:=
 W 8 func310 Z<|A 9 NF Z λc=>E 4 Z
def ZS (a:Yh):O_ (Int×Int):=(chk (decide (0<=a.at_)&&decide (a.at_.toNat<=a.s.size)&&decide (a.s.size<=a.s.size))).bind λ_=>(QiS).bind λc=>(EK c (a.s.extract a.at_.toNat a.s.size)).bind λd=>cond d (Q ((Qf (a.at_+2)),0))<|(sidx (a.s.extract a.at_.toNat a.s.size) 0).bind λe=>(Ve (⟨#[59,58,61,44,40,41,123,125,42,43,45,47,37,60,33]⟩:ByteArray) e).bind λb=>cond (0<=b) (Q ((Qf (a.at_+1)),0))<|none
def QfR {c}:CT 220 [.L 639] [(639,.W JE c)] (ZS c) (λr=>(.tup [.I r.1,.I r.2])) (λ_=>[(639,.W JE c)]):=
 W 35 func220 Z<|kA_ λb=>Ko 7 Z (dz_ [(8,.B (.any (.s (c.s.extract c.at_.toNat c.s.size)) n_)),(1,.m .s)]) [] [] [0,4] [4,639] Z Z (λf=>(a1_ (λz e i _=>Stp.sliceS Z Z (QK f.n Z) (e _ _ Z) (QU.sb Z) (Kt.val (e _ _ Z) (QZ (ZK b)) Z) Kt.no (QZ (ZL b)) (QZ (Qch b))))) Z<|oC_ 11 [] Qnr Z λj=>zF_ 1 17 [17] [] Z<|S 0 .fn [(639,4)] Le Z λk=>I 3 Z (E 14 Z)<|B λg d=>G [3,.o (.num g)] Z d<|A 0 Qe3 Z λh=>I 4 Z (E 14 Z)<|nO_
def ZT (a:Yh):O_ (Int×Int×Int):=j_ (sidx a.s a.at_) λf=>j_ (Ld f) λg=>cond g (j_ (Vt a.s a.at_) λb=>cond (32<(Qf (b-a.at_))) n_<|Q (1,b,0))<|j_ (BG f) λe=>cond e (j_ (SH a) λc=>Q (2,c.1,c.2))<|j_ (ZS a) λd=>Q (3,d.1,d.2)
def QfS {e}:CT 126 [.L 639] [(639,.W JE e)] (ZT e) (λr=>(.tup [.I r.1,.I r.2.1,.I r.2.2])) (λ_=>[(639,.W JE e)]):=
 W 52 func126 Z<|B λg f=>D 9 Z (dz_ [(8,.B (.num g)),(0,.N)]) [] [] [0,5] [639] Z Z (a1_ f) Z<|A 5 Pk Z λn=>I 3 Z (B λb c=>Ko 1 Z (dz_ [(8,.B (.any (.I b) n_)),(0,.N)]) [] [] [0,3] [639] Z Z (λh=>(a1_ (λz i j _=>Stp.callSame (md:=.cm (.fn) [] [] [] [.d,.d,.d] [] (.I b) []) QU h i j Z (a1_ (CC _ c))))) Z<|I 13 Z (nO_)<|E 13 Z)<|A 3 CY Z λk=>I 3 Z (S 3 .fn [(639,639)] QdG Z λl=>E 19 Z)<|S 6 .fn [(639,639)] QfR Z λm=>E 17 Z
def Qpm (c:Yh)(b:(L_ Qv)):O_ ((Yh×(L_ Qv))⊕(L_ Qv)):=cond (c.at_<(g.size:Int)) (j_ (ZT c) λa=>cond (a.2.2 != 0) n_<|j_ (chk (decide (0<=c.at_)&&decide (0<=a.2.1)&&decide (c.at_.toNat<=a.2.1.toNat)&&decide (a.2.1.toNat<=g.size))) λ_=>j_ (chk (b.length+([(Qv.mk a.1 (g.extract c.at_.toNat a.2.1.toNat) c.at_)]:L_ Qv).length<=4294967296)) λ_=>j_ (Mv (Yh.mk c.s a.2.1)) λe=>Q (y_ (e,(b++[(Qv.mk a.1 (g.extract c.at_.toNat a.2.1.toNat) c.at_)]))))<|Q (i_ b)
def QlE:O_ ((L_ Qv)×Int×Int):=cond (16384<(g.size:Int)) n_<|j_ (Mv (Yh.mk g 0)) λb=>j_ (Qx (λst=>Qpm g st.1 st.2) (b,([]:L_ Qv))) (λq=>Q (q,(g.size:Int),0))
def Qpo {f}:CT 71 [.s f] [] (QlE f) (λr=>(.tup [.M 3 Qn r.1,.I r.2.1,.I r.2.2])) no_:=
 W 63 func71 Z<|I 15 Z (nO_)<|S 19 .fn [(639,15)] RY Z λl=>aD_ 3 6 6 3 Z<|lA_ 0 [0,5] [] (λst=>([(6,.P 6 st.2)],[(6,.R 3 Qn st.2),(15,.W JE st.1)])) [0] [] (λq=>(.exit 0,([(6,.P 6 q)],[(6,.R 3 Qn q)]))) Z (λ⟨d,e⟩=>I 12 Z (S 7 .fn [(639,15)] QfS Z λb=>I 16 Z (nO_)<|kA_ λc=>kA_ λg=>Ko 3 Z [.N,.N,.N,.N,.N,.N,.N,.N,.B (.any (.s (f.extract d.at_.toNat b.2.1.toNat)) n_),.N,.N,.N,.N,.E (.agg (Qn (Qv.mk b.1 (f.extract d.at_.toNat b.2.1.toNat) d.at_))),.a (.bd []) (Q ([],.sl 3 (([(Qv.mk b.1 (f.extract d.at_.toNat b.2.1.toNat) d.at_)]:L_ Qv).map Qn))) f_,.m (.app ((e++[(Qv.mk b.1 (f.extract d.at_.toNat b.2.1.toNat) d.at_)]).map Qn) (e++[(Qv.mk b.1 (f.extract d.at_.toNat b.2.1.toNat) d.at_)]).length),.m .s] [] [] [0,5,6,8] [6,15] Z Z (λj=>(a4_ (λz h o _=>Stp.sliceS Z Z (QK j.n Z) (h _ _ Z) (QU.sb Z) (Kt.val (h _ _ Z) (QZ (Qr2 c)) Z) (Kt.val (h _ _ Z) (QZ (Qr3 c)) Z) (QZ (Qr4 c)) (QZ (Qr5 c))) Z Z ⟨Ql,Gd g Ql,Yg,JB Ql⟩)) Z<|S 12 .fn [(639,15)] RY Z λk=>R 1 Z)<|X 2 Z) λi=>zF_ 13 6 [2] [] Z<|E 0 Z
def GK (g:Int)(d:Int)(h:Int)(i:(L_ Qj))(j:(L_ Qp))(k:(L_ Qm))(l:Int)(e:Int)(f:(L_ ByteArray)):O_ Qv:=
 cond ((d != 0)||(r.length<=o)) n_<|j_ (idx r o) λa=>
 Q a
def Ee {e i p f q k l n t g d}:CT 311 [.L 639] [(639,.var [.M 3 Qn e,.I i,.I p,.I f,.I q,.P 640 k,.P 641 l,.P 642 n,.I t,.I g,.P 643 d]),(640,.R 7 Qc k),(641,.R 3 Qd l),(642,.R 14 Qb n),(643,.R 1 QG d)] (GK e i p f q k l n t g d) (λr=>(.G Qn r)) (λ_=>[(639,.var [.M 3 Qn e,.I i,.I p,.I f,.I q,.P 640 k,.P 641 l,.P 642 n,.I t,.I g,.P 643 d]),(640,.R 7 Qc k),(641,.R 3 Qd l),(642,.R 14 Qb n),(643,.R 1 QG d)]):=
 W 31 func311 Z<|T 7 [0,2] [2,639,640,641,642,643] ([(19,.b ((f != 0)||((e.length:Int)<=i)))],[]) Z (gT_ [.K [0,2] [2,639,640,641,642,643]] Z<|(λj h=>by
   rcases QrM (f != 0)with c|c
   ·refine AK.draw2 QU j mixed [.N,.N,.N,.N,.N,.E (.b t_),.N,.N,.N,.N,.N,.N,.N,.N,.N,.N,.N] [] [] [0,2,19] [2,639,640,641,642,643] rfl rfl rfl (tc_ c) rfl (by kernel_rfl) rfl rfl rfl ?_;refine YA j [.S 19 (.b ((f != 0)||((e.length:Int)<=i))),.K [0,2,19] [2,639,640,641,642,643]] rfl (a1_ (cb_ (Gt c rfl))) ?_;exact tA_ 0 Z j h
   refine AK.draw2 QU j mixed [.N,.N,.N,.N,.N,.E (.b f_),.N,.N,.N,.N,.N,.N,.N,.N,.B (.ln e.length),.N,.N] [] [] [0,2,19] [2,639,640,641,642,643] rfl rfl rfl ⟨(tc_ c),Ql⟩ rfl (by kernel_rfl) rfl rfl rfl ?_;refine YA j [.S 19 (.b ((f != 0)||((e.length:Int)<=i))),.K [0,2,19] [2,639,640,641,642,643]] rfl (a1_ (cb_ (JQ c rfl))) ?_;exact tA_ 0 Z j h))<|I 1 Z (nO_)<|B λu o=>D 3 Z (dz_ [(8,.B (.row (Qn u))),(1,.m .s)]) [] [] [2] [2,639,640,641,642,643] Z Z (a1_ (KJ o)) Z<|E 2 Z
def Qck:O_ (L_ ByteArray):=j_ (chk (Qsd g)) λ_=>Q (Bm g)
def Qh4 (x){r}(h:Qck x=Q r):QQ prog 386 [.s x] [] (Gives (.P 600 r) [(600,.R 1 QG r)]):=by
 obtain⟨_,a,h⟩:=XO h;cases h;exact QqW Qu3 (by kernel_rfl) (by kernel_rfl) x (QiE a)
def Il  : O_ (L_ ByteArray):=(Qck (⟨#[99,111,108,111,117,114,32,112,108,97,99,101,32,116,97,115,107,32,118,97,114,32,119,104,101,110,32,106,111,105,110,32,115,112,108,105,116,32,105,110,32,111,117,116,32,99,97,110,99,101,108,32,97,102,116,101,114,32,109,97,110,121,32,102,114,111,109,32,116,111,32,105,110,116,32,101,110,117,109,32,112,97,105,114,32,97,110,100,32,120,111,114,32,111,114,32,105,102]⟩:ByteArray)).bind λa=>Q a
def Ql1 : CT 321 [] [] (Il ) (λr=>(.P 600 r)) (λr=>[(600,.R 1 QG r)]):=
 W 2 func321 Z<|B λb a=>G [7,.o (.co f_ [.d] 1 (b.map QG) b.length),4,.ren 1 600] Z ⟨(Qh4 _ a),Ql,.inl Z⟩<|E 0 Z
def DK:O_ (Int⊕(Int⊕Unit)):=cond (c<p.length) (j_ (idx p c) λd=>cond (Km g d) (Q (i_ (y_ c)))<|Q (y_ (Qf (c+1))))<|Q (i_ (i_ ()))
def DL:O_ Int:=Q a
def DM : O_ Int:=Q (-1)
def Ji:O_ Int:=j_ (Qx (λst=>DK p g st) 0) (Sum.elim (λq=>DL q) (λq=>DM))
def DN {a b}:CT 385 [.M 1 QG a,.s b] [] (Ji a b) V.I no_:=
 W 19 func385 Z<|N 9 Z<|F 4 [0,1,7] [] (λst=>([(8,.I st)],[])) [] [] (λq=>(.ret,([(4,.I q)],[]))) [] [] (λq=>(.exit 0,([],[]))) Z (λc=>I 6 Z (J 15 Z λd=>I 4 Z (L 9 Z)<|R 7 Z)<|X 2 Z) (λe=>E 2 Z) (λ_=>E 8 Z)
def KB:O_ Bool:=j_ (Ji p g) λc=>Q (decide (0<=c))
def OO {a c}:CT 320 [.M 1 QG a,.s c] [] (KB a c) V.b no_:=
 W 9 func320 Z<|A 9 DN Z λd=>E 5 Z
def CZ:O_ Bool:=j_ (Il) λb=>j_ (KB b g) λc=>Q c
def SJ {a}:CT 236 [.s a] [] (CZ a) V.b no_:=
 W 6 func236 Z<|oC_ 7 [] Ql1 Z λc=>cV_ 1 [.o _,.d] OO Z λe=>E 4 Z
def Qe5 (a:Qv)(b:Bool):O_ ByteArray:=cond b (Q a.Text)<|Q (⟨#[]⟩:ByteArray)
def AH:O_ ByteArray:=j_ (GK r o h0 s i0 i m l h n p) λa=>j_ (cond (a.Kind==3) (Q t_)<|cond (a.Kind==1) (j_ (CZ a.Text) λb=>Q b)<|Q f_) (λd=>Qe5 a d)
def Cd {h i j k l d e f m c a}:CT 221 [.L 639] [(639,.var [.M 3 Qn h,.I i,.I j,.I k,.I l,.P 640 d,.P 641 e,.P 642 f,.I m,.I c,.P 643 a]),(640,.R 7 Qc d),(641,.R 3 Qd e),(642,.R 14 Qb f),(643,.R 1 QG a)] (AH h i j k l d e f m c a) V.s (λ_=>[(639,.var [.M 3 Qn h,.I i,.I j,.I k,.I l,.P 640 d,.P 641 e,.P 642 f,.I m,.I c,.P 643 a]),(640,.R 7 Qc d),(641,.R 3 Qd e),(642,.R 14 Qb f),(643,.R 1 QG a)]):=
 W 21 func221 Z<|S 8 .fn [(639,639),(640,640),(641,641),(642,642),(643,643)] Ee Z λn=>mV_ 6 [3] [3,639,640,641,642,643] (λg=>([(18,.b g)],[])) Z (I 5 Z (M 10 Z)<|I 4 Z (A 2 SJ Z λo=>M 3 Z)<|M 6 Z) λg=>I 1 Z (E 9 Z)<|E 8 Z
def Ce (b:ByteArray)(e:(L_ Qv))(f:Int)(a:Int)(h:Int)(i:Int)(c:Int)(d:Int):O_ (Bool×(L_ Qv)×Int×Int×Int×Int×Int×Int):=Q ((Km g b),e,d,f,a,h,i,c)
def XI:O_ (Bool×(L_ Qv)×Int×Int×Int×Int×Int×Int):=j_ (AH r o h0 s i0 i m l h n p) λc=>cond (Km c g) (Ce c g r h0 s i0 h n (Qf (o+1)))<|Ce c g r h0 s i0 h n o
def XC {i o j k l f g h m c a e}:CT 127 [.L 639,.s e] [(639,.var [.M 3 Qn i,.I o,.I j,.I k,.I l,.P 640 f,.P 641 g,.P 642 h,.I m,.I c,.P 643 a]),(640,.R 7 Qc f),(641,.R 3 Qd g),(642,.R 14 Qb h),(643,.R 1 QG a)] (XI i o j k l f g h m c a e) (λr=>(.b r.1)) (λr=>[(639,.var [.M 3 Qn r.2.1,.I r.2.2.1,.I r.2.2.2.1,.I r.k.1,.I r.k.2.1,.P 640 f,.P 641 g,.P 642 h,.I r.k.2.2.1,.I r.k.2.2.2,.P 643 a]),(640,.R 7 Qc f),(641,.R 3 Qd g),(642,.R 14 Qb h),(643,.R 1 QG a)]):=
 W 19 func127 Z<|S 8 .fn [(639,639),(640,640),(641,641),(642,642),(643,643)] Cd Z λn=>mE_ 5 [5] [640,641,642,643] (λd:Int=>([],[(639,.var [.M 3 Qn i,.I d,.I j,.I k,.I l,.P 640 f,.P 641 g,.P 642 h,.I m,.I c,.P 643 a])])) (λd=>Ce n e i j k l m c d) Z (I 5 Z (P 10 Z Z)<|P 1 Z Z) λd=>E 7 Z
def Qns (c:(L_ Qv))(d:Int)(e:Int)(f:Int)(g:Int)(h:(L_ Qj))(i:(L_ Qp))(j:(L_ Qm))(k:Int)(a:Int)(b:(L_ ByteArray)):O_ Unit:=Q ()
def QqY {f g h i j c d e k b a}:CT 223 [.clo (.func 224) [.L 639] []] [(639,.var [.M 3 Qn f,.I g,.I h,.I i,.I j,.P 640 c,.P 641 d,.P 642 e,.I k,.I b,.P 643 a]),(640,.R 7 Qc c),(641,.R 3 Qd d),(642,.R 14 Qb e),(643,.R 1 QG a)] (Qns f g h i j c d e k b a) (λ_=>(.clo (.func 312) [] [.L 1])) (λ_=>[(1,.var [.clo (.func 224) [.L 639] []]),(639,.var [.M 3 Qn f,.I g,.I h,.I i,.I j,.P 640 c,.P 641 d,.P 642 e,.I k,.I b,.P 643 a]),(640,.R 7 Qc c),(641,.R 3 Qd d),(642,.R 14 Qb e),(643,.R 1 QG a)]):=
 W 4 func223 Z<|E 13 Z
def JR:O_ (ByteArray×Bool):=j_ (GK r o h0 s i0 i m l h n p) λa=>j_ (cond (a.Kind != 1) (Q t_)<|j_ (CZ a.Text) λb=>Q b) (λd=>cond d n_<|Q (a.Text,t_))
def JF {h i j k l d e f m c a}:CT 232 [.L 639] [(639,.var [.M 3 Qn h,.I i,.I j,.I k,.I l,.P 640 d,.P 641 e,.P 642 f,.I m,.I c,.P 643 a]),(640,.R 7 Qc d),(641,.R 3 Qd e),(642,.R 14 Qb f),(643,.R 1 QG a)] (JR h i j k l d e f m c a) (λr=>(.tup [.s r.1,.b r.2])) (λ_=>[(639,.var [.M 3 Qn h,.I i,.I j,.I k,.I l,.P 640 d,.P 641 e,.P 642 f,.I m,.I c,.P 643 a]),(640,.R 7 Qc d),(641,.R 3 Qd e),(642,.R 14 Qb f),(643,.R 1 QG a)]):=
 W 19 func232 Z<|S 9 .fn [(639,639),(640,640),(641,641),(642,642),(643,643)] Ee Z λn=>mV_ 6 [0,4] [4,639,640,641,642,643] (λg=>([(14,.b g)],[])) Z (I 5 Z (M 5 Z)<|A 2 SJ Z λo=>M 2 Z) λg=>I 1 Z (nO_)<|E 11 Z
def FY (a:Qj)(b:ByteArray):O_ Bool:=Q (Km a.Name b)
def SK {c a}:CT 314 [.G Qc c,.L 639] [(639,.W QG a)] (FY c a) V.b (λ_=>[(639,.W QG a)]):=
 W 8 func314 Z<|E 16 Z
def Gf:O_ Int:=j_ (Qx (λst=>cond (st<(i.length:Int)) (j_ (idx i st) λf=>j_ (FY f g) λa=>cond a (Q (i_ (y_ st)))<|Q (y_ (Qf (st+1))))<|Q (i_ (i_ ()))) 0) (Sum.elim (λq=>Q q) (λq=>Q (-1)))
def Cz {a b}:CT 313 [.P 639 a,.clo (.func 314) [] [.L 640]] [(639,.R 7 Qc a),(640,.W QG b)] (Gf a b) V.I (λ_=>[(639,.R 7 Qc a),(640,.W QG b)]):=
 W 19 func313 Z<|F 14 [0,1,7] [639,640] (λst=>([(8,.I st)],[])) [] [639,640] (λq=>(.ret,([(4,.I q)],[]))) [] [639,640] (λq=>(.exit 0,([],[]))) Z (λd=>I 6 Z (vA_ 16 Qc Z λe=>S 0 .clo [(639,640)] SK Z λc=>I 2 Z (L 9 Z)<|R 7 Z)<|X 2 Z) (λf=>E 2 Z) (λ_=>E 8 Z)
def UB (f:(L_ Qv))(g:Int)(h:Int)(i:Int)(j:Int)(c:(L_ Qj))(k:(L_ Qp))(l:(L_ Qm))(m:Int)(d:Int)(e:(L_ ByteArray))(a:ByteArray):O_ Int:=j_ (Gf c a) λb=>Q b
def Fa {g h i j k c d e l b a f}:CT 224 [.L 639,.s f] [(639,.var [.M 3 Qn g,.I h,.I i,.I j,.I k,.P 640 c,.P 641 d,.P 642 e,.I l,.I b,.P 643 a]),(640,.R 7 Qc c),(641,.R 3 Qd d),(642,.R 14 Qb e),(643,.R 1 QG a)] (UB g h i j k c d e l b a f) V.I (λ_=>[(639,.var [.M 3 Qn g,.I h,.I i,.I j,.I k,.P 640 c,.P 641 d,.P 642 e,.I l,.I b,.P 643 a]),(640,.R 7 Qc c),(641,.R 3 Qd d),(642,.R 14 Qb e),(643,.R 1 QG a)]):=
 W 12 func224 Z<|S 14 .fn [(639,640),(640,3)] Cz Z λm=>E 4 Z
def QiT:O_ Bool:=j_ (UB l4 m4 h5 j5 k5 h6 k6 m6 l5 m5 h7 g) λd=>Q (decide (0<=d))
def Qnt {m h i j k l e f g c d a}:CT 312 [.s m,.L 639] [(639,.var [.clo (.func 224) [.L 640] []]),(640,.var [.M 3 Qn h,.I i,.I j,.I k,.I l,.P 641 e,.P 642 f,.P 643 g,.I c,.I d,.P 644 a]),(641,.R 7 Qc e),(642,.R 3 Qd f),(643,.R 14 Qb g),(644,.R 1 QG a)] (QiT m h i j k l e f g c d a) V.b (λ_=>[(639,.var [.clo (.func 224) [.L 640] []]),(640,.var [.M 3 Qn h,.I i,.I j,.I k,.I l,.P 641 e,.P 642 f,.P 643 g,.I c,.I d,.P 644 a]),(641,.R 7 Qc e),(642,.R 3 Qd f),(643,.R 14 Qb g),(644,.R 1 QG a)]):=
 W 8 func312 Z<|S 9 .clo [(639,640),(640,641),(641,642),(642,643),(643,644)] Fa Z λn=>E 5 Z
def AY:O_ (ByteArray×(L_ Qv)×Int×Int×Int×Int×Int×Int):=Q (j7.1,k7,g9,h8,i8,j8,k8,m8)
def SL:O_ (ByteArray×(L_ Qv)×Int×Int×Int×Int×Int×Int):=j_ (JR r o h0 s i0 i m l h n p) λc=>j_ (cond c.2 (j_ (QiT c.1 r o h0 s i0 i m l h n p) λa=>Q a)<|Q f_) (λj=>cond j n_<|cond (s==0) (AY c r h0 s i0 h n (Qf (o+1)))<|AY c r h0 s i0 h n o)
def QdK {i o j k l e f g m c a}:CT 222 [.L 639,.clo (.func 312) [] [.L 644]] [(639,.var [.M 3 Qn i,.I o,.I j,.I k,.I l,.P 640 e,.P 641 f,.P 642 g,.I m,.I c,.P 643 a]),(640,.R 7 Qc e),(641,.R 3 Qd f),(642,.R 14 Qb g),(643,.R 1 QG a),(644,.var [.clo (.func 224) [.L 639] []])] (SL i o j k l e f g m c a) (λr=>(.s r.1)) (λr=>[(639,.var [.M 3 Qn r.2.1,.I r.2.2.1,.I r.2.2.2.1,.I r.k.1,.I r.k.2.1,.P 640 e,.P 641 f,.P 642 g,.I r.k.2.2.1,.I r.k.2.2.2,.P 643 a]),(640,.R 7 Qc e),(641,.R 3 Qd f),(642,.R 14 Qb g),(643,.R 1 QG a),(644,.var [.clo (.func 224) [.L 639] []])]):=
 W 33 func222 Z<|S 8 .fn [(639,639),(640,640),(641,641),(642,642),(643,643)] JF Z λn=>mV_ 9 [0,5] [639,640,641,642,643,644] (λh=>([(17,.b h)],[])) Z (I 3 Z (S 2 .clo [(639,644),(640,639),(641,640),(642,641),(643,642),(644,643)] Qnt Z λp=>M 2 Z)<|M 5 Z) λh=>I 1 Z (nO_)<|mE_ 2 [5] [640,641,642,643,644] (λd:Int=>([],[(639,.var [.M 3 Qn i,.I d,.I j,.I k,.I l,.P 640 e,.P 641 f,.P 642 g,.I m,.I c,.P 643 a])])) (λd=>AY n i j k l m c d) Z (I 9 Z (P 10 Z Z)<|P 1 Z Z) λd=>E 7 Z
def Xw:O_ ((L_ Qv)×Int×Int×Int×Int×Int×Int):=j_ (XI r o h0 s i0 i m l h n p g) λa=>cond (!a.1) n_<|Q (a.2.1,a.2.2.1,a.2.2.2.1,a.k.1,a.k.2.1,a.k.2.2.1,a.k.2.2.2)
def Xr {g h i j k b c d l e a f}:CT 134 [.L 639,.s f] [(639,.var [.M 3 Qn g,.I h,.I i,.I j,.I k,.P 640 b,.P 641 c,.P 642 d,.I l,.I e,.P 643 a]),(640,.R 7 Qc b),(641,.R 3 Qd c),(642,.R 14 Qb d),(643,.R 1 QG a)] (Xw g h i j k b c d l e a f) (λ_=>(.tup [])) (λr=>[(639,.var [.M 3 Qn r.1,.I r.2.1,.I r.2.2.1,.I r.2.2.2.1,.I r.k.1,.P 640 b,.P 641 c,.P 642 d,.I r.k.2.1,.I r.k.2.2,.P 643 a]),(640,.R 7 Qc b),(641,.R 3 Qd c),(642,.R 14 Qb d),(643,.R 1 QG a)]):=
 W 10 func134 Z<|S 4 .fn [(639,639),(640,640),(641,641),(642,642),(643,643)] XC Z λm=>I 3 Z (nO_)<|E 1 Z
def EL:O_ (Int×(L_ Qv)×Int×Int×Int×Int×Int×Int):=
 j_ (GK r o h0 s i0 i m l h n p) λb=>
 j_ (Vu b.Text) λc=>
 cond ((b.Kind != 2)||(!c.2)) n_<|Q (c.1,r,(Qf (o+1)),h0,s,i0,h,n)
def Af {j k l m n d e f o g a}:CT 227 [.L 639] [(639,.var [.M 3 Qn j,.I k,.I l,.I m,.I n,.P 640 d,.P 641 e,.P 642 f,.I o,.I g,.P 643 a]),(640,.R 7 Qc d),(641,.R 3 Qd e),(642,.R 14 Qb f),(643,.R 1 QG a)] (EL j k l m n d e f o g a) (λr=>(.I r.1)) (λr=>[(639,.var [.M 3 Qn r.2.1,.I r.2.2.1,.I r.2.2.2.1,.I r.k.1,.I r.k.2.1,.P 640 d,.P 641 e,.P 642 f,.I r.k.2.2.1,.I r.k.2.2.2,.P 643 a]),(640,.R 7 Qc d),(641,.R 3 Qd e),(642,.R 14 Qb f),(643,.R 1 QG a)]):=
 W 31 func227 Z<|S 8 .fn [(639,639),(640,640),(641,641),(642,642),(643,643)] Ee Z λh=>A 8 Qba Z λi=>T 9 [0,4] [639,640,641,642,643] ([(20,.b ((h.Kind != 2)||(!i.2)))],[]) Z (H 5 Z (λc=>Y 4 20 Z (Gt c Z)) λc=>Y 4 20 Z (JQ c Z))<|I 1 Z (nO_)<|E 21 Z
def Cf (h:(L_ Qv))(i:Int)(j:Int)(k:Int)(l:Int)(e:(L_ Qj))(f:(L_ Qp))(g:(L_ Qm))(m:Int)(d:Int)(c:(L_ ByteArray)):O_ (Int×(L_ Qv)×Int×Int×Int×Int×Int×Int):=(XI h i j k l e f g m d c (⟨#[45]⟩:ByteArray)).bind λa=>cond a.1 n_<|(EL a.2.1 a.2.2.1 a.2.2.2.1 a.k.1 a.k.2.1 e f g a.k.2.2.1 a.k.2.2.2 c).bind λb=>Q (b.1,b.2.1,b.2.2.1,b.2.2.2.1,b.k.1,b.k.2.1,b.k.2.2.1,b.k.2.2.2)
def Lu {f g h i j b c d k e a}:CT 225 [.L 639] [(639,.var [.M 3 Qn f,.I g,.I h,.I i,.I j,.P 640 b,.P 641 c,.P 642 d,.I k,.I e,.P 643 a]),(640,.R 7 Qc b),(641,.R 3 Qd c),(642,.R 14 Qb d),(643,.R 1 QG a)] (Cf f g h i j b c d k e a) (λr=>(.I r.1)) (λr=>[(639,.var [.M 3 Qn r.2.1,.I r.2.2.1,.I r.2.2.2.1,.I r.k.1,.I r.k.2.1,.P 640 b,.P 641 c,.P 642 d,.I r.k.2.2.1,.I r.k.2.2.2,.P 643 a]),(640,.R 7 Qc b),(641,.R 3 Qd c),(642,.R 14 Qb d),(643,.R 1 QG a)]):=
 W 10 func225 Z<|S 9 .fn [(639,639),(640,640),(641,641),(642,642),(643,643)] XC Z λl=>I 2 Z (nO_)<|S 5 .fn [(639,639),(640,640),(641,641),(642,642),(643,643)] Af Z λm=>E 4 Z
def Mw (o:(L_ Qv))(p:Int)(q:Int)(r:Int)(s:Int)(j:(L_ Qj))(k:(L_ Qp))(l:(L_ Qm))(t:Int)(m:Int)(b:(L_ ByteArray)):O_ ((L_ Qj)×(L_ Qv)×Int×Int×Int×Int×Int×Int):=(Qns o p q r s j k l t m b).bind λu=>(SL o p q r s j k l t m b).bind λc=>(Xw c.2.1 c.2.2.1 c.2.2.2.1 c.k.1 c.k.2.1 j k l c.k.2.2.1 c.k.2.2.2 b (⟨#[61]⟩:ByteArray)).bind λg=>(XI g.1 g.2.1 g.2.2.1 g.2.2.2.1 g.k.1 j k l g.k.2.1 g.k.2.2 b (⟨#[105,110,116]⟩:ByteArray)).bind λa=>cond a.1 ((Cf a.2.1 a.2.2.1 a.2.2.2.1 a.k.1 a.k.2.1 j k l a.k.2.2.1 a.k.2.2.2 b).bind λd=>(Xw d.2.1 d.2.2.1 d.2.2.2.1 d.k.1 d.k.2.1 j k l d.k.2.2.1 d.k.2.2.2 b (⟨#[46,46]⟩:ByteArray)).bind λh=>(Cf h.1 h.2.1 h.2.2.1 h.2.2.2.1 h.k.1 j k l h.k.2.1 h.k.2.2 b).bind λe=>(Xw e.2.1 e.2.2.1 e.2.2.2.1 e.k.1 e.k.2.1 j k l e.k.2.2.1 e.k.2.2.2 b (⟨#[59]⟩:ByteArray)).bind λi=>(chk (j.length+([(Qj.mk c.1 1 d.1 e.1 ([]:(L_ ByteArray)) 0 0)]:L_ Qj).length<=4294967296)).bind λ_=>Q ((j++[(Qj.mk c.1 1 d.1 e.1 ([]:(L_ ByteArray)) 0 0)]),i.1,i.2.1,i.2.2.1,i.2.2.2.1,i.k.1,i.k.2.1,i.k.2.2))<|(XI a.2.1 a.2.2.1 a.2.2.2.1 a.k.1 a.k.2.1 j k l a.k.2.2.1 a.k.2.2.2 b (⟨#[101,110,117,109]⟩:ByteArray)).bind λf=>cond f.1 n_<|(XI f.2.1 f.2.2.1 f.2.2.2.1 f.k.1 f.k.2.1 j k l f.k.2.2.1 f.k.2.2.2 b (⟨#[112,97,105,114]⟩:ByteArray)).bind λn=>cond n.1 n_<|none
def ZU {k l n o p f g h q i b}:CT 128 [.L 639] [(639,.var [.M 3 Qn k,.I l,.I n,.I o,.I p,.P 635 f,.P 640 g,.P 641 h,.I q,.I i,.P 642 b]),(635,.R 7 Qc f),(640,.R 3 Qd g),(641,.R 14 Qb h),(642,.R 1 QG b)] (Mw k l n o p f g h q i b) (λ_=>(.tup [])) (λr=>[(635,.R 7 Qc r.1),(639,.var [.M 3 Qn r.2.1,.I r.2.2.1,.I r.2.2.2.1,.I r.k.1,.I r.k.2.1,.P 635 r.1,.P 640 g,.P 641 h,.I r.k.2.2.1,.I r.k.2.2.2,.P 642 b]),(640,.R 3 Qd g),(641,.R 14 Qb h),(642,.R 1 QG b)]):=
 W 70 func128 Z<|zA_ 5 .fn [(639,639),(640,635),(641,640),(642,641),(643,642)] [(7,1),(639,639),(635,640),(640,641),(641,642),(642,643)] [] QqY Z λt=>S 0 .fn [(639,639),(640,635),(641,640),(642,641),(643,642),(644,7)] QdK Z λc=>S 8 .fn [(639,639),(640,635),(641,640),(642,641),(643,642)] Xr Z λu=>S 7 .fn [(639,639),(640,635),(641,640),(642,641),(643,642)] XC Z λv=>I 3 Z (S 9 .fn [(639,639),(640,635),(641,640),(642,641),(643,642)] Lu Z λd=>S 7 .fn [(639,639),(640,635),(641,640),(642,641),(643,642)] Xr Z λw=>S 4 .fn [(639,639),(640,635),(641,640),(642,641),(643,642)] Lu Z λe=>S 8 .fn [(639,639),(640,635),(641,640),(642,641),(643,642)] Xr Z λx=>kA_ λj=>D 2 Z [.a .no n_ t_,.N,.N,.N,.N,.N,.N,.a (.bd [n_,n_,n_,n_,Q 1,n_,n_]) (Q ([],.sl 7 (([(Qj.mk c.1 1 d.1 e.1 ([]:(L_ ByteArray)) 0 0)]:L_ Qj).map Qc))) f_,.m (.app ((f++[(Qj.mk c.1 1 d.1 e.1 ([]:(L_ ByteArray)) 0 0)]).map Qc) (f++[(Qj.mk c.1 1 d.1 e.1 ([]:(L_ ByteArray)) 0 0)]).length),.N,.N,.N,.m .s] [0,2] [2,635,639,640,641,642] [] [635,639,640,641,642] Z Z (a2_ Z ⟨Ql,Gd j Ql,Yg,JB Ql⟩) Z<|E 0 Z)<|S 3 .fn [(639,639),(640,635),(641,640),(642,641),(643,642)] XC Z λy=>I 3 Z (nO_)<|S 3 .fn [(639,639),(640,635),(641,640),(642,641),(643,642)] XC Z λz=>I 3 Z (nO_)<|nO_
def QhP (c:(L_ Qv))(d:Int)(e:Int)(f:Int)(g:Int)(h:(L_ Qj))(i:(L_ Qp))(j:(L_ Qm))(k:Int)(a:Int)(b:(L_ ByteArray)):O_ Unit:=Q ()
def Ql2 {f g h i j c d e k b a}:CT 223 [.clo (.func 133) [.L 639] []] [(639,.var [.M 3 Qn f,.I g,.I h,.I i,.I j,.P 640 c,.P 641 d,.P 642 e,.I k,.I b,.P 643 a]),(640,.R 7 Qc c),(641,.R 3 Qd d),(642,.R 14 Qb e),(643,.R 1 QG a)] (QhP f g h i j c d e k b a) (λ_=>(.clo (.func 312) [] [.L 1])) (λ_=>[(1,.var [.clo (.func 133) [.L 639] []]),(639,.var [.M 3 Qn f,.I g,.I h,.I i,.I j,.P 640 c,.P 641 d,.P 642 e,.I k,.I b,.P 643 a]),(640,.R 7 Qc c),(641,.R 3 Qd d),(642,.R 14 Qb e),(643,.R 1 QG a)]):=
 W 4 func223 Z<|E 13 Z
def Im (a:Qp)(b:ByteArray):O_ Bool:=Q (Km a.Name b)
def TX {c a}:CT 234 [.G Qd c,.L 639] [(639,.W QG a)] (Im c a) V.b (λ_=>[(639,.W QG a)]):=
 W 8 func234 Z<|E 16 Z
def GL:O_ Int:=j_ (Qx (λst=>cond (st<(m.length:Int)) (j_ (idx m st) λf=>j_ (Im f g) λa=>cond a (Q (i_ (y_ st)))<|Q (y_ (Qf (st+1))))<|Q (i_ (i_ ()))) 0) (Sum.elim (λq=>Q q) (λq=>Q (-1)))
def FT {a b}:CT 233 [.P 639 a,.clo (.func 234) [] [.L 640]] [(639,.R 3 Qd a),(640,.W QG b)] (GL a b) V.I (λ_=>[(639,.R 3 Qd a),(640,.W QG b)]):=
 W 19 func233 Z<|F 14 [0,1,7] [639,640] (λst=>([(8,.I st)],[])) [] [639,640] (λq=>(.ret,([(4,.I q)],[]))) [] [639,640] (λq=>(.exit 0,([],[]))) Z (λd=>I 6 Z (vA_ 16 Qd Z λe=>S 0 .clo [(639,640)] TX Z λc=>I 2 Z (L 9 Z)<|R 7 Z)<|X 2 Z) (λf=>E 2 Z) (λ_=>E 8 Z)
def Ag (f:(L_ Qv))(g:Int)(h:Int)(i:Int)(j:Int)(k:(L_ Qj))(c:(L_ Qp))(l:(L_ Qm))(m:Int)(d:Int)(e:(L_ ByteArray))(a:ByteArray):O_ Int:=j_ (GL c a) λb=>Q b
def FZ {g h i j k c d e l b a f}:CT 133 [.L 639,.s f] [(639,.var [.M 3 Qn g,.I h,.I i,.I j,.I k,.P 640 c,.P 641 d,.P 642 e,.I l,.I b,.P 643 a]),(640,.R 7 Qc c),(641,.R 3 Qd d),(642,.R 14 Qb e),(643,.R 1 QG a)] (Ag g h i j k c d e l b a f) V.I (λ_=>[(639,.var [.M 3 Qn g,.I h,.I i,.I j,.I k,.P 640 c,.P 641 d,.P 642 e,.I l,.I b,.P 643 a]),(640,.R 7 Qc c),(641,.R 3 Qd d),(642,.R 14 Qb e),(643,.R 1 QG a)]):=
 W 12 func133 Z<|S 14 .fn [(639,641),(640,3)] FT Z λm=>E 4 Z
def Qef:O_ Bool:=j_ (Ag l4 m4 h5 j5 k5 h6 k6 m6 l5 m5 h7 g) λd=>Q (decide (0<=d))
def QiU {m h i j k l e f g c d a}:CT 312 [.s m,.L 639] [(639,.var [.clo (.func 133) [.L 640] []]),(640,.var [.M 3 Qn h,.I i,.I j,.I k,.I l,.P 641 e,.P 642 f,.P 643 g,.I c,.I d,.P 644 a]),(641,.R 7 Qc e),(642,.R 3 Qd f),(643,.R 14 Qb g),(644,.R 1 QG a)] (Qef m h i j k l e f g c d a) V.b (λ_=>[(639,.var [.clo (.func 133) [.L 640] []]),(640,.var [.M 3 Qn h,.I i,.I j,.I k,.I l,.P 641 e,.P 642 f,.P 643 g,.I c,.I d,.P 644 a]),(641,.R 7 Qc e),(642,.R 3 Qd f),(643,.R 14 Qb g),(644,.R 1 QG a)]):=
 W 8 func312 Z<|S 9 .clo [(639,640),(640,641),(641,642),(642,643),(643,644)] FZ Z λn=>E 5 Z
def Ud:O_ (ByteArray×(L_ Qv)×Int×Int×Int×Int×Int×Int):=Q (j7.1,k7,g9,h8,i8,j8,k8,m8)
def Oq:O_ (ByteArray×(L_ Qv)×Int×Int×Int×Int×Int×Int):=j_ (JR r o h0 s i0 i m l h n p) λc=>j_ (cond c.2 (j_ (Qef c.1 r o h0 s i0 i m l h n p) λa=>Q a)<|Q f_) (λj=>cond j n_<|cond (s==0) (Ud c r h0 s i0 h n (Qf (o+1)))<|Ud c r h0 s i0 h n o)
def QaH {i o j k l e f g m c a}:CT 222 [.L 639,.clo (.func 312) [] [.L 644]] [(639,.var [.M 3 Qn i,.I o,.I j,.I k,.I l,.P 640 e,.P 641 f,.P 642 g,.I m,.I c,.P 643 a]),(640,.R 7 Qc e),(641,.R 3 Qd f),(642,.R 14 Qb g),(643,.R 1 QG a),(644,.var [.clo (.func 133) [.L 639] []])] (Oq i o j k l e f g m c a) (λr=>(.s r.1)) (λr=>[(639,.var [.M 3 Qn r.2.1,.I r.2.2.1,.I r.2.2.2.1,.I r.k.1,.I r.k.2.1,.P 640 e,.P 641 f,.P 642 g,.I r.k.2.2.1,.I r.k.2.2.2,.P 643 a]),(640,.R 7 Qc e),(641,.R 3 Qd f),(642,.R 14 Qb g),(643,.R 1 QG a),(644,.var [.clo (.func 133) [.L 639] []])]):=
 W 33 func222 Z<|S 8 .fn [(639,639),(640,640),(641,641),(642,642),(643,643)] JF Z λn=>mV_ 9 [0,5] [639,640,641,642,643,644] (λh=>([(17,.b h)],[])) Z (I 3 Z (S 2 .clo [(639,644),(640,639),(641,640),(642,641),(643,642),(644,643)] QiU Z λp=>M 2 Z)<|M 5 Z) λh=>I 1 Z (nO_)<|mE_ 2 [5] [640,641,642,643,644] (λd:Int=>([],[(639,.var [.M 3 Qn i,.I d,.I j,.I k,.I l,.P 640 e,.P 641 f,.P 642 g,.I m,.I c,.P 643 a])])) (λd=>Ud n i j k l m c d) Z (I 9 Z (P 10 Z Z)<|P 1 Z Z) λd=>E 7 Z
def Hs:O_ (Int×(L_ Qv)×Int×Int×Int×Int×Int×Int):=j_ (JR r o h0 s i0 i m l h n p) λc=>cond (!c.2) n_<|j_ (UB r o h0 s i0 i m l h n p c.1) λd=>cond (d<0) n_<|Q (d,r,(Qf (o+1)),h0,s,i0,h,n)
def Ot {f g h i j b c d k e a}:CT 132 [.L 639,.clo (.func 224) [.L 639] []] [(639,.var [.M 3 Qn f,.I g,.I h,.I i,.I j,.P 640 b,.P 641 c,.P 642 d,.I k,.I e,.P 643 a]),(640,.R 7 Qc b),(641,.R 3 Qd c),(642,.R 14 Qb d),(643,.R 1 QG a)] (Hs f g h i j b c d k e a) (λr=>(.I r.1)) (λr=>[(639,.var [.M 3 Qn r.2.1,.I r.2.2.1,.I r.2.2.2.1,.I r.k.1,.I r.k.2.1,.P 640 b,.P 641 c,.P 642 d,.I r.k.2.2.1,.I r.k.2.2.2,.P 643 a]),(640,.R 7 Qc b),(641,.R 3 Qd c),(642,.R 14 Qb d),(643,.R 1 QG a)]):=
 W 30 func132 Z<|S 8 .fn [(639,639),(640,640),(641,641),(642,642),(643,643)] JF Z λl=>I 14 Z (nO_)<|S 6 .clo [(639,639),(640,640),(641,641),(642,642),(643,643)] Fa Z λm=>I 10 Z (nO_)<|E 21 Z
def AV (a:QBg):O_ Unit:=Q ()
def OP {a}:CT 228 [.map 639] [(639,.map (QJ V.I V.I a))] (AV a) (λ_=>(.clo (.func 315) [] [.L 1])) (λ_=>[(1,.var [.map 639]),(639,.map (QJ V.I V.I a))]):=
 W 4 func228 Z<|E 13 Z
def YV:O_ LI_:=j_ (chk ((d.length+([c]:L_ Int).length)*8<=140737488355328)) λ_=>Q (d++([c]:L_ Int))
def GM (lpl lpf:Nat)(a:LI_)(c:Int){r:LI_}(h:YV a c=Q r):CW prog lpl (Kn lpf) (QAo (.L 640) (.I c)) [(639,.lp lpl (Kn lpf) (Lc (.L 640)) 0),(640,.var [.P 635 a]),(635,.R 1 Qa a)] (Gives (.b true) [(635,.R 1 Qa r),(639,.lp lpl (Kn lpf) (Lc (.L 640)) 0),(640,.var [.P 635 r])]):=by
 refine CW.walk (b:=639) 13 rfl rfl λC d=>?_;refine tg_ d [3] ?_;refine AK.done (an_ rfl (ex_ _ (an_ rfl ?_)));exact Mu d h<|kA_ λf=>K [4,.v (.bd []) [] (.sl 1 (([c]:L_ Int).map Qa)),.x (λz=>z.app 635 1 11 (a++([c]:L_ Int)).length ((a++([c]:L_ Int)).map Qa)),1,.O 640 (.var [.own 635 (a++([c]:L_ Int)).length]),2,.K [] [635,639,640]] Z (λd=>(a3_ Z (Stp.appSB (by_:=8) (zs:=[.I 0]) (e:=3) (e':=3) (z':=1) (by':=8) Z Z (QK d.n Z) Z Z Z Ql (by kernel_rfl) (by kernel_rfl) (by kernel_rfl) Z (by decide) (by decide) (Gn f Ql) Z Yg (JB Ql)) Z))<|(λd h=>by
   cases h;refine AK.done ?_;exact ex_ _ (an_ Z (gives r3_)))
def Mx (lpl lpf:Nat)(c:LI_)(i:QBg)(hlen:c.length+i.length<=17592186044416):QQ prog 315 [.clo (.yield lpl) [] [],.L 641] [(639,.lp lpl (Kn lpf) (Lc (.L 640)) 0),(640,.var [.P 635 c]),(635,.R 1 Qa c),(641,.var [.map 642]),(642,.map (QJ V.I V.I i))] (λv hs=>∃r:L_ Int,r.Perm (c++i.map Prod.fst)/\Gives (.tup []) [(635,.R 1 Qa r),(639,.lp lpl (Kn lpf) (Lc (.L 640)) 0),(640,.var [.P 635 r]),(641,.var [.map 642]),(642,.map (QJ V.I V.I i))] v hs):=by
 refine wk_ 14 func315 λC a=>?_;refine tg_ a [3] ?_;refine AK.openMap (b:=642) KX rfl λk l L4 p s=>?_;refine YA a [.x (λσ=>(σ.set 5 (.itr k l #[] n_)).put 5 (.L 5)),3,.K [0,5] [5,635,639,640,641,642]] rfl (a1_ (Stp.range (b:=642) rfl rfl (QK a.n rfl) rfl rfl Ik rfl)) ?_;have hL0:YC L4 #[]=L4:=by simp[YC]
 have z:(c++(YC L4 #[]).map (λq=>q.2.1)).Perm (c++i.map Prod.fst):=by
  rw[hL0];refine List.Perm.append_left c ?_;have:=s.map Prod.fst;rwa[Zi]at this
 refine AK.range (body:=Qsf) (λ(_:Nat) seen σ=>∃(cur:O_ Nat) (st:L_ Int),(st++(YC L4 seen).map (λq=>q.2.1)).Perm (c++i.map Prod.fst)/\σ=⟨[(0,.clo (.yield lpl) [] []),lk_ 5],[(5,.itr k l seen cur),(635,.R 1 Qa st),(639,.lp lpl (Kn lpf) (Lc (.L 640)) 0),(640,.var [.P 635 st]),(641,.var [.map 642]),(642,.mapX k l (CV V.I V.I L4) (QJ V.I V.I i))]⟩) (λ(q:Empty) _ _=>False) (λ_ e σ=>∃st:L_ Int,st.Perm (c++i.map Prod.fst)/\e=.exit 0/\σ=⟨[],[(635,.R 1 Qa st),(639,.lp lpl (Kn lpf) (Lc (.L 640)) 0),(640,.var [.P 635 st]),(641,.var [.map 642]),(642,.mapX k l (CV V.I V.I L4) (QJ V.I V.I i))]⟩) p s (Qqz i 0) (ex_ _ (ex_ c (an_ z rfl))) ?_ ?_
 ·rintro n0 seen σ ⟨cur,o,hpp,rfl⟩ hex;refine tg_ a [2] ?_;refine AK.nextT (b:=5) (m:=642) rfl rfl rfl (QK a.n rfl) rfl rfl rfl rfl ?_ ?_
  ·intro hleft;refine tg_ a [7,.K [] [635,639,640,641,642]] ?_;exact AK.done (Or.inl (an_ hleft (an_ (λh=>(by cases h)) (ex_ o (an_ (by simpa[hleft] using hpp) (an_ Z Z))))))
  intro O y v9 u;have hpk:=(QbD p u).map (λq=>q.2.1);have w:((o++[y])++(YC L4 (seen.push O)).map (λq=>q.2.1)).Perm (c++i.map Prod.fst):=List.Perm.trans (by simpa using (List.Perm.append_left o hpk).symm) hpp;have a0:(o.length+([y]:L_ Int).length)*8<=140737488355328:=by
   have:=w.length_eq;simp at this ⊢;omega
  have t:YV o y=Q (o++[y]):=by
   unfold YV;rw[Yy a0];rfl
  obtain⟨j,hxe⟩:∃x,x=o++[y]:=⟨_,rfl⟩;rw[<-hxe]at t w;refine YA a [10,.x (λσ=>σ.put 8 (.tup [.I y,.I v9])),8,.x (λσ=>(σ.after [635] [(635,.R 1 Qa j),(639,.lp lpl (Kn lpf) (Lc (.L 640)) 0),(640,.var [.P 635 j])]).put 12 (.b t_)),6,.K [0,5] [5,635,639,640,641,642]] rfl (a2_ (Stp.entryT (b:=5) (m:=642) (e:=V.I) (f:=V.I) rfl rfl (QK a.n rfl) rfl u rfl rfl) (Stp.yieldV (b:=639) (M:=[(639,639),(640,640),(635,635)]) (N:=[(635,635),(639,639),(640,640)]) (dead:=[635]) (ms:=(List.replicate 13 .d)) (outs:=[(635,.R 1 Qa j),(639,.lp lpl (Kn lpf) (Lc (.L 640)) 0),(640,.var [.P 635 j])]) (r:=.b t_) rfl rfl rfl rfl rfl rfl rfl (QK a.n rfl) a.g rfl rfl (GM _ _ _ _ t))) ?_;exact AK.done (Or.inr (ex_ _ (an_ u (Or.inl (ex_ (n0+1) (an_ Z (an_ Z (ex_ _ (ex_ j (an_ w Z))))))))))
 rintro e σ ⟨o,hpp,rfl,rfl⟩;refine tg_ a [1] ?_;refine AK.closeMap (b:=642) rfl ?_;refine tg_ a [.K [] [635,639,640,641,642]] ?_;refine AK.done ?_;exact ex_ [] (an_ U (ex_ o (an_ hpp (gives r5_))))
def TY (a:QBg)(h:a.length<=17592186044416):QQ prog 364 [.Y,.clo (.func 315) [] [.L 639]] [(639,.var [.map 640]),(640,.map (QJ V.I V.I a))] (λv hs=>∃r:L_ Int,r.Perm (a.map Prod.fst)/\Gives (.P 600 r) [(600,.R 1 Qa r),(639,.var [.map 640]),(640,.map (QJ V.I V.I a))] v hs):=by
 refine QQ.walkR 13 func364 Z ntmps364 Z λC c hR=>?_;refine tg_ c [13,.K [2,4,6] [2,639,640]] ?_;refine YA c [.adoptO 2 0 605 1,.O 605 (.arr 1 (([]:L_ Int).map Qa)),.O 2 (.var [.own 605 ([]:L_ Int).length])] rfl (a2_ rfl rfl) ?_;refine AK.rangeFE (ι:=L_ Int) (Φ:=λx=>x.Perm (a.map Prod.fst)) 631 [2] [(639,631),(640,2),(635,605),(641,639),(642,640)] [(605,635),(631,639),(2,640),(639,641),(640,642)] [605] [.d,.d] Kn c hR (λ_=>rfl) rfl rfl rfl rfl λlpl lpf=>?_;refine ex_ (λb:L_ Int=>[(635,.R 1 Qa b),(639,.lp lpl (Kn lpf) (Lc (.L 640)) 0),(640,.var [.P 635 b]),(641,.var [.map 642]),(642,.map (QJ V.I V.I a))]) (ex_ (λ_=>.tup []) (ex_ (λb=>_) (ex_ _ (ex_ _ (an_ rfl (an_ rfl (an_ (Mx _ _ ([]:L_ Int) a (by simpa using h)) λb=>ex_ _ (ex_ (Lc (.L 2)) (ex_ 0 (an_ rfl (an_ rfl (an_ (bne_iff_ne.1 (show(0 != 1)=t_ from rfl)) λhpp=>?_))))))))))));refine QlY Z ?_;refine tg_ c [9,.K [4] [605,639,640],.ren 605 600,.K [4] [600,639,640]] ?_;refine AK.done ?_;exact ex_ [_] (an_ (an_ Z U) (ex_ b (an_ hpp (gives r3_))))
def QdL (a:QBg)(h:a.length<=17592186044416):QQ prog 294 [.clo (.func 315) [] [.L 639]] [(639,.var [.map 640]),(640,.map (QJ V.I V.I a))] (λv hs=>∃r:L_ Int,r.Perm (a.map Prod.fst)/\Gives (.P 600 r) [(600,.R 1 Qa r),(639,.var [.map 640]),(640,.map (QJ V.I V.I a))] v hs):=by
 refine wk_ 5 func294 λC c=>?_;refine tg_ c [8] ?_;refine AK.callE (ι:=L_ Int) (Φ:=λx=>x.Perm (a.map Prod.fst)) [(639,639),(640,640)] [(4,600),(639,639),(640,640)] [] [.d,.d] (λb=>[(600,.R 1 Qa b),(639,.var [.map 640]),(640,.map (QJ V.I V.I a))]) (λb=>(.P 600 b)) (λb=>_) rfl c (Jo.fn rfl rfl rfl) rfl (QK c.n rfl) rfl rfl (TY a h) (λb=>ex_ _ rfl) λb O=>?_;refine tg_ c [4,.K [2] [4,639,640],.ren 4 600,.K [2] [600,639,640]] ?_;refine AK.done ?_;exact ex_ [_] (an_ (an_ Z U) (ex_ b (an_ O (gives r3_))))
def Yv (l:L_ Int):O_ LI_:=j_ (chk (l.length<4611686018427387904)) λ_=>Q (Jr l)
def Gg (l){r}(h:Yv l=Q r):QQ prog 30 [.P 639 l] [(639,.R 1 Qa l)] (Gives (.tup []) [(639,.R 1 Qa r)]):=by
 obtain⟨_,a,h⟩:=XO h;cases h;exact Qs5 Qu8 l (QZ (QiE a))
def Vf:O_ LI_:=j_ (chk (f.length<=17592186044416)) λ_=>Q (Jr (f.map Prod.fst))
def Qe8 {a}:CT 193 [.clo (.func 315) [] [.L 639]] [(639,.var [.map 640]),(640,.map (QJ V.I V.I a))] (Vf a) (λr=>(.P 600 r)) (λr=>[(600,.R 1 Qa r),(639,.var [.map 640]),(640,.map (QJ V.I V.I a))]):=
 W 9 func193 Z<|B λ_ O=>(λe h=>by
   replace O:=QZ (QiE O);cases h;refine tg_ e [8] ?_;refine AK.callE (ι:=L_ Int) (Φ:=λx=>x.Perm (a.map Prod.fst)) [(639,639),(640,640)] [(5,600),(639,639),(640,640)] [] [.d] (λb=>[(600,.R 1 Qa b),(639,.var [.map 640]),(640,.map (QJ V.I V.I a))]) (λb=>(.P 600 b)) (λb=>_) rfl e (Jo.fn rfl rfl rfl) rfl (QK e.n rfl) rfl rfl (QdL a O) (λb=>ex_ _ rfl) λb hpp=>?_;have f:Yv b=Q (Jr (a.map Prod.fst)):=by
    unfold Yv;rw[Yy (by have:=hpp.length_eq;simp at this;omega),Qnj hpp];rfl
   have c:(Jr (a.map Prod.fst)).length=b.length:=by rw[Ms,hpp.length_eq]
   refine YA e [6,.cm (.fn) [(639,5)] [(5,639)] [] [.d] [(639,.arr 1 (((Jr (a.map Prod.fst))).map Qa))] (.tup []),.S 3 (.own 5 (Jr (a.map Prod.fst)).length),.S 5 (.own 5 (Jr (a.map Prod.fst)).length),.S 6 (.own 5 (Jr (a.map Prod.fst)).length),9,.K [2] [5,639,640],.ren 5 600,.K [2] [600,639,640]] rfl (a4_ (Gg _ f) (by simp[c]) (by simp[c]) (by simp[c])) ?_;refine AK.done ?_;exact ex_ [_] (an_ (an_ Z U) (gives r3_)))
def ZV:O_ (Int⊕Unit):=cond (c<d.length) (j_ (idx d c) λa=>n_)<|Q (i_ ())
def ZW (a:(Bool×(L_ Qv)×Int×Int×Int×Int×Int×Int))(g:(L_ Qj))(e:(L_ Qp))(h:(L_ Qm))(f:(L_ ByteArray))(c:(ByteArray×(L_ Qv)×Int×Int×Int×Int×Int×Int))(d:(Int×(L_ Qv)×Int×Int×Int×Int×Int×Int)):O_ ((L_ Qp)×(L_ Qv)×Int×Int×Int×Int×Int×Int):=(Xw a.2.1 a.2.2.1 a.2.2.2.1 a.k.1 a.k.2.1 g e h a.k.2.2.1 a.k.2.2.2 f (⟨#[59]⟩:ByteArray)).bind λb=>(chk (e.length+([(Qp.mk c.1 d.1 ([]:QBg))]:L_ Qp).length<=4294967296)).bind λ_=>Q ((e++[(Qp.mk c.1 d.1 ([]:QBg))]),b.1,b.2.1,b.2.2.1,b.2.2.2.1,b.k.1,b.k.2.1,b.k.2.2)
def My (k:(L_ Qv))(l:Int)(m:Int)(n:Int)(o:Int)(e:(L_ Qj))(f:(L_ Qp))(g:(L_ Qm))(p:Int)(h:Int)(d:(L_ ByteArray)):O_ ((L_ Qp)×(L_ Qv)×Int×Int×Int×Int×Int×Int):=(QhP k l m n o e f g p h d).bind λr=>(Oq k l m n o e f g p h d).bind λa=>(Xw a.2.1 a.2.2.1 a.2.2.2.1 a.k.1 a.k.2.1 e f g a.k.2.2.1 a.k.2.2.2 d (⟨#[58]⟩:ByteArray)).bind λc=>(Hs c.1 c.2.1 c.2.2.1 c.2.2.2.1 c.k.1 e f g c.k.2.1 c.k.2.2 d).bind λb=>(XI b.2.1 b.2.2.1 b.2.2.2.1 b.k.1 b.k.2.1 e f g b.k.2.2.1 b.k.2.2.2 d (⟨#[61]⟩:ByteArray)).bind λi=>cond i.1 n_<|(AV ([]:QBg)).bind λs=>(Vf ([]:QBg)).bind λj=>(Qx (λst=>ZV j st) 0).bind (λq=>ZW i e f g d a b)
def ZX {j k l n o e f g p h b}:CT 129 [.L 639] [(639,.var [.M 3 Qn j,.I k,.I l,.I n,.I o,.P 640 e,.P 635 f,.P 641 g,.I p,.I h,.P 642 b]),(640,.R 7 Qc e),(635,.R 3 Qd f),(641,.R 14 Qb g),(642,.R 1 QG b)] (My j k l n o e f g p h b) (λ_=>(.tup [])) (λr=>[(635,.R 3 Qd r.1),(639,.var [.M 3 Qn r.2.1,.I r.2.2.1,.I r.2.2.2.1,.I r.k.1,.I r.k.2.1,.P 640 e,.P 635 r.1,.P 641 g,.I r.k.2.2.1,.I r.k.2.2.2,.P 642 b]),(640,.R 7 Qc e),(641,.R 14 Qb g),(642,.R 1 QG b)]):=
 W 81 func129 Z<|zA_ 5 .fn [(639,639),(640,640),(641,635),(642,641),(643,642)] [(12,1),(639,639),(640,640),(635,641),(641,642),(642,643)] [] Ql2 Z λt=>S 0 .fn [(639,639),(640,640),(641,635),(642,641),(643,642),(644,12)] QaH Z λc=>S 8 .fn [(639,639),(640,640),(641,635),(642,641),(643,642)] Xr Z λu=>S 7 .fn [(639,639),(640,640),(641,635),(642,641),(643,642)] Ot Z λd=>S 14 .fn [(639,639),(640,640),(641,635),(642,641),(643,642)] XC Z λv=>I 2 Z (nO_)<|zA_ 6 .fn [(639,22)] [(45,1),(22,639)] [] OP Z λw=>zA_ 0 .fn [(639,45),(640,22)] [(46,600),(45,639),(22,640)] [] Qe8 Z λx=>lA_ 5 [0,2,3,46,47] [2,22,46,635,639,640,641,642] (λst=>([(48,.I st)],[])) [0,2] [2,635,639,640,641,642] (λq=>(.exit 2,([],[]))) Z (λy=>I 6 Z (vA_ 7 Qa Z λz=>nO_)<|X 2 Z) λ_=>S 5 .fn [(639,639),(640,640),(641,635),(642,641),(643,642)] Xr Z λC=>kA_ λi=>D 2 Z [.a .no n_ t_,.N,.N,.N,.N,.N,.N,.a (.bd [n_,n_,Q 2]) (Q ([],.sl 3 (([(Qp.mk c.1 d.1 ([]:QBg))]:L_ Qp).map Qd))) f_,.m (.app ((f++[(Qp.mk c.1 d.1 ([]:QBg))]).map Qd) (f++[(Qp.mk c.1 d.1 ([]:QBg))]).length),.N,.N,.N,.m .s] [0,2] [2,635,639,640,641,642] [] [635,639,640,641,642] Z Z (a2_ Z ⟨Ql,Gd i Ql,Yg,JB Ql⟩) Z<|E 0 Z
def QhQ (c:(L_ Qv))(d:Int)(e:Int)(f:Int)(g:Int)(h:(L_ Qj))(i:(L_ Qp))(j:(L_ Qm))(k:Int)(a:Int)(b:(L_ ByteArray)):O_ Unit:=Q ()
def Ql3 {f g h i j c d e k b a}:CT 223 [.clo (.func 229) [.L 639] []] [(639,.var [.M 3 Qn f,.I g,.I h,.I i,.I j,.P 640 c,.P 641 d,.P 642 e,.I k,.I b,.P 643 a]),(640,.R 7 Qc c),(641,.R 3 Qd d),(642,.R 14 Qb e),(643,.R 1 QG a)] (QhQ f g h i j c d e k b a) (λ_=>(.clo (.func 312) [] [.L 1])) (λ_=>[(1,.var [.clo (.func 229) [.L 639] []]),(639,.var [.M 3 Qn f,.I g,.I h,.I i,.I j,.P 640 c,.P 641 d,.P 642 e,.I k,.I b,.P 643 a]),(640,.R 7 Qc c),(641,.R 3 Qd d),(642,.R 14 Qb e),(643,.R 1 QG a)]):=
 W 4 func223 Z<|E 13 Z
def Lv (a:Qm)(b:ByteArray):O_ Bool:=Q (Km a.Name b)
def Vv {c a}:CT 316 [.G Qb c,.L 639] [(639,.W QG a)] (Lv c a) V.b (λ_=>[(639,.W QG a)]):=
 W 8 func316 Z<|E 16 Z
def Ew:O_ Int:=j_ (Qx (λst=>cond (st<(l.length:Int)) (j_ (idx l st) λf=>j_ (Lv f g) λa=>cond a (Q (i_ (y_ st)))<|Q (y_ (Qf (st+1))))<|Q (i_ (i_ ()))) 0) (Sum.elim (λq=>Q q) (λq=>Q (-1)))
def Ir {a b}:CT 241 [.P 639 a,.clo (.func 316) [] [.L 640]] [(639,.R 14 Qb a),(640,.W QG b)] (Ew a b) V.I (λ_=>[(639,.R 14 Qb a),(640,.W QG b)]):=
 W 19 func241 Z<|F 14 [0,1,7] [639,640] (λst=>([(8,.I st)],[])) [] [639,640] (λq=>(.ret,([(4,.I q)],[]))) [] [639,640] (λq=>(.exit 0,([],[]))) Z (λd=>I 6 Z (vA_ 16 Qb Z λe=>S 0 .clo [(639,640)] Vv Z λc=>I 2 Z (L 9 Z)<|R 7 Z)<|X 2 Z) (λf=>E 2 Z) (λ_=>E 8 Z)
def Ou (f:(L_ Qv))(g:Int)(h:Int)(i:Int)(j:Int)(k:(L_ Qj))(l:(L_ Qp))(c:(L_ Qm))(m:Int)(d:Int)(e:(L_ ByteArray))(a:ByteArray):O_ Int:=j_ (Ew c a) λb=>Q b
def QaI {g h i j k c d e l b a f}:CT 229 [.L 639,.s f] [(639,.var [.M 3 Qn g,.I h,.I i,.I j,.I k,.P 640 c,.P 641 d,.P 642 e,.I l,.I b,.P 643 a]),(640,.R 7 Qc c),(641,.R 3 Qd d),(642,.R 14 Qb e),(643,.R 1 QG a)] (Ou g h i j k c d e l b a f) V.I (λ_=>[(639,.var [.M 3 Qn g,.I h,.I i,.I j,.I k,.P 640 c,.P 641 d,.P 642 e,.I l,.I b,.P 643 a]),(640,.R 7 Qc c),(641,.R 3 Qd d),(642,.R 14 Qb e),(643,.R 1 QG a)]):=
 W 12 func229 Z<|S 14 .fn [(639,642),(640,3)] Ir Z λm=>E 4 Z
def Qeg:O_ Bool:=j_ (Ou l4 m4 h5 j5 k5 h6 k6 m6 l5 m5 h7 g) λd=>Q (decide (0<=d))
def QiV {m h i j k l e f g c d a}:CT 312 [.s m,.L 639] [(639,.var [.clo (.func 229) [.L 640] []]),(640,.var [.M 3 Qn h,.I i,.I j,.I k,.I l,.P 641 e,.P 642 f,.P 643 g,.I c,.I d,.P 644 a]),(641,.R 7 Qc e),(642,.R 3 Qd f),(643,.R 14 Qb g),(644,.R 1 QG a)] (Qeg m h i j k l e f g c d a) V.b (λ_=>[(639,.var [.clo (.func 229) [.L 640] []]),(640,.var [.M 3 Qn h,.I i,.I j,.I k,.I l,.P 641 e,.P 642 f,.P 643 g,.I c,.I d,.P 644 a]),(641,.R 7 Qc e),(642,.R 3 Qd f),(643,.R 14 Qb g),(644,.R 1 QG a)]):=
 W 8 func312 Z<|S 9 .clo [(639,640),(640,641),(641,642),(642,643),(643,644)] QaI Z λn=>E 5 Z
def Ue:O_ (ByteArray×(L_ Qv)×Int×Int×Int×Int×Int×Int):=Q (j7.1,k7,g9,h8,i8,j8,k8,m8)
def Ov:O_ (ByteArray×(L_ Qv)×Int×Int×Int×Int×Int×Int):=j_ (JR r o h0 s i0 i m l h n p) λc=>j_ (cond c.2 (j_ (Qeg c.1 r o h0 s i0 i m l h n p) λa=>Q a)<|Q f_) (λj=>cond j n_<|cond (s==0) (Ue c r h0 s i0 h n (Qf (o+1)))<|Ue c r h0 s i0 h n o)
def QaL {i o j k l e f g m c a}:CT 222 [.L 639,.clo (.func 312) [] [.L 644]] [(639,.var [.M 3 Qn i,.I o,.I j,.I k,.I l,.P 640 e,.P 641 f,.P 642 g,.I m,.I c,.P 643 a]),(640,.R 7 Qc e),(641,.R 3 Qd f),(642,.R 14 Qb g),(643,.R 1 QG a),(644,.var [.clo (.func 229) [.L 639] []])] (Ov i o j k l e f g m c a) (λr=>(.s r.1)) (λr=>[(639,.var [.M 3 Qn r.2.1,.I r.2.2.1,.I r.2.2.2.1,.I r.k.1,.I r.k.2.1,.P 640 e,.P 641 f,.P 642 g,.I r.k.2.2.1,.I r.k.2.2.2,.P 643 a]),(640,.R 7 Qc e),(641,.R 3 Qd f),(642,.R 14 Qb g),(643,.R 1 QG a),(644,.var [.clo (.func 229) [.L 639] []])]):=
 W 33 func222 Z<|S 8 .fn [(639,639),(640,640),(641,641),(642,642),(643,643)] JF Z λn=>mV_ 9 [0,5] [639,640,641,642,643,644] (λh=>([(17,.b h)],[])) Z (I 3 Z (S 2 .clo [(639,644),(640,639),(641,640),(642,641),(643,642),(644,643)] QiV Z λp=>M 2 Z)<|M 5 Z) λh=>I 1 Z (nO_)<|mE_ 2 [5] [640,641,642,643,644] (λd:Int=>([],[(639,.var [.M 3 Qn i,.I d,.I j,.I k,.I l,.P 640 e,.P 641 f,.P 642 g,.I m,.I c,.P 643 a])])) (λd=>Ue n i j k l m c d) Z (I 9 Z (P 10 Z Z)<|P 1 Z Z) λd=>E 7 Z
def RZ (s:(L_ Qv))(t:Int)(u:Int)(v:Int)(w:Int)(x:(L_ Qj))(y:(L_ Qp))(z:(L_ Qm))(C:Int)(b:Int)(c:(L_ ByteArray))(d:ByteArray)(e:(L_ XB))(f:Int)(g:Int)(h:(L_ Qo))(i:Int)(j:Int)(k:(L_ Xf))(l:(L_ Xf))(m:LI_)(n:Int)(o:Int)(p:Int)(q:Int)(r:QSB)(a:ByteArray):O_ (Unit⊕(Unit⊕(Unit⊕(Unit⊕Unit)))):=cond (Km a (⟨#[118,97,114]⟩:ByteArray)) (Q (.inl ()))<|cond (Km a (⟨#[119,104,101,110]⟩:ByteArray)) (Q (.inr (.inl ())))<|cond (Km a (⟨#[106,111,105,110]⟩:ByteArray)) n_<|cond (Km a (⟨#[115,112,108,105,116]⟩:ByteArray)) n_<|cond (Km a (⟨#[105,110]⟩:ByteArray)) (Q (.inr (.inr (.inl ()))))<|cond (Km a (⟨#[111,117,116]⟩:ByteArray)) (Q (.inr (.inr (.inr (.inl ())))))<|cond (Km a (⟨#[99,97,110,99,101,108]⟩:ByteArray)) n_<|cond (Km a (⟨#[97,102,116,101,114]⟩:ByteArray)) (Q (.inr (.inr (.inr (.inr ())))))<|cond (Km a (⟨#[109,97,110,121]⟩:ByteArray)) n_<|none
def Wl {y z C O v5 v w x v9 g a h c i j k l m d e f n o p r t u}:CP 317 [.L 639,.s u] [(639,.var [.L 640,.s h,.P 645 c,.I i,.I j,.sl 3 (QS k),.I l,.I m,.P 646 d,.P 647 e,.P 648 f,.I n,.I o,.I p,.I r,.map 649]),(640,.var [.M 3 Qn y,.I z,.I C,.I O,.I v5,.P 641 v,.P 642 w,.P 643 x,.I v9,.I g,.P 644 a]),(641,.R 7 Qc v),(642,.R 3 Qd w),(643,.R 14 Qb x),(644,.R 1 QG a),(645,.R 2 Xa c),(646,.R 4 QC d),(647,.R 4 QC e),(648,.R 1 Qa f),(649,.map (QJ V.s V.b t))] (RZ y z C O v5 v w x v9 g a h c i j k l m d e f n o p r t u) ((Sum.elim (λq=>(Gives (.clo (.func 376) [.L 639] []) [(639,.var [.L 640,.s h,.P 645 c,.I i,.I j,.sl 3 (QS k),.I l,.I m,.P 646 d,.P 647 e,.P 648 f,.I n,.I o,.I p,.I r,.map 649]),(640,.var [.M 3 Qn y,.I z,.I C,.I O,.I v5,.P 641 v,.P 642 w,.P 643 x,.I v9,.I g,.P 644 a]),(641,.R 7 Qc v),(642,.R 3 Qd w),(643,.R 14 Qb x),(644,.R 1 QG a),(645,.R 2 Xa c),(646,.R 4 QC d),(647,.R 4 QC e),(648,.R 1 Qa f),(649,.map (QJ V.s V.b t))])) (Sum.elim (λq=>(Gives (.clo (.func 377) [.L 639] []) [(639,.var [.L 640,.s h,.P 645 c,.I i,.I j,.sl 3 (QS k),.I l,.I m,.P 646 d,.P 647 e,.P 648 f,.I n,.I o,.I p,.I r,.map 649]),(640,.var [.M 3 Qn y,.I z,.I C,.I O,.I v5,.P 641 v,.P 642 w,.P 643 x,.I v9,.I g,.P 644 a]),(641,.R 7 Qc v),(642,.R 3 Qd w),(643,.R 14 Qb x),(644,.R 1 QG a),(645,.R 2 Xa c),(646,.R 4 QC d),(647,.R 4 QC e),(648,.R 1 Qa f),(649,.map (QJ V.s V.b t))])) (Sum.elim (λq=>(Gives (.clo (.func 380) [.L 639] []) [(639,.var [.L 640,.s h,.P 645 c,.I i,.I j,.sl 3 (QS k),.I l,.I m,.P 646 d,.P 647 e,.P 648 f,.I n,.I o,.I p,.I r,.map 649]),(640,.var [.M 3 Qn y,.I z,.I C,.I O,.I v5,.P 641 v,.P 642 w,.P 643 x,.I v9,.I g,.P 644 a]),(641,.R 7 Qc v),(642,.R 3 Qd w),(643,.R 14 Qb x),(644,.R 1 QG a),(645,.R 2 Xa c),(646,.R 4 QC d),(647,.R 4 QC e),(648,.R 1 Qa f),(649,.map (QJ V.s V.b t))])) (Sum.elim (λq=>(Gives (.clo (.func 381) [.L 639] []) [(639,.var [.L 640,.s h,.P 645 c,.I i,.I j,.sl 3 (QS k),.I l,.I m,.P 646 d,.P 647 e,.P 648 f,.I n,.I o,.I p,.I r,.map 649]),(640,.var [.M 3 Qn y,.I z,.I C,.I O,.I v5,.P 641 v,.P 642 w,.P 643 x,.I v9,.I g,.P 644 a]),(641,.R 7 Qc v),(642,.R 3 Qd w),(643,.R 14 Qb x),(644,.R 1 QG a),(645,.R 2 Xa c),(646,.R 4 QC d),(647,.R 4 QC e),(648,.R 1 Qa f),(649,.map (QJ V.s V.b t))])) (λq=>(Gives (.clo (.func 383) [.L 639] []) [(639,.var [.L 640,.s h,.P 645 c,.I i,.I j,.sl 3 (QS k),.I l,.I m,.P 646 d,.P 647 e,.P 648 f,.I n,.I o,.I p,.I r,.map 649]),(640,.var [.M 3 Qn y,.I z,.I C,.I O,.I v5,.P 641 v,.P 642 w,.P 643 x,.I v9,.I g,.P 644 a]),(641,.R 7 Qc v),(642,.R 3 Qd w),(643,.R 14 Qb x),(644,.R 1 QG a),(645,.R 2 Xa c),(646,.R 4 QC d),(647,.R 4 QC e),(648,.R 1 Qa f),(649,.map (QJ V.s V.b t))]))))))):=
 wP_ 42 func317 Z<|I 18 Z (E 10 Z)<|I 6 Z (E 10 Z)<|I 6 Z (nO_)<|I 6 Z (nO_)<|I 6 Z (E 10 Z)<|I 6 Z (E 10 Z)<|I 6 Z (nO_)<|I 6 Z (E 10 Z)<|I 6 Z (nO_)<|nO_
def QhR (c:(L_ Qv))(d:Int)(e:Int)(f:Int)(g:Int)(h:(L_ Qj))(i:(L_ Qp))(j:(L_ Qm))(k:Int)(a:Int)(b:(L_ ByteArray)):O_ Unit:=Q ()
def Ql4 {f g h i j c d e k b a}:CT 223 [.clo (.func 431) [.L 639] []] [(639,.var [.M 3 Qn f,.I g,.I h,.I i,.I j,.P 640 c,.P 641 d,.P 642 e,.I k,.I b,.P 643 a]),(640,.R 7 Qc c),(641,.R 3 Qd d),(642,.R 14 Qb e),(643,.R 1 QG a)] (QhR f g h i j c d e k b a) (λ_=>(.clo (.func 312) [] [.L 1])) (λ_=>[(1,.var [.clo (.func 431) [.L 639] []]),(639,.var [.M 3 Qn f,.I g,.I h,.I i,.I j,.P 640 c,.P 641 d,.P 642 e,.I k,.I b,.P 643 a]),(640,.R 7 Qc c),(641,.R 3 Qd d),(642,.R 14 Qb e),(643,.R 1 QG a)]):=
 W 4 func223 Z<|E 13 Z
def Cg (e:(L_ Qv))(f:Int)(g:Int)(h:Int)(i:Int)(j:(L_ Qj))(k:(L_ Qp))(l:(L_ Qm))(m:Int)(d:Int)(a:(L_ ByteArray))(b:ByteArray):O_ Int:=j_ (Ji a b) λc=>Q c
def Lw {h i j k l c e f m b a g}:CT 431 [.L 639,.s g] [(639,.var [.M 3 Qn h,.I i,.I j,.I k,.I l,.P 640 c,.P 641 e,.P 642 f,.I m,.I b,.P 643 a]),(640,.R 7 Qc c),(641,.R 3 Qd e),(642,.R 14 Qb f),(643,.R 1 QG a)] (Cg h i j k l c e f m b a g) V.I (λ_=>[(639,.var [.M 3 Qn h,.I i,.I j,.I k,.I l,.P 640 c,.P 641 e,.P 642 f,.I m,.I b,.P 643 a]),(640,.R 7 Qc c),(641,.R 3 Qd e),(642,.R 14 Qb f),(643,.R 1 QG a)]):=
 W 11 func431 Z<|cV_ 12 [.o _,.d] DN Z λn=>E 4 Z
def Qeh:O_ Bool:=j_ (Cg l4 m4 h5 j5 k5 h6 k6 m6 l5 m5 h7 g) λd=>Q (decide (0<=d))
def QiW {m h i j k l e f g c d a}:CT 312 [.s m,.L 639] [(639,.var [.clo (.func 431) [.L 640] []]),(640,.var [.M 3 Qn h,.I i,.I j,.I k,.I l,.P 641 e,.P 642 f,.P 643 g,.I c,.I d,.P 644 a]),(641,.R 7 Qc e),(642,.R 3 Qd f),(643,.R 14 Qb g),(644,.R 1 QG a)] (Qeh m h i j k l e f g c d a) V.b (λ_=>[(639,.var [.clo (.func 431) [.L 640] []]),(640,.var [.M 3 Qn h,.I i,.I j,.I k,.I l,.P 641 e,.P 642 f,.P 643 g,.I c,.I d,.P 644 a]),(641,.R 7 Qc e),(642,.R 3 Qd f),(643,.R 14 Qb g),(644,.R 1 QG a)]):=
 W 8 func312 Z<|S 9 .clo [(639,640),(640,641),(641,642),(642,643),(643,644)] Lw Z λn=>E 5 Z
def Uf:O_ (ByteArray×(L_ Qv)×Int×Int×Int×Int×Int×Int):=Q (j7.1,k7,g9,h8,i8,j8,k8,m8)
def Ow:O_ (ByteArray×(L_ Qv)×Int×Int×Int×Int×Int×Int):=j_ (JR r o h0 s i0 i m l h n p) λc=>j_ (cond c.2 (j_ (Qeh c.1 r o h0 s i0 i m l h n p) λa=>Q a)<|Q f_) (λj=>cond j n_<|cond (s==0) (Uf c r h0 s i0 h n (Qf (o+1)))<|Uf c r h0 s i0 h n o)
def QaO {i o j k l e f g m c a}:CT 222 [.L 639,.clo (.func 312) [] [.L 644]] [(639,.var [.M 3 Qn i,.I o,.I j,.I k,.I l,.P 640 e,.P 641 f,.P 642 g,.I m,.I c,.P 643 a]),(640,.R 7 Qc e),(641,.R 3 Qd f),(642,.R 14 Qb g),(643,.R 1 QG a),(644,.var [.clo (.func 431) [.L 639] []])] (Ow i o j k l e f g m c a) (λr=>(.s r.1)) (λr=>[(639,.var [.M 3 Qn r.2.1,.I r.2.2.1,.I r.2.2.2.1,.I r.k.1,.I r.k.2.1,.P 640 e,.P 641 f,.P 642 g,.I r.k.2.2.1,.I r.k.2.2.2,.P 643 a]),(640,.R 7 Qc e),(641,.R 3 Qd f),(642,.R 14 Qb g),(643,.R 1 QG a),(644,.var [.clo (.func 431) [.L 639] []])]):=
 W 33 func222 Z<|S 8 .fn [(639,639),(640,640),(641,641),(642,642),(643,643)] JF Z λn=>mV_ 9 [0,5] [639,640,641,642,643,644] (λh=>([(17,.b h)],[])) Z (I 3 Z (S 2 .clo [(639,644),(640,639),(641,640),(642,641),(643,642),(644,643)] QiW Z λp=>M 2 Z)<|M 5 Z) λh=>I 1 Z (nO_)<|mE_ 2 [5] [640,641,642,643,644] (λd:Int=>([],[(639,.var [.M 3 Qn i,.I d,.I j,.I k,.I l,.P 640 e,.P 641 f,.P 642 g,.I m,.I c,.P 643 a])])) (λd=>Uf n i j k l m c d) Z (I 9 Z (P 10 Z Z)<|P 1 Z Z) λd=>E 7 Z
def Iu (t:(L_ Qv))(u:Int)(v:Int)(w:Int)(x:Int)(g:(L_ Qj))(h:(L_ Qp))(i:(L_ Qm))(y:Int)(e:Int)(d:(L_ ByteArray))(j:ByteArray)(f:(L_ XB))(k:Int)(l:Int)(m:(L_ Qo))(n:Int)(o:Int)(z:(L_ Xf))(C:(L_ Xf))(O:LI_)(p:Int)(q:Int)(r:Int)(s:Int)(a0:QSB):O_ ((L_ ByteArray)×(L_ XB)×ByteArray×Int×Int×(L_ Qo)×Int×Int×Int×Int×Int×Int×(L_ Qv)×Int×Int×Int×Int×Int×Int):=(QhR t u v w x g h i y e d).bind λa1=>(Ow t u v w x g h i y e d).bind λa=>(Xw a.2.1 a.2.2.1 a.2.2.2.1 a.k.1 a.k.2.1 g h i a.k.2.2.1 a.k.2.2.2 d (⟨#[58]⟩:ByteArray)).bind λc=>(Hs c.1 c.2.1 c.2.2.1 c.2.2.2.1 c.k.1 g h i c.k.2.1 c.k.2.2 d).bind λb=>(chk (f.length+([(XB.mk a.1 b.1)]:L_ XB).length<=4294967296)).bind λ_=>(chk (d.length+([a.1]:L_ ByteArray).length<=4294967296)).bind λ_=>Q ((d++[a.1]),(f++([(XB.mk a.1 b.1)]:L_ XB)),j,k,l,m,n,o,p,q,r,s,b.2.1,b.2.2.1,b.2.2.2.1,b.k.1,b.k.2.1,b.k.2.2.1,b.k.2.2.2)
def TZ {v1 v2 v3 v4 v5 g h i v9 n c q o t u v w x j k l y z C O p}:CT 376 [.L 639] [(639,.var [.L 640,.s q,.P 636 o,.I t,.I u,.sl 3 (QS v),.I w,.I x,.P 644 j,.P 645 k,.P 646 l,.I y,.I z,.I C,.I O,.map 647]),(640,.var [.M 3 Qn v1,.I v2,.I v3,.I v4,.I v5,.P 641 g,.P 642 h,.P 643 i,.I v9,.I n,.P 635 c]),(641,.R 7 Qc g),(642,.R 3 Qd h),(643,.R 14 Qb i),(635,.R 1 QG c),(636,.R 2 Xa o),(644,.R 4 QC j),(645,.R 4 QC k),(646,.R 1 Qa l),(647,.map (QJ V.s V.b p))] (Iu v1 v2 v3 v4 v5 g h i v9 n c q o t u v w x j k l y z C O p) (λ_=>(.tup [])) (λr=>[(635,.R 1 QG r.1),(636,.R 2 Xa r.2.1),(639,.var [.L 640,.s r.2.2.1,.P 636 r.2.1,.I r.2.2.2.1,.I r.k.1,.sl 3 (QS r.k.2.1),.I r.k.2.2.1,.I r.k.2.2.2.1,.P 644 j,.P 645 k,.P 646 l,.I r.j.1,.I r.j.2.1,.I r.j.2.2.1,.I r.j.2.2.2.1,.map 647]),(640,.var [.M 3 Qn r.j.k.1,.I r.j.k.2.1,.I r.j.k.2.2.1,.I r.j.k.2.2.2.1,.I r.j.j.1,.P 641 g,.P 642 h,.P 643 i,.I r.j.j.2.1,.I r.j.j.2.2,.P 635 r.1]),(641,.R 7 Qc g),(642,.R 3 Qd h),(643,.R 14 Qb i),(644,.R 4 QC j),(645,.R 4 QC k),(646,.R 1 Qa l),(647,.map (QJ V.s V.b p))]):=
 W 60 func376 Z<|B λa4 a0=>B λe a1=>D 1 Z [.a .no n_ t_,.a .no n_ t_,.a .no n_ t_,.a .no n_ t_,.N,.N,.N,.N,.N,.m (.cm (.fn) [(639,640),(640,641),(641,642),(642,643),(643,635)] [(13,1),(640,639),(641,640),(642,641),(643,642),(635,643)] [13] [.d] [(1,.var [.clo (.func 431) [.L 639] []]),(639,.var [.M 3 Qn v1,.I v2,.I v3,.I v4,.I v5,.P 640 g,.P 641 h,.P 642 i,.I v9,.I n,.P 643 c]),(640,.R 7 Qc g),(641,.R 3 Qd h),(642,.R 14 Qb i),(643,.R 1 QG c)] (.clo (.func 312) [] [.L 1]) []),.m (.cm (.fn) [(639,640),(640,641),(641,642),(642,643),(643,635),(644,13)] [(640,639),(641,640),(642,641),(643,642),(635,643),(13,644)] [] [.d,.d] [(639,.var [.M 3 Qn e.2.1,.I e.2.2.1,.I e.2.2.2.1,.I e.k.1,.I e.k.2.1,.P 640 g,.P 641 h,.P 642 i,.I e.k.2.2.1,.I e.k.2.2.2,.P 643 c]),(640,.R 7 Qc g),(641,.R 3 Qd h),(642,.R 14 Qb i),(643,.R 1 QG c),(644,.var [.clo (.func 431) [.L 639] []])] (.s e.1) [641,642,643,635,13]),.N] [0] [636,639,644,645,646,647] [0,2] [635,636,639,640,641,642,643,644,645,646,647] Z Z (a2_ (a1_ (Ql4 _ a0)) (a2_ (QaO _ a1) r5_)) Z<|S 7 .fn [(639,640),(640,641),(641,642),(642,643),(643,635)] Xr Z λa5=>B λf a2=>D 3 Z [.N,.N,.N,.N,.N,.N,.N,.N,.N,.m (.cm (.fn) [(639,640),(640,641),(641,642),(642,643),(643,635)] [(640,639),(641,640),(642,641),(643,642),(635,643)] [] [.d,.d] [(639,.var [.M 3 Qn f.2.1,.I f.2.2.1,.I f.2.2.2.1,.I f.k.1,.I f.k.2.1,.P 640 g,.P 641 h,.P 642 i,.I f.k.2.2.1,.I f.k.2.2.2,.P 643 c]),(640,.R 7 Qc g),(641,.R 3 Qd h),(642,.R 14 Qb i),(643,.R 1 QG c)] (.I f.1) [641,642,643,635]),.N] [] [] [0,2,3] [635,636,639,640,641,642,643,644,645,646,647] Z Z (a1_ (a2_ (Ot _ a2) r4_)) Z<|pA_ 12 2 Xa Z<|kA_ λa3=>D 6 Z [.a .no n_ t_,.a .no n_ t_,.a .no n_ t_,.a .no n_ t_,.N,.N,.N,.N,.N,.N,.N,.N,.a (.bd []) (Q ([],.sl 1 (([e.1]:L_ ByteArray).map QG))) f_,.m (.app ((c++[e.1]).map QG) (c++[e.1]).length),.N,.N,.m .s] [0,2] [636,639,641,642,643,644,645,646,647] [] [635,636,639,640,641,642,643,644,645,646,647] Z Z (a2_ Z ⟨Ql,Gd a3 Ql,Yg,JB Ql⟩) Z<|E 0 Z
def Ox:O_ (Int×(L_ Qv)×Int×Int×Int×Int×Int×Int):=j_ (JR r o h0 s i0 i m l h n p) λc=>cond (!c.2) n_<|j_ (Cg r o h0 s i0 i m l h n p c.1) λd=>cond (d<0) n_<|Q (d,r,(Qf (o+1)),h0,s,i0,h,n)
def QaP {f g h i j b c d k e a}:CT 132 [.L 639,.clo (.func 431) [.L 639] []] [(639,.var [.M 3 Qn f,.I g,.I h,.I i,.I j,.P 640 b,.P 641 c,.P 642 d,.I k,.I e,.P 643 a]),(640,.R 7 Qc b),(641,.R 3 Qd c),(642,.R 14 Qb d),(643,.R 1 QG a)] (Ox f g h i j b c d k e a) (λr=>(.I r.1)) (λr=>[(639,.var [.M 3 Qn r.2.1,.I r.2.2.1,.I r.2.2.2.1,.I r.k.1,.I r.k.2.1,.P 640 b,.P 641 c,.P 642 d,.I r.k.2.2.1,.I r.k.2.2.2,.P 643 a]),(640,.R 7 Qc b),(641,.R 3 Qd c),(642,.R 14 Qb d),(643,.R 1 QG a)]):=
 W 30 func132 Z<|S 8 .fn [(639,639),(640,640),(641,641),(642,642),(643,643)] JF Z λl=>I 14 Z (nO_)<|S 6 .clo [(639,639),(640,640),(641,641),(642,642),(643,643)] Lw Z λm=>I 10 Z (nO_)<|E 21 Z
def SM (n:(L_ Qv))(o:Int)(p:Int)(q:Int)(r:Int)(i:(L_ Qj))(j:(L_ Qp))(k:(L_ Qm))(s:Int)(l:Int)(g:(L_ ByteArray))(h:Int):O_ (Qo×(L_ Qv)×Int×Int×Int×Int×Int×Int):=cond (40<h) n_<|(XI n o p q r i j k s l g (⟨#[45]⟩:ByteArray)).bind λb=>cond b.1 n_<|(XI b.2.1 b.2.2.1 b.2.2.2.1 b.k.1 b.k.2.1 i j k b.k.2.2.1 b.k.2.2.2 g (⟨#[33]⟩:ByteArray)).bind λc=>cond c.1 n_<|(XI c.2.1 c.2.2.1 c.2.2.2.1 c.k.1 c.k.2.1 i j k c.k.2.2.1 c.k.2.2.2 g (⟨#[40]⟩:ByteArray)).bind λd=>cond d.1 n_<|(XI d.2.1 d.2.2.1 d.2.2.2.1 d.k.1 d.k.2.1 i j k d.k.2.2.1 d.k.2.2.2 g (⟨#[105,102]⟩:ByteArray)).bind λa=>cond a.1 n_<|(GK a.2.1 a.2.2.1 a.2.2.2.1 a.k.1 a.k.2.1 i j k a.k.2.2.1 a.k.2.2.2 g).bind λm=>cond (m.Kind==2) ((EL a.2.1 a.2.2.1 a.2.2.2.1 a.k.1 a.k.2.1 i j k a.k.2.2.1 a.k.2.2.2 g).bind λe=>Q ((Qo.mk 1 e.1 ([]:(L_ Qo))),e.2.1,e.2.2.1,e.2.2.2.1,e.k.1,e.k.2.1,e.k.2.2.1,e.k.2.2.2))<|(Ox a.2.1 a.2.2.1 a.2.2.2.1 a.k.1 a.k.2.1 i j k a.k.2.2.1 a.k.2.2.2 g).bind λf=>Q ((Qo.mk 2 f.1 ([]:(L_ Qo))),f.2.1,f.2.2.1,f.2.2.2.1,f.k.1,f.k.2.1,f.k.2.2.1,f.k.2.2.2)
def QdM {j k l m p c d e q f b a}:CT 458 [.L 639,.I a] [(639,.var [.M 3 Qn j,.I k,.I l,.I m,.I p,.P 640 c,.P 641 d,.P 642 e,.I q,.I f,.P 643 b]),(640,.R 7 Qc c),(641,.R 3 Qd d),(642,.R 14 Qb e),(643,.R 1 QG b)] (SM j k l m p c d e q f b a) (λr=>(.G QM r.1)) (λr=>[(639,.var [.M 3 Qn r.2.1,.I r.2.2.1,.I r.2.2.2.1,.I r.k.1,.I r.k.2.1,.P 640 c,.P 641 d,.P 642 e,.I r.k.2.2.1,.I r.k.2.2.2,.P 643 b]),(640,.R 7 Qc c),(641,.R 3 Qd d),(642,.R 14 Qb e),(643,.R 1 QG b)]):=
 W 52 func458 Z<|I 12 Z (nO_)<|S 7 .fn [(639,639),(640,640),(641,641),(642,642),(643,643)] XC Z λs=>I 3 Z (nO_)<|S 3 .fn [(639,639),(640,640),(641,641),(642,642),(643,643)] XC Z λt=>I 3 Z (nO_)<|S 3 .fn [(639,639),(640,640),(641,641),(642,642),(643,643)] XC Z λu=>I 3 Z (nO_)<|S 3 .fn [(639,639),(640,640),(641,641),(642,642),(643,643)] XC Z λw=>I 3 Z (nO_)<|S 3 .fn [(639,639),(640,640),(641,641),(642,642),(643,643)] Ee Z λg=>K [.o (.any (.I g.Kind) n_),4] Z (λx=>(a1_ (λσ y z _=>Stp.field Z Z (QK x.n Z) (y _ _ Z) Qwq Z)))<|I 0 Z (S 3 .fn [(639,639),(640,640),(641,641),(642,642),(643,643)] Af Z λh=>G [.v .no [n_,n_,Q 3] (.agg (QM (Qo.mk 1 h.1 ([]:(L_ Qo))))),6] Z Z<|E 0 Z)<|S 8 .fn [(639,639),(640,640),(641,641),(642,642),(643,643)] QaP Z λi=>G [.v .no [n_,n_,Q 3] (.agg (QM (Qo.mk 2 i.1 ([]:(L_ Qo))))),4] Z Z<|E 0 Z
def QiX  : O_ (L_ ByteArray):=Q ([(⟨#[43]⟩:ByteArray),(⟨#[45]⟩:ByteArray),(⟨#[42]⟩:ByteArray),(⟨#[47]⟩:ByteArray),(⟨#[37]⟩:ByteArray),(⟨#[61,61]⟩:ByteArray),(⟨#[33,61]⟩:ByteArray),(⟨#[60]⟩:ByteArray),(⟨#[60,61]⟩:ByteArray),(⟨#[38,38]⟩:ByteArray),(⟨#[124,124]⟩:ByteArray)]:L_ ByteArray)
def Qnu : CT 475 [] [] (QiX ) (λr=>(.P 600 r)) (λr=>[(600,.R 1 QG r)]):=
 W 2 func475 Z<|G [8,.O 1 (.arr 1 (([(⟨#[43]⟩:ByteArray),(⟨#[45]⟩:ByteArray),(⟨#[42]⟩:ByteArray),(⟨#[47]⟩:ByteArray),(⟨#[37]⟩:ByteArray),(⟨#[61,61]⟩:ByteArray),(⟨#[33,61]⟩:ByteArray),(⟨#[60]⟩:ByteArray),(⟨#[60,61]⟩:ByteArray),(⟨#[38,38]⟩:ByteArray),(⟨#[124,124]⟩:ByteArray)]:L_ ByteArray).map QG)),4,.ren 1 600] Z Z<|E 0 Z
def QqD:O_ (Int×Bool):=j_ (QiX) λc=>j_ (Ji c g) λa=>cond (a<0) (Q (0,f_))<|Q ((Qf (1+a)),t_)
def Qsl {a}:CT 459 [.s a] [] (QqD a) (λr=>(.tup [.I r.1,.b r.2])) no_:=
 W 12 func459 Z<|oC_ 8 [] Qnu Z λc=>cV_ 1 [.o _,.d] DN Z λe=>I 10 Z (E 8 Z)<|E 11 Z
def Ex:O_ Int:=cond l0 (Q 3)<|cond (a==10) n_<|cond (a==11) n_<|Q 0
def Mz:O_ Int:=cond l0 (Q 4)<|cond (a==6) (Ex a (a==6))<|cond (a==7) (Ex a (a==7))<|cond (a==8) (Ex a (a==8))<|Ex a (a==9)
def BH:O_ Int:=cond l0 n_<|cond (a==1) (Mz a (a==1))<|Mz a (a==2)
def Qei:O_ Int:=cond (a==3) (BH a (a==3))<|cond (a==4) (BH a (a==4))<|BH a (a==5)
def QiY {Yk}:CT 460 [.I Yk] [] (Qei Yk) V.I no_:=
 W 20 func460 Z<|mE_ 12 [3] [] (λa:Bool=>([(4,.b a)],[])) (λa=>BH Yk a) Z (I 6 Z (P 1 Z Z)<|I 6 Z (P 1 Z Z)<|P 4 Z Z) λa=>I 0 Z (nO_)<|mE_ 0 [3] [] (λc:Bool=>([(8,.b c)],[])) (λc=>Mz Yk c) Z (I 6 Z (P 1 Z Z)<|P 4 Z Z) λc=>I 0 Z (E 8 Z)<|mE_ 0 [3] [] (λd:Bool=>([(11,.b d)],[])) (λd=>Ex Yk d) Z (I 6 Z (P 1 Z Z)<|I 6 Z (P 1 Z Z)<|I 6 Z (P 1 Z Z)<|P 4 Z Z) λd=>I 0 Z (E 8 Z)<|I 6 Z (nO_)<|I 6 Z (nO_)<|E 9 Z
def Qe9 (O:(L_ Qv)->Int->Int->Int->Int->(L_ Qj)->(L_ Qp)->(L_ Qm)->Int->Int->(L_ ByteArray)->Int->Int->O_ (Qo×(L_ Qv)×Int×Int×Int×Int×Int×Int))(a:Int)(d:(L_ Qv))(e:Int)(f:Int)(g:Int)(h:Int)(q:Int)(j:Int)(r:Qo):O_ (((L_ Qv)×Int×Int×Int×Int×Int×Int×Qo)⊕(Qo×(L_ Qv)×Int×Int×Int×Int×Int×Int)):=
 j_ (AH d e f g h i m l q j p) λo=>
 j_ (QqD o) λk=>
 j_ (Qei k.1) λn=>
 cond ((!k.2)||(n<=c)) (Q (i_ (r,d,e,f,g,h,q,j)))<|j_ (O d (Qf (e+1)) f g h i m l q j p n (Qf (a+1))) λb=>
 Q (y_ (b.2.1,b.2.2.1,b.2.2.2.1,b.k.1,b.k.2.1,b.k.2.2.1,b.k.2.2.2,(Qo.mk 5 k.1 ([r,b.1]:L_ Qo))))
def Sa (O:(L_ Qv)->Int->Int->Int->Int->(L_ Qj)->(L_ Qp)->(L_ Qm)->Int->Int->(L_ ByteArray)->Int->Int->O_ (Qo×(L_ Qv)×Int×Int×Int×Int×Int×Int))(i:(L_ Qv))(j:Int)(k:Int)(l:Int)(m:Int)(f:(L_ Qj))(g:(L_ Qp))(h:(L_ Qm))(n:Int)(e:Int)(d:(L_ ByteArray))(a:Int)(c:Int):O_ (Qo×(L_ Qv)×Int×Int×Int×Int×Int×Int):=j_ (SM i j k l m f g h n e d c) λb=>j_ (Qx (λst=>Qe9 f g h d a O c st.1 st.2.1 st.2.2.1 st.2.2.2.1 st.k.1 st.k.2.1 st.k.2.2.1 st.k.2.2.2) (b.2.1,b.2.2.1,b.2.2.2.1,b.k.1,b.k.2.1,b.k.2.2.1,b.k.2.2.2,b.1)) (λq=>Q (q.1,q.2.1,q.2.2.1,q.2.2.2.1,q.k.1,q.k.2.1,q.k.2.2.1,q.k.2.2.2))
def EM : Nat->(L_ Qv)->Int->Int->Int->Int->(L_ Qj)->(L_ Qp)->(L_ Qm)->Int->Int->(L_ ByteArray)->Int->Int->O_ (Qo×(L_ Qv)×Int×Int×Int×Int×Int×Int)
 |0,_,_,_,_,_,_,_,_,_,_,_,_,_=>none|n+1,e,f,g,h,i,j,k,l,m,c,d,a,b=>Sa (EM n) e f g h i j k l m c d a b
def Lf:O_ (Qo×(L_ Qv)×Int×Int×Int×Int×Int×Int):=EM 1000 r o h0 s i0 i m l h n p c j
def Qcl {rec_parse_parser_expr:(L_ Qv)->Int->Int->Int->Int->(L_ Qj)->(L_ Qp)->(L_ Qm)->Int->Int->(L_ ByteArray)->Int->Int->O_ (Qo×(L_ Qv)×Int×Int×Int×Int×Int×Int)}{hrec_parse_parser_expr:∀(o:(L_ Qv)) (p:Int) (t:Int) (u:Int) (v:Int) (h:(L_ Qj)) (i:(L_ Qp)) (j:(L_ Qm)) (w:Int) (k:Int) (e:(L_ ByteArray)) (c:Int) (f:Int) {r:(Qo×(L_ Qv)×Int×Int×Int×Int×Int×Int)},rec_parse_parser_expr o p t u v h i j w k e c f=Q r->QQ prog 432 [.L 639,.I c,.I f] [(639,.var [.M 3 Qn o,.I p,.I t,.I u,.I v,.P 640 h,.P 641 i,.P 642 j,.I w,.I k,.P 643 e]),(640,.R 7 Qc h),(641,.R 3 Qd i),(642,.R 14 Qb j),(643,.R 1 QG e)] (Gives (.G QM r.1) [(639,.var [.M 3 Qn r.2.1,.I r.2.2.1,.I r.2.2.2.1,.I r.k.1,.I r.k.2.1,.P 640 h,.P 641 i,.P 642 j,.I r.k.2.2.1,.I r.k.2.2.2,.P 643 e]),(640,.R 7 Qc h),(641,.R 3 Qd i),(642,.R 14 Qb j),(643,.R 1 QG e)])}{o:(L_ Qv)}{p:Int}{t:Int}{u:Int}{v:Int}{h:(L_ Qj)}{i:(L_ Qp)}{j:(L_ Qm)}{w:Int}{k:Int}{e:(L_ ByteArray)}{c:Int}{f:Int}:CT 432 [.L 639,.I c,.I f] [(639,.var [.M 3 Qn o,.I p,.I t,.I u,.I v,.P 640 h,.P 641 i,.P 642 j,.I w,.I k,.P 643 e]),(640,.R 7 Qc h),(641,.R 3 Qd i),(642,.R 14 Qb j),(643,.R 1 QG e)] (Sa rec_parse_parser_expr o p t u v h i j w k e c f) (λr=>(.G QM r.1)) (λr=>[(639,.var [.M 3 Qn r.2.1,.I r.2.2.1,.I r.2.2.2.1,.I r.k.1,.I r.k.2.1,.P 640 h,.P 641 i,.P 642 j,.I r.k.2.2.1,.I r.k.2.2.2,.P 643 e]),(640,.R 7 Qc h),(641,.R 3 Qd i),(642,.R 14 Qb j),(643,.R 1 QG e)]):=
 W 46 func432 Z<|S 9 .fn [(639,639),(640,640),(641,641),(642,642),(643,643)] QdM Z λC=>lA_ 5 [0,1,2,6,7] [6,640,641,642,643] (λst=>([],[(7,.W QM st.k.2.2.2),(639,.var [.M 3 Qn st.1,.I st.2.1,.I st.2.2.1,.I st.2.2.2.1,.I st.k.1,.P 640 h,.P 641 i,.P 642 j,.I st.k.2.1,.I st.k.2.2.1,.P 643 e])])) [6] [640,641,642,643] (λq=>(.ret,([],[(6,.W QM q.1),(639,.var [.M 3 Qn q.2.1,.I q.2.2.1,.I q.2.2.2.1,.I q.k.1,.I q.k.2.1,.P 640 h,.P 641 i,.P 642 j,.I q.k.2.2.1,.I q.k.2.2.2,.P 643 e])]))) Z (λ⟨O,a0,a1,a2,a3,a4,a5,n⟩=>S 4 .fn [(639,639),(640,640),(641,641),(642,642),(643,643)] Cd Z λa6=>A 0 Qsl Z λx=>A 10 QiY Z λz=>T 5 [0,1,2,6,7,8,10] [6,7,639,640,641,642,643] ([(28,.b ((!x.2)||(z<=c)))],[]) Z (H 4 Z (λl=>Y 5 28 Z (Gt l Z)) λl=>Y 5 28 Z (JQ l Z))<|I 1 Z (L 9 Z)<|B λg y=>D 14 Z [.a .no n_ t_,.a .no (Q ([],.G QM n)) t_,.N,.N,.N,.N,.m (.cm (.fn) [(639,639),(640,640),(641,641),(642,642),(643,643)] [(639,639),(640,640),(641,641),(642,642),(643,643)] [] [.d,.d,.d] [(639,.var [.M 3 Qn g.2.1,.I g.2.2.1,.I g.2.2.2.1,.I g.k.1,.I g.k.2.1,.P 640 h,.P 641 i,.P 642 j,.I g.k.2.2.1,.I g.k.2.2.2,.P 643 e]),(640,.R 7 Qc h),(641,.R 3 Qd i),(642,.R 14 Qb j),(643,.R 1 QG e)] (.G QM g.1) [640,641,642,643]),.a (.bd []) (Q ([],.sl 3 (QS ([n,g.1]:L_ Qo)))) f_,.E (.agg (QM (Qo.mk 5 x.1 ([n,g.1]:L_ Qo)))),.m .s] [0,1,2,6,7,8,10] [6,7,640,641,642,643] [0,1,2,6,7] [6,7,639,640,641,642,643] Z Z (a4_ Z (a2_ (hrec_parse_parser_expr _ _ _ _ _ _ _ _ _ _ _ _ _ y) r4_) (congrArg (V.sl 3) (KD ([n,g.1]:L_ Qo)).symm) Z) Z<|R 1 Z) λ⟨a7,a8,a9,b0,b1,b2,b3,b4⟩=>E 1 Z
def MA : ∀(fuel:Nat) (i:(L_ Qv)) (j:Int) (k:Int) (l:Int) (m:Int) (e:(L_ Qj)) (f:(L_ Qp)) (g:(L_ Qm)) (o:Int) (d:Int) (c:(L_ ByteArray)) (a:Int) (b:Int) {r:(Qo×(L_ Qv)×Int×Int×Int×Int×Int×Int)},EM fuel i j k l m e f g o d c a b=Q r->QQ prog 432 [.L 639,.I a,.I b] [(639,.var [.M 3 Qn i,.I j,.I k,.I l,.I m,.P 640 e,.P 641 f,.P 642 g,.I o,.I d,.P 643 c]),(640,.R 7 Qc e),(641,.R 3 Qd f),(642,.R 14 Qb g),(643,.R 1 QG c)] (Gives (.G QM r.1) [(639,.var [.M 3 Qn r.2.1,.I r.2.2.1,.I r.2.2.2.1,.I r.k.1,.I r.k.2.1,.P 640 e,.P 641 f,.P 642 g,.I r.k.2.2.1,.I r.k.2.2.2,.P 643 c]),(640,.R 7 Qc e),(641,.R 3 Qd f),(642,.R 14 Qb g),(643,.R 1 QG c)])
 |0,_,_,_,_,_,_,_,_,_,_,_,_,_,_,h=>by cases h
 |n+1,i,j,k,l,m,e,f,g,o,d,c,a,b,_,h=>@Qcl (EM n) (λ_ _ _ _ _ _ _ _ _ _ _ _ _ _ h=>MA n _ _ _ _ _ _ _ _ _ _ _ _ _ h) i j k l m e f g o d c a b _ h
def Pl (i j k l m e f g n d c a b){r}(h:Lf i j k l m e f g n d c a b=Q r):QQ prog 432 [.L 639,.I a,.I b] [(639,.var [.M 3 Qn i,.I j,.I k,.I l,.I m,.P 640 e,.P 641 f,.P 642 g,.I n,.I d,.P 643 c]),(640,.R 7 Qc e),(641,.R 3 Qd f),(642,.R 14 Qb g),(643,.R 1 QG c)] (Gives (.G QM r.1) [(639,.var [.M 3 Qn r.2.1,.I r.2.2.1,.I r.2.2.2.1,.I r.k.1,.I r.k.2.1,.P 640 e,.P 641 f,.P 642 g,.I r.k.2.2.1,.I r.k.2.2.2,.P 643 c]),(640,.R 7 Qc e),(641,.R 3 Qd f),(642,.R 14 Qb g),(643,.R 1 QG c)]):=MA _ i j k l m e f g n d c a b h
def Vg (t:(L_ XB))(u:Int)(v:Int)(w:(L_ Qo))(e:Int)(f:Int)(x:(L_ Xf))(y:(L_ Xf))(z:LI_)(b:Int)(c:Int)(d:Int)(j:Int)(C:QSB):O_ (ByteArray×Int×Int×(L_ Qo)×Int×Int×Int×Int×Int×Int×(L_ Qv)×Int×Int×Int×Int×Int×Int):=j_ (Lf r o h0 s i0 i m l h n p 0 1) λa=>Q (g,a.1.Kind,a.1.Num,a.1.Kids,e,f,b,c,d,j,a.2.1,a.2.2.1,a.2.2.2.1,a.k.1,a.k.2.1,a.k.2.2.1,a.k.2.2.2)
def Qfb {O v2 v3 v4 v5 i j k v9 m c o e p q t u v f g h w x y z l}:CT 377 [.L 639] [(639,.var [.L 640,.s o,.P 645 e,.I p,.I q,.sl 3 (QS t),.I u,.I v,.P 646 f,.P 647 g,.P 648 h,.I w,.I x,.I y,.I z,.map 649]),(640,.var [.M 3 Qn O,.I v2,.I v3,.I v4,.I v5,.P 641 i,.P 642 j,.P 643 k,.I v9,.I m,.P 644 c]),(641,.R 7 Qc i),(642,.R 3 Qd j),(643,.R 14 Qb k),(644,.R 1 QG c),(645,.R 2 Xa e),(646,.R 4 QC f),(647,.R 4 QC g),(648,.R 1 Qa h),(649,.map (QJ V.s V.b l))] (Vg O v2 v3 v4 v5 i j k v9 m c o e p q t u v f g h w x y z l) (λ_=>(.tup [])) (λr=>[(639,.var [.L 640,.s r.1,.P 645 e,.I r.2.1,.I r.2.2.1,.sl 3 (QS r.2.2.2.1),.I r.k.1,.I r.k.2.1,.P 646 f,.P 647 g,.P 648 h,.I r.k.2.2.1,.I r.k.2.2.2.1,.I r.j.1,.I r.j.2.1,.map 649]),(640,.var [.M 3 Qn r.j.2.2.1,.I r.j.2.2.2.1,.I r.j.k.1,.I r.j.k.2.1,.I r.j.k.2.2.1,.P 641 i,.P 642 j,.P 643 k,.I r.j.k.2.2.2.1,.I r.j.j,.P 644 c]),(641,.R 7 Qc i),(642,.R 3 Qd j),(643,.R 14 Qb k),(644,.R 1 QG c),(645,.R 2 Xa e),(646,.R 4 QC f),(647,.R 4 QC g),(648,.R 1 Qa h),(649,.map (QJ V.s V.b l))]):=
 W 11 func377 Z<|B λa C=>G [6,.cm (.fn) [(639,640),(640,641),(641,642),(642,643),(643,644)] [(640,639),(641,640),(642,641),(643,642),(644,643)] [] [.d,.d,.d] [(639,.var [.M 3 Qn a.2.1,.I a.2.2.1,.I a.2.2.2.1,.I a.k.1,.I a.k.2.1,.P 640 i,.P 641 j,.P 642 k,.I a.k.2.2.1,.I a.k.2.2.2,.P 643 c]),(640,.R 7 Qc i),(641,.R 3 Qd j),(642,.R 14 Qb k),(643,.R 1 QG c)] (.G QM a.1),5] Z (Pl _ _ _ _ _ _ _ _ _ _ _ _ _ C)<|E 0 Z
def GE:O_ (Int×(L_ Qv)×Int×Int×Int×Int×Int×Int):=j_ (JR r o h0 s i0 i m l h n p) λc=>cond (!c.2) n_<|j_ (Ag r o h0 s i0 i m l h n p c.1) λd=>cond (d<0) n_<|Q (d,r,(Qf (o+1)),h0,s,i0,h,n)
def Ug {f g h i j b c d k e a}:CT 132 [.L 639,.clo (.func 133) [.L 639] []] [(639,.var [.M 3 Qn f,.I g,.I h,.I i,.I j,.P 640 b,.P 641 c,.P 642 d,.I k,.I e,.P 643 a]),(640,.R 7 Qc b),(641,.R 3 Qd c),(642,.R 14 Qb d),(643,.R 1 QG a)] (GE f g h i j b c d k e a) (λr=>(.I r.1)) (λr=>[(639,.var [.M 3 Qn r.2.1,.I r.2.2.1,.I r.2.2.2.1,.I r.k.1,.I r.k.2.1,.P 640 b,.P 641 c,.P 642 d,.I r.k.2.2.1,.I r.k.2.2.2,.P 643 a]),(640,.R 7 Qc b),(641,.R 3 Qd c),(642,.R 14 Qb d),(643,.R 1 QG a)]):=
 W 30 func132 Z<|S 8 .fn [(639,639),(640,640),(641,641),(642,642),(643,643)] JF Z λl=>I 14 Z (nO_)<|S 6 .clo [(639,639),(640,640),(641,641),(642,642),(643,643)] FZ Z λm=>I 10 Z (nO_)<|E 21 Z
def MB (j:(L_ Qv))(k:Int)(l:Int)(m:Int)(n:Int)(f:(L_ Qj))(g:(L_ Qp))(h:(L_ Qm))(o:Int)(i:Int)(e:(L_ ByteArray))(p:ByteArray)(q:(L_ XB))(r:Int)(s:Int)(t:(L_ Qo))(u:Int)(v:Int)(w:(L_ Xf))(x:(L_ Xf))(y:LI_)(z:Int)(C:Int)(O:Int)(a0:Int)(a1:QSB):O_ (Xf×(L_ Qv)×Int×Int×Int×Int×Int×Int):=(GE j k l m n f g h o i e).bind λa=>(Xw a.2.1 a.2.2.1 a.2.2.2.1 a.k.1 a.k.2.1 f g h a.k.2.2.1 a.k.2.2.2 e (⟨#[40]⟩:ByteArray)).bind λc=>(Lf c.1 c.2.1 c.2.2.1 c.2.2.2.1 c.k.1 f g h c.k.2.1 c.k.2.2 e 0 1).bind λb=>(Xw b.2.1 b.2.2.1 b.2.2.2.1 b.k.1 b.k.2.1 f g h b.k.2.2.1 b.k.2.2.2 e (⟨#[41]⟩:ByteArray)).bind λd=>Q ((Xf.mk a.1 b.1),d.1,d.2.1,d.2.2.1,d.2.2.2.1,d.k.1,d.k.2.1,d.k.2.2)
def Sb {v1 v2 v3 v4 v5 k l o v9 a0 c p g q t u v w h i j x y z C O}:CT 434 [.L 639] [(639,.var [.L 640,.s p,.P 645 g,.I q,.I t,.sl 3 (QS u),.I v,.I w,.P 646 h,.P 647 i,.P 648 j,.I x,.I y,.I z,.I C,.map 649]),(640,.var [.M 3 Qn v1,.I v2,.I v3,.I v4,.I v5,.P 641 k,.P 642 l,.P 643 o,.I v9,.I a0,.P 644 c]),(641,.R 7 Qc k),(642,.R 3 Qd l),(643,.R 14 Qb o),(644,.R 1 QG c),(645,.R 2 Xa g),(646,.R 4 QC h),(647,.R 4 QC i),(648,.R 1 Qa j),(649,.map (QJ V.s V.b O))] (MB v1 v2 v3 v4 v5 k l o v9 a0 c p g q t u v w h i j x y z C O) (λr=>(.G QC r.1)) (λr=>[(639,.var [.L 640,.s p,.P 645 g,.I q,.I t,.sl 3 (QS u),.I v,.I w,.P 646 h,.P 647 i,.P 648 j,.I x,.I y,.I z,.I C,.map 649]),(640,.var [.M 3 Qn r.2.1,.I r.2.2.1,.I r.2.2.2.1,.I r.k.1,.I r.k.2.1,.P 641 k,.P 642 l,.P 643 o,.I r.k.2.2.1,.I r.k.2.2.2,.P 644 c]),(641,.R 7 Qc k),(642,.R 3 Qd l),(643,.R 14 Qb o),(644,.R 1 QG c),(645,.R 2 Xa g),(646,.R 4 QC h),(647,.R 4 QC i),(648,.R 1 Qa j),(649,.map (QJ V.s V.b O))]):=
 W 32 func434 Z<|B λe a1=>D 6 Z [.N,.N,.N,.N,.N,.N,.N,.N,.N,.m (.cm (.fn) [(639,640),(640,641),(641,642),(642,643),(643,644)] [(640,639),(641,640),(642,641),(643,642),(644,643)] [] [.d,.d] [(639,.var [.M 3 Qn e.2.1,.I e.2.2.1,.I e.2.2.2.1,.I e.k.1,.I e.k.2.1,.P 640 k,.P 641 l,.P 642 o,.I e.k.2.2.1,.I e.k.2.2.2,.P 643 c]),(640,.R 7 Qc k),(641,.R 3 Qd l),(642,.R 14 Qb o),(643,.R 1 QG c)] (.I e.1) [641,642,643,644]),.a .no (Q ([n_,n_,n_,Q 3],.agg (QC (Xf.mk e.1 (Qo.mk 0 0 ([]:(L_ Qo))))))) f_,.a .no n_ t_,.m .s] [0,2] [2,639,641,642,643,644,645,646,647,648,649] [0,2,3] [2,3,639,640,641,642,643,644,645,646,647,648,649] Z Z (a2_ (a2_ (Ug _ a1) r4_) Z) Z<|S 7 .fn [(639,640),(640,641),(641,642),(642,643),(643,644)] Xr Z λa3=>B λf a2=>G [8,.cm (.fn) [(639,640),(640,641),(641,642),(642,643),(643,644)] [(640,639),(641,640),(642,641),(643,642),(644,643)] [] [.d,.d,.d] [(639,.var [.M 3 Qn f.2.1,.I f.2.2.1,.I f.2.2.2.1,.I f.k.1,.I f.k.2.1,.P 640 k,.P 641 l,.P 642 o,.I f.k.2.2.1,.I f.k.2.2.2,.P 643 c]),(640,.R 7 Qc k),(641,.R 3 Qd l),(642,.R 14 Qb o),(643,.R 1 QG c)] (.G QM f.1),10] Z (Pl _ _ _ _ _ _ _ _ _ _ _ _ _ a2)<|S 0 .fn [(639,640),(640,641),(641,642),(642,643),(643,644)] Xr Z λa4=>E 9 Z
def SN:O_ ((L_ Xf)×ByteArray×Int×Int×(L_ Qo)×Int×Int×Int×Int×Int×Int×(L_ Qv)×Int×Int×Int×Int×Int×Int):=j_ (MB r o h0 s i0 i m l h n p g m1 t m0 i3 k3 l3 k1 h4 q j1 m3 j4 k4 j2) λa=>j_ (chk (k1.length+([a.1]:L_ Xf).length<=4294967296)) λ_=>Q ((k1++[a.1]),g,t,m0,i3,k3,l3,j1,m3,j4,k4,a.2.1,a.2.2.1,a.2.2.2.1,a.k.1,a.k.2.1,a.k.2.2.1,a.k.2.2.2)
def QdN {v1 v2 v3 v4 v5 k l n v9 C e o f p q t u v g h i w x y z j}:CT 380 [.L 639] [(639,.var [.L 640,.s o,.P 645 f,.I p,.I q,.sl 3 (QS t),.I u,.I v,.P 635 g,.P 646 h,.P 647 i,.I w,.I x,.I y,.I z,.map 648]),(640,.var [.M 3 Qn v1,.I v2,.I v3,.I v4,.I v5,.P 641 k,.P 642 l,.P 643 n,.I v9,.I C,.P 644 e]),(641,.R 7 Qc k),(642,.R 3 Qd l),(643,.R 14 Qb n),(644,.R 1 QG e),(645,.R 2 Xa f),(635,.R 4 QC g),(646,.R 4 QC h),(647,.R 1 Qa i),(648,.map (QJ V.s V.b j))] (SN v1 v2 v3 v4 v5 k l n v9 C e o f p q t u v g h i w x y z j) (λ_=>(.tup [])) (λr=>[(635,.R 4 QC r.1),(639,.var [.L 640,.s r.2.1,.P 645 f,.I r.2.2.1,.I r.2.2.2.1,.sl 3 (QS r.k.1),.I r.k.2.1,.I r.k.2.2.1,.P 635 r.1,.P 646 h,.P 647 i,.I r.k.2.2.2.1,.I r.j.1,.I r.j.2.1,.I r.j.2.2.1,.map 648]),(640,.var [.M 3 Qn r.j.2.2.2.1,.I r.j.k.1,.I r.j.k.2.1,.I r.j.k.2.2.1,.I r.j.k.2.2.2.1,.P 641 k,.P 642 l,.P 643 n,.I r.j.j.1,.I r.j.j.2,.P 644 e]),(641,.R 7 Qc k),(642,.R 3 Qd l),(643,.R 14 Qb n),(644,.R 1 QG e),(645,.R 2 Xa f),(646,.R 4 QC h),(647,.R 1 Qa i),(648,.map (QJ V.s V.b j))]):=
 W 15 func380 Z<|B λc O=>kA_ λa0=>D 0 Z [.a .no n_ t_,.a .no n_ t_,.a .no n_ t_,.a .no n_ t_,.a .no n_ t_,.a .no n_ t_,.N,.m (.cm (.fn) [(639,639),(640,640),(641,641),(642,642),(643,643),(644,644),(645,645),(646,635),(647,646),(648,647),(649,648)] [(639,639),(640,640),(641,641),(642,642),(643,643),(644,644),(645,645),(635,646),(646,647),(647,648),(648,649)] [] [.d] [(639,.var [.L 640,.s o,.P 645 f,.I p,.I q,.sl 3 (QS t),.I u,.I v,.P 646 g,.P 647 h,.P 648 i,.I w,.I x,.I y,.I z,.map 649]),(640,.var [.M 3 Qn c.2.1,.I c.2.2.1,.I c.2.2.2.1,.I c.k.1,.I c.k.2.1,.P 641 k,.P 642 l,.P 643 n,.I c.k.2.2.1,.I c.k.2.2.2,.P 644 e]),(641,.R 7 Qc k),(642,.R 3 Qd l),(643,.R 14 Qb n),(644,.R 1 QG e),(645,.R 2 Xa f),(646,.R 4 QC g),(647,.R 4 QC h),(648,.R 1 Qa i),(649,.map (QJ V.s V.b j))] (.G QC c.1) [639,641,642,643,644,645,635,646,647,648]),.a (.bd []) (Q ([],.sl 4 (([c.1]:L_ Xf).map QC))) f_,.m (.app ((g++[c.1]).map QC) (g++[c.1]).length),.N,.N,.N,.m .s] [0] [635,639,641,642,643,644,645,646,647,648] [] [635,639,640,641,642,643,644,645,646,647,648] Z Z (a3_ (a2_ (Sb _ O) rA_) Z ⟨Ql,Gd a0 Ql,Yg,JB Ql⟩) Z<|E 0 Z
def Sc:O_ ((L_ Xf)×ByteArray×Int×Int×(L_ Qo)×Int×Int×Int×Int×Int×Int×(L_ Qv)×Int×Int×Int×Int×Int×Int):=j_ (MB r o h0 s i0 i m l h n p g m1 t m0 i3 k3 l3 k1 h4 q j1 m3 j4 k4 j2) λa=>j_ (chk (h4.length+([a.1]:L_ Xf).length<=4294967296)) λ_=>Q ((h4++[a.1]),g,t,m0,i3,k3,l3,j1,m3,j4,k4,a.2.1,a.2.2.1,a.2.2.2.1,a.k.1,a.k.2.1,a.k.2.2.1,a.k.2.2.2)
def Qcm {v1 v2 v3 v4 v5 k l n v9 C e o f p q t u v g h i w x y z j}:CT 381 [.L 639] [(639,.var [.L 640,.s o,.P 645 f,.I p,.I q,.sl 3 (QS t),.I u,.I v,.P 646 g,.P 635 h,.P 647 i,.I w,.I x,.I y,.I z,.map 648]),(640,.var [.M 3 Qn v1,.I v2,.I v3,.I v4,.I v5,.P 641 k,.P 642 l,.P 643 n,.I v9,.I C,.P 644 e]),(641,.R 7 Qc k),(642,.R 3 Qd l),(643,.R 14 Qb n),(644,.R 1 QG e),(645,.R 2 Xa f),(646,.R 4 QC g),(635,.R 4 QC h),(647,.R 1 Qa i),(648,.map (QJ V.s V.b j))] (Sc v1 v2 v3 v4 v5 k l n v9 C e o f p q t u v g h i w x y z j) (λ_=>(.tup [])) (λr=>[(635,.R 4 QC r.1),(639,.var [.L 640,.s r.2.1,.P 645 f,.I r.2.2.1,.I r.2.2.2.1,.sl 3 (QS r.k.1),.I r.k.2.1,.I r.k.2.2.1,.P 646 g,.P 635 r.1,.P 647 i,.I r.k.2.2.2.1,.I r.j.1,.I r.j.2.1,.I r.j.2.2.1,.map 648]),(640,.var [.M 3 Qn r.j.2.2.2.1,.I r.j.k.1,.I r.j.k.2.1,.I r.j.k.2.2.1,.I r.j.k.2.2.2.1,.P 641 k,.P 642 l,.P 643 n,.I r.j.j.1,.I r.j.j.2,.P 644 e]),(641,.R 7 Qc k),(642,.R 3 Qd l),(643,.R 14 Qb n),(644,.R 1 QG e),(645,.R 2 Xa f),(646,.R 4 QC g),(647,.R 1 Qa i),(648,.map (QJ V.s V.b j))]):=
 W 15 func381 Z<|B λc O=>kA_ λa0=>D 0 Z [.a .no n_ t_,.a .no n_ t_,.a .no n_ t_,.a .no n_ t_,.a .no n_ t_,.a .no n_ t_,.N,.m (.cm (.fn) [(639,639),(640,640),(641,641),(642,642),(643,643),(644,644),(645,645),(646,646),(647,635),(648,647),(649,648)] [(639,639),(640,640),(641,641),(642,642),(643,643),(644,644),(645,645),(646,646),(635,647),(647,648),(648,649)] [] [.d] [(639,.var [.L 640,.s o,.P 645 f,.I p,.I q,.sl 3 (QS t),.I u,.I v,.P 646 g,.P 647 h,.P 648 i,.I w,.I x,.I y,.I z,.map 649]),(640,.var [.M 3 Qn c.2.1,.I c.2.2.1,.I c.2.2.2.1,.I c.k.1,.I c.k.2.1,.P 641 k,.P 642 l,.P 643 n,.I c.k.2.2.1,.I c.k.2.2.2,.P 644 e]),(641,.R 7 Qc k),(642,.R 3 Qd l),(643,.R 14 Qb n),(644,.R 1 QG e),(645,.R 2 Xa f),(646,.R 4 QC g),(647,.R 4 QC h),(648,.R 1 Qa i),(649,.map (QJ V.s V.b j))] (.G QC c.1) [639,641,642,643,644,645,646,635,647,648]),.a (.bd []) (Q ([],.sl 4 (([c.1]:L_ Xf).map QC))) f_,.m (.app ((h++[c.1]).map QC) (h++[c.1]).length),.N,.N,.N,.m .s] [0] [635,639,641,642,643,644,645,646,647,648] [] [635,639,640,641,642,643,644,645,646,647,648] Z Z (a3_ (a2_ (Sb _ O) rA_) Z ⟨Ql,Gd a0 Ql,Yg,JB Ql⟩) Z<|E 0 Z
def SO (v:(L_ XB))(e:Int)(f:Int)(b:(L_ Qo))(c:Int)(d:Int)(w:(L_ Xf))(x:(L_ Xf))(y:LI_)(z:Int)(j:Int)(k:Int)(q:Int)(C:QSB):O_ (ByteArray×Int×Int×(L_ Qo)×Int×Int×Int×Int×Int×Int×(L_ Qv)×Int×Int×Int×Int×Int×Int):=j_ (EL r o h0 s i0 i m l h n p) λa=>Q (g,e,f,b,c,d,a.1,j,k,q,a.2.1,a.2.2.1,a.2.2.2.1,a.k.1,a.k.2.1,a.k.2.2.1,a.k.2.2.2)
def QdO {x y z C O h i j v9 k a l c m n o p q d e f t u v w g}:CT 383 [.L 639] [(639,.var [.L 640,.s l,.P 645 c,.I m,.I n,.sl 3 (QS o),.I p,.I q,.P 646 d,.P 647 e,.P 648 f,.I t,.I u,.I v,.I w,.map 649]),(640,.var [.M 3 Qn x,.I y,.I z,.I C,.I O,.P 641 h,.P 642 i,.P 643 j,.I v9,.I k,.P 644 a]),(641,.R 7 Qc h),(642,.R 3 Qd i),(643,.R 14 Qb j),(644,.R 1 QG a),(645,.R 2 Xa c),(646,.R 4 QC d),(647,.R 4 QC e),(648,.R 1 Qa f),(649,.map (QJ V.s V.b g))] (SO x y z C O h i j v9 k a l c m n o p q d e f t u v w g) (λ_=>(.tup [])) (λr=>[(639,.var [.L 640,.s r.1,.P 645 c,.I r.2.1,.I r.2.2.1,.sl 3 (QS r.2.2.2.1),.I r.k.1,.I r.k.2.1,.P 646 d,.P 647 e,.P 648 f,.I r.k.2.2.1,.I r.k.2.2.2.1,.I r.j.1,.I r.j.2.1,.map 649]),(640,.var [.M 3 Qn r.j.2.2.1,.I r.j.2.2.2.1,.I r.j.k.1,.I r.j.k.2.1,.I r.j.k.2.2.1,.P 641 h,.P 642 i,.P 643 j,.I r.j.k.2.2.2.1,.I r.j.j,.P 644 a]),(641,.R 7 Qc h),(642,.R 3 Qd i),(643,.R 14 Qb j),(644,.R 1 QG a),(645,.R 2 Xa c),(646,.R 4 QC d),(647,.R 4 QC e),(648,.R 1 Qa f),(649,.map (QJ V.s V.b g))]):=
 W 11 func383 Z<|S 6 .fn [(639,640),(640,641),(641,642),(642,643),(643,644)] Af Z λa0=>E 5 Z
def Qcn (c:QSB)(d:ByteArray)(x:(L_ Qv))(y:Int)(z:Int)(C:Int)(O:Int)(u:(L_ Qj))(v:(L_ Qp))(w:(L_ Qm))(v9:Int)(g:Int)(h:(L_ ByteArray))(i:ByteArray)(j:(L_ XB))(k:Int)(l:Int)(m:(L_ Qo))(n:Int)(o:Int)(e:(L_ Xf))(f:(L_ Xf))(p:LI_)(q:Int)(r:Int)(s:Int)(t:Int)(a0:Unit):O_ ((L_ ByteArray)×(L_ XB)×(L_ Xf)×(L_ Xf)×ByteArray×Int×Int×(L_ Qo)×Int×Int×Int×Int×Int×Int×(L_ Qv)×Int×Int×Int×Int×Int×Int×QSB):=cond ((Qy c d).getD f_) n_<|(Iu x (Qf (y+1)) z C O u v w v9 g h i j k l m n o e f p q r s t (XF Ab c d t_)).bind λa=>(Xw a.j.k.1 a.j.k.2.1 a.j.k.2.2.1 a.j.k.2.2.2.1 a.j.j.1 u v w a.j.j.2.1 a.j.j.2.2 a.1 (⟨#[59]⟩:ByteArray)).bind λb=>Q (a.1,a.2.1,e,f,a.2.2.1,a.2.2.2.1,a.k.1,a.k.2.1,a.k.2.2.1,a.k.2.2.2.1,a.j.1,a.j.2.1,a.j.2.2.1,a.j.2.2.2.1,b.1,b.2.1,b.2.2.1,b.2.2.2.1,b.k.1,b.k.2.1,b.k.2.2,(XF Ab c d t_))
def Qco (c:QSB)(d:ByteArray)(x:(L_ Qv))(y:Int)(z:Int)(C:Int)(O:Int)(u:(L_ Qj))(v:(L_ Qp))(w:(L_ Qm))(v9:Int)(i:Int)(e:(L_ ByteArray))(j:ByteArray)(f:(L_ XB))(k:Int)(l:Int)(m:(L_ Qo))(n:Int)(o:Int)(g:(L_ Xf))(h:(L_ Xf))(p:LI_)(q:Int)(r:Int)(s:Int)(t:Int)(a0:Unit):O_ ((L_ ByteArray)×(L_ XB)×(L_ Xf)×(L_ Xf)×ByteArray×Int×Int×(L_ Qo)×Int×Int×Int×Int×Int×Int×(L_ Qv)×Int×Int×Int×Int×Int×Int×QSB):=cond ((Qy c d).getD f_) n_<|(Vg x (Qf (y+1)) z C O u v w v9 i e j f k l m n o g h p q r s t (XF Ab c d t_)).bind λa=>(Xw a.j.2.2.1 a.j.2.2.2.1 a.j.k.1 a.j.k.2.1 a.j.k.2.2.1 u v w a.j.k.2.2.2.1 a.j.j e (⟨#[59]⟩:ByteArray)).bind λb=>Q (e,f,g,h,a.1,a.2.1,a.2.2.1,a.2.2.2.1,a.k.1,a.k.2.1,a.k.2.2.1,a.k.2.2.2.1,a.j.1,a.j.2.1,b.1,b.2.1,b.2.2.1,b.2.2.2.1,b.k.1,b.k.2.1,b.k.2.2,(XF Ab c d t_))
def Qcp (c:QSB)(d:ByteArray)(x:(L_ Qv))(y:Int)(z:Int)(C:Int)(O:Int)(u:(L_ Qj))(v:(L_ Qp))(w:(L_ Qm))(v9:Int)(h:Int)(e:(L_ ByteArray))(i:ByteArray)(f:(L_ XB))(j:Int)(k:Int)(l:(L_ Qo))(m:Int)(n:Int)(o:(L_ Xf))(g:(L_ Xf))(p:LI_)(q:Int)(r:Int)(s:Int)(t:Int)(a0:Unit):O_ ((L_ ByteArray)×(L_ XB)×(L_ Xf)×(L_ Xf)×ByteArray×Int×Int×(L_ Qo)×Int×Int×Int×Int×Int×Int×(L_ Qv)×Int×Int×Int×Int×Int×Int×QSB):=cond ((Qy c d).getD f_) n_<|(SN x (Qf (y+1)) z C O u v w v9 h e i f j k l m n o g p q r s t (XF Ab c d t_)).bind λa=>(Xw a.j.2.2.2.1 a.j.k.1 a.j.k.2.1 a.j.k.2.2.1 a.j.k.2.2.2.1 u v w a.j.j.1 a.j.j.2 e (⟨#[59]⟩:ByteArray)).bind λb=>Q (e,f,a.1,g,a.2.1,a.2.2.1,a.2.2.2.1,a.k.1,a.k.2.1,a.k.2.2.1,a.k.2.2.2.1,a.j.1,a.j.2.1,a.j.2.2.1,b.1,b.2.1,b.2.2.1,b.2.2.2.1,b.k.1,b.k.2.1,b.k.2.2,(XF Ab c d t_))
def Qcq (c:QSB)(d:ByteArray)(x:(L_ Qv))(y:Int)(z:Int)(C:Int)(O:Int)(u:(L_ Qj))(v:(L_ Qp))(w:(L_ Qm))(v9:Int)(h:Int)(e:(L_ ByteArray))(i:ByteArray)(f:(L_ XB))(j:Int)(k:Int)(l:(L_ Qo))(m:Int)(n:Int)(g:(L_ Xf))(o:(L_ Xf))(p:LI_)(q:Int)(r:Int)(s:Int)(t:Int)(a0:Unit):O_ ((L_ ByteArray)×(L_ XB)×(L_ Xf)×(L_ Xf)×ByteArray×Int×Int×(L_ Qo)×Int×Int×Int×Int×Int×Int×(L_ Qv)×Int×Int×Int×Int×Int×Int×QSB):=cond ((Qy c d).getD f_) n_<|(Sc x (Qf (y+1)) z C O u v w v9 h e i f j k l m n g o p q r s t (XF Ab c d t_)).bind λa=>(Xw a.j.2.2.2.1 a.j.k.1 a.j.k.2.1 a.j.k.2.2.1 a.j.k.2.2.2.1 u v w a.j.j.1 a.j.j.2 e (⟨#[59]⟩:ByteArray)).bind λb=>Q (e,f,g,a.1,a.2.1,a.2.2.1,a.2.2.2.1,a.k.1,a.k.2.1,a.k.2.2.1,a.k.2.2.2.1,a.j.1,a.j.2.1,a.j.2.2.1,b.1,b.2.1,b.2.2.1,b.2.2.2.1,b.k.1,b.k.2.1,b.k.2.2,(XF Ab c d t_))
def Qcr (c:QSB)(d:ByteArray)(x:(L_ Qv))(y:Int)(z:Int)(C:Int)(O:Int)(u:(L_ Qj))(v:(L_ Qp))(w:(L_ Qm))(v9:Int)(i:Int)(e:(L_ ByteArray))(j:ByteArray)(f:(L_ XB))(k:Int)(l:Int)(m:(L_ Qo))(n:Int)(o:Int)(g:(L_ Xf))(h:(L_ Xf))(p:LI_)(q:Int)(r:Int)(s:Int)(t:Int)(a0:Unit):O_ ((L_ ByteArray)×(L_ XB)×(L_ Xf)×(L_ Xf)×ByteArray×Int×Int×(L_ Qo)×Int×Int×Int×Int×Int×Int×(L_ Qv)×Int×Int×Int×Int×Int×Int×QSB):=cond ((Qy c d).getD f_) n_<|(SO x (Qf (y+1)) z C O u v w v9 i e j f k l m n o g h p q r s t (XF Ab c d t_)).bind λa=>(Xw a.j.2.2.1 a.j.2.2.2.1 a.j.k.1 a.j.k.2.1 a.j.k.2.2.1 u v w a.j.k.2.2.2.1 a.j.j e (⟨#[59]⟩:ByteArray)).bind λb=>Q (e,f,g,h,a.1,a.2.1,a.2.2.1,a.2.2.2.1,a.k.1,a.k.2.1,a.k.2.2.1,a.k.2.2.2.1,a.j.1,a.j.2.1,b.1,b.2.1,b.2.2.1,b.2.2.2.1,b.k.1,b.k.2.1,b.k.2.2,(XF Ab c d t_))
def Sd:O_ ((L_ ByteArray)×(L_ XB)×(L_ Xf)×(L_ Xf)×ByteArray×Int×Int×(L_ Qo)×Int×Int×Int×Int×Int×Int×(L_ Qv)×Int×Int×Int×Int×Int×Int×QSB):=j_ (AH r o h0 s i0 i m l h n p) λa=>j_ (RZ r o h0 s i0 i m l h n p g m1 t m0 i3 k3 l3 k1 h4 q j1 m3 j4 k4 j2 a) (Sum.elim (λb=>Qcn j2 a r o h0 s i0 i m l h n p g m1 t m0 i3 k3 l3 k1 h4 q j1 m3 j4 k4 b) (Sum.elim (λb=>Qco j2 a r o h0 s i0 i m l h n p g m1 t m0 i3 k3 l3 k1 h4 q j1 m3 j4 k4 b) (Sum.elim (λb=>Qcp j2 a r o h0 s i0 i m l h n p g m1 t m0 i3 k3 l3 k1 h4 q j1 m3 j4 k4 b) (Sum.elim (λb=>Qcq j2 a r o h0 s i0 i m l h n p g m1 t m0 i3 k3 l3 k1 h4 q j1 m3 j4 k4 b) (λb=>Qcr j2 a r o h0 s i0 i m l h n p g m1 t m0 i3 k3 l3 k1 h4 q j1 m3 j4 k4 b)))))
def Qcs {v1 v2 v3 v4 v5 t u w v9 y j C m O a0 a1 a2 a3 p q c a4 a5 a6 a7 a}:CT 230 [.L 639] [(639,.var [.L 640,.s C,.P 636 m,.I O,.I a0,.sl 3 (QS a1),.I a2,.I a3,.P 637 p,.P 638 q,.P 644 c,.I a4,.I a5,.I a6,.I a7,.map 645]),(640,.var [.M 3 Qn v1,.I v2,.I v3,.I v4,.I v5,.P 641 t,.P 642 u,.P 643 w,.I v9,.I y,.P 635 j]),(641,.R 7 Qc t),(642,.R 3 Qd u),(643,.R 14 Qb w),(635,.R 1 QG j),(636,.R 2 Xa m),(637,.R 4 QC p),(638,.R 4 QC q),(644,.R 1 Qa c),(645,.map (QJ V.s V.b a))] (Sd v1 v2 v3 v4 v5 t u w v9 y j C m O a0 a1 a2 a3 p q c a4 a5 a6 a7 a) (λ_=>(.tup [])) (λr=>[(635,.R 1 QG r.1),(636,.R 2 Xa r.2.1),(637,.R 4 QC r.2.2.1),(638,.R 4 QC r.2.2.2.1),(639,.var [.L 640,.s r.k.1,.P 636 r.2.1,.I r.k.2.1,.I r.k.2.2.1,.sl 3 (QS r.k.2.2.2.1),.I r.j.1,.I r.j.2.1,.P 637 r.2.2.1,.P 638 r.2.2.2.1,.P 644 c,.I r.j.2.2.1,.I r.j.2.2.2.1,.I r.j.k.1,.I r.j.k.2.1,.map 645]),(640,.var [.M 3 Qn r.j.k.2.2.1,.I r.j.k.2.2.2.1,.I r.j.j.1,.I r.j.j.2.1,.I r.j.j.2.2.1,.P 641 t,.P 642 u,.P 643 w,.I r.j.j.2.2.2.1,.I r.j.j.k.1,.P 635 r.1]),(641,.R 7 Qc t),(642,.R 3 Qd u),(643,.R 14 Qb w),(644,.R 1 Qa c),(645,.map (QJ V.s V.b r.j.j.k.2))]):=
 W 58 func230 Z<|S 6 .fn [(639,640),(640,641),(641,642),(642,643),(643,635)] Cd Z λg=>gP_ 7 Z<|s5_ (λa8 h=>K [.cm (.fn) [(639,639),(640,640),(641,641),(642,642),(643,643),(644,635),(645,636),(646,637),(647,638),(648,644),(649,645)] [(639,639),(640,640),(641,641),(642,642),(643,643),(635,644),(636,645),(637,646),(638,647),(644,648),(645,649)] [] [.d,.d] [(639,.var [.L 640,.s C,.P 645 m,.I O,.I a0,.sl 3 (QS a1),.I a2,.I a3,.P 646 p,.P 647 q,.P 648 c,.I a4,.I a5,.I a6,.I a7,.map 649]),(640,.var [.M 3 Qn v1,.I v2,.I v3,.I v4,.I v5,.P 641 t,.P 642 u,.P 643 w,.I v9,.I y,.P 644 j]),(641,.R 7 Qc t),(642,.R 3 Qd u),(643,.R 14 Qb w),(644,.R 1 QG j),(645,.R 2 Xa m),(646,.R 4 QC p),(647,.R 4 QC q),(648,.R 1 Qa c),(649,.map (QJ V.s V.b a))] (.clo (.func 376) [.L 639] []),8,.o (.any (.b f_) n_),11,.o (.any (.b ((Qy a g).getD f_)) n_),1] Z (λhC=>(a3_ (Wl _ h) (λσ i h2 _=>Stp.eqFn Z Z (QK hC.n Z) (i _ _ Z) (i _ _ Z) Qsj) (λσ i h2 _=>Stp.lookup (z:=f_) Z Z (QK hC.n Z) (i _ _ Z) (h2 _ _ Z) (i _ _ Z) BF OL Ql0 Z)))<|I 0 Z (nO_)<|G [17,.x (λσ=>σ.set 645 (.map (QJ V.s V.b (XF Ab a g t_)))),20] Z (Stp.mapUpdate (e:=V.s) (f:=V.b) (l:=a) (k:=g) (v:=t_) Ab Z Z Z Z Z Z BF OL Z)<|zA_ 0 .clo [(639,639),(640,640),(641,641),(642,642),(643,643),(635,635),(636,636),(644,637),(645,638),(646,644),(647,645)] [(635,635),(636,636),(639,639),(640,640),(641,641),(642,642),(643,643),(637,644),(638,645),(644,646),(645,647)] [635,636] TZ Z λa9=>S 7 .fn [(639,640),(640,641),(641,642),(642,643),(643,635)] Xr Z λb0=>E 1 Z) (λb1 h=>K [.cm (.fn) [(639,639),(640,640),(641,641),(642,642),(643,643),(644,635),(645,636),(646,637),(647,638),(648,644),(649,645)] [(639,639),(640,640),(641,641),(642,642),(643,643),(635,644),(636,645),(637,646),(638,647),(644,648),(645,649)] [] [.d,.d] [(639,.var [.L 640,.s C,.P 645 m,.I O,.I a0,.sl 3 (QS a1),.I a2,.I a3,.P 646 p,.P 647 q,.P 648 c,.I a4,.I a5,.I a6,.I a7,.map 649]),(640,.var [.M 3 Qn v1,.I v2,.I v3,.I v4,.I v5,.P 641 t,.P 642 u,.P 643 w,.I v9,.I y,.P 644 j]),(641,.R 7 Qc t),(642,.R 3 Qd u),(643,.R 14 Qb w),(644,.R 1 QG j),(645,.R 2 Xa m),(646,.R 4 QC p),(647,.R 4 QC q),(648,.R 1 Qa c),(649,.map (QJ V.s V.b a))] (.clo (.func 377) [.L 639] []),8,.o (.any (.b f_) n_),11,.o (.any (.b ((Qy a g).getD f_)) n_),1] Z (λhC=>(a3_ (Wl _ h) (λσ i h2 _=>Stp.eqFn Z Z (QK hC.n Z) (i _ _ Z) (i _ _ Z) Qsj) (λσ i h2 _=>Stp.lookup (z:=f_) Z Z (QK hC.n Z) (i _ _ Z) (h2 _ _ Z) (i _ _ Z) BF OL Ql0 Z)))<|I 0 Z (nO_)<|G [17,.x (λσ=>σ.set 645 (.map (QJ V.s V.b (XF Ab a g t_)))),20] Z (Stp.mapUpdate (e:=V.s) (f:=V.b) (l:=a) (k:=g) (v:=t_) Ab Z Z Z Z Z Z BF OL Z)<|S 0 .clo [(639,639),(640,640),(641,641),(642,642),(643,643),(644,635),(645,636),(646,637),(647,638),(648,644),(649,645)] Qfb Z λb2=>S 7 .fn [(639,640),(640,641),(641,642),(642,643),(643,635)] Xr Z λb3=>E 1 Z) (λb4 h=>K [.cm (.fn) [(639,639),(640,640),(641,641),(642,642),(643,643),(644,635),(645,636),(646,637),(647,638),(648,644),(649,645)] [(639,639),(640,640),(641,641),(642,642),(643,643),(635,644),(636,645),(637,646),(638,647),(644,648),(645,649)] [] [.d,.d] [(639,.var [.L 640,.s C,.P 645 m,.I O,.I a0,.sl 3 (QS a1),.I a2,.I a3,.P 646 p,.P 647 q,.P 648 c,.I a4,.I a5,.I a6,.I a7,.map 649]),(640,.var [.M 3 Qn v1,.I v2,.I v3,.I v4,.I v5,.P 641 t,.P 642 u,.P 643 w,.I v9,.I y,.P 644 j]),(641,.R 7 Qc t),(642,.R 3 Qd u),(643,.R 14 Qb w),(644,.R 1 QG j),(645,.R 2 Xa m),(646,.R 4 QC p),(647,.R 4 QC q),(648,.R 1 Qa c),(649,.map (QJ V.s V.b a))] (.clo (.func 380) [.L 639] []),8,.o (.any (.b f_) n_),11,.o (.any (.b ((Qy a g).getD f_)) n_),1] Z (λhC=>(a3_ (Wl _ h) (λσ i h2 _=>Stp.eqFn Z Z (QK hC.n Z) (i _ _ Z) (i _ _ Z) Qsj) (λσ i h2 _=>Stp.lookup (z:=f_) Z Z (QK hC.n Z) (i _ _ Z) (h2 _ _ Z) (i _ _ Z) BF OL Ql0 Z)))<|I 0 Z (nO_)<|G [17,.x (λσ=>σ.set 645 (.map (QJ V.s V.b (XF Ab a g t_)))),20] Z (Stp.mapUpdate (e:=V.s) (f:=V.b) (l:=a) (k:=g) (v:=t_) Ab Z Z Z Z Z Z BF OL Z)<|zA_ 0 .clo [(639,639),(640,640),(641,641),(642,642),(643,643),(644,635),(645,636),(635,637),(646,638),(647,644),(648,645)] [(637,635),(639,639),(640,640),(641,641),(642,642),(643,643),(635,644),(636,645),(638,646),(644,647),(645,648)] [637] QdN Z λb5=>S 7 .fn [(639,640),(640,641),(641,642),(642,643),(643,635)] Xr Z λb6=>E 1 Z) (λb7 h=>K [.cm (.fn) [(639,639),(640,640),(641,641),(642,642),(643,643),(644,635),(645,636),(646,637),(647,638),(648,644),(649,645)] [(639,639),(640,640),(641,641),(642,642),(643,643),(635,644),(636,645),(637,646),(638,647),(644,648),(645,649)] [] [.d,.d] [(639,.var [.L 640,.s C,.P 645 m,.I O,.I a0,.sl 3 (QS a1),.I a2,.I a3,.P 646 p,.P 647 q,.P 648 c,.I a4,.I a5,.I a6,.I a7,.map 649]),(640,.var [.M 3 Qn v1,.I v2,.I v3,.I v4,.I v5,.P 641 t,.P 642 u,.P 643 w,.I v9,.I y,.P 644 j]),(641,.R 7 Qc t),(642,.R 3 Qd u),(643,.R 14 Qb w),(644,.R 1 QG j),(645,.R 2 Xa m),(646,.R 4 QC p),(647,.R 4 QC q),(648,.R 1 Qa c),(649,.map (QJ V.s V.b a))] (.clo (.func 381) [.L 639] []),8,.o (.any (.b f_) n_),11,.o (.any (.b ((Qy a g).getD f_)) n_),1] Z (λhC=>(a3_ (Wl _ h) (λσ i h2 _=>Stp.eqFn Z Z (QK hC.n Z) (i _ _ Z) (i _ _ Z) Qsj) (λσ i h2 _=>Stp.lookup (z:=f_) Z Z (QK hC.n Z) (i _ _ Z) (h2 _ _ Z) (i _ _ Z) BF OL Ql0 Z)))<|I 0 Z (nO_)<|G [17,.x (λσ=>σ.set 645 (.map (QJ V.s V.b (XF Ab a g t_)))),20] Z (Stp.mapUpdate (e:=V.s) (f:=V.b) (l:=a) (k:=g) (v:=t_) Ab Z Z Z Z Z Z BF OL Z)<|zA_ 0 .clo [(639,639),(640,640),(641,641),(642,642),(643,643),(644,635),(645,636),(646,637),(635,638),(647,644),(648,645)] [(638,635),(639,639),(640,640),(641,641),(642,642),(643,643),(635,644),(636,645),(637,646),(644,647),(645,648)] [638] Qcm Z λb8=>S 7 .fn [(639,640),(640,641),(641,642),(642,643),(643,635)] Xr Z λb9=>E 1 Z) λc0 h=>K [.cm (.fn) [(639,639),(640,640),(641,641),(642,642),(643,643),(644,635),(645,636),(646,637),(647,638),(648,644),(649,645)] [(639,639),(640,640),(641,641),(642,642),(643,643),(635,644),(636,645),(637,646),(638,647),(644,648),(645,649)] [] [.d,.d] [(639,.var [.L 640,.s C,.P 645 m,.I O,.I a0,.sl 3 (QS a1),.I a2,.I a3,.P 646 p,.P 647 q,.P 648 c,.I a4,.I a5,.I a6,.I a7,.map 649]),(640,.var [.M 3 Qn v1,.I v2,.I v3,.I v4,.I v5,.P 641 t,.P 642 u,.P 643 w,.I v9,.I y,.P 644 j]),(641,.R 7 Qc t),(642,.R 3 Qd u),(643,.R 14 Qb w),(644,.R 1 QG j),(645,.R 2 Xa m),(646,.R 4 QC p),(647,.R 4 QC q),(648,.R 1 Qa c),(649,.map (QJ V.s V.b a))] (.clo (.func 383) [.L 639] []),8,.o (.any (.b f_) n_),11,.o (.any (.b ((Qy a g).getD f_)) n_),1] Z (λhC=>(a3_ (Wl _ h) (λσ i h2 _=>Stp.eqFn Z Z (QK hC.n Z) (i _ _ Z) (i _ _ Z) Qsj) (λσ i h2 _=>Stp.lookup (z:=f_) Z Z (QK hC.n Z) (i _ _ Z) (h2 _ _ Z) (i _ _ Z) BF OL Ql0 Z)))<|I 0 Z (nO_)<|G [17,.x (λσ=>σ.set 645 (.map (QJ V.s V.b (XF Ab a g t_)))),20] Z (Stp.mapUpdate (e:=V.s) (f:=V.b) (l:=a) (k:=g) (v:=t_) Ab Z Z Z Z Z Z BF OL Z)<|S 0 .clo [(639,639),(640,640),(641,641),(642,642),(643,643),(644,635),(645,636),(646,637),(647,638),(648,644),(649,645)] QdO Z λc1=>S 7 .fn [(639,640),(640,641),(641,642),(642,643),(643,635)] Xr Z λc2=>E 1 Z
def ZY (b:Int)(c:(L_ Qv))(d:Int)(e:Int)(f:Int)(j:(L_ Qj))(k:(L_ Qp))(l:(L_ Qm))(g:Int)(h:Int)(i:(L_ ByteArray)):O_ (Bool×(L_ Qv)×Int×Int×Int×Int×Int×Int):=cond (b==0) ((XI c d e b f j k l g h i (⟨#[125]⟩:ByteArray)).bind λa=>Q ((!a.1),a.2.1,a.2.2.1,a.2.2.2.1,a.k.1,a.k.2.1,a.k.2.2.1,a.k.2.2.2))<|Q (f_,c,d,e,b,f,g,h)
def Qaa (b:ByteArray)(j:Int)(k:Int)(c:(L_ Qo))(d:Int)(n:Int)(o:Int)(p:Int)(q:Int)(r:Int)(a:(L_ ByteArray))(s:(L_ XB))(t:(L_ Xf))(u:(L_ Xf))(w:LI_)(x:QSB):O_ (((L_ Qv)×Int×Int×Int×Int×Int×Int×ByteArray×Int×Int×(L_ Qo)×Int×Int×Int×Int×Int×Int×(L_ ByteArray)×(L_ XB)×(L_ Xf)×(L_ Xf)×LI_×QSB)⊕((L_ Qv)×Int×Int×Int×Int×Int×Int×ByteArray×Int×Int×(L_ Qo)×Int×Int×Int×Int×Int×Int×(L_ ByteArray)×(L_ XB)×(L_ Xf)×(L_ Xf)×LI_×QSB)):=j_ (ZY j5 l4 m4 h5 k5 i m l l5 m5 a) (λv=>cond v.1 (j_ (Sd v.2.1 v.2.2.1 v.2.2.2.1 v.k.1 v.k.2.1 i m l v.k.2.2.1 v.k.2.2.2 a b s j k c d n t u w o p q r x) λi4=>Q (y_ (i4.j.k.2.2.1,i4.j.k.2.2.2.1,i4.j.j.1,i4.j.j.2.1,i4.j.j.2.2.1,i4.j.j.2.2.2.1,i4.j.j.k.1,i4.k.1,i4.k.2.1,i4.k.2.2.1,i4.k.2.2.2.1,i4.j.1,i4.j.2.1,i4.j.2.2.1,i4.j.2.2.2.1,i4.j.k.1,i4.j.k.2.1,i4.1,i4.2.1,i4.2.2.1,i4.2.2.2.1,w,i4.j.j.k.2)))<|Q (i_ (v.2.1,v.2.2.1,v.2.2.2.1,v.k.1,v.k.2.1,v.k.2.2.1,v.k.2.2.2,b,j,k,c,d,n,o,p,q,r,a,s,t,u,w,x)))
def Qab (a:ByteArray)(b:Int)(c:Int)(d:(L_ Qo))(e:Int)(f:Int)(g:Int)(h:Int)(i:Int)(j:Int)(v:(L_ ByteArray))(k:(L_ XB))(o:(L_ Xf))(m:(L_ Xf))(n:LI_)(x:QSB):O_ ((L_ ByteArray)×(L_ Qm)×(L_ Qv)×Int×Int×Int×Int×Int×Int):=j_ (chk (l.length+([(Qm.mk a k (Qo.mk b c d) e f o m n g (h,i,j))]:L_ Qm).length<=4294967296)) λ_=>Q (v,(l++[(Qm.mk a k (Qo.mk b c d) e f o m n g (h,i,j))]),l4,m4,h5,j5,k5,l5,m5)
def MC (g:(L_ Qv))(h:Int)(i:Int)(j:Int)(k:Int)(e:(L_ Qj))(f:(L_ Qp))(c:(L_ Qm))(l:Int)(d:Int)(m:(L_ ByteArray)):O_ ((L_ ByteArray)×(L_ Qm)×(L_ Qv)×Int×Int×Int×Int×Int×Int):=(QhQ g h i j k e f c l d ([]:L_ ByteArray)).bind λn=>(Ov g h i j k e f c l d ([]:L_ ByteArray)).bind λa=>(Xw a.2.1 a.2.2.1 a.2.2.2.1 a.k.1 a.k.2.1 e f c a.k.2.2.1 a.k.2.2.2 ([]:L_ ByteArray) (⟨#[123]⟩:ByteArray)).bind λb=>(Qx (λst=>Qaa e f c st.1 st.2.1 st.2.2.1 st.2.2.2.1 st.k.1 st.k.2.1 st.k.2.2.1 st.k.2.2.2.1 st.j.1 st.j.2.1 st.j.2.2.1 st.j.2.2.2.1 st.j.k.1 st.j.k.2.1 st.j.k.2.2.1 st.j.k.2.2.2.1 st.j.j.1 st.j.j.2.1 st.j.j.2.2.1 st.j.j.2.2.2.1 st.j.j.k.1 st.j.j.k.2.1 st.j.j.k.2.2) (b.1,b.2.1,b.2.2.1,b.2.2.2.1,b.k.1,b.k.2.1,b.k.2.2,a.1,1,1,([]:(L_ Qo)),1,1,0,0,0,0,([]:L_ ByteArray),([]:L_ XB),([]:L_ Xf),([]:L_ Xf),([]:L_ Int),([]:QSB))).bind (λq=>Qab c q.1 q.2.1 q.2.2.1 q.2.2.2.1 q.k.1 q.k.2.1 q.k.2.2.1 q.k.2.2.2.1 q.j.1 q.j.2.1 q.j.2.2.1 q.j.2.2.2.1 q.j.k.1 q.j.k.2.1 q.j.k.2.2.1 q.j.k.2.2.2.1 q.j.j.1 q.j.j.2.1 q.j.j.2.2.1 q.j.j.2.2.2.1 q.j.j.k.1 q.j.j.k.2.1 q.j.j.k.2.2)
def Qac {v1 v2 v3 v4 v5 x y z v9 O g}:CT 130 [.L 639] [(639,.var [.M 3 Qn v1,.I v2,.I v3,.I v4,.I v5,.P 640 x,.P 641 y,.P 635 z,.I v9,.I O,.P 642 g]),(640,.R 7 Qc x),(641,.R 3 Qd y),(635,.R 14 Qb z),(642,.R 1 QG g)] (MC v1 v2 v3 v4 v5 x y z v9 O g) (λ_=>(.tup [])) (λr=>[(633,.R 1 QG r.1),(635,.R 14 Qb r.2.1),(639,.var [.M 3 Qn r.2.2.1,.I r.2.2.2.1,.I r.k.1,.I r.k.2.1,.I r.k.2.2.1,.P 640 x,.P 641 y,.P 635 r.2.1,.I r.k.2.2.2.1,.I r.j,.P 633 r.1]),(640,.R 7 Qc x),(641,.R 3 Qd y),(642,.R 1 QG g)]):=
 W 49 func130 Z<|gT_ [23,.adoptO 639 10 633 1] Z<|zA_ 0 .fn [(639,639),(640,640),(641,641),(642,635),(643,633)] [(14,1),(639,639),(640,640),(641,641),(635,642),(633,643)] [] Ql3 Z λa4=>S 0 .fn [(639,639),(640,640),(641,641),(642,635),(643,633),(644,14)] QaL Z λa5=>G [.v .no [n_,n_,Q 3] (.agg (QM (Qo.mk 1 1 ([]:(L_ Qo))))),9] Z Z<|S 0 .fn [(639,639),(640,640),(641,641),(642,635),(643,633)] Xr Z λa6=>gT_ [4,.adoptO 9 2 610 2,.adoptO 9 8 611 4,.adoptO 9 9 612 4,.adoptO 9 10 613 1] Z<|lA_ 0 [0,2] [635,640,641,642] (λst=>([],[(7,.map (QJ V.s V.b st.j.j.k.2.2)),(9,.var [.L 639,.s st.k.2.2.2.1,.P 610 st.j.j.2.2.1,.I st.j.1,.I st.j.2.1,.sl 3 (QS st.j.2.2.1),.I st.j.2.2.2.1,.I st.j.k.1,.P 611 st.j.j.2.2.2.1,.P 612 st.j.j.k.1,.P 613 st.j.j.k.2.1,.I st.j.k.2.1,.I st.j.k.2.2.1,.I st.j.k.2.2.2.1,.I st.j.j.1,.map 7]),(610,.R 2 Xa st.j.j.2.2.1),(611,.R 4 QC st.j.j.2.2.2.1),(612,.R 4 QC st.j.j.k.1),(613,.R 1 Qa st.j.j.k.2.1),(633,.R 1 QG st.j.j.2.1),(639,.var [.M 3 Qn st.1,.I st.2.1,.I st.2.2.1,.I st.2.2.2.1,.I st.k.1,.P 640 x,.P 641 y,.P 635 z,.I st.k.2.1,.I st.k.2.2.1,.P 633 st.j.j.2.1])])) [0,2] [635,640,641,642] (λq=>(.exit 0,([],[(7,.map (QJ V.s V.b q.j.j.k.2.2)),(9,.var [.L 639,.s q.k.2.2.2.1,.P 610 q.j.j.2.2.1,.I q.j.1,.I q.j.2.1,.sl 3 (QS q.j.2.2.1),.I q.j.2.2.2.1,.I q.j.k.1,.P 611 q.j.j.2.2.2.1,.P 612 q.j.j.k.1,.P 613 q.j.j.k.2.1,.I q.j.k.2.1,.I q.j.k.2.2.1,.I q.j.k.2.2.2.1,.I q.j.j.1,.map 7]),(610,.R 2 Xa q.j.j.2.2.1),(611,.R 4 QC q.j.j.2.2.2.1),(612,.R 4 QC q.j.j.k.1),(613,.R 1 Qa q.j.j.k.2.1),(633,.R 1 QG q.j.j.2.1),(639,.var [.M 3 Qn q.1,.I q.2.1,.I q.2.2.1,.I q.2.2.2.1,.I q.k.1,.P 640 x,.P 641 y,.P 635 z,.I q.k.2.1,.I q.k.2.2.1,.P 633 q.j.j.2.1])]))) Z (λ⟨a7,a8,a9,b0,b1,b2,b3,b4,b5,b6,b7,b8,b9,c0,c1,c2,c3,a0,c4,c5,c6,c7,c8⟩=>mV_ 2 [0,2] [7,9,610,611,612,613,633,635,640,641,642] (λv=>([(31,.b v.1)],[(639,.var [.M 3 Qn v.2.1,.I v.2.2.1,.I v.2.2.2.1,.I v.k.1,.I v.k.2.1,.P 640 x,.P 641 y,.P 635 z,.I v.k.2.2.1,.I v.k.2.2.2,.P 633 a0])])) Z (I 7 Z (S 1 .fn [(639,639),(640,640),(641,641),(642,635),(643,633)] XC Z λa1=>M 3 Z)<|M 5 Z) λ⟨c9,d0,d1,d2,d3,d4,d5,a2⟩=>I 1 Z (zA_ 5 .fn [(639,9),(640,639),(641,640),(642,641),(643,635),(635,633),(636,610),(637,611),(638,612),(644,613),(645,7)] [(633,635),(610,636),(611,637),(612,638),(9,639),(639,640),(640,641),(641,642),(635,643),(613,644),(7,645)] [633,610,611,612] Qcs Z λa3=>R 2 Z)<|X 2 Z) λ⟨d6,d7,d8,d9,e0,e1,e2,h,i,j,k,l,o,p,t,u,w,e3,c,d,e,f,e4⟩=>gA_ [2,.frz 613 (f.map Qa) [] [9],.frz 611 (d.map QC) [] [9],.frz 612 (e.map QC) [] [9],.frz 610 (c.map Xa) [] [9]] Z (a4_ (a1_ (a1_ (a1_ (a1_ ⟨(JC Ql),U⟩)))) (a1_ (a1_ ⟨(JC Ql),(a1_ U)⟩)) (a1_ (a1_ ⟨(JC Ql),U⟩)) (a1_ ⟨(JC Ql),U⟩))<|kA_ λC=>D 0 Z [.a .no n_ t_,.N,.N,.N,.N,.N,.N,.N,.N,.E (.agg (Qb (Qm.mk h c (Qo.mk i j k) l o d e f p (t,u,w)))),.a (.bd []) (Q ([],.sl 14 (([(Qm.mk h c (Qo.mk i j k) l o d e f p (t,u,w))]:L_ Qm).map Qb))) f_,.m (.app ((z++[(Qm.mk h c (Qo.mk i j k) l o d e f p (t,u,w))]).map Qb) (z++[(Qm.mk h c (Qo.mk i j k) l o d e f p (t,u,w))]).length),.N,.N,.N,.m .s] [0,2] [7,9,633,635,639,640,641,642] [] [633,635,639,640,641,642] Z Z (a3_ Z Z ⟨Ql,Gd C Ql,Yg,JB Ql⟩) Z<|E 0 Z
def SP (h:Int)(i:(L_ Qj))(j:(L_ Qp))(k:(L_ Qm))(l:Int)(f:Int)(g:(L_ ByteArray))(a:Qg):O_ (Int×Int×Qg):=cond (o<r.length) n_<|cond (s != 0) n_<|Q (h0,0,a)
def QdP {e f g h i j k l n c b d}:CT 135 [.L 639,.G Qi d] [(639,.var [.M 3 Qn e,.I f,.I g,.I h,.I i,.M 7 Qc j,.M 3 Qd k,.M 14 Qb l,.I n,.I c,.P 640 b]),(640,.R 1 QG b)] (SP e f g h i j k l n c b d) (λr=>(.tup [.G Qi r.2.2,.I r.1,.I r.2.1])) (λ_=>[(639,.var [.M 3 Qn e,.I f,.I g,.I h,.I i,.M 7 Qc j,.M 3 Qd k,.M 14 Qb l,.I n,.I c,.P 640 b]),(640,.R 1 QG b)]):=
 W 39 func135 Z<|D 10 Z (dz_ [(8,.B (.ln e.length)),(0,.N)]) [] [] [0,3,4,17] [3,4,639,640] Z Z (a1_ Ql) Z<|I 1 Z (nO_)<|I 12 Z (nO_)<|D 3 Z [.N,.a .no n_ t_,.a .no n_ t_,.a .no n_ t_,.a .no n_ t_,.m .s,.N,.N] [0,3,4] [3,639,640] [4,5,6] [4,639,640] Z Z U Z<|E 2 Z
def Qpp (e:Int)(j:(L_ Qv))(k:Int)(l:Int)(b:Int)(f:(L_ Qj))(g:(L_ Qp))(h:(L_ Qm))(c:Int)(d:Int)(i:(L_ ByteArray)):O_ (Bool×(L_ Qv)×Int×Int×Int×Int×Int×Int):=cond (e==0) ((XI j k l e b f g h c d i (⟨#[102,114,111,109]⟩:ByteArray)).bind λa=>Q ((!a.1),a.2.1,a.2.2.1,a.2.2.2.1,a.k.1,a.k.2.1,a.k.2.2.1,a.k.2.2.2))<|Q (f_,j,k,l,e,b,c,d)
def Qpq (c:(L_ Qj))(d:(L_ Qp))(e:(L_ Qm))(f:(L_ ByteArray))(r:Bool)(k:(L_ Qv))(l:Int)(m:Int)(n:Int)(o:Int)(p:Int)(q:Int):O_ (((L_ Qv)×Int×Int×Int×Int×Int×Int×(L_ Qj)×(L_ Qp)×(L_ Qm)×(L_ ByteArray))⊕((L_ Qv)×Int×Int×Int×Int×Int×Int×(L_ Qj)×(L_ Qp)×(L_ Qm)×(L_ ByteArray))):=cond r ((XI k l m n o c d e p q f (⟨#[99,111,108,111,117,114]⟩:ByteArray)).bind λa=>cond a.1 ((Mw a.2.1 a.2.2.1 a.2.2.2.1 a.k.1 a.k.2.1 c d e a.k.2.2.1 a.k.2.2.2 f).bind λh=>Q (.inl (h.2.1,h.2.2.1,h.2.2.2.1,h.k.1,h.k.2.1,h.k.2.2.1,h.k.2.2.2,h.1,d,e,f)))<|(XI a.2.1 a.2.2.1 a.2.2.2.1 a.k.1 a.k.2.1 c d e a.k.2.2.1 a.k.2.2.2 f (⟨#[112,108,97,99,101]⟩:ByteArray)).bind λb=>cond b.1 ((My b.2.1 b.2.2.1 b.2.2.2.1 b.k.1 b.k.2.1 c d e b.k.2.2.1 b.k.2.2.2 f).bind λi=>Q (.inl (i.2.1,i.2.2.1,i.2.2.2.1,i.k.1,i.k.2.1,i.k.2.2.1,i.k.2.2.2,c,i.1,e,f)))<|(XI b.2.1 b.2.2.1 b.2.2.2.1 b.k.1 b.k.2.1 c d e b.k.2.2.1 b.k.2.2.2 f (⟨#[116,97,115,107]⟩:ByteArray)).bind λj=>cond j.1 ((MC j.2.1 j.2.2.1 j.2.2.2.1 j.k.1 j.k.2.1 c d e j.k.2.2.1 j.k.2.2.2 f).bind λg=>Q (.inl (g.2.2.1,g.2.2.2.1,g.k.1,g.k.2.1,g.k.2.2.1,g.k.2.2.2.1,g.j,c,d,g.2.1,g.1)))<|none)<|Q (.inr (k,l,m,n,o,p,q,c,d,e,f))
def Qps (k:(L_ Qv))(l:Int)(m:Int)(n:Int)(o:Int)(p:Int)(q:Int)(b:(L_ Qj))(c:(L_ Qp))(d:(L_ Qm))(i:(L_ ByteArray)):O_ (Int×Int×Qg):=(GE k l m n o b c d p q i).bind λe=>(Xw e.2.1 e.2.2.1 e.2.2.2.1 e.k.1 e.k.2.1 b c d e.1 e.k.2.2.2 i (⟨#[59]⟩:ByteArray)).bind λf=>(Xw f.1 f.2.1 f.2.2.1 f.2.2.2.1 f.k.1 b c d f.k.2.1 f.k.2.2 i (⟨#[116,111]⟩:ByteArray)).bind λg=>(GE g.1 g.2.1 g.2.2.1 g.2.2.2.1 g.k.1 b c d g.k.2.1 g.k.2.2 i).bind λh=>(Xw h.2.1 h.2.2.1 h.2.2.2.1 h.k.1 h.k.2.1 b c d h.k.2.2.1 h.1 i (⟨#[59]⟩:ByteArray)).bind λa=>(SP a.1 a.2.1 a.2.2.1 a.2.2.2.1 a.k.1 b c d a.k.2.1 a.k.2.2 i (Qg.mk b c d a.k.2.1 a.k.2.2)).bind λj=>Q (j.1,j.2.1,j.2.2)
def QlF:O_ (Int×Int×Qg):=j_ (Qx (λst=>j_ (Qpp st.2.2.2.1 st.1 st.2.1 st.2.2.1 st.k.1 st.k.2.2.2.1 st.j.1 st.j.2.1 st.k.2.1 st.k.2.2.1 st.j.2.2) (λl=>Qpq st.k.2.2.2.1 st.j.1 st.j.2.1 st.j.2.2 l.1 l.2.1 l.2.2.1 l.2.2.2.1 l.k.1 l.k.2.1 l.k.2.2.1 l.k.2.2.2)) (r,0,o,0,0,0,0,([]:L_ Qj),([]:L_ Qp),([]:L_ Qm),([]:L_ ByteArray))) (λq=>Qps q.1 q.2.1 q.2.2.1 q.2.2.2.1 q.k.1 q.k.2.1 q.k.2.2.1 q.k.2.2.2.1 q.j.1 q.j.2.1 q.j.2.2)
def Qpt {i end_2}:CT 72 [.M 3 Qn i,.I end_2] [] (QlF i end_2) (λr=>(.tup [.G Qi r.2.2,.I r.1,.I r.2.1])) no_:=
 W 70 func72 Z<|gT_ [18,.adoptO 11 5 615 7,.adoptO 11 6 616 3,.adoptO 11 7 617 14,.adoptO 11 10 618 1] Z<|lA_ 0 [4,7] [4] (λst=>([],[(11,.var [.M 3 Qn st.1,.I st.2.1,.I st.2.2.1,.I st.2.2.2.1,.I st.k.1,.P 615 st.k.2.2.2.1,.P 616 st.j.1,.P 617 st.j.2.1,.I st.k.2.1,.I st.k.2.2.1,.P 618 st.j.2.2]),(615,.R 7 Qc st.k.2.2.2.1),(616,.R 3 Qd st.j.1),(617,.R 14 Qb st.j.2.1),(618,.R 1 QG st.j.2.2)])) [4,7] [4] (λq=>(.exit 0,([],[(11,.var [.M 3 Qn q.1,.I q.2.1,.I q.2.2.1,.I q.2.2.2.1,.I q.k.1,.P 615 q.k.2.2.2.1,.P 616 q.j.1,.P 617 q.j.2.1,.I q.k.2.1,.I q.k.2.2.1,.P 618 q.j.2.2]),(615,.R 7 Qc q.k.2.2.2.1),(616,.R 3 Qd q.j.1),(617,.R 14 Qb q.j.2.1),(618,.R 1 QG q.j.2.2)]))) Z (λ⟨l6,l7,l8,l9,j,k,l,a,c,d,e⟩=>mV_ 2 [4,7] [4,615,616,617,618] (λv=>([(21,.b v.1)],[(11,.var [.M 3 Qn v.2.1,.I v.2.2.1,.I v.2.2.2.1,.I v.k.1,.I v.k.2.1,.P 615 a,.P 616 c,.P 617 d,.I v.k.2.2.1,.I v.k.2.2.2,.P 618 e])])) Z (I 7 Z (S 1 .fn [(639,11),(640,615),(641,616),(642,617),(643,618)] XC Z λm=>M 3 Z)<|M 5 Z) λ⟨o,p,s,t,u,w,x,y⟩=>I 1 Z (S 7 .fn [(639,11),(640,615),(641,616),(642,617),(643,618)] XC Z λz=>I 3 Z (zA_ 2 .fn [(639,11),(635,615),(640,616),(641,617),(642,618)] [(615,635),(11,639),(616,640),(617,641),(618,642)] [615] ZU Z λC=>R 3 Z)<|S 3 .fn [(639,11),(640,615),(641,616),(642,617),(643,618)] XC Z λO=>I 3 Z (zA_ 2 .fn [(639,11),(640,615),(635,616),(641,617),(642,618)] [(616,635),(11,639),(615,640),(617,641),(618,642)] [616] ZX Z λa0=>R 3 Z)<|S 3 .fn [(639,11),(640,615),(641,616),(642,617),(643,618)] XC Z λa1=>I 3 Z (zA_ 2 .fn [(639,11),(640,615),(641,616),(635,617),(642,618)] [(38,633),(617,635),(11,639),(615,640),(616,641),(618,642)] [617] Qac Z λa2=>gT_ [3,.kill 618,.ren 38 618] Z<|R 0 Z)<|nO_)<|X 2 Z) λ⟨a3,a4,a5,a6,a7,a8,a9,f,g,h,b0⟩=>S 8 .fn [(639,11),(640,615),(641,616),(642,617),(643,618)] Ug Z λb1=>S 9 .fn [(639,11),(640,615),(641,616),(642,617),(643,618)] Xr Z λb2=>S 5 .fn [(639,11),(640,615),(641,616),(642,617),(643,618)] Xr Z λb3=>S 8 .fn [(639,11),(640,615),(641,616),(642,617),(643,618)] Ug Z λb4=>S 9 .fn [(639,11),(640,615),(641,616),(642,617),(643,618)] Xr Z λb5=>g3_ [9,.frz 615 (f.map Qc) [65] [11],.frz 616 (g.map Qd) [65] [11],.frz 617 (h.map Qb) [65] [11]] Z (a2_ ⟨(JC Ql),(a1_ (a1_ U))⟩ ⟨(JC Ql),(a1_ (a1_ (a1_ U)))⟩) (a2_ ⟨(JC Ql),(a1_ U)⟩ ⟨(JC Ql),(a1_ (a1_ U))⟩) (a2_ ⟨(JC Ql),U⟩ ⟨(JC Ql),(a1_ U)⟩)<|S 0 .fn [(639,11),(640,618)] QdP Z λb6=>E 9 Z
def QiZ:O_ (Int×Int×Qg):=j_ (QlE g) λa=>cond (a.2.2 != 0) n_<|j_ (QlF a.1 a.2.1) λb=>Q (b.1,b.2.1,b.2.2)
def Qnv {a}:CT 37 [.s a] [] (QiZ a) (λr=>(.tup [.G Qi r.2.2,.I r.1,.I r.2.1])) no_:=
 W 25 func37 Z<|A 10 Qpo Z λb=>I 16 Z (nO_)<|A 6 Qpt Z λc=>E 9 Z
def PS:O_ Bool:=Q (((b.Places.length:Int)<=64)&&((b.Tasks.length:Int)<=64))
def Ql5 {c}:CT 74 [.L 639] [(639,.W Qi c)] (PS c) V.b (λ_=>[(639,.W Qi c)]):=
 W 12 func74 Z<|T 6 [] [639] ([(1,.b (((c.Places.length:Int)<=64)&&((c.Tasks.length:Int)<=64)))],[]) Z (N 3 Z<|H 2 Z (λa=>N 2 Z<|Y 4 1 Z (YN a Z)) λa=>Y 7 1 Z (Kl a Z))<|E 2 Z
def YY:O_ Bool:=Q ((0<=h)&&(h<m.length))
def Ku {d c}:CT 76 [.M 3 Qd d,.I c] [] (YY d c) V.b no_:=
 W 13 func76 Z<|T 6 [] [] ([(4,.b ((0<=c)&&(c<d.length)))],[]) Z (H 4 Z (λa=>N 2 Z<|Y 4 4 Z (YN a Z)) λa=>Y 7 4 Z (Kl a Z))<|E 2 Z
def Qct:O_ Bool:=j_ (YY b.Places b.From) λa=>cond a (j_ (YY b.Places b.To) λc=>Q c)<|Q f_
def Qcu:O_ Bool:=Q l0
def PT:O_ Bool:=j_ (Qct b) (λa=>Qcu a)
def Ql6 {a}:CT 75 [.L 639] [(639,.W Qi a)] (PT a) V.b (λ_=>[(639,.W Qi a)]):=
 W 14 func75 Z<|mV_ 6 [] [639] (λc=>([(1,.b c)],[])) Z (A 5 Ku Z λd=>I 1 Z (A 4 Ku Z λe=>M 3 Z)<|M 8 Z) λc=>E 2 Z
def PU:O_ Bool:=Q (b.From != b.To)
def Ql7 {a}:CT 77 [.L 639] [(639,.W Qi a)] (PU a) V.b (λ_=>[(639,.W Qi a)]):=
 W 7 func77 Z<|E 16 Z
def PV:O_ Int:=j_ (PS b) λf=>cond (!f) (Q c)<|j_ (PT b) λg=>cond (!g) (Q j)<|j_ (PU b) λa=>cond (!a) (Q t)<|Q 0
def Ql8 {a b c d}:CT 73 [.own 639 3] [(639,.var [.clo (.func 74) [] [.L 640],.I b,.clo (.func 75) [] [.L 640],.I c,.clo (.func 77) [] [.L 640],.I d]),(640,.W Qi a)] (PV a b c d) V.I (λ_=>[(639,.var [.clo (.func 74) [] [.L 640],.I b,.clo (.func 75) [] [.L 640],.I c,.clo (.func 77) [] [.L 640],.I d]),(640,.W Qi a)]):=
 W 18 func73 Z<|lN_ 14 4 Z<|vI_ 13 639 0 Z<|S 9 .clo [(639,640)] Ql5 Z λf=>I 3 Z (E 13 Z)<|rd_ 7 Z<|vI_ 13 639 2 Z<|gT_ [1,.kill 4,8] Z<|S 0 .clo [(639,640)] Ql6 Z λg=>I 3 Z (E 13 Z)<|rd_ 7 Z<|vI_ 13 639 4 Z<|gT_ [1,.kill 4,8] Z<|S 0 .clo [(639,640)] Ql7 Z λe=>I 3 Z (E 13 Z)<|rd_ 7 Z<|E 18 Z
def PW:O_ Int:=cond (k<a) (Q 0)<|Q (Qf ((Qf (min2 (IntKind.u64.wrap ((IntKind.u64.wrap k)-(IntKind.u64.wrap a))) 1024))+1))
def Ql9 {a b}:CT 387 [.I a,.I b] [] (PW a b) V.I no_:=
 W 16 func387 Z<|I 13 Z (E 7 Z)<|K [5,.o (.any (.i .u64 (IntKind.u64.wrap b)) n_),1,.o (.any (.i .u64 (IntKind.u64.wrap a)) n_),2,.o (.any (.I (Qf (min2 (IntKind.u64.wrap ((IntKind.u64.wrap b)-(IntKind.u64.wrap a))) 1024))) n_),5] Z (λd=>(a3_ (λz c e _=>Stp.convI Z Z (QK d.n Z) (c _ _ Z) Rq CX) (λz c e _=>Stp.convI Z Z (QK d.n Z) (c _ _ Z) Rq CX) (λz c e _=>Stp.convI Z Z (QK d.n Z) (c _ _ Z) CX Rq)))<|E 0 Z
def BI:O_ Bool:=
 Q (cond (97<=a) ((a<=122)||((65<=a)&&(a<=90)))<|((65<=a)&&(a<=90)))
def Qad {d}:CT 319 [.i .u8 d] [] (BI d) V.b no_:=
 W 17 func319 Z<|T 6 [] [] ([(2,.b (cond (97<=d) ((d<=122)||((65<=d)&&(d<=90)))<|((65<=d)&&(d<=90))))],[]) Z (H 4 Z (λa=>H 4 Z (λc=>Y 9 2 Z (Qo5 a (Gt c Z))) λc=>H 3 Z (λe=>Y 6 2 Z (Qo5 a (JQ c (YN e Z)))) λe=>Y 6 2 Z (Qo5 a (JQ c (Kl e Z)))) λa=>H 7 Z (λf=>Y 6 2 Z (QtB a (YN f Z))) λf=>Y 6 2 Z (QtB a (Kl f Z)))<|E 2 Z
def Qcv (a:ByteArray):O_ Bool:=cond (Km a (⟨#[]⟩:ByteArray)) (Q t_)<|cond (32<(a.size:Int)) (Q t_)<|(sidx a 0).bind λb=>(BI b).bind λc=>Q (!c)
def Qcw:O_ Bool:=j_ (BI a) λb=>cond (!b) (cond (a<48) (Q (a != 95))<|cond (57<a) (Q (a != 95))<|Q f_)<|Q f_
def Qcx:O_ (Int⊕(Unit⊕Unit)):=cond l0 (Q (i_ (y_ ())))<|Q (y_ (Qf (a+1)))
def Ru:O_ (Int⊕(Unit⊕Unit)):=cond (c<(g.size:Int)) (j_ (sidx g c) λb=>j_ (Qcw b) (λa=>Qcx c a))<|Q (i_ (i_ ()))
def Rv : O_ Bool:=Q f_
def Rx : O_ Bool:=Q t_
def Qcy:O_ Bool:=cond l0 (Q f_)<|j_ (Qx (λst=>Ru g st) 0) (Sum.elim (λq=>Rv) (λq=>Rx))
def Bo:O_ Bool:=j_ (Qcv g) (λb=>Qcy g b)
def Ry {f}:CT 235 [.s f] [] (Bo f) V.b no_:=
 W 42 func235 Z<|mV_ 7 [0] [] (λg=>([(17,.b g)],[])) Z (I 4 Z (M 11 Z)<|I 5 Z (M 6 Z)<|B λh d=>G [1,.o (.num h)] Z d<|A 0 Qad Z λk=>M 3 Z) λg=>I 1 Z (E 7 Z)<|F 11 [0,19] [] (λst=>([(20,.I st)],[])) [] [] (λq=>(.ret,([(2,.b f_)],[]))) [] [] (λq=>(.exit 0,([],[]))) Z (λi=>I 6 Z (B λe a=>G [14,.o (.num e),4] Z a<|mV_ 0 [0,19,20] [] (λc=>([(40,.b c)],[])) Z (A 2 Qad Z λj=>I 2 Z (I 3 Z (M 9 Z)<|I 5 Z (M 4 Z)<|M 4 Z)<|M 12 Z) λc=>I 1 Z (L 8 Z)<|R 7 Z)<|X 2 Z) (λ_=>E 2 Z) (λ_=>E 8 Z)
def Qbb:O_ Bool:=j_ (Bo g) λb=>cond (!b) (Q t_)<|Q ((Qy j2 g).getD f_)
def Qbc (c:ByteArray)(b:Bool):O_ ((Int×QSB)⊕(Unit⊕Unit)):=cond b (Q (i_ (y_ ())))<|Q (y_ ((Qf (a+1)),(XF Ab j2 c t_)))
def OQ:O_ ((Int×QSB)⊕(Unit⊕Unit)):=cond (c<p.length) (j_ (idx p c) λa=>j_ (Qbb a j2) (λb=>Qbc c j2 a b))<|Q (i_ (i_ ()))
def OR : O_ Bool:=Q f_
def OS : O_ Bool:=Q t_
def NG:O_ Bool:=j_ (Qx (λst=>OQ p st.1 st.2) (0,([]:QSB))) (Sum.elim (λq=>OR) (λq=>OS))
def QkE {g}:CT 388 [.M 1 QG g] [] (NG g) V.b no_:=
 W 24 func388 Z<|N 15 Z<|F 4 [3,7,8] [] (λst=>([(9,.I st.1)],[(6,.map (QJ V.s V.b st.2))])) [] [] (λq=>(.ret,([(2,.b f_)],[]))) [] [] (λq=>(.exit 0,([],[]))) Z (λ⟨p,d⟩=>I 6 Z (J 6 Z λa=>mV_ 6 [3,5,7,8,9] [6] (λc=>([(20,.b c)],[])) Z (A 2 Ry Z λi=>I 2 Z (M 5 Z)<|K [2,.o (.any (.b ((Qy d a).getD f_)) n_),2] Z (λj=>(a1_ (λy h m _=>Stp.lookup (z:=f_) Z Z (QK j.n Z) (h _ _ Z) (m _ _ Z) (h _ _ Z) BF OL Ql0 Z)))<|M 0 Z) λc=>I 1 Z (L 9 Z)<|G [5,.x (λy=>y.set 6 (.map (QJ V.s V.b (XF Ab d a t_)))),7] Z (Stp.mapUpdate (e:=V.s) (f:=V.b) (l:=d) (k:=a) (v:=t_) Ab Z Z Z Z Z Z BF OL Z)<|R 0 Z)<|X 2 Z) (λ_=>E 2 Z) (λ_=>E 8 Z)
def Dn : O_ Int:=Q 0
def PX (b:Qj)(a:LI_):O_ Int:=cond (b.Kind==1) (j_ (PW b.Lo b.Hi) λe=>Q e)<|cond (b.Kind==2) (j_ (NG b.Names) λf=>cond f (Q b.Names.length)<|Dn)<|cond (b.Kind==3) (cond ((0<=(min2 b.First b.Then))&&((max2 b.First b.Then)<(a.length:Int))) (j_ (idx a b.First) λc=>j_ (idx a b.Then) λd=>Q (Qf (c*d)))<|Dn)<|Dn
def Qma {e c}:CT 322 [.G Qc e,.M 1 Qa c] [] (PX e c) V.I no_:=
 W 51 func322 Z<|mU_ 6 [] [] ([],[]) (Dn) Z (I 13 Z (A 6 Ql9 Z λj=>E 6 Z)<|I 6 Z (A 4 QkE Z λk=>I 2 Z (N 4 Z<|E 6 Z)<|uA_ 2 Z Z)<|I 6 Z (T 1 [1,2] [2] ([(39,.b ((0<=(min2 e.First e.Then))&&((max2 e.First e.Then)<(c.length:Int))))],[]) Z (H 8 Z (λd=>N 6 Z<|Y 3 39 Z (YN d Z)) λd=>Y 10 39 Z (Kl d Z))<|I 1 Z (B λh f=>B λi g=>D 1 Z (dz_ [(3,.B (.row (Qa h))),(4,.B (.row (Qa i))),(2,.N)]) [] [] [4] [] Z Z (a2_ (KJ f) (KJ g)) Z<|E 4 Z)<|uA_ 2 Z Z)<|uA_ 2 Z Z)<|E 6 Z
def Qbd (a:Qj)(d:QSB)(b:Int):O_ Bool:=j_ (Bo a.Name) λc=>cond (!c) (Q t_)<|cond ((Qy d a.Name).getD f_) (Q t_)<|cond (b<1) (Q t_)<|Q (decide (1024<b))
def Qbe (a:Qj)(b:Bool):O_ ((Int×QSB×LI_)⊕(Unit⊕LI_)):=cond b (Q (i_ (y_ ())))<|j_ (chk (d.length+([c]:L_ Int).length<=4294967296)) λ_=>Q (y_ ((Qf (j+1)),(XF Ab j2 a.Name t_),(d++([c]:L_ Int))))
def OT (a:LI_):O_ ((Int×QSB×LI_)⊕(Unit⊕LI_)):=cond (h<i.length) (j_ (idx i h) λb=>j_ (PX b a) λc=>j_ (Qbd b j2 c) (λe=>Qbe a c h j2 b e))<|Q (i_ (i_ a))
def Fb:O_ (LI_×Bool):=cond (32<(i.length:Int)) (Q (([]:L_ Int),f_))<|j_ (Qx (λst=>OT i st.1 st.2.1 st.2.2) (0,([]:QSB),([]:L_ Int))) (Sum.elim (λq=>Q (([]:L_ Int),f_)) (λq=>Q (q,t_)))
def Qbf {h}:CT 238 [.M 7 Qc h] [] (Fb h) (λr=>(.tup [.M 1 Qa r.1,.b r.2])) no_:=
 W 49 func238 Z<|N 10 Z<|I 3 Z (gT_ [8,.denil 2 [Q 1]] Z<|E 0 Z)<|N 17 Z<|aD_ 4 5 43 1 Z<|F 0 [4,13,14] [] (λst=>([(5,.P 43 st.2.2),(15,.I st.1)],[(12,.map (QJ V.s V.b st.2.1)),(43,.R 1 Qa st.2.2)])) [] [] (λq=>(.ret,([(2,.Y),(3,.b f_)],[]))) [] [] (λq=>(.exit 0,([(5,.P 43 q)],[(43,.R 1 Qa q)]))) Z (λ⟨y,g,j⟩=>I 6 Z (J 6 Z λa=>cV_ 9 [.d,.o _] Qma Z λm=>mV_ 5 [4,5,7,8,13,14,15] [7,12,43] (λc=>([(39,.b c)],[])) Z (A 3 Ry Z λp=>I 2 Z (M 14 Z)<|K [3,.o (.any (.b ((Qy g a.Name).getD f_)) n_),2] Z (λt=>(a1_ (λσ i u _=>Stp.lookup (z:=f_) Z Z (QK t.n Z) (i _ _ Z) (u _ _ Z) (i _ _ Z) BF OL Ql0 Z)))<|I 0 Z (M 8 Z)<|I 4 Z (M 4 Z)<|M 4 Z) λc=>I 1 Z (L 10 Z)<|G [7,.x (λσ=>σ.set 12 (.map (QJ V.s V.b (XF Ab g a.Name t_)))),5] Z (Stp.mapUpdate (e:=V.s) (f:=V.b) (l:=g) (k:=a.Name) (v:=t_) Ab Z Z Z Z Z Z BF OL Z)<|pA_ 0 1 Qa Z<|R 8 Z)<|X 2 Z) (λ_=>gT_ [2,.denil 2 [Q 1]] Z<|E 0 Z) (λw=>zF_ 10 43 [2] [] Z<|E 0 Z)
def NH:O_ Bool:=j_ (Fb i) λb=>Q b.2
def QkH {a}:CT 143 [.M 7 Qc a] [] (NH a) V.b no_:=
 W 11 func143 Z<|A 8 Qbf Z λc=>E 14 Z
def AI:O_ Bool:=j_ (chk (decide (0<=(Qf (c+1)))&&decide (0<=(Qf (c+1)).toNat)&&decide ((Qf (c+1)).toNat<=b.Colours.length))) λ_=>j_ (NH ((b.Colours.drop 0).take ((Qf (c+1)).toNat-0))) λa=>Q a
def Qfc {c d}:CT 142 [.L 639,.L 640] [(639,.W Qi c),(640,.W Qa d)] (AI c d) V.b (λ_=>[(639,.W Qi c),(640,.W Qa d)]):=
 W 9 func142 Z<|kA_ λa=>K [11,.o (.any (.sl 7 (((c.Colours.drop 0).take ((Qf (d+1)).toNat-0)).map Qc)) n_)] Z (λf=>(a1_ (λz e g _=>Stp.sliceD Z Z (QK f.n Z) (e _ _ Z) (QU.es Z) Kt.no (Kt.val (e _ _ Z) (QZ (ZK a)) Z) (QZ (ZL a)) (Yx (QZ (Qch a)) (Nat.le_of_eq Ql.symm)) Qed)))<|A 0 QkH Z λh=>E 4 Z
def Qej:O_ Bool:=j_ (Bo g) λb=>cond b (j_ (CZ g) λc=>Q (!c))<|Q f_
def Qek:O_ Bool:=Q l0
def Ey:O_ Bool:=j_ (Qej g) (λb=>Qek b)
def BJ {a}:CT 139 [.s a] [] (Ey a) V.b no_:=
 W 10 func139 Z<|mV_ 6 [] [] (λc=>([(2,.b c)],[])) Z (A 2 Ry Z λd=>I 1 Z (A 1 SJ Z λe=>M 4 Z)<|M 6 Z) λc=>E 2 Z
def EN:O_ Bool:=j_ (Ey g) λb=>Q (!b)
def Qcz {a}:CT 141 [.s a] [] (EN a) V.b no_:=
 W 6 func141 Z<|A 8 BJ Z λc=>E 5 Z
def KK:O_ (Int⊕(Int⊕Unit)):=cond (c<p.length) (j_ (idx p c) λa=>j_ (EN a) λd=>cond d (Q (i_ (y_ c)))<|Q (y_ (Qf (c+1))))<|Q (i_ (i_ ()))
def KL:O_ Int:=Q a
def KM : O_ Int:=Q (-1)
def JN:O_ Int:=j_ (Qx (λst=>KK p st) 0) (Sum.elim (λq=>KL q) (λq=>KM))
def Lg {a}:CT 237 [.M 1 QG a,.clo (.func 141) [] []] [] (JN a) V.I no_:=
 W 19 func237 Z<|N 9 Z<|F 4 [0,1,7] [] (λst=>([(8,.I st)],[])) [] [] (λq=>(.ret,([(4,.I q)],[]))) [] [] (λq=>(.exit 0,([],[]))) Z (λb=>I 6 Z (J 15 Z λc=>A 1 Qcz Z λd=>I 2 Z (L 9 Z)<|R 7 Z)<|X 2 Z) (λe=>E 2 Z) (λ_=>E 8 Z)
def Js:O_ Bool:=j_ (JN p) λb=>Q (decide (0<=b))
def FU {a}:CT 140 [.M 1 QG a,.clo (.func 141) [] []] [] (Js a) V.b no_:=
 W 9 func140 Z<|S 9 .fn [] Lg Z λc=>E 5 Z
def Pm (a:Qj):O_ Bool:=j_ (Ey a.Name) λb=>cond b (cond (a.Kind != 2) (Q t_)<|j_ (Js a.Names) λc=>Q (!c))<|Q f_
def Pn:O_ Bool:=Q l0
def AJ (a:Qj):O_ Bool:=j_ (Pm a) (λb=>Pn b)
def Qfd {a}:CT 138 [.L 639] [(639,.W Qc a)] (AJ a) V.b (λ_=>[(639,.W Qc a)]):=
 W 16 func138 Z<|mV_ 6 [] [639] (λc=>([(1,.b c)],[])) Z (A 3 BJ Z λd=>I 1 Z (I 4 Z (M 8 Z)<|S 2 .fn [] FU Z λe=>M 5 Z)<|M 12 Z) λc=>E 2 Z
def Ht (e:Qj)(f:Int):O_ Int:=j_ (AI b c) λg=>cond (!g) (Q j)<|j_ (AJ e) λa=>cond (!a) (Q f)<|Q 0
def Qh5 {a b c d e}:CT 73 [.own 639 2] [(639,.var [.clo (.func 142) [] [.L 640,.L 641],.I c,.clo (.func 138) [] [.L 642],.I e]),(640,.W Qi a),(641,.W Qa b),(642,.W Qc d)] (Ht a b c d e) V.I (λ_=>[(639,.var [.clo (.func 142) [] [.L 640,.L 641],.I c,.clo (.func 138) [] [.L 642],.I e]),(640,.W Qi a),(641,.W Qa b),(642,.W Qc d)]):=
 W 18 func73 Z<|lN_ 14 3 Z<|vI_ 13 639 0 Z<|S 9 .clo [(639,640),(640,641)] Qfc Z λg=>I 3 Z (E 13 Z)<|rd_ 7 Z<|vI_ 13 639 2 Z<|gT_ [1,.kill 4,8] Z<|S 0 .clo [(639,642)] Qfd Z λf=>I 3 Z (E 13 Z)<|rd_ 7 Z<|E 18 Z
def CD (b:Qj)(c:Qg):O_ Int:=j_ (Ht c a 8 b 8) λd=>Q d
def Qhm {b c a}:CT 137 [.I b,.G Qc c,.L 639] [(639,.W Qi a)] (CD b c a) V.I (λ_=>[(639,.W Qi a)]):=
 W 16 func137 Z<|K [25,.o (.any (.own 14 2) (Q (.var [.clo (.func 142) [] [.L 639,.L 3],.I 8,.clo (.func 138) [] [.L 4],.I 8])))] Z (λd=>(a1_ (λz e f h=>Stp.buildAny Z Z (QK d.n Z) (QU.es Z) ZP Z (by decide) (by decide) (GS e Z) Z Z (h Z))))<|S 0 .fn [(639,14),(640,639),(641,3),(642,4)] Qh5 Z λg=>E 4 Z
def Uh:O_ (Int⊕((Int×Int)⊕Unit)):=cond (c<i.length) (j_ (idx i c) λa=>j_ (CD c a b) λd=>cond (d != 0) (Q (i_ (y_ (c,d))))<|Q (y_ (Qf (c+1))))<|Q (i_ (i_ ()))
def Ui:O_ (Int×Int):=Q (a,k)
def Uj : O_ (Int×Int):=Q (0,0)
def GF:O_ (Int×Int):=j_ (Qx (λst=>Uh i b st) 0) (Sum.elim (λq=>Ui q.1 q.2) (λq=>Uj))
def QaQ {b a}:CT 136 [.M 7 Qc b,.clo (.func 137) [] [.L 639]] [(639,.W Qi a)] (GF b a) (λr=>(.tup [.I r.1,.I r.2])) (λ_=>[(639,.W Qi a)]):=
 W 25 func136 Z<|N 10 Z<|F 4 [1,9,10] [639] (λst=>([(11,.I st)],[])) [] [639] (λq=>(.ret,([(4,.I q.1),(5,.I q.2)],[]))) [] [639] (λq=>(.exit 0,([],[]))) Z (λf=>I 6 Z (J 7 Z λc=>S 11 .clo [(639,639)] Qhm Z λd=>I 9 Z (L 11 Z)<|R 7 Z)<|X 2 Z) (λ⟨g,e⟩=>E 2 Z) (λ_=>E 9 Z)
def BK:O_ (Int×Int):=j_ (GF b.Colours b) λa=>Q (a.1,a.2)
def Qae {a}:CT 78 [.G Qi a] [] (BK a) (λr=>(.tup [.I r.1,.I r.2])) no_:=
 W 10 func78 Z<|S 12 .fn [(639,1)] QaQ Z λb=>E 7 Z
def Lx (a:Qp):O_ Bool:=j_ (Ey a.Name) λb=>Q b
def Qi0 {a}:CT 145 [.L 639] [(639,.W Qd a)] (Lx a) V.b (λ_=>[(639,.W Qd a)]):=
 W 5 func145 Z<|A 9 BJ Z λc=>E 4 Z
def Lz (a:Qp)(b:Qp):O_ Bool:=Q (Km a.Name b.Name)
def Qi1 {c a}:CT 144 [.G Qd c,.L 639] [(639,.W Qd a)] (Lz c a) V.b (λ_=>[(639,.W Qd a)]):=
 W 9 func144 Z<|E 17 Z
def JG (d:Qp)(a:Int):O_ (Int⊕(Int⊕Unit)):=cond (a<m.length) (j_ (idx m a) λe=>j_ (Lz e d) λb=>cond b (Q (i_ (y_ a)))<|Q (y_ (Qf (a+1))))<|Q (i_ (i_ ()))
def JH:O_ Int:=Q a
def JI : O_ Int:=Q (-1)
def Jd (b:Qp):O_ Int:=j_ (Qx (λst=>JG m b st) 0) (Sum.elim (λq=>JH q) (λq=>JI))
def Ch {b a}:CT 233 [.M 3 Qd b,.clo (.func 144) [] [.L 639]] [(639,.W Qd a)] (Jd b a) V.I (λ_=>[(639,.W Qd a)]):=
 W 19 func233 Z<|N 9 Z<|F 4 [0,1,7] [639] (λst=>([(8,.I st)],[])) [] [639] (λq=>(.ret,([(4,.I q)],[]))) [] [639] (λq=>(.exit 0,([],[]))) Z (λd=>I 6 Z (J 15 Z λe=>S 1 .clo [(639,639)] Qi1 Z λc=>I 2 Z (L 9 Z)<|R 7 Z)<|X 2 Z) (λf=>E 2 Z) (λ_=>E 8 Z)
def Je (b:Qp):O_ Bool:=j_ (Jd m b) λc=>Q (decide (0<=c))
def Ci {c a}:CT 147 [.M 3 Qd c,.clo (.func 144) [] [.L 639]] [(639,.W Qd a)] (Je c a) V.b (λ_=>[(639,.W Qd a)]):=
 W 9 func147 Z<|S 9 .fn [(639,639)] Ch Z λd=>E 5 Z
def LA (a:Qp):O_ Bool:=j_ (chk (decide (0<=c)&&decide (0<=c.toNat)&&decide (c.toNat<=b.Places.length))) λ_=>j_ (Je ((b.Places.drop 0).take (c.toNat-0)) a) λd=>Q (!d)
def Qi2 {e f g}:CT 146 [.L 639,.L 640,.L 641] [(639,.W Qi e),(640,.W Qa f),(641,.var [.clo (.func 144) [] [.L 642]]),(642,.W Qd g)] (LA e f g) V.b (λ_=>[(639,.W Qi e),(640,.W Qa f),(641,.var [.clo (.func 144) [] [.L 642]]),(642,.W Qd g)]):=
 W 11 func146 Z<|kA_ λc=>B λj i=>Ko 6 Z [.N,.N,.N,.B (.any (.sl 3 (((e.Places.drop 0).take (f.toNat-0)).map Qd)) n_),.N,.B (.any (.b j) n_),.N,.m .s] [] [] [3] [639,640,641,642] Z Z (λk=>(a2_ (λz h l _=>Stp.sliceD Z Z (QK k.n Z) (h _ _ Z) (QU.es Z) Kt.no (Kt.val (h _ _ Z) (QZ (ZK c)) Z) (QZ (ZL c)) (Yx (QZ (Qch c)) (Nat.le_of_eq Ql.symm)) Qed) (λz h l _=>Stp.callSame (md:=.cm (.fn) [(639,642)] [(642,639)] [] [.d,.d] [(639,.W Qd g)] (.b j) [642]) QU k h l Z (a2_ (Ci _ i) r1_)))) Z<|E 2 Z
def Wm:O_ Bool:=Q ((0<=h)&&(h<i.length))
def Ha {d c}:CT 149 [.M 7 Qc d,.I c] [] (Wm d c) V.b no_:=
 W 13 func149 Z<|T 6 [] [] ([(4,.b ((0<=c)&&(c<d.length)))],[]) Z (H 4 Z (λa=>N 2 Z<|Y 4 4 Z (YN a Z)) λa=>Y 7 4 Z (Kl a Z))<|E 2 Z
def LB (a:Qp):O_ Bool:=j_ (Wm b.Colours a.Colour) λc=>Q c
def Qi3 {a c}:CT 148 [.L 639,.L 640] [(639,.W Qi a),(640,.W Qd c)] (LB a c) V.b (λ_=>[(639,.W Qi a),(640,.W Qd c)]):=
 W 8 func148 Z<|A 11 Ha Z λd=>E 4 Z
def KE:O_ ((Int×Int)⊕(Unit⊕Unit)):=
 cond (j<f.length) (j_ (idx f j) λb=>
 cond ((b.1<=c)||((b.2<1)||(1048576<b.2))) (Q (i_ (y_ ())))<|Q (y_ (b.1,(Qf (j+1)))))<|Q (i_ (i_ ()))
def NI : O_ Bool:=Q f_
def NJ : O_ Bool:=Q t_
def WX:O_ Bool:=j_ (Qx (λst=>KE f st.1 st.2) ((-1),0)) (Sum.elim (λq=>NI) (λq=>NJ))
def NK {f}:CT 116 [.M 2 XS f] [] (WX f) V.b no_:=
 W 29 func116 Z<|N 14 Z<|F 4 [6,7] [] (λst=>([(3,.I st.1),(8,.I st.2)],[])) [] [] (λq=>(.ret,([(2,.b f_)],[]))) [] [] (λq=>(.exit 0,([],[]))) Z (λ⟨d,g⟩=>I 6 Z (J 6 Z λe=>T 7 [5,6,7,8] [5] ([(25,.b ((e.1<=d)||((e.2<1)||(1048576<e.2))))],[]) Z (H 6 Z (λa=>Y 10 25 Z (Gt a Z)) λa=>H 5 Z (λc=>Y 5 25 Z (JQ a (Gt c Z))) λc=>Y 5 25 Z (JQ a (JQ c Z)))<|I 1 Z (L 9 Z)<|R 13 Z)<|X 2 Z) (λ_=>E 2 Z) (λ_=>E 8 Z)
def LC (a:Qp):O_ Bool:=j_ (WX a.First) λb=>Q b
def Qi4 {a}:CT 150 [.L 639] [(639,.W Qd a)] (LC a) V.b (λ_=>[(639,.W Qd a)]):=
 W 5 func150 Z<|A 9 NK Z λc=>E 4 Z
def UT:O_ (Bool×Ke):=
 j_ (Fb i) λc=>
 cond ((!c.2)||((h<0)||(i.length<=h))) (Q (f_,(Ke.mk ([]:(L_ Qj)) ([]:LI_) 0)))<|Q (t_,(Ke.mk i c.1 h))
def Vx {e d}:CT 239 [.M 7 Qc e,.I d] [] (UT e d) (λr=>(.tup [.G Lt r.2,.b r.1])) no_:=
 W 30 func239 Z<|A 9 Qbf Z λf=>T 9 [0,1,4,6] [4] ([(24,.b ((!f.2)||((d<0)||((e.length:Int)<=d))))],[]) Z (H 4 Z (λc=>Y 10 24 Z (Gt c Z)) λc=>H 4 Z (λa=>Y 6 24 Z (JQ c (Gt a Z))) λa=>N 2 Z<|Y 3 24 Z (JQ c (JQ a Z)))<|I 1 Z (G [2,.v .no [Q 7,Q 1,n_] (.agg (Lt (Ke.mk ([]:(L_ Qj)) ([]:LI_) 0))),6] Z Z<|E 0 Z)<|E 13 Z
def Jk:O_ Int:=j_ (UT i h) λb=>cond (!b.1) (Q 0)<|j_ (idx b.2.sizes h) λd=>Q d
def Hu {a b}:CT 152 [.M 7 Qc a,.I b] [] (Jk a b) V.I no_:=
 W 20 func152 Z<|A 9 Vx Z λc=>I 15 Z (E 7 Z)<|J 7 Z λd=>E 5 Z
def CE (a:(Int×Int))(b:Int):O_ Bool:=Q (decide (b<=a.1))
def Qhn {a c}:CT 154 [.G XS a,.L 639] [(639,.W Qa c)] (CE a c) V.b (λ_=>[(639,.W Qa c)]):=
 W 8 func154 Z<|E 16 Z
def WF:O_ (Int⊕(Int⊕Unit)):=cond (j<f.length) (j_ (idx f j) λe=>j_ (CE e c) λb=>cond b (Q (i_ (y_ j)))<|Q (y_ (Qf (j+1))))<|Q (i_ (i_ ()))
def WG:O_ Int:=Q a
def WH : O_ Int:=Q (-1)
def Kq:O_ Int:=j_ (Qx (λst=>WF f c st) 0) (Sum.elim (λq=>WG q) (λq=>WH))
def NL {b a}:CT 240 [.M 2 XS b,.clo (.func 154) [] [.L 639]] [(639,.W Qa a)] (Kq b a) V.I (λ_=>[(639,.W Qa a)]):=
 W 19 func240 Z<|N 9 Z<|F 4 [0,1,7] [639] (λst=>([(8,.I st)],[])) [] [639] (λq=>(.ret,([(4,.I q)],[]))) [] [639] (λq=>(.exit 0,([],[]))) Z (λd=>I 6 Z (J 15 Z λe=>S 1 .clo [(639,639)] Qhn Z λc=>I 2 Z (L 9 Z)<|R 7 Z)<|X 2 Z) (λf=>E 2 Z) (λ_=>E 8 Z)
def JO:O_ Bool:=j_ (Kq f c) λa=>Q (decide (0<=a))
def Lh {c a}:CT 153 [.M 2 XS c,.clo (.func 154) [] [.L 639]] [(639,.W Qa a)] (JO c a) V.b (λ_=>[(639,.W Qa a)]):=
 W 9 func153 Z<|S 9 .fn [(639,639)] NL Z λd=>E 5 Z
def LD (a:Qp):O_ Bool:=j_ (Jk b.Colours a.Colour) λc=>j_ (JO a.First c) λd=>Q (!d)
def Qi5 {a c}:CT 151 [.L 639,.L 640] [(639,.W Qi a),(640,.W Qd c)] (LD a c) V.b (λ_=>[(639,.W Qi a),(640,.W Qd c)]):=
 W 14 func151 Z<|A 11 Hu Z λd=>S 9 .fn [(639,3)] Lh Z λe=>E 5 Z
def Hv (a:Qp)(h:Int)(b:Qg)(i:Int)(j:Int)(k:Int)(l:Int)(m:Int):O_ Int:=j_ (Lx a) λc=>cond (!c) (Q h)<|j_ (LA b i a) λd=>cond (!d) (Q j)<|j_ (LB b a) λe=>cond (!e) (Q k)<|j_ (LC a) λf=>cond (!f) (Q l)<|j_ (LD b a) λg=>cond (!g) (Q m)<|Q 0
def Qh6 {a b c d e f g h}:CT 73 [.own 639 5] [(639,.var [.clo (.func 145) [] [.L 640],.I b,.clo (.func 146) [] [.L 641,.L 642,.L 643],.I e,.clo (.func 148) [] [.L 641,.L 640],.I f,.clo (.func 150) [] [.L 640],.I g,.clo (.func 151) [] [.L 641,.L 640],.I h]),(640,.W Qd a),(641,.W Qi c),(642,.W Qa d),(643,.var [.clo (.func 144) [] [.L 640]])] (Hv a b c d e f g h) V.I (λ_=>[(639,.var [.clo (.func 145) [] [.L 640],.I b,.clo (.func 146) [] [.L 641,.L 642,.L 643],.I e,.clo (.func 148) [] [.L 641,.L 640],.I f,.clo (.func 150) [] [.L 640],.I g,.clo (.func 151) [] [.L 641,.L 640],.I h]),(640,.W Qd a),(641,.W Qi c),(642,.W Qa d),(643,.var [.clo (.func 144) [] [.L 640]])]):=
 W 18 func73 Z<|lN_ 14 6 Z<|vI_ 13 639 0 Z<|S 9 .clo [(639,640)] Qi0 Z λi=>I 3 Z (E 13 Z)<|rd_ 7 Z<|vI_ 13 639 2 Z<|gT_ [1,.kill 4,8] Z<|S 0 .clo [(639,641),(640,642),(641,643),(642,640)] Qi2 Z λj=>I 3 Z (E 13 Z)<|rd_ 7 Z<|vI_ 13 639 4 Z<|gT_ [1,.kill 4,8] Z<|S 0 .clo [(639,641),(640,640)] Qi3 Z λk=>I 3 Z (E 13 Z)<|rd_ 7 Z<|vI_ 13 639 6 Z<|gT_ [1,.kill 4,8] Z<|S 0 .clo [(639,640)] Qi4 Z λl=>I 3 Z (E 13 Z)<|rd_ 7 Z<|vI_ 13 639 8 Z<|gT_ [1,.kill 4,8] Z<|S 0 .clo [(639,641),(640,640)] Qi5 Z λm=>I 3 Z (E 13 Z)<|rd_ 7 Z<|E 18 Z
def PY:O_ Int:=j_ (YY b.Places c) λa=>cond (!a) (Q 3)<|j_ (idx b.Places c) λd=>j_ (Hv d 1 b c 5 3 1 8) λe=>Q e
def Qmb {a b}:CT 81 [.G Qi a,.I b] [] (PY a b) V.I no_:=
 W 30 func81 Z<|A 13 Ku Z λe=>I 3 Z (E 7 Z)<|J 7 Z λf=>K [24,.o (.any (.own 28 5) (Q (.var [.clo (.func 145) [] [.L 5],.I 1,.clo (.func 146) [] [.L 2,.L 3,.L 6],.I 5,.clo (.func 148) [] [.L 2,.L 5],.I 3,.clo (.func 150) [] [.L 5],.I 1,.clo (.func 151) [] [.L 2,.L 5],.I 8])))] Z (λc=>(a1_ (λz d g O=>Stp.buildAny Z Z (QK c.n Z) (QU.es Z) ZP Z (by decide) (by decide) (GS d Z) Z Z (O Z))))<|S 0 .fn [(639,28),(640,5),(641,2),(642,3),(643,6)] Qh6 Z λh=>E 4 Z
def PZ (d:Qp)(b:Qg):O_ Int:=j_ (PY b a) λc=>Q c
def Qmc {b c a}:CT 80 [.I b,.G Qd c,.L 639] [(639,.W Qi a)] (PZ b c a) V.I (λ_=>[(639,.W Qi a)]):=
 W 9 func80 Z<|A 10 Qmb Z λd=>E 4 Z
def UC:O_ (Int⊕((Int×Int)⊕Unit)):=cond (c<m.length) (j_ (idx m c) λa=>j_ (PZ c a b) λd=>cond (d != 0) (Q (i_ (y_ (c,d))))<|Q (y_ (Qf (c+1))))<|Q (i_ (i_ ()))
def UD:O_ (Int×Int):=Q (a,k)
def UE : O_ (Int×Int):=Q (0,0)
def Ef:O_ (Int×Int):=j_ (Qx (λst=>UC m b st) 0) (Sum.elim (λq=>UD q.1 q.2) (λq=>UE))
def QbG {b a}:CT 79 [.M 3 Qd b,.clo (.func 80) [] [.L 639]] [(639,.W Qi a)] (Ef b a) (λr=>(.tup [.I r.1,.I r.2])) (λ_=>[(639,.W Qi a)]):=
 W 25 func79 Z<|N 10 Z<|F 4 [1,9,10] [639] (λst=>([(11,.I st)],[])) [] [639] (λq=>(.ret,([(4,.I q.1),(5,.I q.2)],[]))) [] [639] (λq=>(.exit 0,([],[]))) Z (λf=>I 6 Z (J 7 Z λc=>S 11 .clo [(639,639)] Qmc Z λd=>I 9 Z (L 11 Z)<|R 7 Z)<|X 2 Z) (λ⟨g,e⟩=>E 2 Z) (λ_=>E 9 Z)
def JJ:O_ Bool:=Q ((0<=h)&&(h<l.length))
def LE {d c}:CT 155 [.M 14 Qb d,.I c] [] (JJ d c) V.b no_:=
 W 13 func155 Z<|T 6 [] [] ([(4,.b ((0<=c)&&(c<d.length)))],[]) Z (H 4 Z (λa=>N 2 Z<|Y 4 4 Z (YN a Z)) λa=>Y 7 4 Z (Kl a Z))<|E 2 Z
def Ra (a:Int)(b:Qg)(c:Qm):O_ Unit:=Q ()
def Qmd {a b c}:CT 161 [.L 639,.clo (.func 162) [] [.L 640,.L 641]] [(639,.W Qa a),(640,.W Qi b),(641,.W Qb c)] (Ra a b c) (λ_=>(.clo (.func 242) [] [.L 3,.L 2])) (λ_=>[(2,.var [.L 639]),(3,.var [.clo (.func 162) [] [.L 640,.L 641]]),(639,.W Qa a),(640,.W Qi b),(641,.W Qb c)]):=
 W 6 func161 Z<|E 14 Z
def Hw (a:Int)(b:Qg)(c:Qm)(d:Int):O_ Unit:=Q ()
def Qh7 {a b c d}:CT 161 [.L 639,.clo (.func 167) [] [.L 640,.L 641,.L 642]] [(639,.W Qa a),(640,.W Qi b),(641,.W Qb c),(642,.W Qa d)] (Hw a b c d) (λ_=>(.clo (.func 242) [] [.L 3,.L 2])) (λ_=>[(2,.var [.L 639]),(3,.var [.clo (.func 167) [] [.L 640,.L 641,.L 642]]),(639,.W Qa a),(640,.W Qi b),(641,.W Qb c),(642,.W Qa d)]):=
 W 6 func161 Z<|E 14 Z
def Hx (a:Int)(b:Qg)(c:Qm)(d:Int):O_ Unit:=Q ()
def Qh8 {a b c d}:CT 161 [.L 639,.clo (.func 169) [] [.L 640,.L 641,.L 642]] [(639,.W Qa a),(640,.W Qi b),(641,.W Qb c),(642,.W Qa d)] (Hx a b c d) (λ_=>(.clo (.func 242) [] [.L 3,.L 2])) (λ_=>[(2,.var [.L 639]),(3,.var [.clo (.func 169) [] [.L 640,.L 641,.L 642]]),(639,.W Qa a),(640,.W Qi b),(641,.W Qb c),(642,.W Qa d)]):=
 W 6 func161 Z<|E 14 Z
def Hy (a:Int)(b:Qg)(c:Qm):O_ Unit:=Q ()
def Qh9 {a b c}:CT 161 [.L 639,.clo (.func 170) [] [.L 640,.L 641]] [(639,.W Qa a),(640,.W Qi b),(641,.W Qb c)] (Hy a b c) (λ_=>(.clo (.func 242) [] [.L 3,.L 2])) (λ_=>[(2,.var [.L 639]),(3,.var [.clo (.func 170) [] [.L 640,.L 641]]),(639,.W Qa a),(640,.W Qi b),(641,.W Qb c)]):=
 W 6 func161 Z<|E 14 Z
def NM (a:Qm):O_ Bool:=j_ (Ey a.Name) λb=>Q b
def QkI {a}:CT 157 [.L 639] [(639,.W Qb a)] (NM a) V.b (λ_=>[(639,.W Qb a)]):=
 W 5 func157 Z<|A 9 BJ Z λc=>E 4 Z
def NN (a:Qm)(b:Qm):O_ Bool:=Q (Km a.Name b.Name)
def QkJ {c a}:CT 156 [.G Qb c,.L 639] [(639,.W Qb a)] (NN c a) V.b (λ_=>[(639,.W Qb a)]):=
 W 9 func156 Z<|E 17 Z
def JY (d:Qm)(a:Int):O_ (Int⊕(Int⊕Unit)):=cond (a<l.length) (j_ (idx l a) λe=>j_ (NN e d) λb=>cond b (Q (i_ (y_ a)))<|Q (y_ (Qf (a+1))))<|Q (i_ (i_ ()))
def JZ:O_ Int:=Q a
def Ka : O_ Int:=Q (-1)
def Jl (b:Qm):O_ Int:=j_ (Qx (λst=>JY l b st) 0) (Sum.elim (λq=>JZ q) (λq=>Ka))
def Fc {b a}:CT 241 [.M 14 Qb b,.clo (.func 156) [] [.L 639]] [(639,.W Qb a)] (Jl b a) V.I (λ_=>[(639,.W Qb a)]):=
 W 19 func241 Z<|N 9 Z<|F 4 [0,1,7] [639] (λst=>([(8,.I st)],[])) [] [639] (λq=>(.ret,([(4,.I q)],[]))) [] [639] (λq=>(.exit 0,([],[]))) Z (λd=>I 6 Z (J 15 Z λe=>S 1 .clo [(639,639)] QkJ Z λc=>I 2 Z (L 9 Z)<|R 7 Z)<|X 2 Z) (λf=>E 2 Z) (λ_=>E 8 Z)
def Jm (b:Qm):O_ Bool:=j_ (Jl l b) λc=>Q (decide (0<=c))
def Fd {c a}:CT 159 [.M 14 Qb c,.clo (.func 156) [] [.L 639]] [(639,.W Qb a)] (Jm c a) V.b (λ_=>[(639,.W Qb a)]):=
 W 9 func159 Z<|S 9 .fn [(639,639)] Fc Z λd=>E 5 Z
def NO (a:Qm):O_ Bool:=j_ (chk (decide (0<=c)&&decide (0<=c.toNat)&&decide (c.toNat<=b.Tasks.length))) λ_=>j_ (Jm ((b.Tasks.drop 0).take (c.toNat-0)) a) λd=>Q (!d)
def QkK {e f g}:CT 158 [.L 639,.L 640,.L 641] [(639,.W Qi e),(640,.W Qa f),(641,.var [.clo (.func 156) [] [.L 642]]),(642,.W Qb g)] (NO e f g) V.b (λ_=>[(639,.W Qi e),(640,.W Qa f),(641,.var [.clo (.func 156) [] [.L 642]]),(642,.W Qb g)]):=
 W 11 func158 Z<|kA_ λc=>B λj i=>Ko 6 Z [.N,.N,.N,.B (.any (.sl 14 (((e.Tasks.drop 0).take (f.toNat-0)).map Qb)) n_),.N,.B (.any (.b j) n_),.N,.m .s] [] [] [3] [639,640,641,642] Z Z (λk=>(a2_ (λz h l _=>Stp.sliceD Z Z (QK k.n Z) (h _ _ Z) (QU.es Z) Kt.no (Kt.val (h _ _ Z) (QZ (ZK c)) Z) (QZ (ZL c)) (Yx (QZ (Qch c)) (Nat.le_of_eq Ql.symm)) Qed) (λz h l _=>Stp.callSame (md:=.cm (.fn) [(639,642)] [(642,639)] [] [.d,.d] [(639,.W Qb g)] (.b j) [642]) QU k h l Z (a2_ (Fd _ i) r1_)))) Z<|E 2 Z
def Fe (b:Qm):O_ Bool:=Q ((a<=16)&&((max2 (max2 b.Ins.length b.Outs.length) b.Cancel.length)<=16))
def QkL {d a}:CT 160 [.L 639,.L 640] [(639,.W Qa d),(640,.W Qb a)] (Fe d a) V.b (λ_=>[(639,.W Qa d),(640,.W Qb a)]):=
 W 18 func160 Z<|T 6 [] [639,640] ([(2,.b ((d<=16)&&((max2 (max2 a.Ins.length a.Outs.length) a.Cancel.length)<=16)))],[]) Z (H 4 Z (λc=>N 2 Z<|N 2 Z<|N 2 Z<|K [.o (.any (.I (max2 (max2 a.Ins.length a.Outs.length) a.Cancel.length)) n_),4] Z (λf=>(a1_ (λz e g _=>Stp.max3 Z Z (QK f.n Z) (e _ _ Z) (e _ _ Z) (e _ _ Z))))<|Y 0 2 Z (YN c Z)) λc=>Y 14 2 Z (Kl c Z))<|E 2 Z
def EO (a:XB):O_ Bool:=j_ (Ey a.Name) λb=>Q b
def QcA {a}:CT 246 [.L 639] [(639,.W Xa a)] (EO a) V.b (λ_=>[(639,.W Xa a)]):=
 W 5 func246 Z<|A 9 BJ Z λc=>E 4 Z
def EP (a:XB)(b:XB):O_ Bool:=Q (Km a.Name b.Name)
def QcB {c a}:CT 245 [.G Xa c,.L 639] [(639,.W Xa a)] (EP c a) V.b (λ_=>[(639,.W Xa a)]):=
 W 9 func245 Z<|E 17 Z
def KY (d:XB)(a:Int):O_ (Int⊕(Int⊕Unit)):=cond (a<m1.length) (j_ (idx m1 a) λe=>j_ (EP e d) λb=>cond b (Q (i_ (y_ a)))<|Q (y_ (Qf (a+1))))<|Q (i_ (i_ ()))
def KZ:O_ Int:=Q a
def Wa : O_ Int:=Q (-1)
def JV (b:XB):O_ Int:=j_ (Qx (λst=>KY m1 b st) 0) (Sum.elim (λq=>KZ q) (λq=>Wa))
def Me {b a}:CT 323 [.M 2 Xa b,.clo (.func 245) [] [.L 639]] [(639,.W Xa a)] (JV b a) V.I (λ_=>[(639,.W Xa a)]):=
 W 19 func323 Z<|N 9 Z<|F 4 [0,1,7] [639] (λst=>([(8,.I st)],[])) [] [639] (λq=>(.ret,([(4,.I q)],[]))) [] [639] (λq=>(.exit 0,([],[]))) Z (λd=>I 6 Z (J 15 Z λe=>S 1 .clo [(639,639)] QcB Z λc=>I 2 Z (L 9 Z)<|R 7 Z)<|X 2 Z) (λf=>E 2 Z) (λ_=>E 8 Z)
def Jz (b:XB):O_ Bool:=j_ (JV m1 b) λc=>Q (decide (0<=c))
def Hz {c a}:CT 248 [.M 2 Xa c,.clo (.func 245) [] [.L 639]] [(639,.W Xa a)] (Jz c a) V.b (λ_=>[(639,.W Xa a)]):=
 W 9 func248 Z<|S 9 .fn [(639,639)] Me Z λd=>E 5 Z
def EQ (c:XB):O_ Bool:=j_ (chk (decide (0<=t)&&decide (0<=t.toNat)&&decide (t.toNat<=m1.length))) λ_=>j_ (Jz ((m1.drop 0).take (t.toNat-0)) c) λd=>Q (!d)
def QcC {e f g}:CT 247 [.L 639,.L 640,.L 641] [(639,.W US e),(640,.W Qa f),(641,.var [.clo (.func 245) [] [.L 642]]),(642,.W Xa g)] (EQ e f g) V.b (λ_=>[(639,.W US e),(640,.W Qa f),(641,.var [.clo (.func 245) [] [.L 642]]),(642,.W Xa g)]):=
 W 10 func247 Z<|kA_ λc=>B λj i=>Ko 6 Z [.N,.N,.B (.any (.sl 2 (((e.drop 0).take (f.toNat-0)).map Xa)) n_),.N,.B (.any (.b j) n_),.N,.m .s] [] [] [3] [639,640,641,642] Z Z (λk=>(a2_ (λz h l _=>Stp.sliceD Z Z (QK k.n Z) (h _ _ Z) (QU.es Z) Kt.no (Kt.val (h _ _ Z) (QZ (ZK c)) Z) (QZ (ZL c)) (Yx (QZ (Qch c)) (Nat.le_of_eq Ql.symm)) Qed) (λz h l _=>Stp.callSame (md:=.cm (.fn) [(639,642)] [(642,639)] [] [.d,.d] [(639,.W Xa g)] (.b j) [642]) QU k h l Z (a2_ (Hz _ i) r1_)))) Z<|E 2 Z
def ER (a:XB):O_ Bool:=j_ (Wm b.Colours a.Colour) λc=>Q c
def QcD {a c}:CT 249 [.L 639,.L 640] [(639,.W Qi a),(640,.W Xa c)] (ER a c) V.b (λ_=>[(639,.W Qi a),(640,.W Xa c)]):=
 W 8 func249 Z<|A 11 Ha Z λd=>E 4 Z
def HA (a:XB)(e:Int)(f:(L_ XB))(g:Int)(h:Int)(i:Qg)(j:Int):O_ Int:=j_ (EO a) λb=>cond (!b) (Q e)<|j_ (EQ f g a) λc=>cond (!c) (Q h)<|j_ (ER i a) λd=>cond (!d) (Q j)<|Q 0
def Qia {a b c d e f g}:CT 73 [.own 639 3] [(639,.var [.clo (.func 246) [] [.L 640],.I b,.clo (.func 247) [] [.L 641,.L 642,.L 643],.I e,.clo (.func 249) [] [.L 644,.L 640],.I g]),(640,.W Xa a),(641,.W US c),(642,.W Qa d),(643,.var [.clo (.func 245) [] [.L 640]]),(644,.W Qi f)] (HA a b c d e f g) V.I (λ_=>[(639,.var [.clo (.func 246) [] [.L 640],.I b,.clo (.func 247) [] [.L 641,.L 642,.L 643],.I e,.clo (.func 249) [] [.L 644,.L 640],.I g]),(640,.W Xa a),(641,.W US c),(642,.W Qa d),(643,.var [.clo (.func 245) [] [.L 640]]),(644,.W Qi f)]):=
 W 18 func73 Z<|lN_ 14 4 Z<|vI_ 13 639 0 Z<|S 9 .clo [(639,640)] QcA Z λh=>I 3 Z (E 13 Z)<|rd_ 7 Z<|vI_ 13 639 2 Z<|gT_ [1,.kill 4,8] Z<|S 0 .clo [(639,641),(640,642),(641,643),(642,640)] QcC Z λi=>I 3 Z (E 13 Z)<|rd_ 7 Z<|vI_ 13 639 4 Z<|gT_ [1,.kill 4,8] Z<|S 0 .clo [(639,644),(640,640)] QcD Z λj=>I 3 Z (E 13 Z)<|rd_ 7 Z<|E 18 Z
def AM (b:XB)(c:(L_ XB))(d:Qg):O_ Int:=j_ (HA b 1 c a 5 d 3) λe=>Q e
def Qfe {c d a b}:CT 244 [.I c,.G Xa d,.L 639,.L 640] [(639,.W US a),(640,.W Qi b)] (AM c d a b) V.I (λ_=>[(639,.W US a),(640,.W Qi b)]):=
 W 17 func244 Z<|K [22,.o (.any (.own 15 3) (Q (.var [.clo (.func 246) [] [.L 5],.I 1,.clo (.func 247) [] [.L 639,.L 4,.L 7],.I 5,.clo (.func 249) [] [.L 640,.L 5],.I 3])))] Z (λe=>(a1_ (λz f g O=>Stp.buildAny Z Z (QK e.n Z) (QU.es Z) ZP Z (by decide) (by decide) (GS f Z) Z Z (O Z))))<|S 0 .fn [(639,15),(640,5),(641,639),(642,4),(643,7),(644,640)] Qia Z λh=>E 4 Z
def AZ (e:(L_ XB))(f:Qg)(a:Int):O_ (Int⊕((Int×Int)⊕Unit)):=cond (a<m1.length) (j_ (idx m1 a) λc=>j_ (AM a c e f) λb=>cond (b != 0) (Q (i_ (y_ (a,b))))<|Q (y_ (Qf (a+1))))<|Q (i_ (i_ ()))
def Ba:O_ (Int×Int):=Q (a,k)
def Bc : O_ (Int×Int):=Q (0,0)
def UF (b:(L_ XB))(c:Qg):O_ (Int×Int):=j_ (Qx (λst=>AZ m1 b c st) 0) (Sum.elim (λq=>Ba q.1 q.2) (λq=>Bc))
def QdQ {c a b}:CT 243 [.M 2 Xa c,.clo (.func 244) [] [.L 639,.L 640]] [(639,.W US a),(640,.W Qi b)] (UF c a b) (λr=>(.tup [.I r.1,.I r.2])) (λ_=>[(639,.W US a),(640,.W Qi b)]):=
 W 25 func243 Z<|N 10 Z<|F 4 [1,9,10] [639,640] (λst=>([(11,.I st)],[])) [] [639,640] (λq=>(.ret,([(4,.I q.1),(5,.I q.2)],[]))) [] [639,640] (λq=>(.exit 0,([],[]))) Z (λh=>I 6 Z (J 7 Z λd=>S 11 .clo [(639,639),(640,640)] Qfe Z λe=>I 9 Z (L 11 Z)<|R 7 Z)<|X 2 Z) (λ⟨f,g⟩=>E 2 Z) (λ_=>E 9 Z)
def CF:O_ Int:=j_ (UF m1 m1 b) λc=>Q c.2
def Qho {a b}:CT 163 [.G Qi a,.M 2 Xa b] [] (CF a b) V.I no_:=
 W 14 func163 Z<|S 11 .fn [(639,3),(640,2)] QdQ Z λc=>E 14 Z
def NP (a:Qm):O_ Int:=j_ (CF b a.Vars) λc=>Q c
def QkM {a b}:CT 162 [.L 639,.L 640] [(639,.W Qi a),(640,.W Qb b)] (NP a b) V.I (λ_=>[(639,.W Qi a),(640,.W Qb b)]):=
 W 7 func162 Z<|A 10 Qho Z λc=>E 4 Z
def BL (c:Qm)(d:Int):O_ (Bool×Int):=j_ (NP b c) λa=>Q ((a==0),a)
def Qi6 {c e g}:CT 242 [.L 639,.L 642] [(639,.var [.clo (.func 162) [] [.L 640,.L 641]]),(640,.W Qi c),(641,.W Qb e),(642,.var [.L 643]),(643,.W Qa g)] (BL c e g) (λr=>(.b r.1)) (λr=>[(639,.var [.clo (.func 162) [] [.L 640,.L 641]]),(640,.W Qi c),(641,.W Qb e),(642,.var [.L 643]),(643,.W Qa r.2)]):=
 W 11 func242 Z<|B λh f=>Ko 6 Z [.N,.N,.B (.any (.I h) n_),.N,.m .s] [] [] [1] [639,640,641,642,643] Z Z (λi=>(a1_ (λz j k _=>Stp.callSame (md:=.cm (.clo) [(639,640),(640,641)] [(640,639),(641,640)] [] [.d,.d] [(639,.W Qi c),(640,.W Qb e)] (.I h) [640,641]) QU i j k Z (a2_ (QkM _ f) r2_)))) Z<|E 11 Z
def Ah (e:Qm)(f:Qg)(a:Int)(c:Int):O_ ((Int×Int)⊕(Unit⊕Int)):=cond (c<e.Vars.length) (j_ (idx e.Vars c) λd=>j_ (Jk f.Colours d.Colour) λb=>cond (b==0) (Q (i_ (y_ ())))<|Q (y_ ((min2 (Qf (a*b)) 1025),(Qf (c+1)))))<|Q (i_ (i_ a))
def Rz : O_ Int:=Q 0
def RA:O_ Int:=Q a
def Dk:O_ Int:=j_ (JJ b.Tasks c) λa=>cond (!a) (Q 0)<|j_ (idx b.Tasks c) λd=>j_ (Qx (λst=>Ah d b st.1 st.2) (1,0)) (Sum.elim (λq=>Rz) (λq=>RA q))
def QcE {b c}:CT 95 [.G Qi b,.I c] [] (Dk b c) V.I no_:=
 W 38 func95 Z<|A 12 LE Z λg=>I 3 Z (E 7 Z)<|J 13 Z λh=>N 2 Z<|F 4 [2,19,20] [2] (λst=>([(5,.I st.1),(21,.I st.2)],[])) [] [] (λq=>(.ret,([(4,.I 0)],[]))) [] [] (λq=>(.exit 0,([(5,.I q)],[]))) Z (λ⟨d,i⟩=>I 6 Z (J 6 Z λe=>A 11 Hu Z λf=>I 10 Z (L 9 Z)<|R 15 Z)<|X 2 Z) (λ_=>E 2 Z) (λa=>E 9 Z)
def Ff:O_ Bool:=j_ (Dk b c) λa=>Q (decide (a<=1024))
def QkN {a c}:CT 164 [.L 639,.L 640] [(639,.W Qi a),(640,.W Qa c)] (Ff a c) V.b (λ_=>[(639,.W Qi a),(640,.W Qa c)]):=
 W 7 func164 Z<|A 9 QcE Z λd=>E 5 Z
def SQ (h:Qo->O_ Int)(d:Int)(a:Int):O_ ((Int×Int)⊕Int):=cond (a<k0.Kids.length) (j_ (idx k0.Kids a) λe=>j_ (h e) λb=>Q (y_ ((max2 d b),(Qf (a+1)))))<|Q (i_ d)
def Qel:O_ Int:=Q (Qf (a+1))
def Vy (h:Qo->O_ Int)(a:Qo):O_ Int:=j_ (Qx (λst=>SQ a h st.1 st.2) (0,0)) (λq=>Qel q)
def GT : Nat->Qo->O_ Int
 |0,_=>none|n+1,a=>Vy (GT n) a
def QcF:O_ Int:=GT (SizeOf.sizeOf k0) k0
def QkO {O:Qo->O_ Int}{hrec_expr_Depth:∀(a:Qo) {r:Int},O a=Q r->QQ prog 250 [.G QM a] [] (Gives (.I r) [])}{a:Qo}:CT 250 [.G QM a] [] (Vy O a) V.I no_:=
 W 20 func250 Z<|nR_ 16 Ge Z<|lA_ 4 [7,8] [] (λst=>([(3,.I st.1),(9,.I st.2)],[])) [] [] (λq=>(.exit 0,([(3,.I q)],[]))) Z (λ⟨g,h⟩=>I 6 Z (xR_ 6 Ed Z λi f=>B λe b=>G [8,.o (.C1 (.I e)),9] Z (hrec_expr_Depth _ b)<|R 0 Z)<|X 2 Z) λj=>E 10 Z
def Qbg : ∀(fuel:Nat) (a:Qo) {r:Int},GT fuel a=Q r->QQ prog 250 [.G QM a] [] (Gives (.I r) [])
 |0,_,_,h=>by cases h
 |n+1,a,_,h=>@QkO (GT n) (λ_ _ h=>Qbg n _ h) a _ h
def Qnw (a){r}(h:QcF a=Q r):QQ prog 250 [.G QM a] [] (Gives (.I r) []):=Qbg _ a h
def Vz (h:Qo->O_ Int)(d:Int)(a:Int):O_ ((Int×Int)⊕Int):=cond (a<k0.Kids.length) (j_ (idx k0.Kids a) λe=>j_ (h e) λb=>Q (y_ ((Qf (d+b)),(Qf (a+1)))))<|Q (i_ d)
def QfT:O_ Int:=Q a
def QaR (h:Qo->O_ Int)(a:Qo):O_ Int:=j_ (Qx (λst=>Vz a h st.1 st.2) (1,0)) (λq=>QfT q)
def Uk : Nat->Qo->O_ Int
 |0,_=>none|n+1,a=>QaR (Uk n) a
def Qff:O_ Int:=Uk (SizeOf.sizeOf k0) k0
def Qme {O:Qo->O_ Int}{hrec_expr_Size:∀(a:Qo) {r:Int},O a=Q r->QQ prog 251 [.G QM a] [] (Gives (.I r) [])}{a:Qo}:CT 251 [.G QM a] [] (QaR O a) V.I no_:=
 W 19 func251 Z<|nR_ 16 Ge Z<|lA_ 4 [7,8] [] (λst=>([(3,.I st.1),(9,.I st.2)],[])) [] [] (λq=>(.exit 0,([(3,.I q)],[]))) Z (λ⟨g,h⟩=>I 6 Z (xR_ 6 Ed Z λi f=>B λe b=>G [8,.o (.C1 (.I e)),9] Z (hrec_expr_Size _ b)<|R 0 Z)<|X 2 Z) λj=>E 9 Z
def QcG : ∀(fuel:Nat) (a:Qo) {r:Int},Uk fuel a=Q r->QQ prog 251 [.G QM a] [] (Gives (.I r) [])
 |0,_,_,h=>by cases h
 |n+1,a,_,h=>@Qme (Uk n) (λ_ _ h=>QcG n _ h) a _ h
def Qpu (a){r}(h:Qff a=Q r):QQ prog 251 [.G QM a] [] (Gives (.I r) []):=QcG _ a h
def Fg:O_ Int:=cond l0 (Q 1)<|cond (a==5) (Q 2)<|cond (a==6) (Q 3)<|Q (-1)
def Fh:O_ Int:=cond l0 (Q 0)<|cond (a==3) (Fg a (a==3))<|Fg a (a==4)
def Zt:O_ Int:=cond (a==1) (Fh a (a==1))<|Fh a (a==2)
def Qpv {a}:CT 324 [.I a] [] (Zt a) V.I no_:=
 W 14 func324 Z<|mE_ 12 [3] [] (λc:Bool=>([(4,.b c)],[])) (λc=>Fh a c) Z (I 6 Z (P 1 Z Z)<|P 4 Z Z) λc=>I 0 Z (E 8 Z)<|mE_ 0 [3] [] (λd:Bool=>([(7,.b d)],[])) (λd=>Fg a d) Z (I 6 Z (P 1 Z Z)<|P 4 Z Z) λd=>I 0 Z (E 8 Z)<|I 6 Z (E 8 Z)<|I 6 Z (E 8 Z)<|E 9 Z
def SR:O_ Bool:=Q ((1<=a)&&(a<=11))
def Qnx {Yk}:CT 325 [.I Yk] [] (SR Yk) V.b no_:=
 W 9 func325 Z<|T 6 [] [] ([(2,.b ((1<=Yk)&&(Yk<=11)))],[]) Z (H 4 Z (λa=>Y 5 2 Z (YN a Z)) λa=>Y 5 2 Z (Kl a Z))<|E 2 Z
def VA (h:Qo->Int->O_ Bool)(a:Qo)(b:Int):O_ Bool:=j_ (h a b) λc=>Q (!c)
def QkP {O:Qo->Int->O_ Bool}{hrec_expr_parts:∀(g:Qo) (a:Int) {r:Bool},O g a=Q r->QQ prog 252 [.G QM g,.I a] [] (Gives (.b r) [])}{h:Qo}{e:Int}:CT 327 [.G QM h,.L 639] [(639,.W Qa e)] (VA O h e) V.b (λ_=>[(639,.W Qa e)]):=
 W 8 func327 Z<|B λi f=>G [10,.o (.C2 (.b i)),5] Z (hrec_expr_parts _ _ f)<|E 0 Z
def Kv (h:Qo->Int->O_ Bool)(d:Int)(a:Int):O_ (Int⊕(Int⊕Unit)):=cond (a<i3.length) (j_ (idx i3 a) λe=>j_ (VA h e d) λb=>cond b (Q (i_ (y_ a)))<|Q (y_ (Qf (a+1))))<|Q (i_ (i_ ()))
def Wn (h:Qo->Int->O_ Bool)(a:(L_ Qo))(b:Int):O_ Int:=j_ (Qx (λst=>Kv a h b st) 0) (Sum.elim (λq=>Q q) (λq=>Q (-1)))
def Ix {O:Qo->Int->O_ Bool}{hrec_expr_parts:∀(g:Qo) (a:Int) {r:Bool},O g a=Q r->QQ prog 252 [.G QM g,.I a] [] (Gives (.b r) [])}{h:(L_ Qo)}{e:Int}:CT 389 [.sl 3 (QS h),.clo (.func 327) [] [.L 639]] [(639,.W Qa e)] (Wn O h e) V.I (λ_=>[(639,.W Qa e)]):=
 W 19 func389 Z<|nR_ 9 Ge Z<|F 4 [0,1,7] [639] (λst=>([(8,.I st)],[])) [] [639] (λq=>(.ret,([(4,.I q)],[]))) [] [639] (λq=>(.exit 0,([],[]))) Z (λj=>I 6 Z (xR_ 15 Ed Z λk i=>B λf c=>G [1,.cm (.clo) [(639,639)] [(639,639)] [] [.d,.d] [(639,.W Qa e)] (.b f),2] Z (@QkP O hrec_expr_parts _ _ _ c)<|I 0 Z (L 9 Z)<|R 7 Z)<|X 2 Z) (λl=>E 2 Z) (λ_=>E 8 Z)
def Jn (h:Qo->Int->O_ Bool)(a:(L_ Qo))(b:Int):O_ Bool:=j_ (Wn h a b) λc=>Q (decide (0<=c))
def Fi {O:Qo->Int->O_ Bool}{hrec_expr_parts:∀(f:Qo) (a:Int) {r:Bool},O f a=Q r->QQ prog 252 [.G QM f,.I a] [] (Gives (.b r) [])}{g:(L_ Qo)}{c:Int}:CT 326 [.sl 3 (QS g),.clo (.func 327) [] [.L 639]] [(639,.W Qa c)] (Jn O g c) V.b (λ_=>[(639,.W Qa c)]):=
 W 9 func326 Z<|B λh e=>G [9,.cm (.fn) [(639,639)] [(639,639)] [] [.d,.d] [(639,.W Qa c)] (.I h),5] Z (@Ix O hrec_expr_parts _ _ _ e)<|E 0 Z
def Qem:O_ Bool:=cond (k0.Kind==5) (j_ (SR k0.Num) λa=>Q (!a))<|Q f_
def Qen (h:Qo->Int->O_ Bool)(d:Qo)(a:Int)(b:Bool):O_ Bool:=cond b (Q f_)<|j_ (Jn h d.Kids a) λc=>Q (!c)
def VB (h:Qo->Int->O_ Bool)(b:Qo)(a:Int):O_ Bool:=
 j_ (Zt b.Kind) λd=>
 cond ((b.Kids.length:Int)!=d) (Q f_)<|cond ((b.Kind==2)&&((b.Num<0)||(a<=b.Num))) (Q f_)<|j_ (Qem b) (λc=>Qen h b a c)
def GU : Nat->Qo->Int->O_ Bool
 |0,_,_=>none|n+1,b,a=>VB (GU n) b a
def QcH:O_ Bool:=GU (SizeOf.sizeOf k0) k0 j3
def QkQ {O:Qo->Int->O_ Bool}{hrec_expr_parts:∀(f:Qo) (e:Int) {r:Bool},O f e=Q r->QQ prog 252 [.G QM f,.I e] [] (Gives (.b r) [])}{f:Qo}{e:Int}:CT 252 [.G QM f,.I e] [] (VB O f e) V.b no_:=
 W 43 func252 Z<|B λm k=>D 10 Z [.N,.N,.B (.ln f.Kids.length),.N,.N,.B (.C1 (.I m)),.N,.N] [] [] [2,3,5] [2,3] Z Z (a2_ (Ge _) (Qpv _ k)) Z<|I 1 Z (E 8 Z)<|T 1 [2,3] [2,3] ([(13,.b ((f.Kind==2)&&((f.Num<0)||(e<=f.Num))))],[]) Z (H 5 Z (λg=>H 4 Z (λh=>Y 8 13 Z (YN g (Gt h Z))) λh=>Y 8 13 Z (YN g (JQ h Z))) λg=>Y 12 13 Z (Kl g Z))<|I 1 Z (E 8 Z)<|mV_ 1 [2,3] [2,3] (λi=>([(28,.b i)],[])) Z (I 5 Z (A 2 Qnx Z λo=>M 4 Z)<|M 7 Z) λi=>I 1 Z (E 8 Z)<|B λl j=>G [8,.cm (.fn) [(639,3)] [(3,639)] [] [.d,.d] [(639,.W Qa e)] (.b l),5] Z (@Fi O hrec_expr_parts _ _ _ j)<|E 0 Z
def Qbh : ∀(fuel:Nat) (c:Qo) (a:Int) {r:Bool},GU fuel c a=Q r->QQ prog 252 [.G QM c,.I a] [] (Gives (.b r) [])
 |0,_,_,_,h=>by cases h
 |n+1,c,a,_,h=>@QkQ (GU n) (λ_ _ _ h=>Qbh n _ _ h) c a _ h
def Qny (c a){r}(h:QcH c a=Q r):QQ prog 252 [.G QM c,.I a] [] (Gives (.b r) []):=Qbh _ c a h
def Qeo:O_ Bool:=j_ (QcF k0) λd=>cond (d<=40) (j_ (Qff k0) λe=>cond (e<=400) (j_ (QcH k0 j3) λc=>Q c)<|Q f_)<|Q f_
def Fj:O_ Bool:=j_ (Qeo k0 j3) (λc=>Q c)
def SS {i a}:CT 166 [.G QM i,.I a] [] (Fj i a) V.b no_:=
 W 18 func166 Z<|mV_ 7 [] [] (λj=>([(4,.b j)],[])) Z (B λk f=>G [2,.o (.C1 (.I k)),2] Z (Qnw _ f)<|I 0 Z (B λl g=>G [1,.o (.C1 (.I l)),3] Z (Qpu _ g)<|I 0 Z (B λh e=>G [2,.o (.C2 (.b h)),3] Z (Qny _ _ e)<|M 0 Z)<|M 6 Z)<|M 11 Z) λj=>E 2 Z
def Qbi (a:Qm)(b:Int):O_ Bool:=j_ (Fj a.Guard b) λc=>cond c (cond (0<(a.Ins.length:Int)) (Q (decide (0<(a.Outs.length:Int))))<|Q f_)<|Q f_
def Qbj:O_ Bool:=Q l0
def NQ (a:Qm)(b:Int):O_ Bool:=j_ (Qbi a b) (λc=>Qbj c)
def QkR {a c}:CT 165 [.L 639,.L 640] [(639,.W Qb a),(640,.W Qa c)] (NQ a c) V.b (λ_=>[(639,.W Qb a),(640,.W Qa c)]):=
 W 19 func165 Z<|mV_ 6 [] [639,640] (λd=>([(2,.b d)],[])) Z (A 4 SS Z λe=>I 1 Z (N 2 Z<|I 3 Z (N 2 Z<|M 4 Z)<|M 7 Z)<|M 13 Z) λd=>E 2 Z
def HB (a:Xf):O_ Bool:=j_ (YY b.Places a.Place) λc=>Q c
def Qib {a c}:CT 255 [.L 639,.L 640] [(639,.W Qi a),(640,.W QC c)] (HB a c) V.b (λ_=>[(639,.W Qi a),(640,.W QC c)]):=
 W 8 func255 Z<|A 11 Ku Z λd=>E 4 Z
def HC (a:Xf)(b:Int):O_ Bool:=j_ (Fj a.Expr b) λc=>Q c
def Qic {a c}:CT 256 [.L 639,.L 640] [(639,.W QC a),(640,.W Qa c)] (HC a c) V.b (λ_=>[(639,.W QC a),(640,.W Qa c)]):=
 W 7 func256 Z<|A 10 SS Z λd=>E 4 Z
def HD (c:Xf)(d:Int)(e:Int)(f:Int):O_ Int:=j_ (HB b c) λg=>cond (!g) (Q d)<|j_ (HC c e) λa=>cond (!a) (Q f)<|Q 0
def Qid {a b c d e}:CT 73 [.own 639 2] [(639,.var [.clo (.func 255) [] [.L 640,.L 641],.I c,.clo (.func 256) [] [.L 641,.L 642],.I e]),(640,.W Qi a),(641,.W QC b),(642,.W Qa d)] (HD a b c d e) V.I (λ_=>[(639,.var [.clo (.func 255) [] [.L 640,.L 641],.I c,.clo (.func 256) [] [.L 641,.L 642],.I e]),(640,.W Qi a),(641,.W QC b),(642,.W Qa d)]):=
 W 18 func73 Z<|lN_ 14 3 Z<|vI_ 13 639 0 Z<|S 9 .clo [(639,640),(640,641)] Qib Z λg=>I 3 Z (E 13 Z)<|rd_ 7 Z<|vI_ 13 639 2 Z<|gT_ [1,.kill 4,8] Z<|S 0 .clo [(639,641),(640,642)] Qic Z λf=>I 3 Z (E 13 Z)<|rd_ 7 Z<|E 18 Z
def NR (e:Int)(a:Xf)(b:Qg)(c:Int):O_ Int:=j_ (HD b a 3 c 1) λd=>Q d
def QkS {c d a b}:CT 254 [.I c,.G QC d,.L 639,.L 640] [(639,.W Qi a),(640,.W Qa b)] (NR c d a b) V.I (λ_=>[(639,.W Qi a),(640,.W Qa b)]):=
 W 13 func254 Z<|K [12,.o (.any (.own 11 2) (Q (.var [.clo (.func 255) [] [.L 639,.L 5],.I 3,.clo (.func 256) [] [.L 5,.L 640],.I 1])))] Z (λe=>(a1_ (λz f g O=>Stp.buildAny Z Z (QK e.n Z) (QU.es Z) ZP Z (by decide) (by decide) (GS f Z) Z Z (O Z))))<|S 0 .fn [(639,11),(640,639),(641,5),(642,640)] Qid Z λh=>E 4 Z
def Be (e:Qg)(f:Int)(a:Int):O_ (Int⊕((Int×Int)⊕Unit)):=cond (a<k1.length) (j_ (idx k1 a) λc=>j_ (NR a c e f) λb=>cond (b != 0) (Q (i_ (y_ (a,b))))<|Q (y_ (Qf (a+1))))<|Q (i_ (i_ ()))
def Bf:O_ (Int×Int):=Q (a,k)
def Bg : O_ (Int×Int):=Q (0,0)
def UG (b:Qg)(c:Int):O_ (Int×Int):=j_ (Qx (λst=>Be k1 b c st) 0) (Sum.elim (λq=>Bf q.1 q.2) (λq=>Bg))
def QdR {c a b}:CT 253 [.M 4 QC c,.clo (.func 254) [] [.L 639,.L 640]] [(639,.W Qi a),(640,.W Qa b)] (UG c a b) (λr=>(.tup [.I r.1,.I r.2])) (λ_=>[(639,.W Qi a),(640,.W Qa b)]):=
 W 25 func253 Z<|N 10 Z<|F 4 [1,9,10] [639,640] (λst=>([(11,.I st)],[])) [] [639,640] (λq=>(.ret,([(4,.I q.1),(5,.I q.2)],[]))) [] [639,640] (λq=>(.exit 0,([],[]))) Z (λh=>I 6 Z (J 7 Z λd=>S 11 .clo [(639,639),(640,640)] QkS Z λe=>I 9 Z (L 11 Z)<|R 7 Z)<|X 2 Z) (λ⟨f,g⟩=>E 2 Z) (λ_=>E 9 Z)
def ME:O_ Int:=j_ (UG k1 b j1) λd=>Q d.2
def Qep {b c a}:CT 168 [.G Qi b,.M 4 QC c,.I a] [] (ME b c a) V.I no_:=
 W 16 func168 Z<|S 11 .fn [(639,3),(640,5)] QdR Z λd=>E 14 Z
def NS (a:Qm)(c:Int):O_ Int:=j_ (ME b a.Ins c) λd=>Q d
def QkT {a b c}:CT 167 [.L 639,.L 640,.L 641] [(639,.W Qi a),(640,.W Qb b),(641,.W Qa c)] (NS a b c) V.I (λ_=>[(639,.W Qi a),(640,.W Qb b),(641,.W Qa c)]):=
 W 9 func167 Z<|A 11 Qep Z λd=>E 4 Z
def BM (c:Qm)(d:Int)(e:Int):O_ (Bool×Int):=j_ (NS b c d) λa=>Q ((a==0),a)
def QfU {c e f h}:CT 242 [.L 639,.L 643] [(639,.var [.clo (.func 167) [] [.L 640,.L 641,.L 642]]),(640,.W Qi c),(641,.W Qb e),(642,.W Qa f),(643,.var [.L 644]),(644,.W Qa h)] (BM c e f h) (λr=>(.b r.1)) (λr=>[(639,.var [.clo (.func 167) [] [.L 640,.L 641,.L 642]]),(640,.W Qi c),(641,.W Qb e),(642,.W Qa f),(643,.var [.L 644]),(644,.W Qa r.2)]):=
 W 11 func242 Z<|B λi g=>Ko 6 Z [.N,.N,.B (.any (.I i) n_),.N,.m .s] [] [] [1] [639,640,641,642,643,644] Z Z (λj=>(a1_ (λz k l _=>Stp.callSame (md:=.cm (.clo) [(639,640),(640,641),(641,642)] [(640,639),(641,640),(642,641)] [] [.d,.d,.d] [(639,.W Qi c),(640,.W Qb e),(641,.W Qa f)] (.I i) [640,641,642]) QU j k l Z (a2_ (QkT _ g) r3_)))) Z<|E 11 Z
def NT (a:Qm)(c:Int):O_ Int:=j_ (ME b a.Outs c) λd=>Q d
def QkU {a b c}:CT 169 [.L 639,.L 640,.L 641] [(639,.W Qi a),(640,.W Qb b),(641,.W Qa c)] (NT a b c) V.I (λ_=>[(639,.W Qi a),(640,.W Qb b),(641,.W Qa c)]):=
 W 9 func169 Z<|A 11 Qep Z λd=>E 4 Z
def BN (c:Qm)(d:Int)(e:Int):O_ (Bool×Int):=j_ (NT b c d) λa=>Q ((a==0),a)
def QfV {c e f h}:CT 242 [.L 639,.L 643] [(639,.var [.clo (.func 169) [] [.L 640,.L 641,.L 642]]),(640,.W Qi c),(641,.W Qb e),(642,.W Qa f),(643,.var [.L 644]),(644,.W Qa h)] (BN c e f h) (λr=>(.b r.1)) (λr=>[(639,.var [.clo (.func 169) [] [.L 640,.L 641,.L 642]]),(640,.W Qi c),(641,.W Qb e),(642,.W Qa f),(643,.var [.L 644]),(644,.W Qa r.2)]):=
 W 11 func242 Z<|B λi g=>Ko 6 Z [.N,.N,.B (.any (.I i) n_),.N,.m .s] [] [] [1] [639,640,641,642,643,644] Z Z (λj=>(a1_ (λz k l _=>Stp.callSame (md:=.cm (.clo) [(639,640),(640,641),(641,642)] [(640,639),(641,640),(642,641)] [] [.d,.d,.d] [(639,.W Qi c),(640,.W Qb e),(641,.W Qa f)] (.I i) [640,641,642]) QU j k l Z (a2_ (QkU _ g) r3_)))) Z<|E 11 Z
def AN:O_ Bool:=j_ (YY b.Places c) λa=>Q a
def Qfg {a c}:CT 259 [.L 639,.L 640] [(639,.W Qi a),(640,.W Qa c)] (AN a c) V.b (λ_=>[(639,.W Qi a),(640,.W Qa c)]):=
 W 7 func259 Z<|A 10 Ku Z λd=>E 4 Z
def YE:O_ (Int⊕(Int⊕Unit)):=cond (j<d.length) (j_ (idx d j) λa=>cond (c==a) (Q (i_ (y_ j)))<|Q (y_ (Qf (j+1))))<|Q (i_ (i_ ()))
def UH:O_ Int:=Q a
def UI : O_ Int:=Q (-1)
def WY:O_ Int:=j_ (Qx (λst=>YE d c st) 0) (Sum.elim (λq=>UH q) (λq=>UI))
def QbH {a b}:CT 289 [.M 1 Qa a,.I b] [] (WY a b) V.I no_:=
 W 19 func289 Z<|N 9 Z<|F 4 [0,1,7] [] (λst=>([(8,.I st)],[])) [] [] (λq=>(.ret,([(4,.I q)],[]))) [] [] (λq=>(.exit 0,([],[]))) Z (λc=>I 6 Z (J 15 Z λd=>I 4 Z (L 9 Z)<|R 7 Z)<|X 2 Z) (λe=>E 2 Z) (λ_=>E 8 Z)
def Yi:O_ Bool:=j_ (WY d c) λa=>Q (decide (0<=a))
def GV {a c}:CT 182 [.M 1 Qa a,.I c] [] (Yi a c) V.b no_:=
 W 9 func182 Z<|A 9 QbH Z λd=>E 5 Z
def AO:O_ Bool:=j_ (chk (decide (0<=c)&&decide (0<=c.toNat)&&decide (c.toNat<=d.length))) λ_=>j_ (Yi ((d.drop 0).take (c.toNat-0)) j) λa=>Q (!a)
def Qfh {f g h}:CT 260 [.L 639,.L 640,.L 641] [(639,.W XL f),(640,.W Qa g),(641,.W Qa h)] (AO f g h) V.b (λ_=>[(639,.W XL f),(640,.W Qa g),(641,.W Qa h)]):=
 W 10 func260 Z<|kA_ λe=>B λk i=>Ko 6 Z [.N,.N,.B (.any (.sl 1 (((f.drop 0).take (g.toNat-0)).map Qa)) n_),.N,.B (.C2 (.b k)),.N,.m .s] [] [] [3] [639,640,641] Z Z (λl=>(a2_ (λz j o _=>Stp.sliceD Z Z (QK l.n Z) (j _ _ Z) (QU.es Z) Kt.no (Kt.val (j _ _ Z) (QZ (ZK e)) Z) (QZ (ZL e)) (Yx (QZ (Qch e)) (Nat.le_of_eq Ql.symm)) Qed) (GV _ i))) Z<|E 2 Z
def HE:O_ Int:=j_ (AN b c) λh=>cond (!h) (Q j)<|j_ (AO q j1 c) λa=>cond (!a) (Q m3)<|Q 0
def Qie {a b c d e f}:CT 73 [.own 639 2] [(639,.var [.clo (.func 259) [] [.L 640,.L 641],.I c,.clo (.func 260) [] [.L 642,.L 643,.L 641],.I f]),(640,.W Qi a),(641,.W Qa b),(642,.W XL d),(643,.W Qa e)] (HE a b c d e f) V.I (λ_=>[(639,.var [.clo (.func 259) [] [.L 640,.L 641],.I c,.clo (.func 260) [] [.L 642,.L 643,.L 641],.I f]),(640,.W Qi a),(641,.W Qa b),(642,.W XL d),(643,.W Qa e)]):=
 W 18 func73 Z<|lN_ 14 3 Z<|vI_ 13 639 0 Z<|S 9 .clo [(639,640),(640,641)] Qfg Z λh=>I 3 Z (E 13 Z)<|rd_ 7 Z<|vI_ 13 639 2 Z<|gT_ [1,.kill 4,8] Z<|S 0 .clo [(639,642),(640,643),(641,641)] Qfh Z λg=>I 3 Z (E 13 Z)<|rd_ 7 Z<|E 18 Z
def CG:O_ Int:=j_ (HE b k 3 q a 5) λe=>Q e
def Qhp {d a b c}:CT 258 [.I d,.I a,.L 639,.L 640] [(639,.W Qi b),(640,.W XL c)] (CG d a b c) V.I (λ_=>[(639,.W Qi b),(640,.W XL c)]):=
 W 13 func258 Z<|K [13,.o (.any (.own 11 2) (Q (.var [.clo (.func 259) [] [.L 639,.L 5],.I 3,.clo (.func 260) [] [.L 640,.L 4,.L 5],.I 5])))] Z (λe=>(a1_ (λz f g O=>Stp.buildAny Z Z (QK e.n Z) (QU.es Z) ZP Z (by decide) (by decide) (GS f Z) Z Z (O Z))))<|S 0 .fn [(639,11),(640,639),(641,5),(642,640),(643,4)] Qie Z λh=>E 4 Z
def Li:O_ (Int⊕((Int×Int)⊕Unit)):=cond (j1<d.length) (j_ (idx d j1) λc=>j_ (CG j1 c b q) λa=>cond (a != 0) (Q (i_ (y_ (j1,a))))<|Q (y_ (Qf (j1+1))))<|Q (i_ (i_ ()))
def Lj:O_ (Int×Int):=Q (a,k)
def Lk : O_ (Int×Int):=Q (0,0)
def HF:O_ (Int×Int):=j_ (Qx (λst=>Li d b q st) 0) (Sum.elim (λa=>Lj a.1 a.2) (λa=>Lk))
def Qif {c a b}:CT 257 [.M 1 Qa c,.clo (.func 258) [] [.L 639,.L 640]] [(639,.W Qi a),(640,.W XL b)] (HF c a b) (λr=>(.tup [.I r.1,.I r.2])) (λ_=>[(639,.W Qi a),(640,.W XL b)]):=
 W 25 func257 Z<|N 10 Z<|F 4 [1,9,10] [639,640] (λst=>([(11,.I st)],[])) [] [639,640] (λq=>(.ret,([(4,.I q.1),(5,.I q.2)],[]))) [] [639,640] (λq=>(.exit 0,([],[]))) Z (λh=>I 6 Z (J 7 Z λd=>S 10 .clo [(639,639),(640,640)] Qhp Z λe=>I 9 Z (L 11 Z)<|R 7 Z)<|X 2 Z) (λ⟨f,g⟩=>E 2 Z) (λ_=>E 9 Z)
def LF:O_ Int:=j_ (HF q b q) λc=>Q c.2
def Qi7 {a b}:CT 171 [.G Qi a,.M 1 Qa b] [] (LF a b) V.I no_:=
 W 14 func171 Z<|S 11 .fn [(639,2),(640,3)] Qif Z λc=>E 14 Z
def LG (a:Qm):O_ Int:=j_ (LF b a.Cancel) λc=>Q c
def Qi8 {a b}:CT 170 [.L 639,.L 640] [(639,.W Qi a),(640,.W Qb b)] (LG a b) V.I (λ_=>[(639,.W Qi a),(640,.W Qb b)]):=
 W 7 func170 Z<|A 10 Qi7 Z λc=>E 4 Z
def BO (c:Qm)(d:Int):O_ (Bool×Int):=j_ (LG b c) λa=>Q ((a==0),a)
def QfW {c e g}:CT 242 [.L 639,.L 642] [(639,.var [.clo (.func 170) [] [.L 640,.L 641]]),(640,.W Qi c),(641,.W Qb e),(642,.var [.L 643]),(643,.W Qa g)] (BO c e g) (λr=>(.b r.1)) (λr=>[(639,.var [.clo (.func 170) [] [.L 640,.L 641]]),(640,.W Qi c),(641,.W Qb e),(642,.var [.L 643]),(643,.W Qa r.2)]):=
 W 11 func242 Z<|B λh f=>Ko 6 Z [.N,.N,.B (.any (.I h) n_),.N,.m .s] [] [] [1] [639,640,641,642,643] Z Z (λi=>(a1_ (λz j k _=>Stp.callSame (md:=.cm (.clo) [(639,640),(640,641)] [(640,639),(641,640)] [] [.d,.d] [(639,.W Qi c),(640,.W Qb e)] (.I h) [640,641]) QU i j k Z (a2_ (Qi8 _ f) r2_)))) Z<|E 11 Z
def BP:O_ Bool:=
 Q ((1<=a)&&((a<=3)&&((a != 3)||((k1.length:Int)<=4))))
def Qaf {e f}:CT 261 [.I e,.M 4 QC f] [] (BP e f) V.b no_:=
 W 20 func261 Z<|T 6 [] [] ([(4,.b ((1<=e)&&((e<=3)&&((e != 3)||((f.length:Int)<=4)))))],[]) Z (H 4 Z (λa=>H 4 Z (λc=>H 3 Z (λd=>Y 7 4 Z (YN a (YN c (Gt d Z)))) λd=>N 1 Z<|Y 5 4 Z (YN a (YN c (JQ d Z)))) λc=>Y 10 4 Z (YN a (Kl c Z))) λa=>Y 14 4 Z (Kl a Z))<|E 2 Z
def QcI (a:Qm):O_ Bool:=
 j_ (BP a.Join a.Ins) λb=>
 cond b (j_ (BP a.Split a.Outs) λc=>
 cond c (cond (0<=a.After) (cond (a.After<=65536) (Q (((a.Many.1==0)&&((a.Many.2.1==0)&&(a.Many.2.2==0)))||((1<=a.Many.1)&&((a.Many.1<=a.Many.2.1)&&((a.Many.2.1<=16)&&((1<=a.Many.2.2)&&(a.Many.2.2<=a.Many.2.1)))))))<|Q f_)<|Q f_)<|Q f_)<|Q f_
def QcJ:O_ Bool:=Q l0
def Rb (a:Qm):O_ Bool:=j_ (QcI a) (λb=>QcJ b)
def Qmf {a}:CT 173 [.G Qb a] [] (Rb a) V.b no_:=
 W 70 func173 Z<|D 7 Z (dz_ [(11,.N)]) [] [] [1,3,4,5] [1] Z Z U Z<|T 2 [1] [1] ([(6,.b (((a.Many.1==0)&&((a.Many.2.1==0)&&(a.Many.2.2==0)))||((1<=a.Many.1)&&((a.Many.1<=a.Many.2.1)&&((a.Many.2.1<=16)&&((1<=a.Many.2.2)&&(a.Many.2.2<=a.Many.2.1)))))))],[]) Z (K [4,.o (.any (.b ((a.Many.1==0)&&((a.Many.2.1==0)&&(a.Many.2.2==0)))) n_),1] Z (λj=>(a1_ (λz h m _=>Stp.eqAgg Z Z (QK j.n Z) (h _ _ Z) (h _ _ Z) Z Z (Qu2 _ _ _ _ _ _))))<|H 0 Z (λc=>Y 23 6 Z (Gt c Z)) λc=>H 3 Z (λd=>H 5 Z (λe=>H 4 Z (λf=>H 4 Z (λg=>Y 7 6 Z (JQ c (YN d (YN e (YN f (YN g Z)))))) λg=>Y 7 6 Z (JQ c (YN d (YN e (YN f (Kl g Z)))))) λf=>Y 11 6 Z (JQ c (YN d (YN e (Kl f Z))))) λe=>Y 15 6 Z (JQ c (YN d (Kl e Z)))) λd=>Y 20 6 Z (JQ c (Kl d Z)))<|mV_ 7 [] [] (λi=>([(2,.b i)],[])) Z (A 6 Qaf Z λk=>I 1 Z (A 5 Qaf Z λl=>I 2 Z (I 5 Z (I 5 Z (M 4 Z)<|M 4 Z)<|M 9 Z)<|M 14 Z)<|M 22 Z) λi=>E 2 Z
def LH (a:Qm):O_ Bool:=j_ (Rb a) λb=>Q b
def Qi9 {a}:CT 172 [.L 639] [(639,.W Qb a)] (LH a) V.b (λ_=>[(639,.W Qb a)]):=
 W 4 func172 Z<|A 8 Qmf Z λc=>E 4 Z
def GW (b:Qm)(v:Int)(f:Qg)(u:Int)(w:Int)(g:Int)(x:Int)(h:Int)(y:Int)(i:Int)(j:Int)(k:Int)(l:Int)(m:Int)(n:Int):O_ (Int×Int):=j_ (NM b) λo=>cond (!o) (Q (v,h))<|j_ (NO f u b) λp=>cond (!p) (Q (w,h))<|j_ (Fe g b) λq=>cond (!q) (Q (x,h))<|j_ (BL f b h) λa=>cond (!a.1) (Q (y,a.2))<|j_ (Ff f u) λr=>cond (!r) (Q (i,a.2))<|j_ (NQ b g) λs=>cond (!s) (Q (j,a.2))<|j_ (BM f b g a.2) λd=>cond (!d.1) (Q (k,d.2))<|j_ (BN f b g d.2) λe=>cond (!e.1) (Q (l,e.2))<|j_ (BO f b e.2) λc=>cond (!c.1) (Q (m,c.2))<|j_ (LH b) λt=>cond (!t) (Q (n,c.2))<|Q (0,c.2)
def Qig {g h i j k l m p o a b c d e f}:CT 73 [.own 639 10] [(639,.var [.clo (.func 157) [] [.L 640],.I h,.clo (.func 158) [] [.L 641,.L 642,.L 643],.I k,.clo (.func 160) [] [.L 644,.L 640],.I m,.clo (.func 242) [] [.L 645,.L 646],.I o,.clo (.func 164) [] [.L 641,.L 642],.I a,.clo (.func 165) [] [.L 640,.L 644],.I b,.clo (.func 242) [] [.L 648,.L 649],.I c,.clo (.func 242) [] [.L 650,.L 651],.I d,.clo (.func 242) [] [.L 652,.L 653],.I e,.clo (.func 172) [] [.L 640],.I f]),(640,.W Qb g),(641,.W Qi i),(642,.W Qa j),(643,.var [.clo (.func 156) [] [.L 640]]),(644,.W Qa l),(645,.var [.clo (.func 162) [] [.L 641,.L 640]]),(646,.var [.L 647]),(647,.W Qa p),(648,.var [.clo (.func 167) [] [.L 641,.L 640,.L 644]]),(649,.var [.L 647]),(650,.var [.clo (.func 169) [] [.L 641,.L 640,.L 644]]),(651,.var [.L 647]),(652,.var [.clo (.func 170) [] [.L 641,.L 640]]),(653,.var [.L 647])] (GW g h i j k l m p o a b c d e f) (λr=>(.I r.1)) (λr=>[(639,.var [.clo (.func 157) [] [.L 640],.I h,.clo (.func 158) [] [.L 641,.L 642,.L 643],.I k,.clo (.func 160) [] [.L 644,.L 640],.I m,.clo (.func 242) [] [.L 645,.L 646],.I o,.clo (.func 164) [] [.L 641,.L 642],.I a,.clo (.func 165) [] [.L 640,.L 644],.I b,.clo (.func 242) [] [.L 648,.L 649],.I c,.clo (.func 242) [] [.L 650,.L 651],.I d,.clo (.func 242) [] [.L 652,.L 653],.I e,.clo (.func 172) [] [.L 640],.I f]),(640,.W Qb g),(641,.W Qi i),(642,.W Qa j),(643,.var [.clo (.func 156) [] [.L 640]]),(644,.W Qa l),(645,.var [.clo (.func 162) [] [.L 641,.L 640]]),(646,.var [.L 647]),(647,.W Qa r.2),(648,.var [.clo (.func 167) [] [.L 641,.L 640,.L 644]]),(649,.var [.L 647]),(650,.var [.clo (.func 169) [] [.L 641,.L 640,.L 644]]),(651,.var [.L 647]),(652,.var [.clo (.func 170) [] [.L 641,.L 640]]),(653,.var [.L 647])]):=
 W 18 func73 Z<|lN_ 14 11 Z<|vI_ 13 639 0 Z<|S 9 .clo [(639,640)] QkI Z λq=>I 3 Z (E 13 Z)<|rd_ 7 Z<|vI_ 13 639 2 Z<|gT_ [1,.kill 4,8] Z<|S 0 .clo [(639,641),(640,642),(641,643),(642,640)] QkK Z λs=>I 3 Z (E 13 Z)<|rd_ 7 Z<|vI_ 13 639 4 Z<|gT_ [1,.kill 4,8] Z<|S 0 .clo [(639,644),(640,640)] QkL Z λt=>I 3 Z (E 13 Z)<|rd_ 7 Z<|vI_ 13 639 6 Z<|gT_ [1,.kill 4,8] Z<|S 0 .clo [(639,645),(640,641),(641,640),(642,646),(643,647)] Qi6 Z λu=>I 3 Z (E 13 Z)<|rd_ 7 Z<|vI_ 13 639 8 Z<|gT_ [1,.kill 4,8] Z<|S 0 .clo [(639,641),(640,642)] QkN Z λv=>I 3 Z (E 13 Z)<|rd_ 7 Z<|vI_ 13 639 10 Z<|gT_ [1,.kill 4,8] Z<|S 0 .clo [(639,640),(640,644)] QkR Z λw=>I 3 Z (E 13 Z)<|rd_ 7 Z<|vI_ 13 639 12 Z<|gT_ [1,.kill 4,8] Z<|S 0 .clo [(639,648),(640,641),(641,640),(642,644),(643,649),(644,647)] QfU Z λx=>I 3 Z (E 13 Z)<|rd_ 7 Z<|vI_ 13 639 14 Z<|gT_ [1,.kill 4,8] Z<|S 0 .clo [(639,650),(640,641),(641,640),(642,644),(643,651),(644,647)] QfV Z λy=>I 3 Z (E 13 Z)<|rd_ 7 Z<|vI_ 13 639 16 Z<|gT_ [1,.kill 4,8] Z<|S 0 .clo [(639,652),(640,641),(641,640),(642,653),(643,647)] QfW Z λz=>I 3 Z (E 13 Z)<|rd_ 7 Z<|vI_ 13 639 18 Z<|gT_ [1,.kill 4,8] Z<|S 0 .clo [(639,640)] Qi9 Z λC=>I 3 Z (E 13 Z)<|rd_ 7 Z<|E 18 Z
def Kw:O_ Int:=j_ (JJ b.Tasks c) λg=>cond (!g) (Q 3)<|j_ (BK b) λf=>cond (f.2 != 0) (Q f.2)<|j_ (idx b.Tasks c) λd=>j_ (idx b.Tasks c) λa=>j_ (Ra 0 b d) λh=>j_ (Hw 0 b d a.Vars.length) λi=>j_ (Hx 0 b d a.Vars.length) λj=>j_ (Hy 0 b d) λk=>j_ (GW d 1 b c 5 a.Vars.length 2 0 (-1) 2 1 (-1) (-1) (-1) 11) λe=>cond (e.1==(-1)) (Q e.2)<|Q e.1
def QnA {e f}:CT 84 [.G Qi e,.I f] [] (Kw e f) V.I no_:=
 W 68 func84 Z<|A 13 LE Z λr=>I 3 Z (E 7 Z)<|A 6 Qae Z λt=>I 13 Z (E 8 Z)<|B λg d=>B λb c=>D 3 Z [.N,.N,.N,.B (.row (Qb g)),.N,.a .no n_ t_,.a .no n_ t_,.a .no n_ t_,.a (.row (Qb b)) n_ t_,.a .no n_ t_,.a .no n_ t_,.a (.ln b.Vars.length) n_ t_,.N,.N,.m .s,.m .s] [2,3] [2,3] [2,3,7,8] [2,3,7,8] Z Z (a3_ (KJ d) (KJ c) Ql) Z<|zA_ 22 .fn [(639,10),(640,2),(641,7)] [(45,2),(624,3),(10,639),(2,640),(7,641)] [] Qmd Z λh=>zA_ 6 .fn [(639,10),(640,2),(641,7),(642,8)] [(52,2),(625,3),(10,639),(2,640),(7,641),(8,642)] [] Qh7 Z λi=>zA_ 2 .fn [(639,10),(640,2),(641,7),(642,8)] [(55,2),(626,3),(10,639),(2,640),(7,641),(8,642)] [] Qh8 Z λj=>zA_ 2 .fn [(639,10),(640,2),(641,7)] [(58,2),(627,3),(10,639),(2,640),(7,641)] [] Qh9 Z λk=>K [3,.o (.any (.own 62 10) (Q (.var [.clo (.func 157) [] [.L 7],.I 1,.clo (.func 158) [] [.L 2,.L 3,.L 9],.I 5,.clo (.func 160) [] [.L 8,.L 7],.I 2,.clo (.func 242) [] [.L 624,.L 45],.I (-1),.clo (.func 164) [] [.L 2,.L 3],.I 2,.clo (.func 165) [] [.L 7,.L 8],.I 1,.clo (.func 242) [] [.L 625,.L 52],.I (-1),.clo (.func 242) [] [.L 626,.L 55],.I (-1),.clo (.func 242) [] [.L 627,.L 58],.I (-1),.clo (.func 172) [] [.L 7],.I 11])))] Z (λl=>(a1_ (λz p u O=>Stp.buildAny Z Z (QK l.n Z) (QU.es Z) ZP Z (by decide) (by decide) (GS p Z) Z Z (O Z))))<|S 0 .fn [(639,62),(640,7),(641,2),(642,3),(643,9),(644,8),(645,624),(646,45),(647,10),(648,625),(649,52),(650,626),(651,55),(652,627),(653,58)] Qig Z λq=>I 10 Z (E 8 Z)<|E 9 Z
def Iy (d:Qm)(b:Qg):O_ Int:=j_ (Kw b a) λc=>Q c
def Qmg {b c a}:CT 83 [.I b,.G Qb c,.L 639] [(639,.W Qi a)] (Iy b c a) V.I (λ_=>[(639,.W Qi a)]):=
 W 9 func83 Z<|A 10 QnA Z λd=>E 4 Z
def Wo:O_ (Int⊕((Int×Int)⊕Unit)):=cond (c<l.length) (j_ (idx l c) λa=>j_ (Iy c a b) λd=>cond (d != 0) (Q (i_ (y_ (c,d))))<|Q (y_ (Qf (c+1))))<|Q (i_ (i_ ()))
def Ai:O_ (Int×Int):=Q (a,k)
def Aj : O_ (Int×Int):=Q (0,0)
def Wd:O_ (Int×Int):=j_ (Qx (λst=>Wo l b st) 0) (Sum.elim (λq=>Ai q.1 q.2) (λq=>Aj))
def QcK {b a}:CT 82 [.M 14 Qb b,.clo (.func 83) [] [.L 639]] [(639,.W Qi a)] (Wd b a) (λr=>(.tup [.I r.1,.I r.2])) (λ_=>[(639,.W Qi a)]):=
 W 25 func82 Z<|N 10 Z<|F 4 [1,9,10] [639] (λst=>([(11,.I st)],[])) [] [639] (λq=>(.ret,([(4,.I q.1),(5,.I q.2)],[]))) [] [639] (λq=>(.exit 0,([],[]))) Z (λf=>I 6 Z (J 7 Z λc=>S 11 .clo [(639,639)] Qmg Z λd=>I 9 Z (L 11 Z)<|R 7 Z)<|X 2 Z) (λ⟨g,e⟩=>E 2 Z) (λ_=>E 9 Z)
def Eg:O_ (Int×Zs):=j_ (PV b 2 3 1) λe=>cond (e != 0) (Q (e,(Zs.mk 1 0)))<|j_ (BK b) λd=>cond (d.2 != 0) (Q (d.2,(Zs.mk 2 d.1)))<|j_ (Ef b.Places b) λa=>cond (a.2 != 0) (Q (a.2,(Zs.mk 3 a.1)))<|j_ (Wd b.Tasks b) λc=>cond (c.2 != 0) (Q (c.2,(Zs.mk 4 c.1)))<|Q (0,(Zs.mk 0 0))
def QfX {a}:CT 38 [.G Qi a] [] (Eg a) (λr=>(.tup [.G Qu0 r.2,.I r.1])) no_:=
 W 58 func38 Z<|K [15,.o (.any (.own 17 3) (Q (.var [.clo (.func 74) [] [.L 1],.I 2,.clo (.func 75) [] [.L 1],.I 3,.clo (.func 77) [] [.L 1],.I 1])))] Z (λb=>(a1_ (λz c f O=>Stp.buildAny Z Z (QK b.n Z) (QU.es Z) ZP Z (by decide) (by decide) (GS c Z) Z Z (O Z))))<|S 0 .fn [(639,17),(640,1)] Ql8 Z λg=>I 10 Z (E 10 Z)<|A 6 Qae Z λh=>I 13 Z (E 11 Z)<|S 8 .fn [(639,1)] QbG Z λd=>I 13 Z (E 11 Z)<|S 8 .fn [(639,1)] QcK Z λe=>I 13 Z (E 11 Z)<|E 10 Z
def QaS:O_ (Int×Int×Qg):=j_ (QiZ g) λb=>cond (b.2.1 != 0) n_<|j_ (Eg b.2.2) λc=>cond (c.1 != 0) n_<|Q (b.1,0,b.2.2)
def QcL {a}:CT 16 [.s a] [] (QaS a) (λr=>(.tup [.G Qi r.2.2,.I r.1,.I r.2.1])) no_:=
 W 34 func16 Z<|A 10 Qnv Z λb=>I 17 Z (nO_)<|A 6 QfX Z λc=>I 14 Z (nO_)<|E 12 Z
def QnB:O_ (QLL×Bool×Int×Int×Int):=j_ (chk (decide (0<=(min2 (max2 0 a) 1024))&&decide ((min2 (max2 0 a) 1024)<=(min2 (max2 0 a) 1024))&&decide ((min2 (max2 0 a) 1024)<=4294967296))) λ_=>Q ((List.replicate (min2 (max2 0 a) 1024).toNat ((List.replicate 32 (0:Int)):LI_)),f_,0,0,0)
def QqZ {a}:CT 39 [.I a] [] (QnB a) (λ_=>(.L 8)) (λr=>[(6,.R 32 Qt r.1),(8,.var [.P 6 r.1,.Y,.b r.2.1,.I r.2.2.1,.I r.2.2.2.1,.I r.k])]):=
 W 9 func39 Z<|kA_ λc=>g2_ [10,.o (.rows ((List.replicate (min2 (max2 0 a) 1024).toNat ((List.replicate 32 (0:Int)):LI_)).map Qt)),.S 6 (.own 6 (List.replicate (min2 (max2 0 a) 1024).toNat ((List.replicate 32 (0:Int)):LI_)).length),6] Z ⟨c,Qm7 Z⟩ (by simp)<|E 0 Z
def Fk (a:QLL)(b:(L_ Qu))(c:Bool)(d:Int)(e:Int)(f:Int):O_ Int:=Q (a.length:Int)
def MF {a c d e f g}:CT 262 [.L 639] [(639,.var [.P 640 a,.P 641 c,.b d,.I e,.I f,.I g]),(640,.R 32 Qt a),(641,.R 33 Qe c)] (Fk a c d e f g) V.I (λ_=>[(639,.var [.P 640 a,.P 641 c,.b d,.I e,.I f,.I g]),(640,.R 32 Qt a),(641,.R 33 Qe c)]):=
 W 8 func262 Z<|E 16 Z
def SU (d:QLL)(e:(L_ Qu))(f:Bool)(g:Int)(h:Int)(i:Int)(a:Int)(b:Int):O_ (Int×Int):=cond (a<0) n_<|j_ (Fk d e f g h i) λc=>Q (a,(max2 0 (min2 b (Qf (c-a)))))
def SV {d e f g h i c a}:CT 263 [.L 639,.I c,.I a] [(639,.var [.P 640 d,.P 641 e,.b f,.I g,.I h,.I i]),(640,.R 32 Qt d),(641,.R 33 Qe e)] (SU d e f g h i c a) (λ_=>(.L 26)) (λr=>[(26,.var [.L 639,.I r.1,.I r.2]),(639,.var [.P 640 d,.P 641 e,.b f,.I g,.I h,.I i]),(640,.R 32 Qt d),(641,.R 33 Qe e)]):=
 W 27 func263 Z<|K [9,.o (.any (.b f_) n_),6] Z (λk=>(a1_ (λz j m _=>Stp.eqLoc Z Z (QK k.n Z) (j _ _ Z) (j _ _ Z) Qxq)))<|I 0 Z (nO_)<|S 8 .fn [(639,639),(640,640),(641,641)] MF Z λl=>E 10 Z
def OU (b:QLL)(d:(L_ Qu))(c:Bool)(e:Int)(f:Int)(g:Int)(a:Int):O_ Int:=
 cond c n_<|cond ((a<0)||(b.length<=a)) n_<|Q 0
def SW {c d f g h i e}:CT 328 [.L 639,.I e] [(639,.var [.P 640 c,.P 641 d,.b f,.I g,.I h,.I i]),(640,.R 32 Qt c),(641,.R 33 Qe d)] (OU c d f g h i e) V.I (λ_=>[(639,.var [.P 640 c,.P 641 d,.b f,.I g,.I h,.I i]),(640,.R 32 Qt c),(641,.R 33 Qe d)]):=
 W 22 func328 Z<|I 16 Z (nO_)<|T 1 [] [639,640,641] ([(10,.b ((e<0)||((c.length:Int)<=e)))],[]) Z (H 4 Z (λa=>Y 10 10 Z (Gt a Z)) λa=>Y 10 10 Z (JQ a Z))<|I 1 Z (nO_)<|E 9 Z

end Go.Proofs
