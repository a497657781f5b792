/- BindMore, as it is given: of any net and two markings it answers true, with no condition but what its row asks of all calls. -/
import Derived.Test.YtmhljalpjhdpeaaGreatDoorBiH
import Derived.Test.YtmhljalpjhdpeaaGreatDoorT3
import Derived.Test.YtmhljalpjhdpeaaGreatDoorXVm4
import Derived.Test.YtmhljalpjhdpeaaGreatDoorRows
import Derived.Test.YtmhljalpjhdpeaaGreatDoorTie
import Derived.Test.YtmhljalpjhdpeaaGreatDoorCards
import Derived.SevenTiedAt
import Derived.WalkKit
import Derived.ProofKit
import Derived.OpenShut
set_option linter.unusedVariables false
set_option linter.unusedSimpArgs false
set_option linter.unusedSectionVars false
set_option linter.deprecated false
noncomputable section
namespace Go.Proofs.YtmhljalpjhdpeaaGreatDoor
open Go Go.RowKit Go.Vm Go.ChangeShapes Go.WideShapes Go.ChangeAt
theorem rd_9 {H:Type}{enc:TypeId×Value→H}{w:World}(N:Nat):Rd enc Tryz.prog w N 9 Qc9 (fun x _=>okS x):=(Rd.string (by kernel_rfl)).map id (fun _=>rfl) fun _ _ h=>h.1
theorem rd_3 {H:Type}{enc:TypeId×Value→H}{w:World}(N:Nat):Rd enc Tryz.prog w N 3 Qe (fun x _=>(okI .i64) x):=(Rd.int (by kernel_rfl)).map id (fun _=>rfl) fun _ _ h=>Qt4 h
theorem QuG {H:Type}{enc:TypeId×Value→H}{w:World}(N:Nat):Rd enc Tryz.prog w N 94 Qt5 (fun x _=>(okL okS) x):=(Rd.slice (e:=9) (z:=1) (by kernel_rfl) (by kernel_rfl) (by decide) (fun x=>Qh7 rfl) (rd_9 N)).map id (fun _=>rfl) fun _ _ h=>Qho h
def Qmv (x:Qy):Prop:=okS x.Name∧(okI .i64) x.Kind∧(okI .i64) x.Lo∧(okI .i64) x.Hi∧(okL okS) x.Names∧(okI .i64) x.First∧(okI .i64) x.Then
theorem QuH {H:Type}{enc:TypeId×Value→H}{w:World}(N:Nat):Rd enc Tryz.prog w N 96 Qu (fun x _=>Qmv x):=by
 have h0:=(Rd.struct (fs:=[(9,0),(3,1),(3,2),(3,3),(94,4),(3,5),(3,6)]) (tot:=7) (N:=N) (t:=96) (P:=Tryz.prog) (w:=w) (enc:=enc) (by kernel_rfl) (RdF.cons 9 0 1 (by kernel_rfl) (rd_9 N) (RdF.cons 3 1 1 (by kernel_rfl) (rd_3 N) (RdF.cons 3 2 1 (by kernel_rfl) (rd_3 N) (RdF.cons 3 3 1 (by kernel_rfl) (rd_3 N) (RdF.cons 94 4 1 (by kernel_rfl) (QuG N) (RdF.cons 3 5 1 (by kernel_rfl) (rd_3 N) (RdF.cons 3 6 1 (by kernel_rfl) (rd_3 N) RdF.nil))))))))
 exact(h0.map (fun x=>⟨x.1,x.2.1,x.2.2.1,x.2.2.2.1,x.2.2.2.2.1,x.2.2.2.2.2.1,x.2.2.2.2.2.2.1⟩) (fun _=>rfl) (fun x d h=>by obtain⟨_,rfl,h⟩:=h;obtain⟨_,_,rfl,a0,h⟩:=h;obtain⟨_,_,rfl,a1,h⟩:=h;obtain⟨_,_,rfl,a2,h⟩:=h;obtain⟨_,_,rfl,a3,h⟩:=h;obtain⟨_,_,rfl,a4,h⟩:=h;obtain⟨_,_,rfl,a5,h⟩:=h;obtain⟨_,_,rfl,a6,h⟩:=h;exact⟨a0,a1,a2,a3,a4,a5,a6⟩)).mono (Nat.le_succ N)
theorem QuI {H:Type}{enc:TypeId×Value→H}{w:World}(N:Nat):Rd enc Tryz.prog w N 22 Qq1 (fun x _=>(okL Qmv) x):=(Rd.slice (e:=96) (z:=7) (by kernel_rfl) (by kernel_rfl) (by decide) (fun x=>Qh7 rfl) (QuH N)).map id (fun _=>rfl) fun _ _ h=>Qho h
def QjY (x:(Int×Int)):Prop:=(okI .i64) x.1∧(okI .i64) x.2
theorem QuJ {H:Type}{enc:TypeId×Value→H}{w:World}(N:Nat):Rd enc Tryz.prog w N 58 QD (fun x _=>QjY x):=by
 have h0:=(Rd.array (e:=3) (n:=2) (tot:=2) (fs:=[(3,0),(3,1)]) (N:=N) (t:=58) (P:=Tryz.prog) (w:=w) (enc:=enc) (by kernel_rfl) (RdF.cons 3 0 1 (by kernel_rfl) (rd_3 N) (RdF.cons 3 1 1 (by kernel_rfl) (rd_3 N) RdF.nil)))
 exact(h0.map (fun x=>⟨x.1,x.2.1⟩) (fun _=>rfl) (fun x d h=>by obtain⟨_,rfl,h⟩:=h;obtain⟨_,_,rfl,a0,h⟩:=h;obtain⟨_,_,rfl,a1,h⟩:=h;exact⟨a0,a1⟩)).mono (Nat.le_succ N)
theorem QtC {H:Type}{enc:TypeId×Value→H}{w:World}(N:Nat):Rd enc Tryz.prog w N 40 Qv (fun x _=>(okL QjY) x):=(Rd.slice (e:=58) (z:=2) (by kernel_rfl) (by kernel_rfl) (by decide) (fun x=>Qh7 rfl) (QuJ N)).map id (fun _=>rfl) fun _ _ h=>Qho h
def QnN (x:QB):Prop:=okS x.Name∧(okI .i64) x.Colour∧(okL QjY) x.First
theorem QuK {H:Type}{enc:TypeId×Value→H}{w:World}(N:Nat):Rd enc Tryz.prog w N 98 Qt (fun x _=>QnN x):=by
 have h0:=(Rd.struct (fs:=[(9,0),(3,1),(40,2)]) (tot:=3) (N:=N) (t:=98) (P:=Tryz.prog) (w:=w) (enc:=enc) (by kernel_rfl) (RdF.cons 9 0 1 (by kernel_rfl) (rd_9 N) (RdF.cons 3 1 1 (by kernel_rfl) (rd_3 N) (RdF.cons 40 2 1 (by kernel_rfl) (QtC N) RdF.nil))))
 exact(h0.map (fun x=>⟨x.1,x.2.1,x.2.2.1⟩) (fun _=>rfl) (fun x d h=>by obtain⟨_,rfl,h⟩:=h;obtain⟨_,_,rfl,a0,h⟩:=h;obtain⟨_,_,rfl,a1,h⟩:=h;obtain⟨_,_,rfl,a2,h⟩:=h;exact⟨a0,a1,a2⟩)).mono (Nat.le_succ N)
theorem QuL {H:Type}{enc:TypeId×Value→H}{w:World}(N:Nat):Rd enc Tryz.prog w N 23 Qrj (fun x _=>(okL QnN) x):=(Rd.slice (e:=98) (z:=3) (by kernel_rfl) (by kernel_rfl) (by decide) (fun x=>Qh7 rfl) (QuK N)).map id (fun _=>rfl) fun _ _ h=>Qho h
def Qp6 (x:TVar):Prop:=okS x.Name∧(okI .i64) x.Colour
theorem QuM {H:Type}{enc:TypeId×Value→H}{w:World}(N:Nat):Rd enc Tryz.prog w N 86 QA (fun x _=>Qp6 x):=by
 have h0:=(Rd.struct (fs:=[(9,0),(3,1)]) (tot:=2) (N:=N) (t:=86) (P:=Tryz.prog) (w:=w) (enc:=enc) (by kernel_rfl) (RdF.cons 9 0 1 (by kernel_rfl) (rd_9 N) (RdF.cons 3 1 1 (by kernel_rfl) (rd_3 N) RdF.nil)))
 exact(h0.map (fun x=>⟨x.1,x.2.1⟩) (fun _=>rfl) (fun x d h=>by obtain⟨_,rfl,h⟩:=h;obtain⟨_,_,rfl,a0,h⟩:=h;obtain⟨_,_,rfl,a1,h⟩:=h;exact⟨a0,a1⟩)).mono (Nat.le_succ N)
theorem QuN {H:Type}{enc:TypeId×Value→H}{w:World}(N:Nat):Rd enc Tryz.prog w N 45 Qbu (fun x _=>(okL Qp6) x):=(Rd.slice (e:=86) (z:=2) (by kernel_rfl) (by kernel_rfl) (by decide) (fun x=>Qh7 rfl) (QuM N)).map id (fun _=>rfl) fun _ _ h=>Qho h
theorem QpL (x:Qf):Qj x=[.i .i64 x.Kind,.i .i64 x.Num,.sl 3 (QaG x.Kids)]:=by cases x;rw [Qj]
inductive QiF : Qf→Prop where
 | mk (x:Qf):(okI .i64) x.Kind→(okI .i64) x.Num→x.Kids.length≤maxLen→(∀k∈x.Kids,QiF k)→QiF x
theorem QtD {H:Type}{enc:TypeId×Value→H}{w:World}(N:Nat):Rd enc Tryz.prog w N 48 Qj (fun x _=>QiF x):=by
 induction N with
 | zero=>exact Rd.zero
 | succ N ih=>
  have h0:=(Rd.struct (fs:=[(3,0),(3,1),(46,2)]) (tot:=3) (N:=N) (t:=48) (P:=Tryz.prog) (w:=w) (enc:=enc) (by kernel_rfl) (RdF.cons 3 0 1 (by kernel_rfl) (rd_3 N) (RdF.cons 3 1 1 (by kernel_rfl) (rd_3 N) (RdF.cons 46 2 1 (by kernel_rfl) (Rd.slice (e:=48) (z:=3) (by kernel_rfl) (by kernel_rfl) (by decide) (fun x=>Qh7 (by cases x;rfl)) ih) RdF.nil))))
  exact h0.map (fun x=>⟨x.1,x.2.1,x.2.2.1⟩) (fun x=>by simp only [Qj];rw [QhH];rfl) (fun x d h=>by obtain⟨_,rfl,h⟩:=h;obtain⟨_,_,rfl,a0,h⟩:=h;obtain⟨_,_,rfl,a1,h⟩:=h;obtain⟨_,_,rfl,a2,h⟩:=h;exact QiF.mk _ a0 a1 (Qho a2).1 (Qho a2).2)
def QlW (x:TArc):Prop:=(okI .i64) x.Place∧QiF x.Expr
theorem Quh {H:Type}{enc:TypeId×Value→H}{w:World}(N:Nat):Rd enc Tryz.prog w N 100 QP (fun x _=>QlW x):=by
 have h0:=(Rd.struct (fs:=[(3,0),(48,1)]) (tot:=4) (N:=N) (t:=100) (P:=Tryz.prog) (w:=w) (enc:=enc) (by kernel_rfl) (RdF.cons 3 0 1 (by kernel_rfl) (rd_3 N) (RdF.cons 48 1 3 (by kernel_rfl) (QtD N) RdF.nil)))
 exact(h0.map (fun x=>⟨x.1,x.2.1⟩) (fun x=>by rw [QpL];rfl) (fun x d h=>by obtain⟨_,rfl,h⟩:=h;obtain⟨_,_,rfl,a0,h⟩:=h;obtain⟨_,_,rfl,a1,h⟩:=h;exact⟨a0,a1⟩)).mono (Nat.le_succ N)
theorem QtE {H:Type}{enc:TypeId×Value→H}{w:World}(N:Nat):Rd enc Tryz.prog w N 49 QsC (fun x _=>(okL QlW) x):=(Rd.slice (e:=100) (z:=4) (by kernel_rfl) (by kernel_rfl) (by decide) (fun x=>Qh7 rfl) (Quh N)).map id (fun _=>rfl) fun _ _ h=>Qho h
theorem QuO {H:Type}{enc:TypeId×Value→H}{w:World}(N:Nat):Rd enc Tryz.prog w N 35 Qx (fun x _=>(okL (okI .i64)) x):=(Rd.slice (e:=3) (z:=1) (by kernel_rfl) (by kernel_rfl) (by decide) (fun x=>Qh7 rfl) (rd_3 N)).map id (fun _=>rfl) fun _ _ h=>Qho h
def QsY (x:(Int×Int×Int)):Prop:=(okI .i64) x.1∧(okI .i64) x.2.1∧(okI .i64) x.2.2
theorem QuP {H:Type}{enc:TypeId×Value→H}{w:World}(N:Nat):Rd enc Tryz.prog w N 50 QpS (fun x _=>QsY x):=by
 have h0:=(Rd.array (e:=3) (n:=3) (tot:=3) (fs:=[(3,0),(3,1),(3,2)]) (N:=N) (t:=50) (P:=Tryz.prog) (w:=w) (enc:=enc) (by kernel_rfl) (RdF.cons 3 0 1 (by kernel_rfl) (rd_3 N) (RdF.cons 3 1 1 (by kernel_rfl) (rd_3 N) (RdF.cons 3 2 1 (by kernel_rfl) (rd_3 N) RdF.nil))))
 exact(h0.map (fun x=>⟨x.1,x.2.1,x.2.2.1⟩) (fun _=>rfl) (fun x d h=>by obtain⟨_,rfl,h⟩:=h;obtain⟨_,_,rfl,a0,h⟩:=h;obtain⟨_,_,rfl,a1,h⟩:=h;obtain⟨_,_,rfl,a2,h⟩:=h;exact⟨a0,a1,a2⟩)).mono (Nat.le_succ N)
def Qo5 (x:Qs):Prop:=okS x.Name∧(okL Qp6) x.Vars∧QiF x.Guard∧(okI .i64) x.Join∧(okI .i64) x.Split∧(okL QlW) x.Ins∧(okL QlW) x.Outs∧(okL (okI .i64)) x.Cancel∧(okI .i64) x.After∧QsY x.Many
theorem QuQ {H:Type}{enc:TypeId×Value→H}{w:World}(N:Nat):Rd enc Tryz.prog w N 52 Qg (fun x _=>Qo5 x):=by
 have h0:=(Rd.struct (fs:=[(9,0),(45,1),(48,2),(3,5),(3,6),(49,7),(49,8),(35,9),(3,10),(50,11)]) (tot:=14) (N:=N) (t:=52) (P:=Tryz.prog) (w:=w) (enc:=enc) (by kernel_rfl) (RdF.cons 9 0 1 (by kernel_rfl) (rd_9 N) (RdF.cons 45 1 1 (by kernel_rfl) (QuN N) (RdF.cons 48 2 3 (by kernel_rfl) (QtD N) (RdF.cons 3 5 1 (by kernel_rfl) (rd_3 N) (RdF.cons 3 6 1 (by kernel_rfl) (rd_3 N) (RdF.cons 49 7 1 (by kernel_rfl) (QtE N) (RdF.cons 49 8 1 (by kernel_rfl) (QtE N) (RdF.cons 35 9 1 (by kernel_rfl) (QuO N) (RdF.cons 3 10 1 (by kernel_rfl) (rd_3 N) (RdF.cons 50 11 3 (by kernel_rfl) (QuP N) RdF.nil)))))))))))
 exact(h0.map (fun x=>⟨x.1,x.2.1,x.2.2.1,x.2.2.2.1,x.2.2.2.2.1,x.2.2.2.2.2.1,x.2.2.2.2.2.2.1,x.2.2.2.2.2.2.2.1,x.2.2.2.2.2.2.2.2.1,x.2.2.2.2.2.2.2.2.2.1⟩) (fun x=>by rw [QpL];rfl) (fun x d h=>by obtain⟨_,rfl,h⟩:=h;obtain⟨_,_,rfl,a0,h⟩:=h;obtain⟨_,_,rfl,a1,h⟩:=h;obtain⟨_,_,rfl,a2,h⟩:=h;obtain⟨_,_,rfl,a3,h⟩:=h;obtain⟨_,_,rfl,a4,h⟩:=h;obtain⟨_,_,rfl,a5,h⟩:=h;obtain⟨_,_,rfl,a6,h⟩:=h;obtain⟨_,_,rfl,a7,h⟩:=h;obtain⟨_,_,rfl,a8,h⟩:=h;obtain⟨_,_,rfl,a9,h⟩:=h;exact⟨a0,a1,a2,a3,a4,a5,a6,a7,a8,a9⟩)).mono (Nat.le_succ N)
theorem QuR {H:Type}{enc:TypeId×Value→H}{w:World}(N:Nat):Rd enc Tryz.prog w N 24 QrZ (fun x _=>(okL Qo5) x):=(Rd.slice (e:=52) (z:=14) (by kernel_rfl) (by kernel_rfl) (by decide) (fun x=>Qh7 rfl) (QuQ N)).map id (fun _=>rfl) fun _ _ h=>Qho h
def QnW (x:TNet):Prop:=(okL Qmv) x.Colours∧(okL QnN) x.Places∧(okL Qo5) x.Tasks∧(okI .i64) x.From∧(okI .i64) x.To
theorem QuS {H:Type}{enc:TypeId×Value→H}{w:World}(N:Nat):Rd enc Tryz.prog w N 26 Qd (fun x _=>QnW x):=by
 have h0:=(Rd.struct (fs:=[(22,0),(23,1),(24,2),(3,3),(3,4)]) (tot:=5) (N:=N) (t:=26) (P:=Tryz.prog) (w:=w) (enc:=enc) (by kernel_rfl) (RdF.cons 22 0 1 (by kernel_rfl) (QuI N) (RdF.cons 23 1 1 (by kernel_rfl) (QuL N) (RdF.cons 24 2 1 (by kernel_rfl) (QuR N) (RdF.cons 3 3 1 (by kernel_rfl) (rd_3 N) (RdF.cons 3 4 1 (by kernel_rfl) (rd_3 N) RdF.nil))))))
 exact(h0.map (fun x=>⟨x.1,x.2.1,x.2.2.1,x.2.2.2.1,x.2.2.2.2.1⟩) (fun _=>rfl) (fun x d h=>by obtain⟨_,rfl,h⟩:=h;obtain⟨_,_,rfl,a0,h⟩:=h;obtain⟨_,_,rfl,a1,h⟩:=h;obtain⟨_,_,rfl,a2,h⟩:=h;obtain⟨_,_,rfl,a3,h⟩:=h;obtain⟨_,_,rfl,a4,h⟩:=h;exact⟨a0,a1,a2,a3,a4⟩)).mono (Nat.le_succ N)
theorem QtF {H:Type}{enc:TypeId×Value→H}{w:World}(N:Nat):Rd enc Tryz.prog w N 28 QU (fun x _=>(okL (okL QjY)) x):=(Rd.slice (e:=40) (z:=1) (by kernel_rfl) (by kernel_rfl) (by decide) (fun x=>Qh7 rfl) (QtC N)).map id (fun _=>rfl) fun _ _ h=>Qho h
namespace LawBindMore
theorem own : ownKnob Tryz.prog.godebug=none:=by kernel_rfl
theorem QtV : laidOutB Tryz.prog=true:=by kernel_rfl
theorem Qtw : ∀t∈Tryz.f4.params.toList,Tryz.prog.readableRec t=true∧t<Tryz.prog.types.size:=by
 have h:(Tryz.f4.params.toList.all fun t=>Tryz.prog.readableRec t&&decide (t<Tryz.prog.types.size))=true:=by kernel_rfl
 intro t ht
 have:=List.all_eq_true.1 h t ht
 rw [Bool.and_eq_true,decide_eq_true_eq]at this
 exact this
theorem Qtx (os:Os)(args:Array Value):laidMetH Tryz.prog Rows.bindMoreRow.laid ((World.doorLaid Tryz.prog 33 os).forCall (fun _ _=>0) ⟨#[],args,[]⟩).memory:=
 laidMetH_of_parts3 (fuel:=8) (laidMet_of_run' 8 (by kernel_rfl) (by kernel_rfl)) (by kernel_rfl) (by kernel_rfl)
theorem Qty {W:World}(h:laidMetH Tryz.prog Rows.bindMoreRow.laid W):Glob Tryz.prog (fun k=>k<W.heap.size) W:=
 Qq0 (r:=[]) (g:=0) (t:=228) (e:=5) 1 (by kernel_rfl) (by kernel_rfl) (by kernel_rfl) (by kernel_rfl) (by kernel_rfl) (by kernel_rfl) (by kernel_rfl) (by kernel_rfl) h
set_option maxRecDepth 100000 in
theorem Qui (hF:∀(a0:TNet) (a1:(List (List (Int×Int)))) (a2:(List (List (Int×Int)))),QnW a0→(okL (okL QjY)) a1→(okL (okL QjY)) a2→Qc8 a0 a1 a2=some true)(os:Os)(started:os.Started)(H:Type)(enc:TypeId×Value→H):
  ReturnsInHanded {} Tryz.checked os 4 .any (fun w args=>(Rows.bindMoreSpec.pre enc Tryz.prog Tryz.f4 Rows.bindMoreRow.domain false w args∧laidMetH Tryz.prog Rows.bindMoreRow.laid w)∧sizedMet enc Tryz.prog Tryz.f4 (OpenSpec.ofChange Rows.bindMoreSpec) false w args) (Rows.bindMoreSpec.post enc Tryz.prog Tryz.f4 false true false false):=by
 refine returnsInHanded_of_change_and (C:=Tryz.checked) (X:=fun w _=>laidMetH Tryz.prog Rows.bindMoreRow.laid w) (fun _ _ _ hh h=>h.of_heap hh) own started (by kernel_rfl) Tryz.func4
  (ChangeSpec.witness_shaped (enc:=enc) (C:=Tryz.checked) (os:=os) (X:=fun w _=>laidMetH Tryz.prog Rows.bindMoreRow.laid w) false (World.doorLaid Tryz.prog 33 os) #[.agg #[.slice none 0 0,.slice none 0 0,.slice none 0 0,.int .i64 0,.int .i64 0],.slice none 0 0,.slice none 0 0] 8 rfl (World.shaped_of_RefB (by kernel_rfl) (by kernel_rfl)) (by kernel_rfl) (by kernel_rfl) (by kernel_rfl) (Qtx os _)) ?_
 intro W base args ds gs before hval0 hW hcnd _ hL _
 have hval:∀(j:Nat) t v,Tryz.f4.params[j]? = some t→args[j]? = some v→Value.okWide Tryz.prog W .any base t v:=hval0
 have hW1:=hW
 obtain⟨p,q,hA0,hV,_,_,_⟩:=hW
 obtain⟨rfl,_⟩:=trodVars_none hV
 have hA:DataW.TrodAll enc Tryz.prog W 0 (fun _=>true) true Tryz.f4.params.toList args.toList ds p:=hA0
 rw [Tryz.params4]at hA hval
 obtain⟨v0,vs0,d0,ds0,p0,q0,hargs,rfl,_,h0,r0⟩:=trodAll_cons hA
 obtain⟨v1,vs1,d1,ds1,p1,q1,rfl,rfl,_,h1,r1⟩:=trodAll_cons r0
 obtain⟨v2,vs2,d2,ds2,p2,q2,rfl,rfl,_,h2,r2⟩:=trodAll_cons r1
 obtain⟨rfl,rfl,_⟩:=trodAll_nil r2
 obtain rfl:args=#[v0,v1,v2]:=by cases args;simp_all
 obtain⟨a0,w0,c0⟩:=Rd.open (fun N=>QuS N) h0
 obtain⟨_,rfl⟩:=Qtb (P:=Tryz.prog) (t:=26) (fs:=[(22,0),(23,1),(24,2),(3,3),(3,4)]) (tot:=5) (by kernel_rfl) (hval 0 26 v0 rfl rfl)
 have e0:=c0.argS
 obtain⟨a1,w1,c1⟩:=Rd.open (fun N=>QtF N) h1
 obtain⟨_,_,_,rfl⟩:=okWide_slice Tryz.underlying28 (hval 1 28 v1 rfl rfl)
 have e1:=(Cl.arg1 rfl c1)
 obtain⟨a2,w2,c2⟩:=Rd.open (fun N=>QtF N) h2
 obtain⟨_,_,_,rfl⟩:=okWide_slice Tryz.underlying28 (hval 2 28 v2 rfl rfl)
 have e2:=(Cl.arg1 rfl c2)
 refine(Qc.law (us:=[.agg (Qd a0),.sl 1 (a1.map Qv),.sl 1 (a2.map Qv)]) (QmQ a0 a1 a2 (hF a0 a1 a2 w0 w1 w2)) (Qty hL) rfl (fun j x v hx hv=>?_)).mono fun e W2 ⟨he,hb⟩=>?_
 ·match j with
  | 0=>cases hx;cases hv;exact e0
  | 1=>cases hx;cases hv;exact e1
  | 2=>cases hx;cases hv;exact e2
  | j+3=>simp at hx
 ·subst he
  exact⟨_,rfl,Qtc QtV Qtw hW1 rfl hb rfl Tryz.underlying4 rfl rfl rfl⟩
theorem proved_of (hF:∀(a0:TNet) (a1:(List (List (Int×Int)))) (a2:(List (List (Int×Int)))),QnW a0→(okL (okL QjY)) a1→(okL (okL QjY)) a2→Qc8 a0 a1 a2=some true):Rows.BindMoreSaid:=
 OpenClaim.holds_of_wide 4 Tryz.f4 rfl rfl rfl rfl rfl rfl rfl ⟨rfl,rfl,rfl,rfl,rfl⟩ rfl rfl rfl rfl rfl (by kernel_rfl) Tryz.func4 (by kernel_rfl)
  (of_decide_eq_true (by kernel_rfl)) (by unfold Func.isWrapper;first | (rw [if_pos (by decide +kernel)];kernel_rfl) | (rw [if_neg (by decide +kernel)];exact⟨rfl,rfl⟩))
  (fun os started H enc _=>Qui hF os started H enc)
theorem card_of (hs:Rows.BindMoreSaid):Rows.BindMoreCardSaid:=
 Claim7.holds_tied_plain_at .later [] [.listed,.data] true (true, "19fd64c5862f784c0b5fae8ee2b99057551572d2f7e6e106d9aefd47fc20a008") false
  hs (fun _ h=>by cases h) (by kernel_rfl) (fun _ h=>by cases h) bindMore_row_tie rfl ⟨rfl,rfl⟩ (by kernel_rfl) rfl
  (fun f fn hf hfn=>by
   obtain rfl:f=4:=Option.some.inj ((show Tryz.prog.funcNamed "baldric/baldriclaw10.BindMore" = some 4 by kernel_rfl).symm.trans hf) |>.symm
   obtain rfl:fn=Tryz.f4:=(Option.some.inj (Tryz.func4.symm.trans hfn)).symm
   exact⟨by kernel_rfl,fun j t ht=>by
    rw [Tryz.params4]at ht
    have hm:t∈[26,28,28]:=by simpa using Array.mem_of_getElem? ht
    have hall:([26,28,28].all fun u=>!Tryz.prog.wantsStandIn u)=true:=by kernel_rfl
    exact(show Tryz.prog.wantsStandIn t=false by simpa using List.all_eq_true.1 hall t hm)⟩)
  (by kernel_rfl)
end LawBindMore
theorem kE {e:Qf}(h:QiF e):Qcp e:=by
 induction h with
 | mk x _ _ h1 _ ih=>exact .mk x h1 ih
theorem kL {α:Type}{p q:α→Prop}(f:∀x,p x→q x){l:List α}(h:okL p l):lenL q l:=⟨h.1,fun x hx=>f x (h.2 x hx)⟩
theorem kA {a:TArc}(h:QlW a):QhB a:=⟨trivial,kE h.2⟩
theorem kNet {n:TNet}(h:QnW n):QJ n:=
 ⟨kL (fun c hc=>⟨hc.1,trivial,trivial,trivial,kL (fun s hs=>hs) hc.2.2.2.2.1,trivial,trivial⟩) h.1,kL (fun p hp=>⟨hp.1,trivial,kL (fun _ _=>trivial) hp.2.2⟩) h.2.1,
  kL (fun t ht=>⟨ht.1,kL (fun v hv=>⟨hv.1,trivial⟩) ht.2.1,kE ht.2.2.1,trivial,trivial,kL (fun _ h=>kA h) ht.2.2.2.2.2.1,kL (fun _ h=>kA h) ht.2.2.2.2.2.2.1,kL (fun _ _=>trivial) ht.2.2.2.2.2.2.2.1,trivial,trivial⟩) h.2.2.1,trivial,trivial⟩
theorem proved : Rows.BindMoreCardSaid:=LawBindMore.card_of (LawBindMore.proved_of fun a0 a1 a2 h0 h1 h2=>Qsg a0 a1 a2 (kNet h0) (kL (fun b hb=>kL (fun _ _=>trivial) hb) h1) (kL (fun b hb=>kL (fun _ _=>trivial) hb) h2))

end Go.Proofs.YtmhljalpjhdpeaaGreatDoor
