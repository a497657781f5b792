/- OrjoinGrows, as it is given: of any net, marking, mode and two budgets it answers true, with no condition but what its row asks of all calls. -/
import Derived.Test.YtphohlpbjofddaaGreatDoorL3P3
import Derived.Test.YtphohlpbjofddaaGreatDoorL3T3
import Derived.Test.YtphohlpbjofddaaGreatDoorL3V3
import Derived.Test.YtphohlpbjofddaaGreatDoorRows
import Derived.Test.YtphohlpbjofddaaGreatDoorTie
import Derived.Test.YtphohlpbjofddaaGreatDoorCards
import Derived.SevenTiedAt
import Derived.WalkKit
import Derived.ProofKit
import Derived.OpenShut
set_option linter.unusedVariables false
set_option linter.unusedSimpArgs false
set_option linter.unusedSectionVars false
set_option linter.deprecated false
noncomputable section
namespace Go.Proofs.YtphohlpbjofddaaGreatDoor
open Go Go.RowKit Go.Vm Go.ChangeShapes Go.WideShapes Go.ChangeAt
theorem rd_9 {H:Type}{enc:TypeId×Value→H}{w:World}(N:Nat):Rd enc Tryz.prog w N 9 QdM (fun x _=>okS x):=(Rd.string (by kernel_rfl)).map id (fun _=>rfl) fun _ _ h=>h.1
theorem rd_3 {H:Type}{enc:TypeId×Value→H}{w:World}(N:Nat):Rd enc Tryz.prog w N 3 Qe (fun x _=>(okI .i64) x):=(Rd.int (by kernel_rfl)).map id (fun _=>rfl) fun _ _ h=>QxM h
theorem Qyr {H:Type}{enc:TypeId×Value→H}{w:World}(N:Nat):Rd enc Tryz.prog w N 89 QxN (fun x _=>(okL okS) x):=(Rd.slice (e:=9) (z:=1) (by kernel_rfl) (by kernel_rfl) (by decide) (fun x=>QjP rfl) (rd_9 N)).map id (fun _=>rfl) fun _ _ h=>QiS h
def QoU (x:QA):Prop:=okS x.Name∧(okI .i64) x.Kind∧(okI .i64) x.Lo∧(okI .i64) x.Hi∧(okL okS) x.Names∧(okI .i64) x.First∧(okI .i64) x.Then
theorem Qys {H:Type}{enc:TypeId×Value→H}{w:World}(N:Nat):Rd enc Tryz.prog w N 91 Qx (fun x _=>QoU x):=by
 have h0:=(Rd.struct (fs:=[(9,0),(3,1),(3,2),(3,3),(89,4),(3,5),(3,6)]) (tot:=7) (N:=N) (t:=91) (P:=Tryz.prog) (w:=w) (enc:=enc) (by kernel_rfl) (RdF.cons 9 0 1 (by kernel_rfl) (rd_9 N) (RdF.cons 3 1 1 (by kernel_rfl) (rd_3 N) (RdF.cons 3 2 1 (by kernel_rfl) (rd_3 N) (RdF.cons 3 3 1 (by kernel_rfl) (rd_3 N) (RdF.cons 89 4 1 (by kernel_rfl) (Qyr N) (RdF.cons 3 5 1 (by kernel_rfl) (rd_3 N) (RdF.cons 3 6 1 (by kernel_rfl) (rd_3 N) RdF.nil))))))))
 exact(h0.map (fun x=>⟨x.1,x.2.1,x.2.2.1,x.2.2.2.1,x.2.2.2.2.1,x.2.2.2.2.2.1,x.2.2.2.2.2.2.1⟩) (fun _=>rfl) (fun x d h=>by obtain⟨_,rfl,h⟩:=h;obtain⟨_,_,rfl,a0,h⟩:=h;obtain⟨_,_,rfl,a1,h⟩:=h;obtain⟨_,_,rfl,a2,h⟩:=h;obtain⟨_,_,rfl,a3,h⟩:=h;obtain⟨_,_,rfl,a4,h⟩:=h;obtain⟨_,_,rfl,a5,h⟩:=h;obtain⟨_,_,rfl,a6,h⟩:=h;exact⟨a0,a1,a2,a3,a4,a5,a6⟩)).mono (Nat.le_succ N)
theorem Qyt {H:Type}{enc:TypeId×Value→H}{w:World}(N:Nat):Rd enc Tryz.prog w N 22 QtR (fun x _=>(okL QoU) x):=(Rd.slice (e:=91) (z:=7) (by kernel_rfl) (by kernel_rfl) (by decide) (fun x=>QjP rfl) (Qys N)).map id (fun _=>rfl) fun _ _ h=>QiS h
def Qog (x:(Int×Int)):Prop:=(okI .i64) x.1∧(okI .i64) x.2
theorem Qyu {H:Type}{enc:TypeId×Value→H}{w:World}(N:Nat):Rd enc Tryz.prog w N 64 Qy (fun x _=>Qog x):=by
 have h0:=(Rd.array (e:=3) (n:=2) (tot:=2) (fs:=[(3,0),(3,1)]) (N:=N) (t:=64) (P:=Tryz.prog) (w:=w) (enc:=enc) (by kernel_rfl) (RdF.cons 3 0 1 (by kernel_rfl) (rd_3 N) (RdF.cons 3 1 1 (by kernel_rfl) (rd_3 N) RdF.nil)))
 exact(h0.map (fun x=>⟨x.1,x.2.1⟩) (fun _=>rfl) (fun x d h=>by obtain⟨_,rfl,h⟩:=h;obtain⟨_,_,rfl,a0,h⟩:=h;obtain⟨_,_,rfl,a1,h⟩:=h;exact⟨a0,a1⟩)).mono (Nat.le_succ N)
theorem Qxg {H:Type}{enc:TypeId×Value→H}{w:World}(N:Nat):Rd enc Tryz.prog w N 59 Qh (fun x _=>(okL Qog) x):=(Rd.slice (e:=64) (z:=2) (by kernel_rfl) (by kernel_rfl) (by decide) (fun x=>QjP rfl) (Qyu N)).map id (fun _=>rfl) fun _ _ h=>QiS h
def Qp7 (x:QB):Prop:=okS x.Name∧(okI .i64) x.Colour∧(okL Qog) x.First
theorem Qyv {H:Type}{enc:TypeId×Value→H}{w:World}(N:Nat):Rd enc Tryz.prog w N 93 Qv (fun x _=>Qp7 x):=by
 have h0:=(Rd.struct (fs:=[(9,0),(3,1),(59,2)]) (tot:=3) (N:=N) (t:=93) (P:=Tryz.prog) (w:=w) (enc:=enc) (by kernel_rfl) (RdF.cons 9 0 1 (by kernel_rfl) (rd_9 N) (RdF.cons 3 1 1 (by kernel_rfl) (rd_3 N) (RdF.cons 59 2 1 (by kernel_rfl) (Qxg N) RdF.nil))))
 exact(h0.map (fun x=>⟨x.1,x.2.1,x.2.2.1⟩) (fun _=>rfl) (fun x d h=>by obtain⟨_,rfl,h⟩:=h;obtain⟨_,_,rfl,a0,h⟩:=h;obtain⟨_,_,rfl,a1,h⟩:=h;obtain⟨_,_,rfl,a2,h⟩:=h;exact⟨a0,a1,a2⟩)).mono (Nat.le_succ N)
theorem Qyw {H:Type}{enc:TypeId×Value→H}{w:World}(N:Nat):Rd enc Tryz.prog w N 23 Qul (fun x _=>(okL Qp7) x):=(Rd.slice (e:=93) (z:=3) (by kernel_rfl) (by kernel_rfl) (by decide) (fun x=>QjP rfl) (Qyv N)).map id (fun _=>rfl) fun _ _ h=>QiS h
def QsM (x:TVar):Prop:=okS x.Name∧(okI .i64) x.Colour
theorem Qx4 {H:Type}{enc:TypeId×Value→H}{w:World}(N:Nat):Rd enc Tryz.prog w N 132 QE (fun x _=>QsM x):=by
 have h0:=(Rd.struct (fs:=[(9,0),(3,1)]) (tot:=2) (N:=N) (t:=132) (P:=Tryz.prog) (w:=w) (enc:=enc) (by kernel_rfl) (RdF.cons 9 0 1 (by kernel_rfl) (rd_9 N) (RdF.cons 3 1 1 (by kernel_rfl) (rd_3 N) RdF.nil)))
 exact(h0.map (fun x=>⟨x.1,x.2.1⟩) (fun _=>rfl) (fun x d h=>by obtain⟨_,rfl,h⟩:=h;obtain⟨_,_,rfl,a0,h⟩:=h;obtain⟨_,_,rfl,a1,h⟩:=h;exact⟨a0,a1⟩)).mono (Nat.le_succ N)
theorem Qyx {H:Type}{enc:TypeId×Value→H}{w:World}(N:Nat):Rd enc Tryz.prog w N 47 QbQ (fun x _=>(okL QsM) x):=(Rd.slice (e:=132) (z:=2) (by kernel_rfl) (by kernel_rfl) (by decide) (fun x=>QjP rfl) (Qx4 N)).map id (fun _=>rfl) fun _ _ h=>QiS h
theorem Qsk (x:Qg):Qm x=[.i .i64 x.Kind,.i .i64 x.Num,.sl 3 (Qa4 x.Kids)]:=by cases x;rw [Qm]
inductive QkA : Qg→Prop where
 | mk (x:Qg):(okI .i64) x.Kind→(okI .i64) x.Num→x.Kids.length≤maxLen→(∀k∈x.Kids,QkA k)→QkA x
theorem Qxh {H:Type}{enc:TypeId×Value→H}{w:World}(N:Nat):Rd enc Tryz.prog w N 50 Qm (fun x _=>QkA x):=by
 induction N with
 | zero=>exact Rd.zero
 | succ N ih=>
  have h0:=(Rd.struct (fs:=[(3,0),(3,1),(48,2)]) (tot:=3) (N:=N) (t:=50) (P:=Tryz.prog) (w:=w) (enc:=enc) (by kernel_rfl) (RdF.cons 3 0 1 (by kernel_rfl) (rd_3 N) (RdF.cons 3 1 1 (by kernel_rfl) (rd_3 N) (RdF.cons 48 2 1 (by kernel_rfl) (Rd.slice (e:=50) (z:=3) (by kernel_rfl) (by kernel_rfl) (by decide) (fun x=>QjP (by cases x;rfl)) ih) RdF.nil))))
  exact h0.map (fun x=>⟨x.1,x.2.1,x.2.2.1⟩) (fun x=>by simp only [Qm];rw [Qjf];rfl) (fun x d h=>by obtain⟨_,rfl,h⟩:=h;obtain⟨_,_,rfl,a0,h⟩:=h;obtain⟨_,_,rfl,a1,h⟩:=h;obtain⟨_,_,rfl,a2,h⟩:=h;exact QkA.mk _ a0 a1 (QiS a2).1 (QiS a2).2)
def Qoh (x:TArc):Prop:=(okI .i64) x.Place∧QkA x.Expr
theorem Qyy {H:Type}{enc:TypeId×Value→H}{w:World}(N:Nat):Rd enc Tryz.prog w N 77 QH (fun x _=>Qoh x):=by
 have h0:=(Rd.struct (fs:=[(3,0),(50,1)]) (tot:=4) (N:=N) (t:=77) (P:=Tryz.prog) (w:=w) (enc:=enc) (by kernel_rfl) (RdF.cons 3 0 1 (by kernel_rfl) (rd_3 N) (RdF.cons 50 1 3 (by kernel_rfl) (Qxh N) RdF.nil)))
 exact(h0.map (fun x=>⟨x.1,x.2.1⟩) (fun x=>by rw [Qsk];rfl) (fun x d h=>by obtain⟨_,rfl,h⟩:=h;obtain⟨_,_,rfl,a0,h⟩:=h;obtain⟨_,_,rfl,a1,h⟩:=h;exact⟨a0,a1⟩)).mono (Nat.le_succ N)
theorem Qxi {H:Type}{enc:TypeId×Value→H}{w:World}(N:Nat):Rd enc Tryz.prog w N 51 QvS (fun x _=>(okL Qoh) x):=(Rd.slice (e:=77) (z:=4) (by kernel_rfl) (by kernel_rfl) (by decide) (fun x=>QjP rfl) (Qyy N)).map id (fun _=>rfl) fun _ _ h=>QiS h
theorem Qtr {H:Type}{enc:TypeId×Value→H}{w:World}(N:Nat):Rd enc Tryz.prog w N 29 Qz (fun x _=>(okL (okI .i64)) x):=(Rd.slice (e:=3) (z:=1) (by kernel_rfl) (by kernel_rfl) (by decide) (fun x=>QjP rfl) (rd_3 N)).map id (fun _=>rfl) fun _ _ h=>QiS h
def Qwv (x:(Int×Int×Int)):Prop:=(okI .i64) x.1∧(okI .i64) x.2.1∧(okI .i64) x.2.2
theorem Qyz {H:Type}{enc:TypeId×Value→H}{w:World}(N:Nat):Rd enc Tryz.prog w N 52 Qsr (fun x _=>Qwv x):=by
 have h0:=(Rd.array (e:=3) (n:=3) (tot:=3) (fs:=[(3,0),(3,1),(3,2)]) (N:=N) (t:=52) (P:=Tryz.prog) (w:=w) (enc:=enc) (by kernel_rfl) (RdF.cons 3 0 1 (by kernel_rfl) (rd_3 N) (RdF.cons 3 1 1 (by kernel_rfl) (rd_3 N) (RdF.cons 3 2 1 (by kernel_rfl) (rd_3 N) RdF.nil))))
 exact(h0.map (fun x=>⟨x.1,x.2.1,x.2.2.1⟩) (fun _=>rfl) (fun x d h=>by obtain⟨_,rfl,h⟩:=h;obtain⟨_,_,rfl,a0,h⟩:=h;obtain⟨_,_,rfl,a1,h⟩:=h;obtain⟨_,_,rfl,a2,h⟩:=h;exact⟨a0,a1,a2⟩)).mono (Nat.le_succ N)
def Qrx (x:Qr):Prop:=okS x.Name∧(okL QsM) x.Vars∧QkA x.Guard∧(okI .i64) x.Join∧(okI .i64) x.Split∧(okL Qoh) x.Ins∧(okL Qoh) x.Outs∧(okL (okI .i64)) x.Cancel∧(okI .i64) x.After∧Qwv x.Many
theorem QyA {H:Type}{enc:TypeId×Value→H}{w:World}(N:Nat):Rd enc Tryz.prog w N 54 Qi (fun x _=>Qrx x):=by
 have h0:=(Rd.struct (fs:=[(9,0),(47,1),(50,2),(3,5),(3,6),(51,7),(51,8),(29,9),(3,10),(52,11)]) (tot:=14) (N:=N) (t:=54) (P:=Tryz.prog) (w:=w) (enc:=enc) (by kernel_rfl) (RdF.cons 9 0 1 (by kernel_rfl) (rd_9 N) (RdF.cons 47 1 1 (by kernel_rfl) (Qyx N) (RdF.cons 50 2 3 (by kernel_rfl) (Qxh N) (RdF.cons 3 5 1 (by kernel_rfl) (rd_3 N) (RdF.cons 3 6 1 (by kernel_rfl) (rd_3 N) (RdF.cons 51 7 1 (by kernel_rfl) (Qxi N) (RdF.cons 51 8 1 (by kernel_rfl) (Qxi N) (RdF.cons 29 9 1 (by kernel_rfl) (Qtr N) (RdF.cons 3 10 1 (by kernel_rfl) (rd_3 N) (RdF.cons 52 11 3 (by kernel_rfl) (Qyz N) RdF.nil)))))))))))
 exact(h0.map (fun x=>⟨x.1,x.2.1,x.2.2.1,x.2.2.2.1,x.2.2.2.2.1,x.2.2.2.2.2.1,x.2.2.2.2.2.2.1,x.2.2.2.2.2.2.2.1,x.2.2.2.2.2.2.2.2.1,x.2.2.2.2.2.2.2.2.2.1⟩) (fun x=>by rw [Qsk];rfl) (fun x d h=>by obtain⟨_,rfl,h⟩:=h;obtain⟨_,_,rfl,a0,h⟩:=h;obtain⟨_,_,rfl,a1,h⟩:=h;obtain⟨_,_,rfl,a2,h⟩:=h;obtain⟨_,_,rfl,a3,h⟩:=h;obtain⟨_,_,rfl,a4,h⟩:=h;obtain⟨_,_,rfl,a5,h⟩:=h;obtain⟨_,_,rfl,a6,h⟩:=h;obtain⟨_,_,rfl,a7,h⟩:=h;obtain⟨_,_,rfl,a8,h⟩:=h;obtain⟨_,_,rfl,a9,h⟩:=h;exact⟨a0,a1,a2,a3,a4,a5,a6,a7,a8,a9⟩)).mono (Nat.le_succ N)
theorem QyB {H:Type}{enc:TypeId×Value→H}{w:World}(N:Nat):Rd enc Tryz.prog w N 24 Qu7 (fun x _=>(okL Qrx) x):=(Rd.slice (e:=54) (z:=14) (by kernel_rfl) (by kernel_rfl) (by decide) (fun x=>QjP rfl) (QyA N)).map id (fun _=>rfl) fun _ _ h=>QiS h
def Qqi (x:TNet):Prop:=(okL QoU) x.Colours∧(okL Qp7) x.Places∧(okL Qrx) x.Tasks∧(okI .i64) x.From∧(okI .i64) x.To
theorem QyC {H:Type}{enc:TypeId×Value→H}{w:World}(N:Nat):Rd enc Tryz.prog w N 26 Qd (fun x _=>Qqi x):=by
 have h0:=(Rd.struct (fs:=[(22,0),(23,1),(24,2),(3,3),(3,4)]) (tot:=5) (N:=N) (t:=26) (P:=Tryz.prog) (w:=w) (enc:=enc) (by kernel_rfl) (RdF.cons 22 0 1 (by kernel_rfl) (Qyt N) (RdF.cons 23 1 1 (by kernel_rfl) (Qyw N) (RdF.cons 24 2 1 (by kernel_rfl) (QyB N) (RdF.cons 3 3 1 (by kernel_rfl) (rd_3 N) (RdF.cons 3 4 1 (by kernel_rfl) (rd_3 N) RdF.nil))))))
 exact(h0.map (fun x=>⟨x.1,x.2.1,x.2.2.1,x.2.2.2.1,x.2.2.2.2.1⟩) (fun _=>rfl) (fun x d h=>by obtain⟨_,rfl,h⟩:=h;obtain⟨_,_,rfl,a0,h⟩:=h;obtain⟨_,_,rfl,a1,h⟩:=h;obtain⟨_,_,rfl,a2,h⟩:=h;obtain⟨_,_,rfl,a3,h⟩:=h;obtain⟨_,_,rfl,a4,h⟩:=h;exact⟨a0,a1,a2,a3,a4⟩)).mono (Nat.le_succ N)
theorem QyD {H:Type}{enc:TypeId×Value→H}{w:World}(N:Nat):Rd enc Tryz.prog w N 28 Qs (fun x _=>(okL (okL Qog)) x):=(Rd.slice (e:=59) (z:=1) (by kernel_rfl) (by kernel_rfl) (by decide) (fun x=>QjP rfl) (Qxg N)).map id (fun _=>rfl) fun _ _ h=>QiS h
def Qry (x:Qk):Prop:=(okI .i64) x.Task∧(okL (okI .i64)) x.Vars∧(okL (okI .i64)) x.Ins∧(okL (okI .i64)) x.Outs
theorem QyE {H:Type}{enc:TypeId×Value→H}{w:World}(N:Nat):Rd enc Tryz.prog w N 31 Qj (fun x _=>Qry x):=by
 have h0:=(Rd.struct (fs:=[(3,0),(29,1),(29,2),(29,3)]) (tot:=4) (N:=N) (t:=31) (P:=Tryz.prog) (w:=w) (enc:=enc) (by kernel_rfl) (RdF.cons 3 0 1 (by kernel_rfl) (rd_3 N) (RdF.cons 29 1 1 (by kernel_rfl) (Qtr N) (RdF.cons 29 2 1 (by kernel_rfl) (Qtr N) (RdF.cons 29 3 1 (by kernel_rfl) (Qtr N) RdF.nil)))))
 exact(h0.map (fun x=>⟨x.1,x.2.1,x.2.2.1,x.2.2.2.1⟩) (fun _=>rfl) (fun x d h=>by obtain⟨_,rfl,h⟩:=h;obtain⟨_,_,rfl,a0,h⟩:=h;obtain⟨_,_,rfl,a1,h⟩:=h;obtain⟨_,_,rfl,a2,h⟩:=h;obtain⟨_,_,rfl,a3,h⟩:=h;exact⟨a0,a1,a2,a3⟩)).mono (Nat.le_succ N)
namespace LawOrjoinGrows
theorem own : ownKnob Tryz.prog.godebug=none:=by kernel_rfl
theorem QxE : laidOutB Tryz.prog=true:=by kernel_rfl
theorem Qxa : ∀t∈Tryz.f6.params.toList,Tryz.prog.readableRec t=true∧t<Tryz.prog.types.size:=by
 have h:(Tryz.f6.params.toList.all fun t=>Tryz.prog.readableRec t&&decide (t<Tryz.prog.types.size))=true:=by kernel_rfl
 intro t ht
 have:=List.all_eq_true.1 h t ht
 rw [Bool.and_eq_true,decide_eq_true_eq]at this
 exact this
theorem Qxb (os:Os)(args:Array Value):laidMetH Tryz.prog Rows.orjoinGrowsRow.laid ((World.doorLaid Tryz.prog 33 os).forCall (fun _ _=>0) ⟨#[],args,[]⟩).memory:=
 laidMetH_of_parts3 (fuel:=8) (laidMet_of_run' 8 (by kernel_rfl) (by kernel_rfl)) (by kernel_rfl) (by kernel_rfl)
theorem Qxc {W:World}(h:laidMetH Tryz.prog Rows.orjoinGrowsRow.laid W):Glob Tryz.prog (fun k=>k<W.heap.size) W:=
 QtQ (r:=[]) (g:=0) (t:=255) (e:=5) 1 (by kernel_rfl) (by kernel_rfl) (by kernel_rfl) (by kernel_rfl) (by kernel_rfl) (by kernel_rfl) (by kernel_rfl) (by kernel_rfl) h
set_option maxRecDepth 100000 in
theorem Qx5 (hF:∀(a0:TNet) (a1:(List (List (Int×Int)))) (a2:Qk) (a3:Int) (a4:Int),Qqi a0→(okL (okL Qog)) a1→Qry a2→(okI .i64) a3→(okI .i64) a4→QcC a0 a1 a2 a3 a4=some true)(os:Os)(started:os.Started)(H:Type)(enc:TypeId×Value→H):
  ReturnsInHanded {} Tryz.checked os 6 .any (fun w args=>(Rows.orjoinGrowsSpec.pre enc Tryz.prog Tryz.f6 Rows.orjoinGrowsRow.domain false w args∧laidMetH Tryz.prog Rows.orjoinGrowsRow.laid w)∧sizedMet enc Tryz.prog Tryz.f6 (OpenSpec.ofChange Rows.orjoinGrowsSpec) false w args) (Rows.orjoinGrowsSpec.post enc Tryz.prog Tryz.f6 false true false false):=by
 refine returnsInHanded_of_change_and (C:=Tryz.checked) (X:=fun w _=>laidMetH Tryz.prog Rows.orjoinGrowsRow.laid w) (fun _ _ _ hh h=>h.of_heap hh) own started (by kernel_rfl) Tryz.func6
  (ChangeSpec.witness_shaped (enc:=enc) (C:=Tryz.checked) (os:=os) (X:=fun w _=>laidMetH Tryz.prog Rows.orjoinGrowsRow.laid w) false (World.doorLaid Tryz.prog 33 os) #[.agg #[.slice none 0 0,.slice none 0 0,.slice none 0 0,.int .i64 0,.int .i64 0],.slice none 0 0,.agg #[.int .i64 0,.slice none 0 0,.slice none 0 0,.slice none 0 0],.int .i64 0,.int .i64 0] 8 rfl (World.shaped_of_RefB (by kernel_rfl) (by kernel_rfl)) (by kernel_rfl) (by kernel_rfl) (by kernel_rfl) (Qxb os _)) ?_
 intro W base args ds gs before hval0 hW hcnd hz hL _
 have hval:∀(j:Nat) t v,Tryz.f6.params[j]? = some t→args[j]? = some v→Value.okWide Tryz.prog W .any base t v:=hval0
 have hW1:=hW
 obtain⟨p,q,hA0,hV,_,_,_⟩:=hW
 obtain⟨rfl,_⟩:=trodVars_none hV
 have hA:DataW.TrodAll enc Tryz.prog W 0 (fun _=>true) true Tryz.f6.params.toList args.toList ds p:=hA0
 rw [Tryz.params6]at hA hval
 obtain⟨v0,vs0,d0,ds0,p0,q0,hargs,rfl,_,h0,r0⟩:=trodAll_cons hA
 obtain⟨v1,vs1,d1,ds1,p1,q1,rfl,rfl,_,h1,r1⟩:=trodAll_cons r0
 obtain⟨v2,vs2,d2,ds2,p2,q2,rfl,rfl,_,h2,r2⟩:=trodAll_cons r1
 obtain⟨v3,vs3,d3,ds3,p3,q3,rfl,rfl,_,h3,r3⟩:=trodAll_cons r2
 obtain⟨v4,vs4,d4,ds4,p4,q4,rfl,rfl,_,h4,r4⟩:=trodAll_cons r3
 obtain⟨rfl,rfl,_⟩:=trodAll_nil r4
 obtain rfl:args=#[v0,v1,v2,v3,v4]:=by cases args;simp_all
 obtain⟨a0,w0,c0⟩:=Rd.open (fun N=>QyC N) h0
 obtain⟨_,rfl⟩:=QtP (P:=Tryz.prog) (t:=26) (fs:=[(22,0),(23,1),(24,2),(3,3),(3,4)]) (tot:=5) (by kernel_rfl) (hval 0 26 v0 rfl rfl)
 have e0:=c0.argS
 obtain⟨a1,w1,c1⟩:=Rd.open (fun N=>QyD N) h1
 obtain⟨_,_,_,rfl⟩:=okWide_slice Tryz.underlying28 (hval 1 28 v1 rfl rfl)
 have e1:=(Cl.arg1 rfl c1)
 obtain⟨a2,w2,c2⟩:=Rd.open (fun N=>QyE N) h2
 obtain⟨_,rfl⟩:=QtP (P:=Tryz.prog) (t:=31) (fs:=[(3,0),(29,1),(29,2),(29,3)]) (tot:=4) (by kernel_rfl) (hval 2 31 v2 rfl rfl)
 have e2:=c2.argS
 obtain⟨a3,w3,c3⟩:=Rd.open (fun N=>rd_3 N) h3
 obtain⟨_,rfl⟩:=okWide_int Tryz.underlying3 (hval 3 3 v3 rfl rfl)
 have e3:=(Cl.arg1 rfl c3)
 obtain⟨a4,w4,c4⟩:=Rd.open (fun N=>rd_3 N) h4
 obtain⟨_,rfl⟩:=okWide_int Tryz.underlying3 (hval 4 3 v4 rfl rfl)
 have e4:=(Cl.arg1 rfl c4)
 refine(Qc.law (us:=[.agg (Qd a0),.sl 1 (a1.map Qh),.agg (Qj a2),.i .i64 a3,.i .i64 a4]) (QnR a0 a1 a2 a3 a4 (hF a0 a1 a2 a3 a4 w0 w1 w2 w3 w4)) (Qxc hL) rfl (fun j x v hx hv=>?_)).mono fun e W2 ⟨he,hb⟩=>?_
 ·match j with
  | 0=>cases hx;cases hv;exact e0
  | 1=>cases hx;cases hv;exact e1
  | 2=>cases hx;cases hv;exact e2
  | 3=>cases hx;cases hv;exact e3
  | 4=>cases hx;cases hv;exact e4
  | j+5=>simp at hx
 ·subst he
  exact⟨_,rfl,QwI QxE Qxa hW1 rfl hb rfl Tryz.underlying4 rfl rfl rfl⟩
theorem proved_of (hF:∀(a0:TNet) (a1:(List (List (Int×Int)))) (a2:Qk) (a3:Int) (a4:Int),Qqi a0→(okL (okL Qog)) a1→Qry a2→(okI .i64) a3→(okI .i64) a4→QcC a0 a1 a2 a3 a4=some true):Rows.OrjoinGrowsSaid:=
 OpenClaim.holds_of_wide 6 Tryz.f6 rfl rfl rfl rfl rfl rfl rfl ⟨rfl,rfl,rfl,rfl,rfl⟩ rfl rfl rfl rfl rfl (by kernel_rfl) Tryz.func6 (by kernel_rfl)
  (of_decide_eq_true (by kernel_rfl)) (by unfold Func.isWrapper;first | (rw [if_pos (by decide +kernel)];kernel_rfl) | (rw [if_neg (by decide +kernel)];exact⟨rfl,rfl⟩))
  (fun os started H enc _=>Qx5 hF os started H enc)
theorem card_of (hs:Rows.OrjoinGrowsSaid):Rows.OrjoinGrowsCardSaid:=
 Claim7.holds_tied_plain_at .later [] [.listed,.data] true (true, "002f84d5fda64e3b6dbf635b81a7be9608d324dc66bc549211f3d85f0ef82a3d") false
  hs (fun _ h=>by cases h) (by kernel_rfl) (fun _ h=>by cases h) orjoinGrows_row_tie rfl ⟨rfl,rfl⟩ (by kernel_rfl) rfl
  (fun f fn hf hfn=>by
   obtain rfl:f=6:=Option.some.inj ((show Tryz.prog.funcNamed "baldric/baldriclaw12.OrjoinGrows" = some 6 by kernel_rfl).symm.trans hf) |>.symm
   obtain rfl:fn=Tryz.f6:=(Option.some.inj (Tryz.func6.symm.trans hfn)).symm
   exact⟨by kernel_rfl,fun j t ht=>by
    rw [Tryz.params6]at ht
    have hm:t∈[26,28,31,3,3]:=by simpa using Array.mem_of_getElem? ht
    have hall:([26,28,31,3,3].all fun u=>!Tryz.prog.wantsStandIn u)=true:=by kernel_rfl
    exact(show Tryz.prog.wantsStandIn t=false by simpa using List.all_eq_true.1 hall t hm)⟩)
  (by kernel_rfl)
end LawOrjoinGrows
theorem kE {e:Qg}(h:QkA e):Qdd e:=by
 induction h with
 | mk x _ _ h1 _ ih=>exact .mk x h1 ih
theorem kL {α:Type}{p q:α→Prop}(f:∀x,p x→q x){l:List α}(h:okL p l):lenL q l:=⟨h.1,fun x hx=>f x (h.2 x hx)⟩
theorem kA {a:TArc}(h:Qoh a):Qi8 a:=⟨trivial,kE h.2⟩
theorem kNet {n:TNet}(h:Qqi n):QK n:=
 ⟨kL (fun c hc=>⟨hc.1,trivial,trivial,trivial,kL (fun s hs=>hs) hc.2.2.2.2.1,trivial,trivial⟩) h.1,kL (fun p hp=>⟨hp.1,trivial,kL (fun _ _=>trivial) hp.2.2⟩) h.2.1,
  kL (fun t ht=>⟨ht.1,kL (fun v hv=>⟨hv.1,trivial⟩) ht.2.1,kE ht.2.2.1,trivial,trivial,kL (fun _ h=>kA h) ht.2.2.2.2.2.1,kL (fun _ h=>kA h) ht.2.2.2.2.2.2.1,kL (fun _ _=>trivial) ht.2.2.2.2.2.2.2.1,trivial,trivial⟩) h.2.2.1,trivial,trivial⟩
theorem proved : Rows.OrjoinGrowsCardSaid:=LawOrjoinGrows.card_of (LawOrjoinGrows.proved_of fun a0 a1 a2 a3 a4 h0 h1 _ _ _=>Qvw a0 a1 a2 a3 a4 (kNet h0) (kL (fun b hb=>kL (fun _ _=>trivial) hb) h1))

end Go.Proofs.YtphohlpbjofddaaGreatDoor
