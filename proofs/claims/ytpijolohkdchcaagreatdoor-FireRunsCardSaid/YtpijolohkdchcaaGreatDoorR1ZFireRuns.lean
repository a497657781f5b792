/- FireRuns, as it is given: of any net, marking, modes and picks it answers true, with no condition but what its row asks of all calls. -/
import Derived.Test.YtpijolohkdchcaaGreatDoorR1P3
import Derived.Test.YtpijolohkdchcaaGreatDoorR1T3
import Derived.Test.YtpijolohkdchcaaGreatDoorR1V3
import Derived.Test.YtpijolohkdchcaaGreatDoorRows
import Derived.Test.YtpijolohkdchcaaGreatDoorTie
import Derived.Test.YtpijolohkdchcaaGreatDoorCards
import Derived.SevenTiedAt
import Derived.WalkKit
import Derived.ProofKit
import Derived.OpenShut
set_option linter.unusedVariables false
set_option linter.unusedSimpArgs false
set_option linter.unusedSectionVars false
set_option linter.deprecated false
noncomputable section
namespace Go.Proofs.YtpijolohkdchcaaGreatDoor
open Go Go.RowKit Go.Vm Go.ChangeShapes Go.WideShapes Go.ChangeAt
theorem QA8 {H:Type}{enc:TypeId×Value->H}{w:World}(N:Nat):Rd enc Tryz.prog w N 9 QcC (fun x _=>okS x):=(Rd.string (by kernel_rfl)).map id (fun _=>rfl) fun _ _ h=>h.1
theorem QgE {H:Type}{enc:TypeId×Value->H}{w:World}(N:Nat):Rd enc Tryz.prog w N 3 Qe (fun x _=>(okI .i64) x):=(Rd.int (by kernel_rfl)).map id (fun _=>rfl) fun _ _ h=>QE6 h
theorem QFN {H:Type}{enc:TypeId×Value->H}{w:World}(N:Nat):Rd enc Tryz.prog w N 92 QE7 (fun x _=>(okL okS) x):=(Rd.slice (e:=9) (z:=1) (by kernel_rfl) (by kernel_rfl) (by decide) (fun x=>Qkr rfl) (QA8 N)).map id (fun _=>rfl) fun _ _ h=>QiZ h
def Qub (x:QF):Prop:=okS x.Name/\(okI .i64) x.Kind/\(okI .i64) x.Lo/\(okI .i64) x.Hi/\(okL okS) x.Names/\(okI .i64) x.First/\(okI .i64) x.Then
theorem QFO {H:Type}{enc:TypeId×Value->H}{w:World}(N:Nat):Rd enc Tryz.prog w N 94 Qs (fun x _=>Qub x):=by
 have h0:=(Rd.struct (fs:=[(9,0),(3,1),(3,2),(3,3),(92,4),(3,5),(3,6)]) (tot:=7) (N:=N) (t:=94) (P:=Tryz.prog) (w:=w) (enc:=enc) (by kernel_rfl) (RdF.cons 9 0 1 (by kernel_rfl) (QA8 N) (RdF.cons 3 1 1 (by kernel_rfl) (QgE N) (RdF.cons 3 2 1 (by kernel_rfl) (QgE N) (RdF.cons 3 3 1 (by kernel_rfl) (QgE N) (RdF.cons 92 4 1 (by kernel_rfl) (QFN N) (RdF.cons 3 5 1 (by kernel_rfl) (QgE N) (RdF.cons 3 6 1 (by kernel_rfl) (QgE N) RdF.nil))))))))
 exact(h0.map (fun x=>⟨x.1,x.2.1,x.2.2.1,x.2.2.2.1,x.2.2.2.2.1,x.2.2.2.2.2.1,x.2.2.2.2.2.2.1⟩) (fun _=>rfl) (fun x d h=>by obtain⟨_,rfl,h⟩:=h;obtain⟨_,_,rfl,a0,h⟩:=h;obtain⟨_,_,rfl,a1,h⟩:=h;obtain⟨_,_,rfl,a2,h⟩:=h;obtain⟨_,_,rfl,a3,h⟩:=h;obtain⟨_,_,rfl,a4,h⟩:=h;obtain⟨_,_,rfl,a5,h⟩:=h;obtain⟨_,_,rfl,a6,h⟩:=h;exact⟨a0,a1,a2,a3,a4,a5,a6⟩)).mono (Nat.le_succ N)
theorem QFP {H:Type}{enc:TypeId×Value->H}{w:World}(N:Nat):Rd enc Tryz.prog w N 22 QAJ (fun x _=>(okL Qub) x):=(Rd.slice (e:=94) (z:=7) (by kernel_rfl) (by kernel_rfl) (by decide) (fun x=>Qkr rfl) (QFO N)).map id (fun _=>rfl) fun _ _ h=>QiZ h
def Qte (x:(Int×Int)):Prop:=(okI .i64) x.1/\(okI .i64) x.2
theorem QFQ {H:Type}{enc:TypeId×Value->H}{w:World}(N:Nat):Rd enc Tryz.prog w N 40 Qo (fun x _=>Qte x):=by
 have h0:=(Rd.array (e:=3) (n:=2) (tot:=2) (fs:=[(3,0),(3,1)]) (N:=N) (t:=40) (P:=Tryz.prog) (w:=w) (enc:=enc) (by kernel_rfl) (RdF.cons 3 0 1 (by kernel_rfl) (QgE N) (RdF.cons 3 1 1 (by kernel_rfl) (QgE N) RdF.nil)))
 exact(h0.map (fun x=>⟨x.1,x.2.1⟩) (fun _=>rfl) (fun x d h=>by obtain⟨_,rfl,h⟩:=h;obtain⟨_,_,rfl,a0,h⟩:=h;obtain⟨_,_,rfl,a1,h⟩:=h;exact⟨a0,a1⟩)).mono (Nat.le_succ N)
theorem QEu {H:Type}{enc:TypeId×Value->H}{w:World}(N:Nat):Rd enc Tryz.prog w N 35 Qg (fun x _=>(okL Qte) x):=(Rd.slice (e:=40) (z:=2) (by kernel_rfl) (by kernel_rfl) (by decide) (fun x=>Qkr rfl) (QFQ N)).map id (fun _=>rfl) fun _ _ h=>QiZ h
def QvY (x:QZ):Prop:=okS x.Name/\(okI .i64) x.Colour/\(okL Qte) x.First
theorem QFR {H:Type}{enc:TypeId×Value->H}{w:World}(N:Nat):Rd enc Tryz.prog w N 89 QC (fun x _=>QvY x):=by
 have h0:=(Rd.struct (fs:=[(9,0),(3,1),(35,2)]) (tot:=3) (N:=N) (t:=89) (P:=Tryz.prog) (w:=w) (enc:=enc) (by kernel_rfl) (RdF.cons 9 0 1 (by kernel_rfl) (QA8 N) (RdF.cons 3 1 1 (by kernel_rfl) (QgE N) (RdF.cons 35 2 1 (by kernel_rfl) (QEu N) RdF.nil))))
 exact(h0.map (fun x=>⟨x.1,x.2.1,x.2.2.1⟩) (fun _=>rfl) (fun x d h=>by obtain⟨_,rfl,h⟩:=h;obtain⟨_,_,rfl,a0,h⟩:=h;obtain⟨_,_,rfl,a1,h⟩:=h;obtain⟨_,_,rfl,a2,h⟩:=h;exact⟨a0,a1,a2⟩)).mono (Nat.le_succ N)
theorem QFS {H:Type}{enc:TypeId×Value->H}{w:World}(N:Nat):Rd enc Tryz.prog w N 23 QBm (fun x _=>(okL QvY) x):=(Rd.slice (e:=89) (z:=3) (by kernel_rfl) (by kernel_rfl) (by decide) (fun x=>Qkr rfl) (QFR N)).map id (fun _=>rfl) fun _ _ h=>QiZ h
def Qzy (x:Qau):Prop:=okS x.Name/\(okI .i64) x.Colour
theorem QFT {H:Type}{enc:TypeId×Value->H}{w:World}(N:Nat):Rd enc Tryz.prog w N 96 QP (fun x _=>Qzy x):=by
 have h0:=(Rd.struct (fs:=[(9,0),(3,1)]) (tot:=2) (N:=N) (t:=96) (P:=Tryz.prog) (w:=w) (enc:=enc) (by kernel_rfl) (RdF.cons 9 0 1 (by kernel_rfl) (QA8 N) (RdF.cons 3 1 1 (by kernel_rfl) (QgE N) RdF.nil)))
 exact(h0.map (fun x=>⟨x.1,x.2.1⟩) (fun _=>rfl) (fun x d h=>by obtain⟨_,rfl,h⟩:=h;obtain⟨_,_,rfl,a0,h⟩:=h;obtain⟨_,_,rfl,a1,h⟩:=h;exact⟨a0,a1⟩)).mono (Nat.le_succ N)
theorem QFU {H:Type}{enc:TypeId×Value->H}{w:World}(N:Nat):Rd enc Tryz.prog w N 48 Qct (fun x _=>(okL Qzy) x):=(Rd.slice (e:=96) (z:=2) (by kernel_rfl) (by kernel_rfl) (by decide) (fun x=>Qkr rfl) (QFT N)).map id (fun _=>rfl) fun _ _ h=>QiZ h
theorem QyQ (x:Qk):Qn x=[.i .i64 x.Kind,.i .i64 x.Num,.sl 3 (Qbg x.Kids)]:=by cases x;rw [Qn]
inductive QkS : Qk->Prop where
 | mk (x:Qk):(okI .i64) x.Kind->(okI .i64) x.Num->x.Kids.length<=maxLen->(∀k∈x.Kids,QkS k)->QkS x
theorem QEv {H:Type}{enc:TypeId×Value->H}{w:World}(N:Nat):Rd enc Tryz.prog w N 51 Qn (fun x _=>QkS x):=by
 induction N with
 | zero=>exact Rd.zero
 | succ N ih=>
  have h0:=(Rd.struct (fs:=[(3,0),(3,1),(49,2)]) (tot:=3) (N:=N) (t:=51) (P:=Tryz.prog) (w:=w) (enc:=enc) (by kernel_rfl) (RdF.cons 3 0 1 (by kernel_rfl) (QgE N) (RdF.cons 3 1 1 (by kernel_rfl) (QgE N) (RdF.cons 49 2 1 (by kernel_rfl) (Rd.slice (e:=51) (z:=3) (by kernel_rfl) (by kernel_rfl) (by decide) (fun x=>Qkr (by cases x;rfl)) ih) RdF.nil))))
  exact h0.map (fun x=>⟨x.1,x.2.1,x.2.2.1⟩) (fun x=>by simp only [Qn];rw [Qk0];rfl) (fun x d h=>by obtain⟨_,rfl,h⟩:=h;obtain⟨_,_,rfl,a0,h⟩:=h;obtain⟨_,_,rfl,a1,h⟩:=h;obtain⟨_,_,rfl,a2,h⟩:=h;exact QkS.mk _ a0 a1 (QiZ a2).1 (QiZ a2).2)
def Qtf (x:Qas):Prop:=(okI .i64) x.Place/\QkS x.Expr
theorem QFV {H:Type}{enc:TypeId×Value->H}{w:World}(N:Nat):Rd enc Tryz.prog w N 98 Q5 (fun x _=>Qtf x):=by
 have h0:=(Rd.struct (fs:=[(3,0),(51,1)]) (tot:=4) (N:=N) (t:=98) (P:=Tryz.prog) (w:=w) (enc:=enc) (by kernel_rfl) (RdF.cons 3 0 1 (by kernel_rfl) (QgE N) (RdF.cons 51 1 3 (by kernel_rfl) (QEv N) RdF.nil)))
 exact(h0.map (fun x=>⟨x.1,x.2.1⟩) (fun x=>by rw [QyQ];rfl) (fun x d h=>by obtain⟨_,rfl,h⟩:=h;obtain⟨_,_,rfl,a0,h⟩:=h;obtain⟨_,_,rfl,a1,h⟩:=h;exact⟨a0,a1⟩)).mono (Nat.le_succ N)
theorem QEw {H:Type}{enc:TypeId×Value->H}{w:World}(N:Nat):Rd enc Tryz.prog w N 52 QCZ (fun x _=>(okL Qtf) x):=(Rd.slice (e:=98) (z:=4) (by kernel_rfl) (by kernel_rfl) (by decide) (fun x=>Qkr rfl) (QFV N)).map id (fun _=>rfl) fun _ _ h=>QiZ h
theorem QyR {H:Type}{enc:TypeId×Value->H}{w:World}(N:Nat):Rd enc Tryz.prog w N 29 Qv (fun x _=>(okL (okI .i64)) x):=(Rd.slice (e:=3) (z:=1) (by kernel_rfl) (by kernel_rfl) (by decide) (fun x=>Qkr rfl) (QgE N)).map id (fun _=>rfl) fun _ _ h=>QiZ h
def QDB (x:(Int×Int×Int)):Prop:=(okI .i64) x.1/\(okI .i64) x.2.1/\(okI .i64) x.2.2
theorem QFW {H:Type}{enc:TypeId×Value->H}{w:World}(N:Nat):Rd enc Tryz.prog w N 53 Qy5 (fun x _=>QDB x):=by
 have h0:=(Rd.array (e:=3) (n:=3) (tot:=3) (fs:=[(3,0),(3,1),(3,2)]) (N:=N) (t:=53) (P:=Tryz.prog) (w:=w) (enc:=enc) (by kernel_rfl) (RdF.cons 3 0 1 (by kernel_rfl) (QgE N) (RdF.cons 3 1 1 (by kernel_rfl) (QgE N) (RdF.cons 3 2 1 (by kernel_rfl) (QgE N) RdF.nil))))
 exact(h0.map (fun x=>⟨x.1,x.2.1,x.2.2.1⟩) (fun _=>rfl) (fun x d h=>by obtain⟨_,rfl,h⟩:=h;obtain⟨_,_,rfl,a0,h⟩:=h;obtain⟨_,_,rfl,a1,h⟩:=h;obtain⟨_,_,rfl,a2,h⟩:=h;exact⟨a0,a1,a2⟩)).mono (Nat.le_succ N)
def QxO (x:QG):Prop:=okS x.Name/\(okL Qzy) x.Vars/\QkS x.Guard/\(okI .i64) x.Join/\(okI .i64) x.Split/\(okL Qtf) x.Ins/\(okL Qtf) x.Outs/\(okL (okI .i64)) x.Cancel/\(okI .i64) x.After/\QDB x.Many
theorem QFX {H:Type}{enc:TypeId×Value->H}{w:World}(N:Nat):Rd enc Tryz.prog w N 55 Qm (fun x _=>QxO x):=by
 have h0:=(Rd.struct (fs:=[(9,0),(48,1),(51,2),(3,5),(3,6),(52,7),(52,8),(29,9),(3,10),(53,11)]) (tot:=14) (N:=N) (t:=55) (P:=Tryz.prog) (w:=w) (enc:=enc) (by kernel_rfl) (RdF.cons 9 0 1 (by kernel_rfl) (QA8 N) (RdF.cons 48 1 1 (by kernel_rfl) (QFU N) (RdF.cons 51 2 3 (by kernel_rfl) (QEv N) (RdF.cons 3 5 1 (by kernel_rfl) (QgE N) (RdF.cons 3 6 1 (by kernel_rfl) (QgE N) (RdF.cons 52 7 1 (by kernel_rfl) (QEw N) (RdF.cons 52 8 1 (by kernel_rfl) (QEw N) (RdF.cons 29 9 1 (by kernel_rfl) (QyR N) (RdF.cons 3 10 1 (by kernel_rfl) (QgE N) (RdF.cons 53 11 3 (by kernel_rfl) (QFW N) RdF.nil)))))))))))
 exact(h0.map (fun x=>⟨x.1,x.2.1,x.2.2.1,x.2.2.2.1,x.2.2.2.2.1,x.2.2.2.2.2.1,x.2.2.2.2.2.2.1,x.2.2.2.2.2.2.2.1,x.2.2.2.2.2.2.2.2.1,x.2.2.2.2.2.2.2.2.2.1⟩) (fun x=>by rw [QyQ];rfl) (fun x d h=>by obtain⟨_,rfl,h⟩:=h;obtain⟨_,_,rfl,a0,h⟩:=h;obtain⟨_,_,rfl,a1,h⟩:=h;obtain⟨_,_,rfl,a2,h⟩:=h;obtain⟨_,_,rfl,a3,h⟩:=h;obtain⟨_,_,rfl,a4,h⟩:=h;obtain⟨_,_,rfl,a5,h⟩:=h;obtain⟨_,_,rfl,a6,h⟩:=h;obtain⟨_,_,rfl,a7,h⟩:=h;obtain⟨_,_,rfl,a8,h⟩:=h;obtain⟨_,_,rfl,a9,h⟩:=h;exact⟨a0,a1,a2,a3,a4,a5,a6,a7,a8,a9⟩)).mono (Nat.le_succ N)
theorem QFY {H:Type}{enc:TypeId×Value->H}{w:World}(N:Nat):Rd enc Tryz.prog w N 24 QCc (fun x _=>(okL QxO) x):=(Rd.slice (e:=55) (z:=14) (by kernel_rfl) (by kernel_rfl) (by decide) (fun x=>Qkr rfl) (QFX N)).map id (fun _=>rfl) fun _ _ h=>QiZ h
def Qtg (x:Qq):Prop:=(okL Qub) x.Colours/\(okL QvY) x.Places/\(okL QxO) x.Tasks/\(okI .i64) x.From/\(okI .i64) x.To
theorem QFZ {H:Type}{enc:TypeId×Value->H}{w:World}(N:Nat):Rd enc Tryz.prog w N 26 Qd (fun x _=>Qtg x):=by
 have h0:=(Rd.struct (fs:=[(22,0),(23,1),(24,2),(3,3),(3,4)]) (tot:=5) (N:=N) (t:=26) (P:=Tryz.prog) (w:=w) (enc:=enc) (by kernel_rfl) (RdF.cons 22 0 1 (by kernel_rfl) (QFP N) (RdF.cons 23 1 1 (by kernel_rfl) (QFS N) (RdF.cons 24 2 1 (by kernel_rfl) (QFY N) (RdF.cons 3 3 1 (by kernel_rfl) (QgE N) (RdF.cons 3 4 1 (by kernel_rfl) (QgE N) RdF.nil))))))
 exact(h0.map (fun x=>⟨x.1,x.2.1,x.2.2.1,x.2.2.2.1,x.2.2.2.2.1⟩) (fun _=>rfl) (fun x d h=>by obtain⟨_,rfl,h⟩:=h;obtain⟨_,_,rfl,a0,h⟩:=h;obtain⟨_,_,rfl,a1,h⟩:=h;obtain⟨_,_,rfl,a2,h⟩:=h;obtain⟨_,_,rfl,a3,h⟩:=h;obtain⟨_,_,rfl,a4,h⟩:=h;exact⟨a0,a1,a2,a3,a4⟩)).mono (Nat.le_succ N)
theorem QF0 {H:Type}{enc:TypeId×Value->H}{w:World}(N:Nat):Rd enc Tryz.prog w N 28 Qan (fun x _=>(okL (okL Qte)) x):=(Rd.slice (e:=35) (z:=1) (by kernel_rfl) (by kernel_rfl) (by decide) (fun x=>Qkr rfl) (QEu N)).map id (fun _=>rfl) fun _ _ h=>QiZ h
def Quc (x:Qh):Prop:=(okI .i64) x.Task/\(okL (okI .i64)) x.Vars/\(okL (okI .i64)) x.Ins/\(okL (okI .i64)) x.Outs
theorem QF1 {H:Type}{enc:TypeId×Value->H}{w:World}(N:Nat):Rd enc Tryz.prog w N 31 Qi (fun x _=>Quc x):=by
 have h0:=(Rd.struct (fs:=[(3,0),(29,1),(29,2),(29,3)]) (tot:=4) (N:=N) (t:=31) (P:=Tryz.prog) (w:=w) (enc:=enc) (by kernel_rfl) (RdF.cons 3 0 1 (by kernel_rfl) (QgE N) (RdF.cons 29 1 1 (by kernel_rfl) (QyR N) (RdF.cons 29 2 1 (by kernel_rfl) (QyR N) (RdF.cons 29 3 1 (by kernel_rfl) (QyR N) RdF.nil)))))
 exact(h0.map (fun x=>⟨x.1,x.2.1,x.2.2.1,x.2.2.2.1⟩) (fun _=>rfl) (fun x d h=>by obtain⟨_,rfl,h⟩:=h;obtain⟨_,_,rfl,a0,h⟩:=h;obtain⟨_,_,rfl,a1,h⟩:=h;obtain⟨_,_,rfl,a2,h⟩:=h;obtain⟨_,_,rfl,a3,h⟩:=h;exact⟨a0,a1,a2,a3⟩)).mono (Nat.le_succ N)
theorem QF2 {H:Type}{enc:TypeId×Value->H}{w:World}(N:Nat):Rd enc Tryz.prog w N 42 Qx6 (fun x _=>(okL Quc) x):=(Rd.slice (e:=31) (z:=4) (by kernel_rfl) (by kernel_rfl) (by decide) (fun x=>Qkr rfl) (QF1 N)).map id (fun _=>rfl) fun _ _ h=>QiZ h
namespace LawFireRuns
theorem own : ownKnob Tryz.prog.godebug=none:=by kernel_rfl
theorem QET : laidOutB Tryz.prog=true:=by kernel_rfl
theorem QEl : ∀t∈Tryz.f4.params.toList,Tryz.prog.readableRec t=true/\t<Tryz.prog.types.size:=by
 have h:(Tryz.f4.params.toList.all fun t=>Tryz.prog.readableRec t&&decide (t<Tryz.prog.types.size))=true:=by kernel_rfl
 intro t ht
 have:=Qad.1 h t ht
 rw [QA,QN]at this
 exact this
theorem QEm (os:Os)(args:Array Value):laidMetH Tryz.prog Rows.fireRunsRow.laid ((World.doorLaid Tryz.prog 33 os).forCall (fun _ _=>0) ⟨#[],args,[]⟩).memory:=
 laidMetH_of_parts3 (fuel:=8) (laidMet_of_run' 8 (by kernel_rfl) (by kernel_rfl)) (by kernel_rfl) (by kernel_rfl)
theorem QEn {W:World}(h:laidMetH Tryz.prog Rows.fireRunsRow.laid W):QoM Tryz.prog (fun k=>k<W.heap.size) W:=
 QAI (r:=[]) (g:=0) (t:=236) (e:=5) 1 (by kernel_rfl) (by kernel_rfl) (by kernel_rfl) (by kernel_rfl) (by kernel_rfl) (by kernel_rfl) (by kernel_rfl) (by kernel_rfl) h
set_option maxRecDepth 100000 in
theorem QFs (hF:∀(a0:Qq) (a1:(List (List (Int×Int)))) (a2:(List Qh)) (a3:(List Int)),Qtg a0->(okL (okL Qte)) a1->(okL Quc) a2->(okL (okI .i64)) a3->Qgj a0 a1 a2 a3=some true)(os:Os)(started:os.Started)(H:Type)(enc:TypeId×Value->H):
  ReturnsInHanded {} Tryz.checked os 4 .any (fun w args=>(Rows.fireRunsSpec.pre enc Tryz.prog Tryz.f4 Rows.fireRunsRow.domain false w args/\laidMetH Tryz.prog Rows.fireRunsRow.laid w)/\sizedMet enc Tryz.prog Tryz.f4 (OpenSpec.ofChange Rows.fireRunsSpec) false w args) (Rows.fireRunsSpec.post enc Tryz.prog Tryz.f4 false true false false):=by
 refine returnsInHanded_of_change_and (C:=Tryz.checked) (X:=fun w _=>laidMetH Tryz.prog Rows.fireRunsRow.laid w) (fun _ _ _ hh h=>h.of_heap hh) own started (by kernel_rfl) Tryz.func4
  (ChangeSpec.witness_shaped (enc:=enc) (C:=Tryz.checked) (os:=os) (X:=fun w _=>laidMetH Tryz.prog Rows.fireRunsRow.laid w) false (World.doorLaid Tryz.prog 33 os) #[.agg #[.slice none 0 0,.slice none 0 0,.slice none 0 0,.int .i64 0,.int .i64 0],.slice none 0 0,.slice none 0 0,.slice none 0 0] 8 rfl (World.shaped_of_RefB (by kernel_rfl) (by kernel_rfl)) (by kernel_rfl) (by kernel_rfl) (by kernel_rfl) (QEm os _)) ?_
 intro W base args ds gs before hval0 hW hcnd hz hL _
 have hval:∀(j:Nat) t v,Tryz.f4.params[j]? = some t->args[j]? = some v->Value.okWide Tryz.prog W .any base t v:=hval0
 have hW1:=hW
 obtain⟨p,q,hA0,hV,_,_,_⟩:=hW
 obtain⟨rfl,_⟩:=trodVars_none hV
 have hA:DataW.TrodAll enc Tryz.prog W 0 (fun _=>true) true Tryz.f4.params.toList args.toList ds p:=hA0
 rw [Tryz.params4]at hA hval
 obtain⟨v0,vs0,d0,ds0,p0,q0,hargs,rfl,_,h0,r0⟩:=trodAll_cons hA
 obtain⟨v1,vs1,d1,ds1,p1,q1,rfl,rfl,_,h1,r1⟩:=trodAll_cons r0
 obtain⟨v2,vs2,d2,ds2,p2,q2,rfl,rfl,_,h2,r2⟩:=trodAll_cons r1
 obtain⟨v3,vs3,d3,ds3,p3,q3,rfl,rfl,_,h3,r3⟩:=trodAll_cons r2
 obtain⟨rfl,rfl,_⟩:=trodAll_nil r3
 obtain rfl:args=#[v0,v1,v2,v3]:=by cases args;simp_all
 obtain⟨a0,w0,c0⟩:=Rd.open (fun N=>QFZ N) h0
 obtain⟨_,rfl⟩:=QDY (P:=Tryz.prog) (t:=26) (fs:=[(22,0),(23,1),(24,2),(3,3),(3,4)]) (tot:=5) (by kernel_rfl) (hval 0 26 v0 rfl rfl)
 have e0:=c0.argS
 obtain⟨a1,w1,c1⟩:=Rd.open (fun N=>QF0 N) h1
 obtain⟨_,_,_,rfl⟩:=okWide_slice Tryz.underlying28 (hval 1 28 v1 rfl rfl)
 have e1:=(Cl.arg1 rfl c1)
 obtain⟨a2,w2,c2⟩:=Rd.open (fun N=>QF2 N) h2
 obtain⟨_,_,_,rfl⟩:=okWide_slice Tryz.underlying42 (hval 2 42 v2 rfl rfl)
 have e2:=(Cl.arg1 rfl c2)
 obtain⟨a3,w3,c3⟩:=Rd.open (fun N=>QyR N) h3
 obtain⟨_,_,_,rfl⟩:=okWide_slice Tryz.underlying29 (hval 3 29 v3 rfl rfl)
 have e3:=(Cl.arg1 rfl c3)
 refine(Qc.law (us:=[.agg (Qd a0),.sl 1 (a1.map Qg),.sl 4 (a2.map Qi),.sl 1 (a3.map Qe)]) (QuN a0 a1 a2 a3 (hF a0 a1 a2 a3 w0 w1 w2 w3)) (QEn hL) rfl (fun j x v hx hv=>?_)).mono fun e W2 ⟨he,hb⟩=>?_
 ·match j with
  | 0=>cases hx;cases hv;exact e0
  | 1=>cases hx;cases hv;exact e1
  | 2=>cases hx;cases hv;exact e2
  | 3=>cases hx;cases hv;exact e3
  | j+4=>simp at hx
 subst he
 exact⟨_,rfl,QDZ QET QEl hW1 rfl hb rfl Tryz.underlying4 rfl rfl rfl⟩
theorem proved_of (hF:∀(a0:Qq) (a1:(List (List (Int×Int)))) (a2:(List Qh)) (a3:(List Int)),Qtg a0->(okL (okL Qte)) a1->(okL Quc) a2->(okL (okI .i64)) a3->Qgj a0 a1 a2 a3=some true):Rows.FireRunsSaid:=
 OpenClaim.holds_of_wide 4 Tryz.f4 rfl rfl rfl rfl rfl rfl rfl ⟨rfl,rfl,rfl,rfl,rfl⟩ rfl rfl rfl rfl rfl (by kernel_rfl) Tryz.func4 (by kernel_rfl)
  (Qak (by kernel_rfl)) (by unfold Func.isWrapper;first | (rw [if_pos (by decide +kernel)];kernel_rfl) | (rw [if_neg (by decide +kernel)];exact⟨rfl,rfl⟩))
  (fun os started H enc _=>QFs hF os started H enc)
theorem card_of (hs:Rows.FireRunsSaid):Rows.FireRunsCardSaid:=
 Claim7.holds_tied_plain_at .later [] [.listed,.data] true (true, "55a32eb73a824f972e2f3ec437ce2d921973ab58bea41a2c34a0dbeb3863f61f") false
  hs (fun _ h=>by cases h) (by kernel_rfl) (fun _ h=>by cases h) fireRuns_row_tie rfl ⟨rfl,rfl⟩ (by kernel_rfl) rfl
  (fun f fn hf hfn=>by
   obtain rfl:f=4:=Option.some.inj ((show Tryz.prog.funcNamed "baldric/baldriclaw11.FireRuns" = some 4 by kernel_rfl).symm.trans hf) |>.symm
   obtain rfl:fn=Tryz.f4:=(Option.some.inj (Tryz.func4.symm.trans hfn)).symm
   exact⟨by kernel_rfl,fun j t ht=>by
    rw [Tryz.params4]at ht
    have hm:t∈[26,28,42,29]:=by simpa using Array.mem_of_getElem? ht
    have hall:([26,28,42,29].all fun u=>!Tryz.prog.wantsStandIn u)=true:=by kernel_rfl
    exact(show Tryz.prog.wantsStandIn t=false by simpa using Qad.1 hall t hm)⟩)
  (by kernel_rfl)
end LawFireRuns
theorem kE {e:Qk}(h:QkS e):QcO e:=by
 induction h with
 | mk x _ _ h1 _ ih=>exact .mk x h1 ih
theorem kL {α:Type}{p q:α->Prop}(f:∀x,p x->q x){l:List α}(h:okL p l):QJ q l:=⟨h.1,fun x hx=>f x (h.2 x hx)⟩
theorem kA {a:Qas}(h:Qtf a):Qi9 a:=⟨trivial,kE h.2⟩
theorem QGd {n:Qq}(h:Qtg n):QY n:=
 ⟨kL (fun c hc=>⟨hc.1,trivial,trivial,trivial,kL (fun s hs=>hs) hc.2.2.2.2.1,trivial,trivial⟩) h.1,kL (fun p hp=>⟨hp.1,trivial,kL (fun _ _=>trivial) hp.2.2⟩) h.2.1,
  kL (fun t ht=>⟨ht.1,kL (fun v hv=>⟨hv.1,trivial⟩) ht.2.1,kE ht.2.2.1,trivial,trivial,kL (fun _ h=>kA h) ht.2.2.2.2.2.1,kL (fun _ h=>kA h) ht.2.2.2.2.2.2.1,kL (fun _ _=>trivial) ht.2.2.2.2.2.2.2.1,trivial,trivial⟩) h.2.2.1,trivial,trivial⟩
theorem QA9 {x:Int}(h:okI .i64 x):InI x:=by
 have h1:IntKind.min .i64=-9223372036854775808:=rfl
 have h2:IntKind.max .i64=9223372036854775807:=rfl
 unfold okI at h
 rw [h1,h2]at h
 exact h
theorem rE {e:Qk}(h:QkS e):RE e:=by
 induction h with
 | mk x _ hn _ _ ih=>exact .mk x (QA9 hn) ih
theorem QGe {n:Qq}(h:Qtg n):RN n:=
 ⟨fun c hc=>⟨QA9 (h.1.2 c hc).2.2.1,QA9 (h.1.2 c hc).2.2.2.1⟩,fun t ht=>rE (h.2.2.1.2 t ht).2.2.1,fun t ht a ha=>rE ((h.2.2.1.2 t ht).2.2.2.2.2.1.2 a ha).2,fun t ht a ha=>rE ((h.2.2.1.2 t ht).2.2.2.2.2.2.1.2 a ha).2⟩
theorem proved : Rows.FireRunsCardSaid:=LawFireRuns.card_of (LawFireRuns.proved_of fun a0 a1 a2 a3 h0 h1 _ _=>QDA (QGd h0) (QGe h0) (kL (fun b hb=>kL (fun _ _=>trivial) hb) h1))

end Go.Proofs.YtpijolohkdchcaaGreatDoor
