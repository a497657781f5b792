/- FireDoes, as it is given: of any net, marking and mode it answers true, with no condition but what its row asks of all calls. -/
import Derived.Test.YtpijolohkdchcaaGreatDoorD1P3
import Derived.Test.YtpijolohkdchcaaGreatDoorD1T3
import Derived.Test.YtpijolohkdchcaaGreatDoorD1V3
import Derived.Test.YtpijolohkdchcaaGreatDoorRows
import Derived.Test.YtpijolohkdchcaaGreatDoorTie
import Derived.Test.YtpijolohkdchcaaGreatDoorCards
import Derived.SevenTiedAt
import Derived.WalkKit
import Derived.ProofKit
import Derived.OpenShut
set_option linter.unusedVariables false
set_option linter.unusedSimpArgs false
set_option linter.unusedSectionVars false
set_option linter.deprecated false
noncomputable section
namespace Go.Proofs.YtpijolohkdchcaaGreatDoor
open Go Go.RowKit Go.Vm Go.ChangeShapes Go.WideShapes Go.ChangeAt
theorem Qz9 {H:Type}{enc:TypeId×Value->H}{w:World}(N:Nat):Rd enc Tryz.prog w N 9 Qcq (fun x _=>okS x):=(Rd.string (by kernel_rfl)).map id (fun _=>rfl) fun _ _ h=>h.1
theorem Qf9 {H:Type}{enc:TypeId×Value->H}{w:World}(N:Nat):Rd enc Tryz.prog w N 3 Qe (fun x _=>(okI .i64) x):=(Rd.int (by kernel_rfl)).map id (fun _=>rfl) fun _ _ h=>QDS h
theorem QEy {H:Type}{enc:TypeId×Value->H}{w:World}(N:Nat):Rd enc Tryz.prog w N 92 QDU (fun x _=>(okL okS) x):=(Rd.slice (e:=9) (z:=1) (by kernel_rfl) (by kernel_rfl) (by decide) (fun x=>Qla rfl) (Qz9 N)).map id (fun _=>rfl) fun _ _ h=>QjK h
def Qtg (x:QE):Prop:=okS x.Name/\(okI .i64) x.Kind/\(okI .i64) x.Lo/\(okI .i64) x.Hi/\(okL okS) x.Names/\(okI .i64) x.First/\(okI .i64) x.Then
theorem QEz {H:Type}{enc:TypeId×Value->H}{w:World}(N:Nat):Rd enc Tryz.prog w N 94 Qs (fun x _=>Qtg x):=by
 have h0:=(Rd.struct (fs:=[(9,0),(3,1),(3,2),(3,3),(92,4),(3,5),(3,6)]) (tot:=7) (N:=N) (t:=94) (P:=Tryz.prog) (w:=w) (enc:=enc) (by kernel_rfl) (RdF.cons 9 0 1 (by kernel_rfl) (Qz9 N) (RdF.cons 3 1 1 (by kernel_rfl) (Qf9 N) (RdF.cons 3 2 1 (by kernel_rfl) (Qf9 N) (RdF.cons 3 3 1 (by kernel_rfl) (Qf9 N) (RdF.cons 92 4 1 (by kernel_rfl) (QEy N) (RdF.cons 3 5 1 (by kernel_rfl) (Qf9 N) (RdF.cons 3 6 1 (by kernel_rfl) (Qf9 N) RdF.nil))))))))
 exact(h0.map (fun x=>⟨x.1,x.2.1,x.2.2.1,x.2.2.2.1,x.2.2.2.2.1,x.2.2.2.2.2.1,x.2.2.2.2.2.2.1⟩) (fun _=>rfl) (fun x d h=>by obtain⟨_,rfl,h⟩:=h;obtain⟨_,_,rfl,a0,h⟩:=h;obtain⟨_,_,rfl,a1,h⟩:=h;obtain⟨_,_,rfl,a2,h⟩:=h;obtain⟨_,_,rfl,a3,h⟩:=h;obtain⟨_,_,rfl,a4,h⟩:=h;obtain⟨_,_,rfl,a5,h⟩:=h;obtain⟨_,_,rfl,a6,h⟩:=h;exact⟨a0,a1,a2,a3,a4,a5,a6⟩)).mono (Nat.le_succ N)
theorem QEA {H:Type}{enc:TypeId×Value->H}{w:World}(N:Nat):Rd enc Tryz.prog w N 22 QzG (fun x _=>(okL Qtg) x):=(Rd.slice (e:=94) (z:=7) (by kernel_rfl) (by kernel_rfl) (by decide) (fun x=>Qla rfl) (QEz N)).map id (fun _=>rfl) fun _ _ h=>QjK h
def Qso (x:(Int×Int)):Prop:=(okI .i64) x.1/\(okI .i64) x.2
theorem QEB {H:Type}{enc:TypeId×Value->H}{w:World}(N:Nat):Rd enc Tryz.prog w N 40 Ql (fun x _=>Qso x):=by
 have h0:=(Rd.array (e:=3) (n:=2) (tot:=2) (fs:=[(3,0),(3,1)]) (N:=N) (t:=40) (P:=Tryz.prog) (w:=w) (enc:=enc) (by kernel_rfl) (RdF.cons 3 0 1 (by kernel_rfl) (Qf9 N) (RdF.cons 3 1 1 (by kernel_rfl) (Qf9 N) RdF.nil)))
 exact(h0.map (fun x=>⟨x.1,x.2.1⟩) (fun _=>rfl) (fun x d h=>by obtain⟨_,rfl,h⟩:=h;obtain⟨_,_,rfl,a0,h⟩:=h;obtain⟨_,_,rfl,a1,h⟩:=h;exact⟨a0,a1⟩)).mono (Nat.le_succ N)
theorem QDd {H:Type}{enc:TypeId×Value->H}{w:World}(N:Nat):Rd enc Tryz.prog w N 35 Qf (fun x _=>(okL Qso) x):=(Rd.slice (e:=40) (z:=2) (by kernel_rfl) (by kernel_rfl) (by decide) (fun x=>Qla rfl) (QEB N)).map id (fun _=>rfl) fun _ _ h=>QjK h
def Qu1 (x:QY):Prop:=okS x.Name/\(okI .i64) x.Colour/\(okL Qso) x.First
theorem QEC {H:Type}{enc:TypeId×Value->H}{w:World}(N:Nat):Rd enc Tryz.prog w N 89 QC (fun x _=>Qu1 x):=by
 have h0:=(Rd.struct (fs:=[(9,0),(3,1),(35,2)]) (tot:=3) (N:=N) (t:=89) (P:=Tryz.prog) (w:=w) (enc:=enc) (by kernel_rfl) (RdF.cons 9 0 1 (by kernel_rfl) (Qz9 N) (RdF.cons 3 1 1 (by kernel_rfl) (Qf9 N) (RdF.cons 35 2 1 (by kernel_rfl) (QDd N) RdF.nil))))
 exact(h0.map (fun x=>⟨x.1,x.2.1,x.2.2.1⟩) (fun _=>rfl) (fun x d h=>by obtain⟨_,rfl,h⟩:=h;obtain⟨_,_,rfl,a0,h⟩:=h;obtain⟨_,_,rfl,a1,h⟩:=h;obtain⟨_,_,rfl,a2,h⟩:=h;exact⟨a0,a1,a2⟩)).mono (Nat.le_succ N)
theorem QED {H:Type}{enc:TypeId×Value->H}{w:World}(N:Nat):Rd enc Tryz.prog w N 23 QAm (fun x _=>(okL Qu1) x):=(Rd.slice (e:=89) (z:=3) (by kernel_rfl) (by kernel_rfl) (by decide) (fun x=>Qla rfl) (QEC N)).map id (fun _=>rfl) fun _ _ h=>QjK h
def Qym (x:Qat):Prop:=okS x.Name/\(okI .i64) x.Colour
theorem QEE {H:Type}{enc:TypeId×Value->H}{w:World}(N:Nat):Rd enc Tryz.prog w N 96 QL (fun x _=>Qym x):=by
 have h0:=(Rd.struct (fs:=[(9,0),(3,1)]) (tot:=2) (N:=N) (t:=96) (P:=Tryz.prog) (w:=w) (enc:=enc) (by kernel_rfl) (RdF.cons 9 0 1 (by kernel_rfl) (Qz9 N) (RdF.cons 3 1 1 (by kernel_rfl) (Qf9 N) RdF.nil)))
 exact(h0.map (fun x=>⟨x.1,x.2.1⟩) (fun _=>rfl) (fun x d h=>by obtain⟨_,rfl,h⟩:=h;obtain⟨_,_,rfl,a0,h⟩:=h;obtain⟨_,_,rfl,a1,h⟩:=h;exact⟨a0,a1⟩)).mono (Nat.le_succ N)
theorem QEF {H:Type}{enc:TypeId×Value->H}{w:World}(N:Nat):Rd enc Tryz.prog w N 48 Qcg (fun x _=>(okL Qym) x):=(Rd.slice (e:=96) (z:=2) (by kernel_rfl) (by kernel_rfl) (by decide) (fun x=>Qla rfl) (QEE N)).map id (fun _=>rfl) fun _ _ h=>QjK h
theorem QxK (x:Qh):Qj x=[.i .i64 x.Kind,.i .i64 x.Num,.sl 3 (Qa6 x.Kids)]:=by cases x;rw [Qj]
inductive Qkf : Qh->Prop where
 | mk (x:Qh):(okI .i64) x.Kind->(okI .i64) x.Num->x.Kids.length<=maxLen->(∀k∈x.Kids,Qkf k)->Qkf x
theorem QDe {H:Type}{enc:TypeId×Value->H}{w:World}(N:Nat):Rd enc Tryz.prog w N 51 Qj (fun x _=>Qkf x):=by
 induction N with
 | zero=>exact Rd.zero
 | succ N ih=>
  have h0:=(Rd.struct (fs:=[(3,0),(3,1),(49,2)]) (tot:=3) (N:=N) (t:=51) (P:=Tryz.prog) (w:=w) (enc:=enc) (by kernel_rfl) (RdF.cons 3 0 1 (by kernel_rfl) (Qf9 N) (RdF.cons 3 1 1 (by kernel_rfl) (Qf9 N) (RdF.cons 49 2 1 (by kernel_rfl) (Rd.slice (e:=51) (z:=3) (by kernel_rfl) (by kernel_rfl) (by decide) (fun x=>Qla (by cases x;rfl)) ih) RdF.nil))))
  exact h0.map (fun x=>⟨x.1,x.2.1,x.2.2.1⟩) (fun x=>by simp only [Qj];rw [Qkm];rfl) (fun x d h=>by obtain⟨_,rfl,h⟩:=h;obtain⟨_,_,rfl,a0,h⟩:=h;obtain⟨_,_,rfl,a1,h⟩:=h;obtain⟨_,_,rfl,a2,h⟩:=h;exact Qkf.mk _ a0 a1 (QjK a2).1 (QjK a2).2)
def Qsp (x:Qap):Prop:=(okI .i64) x.Place/\Qkf x.Expr
theorem QEG {H:Type}{enc:TypeId×Value->H}{w:World}(N:Nat):Rd enc Tryz.prog w N 98 Q2 (fun x _=>Qsp x):=by
 have h0:=(Rd.struct (fs:=[(3,0),(51,1)]) (tot:=4) (N:=N) (t:=98) (P:=Tryz.prog) (w:=w) (enc:=enc) (by kernel_rfl) (RdF.cons 3 0 1 (by kernel_rfl) (Qf9 N) (RdF.cons 51 1 3 (by kernel_rfl) (QDe N) RdF.nil)))
 exact(h0.map (fun x=>⟨x.1,x.2.1⟩) (fun x=>by rw [QxK];rfl) (fun x d h=>by obtain⟨_,rfl,h⟩:=h;obtain⟨_,_,rfl,a0,h⟩:=h;obtain⟨_,_,rfl,a1,h⟩:=h;exact⟨a0,a1⟩)).mono (Nat.le_succ N)
theorem QDf {H:Type}{enc:TypeId×Value->H}{w:World}(N:Nat):Rd enc Tryz.prog w N 52 QBT (fun x _=>(okL Qsp) x):=(Rd.slice (e:=98) (z:=4) (by kernel_rfl) (by kernel_rfl) (by decide) (fun x=>Qla rfl) (QEG N)).map id (fun _=>rfl) fun _ _ h=>QjK h
theorem Qzd {H:Type}{enc:TypeId×Value->H}{w:World}(N:Nat):Rd enc Tryz.prog w N 29 Qz (fun x _=>(okL (okI .i64)) x):=(Rd.slice (e:=3) (z:=1) (by kernel_rfl) (by kernel_rfl) (by decide) (fun x=>Qla rfl) (Qf9 N)).map id (fun _=>rfl) fun _ _ h=>QjK h
def QCs (x:(Int×Int×Int)):Prop:=(okI .i64) x.1/\(okI .i64) x.2.1/\(okI .i64) x.2.2
theorem QEH {H:Type}{enc:TypeId×Value->H}{w:World}(N:Nat):Rd enc Tryz.prog w N 53 Qx0 (fun x _=>QCs x):=by
 have h0:=(Rd.array (e:=3) (n:=3) (tot:=3) (fs:=[(3,0),(3,1),(3,2)]) (N:=N) (t:=53) (P:=Tryz.prog) (w:=w) (enc:=enc) (by kernel_rfl) (RdF.cons 3 0 1 (by kernel_rfl) (Qf9 N) (RdF.cons 3 1 1 (by kernel_rfl) (Qf9 N) (RdF.cons 3 2 1 (by kernel_rfl) (Qf9 N) RdF.nil))))
 exact(h0.map (fun x=>⟨x.1,x.2.1,x.2.2.1⟩) (fun _=>rfl) (fun x d h=>by obtain⟨_,rfl,h⟩:=h;obtain⟨_,_,rfl,a0,h⟩:=h;obtain⟨_,_,rfl,a1,h⟩:=h;obtain⟨_,_,rfl,a2,h⟩:=h;exact⟨a0,a1,a2⟩)).mono (Nat.le_succ N)
def QwM (x:QG):Prop:=okS x.Name/\(okL Qym) x.Vars/\Qkf x.Guard/\(okI .i64) x.Join/\(okI .i64) x.Split/\(okL Qsp) x.Ins/\(okL Qsp) x.Outs/\(okL (okI .i64)) x.Cancel/\(okI .i64) x.After/\QCs x.Many
theorem QEI {H:Type}{enc:TypeId×Value->H}{w:World}(N:Nat):Rd enc Tryz.prog w N 55 Qm (fun x _=>QwM x):=by
 have h0:=(Rd.struct (fs:=[(9,0),(48,1),(51,2),(3,5),(3,6),(52,7),(52,8),(29,9),(3,10),(53,11)]) (tot:=14) (N:=N) (t:=55) (P:=Tryz.prog) (w:=w) (enc:=enc) (by kernel_rfl) (RdF.cons 9 0 1 (by kernel_rfl) (Qz9 N) (RdF.cons 48 1 1 (by kernel_rfl) (QEF N) (RdF.cons 51 2 3 (by kernel_rfl) (QDe N) (RdF.cons 3 5 1 (by kernel_rfl) (Qf9 N) (RdF.cons 3 6 1 (by kernel_rfl) (Qf9 N) (RdF.cons 52 7 1 (by kernel_rfl) (QDf N) (RdF.cons 52 8 1 (by kernel_rfl) (QDf N) (RdF.cons 29 9 1 (by kernel_rfl) (Qzd N) (RdF.cons 3 10 1 (by kernel_rfl) (Qf9 N) (RdF.cons 53 11 3 (by kernel_rfl) (QEH N) RdF.nil)))))))))))
 exact(h0.map (fun x=>⟨x.1,x.2.1,x.2.2.1,x.2.2.2.1,x.2.2.2.2.1,x.2.2.2.2.2.1,x.2.2.2.2.2.2.1,x.2.2.2.2.2.2.2.1,x.2.2.2.2.2.2.2.2.1,x.2.2.2.2.2.2.2.2.2.1⟩) (fun x=>by rw [QxK];rfl) (fun x d h=>by obtain⟨_,rfl,h⟩:=h;obtain⟨_,_,rfl,a0,h⟩:=h;obtain⟨_,_,rfl,a1,h⟩:=h;obtain⟨_,_,rfl,a2,h⟩:=h;obtain⟨_,_,rfl,a3,h⟩:=h;obtain⟨_,_,rfl,a4,h⟩:=h;obtain⟨_,_,rfl,a5,h⟩:=h;obtain⟨_,_,rfl,a6,h⟩:=h;obtain⟨_,_,rfl,a7,h⟩:=h;obtain⟨_,_,rfl,a8,h⟩:=h;obtain⟨_,_,rfl,a9,h⟩:=h;exact⟨a0,a1,a2,a3,a4,a5,a6,a7,a8,a9⟩)).mono (Nat.le_succ N)
theorem QEJ {H:Type}{enc:TypeId×Value->H}{w:World}(N:Nat):Rd enc Tryz.prog w N 24 QBb (fun x _=>(okL QwM) x):=(Rd.slice (e:=55) (z:=14) (by kernel_rfl) (by kernel_rfl) (by decide) (fun x=>Qla rfl) (QEI N)).map id (fun _=>rfl) fun _ _ h=>QjK h
def Qsq (x:Qq):Prop:=(okL Qtg) x.Colours/\(okL Qu1) x.Places/\(okL QwM) x.Tasks/\(okI .i64) x.From/\(okI .i64) x.To
theorem QEK {H:Type}{enc:TypeId×Value->H}{w:World}(N:Nat):Rd enc Tryz.prog w N 26 Qd (fun x _=>Qsq x):=by
 have h0:=(Rd.struct (fs:=[(22,0),(23,1),(24,2),(3,3),(3,4)]) (tot:=5) (N:=N) (t:=26) (P:=Tryz.prog) (w:=w) (enc:=enc) (by kernel_rfl) (RdF.cons 22 0 1 (by kernel_rfl) (QEA N) (RdF.cons 23 1 1 (by kernel_rfl) (QED N) (RdF.cons 24 2 1 (by kernel_rfl) (QEJ N) (RdF.cons 3 3 1 (by kernel_rfl) (Qf9 N) (RdF.cons 3 4 1 (by kernel_rfl) (Qf9 N) RdF.nil))))))
 exact(h0.map (fun x=>⟨x.1,x.2.1,x.2.2.1,x.2.2.2.1,x.2.2.2.2.1⟩) (fun _=>rfl) (fun x d h=>by obtain⟨_,rfl,h⟩:=h;obtain⟨_,_,rfl,a0,h⟩:=h;obtain⟨_,_,rfl,a1,h⟩:=h;obtain⟨_,_,rfl,a2,h⟩:=h;obtain⟨_,_,rfl,a3,h⟩:=h;obtain⟨_,_,rfl,a4,h⟩:=h;exact⟨a0,a1,a2,a3,a4⟩)).mono (Nat.le_succ N)
theorem QEL {H:Type}{enc:TypeId×Value->H}{w:World}(N:Nat):Rd enc Tryz.prog w N 28 Qak (fun x _=>(okL (okL Qso)) x):=(Rd.slice (e:=35) (z:=1) (by kernel_rfl) (by kernel_rfl) (by decide) (fun x=>Qla rfl) (QDd N)).map id (fun _=>rfl) fun _ _ h=>QjK h
def QwN (x:Qp):Prop:=(okI .i64) x.Task/\(okL (okI .i64)) x.Vars/\(okL (okI .i64)) x.Ins/\(okL (okI .i64)) x.Outs
theorem QEM {H:Type}{enc:TypeId×Value->H}{w:World}(N:Nat):Rd enc Tryz.prog w N 31 Qk (fun x _=>QwN x):=by
 have h0:=(Rd.struct (fs:=[(3,0),(29,1),(29,2),(29,3)]) (tot:=4) (N:=N) (t:=31) (P:=Tryz.prog) (w:=w) (enc:=enc) (by kernel_rfl) (RdF.cons 3 0 1 (by kernel_rfl) (Qf9 N) (RdF.cons 29 1 1 (by kernel_rfl) (Qzd N) (RdF.cons 29 2 1 (by kernel_rfl) (Qzd N) (RdF.cons 29 3 1 (by kernel_rfl) (Qzd N) RdF.nil)))))
 exact(h0.map (fun x=>⟨x.1,x.2.1,x.2.2.1,x.2.2.2.1⟩) (fun _=>rfl) (fun x d h=>by obtain⟨_,rfl,h⟩:=h;obtain⟨_,_,rfl,a0,h⟩:=h;obtain⟨_,_,rfl,a1,h⟩:=h;obtain⟨_,_,rfl,a2,h⟩:=h;obtain⟨_,_,rfl,a3,h⟩:=h;exact⟨a0,a1,a2,a3⟩)).mono (Nat.le_succ N)
namespace LawFireDoes
theorem own : ownKnob Tryz.prog.godebug=none:=by kernel_rfl
theorem QDF : laidOutB Tryz.prog=true:=by kernel_rfl
theorem QC4 : ∀t∈Tryz.f3.params.toList,Tryz.prog.readableRec t=true/\t<Tryz.prog.types.size:=by
 have h:(Tryz.f3.params.toList.all fun t=>Tryz.prog.readableRec t&&decide (t<Tryz.prog.types.size))=true:=by kernel_rfl
 intro t ht
 have:=Q9.1 h t ht
 rw [QB,Q0]at this
 exact this
theorem QC5 (os:Os)(args:Array Value):laidMetH Tryz.prog Rows.fireDoesRow.laid ((World.doorLaid Tryz.prog 33 os).forCall (fun _ _=>0) ⟨#[],args,[]⟩).memory:=
 laidMetH_of_parts3 (fuel:=8) (laidMet_of_run' 8 (by kernel_rfl) (by kernel_rfl)) (by kernel_rfl) (by kernel_rfl)
theorem QC6 {W:World}(h:laidMetH Tryz.prog Rows.fireDoesRow.laid W):Qn7 Tryz.prog (fun k=>k<W.heap.size) W:=
 QzE (r:=[]) (g:=0) (t:=236) (e:=5) 1 (by kernel_rfl) (by kernel_rfl) (by kernel_rfl) (by kernel_rfl) (by kernel_rfl) (by kernel_rfl) (by kernel_rfl) (by kernel_rfl) h
set_option maxRecDepth 100000 in
theorem QEd (hF:∀(a0:Qq) (a1:(List (List (Int×Int)))) (a2:Qp),Qsq a0->(okL (okL Qso)) a1->QwN a2->QfQ a0 a1 a2=some true)(os:Os)(started:os.Started)(H:Type)(enc:TypeId×Value->H):
  ReturnsInHanded {} Tryz.checked os 3 .any (fun w args=>(Rows.fireDoesSpec.pre enc Tryz.prog Tryz.f3 Rows.fireDoesRow.domain false w args/\laidMetH Tryz.prog Rows.fireDoesRow.laid w)/\sizedMet enc Tryz.prog Tryz.f3 (OpenSpec.ofChange Rows.fireDoesSpec) false w args) (Rows.fireDoesSpec.post enc Tryz.prog Tryz.f3 false true false false):=by
 refine returnsInHanded_of_change_and (C:=Tryz.checked) (X:=fun w _=>laidMetH Tryz.prog Rows.fireDoesRow.laid w) (fun _ _ _ hh h=>h.of_heap hh) own started (by kernel_rfl) Tryz.func3
  (ChangeSpec.witness_shaped (enc:=enc) (C:=Tryz.checked) (os:=os) (X:=fun w _=>laidMetH Tryz.prog Rows.fireDoesRow.laid w) false (World.doorLaid Tryz.prog 33 os) #[.agg #[.slice none 0 0,.slice none 0 0,.slice none 0 0,.int .i64 0,.int .i64 0],.slice none 0 0,.agg #[.int .i64 0,.slice none 0 0,.slice none 0 0,.slice none 0 0]] 8 rfl (World.shaped_of_RefB (by kernel_rfl) (by kernel_rfl)) (by kernel_rfl) (by kernel_rfl) (by kernel_rfl) (QC5 os _)) ?_
 intro W base args ds gs before hval0 hW hcnd hz hL _
 have hval:∀(j:Nat) t v,Tryz.f3.params[j]? = some t->args[j]? = some v->Value.okWide Tryz.prog W .any base t v:=hval0
 have hW1:=hW
 obtain⟨p,q,hA0,hV,_,_,_⟩:=hW
 obtain⟨rfl,_⟩:=trodVars_none hV
 have hA:DataW.TrodAll enc Tryz.prog W 0 (fun _=>true) true Tryz.f3.params.toList args.toList ds p:=hA0
 rw [Tryz.params3]at hA hval
 obtain⟨v0,vs0,d0,ds0,p0,q0,hargs,rfl,_,h0,r0⟩:=trodAll_cons hA
 obtain⟨v1,vs1,d1,ds1,p1,q1,rfl,rfl,_,h1,r1⟩:=trodAll_cons r0
 obtain⟨v2,vs2,d2,ds2,p2,q2,rfl,rfl,_,h2,r2⟩:=trodAll_cons r1
 obtain⟨rfl,rfl,_⟩:=trodAll_nil r2
 obtain rfl:args=#[v0,v1,v2]:=by cases args;simp_all
 obtain⟨a0,w0,c0⟩:=Rd.open (fun N=>QEK N) h0
 obtain⟨_,rfl⟩:=QzD (P:=Tryz.prog) (t:=26) (fs:=[(22,0),(23,1),(24,2),(3,3),(3,4)]) (tot:=5) (by kernel_rfl) (hval 0 26 v0 rfl rfl)
 have e0:=c0.argS
 obtain⟨a1,w1,c1⟩:=Rd.open (fun N=>QEL N) h1
 obtain⟨_,_,_,rfl⟩:=okWide_slice Tryz.underlying28 (hval 1 28 v1 rfl rfl)
 have e1:=(Cl.arg1 rfl c1)
 obtain⟨a2,w2,c2⟩:=Rd.open (fun N=>QEM N) h2
 obtain⟨_,rfl⟩:=QzD (P:=Tryz.prog) (t:=31) (fs:=[(3,0),(29,1),(29,2),(29,3)]) (tot:=4) (by kernel_rfl) (hval 2 31 v2 rfl rfl)
 have e2:=c2.argS
 refine(Qc.law (us:=[.agg (Qd a0),.sl 1 (a1.map Qf),.agg (Qk a2)]) (QtT a0 a1 a2 (hF a0 a1 a2 w0 w1 w2)) (QC6 hL) rfl (fun j x v hx hv=>?_)).mono fun e W2 ⟨he,hb⟩=>?_
 ·match j with
  | 0=>cases hx;cases hv;exact e0
  | 1=>cases hx;cases hv;exact e1
  | 2=>cases hx;cases hv;exact e2
  | j+3=>simp at hx
 subst he
 exact⟨_,rfl,QCP QDF QC4 hW1 rfl hb rfl Tryz.underlying4 rfl rfl rfl⟩
theorem proved_of (hF:∀(a0:Qq) (a1:(List (List (Int×Int)))) (a2:Qp),Qsq a0->(okL (okL Qso)) a1->QwN a2->QfQ a0 a1 a2=some true):Rows.FireDoesSaid:=
 OpenClaim.holds_of_wide 3 Tryz.f3 rfl rfl rfl rfl rfl rfl rfl ⟨rfl,rfl,rfl,rfl,rfl⟩ rfl rfl rfl rfl rfl (by kernel_rfl) Tryz.func3 (by kernel_rfl)
  (Qai (by kernel_rfl)) (by unfold Func.isWrapper;first | (rw [if_pos (by decide +kernel)];kernel_rfl) | (rw [if_neg (by decide +kernel)];exact⟨rfl,rfl⟩))
  (fun os started H enc _=>QEd hF os started H enc)
theorem card_of (hs:Rows.FireDoesSaid):Rows.FireDoesCardSaid:=
 Claim7.holds_tied_plain_at .later [] [.listed,.data] true (true, "55a32eb73a824f972e2f3ec437ce2d921973ab58bea41a2c34a0dbeb3863f61f") false
  hs (fun _ h=>by cases h) (by kernel_rfl) (fun _ h=>by cases h) fireDoes_row_tie rfl ⟨rfl,rfl⟩ (by kernel_rfl) rfl
  (fun f fn hf hfn=>by
   obtain rfl:f=3:=Option.some.inj ((show Tryz.prog.funcNamed "baldric/baldriclaw11.FireDoes" = some 3 by kernel_rfl).symm.trans hf) |>.symm
   obtain rfl:fn=Tryz.f3:=(Option.some.inj (Tryz.func3.symm.trans hfn)).symm
   exact⟨by kernel_rfl,fun j t ht=>by
    rw [Tryz.params3]at ht
    have hm:t∈[26,28,31]:=by simpa using Array.mem_of_getElem? ht
    have hall:([26,28,31].all fun u=>!Tryz.prog.wantsStandIn u)=true:=by kernel_rfl
    exact(show Tryz.prog.wantsStandIn t=false by simpa using Q9.1 hall t hm)⟩)
  (by kernel_rfl)
end LawFireDoes
theorem kE {e:Qh}(h:Qkf e):Qcz e:=by
 induction h with
 | mk x _ _ h1 _ ih=>exact .mk x h1 ih
theorem kL {α:Type}{p q:α->Prop}(f:∀x,p x->q x){l:List α}(h:okL p l):QI q l:=⟨h.1,fun x hx=>f x (h.2 x hx)⟩
theorem kA {a:Qap}(h:Qsp a):Qiu a:=⟨trivial,kE h.2⟩
theorem QEY {n:Qq}(h:Qsq n):QZ n:=
 ⟨kL (fun c hc=>⟨hc.1,trivial,trivial,trivial,kL (fun s hs=>hs) hc.2.2.2.2.1,trivial,trivial⟩) h.1,kL (fun p hp=>⟨hp.1,trivial,kL (fun _ _=>trivial) hp.2.2⟩) h.2.1,
  kL (fun t ht=>⟨ht.1,kL (fun v hv=>⟨hv.1,trivial⟩) ht.2.1,kE ht.2.2.1,trivial,trivial,kL (fun _ h=>kA h) ht.2.2.2.2.2.1,kL (fun _ h=>kA h) ht.2.2.2.2.2.2.1,kL (fun _ _=>trivial) ht.2.2.2.2.2.2.2.1,trivial,trivial⟩) h.2.2.1,trivial,trivial⟩
theorem QAa {x:Int}(h:okI .i64 x):InI x:=by
 have h1:IntKind.min .i64=-9223372036854775808:=rfl
 have h2:IntKind.max .i64=9223372036854775807:=rfl
 unfold okI at h
 rw [h1,h2]at h
 exact h
theorem rE {e:Qh}(h:Qkf e):RE e:=by
 induction h with
 | mk x _ hn _ _ ih=>exact .mk x (QAa hn) ih
theorem QEZ {n:Qq}(h:Qsq n):RN n:=
 ⟨fun c hc=>⟨QAa (h.1.2 c hc).2.2.1,QAa (h.1.2 c hc).2.2.2.1⟩,fun t ht=>rE (h.2.2.1.2 t ht).2.2.1,fun t ht a ha=>rE ((h.2.2.1.2 t ht).2.2.2.2.2.1.2 a ha).2,fun t ht a ha=>rE ((h.2.2.1.2 t ht).2.2.2.2.2.2.1.2 a ha).2⟩
theorem proved : Rows.FireDoesCardSaid:=LawFireDoes.card_of (LawFireDoes.proved_of fun a0 a1 a2 h0 h1 _=>QCr (QEY h0) (QEZ h0) (kL (fun b hb=>kL (fun _ _=>trivial) hb) h1))

end Go.Proofs.YtpijolohkdchcaaGreatDoor
