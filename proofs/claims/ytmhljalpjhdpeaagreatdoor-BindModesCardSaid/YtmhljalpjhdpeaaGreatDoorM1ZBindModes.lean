/- BindModes, as it is given: of any net, marking, task and most it answers true, with no condition but what its row asks of all calls. -/
import Derived.Test.YtmhljalpjhdpeaaGreatDoorM1P3
import Derived.Test.YtmhljalpjhdpeaaGreatDoorM1T3
import Derived.Test.YtmhljalpjhdpeaaGreatDoorM1V3
import Derived.Test.YtmhljalpjhdpeaaGreatDoorRows
import Derived.Test.YtmhljalpjhdpeaaGreatDoorTie
import Derived.Test.YtmhljalpjhdpeaaGreatDoorCards
import Derived.SevenTiedAt
import Derived.WalkKit
import Derived.ProofKit
import Derived.OpenShut
set_option linter.unusedVariables false
set_option linter.unusedSimpArgs false
set_option linter.unusedSectionVars false
set_option linter.deprecated false
noncomputable section
namespace Go.Proofs.YtmhljalpjhdpeaaGreatDoor
open Go Go.RowKit Go.Vm Go.ChangeShapes Go.WideShapes Go.ChangeAt
theorem Qzw {H:Type}{enc:TypeId×Value->H}{w:World}(N:Nat):Rd enc Tryz.prog w N 9 Qcx (fun x _=>okS x):=(Rd.string (by kernel_rfl)).map id (fun _=>rfl) fun _ _ h=>h.1
theorem Qga {H:Type}{enc:TypeId×Value->H}{w:World}(N:Nat):Rd enc Tryz.prog w N 3 Qe (fun x _=>(okI .i64) x):=(Rd.int (by kernel_rfl)).map id (fun _=>rfl) fun _ _ h=>QDr h
theorem QEc {H:Type}{enc:TypeId×Value->H}{w:World}(N:Nat):Rd enc Tryz.prog w N 94 QDt (fun x _=>(okL okS) x):=(Rd.slice (e:=9) (z:=1) (by kernel_rfl) (by kernel_rfl) (by decide) (fun x=>Qk4 rfl) (Qzw N)).map id (fun _=>rfl) fun _ _ h=>QjQ h
def Qs0 (x:QD):Prop:=okS x.Name/\(okI .i64) x.Kind/\(okI .i64) x.Lo/\(okI .i64) x.Hi/\(okL okS) x.Names/\(okI .i64) x.First/\(okI .i64) x.Then
theorem QEd {H:Type}{enc:TypeId×Value->H}{w:World}(N:Nat):Rd enc Tryz.prog w N 96 Qq (fun x _=>Qs0 x):=by
 have h0:=(Rd.struct (fs:=[(9,0),(3,1),(3,2),(3,3),(94,4),(3,5),(3,6)]) (tot:=7) (N:=N) (t:=96) (P:=Tryz.prog) (w:=w) (enc:=enc) (by kernel_rfl) (RdF.cons 9 0 1 (by kernel_rfl) (Qzw N) (RdF.cons 3 1 1 (by kernel_rfl) (Qga N) (RdF.cons 3 2 1 (by kernel_rfl) (Qga N) (RdF.cons 3 3 1 (by kernel_rfl) (Qga N) (RdF.cons 94 4 1 (by kernel_rfl) (QEc N) (RdF.cons 3 5 1 (by kernel_rfl) (Qga N) (RdF.cons 3 6 1 (by kernel_rfl) (Qga N) RdF.nil))))))))
 exact(h0.map (fun x=>⟨x.1,x.2.1,x.2.2.1,x.2.2.2.1,x.2.2.2.2.1,x.2.2.2.2.2.1,x.2.2.2.2.2.2.1⟩) (fun _=>rfl) (fun x d h=>by obtain⟨_,rfl,h⟩:=h;obtain⟨_,_,rfl,a0,h⟩:=h;obtain⟨_,_,rfl,a1,h⟩:=h;obtain⟨_,_,rfl,a2,h⟩:=h;obtain⟨_,_,rfl,a3,h⟩:=h;obtain⟨_,_,rfl,a4,h⟩:=h;obtain⟨_,_,rfl,a5,h⟩:=h;obtain⟨_,_,rfl,a6,h⟩:=h;exact⟨a0,a1,a2,a3,a4,a5,a6⟩)).mono (Nat.le_succ N)
theorem QEe {H:Type}{enc:TypeId×Value->H}{w:World}(N:Nat):Rd enc Tryz.prog w N 22 Qzc (fun x _=>(okL Qs0) x):=(Rd.slice (e:=96) (z:=7) (by kernel_rfl) (by kernel_rfl) (by decide) (fun x=>Qk4 rfl) (QEd N)).map id (fun _=>rfl) fun _ _ h=>QjQ h
def Qr3 (x:(Int×Int)):Prop:=(okI .i64) x.1/\(okI .i64) x.2
theorem QEf {H:Type}{enc:TypeId×Value->H}{w:World}(N:Nat):Rd enc Tryz.prog w N 58 Qp (fun x _=>Qr3 x):=by
 have h0:=(Rd.array (e:=3) (n:=2) (tot:=2) (fs:=[(3,0),(3,1)]) (N:=N) (t:=58) (P:=Tryz.prog) (w:=w) (enc:=enc) (by kernel_rfl) (RdF.cons 3 0 1 (by kernel_rfl) (Qga N) (RdF.cons 3 1 1 (by kernel_rfl) (Qga N) RdF.nil)))
 exact(h0.map (fun x=>⟨x.1,x.2.1⟩) (fun _=>rfl) (fun x d h=>by obtain⟨_,rfl,h⟩:=h;obtain⟨_,_,rfl,a0,h⟩:=h;obtain⟨_,_,rfl,a1,h⟩:=h;exact⟨a0,a1⟩)).mono (Nat.le_succ N)
theorem QCO {H:Type}{enc:TypeId×Value->H}{w:World}(N:Nat):Rd enc Tryz.prog w N 40 Qs (fun x _=>(okL Qr3) x):=(Rd.slice (e:=58) (z:=2) (by kernel_rfl) (by kernel_rfl) (by decide) (fun x=>Qk4 rfl) (QEf N)).map id (fun _=>rfl) fun _ _ h=>QjQ h
def QuH (x:Q4):Prop:=okS x.Name/\(okI .i64) x.Colour/\(okL Qr3) x.First
theorem QEg {H:Type}{enc:TypeId×Value->H}{w:World}(N:Nat):Rd enc Tryz.prog w N 98 QC (fun x _=>QuH x):=by
 have h0:=(Rd.struct (fs:=[(9,0),(3,1),(40,2)]) (tot:=3) (N:=N) (t:=98) (P:=Tryz.prog) (w:=w) (enc:=enc) (by kernel_rfl) (RdF.cons 9 0 1 (by kernel_rfl) (Qzw N) (RdF.cons 3 1 1 (by kernel_rfl) (Qga N) (RdF.cons 40 2 1 (by kernel_rfl) (QCO N) RdF.nil))))
 exact(h0.map (fun x=>⟨x.1,x.2.1,x.2.2.1⟩) (fun _=>rfl) (fun x d h=>by obtain⟨_,rfl,h⟩:=h;obtain⟨_,_,rfl,a0,h⟩:=h;obtain⟨_,_,rfl,a1,h⟩:=h;obtain⟨_,_,rfl,a2,h⟩:=h;exact⟨a0,a1,a2⟩)).mono (Nat.le_succ N)
theorem QEh {H:Type}{enc:TypeId×Value->H}{w:World}(N:Nat):Rd enc Tryz.prog w N 23 QzI (fun x _=>(okL QuH) x):=(Rd.slice (e:=98) (z:=3) (by kernel_rfl) (by kernel_rfl) (by decide) (fun x=>Qk4 rfl) (QEg N)).map id (fun _=>rfl) fun _ _ h=>QjQ h
def Qx5 (x:Qaw):Prop:=okS x.Name/\(okI .i64) x.Colour
theorem QEi {H:Type}{enc:TypeId×Value->H}{w:World}(N:Nat):Rd enc Tryz.prog w N 86 QO (fun x _=>Qx5 x):=by
 have h0:=(Rd.struct (fs:=[(9,0),(3,1)]) (tot:=2) (N:=N) (t:=86) (P:=Tryz.prog) (w:=w) (enc:=enc) (by kernel_rfl) (RdF.cons 9 0 1 (by kernel_rfl) (Qzw N) (RdF.cons 3 1 1 (by kernel_rfl) (Qga N) RdF.nil)))
 exact(h0.map (fun x=>⟨x.1,x.2.1⟩) (fun _=>rfl) (fun x d h=>by obtain⟨_,rfl,h⟩:=h;obtain⟨_,_,rfl,a0,h⟩:=h;obtain⟨_,_,rfl,a1,h⟩:=h;exact⟨a0,a1⟩)).mono (Nat.le_succ N)
theorem QEj {H:Type}{enc:TypeId×Value->H}{w:World}(N:Nat):Rd enc Tryz.prog w N 45 Qcm (fun x _=>(okL Qx5) x):=(Rd.slice (e:=86) (z:=2) (by kernel_rfl) (by kernel_rfl) (by decide) (fun x=>Qk4 rfl) (QEi N)).map id (fun _=>rfl) fun _ _ h=>QjQ h
theorem Qxn (x:Qh):Qk x=[.i .i64 x.Kind,.i .i64 x.Num,.sl 3 (Qbg x.Kids)]:=by cases x;rw [Qk]
inductive Qkc : Qh->Prop where
 | mk (x:Qh):(okI .i64) x.Kind->(okI .i64) x.Num->x.Kids.length<=maxLen->(∀k∈x.Kids,Qkc k)->Qkc x
theorem QCP {H:Type}{enc:TypeId×Value->H}{w:World}(N:Nat):Rd enc Tryz.prog w N 48 Qk (fun x _=>Qkc x):=by
 induction N with
 | zero=>exact Rd.zero
 | succ N ih=>
  have h0:=(Rd.struct (fs:=[(3,0),(3,1),(46,2)]) (tot:=3) (N:=N) (t:=48) (P:=Tryz.prog) (w:=w) (enc:=enc) (by kernel_rfl) (RdF.cons 3 0 1 (by kernel_rfl) (Qga N) (RdF.cons 3 1 1 (by kernel_rfl) (Qga N) (RdF.cons 46 2 1 (by kernel_rfl) (Rd.slice (e:=48) (z:=3) (by kernel_rfl) (by kernel_rfl) (by decide) (fun x=>Qk4 (by cases x;rfl)) ih) RdF.nil))))
  exact h0.map (fun x=>⟨x.1,x.2.1,x.2.2.1⟩) (fun x=>by simp only [Qk];rw [Qkh];rfl) (fun x d h=>by obtain⟨_,rfl,h⟩:=h;obtain⟨_,_,rfl,a0,h⟩:=h;obtain⟨_,_,rfl,a1,h⟩:=h;obtain⟨_,_,rfl,a2,h⟩:=h;exact Qkc.mk _ a0 a1 (QjQ a2).1 (QjQ a2).2)
def Qr4 (x:Qat):Prop:=(okI .i64) x.Place/\Qkc x.Expr
theorem QDO {H:Type}{enc:TypeId×Value->H}{w:World}(N:Nat):Rd enc Tryz.prog w N 100 Q2 (fun x _=>Qr4 x):=by
 have h0:=(Rd.struct (fs:=[(3,0),(48,1)]) (tot:=4) (N:=N) (t:=100) (P:=Tryz.prog) (w:=w) (enc:=enc) (by kernel_rfl) (RdF.cons 3 0 1 (by kernel_rfl) (Qga N) (RdF.cons 48 1 3 (by kernel_rfl) (QCP N) RdF.nil)))
 exact(h0.map (fun x=>⟨x.1,x.2.1⟩) (fun x=>by rw [Qxn];rfl) (fun x d h=>by obtain⟨_,rfl,h⟩:=h;obtain⟨_,_,rfl,a0,h⟩:=h;obtain⟨_,_,rfl,a1,h⟩:=h;exact⟨a0,a1⟩)).mono (Nat.le_succ N)
theorem QCQ {H:Type}{enc:TypeId×Value->H}{w:World}(N:Nat):Rd enc Tryz.prog w N 49 QBl (fun x _=>(okL Qr4) x):=(Rd.slice (e:=100) (z:=4) (by kernel_rfl) (by kernel_rfl) (by decide) (fun x=>Qk4 rfl) (QDO N)).map id (fun _=>rfl) fun _ _ h=>QjQ h
theorem QEk {H:Type}{enc:TypeId×Value->H}{w:World}(N:Nat):Rd enc Tryz.prog w N 35 Qu (fun x _=>(okL (okI .i64)) x):=(Rd.slice (e:=3) (z:=1) (by kernel_rfl) (by kernel_rfl) (by decide) (fun x=>Qk4 rfl) (Qga N)).map id (fun _=>rfl) fun _ _ h=>QjQ h
def QBS (x:(Int×Int×Int)):Prop:=(okI .i64) x.1/\(okI .i64) x.2.1/\(okI .i64) x.2.2
theorem QEl {H:Type}{enc:TypeId×Value->H}{w:World}(N:Nat):Rd enc Tryz.prog w N 50 QxF (fun x _=>QBS x):=by
 have h0:=(Rd.array (e:=3) (n:=3) (tot:=3) (fs:=[(3,0),(3,1),(3,2)]) (N:=N) (t:=50) (P:=Tryz.prog) (w:=w) (enc:=enc) (by kernel_rfl) (RdF.cons 3 0 1 (by kernel_rfl) (Qga N) (RdF.cons 3 1 1 (by kernel_rfl) (Qga N) (RdF.cons 3 2 1 (by kernel_rfl) (Qga N) RdF.nil))))
 exact(h0.map (fun x=>⟨x.1,x.2.1,x.2.2.1⟩) (fun _=>rfl) (fun x d h=>by obtain⟨_,rfl,h⟩:=h;obtain⟨_,_,rfl,a0,h⟩:=h;obtain⟨_,_,rfl,a1,h⟩:=h;obtain⟨_,_,rfl,a2,h⟩:=h;exact⟨a0,a1,a2⟩)).mono (Nat.le_succ N)
def Qwt (x:QF):Prop:=okS x.Name/\(okL Qx5) x.Vars/\Qkc x.Guard/\(okI .i64) x.Join/\(okI .i64) x.Split/\(okL Qr4) x.Ins/\(okL Qr4) x.Outs/\(okL (okI .i64)) x.Cancel/\(okI .i64) x.After/\QBS x.Many
theorem QEm {H:Type}{enc:TypeId×Value->H}{w:World}(N:Nat):Rd enc Tryz.prog w N 52 Qj (fun x _=>Qwt x):=by
 have h0:=(Rd.struct (fs:=[(9,0),(45,1),(48,2),(3,5),(3,6),(49,7),(49,8),(35,9),(3,10),(50,11)]) (tot:=14) (N:=N) (t:=52) (P:=Tryz.prog) (w:=w) (enc:=enc) (by kernel_rfl) (RdF.cons 9 0 1 (by kernel_rfl) (Qzw N) (RdF.cons 45 1 1 (by kernel_rfl) (QEj N) (RdF.cons 48 2 3 (by kernel_rfl) (QCP N) (RdF.cons 3 5 1 (by kernel_rfl) (Qga N) (RdF.cons 3 6 1 (by kernel_rfl) (Qga N) (RdF.cons 49 7 1 (by kernel_rfl) (QCQ N) (RdF.cons 49 8 1 (by kernel_rfl) (QCQ N) (RdF.cons 35 9 1 (by kernel_rfl) (QEk N) (RdF.cons 3 10 1 (by kernel_rfl) (Qga N) (RdF.cons 50 11 3 (by kernel_rfl) (QEl N) RdF.nil)))))))))))
 exact(h0.map (fun x=>⟨x.1,x.2.1,x.2.2.1,x.2.2.2.1,x.2.2.2.2.1,x.2.2.2.2.2.1,x.2.2.2.2.2.2.1,x.2.2.2.2.2.2.2.1,x.2.2.2.2.2.2.2.2.1,x.2.2.2.2.2.2.2.2.2.1⟩) (fun x=>by rw [Qxn];rfl) (fun x d h=>by obtain⟨_,rfl,h⟩:=h;obtain⟨_,_,rfl,a0,h⟩:=h;obtain⟨_,_,rfl,a1,h⟩:=h;obtain⟨_,_,rfl,a2,h⟩:=h;obtain⟨_,_,rfl,a3,h⟩:=h;obtain⟨_,_,rfl,a4,h⟩:=h;obtain⟨_,_,rfl,a5,h⟩:=h;obtain⟨_,_,rfl,a6,h⟩:=h;obtain⟨_,_,rfl,a7,h⟩:=h;obtain⟨_,_,rfl,a8,h⟩:=h;obtain⟨_,_,rfl,a9,h⟩:=h;exact⟨a0,a1,a2,a3,a4,a5,a6,a7,a8,a9⟩)).mono (Nat.le_succ N)
theorem QEn {H:Type}{enc:TypeId×Value->H}{w:World}(N:Nat):Rd enc Tryz.prog w N 24 QAw (fun x _=>(okL Qwt) x):=(Rd.slice (e:=52) (z:=14) (by kernel_rfl) (by kernel_rfl) (by decide) (fun x=>Qk4 rfl) (QEm N)).map id (fun _=>rfl) fun _ _ h=>QjQ h
def Qr5 (x:Qn):Prop:=(okL Qs0) x.Colours/\(okL QuH) x.Places/\(okL Qwt) x.Tasks/\(okI .i64) x.From/\(okI .i64) x.To
theorem QEo {H:Type}{enc:TypeId×Value->H}{w:World}(N:Nat):Rd enc Tryz.prog w N 26 Qd (fun x _=>Qr5 x):=by
 have h0:=(Rd.struct (fs:=[(22,0),(23,1),(24,2),(3,3),(3,4)]) (tot:=5) (N:=N) (t:=26) (P:=Tryz.prog) (w:=w) (enc:=enc) (by kernel_rfl) (RdF.cons 22 0 1 (by kernel_rfl) (QEe N) (RdF.cons 23 1 1 (by kernel_rfl) (QEh N) (RdF.cons 24 2 1 (by kernel_rfl) (QEn N) (RdF.cons 3 3 1 (by kernel_rfl) (Qga N) (RdF.cons 3 4 1 (by kernel_rfl) (Qga N) RdF.nil))))))
 exact(h0.map (fun x=>⟨x.1,x.2.1,x.2.2.1,x.2.2.2.1,x.2.2.2.2.1⟩) (fun _=>rfl) (fun x d h=>by obtain⟨_,rfl,h⟩:=h;obtain⟨_,_,rfl,a0,h⟩:=h;obtain⟨_,_,rfl,a1,h⟩:=h;obtain⟨_,_,rfl,a2,h⟩:=h;obtain⟨_,_,rfl,a3,h⟩:=h;obtain⟨_,_,rfl,a4,h⟩:=h;exact⟨a0,a1,a2,a3,a4⟩)).mono (Nat.le_succ N)
theorem QEp {H:Type}{enc:TypeId×Value->H}{w:World}(N:Nat):Rd enc Tryz.prog w N 28 Qao (fun x _=>(okL (okL Qr3)) x):=(Rd.slice (e:=40) (z:=1) (by kernel_rfl) (by kernel_rfl) (by decide) (fun x=>Qk4 rfl) (QCO N)).map id (fun _=>rfl) fun _ _ h=>QjQ h
namespace LawBindModes
theorem own : ownKnob Tryz.prog.godebug=none:=by kernel_rfl
theorem QDg : laidOutB Tryz.prog=true:=by kernel_rfl
theorem QCF : ∀t∈Tryz.f3.params.toList,Tryz.prog.readableRec t=true/\t<Tryz.prog.types.size:=by
 have h:(Tryz.f3.params.toList.all fun t=>Tryz.prog.readableRec t&&decide (t<Tryz.prog.types.size))=true:=by kernel_rfl
 intro t ht
 have:=Qad.1 h t ht
 rw [QB,QQ]at this
 exact this
theorem QCG (os:Os)(args:Array Value):laidMetH Tryz.prog Rows.bindModesRow.laid ((World.doorLaid Tryz.prog 33 os).forCall (fun _ _=>0) ⟨#[],args,[]⟩).memory:=
 laidMetH_of_parts3 (fuel:=8) (laidMet_of_run' 8 (by kernel_rfl) (by kernel_rfl)) (by kernel_rfl) (by kernel_rfl)
theorem QCH {W:World}(h:laidMetH Tryz.prog Rows.bindModesRow.laid W):QmY Tryz.prog (fun k=>k<W.heap.size) W:=
 Qza (r:=[]) (g:=0) (t:=228) (e:=5) 1 (by kernel_rfl) (by kernel_rfl) (by kernel_rfl) (by kernel_rfl) (by kernel_rfl) (by kernel_rfl) (by kernel_rfl) (by kernel_rfl) h
set_option maxRecDepth 100000 in
theorem QDP (hF:∀(a0:Qn) (a1:(List (List (Int×Int)))) (a2:Int) (a3:Int),Qr5 a0->(okL (okL Qr3)) a1->(okI .i64) a2->(okI .i64) a3->Qfr a0 a1 a2 a3=some true)(os:Os)(started:os.Started)(H:Type)(enc:TypeId×Value->H):
  ReturnsInHanded {} Tryz.checked os 3 .any (fun w args=>(Rows.bindModesSpec.pre enc Tryz.prog Tryz.f3 Rows.bindModesRow.domain false w args/\laidMetH Tryz.prog Rows.bindModesRow.laid w)/\sizedMet enc Tryz.prog Tryz.f3 (OpenSpec.ofChange Rows.bindModesSpec) false w args) (Rows.bindModesSpec.post enc Tryz.prog Tryz.f3 false true false false):=by
 refine returnsInHanded_of_change_and (C:=Tryz.checked) (X:=fun w _=>laidMetH Tryz.prog Rows.bindModesRow.laid w) (fun _ _ _ hh h=>h.of_heap hh) own started (by kernel_rfl) Tryz.func3
  (ChangeSpec.witness_shaped (enc:=enc) (C:=Tryz.checked) (os:=os) (X:=fun w _=>laidMetH Tryz.prog Rows.bindModesRow.laid w) false (World.doorLaid Tryz.prog 33 os) #[.agg #[.slice none 0 0,.slice none 0 0,.slice none 0 0,.int .i64 0,.int .i64 0],.slice none 0 0,.int .i64 0,.int .i64 0] 8 rfl (World.shaped_of_RefB (by kernel_rfl) (by kernel_rfl)) (by kernel_rfl) (by kernel_rfl) (by kernel_rfl) (QCG os _)) ?_
 intro W base args ds gs before hval0 hW hcnd hz hL _
 have hval:∀(j:Nat) t v,Tryz.f3.params[j]? = some t->args[j]? = some v->Value.okWide Tryz.prog W .any base t v:=hval0
 have hW1:=hW
 obtain⟨p,q,hA0,hV,_,_,_⟩:=hW
 obtain⟨rfl,_⟩:=trodVars_none hV
 have hA:DataW.TrodAll enc Tryz.prog W 0 (fun _=>true) true Tryz.f3.params.toList args.toList ds p:=hA0
 rw [Tryz.params3]at hA hval
 obtain⟨v0,vs0,d0,ds0,p0,q0,hargs,rfl,_,h0,r0⟩:=trodAll_cons hA
 obtain⟨v1,vs1,d1,ds1,p1,q1,rfl,rfl,_,h1,r1⟩:=trodAll_cons r0
 obtain⟨v2,vs2,d2,ds2,p2,q2,rfl,rfl,_,h2,r2⟩:=trodAll_cons r1
 obtain⟨v3,vs3,d3,ds3,p3,q3,rfl,rfl,_,h3,r3⟩:=trodAll_cons r2
 obtain⟨rfl,rfl,_⟩:=trodAll_nil r3
 obtain rfl:args=#[v0,v1,v2,v3]:=by cases args;simp_all
 obtain⟨a0,w0,c0⟩:=Rd.open (fun N=>QEo N) h0
 obtain⟨_,rfl⟩:=QCf (P:=Tryz.prog) (t:=26) (fs:=[(22,0),(23,1),(24,2),(3,3),(3,4)]) (tot:=5) (by kernel_rfl) (hval 0 26 v0 rfl rfl)
 have e0:=c0.argS
 obtain⟨a1,w1,c1⟩:=Rd.open (fun N=>QEp N) h1
 obtain⟨_,_,_,rfl⟩:=okWide_slice Tryz.underlying28 (hval 1 28 v1 rfl rfl)
 have e1:=(Cl.arg1 rfl c1)
 obtain⟨a2,w2,c2⟩:=Rd.open (fun N=>Qga N) h2
 obtain⟨_,rfl⟩:=okWide_int Tryz.underlying3 (hval 2 3 v2 rfl rfl)
 have e2:=(Cl.arg1 rfl c2)
 obtain⟨a3,w3,c3⟩:=Rd.open (fun N=>Qga N) h3
 obtain⟨_,rfl⟩:=okWide_int Tryz.underlying3 (hval 3 3 v3 rfl rfl)
 have e3:=(Cl.arg1 rfl c3)
 refine(Qc.law (us:=[.agg (Qd a0),.sl 1 (a1.map Qs),.i .i64 a2,.i .i64 a3]) (QsP a0 a1 a2 a3 (hF a0 a1 a2 a3 w0 w1 w2 w3)) (QCH hL) rfl (fun j x v hx hv=>?_)).mono fun e W2 ⟨he,hb⟩=>?_
 ·match j with
  | 0=>cases hx;cases hv;exact e0
  | 1=>cases hx;cases hv;exact e1
  | 2=>cases hx;cases hv;exact e2
  | 3=>cases hx;cases hv;exact e3
  | j+4=>simp at hx
 subst he
 exact⟨_,rfl,QCg QDg QCF hW1 rfl hb rfl Tryz.underlying4 rfl rfl rfl⟩
theorem proved_of (hF:∀(a0:Qn) (a1:(List (List (Int×Int)))) (a2:Int) (a3:Int),Qr5 a0->(okL (okL Qr3)) a1->(okI .i64) a2->(okI .i64) a3->Qfr a0 a1 a2 a3=some true):Rows.BindModesSaid:=
 OpenClaim.holds_of_wide 3 Tryz.f3 rfl rfl rfl rfl rfl rfl rfl ⟨rfl,rfl,rfl,rfl,rfl⟩ rfl rfl rfl rfl rfl (by kernel_rfl) Tryz.func3 (by kernel_rfl)
  (Qap (by kernel_rfl)) (by unfold Func.isWrapper;first | (rw [if_pos (by decide +kernel)];kernel_rfl) | (rw [if_neg (by decide +kernel)];exact⟨rfl,rfl⟩))
  (fun os started H enc _=>QDP hF os started H enc)
theorem card_of (hs:Rows.BindModesSaid):Rows.BindModesCardSaid:=
 Claim7.holds_tied_plain_at .later [] [.listed,.data] true (true, "19fd64c5862f784c0b5fae8ee2b99057551572d2f7e6e106d9aefd47fc20a008") false
  hs (fun _ h=>by cases h) (by kernel_rfl) (fun _ h=>by cases h) bindModes_row_tie rfl ⟨rfl,rfl⟩ (by kernel_rfl) rfl
  (fun f fn hf hfn=>by
   obtain rfl:f=3:=Option.some.inj ((show Tryz.prog.funcNamed "baldric/baldriclaw10.BindModes" = some 3 by kernel_rfl).symm.trans hf) |>.symm
   obtain rfl:fn=Tryz.f3:=(Option.some.inj (Tryz.func3.symm.trans hfn)).symm
   exact⟨by kernel_rfl,fun j t ht=>by
    rw [Tryz.params3]at ht
    have hm:t∈[26,28,3,3]:=by simpa using Array.mem_of_getElem? ht
    have hall:([26,28,3,3].all fun u=>!Tryz.prog.wantsStandIn u)=true:=by kernel_rfl
    exact(show Tryz.prog.wantsStandIn t=false by simpa using Qad.1 hall t hm)⟩)
  (by kernel_rfl)
end LawBindModes
theorem kE {e:Qh}(h:Qkc e):QcG e:=by
 induction h with
 | mk x _ _ h1 _ ih=>exact .mk x h1 ih
theorem kL {α:Type}{p q:α->Prop}(f:∀x,p x->q x){l:List α}(h:okL p l):QH q l:=⟨h.1,fun x hx=>f x (h.2 x hx)⟩
theorem kA {a:Qat}(h:Qr4 a):QiD a:=⟨trivial,kE h.2⟩
theorem QEA {n:Qn}(h:Qr5 n):QX n:=
 ⟨kL (fun c hc=>⟨hc.1,trivial,trivial,trivial,kL (fun s hs=>hs) hc.2.2.2.2.1,trivial,trivial⟩) h.1,kL (fun p hp=>⟨hp.1,trivial,kL (fun _ _=>trivial) hp.2.2⟩) h.2.1,
  kL (fun t ht=>⟨ht.1,kL (fun v hv=>⟨hv.1,trivial⟩) ht.2.1,kE ht.2.2.1,trivial,trivial,kL (fun _ h=>kA h) ht.2.2.2.2.2.1,kL (fun _ h=>kA h) ht.2.2.2.2.2.2.1,kL (fun _ _=>trivial) ht.2.2.2.2.2.2.2.1,trivial,trivial⟩) h.2.2.1,trivial,trivial⟩
theorem Qxo {x:Int}(h:okI .i64 x):InI x:=by
 have h1:IntKind.min .i64=-9223372036854775808:=rfl
 have h2:IntKind.max .i64=9223372036854775807:=rfl
 unfold okI at h
 rw [h1,h2]at h
 exact h
theorem rE {e:Qh}(h:Qkc e):RE e:=by
 induction h with
 | mk x _ hn _ _ ih=>exact .mk x (Qxo hn) ih
theorem QEB {n:Qn}(h:Qr5 n):RN n:=
 ⟨fun c hc=>⟨Qxo (h.1.2 c hc).2.2.1,Qxo (h.1.2 c hc).2.2.2.1⟩,fun t ht=>rE (h.2.2.1.2 t ht).2.2.1,fun t ht a ha=>rE ((h.2.2.1.2 t ht).2.2.2.2.2.1.2 a ha).2,fun t ht a ha=>rE ((h.2.2.1.2 t ht).2.2.2.2.2.2.1.2 a ha).2⟩
theorem proved : Rows.BindModesCardSaid:=LawBindModes.card_of (LawBindModes.proved_of fun a0 a1 a2 a3 h0 h1 _ h3=>QAW (QEA h0) (QEB h0) (kL (fun b hb=>kL (fun _ _=>trivial) hb) h1) (Qxo h3))

end Go.Proofs.YtmhljalpjhdpeaaGreatDoor
