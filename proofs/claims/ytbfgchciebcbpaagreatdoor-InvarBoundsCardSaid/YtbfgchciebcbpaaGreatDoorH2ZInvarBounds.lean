/- InvarBounds, as it is given: of any net, marking and picks it answers true, with no condition but what its row asks of all calls. -/
import Derived.Test.YtbfgchciebcbpaaGreatDoorH2P3
import Derived.Test.YtbfgchciebcbpaaGreatDoorH2T3
import Derived.Test.YtbfgchciebcbpaaGreatDoorH2V3
import Derived.Test.YtbfgchciebcbpaaGreatDoorRows
import Derived.Test.YtbfgchciebcbpaaGreatDoorTie
import Derived.Test.YtbfgchciebcbpaaGreatDoorCards
import Derived.SevenTiedAt
import Derived.WalkKit
import Derived.ProofKit
import Derived.OpenShut
set_option linter.unusedVariables false
set_option linter.unusedSimpArgs false
set_option linter.unusedSectionVars false
set_option linter.deprecated false
noncomputable section
namespace Go.Proofs.YtbfgchciebcbpaaGreatDoor
open Go Go.RowKit Go.Vm Go.ChangeShapes Go.WideShapes Go.ChangeAt
theorem QAq {H:Type}{enc:TypeId×Value→H}{w:World}(N:Nat):Rd enc Tryz.prog w N 9 Qet (fun x _=>okS x):=(Rd.string (by kernel_rfl)).map id (fun _=>rfl) fun _ _ h=>h.1
theorem QhL {H:Type}{enc:TypeId×Value→H}{w:World}(N:Nat):Rd enc Tryz.prog w N 3 Qb (fun x _=>(okI .i64) x):=(Rd.int (by kernel_rfl)).map id (fun _=>rfl) fun _ _ h=>QED h
theorem QFm {H:Type}{enc:TypeId×Value→H}{w:World}(N:Nat):Rd enc Tryz.prog w N 100 QEE (fun x _=>(okL okS) x):=(Rd.slice (e:=9) (z:=1) (by kernel_rfl) (by kernel_rfl) (by decide) (fun x=>Ql1 rfl) (QAq N)).map id (fun _=>rfl) fun _ _ h=>Qkz h
def Qtx (x:QO):Prop:=okS x.Name∧(okI .i64) x.Kind∧(okI .i64) x.Lo∧(okI .i64) x.Hi∧(okL okS) x.Names∧(okI .i64) x.First∧(okI .i64) x.Then
theorem QFn {H:Type}{enc:TypeId×Value→H}{w:World}(N:Nat):Rd enc Tryz.prog w N 102 QF (fun x _=>Qtx x):=by
 have h0:=(Rd.struct (fs:=[(9,0),(3,1),(3,2),(3,3),(100,4),(3,5),(3,6)]) (tot:=7) (N:=N) (t:=102) (P:=Tryz.prog) (w:=w) (enc:=enc) (by kernel_rfl) (RdF.cons 9 0 1 (by kernel_rfl) (QAq N) (RdF.cons 3 1 1 (by kernel_rfl) (QhL N) (RdF.cons 3 2 1 (by kernel_rfl) (QhL N) (RdF.cons 3 3 1 (by kernel_rfl) (QhL N) (RdF.cons 100 4 1 (by kernel_rfl) (QFm N) (RdF.cons 3 5 1 (by kernel_rfl) (QhL N) (RdF.cons 3 6 1 (by kernel_rfl) (QhL N) RdF.nil))))))))
 exact(h0.map (fun x=>⟨x.1,x.2.1,x.2.2.1,x.2.2.2.1,x.2.2.2.2.1,x.2.2.2.2.2.1,x.2.2.2.2.2.2.1⟩) (fun _=>rfl) (fun x d h=>by obtain⟨_,rfl,h⟩:=h;obtain⟨_,_,rfl,a0,h⟩:=h;obtain⟨_,_,rfl,a1,h⟩:=h;obtain⟨_,_,rfl,a2,h⟩:=h;obtain⟨_,_,rfl,a3,h⟩:=h;obtain⟨_,_,rfl,a4,h⟩:=h;obtain⟨_,_,rfl,a5,h⟩:=h;obtain⟨_,_,rfl,a6,h⟩:=h;exact⟨a0,a1,a2,a3,a4,a5,a6⟩)).mono (Nat.le_succ N)
theorem QFM {H:Type}{enc:TypeId×Value→H}{w:World}(N:Nat):Rd enc Tryz.prog w N 22 QzQ (fun x _=>(okL Qtx) x):=(Rd.slice (e:=102) (z:=7) (by kernel_rfl) (by kernel_rfl) (by decide) (fun x=>Ql1 rfl) (QFn N)).map id (fun _=>rfl) fun _ _ h=>Qkz h
def QsH (x:(Int×Int)):Prop:=(okI .i64) x.1∧(okI .i64) x.2
theorem QFN {H:Type}{enc:TypeId×Value→H}{w:World}(N:Nat):Rd enc Tryz.prog w N 61 QK (fun x _=>QsH x):=by
 have h0:=(Rd.array (e:=3) (n:=2) (tot:=2) (fs:=[(3,0),(3,1)]) (N:=N) (t:=61) (P:=Tryz.prog) (w:=w) (enc:=enc) (by kernel_rfl) (RdF.cons 3 0 1 (by kernel_rfl) (QhL N) (RdF.cons 3 1 1 (by kernel_rfl) (QhL N) RdF.nil)))
 exact(h0.map (fun x=>⟨x.1,x.2.1⟩) (fun _=>rfl) (fun x d h=>by obtain⟨_,rfl,h⟩:=h;obtain⟨_,_,rfl,a0,h⟩:=h;obtain⟨_,_,rfl,a1,h⟩:=h;exact⟨a0,a1⟩)).mono (Nat.le_succ N)
theorem QDT {H:Type}{enc:TypeId×Value→H}{w:World}(N:Nat):Rd enc Tryz.prog w N 59 Qm (fun x _=>(okL QsH) x):=(Rd.slice (e:=61) (z:=2) (by kernel_rfl) (by kernel_rfl) (by decide) (fun x=>Ql1 rfl) (QFN N)).map id (fun _=>rfl) fun _ _ h=>Qkz h
def Qvb (x:QW):Prop:=okS x.Name∧(okI .i64) x.Colour∧(okL QsH) x.First
theorem QFo {H:Type}{enc:TypeId×Value→H}{w:World}(N:Nat):Rd enc Tryz.prog w N 104 QC (fun x _=>Qvb x):=by
 have h0:=(Rd.struct (fs:=[(9,0),(3,1),(59,2)]) (tot:=3) (N:=N) (t:=104) (P:=Tryz.prog) (w:=w) (enc:=enc) (by kernel_rfl) (RdF.cons 9 0 1 (by kernel_rfl) (QAq N) (RdF.cons 3 1 1 (by kernel_rfl) (QhL N) (RdF.cons 59 2 1 (by kernel_rfl) (QDT N) RdF.nil))))
 exact(h0.map (fun x=>⟨x.1,x.2.1,x.2.2.1⟩) (fun _=>rfl) (fun x d h=>by obtain⟨_,rfl,h⟩:=h;obtain⟨_,_,rfl,a0,h⟩:=h;obtain⟨_,_,rfl,a1,h⟩:=h;obtain⟨_,_,rfl,a2,h⟩:=h;exact⟨a0,a1,a2⟩)).mono (Nat.le_succ N)
theorem QFO {H:Type}{enc:TypeId×Value→H}{w:World}(N:Nat):Rd enc Tryz.prog w N 23 QAD (fun x _=>(okL Qvb) x):=(Rd.slice (e:=104) (z:=3) (by kernel_rfl) (by kernel_rfl) (by decide) (fun x=>Ql1 rfl) (QFo N)).map id (fun _=>rfl) fun _ _ h=>Qkz h
def Qyq (x:QaA):Prop:=okS x.Name∧(okI .i64) x.Colour
theorem QFp {H:Type}{enc:TypeId×Value→H}{w:World}(N:Nat):Rd enc Tryz.prog w N 106 QL (fun x _=>Qyq x):=by
 have h0:=(Rd.struct (fs:=[(9,0),(3,1)]) (tot:=2) (N:=N) (t:=106) (P:=Tryz.prog) (w:=w) (enc:=enc) (by kernel_rfl) (RdF.cons 9 0 1 (by kernel_rfl) (QAq N) (RdF.cons 3 1 1 (by kernel_rfl) (QhL N) RdF.nil)))
 exact(h0.map (fun x=>⟨x.1,x.2.1⟩) (fun _=>rfl) (fun x d h=>by obtain⟨_,rfl,h⟩:=h;obtain⟨_,_,rfl,a0,h⟩:=h;obtain⟨_,_,rfl,a1,h⟩:=h;exact⟨a0,a1⟩)).mono (Nat.le_succ N)
theorem QFP {H:Type}{enc:TypeId×Value→H}{w:World}(N:Nat):Rd enc Tryz.prog w N 68 Qcv (fun x _=>(okL Qyq) x):=(Rd.slice (e:=106) (z:=2) (by kernel_rfl) (by kernel_rfl) (by decide) (fun x=>Ql1 rfl) (QFp N)).map id (fun _=>rfl) fun _ _ h=>Qkz h
theorem QxT (x:Ql):Qp x=[.i .i64 x.Kind,.i .i64 x.Num,.sl 3 (Qby x.Kids)]:=by cases x;rw [Qp]
inductive Qm0 : Ql→Prop where
 | mk (x:Ql):(okI .i64) x.Kind→(okI .i64) x.Num→x.Kids.length≤maxLen→(∀k∈x.Kids,Qm0 k)→Qm0 x
theorem QDU {H:Type}{enc:TypeId×Value→H}{w:World}(N:Nat):Rd enc Tryz.prog w N 71 Qp (fun x _=>Qm0 x):=by
 induction N with
 | zero=>exact Rd.zero
 | succ N ih=>
  have h0:=(Rd.struct (fs:=[(3,0),(3,1),(69,2)]) (tot:=3) (N:=N) (t:=71) (P:=Tryz.prog) (w:=w) (enc:=enc) (by kernel_rfl) (RdF.cons 3 0 1 (by kernel_rfl) (QhL N) (RdF.cons 3 1 1 (by kernel_rfl) (QhL N) (RdF.cons 69 2 1 (by kernel_rfl) (Rd.slice (e:=71) (z:=3) (by kernel_rfl) (by kernel_rfl) (by decide) (fun x=>Ql1 (by cases x;rfl)) ih) RdF.nil))))
  exact h0.map (fun x=>⟨x.1,x.2.1,x.2.2.1⟩) (fun x=>by simp only [Qp];rw [Qk7];rfl) (fun x d h=>by obtain⟨_,rfl,h⟩:=h;obtain⟨_,_,rfl,a0,h⟩:=h;obtain⟨_,_,rfl,a1,h⟩:=h;obtain⟨_,_,rfl,a2,h⟩:=h;exact Qm0.mk _ a0 a1 (Qkz a2).1 (Qkz a2).2)
def QsI (x:QX):Prop:=(okI .i64) x.Place∧Qm0 x.Expr
theorem QFQ {H:Type}{enc:TypeId×Value→H}{w:World}(N:Nat):Rd enc Tryz.prog w N 79 Q2 (fun x _=>QsI x):=by
 have h0:=(Rd.struct (fs:=[(3,0),(71,1)]) (tot:=4) (N:=N) (t:=79) (P:=Tryz.prog) (w:=w) (enc:=enc) (by kernel_rfl) (RdF.cons 3 0 1 (by kernel_rfl) (QhL N) (RdF.cons 71 1 3 (by kernel_rfl) (QDU N) RdF.nil)))
 exact(h0.map (fun x=>⟨x.1,x.2.1⟩) (fun x=>by rw [QxT];rfl) (fun x d h=>by obtain⟨_,rfl,h⟩:=h;obtain⟨_,_,rfl,a0,h⟩:=h;obtain⟨_,_,rfl,a1,h⟩:=h;exact⟨a0,a1⟩)).mono (Nat.le_succ N)
theorem QDV {H:Type}{enc:TypeId×Value→H}{w:World}(N:Nat):Rd enc Tryz.prog w N 72 QCi (fun x _=>(okL QsI) x):=(Rd.slice (e:=79) (z:=4) (by kernel_rfl) (by kernel_rfl) (by decide) (fun x=>Ql1 rfl) (QFQ N)).map id (fun _=>rfl) fun _ _ h=>Qkz h
theorem QDW {H:Type}{enc:TypeId×Value→H}{w:World}(N:Nat):Rd enc Tryz.prog w N 27 Qj (fun x _=>(okL (okI .i64)) x):=(Rd.slice (e:=3) (z:=1) (by kernel_rfl) (by kernel_rfl) (by decide) (fun x=>Ql1 rfl) (QhL N)).map id (fun _=>rfl) fun _ _ h=>Qkz h
def QCQ (x:(Int×Int×Int)):Prop:=(okI .i64) x.1∧(okI .i64) x.2.1∧(okI .i64) x.2.2
theorem QFR {H:Type}{enc:TypeId×Value→H}{w:World}(N:Nat):Rd enc Tryz.prog w N 73 Qx6 (fun x _=>QCQ x):=by
 have h0:=(Rd.array (e:=3) (n:=3) (tot:=3) (fs:=[(3,0),(3,1),(3,2)]) (N:=N) (t:=73) (P:=Tryz.prog) (w:=w) (enc:=enc) (by kernel_rfl) (RdF.cons 3 0 1 (by kernel_rfl) (QhL N) (RdF.cons 3 1 1 (by kernel_rfl) (QhL N) (RdF.cons 3 2 1 (by kernel_rfl) (QhL N) RdF.nil))))
 exact(h0.map (fun x=>⟨x.1,x.2.1,x.2.2.1⟩) (fun _=>rfl) (fun x d h=>by obtain⟨_,rfl,h⟩:=h;obtain⟨_,_,rfl,a0,h⟩:=h;obtain⟨_,_,rfl,a1,h⟩:=h;obtain⟨_,_,rfl,a2,h⟩:=h;exact⟨a0,a1,a2⟩)).mono (Nat.le_succ N)
def QwQ (x:QA):Prop:=okS x.Name∧(okL Qyq) x.Vars∧Qm0 x.Guard∧(okI .i64) x.Join∧(okI .i64) x.Split∧(okL QsI) x.Ins∧(okL QsI) x.Outs∧(okL (okI .i64)) x.Cancel∧(okI .i64) x.After∧QCQ x.Many
theorem QFS {H:Type}{enc:TypeId×Value→H}{w:World}(N:Nat):Rd enc Tryz.prog w N 75 Qh (fun x _=>QwQ x):=by
 have h0:=(Rd.struct (fs:=[(9,0),(68,1),(71,2),(3,5),(3,6),(72,7),(72,8),(27,9),(3,10),(73,11)]) (tot:=14) (N:=N) (t:=75) (P:=Tryz.prog) (w:=w) (enc:=enc) (by kernel_rfl) (RdF.cons 9 0 1 (by kernel_rfl) (QAq N) (RdF.cons 68 1 1 (by kernel_rfl) (QFP N) (RdF.cons 71 2 3 (by kernel_rfl) (QDU N) (RdF.cons 3 5 1 (by kernel_rfl) (QhL N) (RdF.cons 3 6 1 (by kernel_rfl) (QhL N) (RdF.cons 72 7 1 (by kernel_rfl) (QDV N) (RdF.cons 72 8 1 (by kernel_rfl) (QDV N) (RdF.cons 27 9 1 (by kernel_rfl) (QDW N) (RdF.cons 3 10 1 (by kernel_rfl) (QhL N) (RdF.cons 73 11 3 (by kernel_rfl) (QFR N) RdF.nil)))))))))))
 exact(h0.map (fun x=>⟨x.1,x.2.1,x.2.2.1,x.2.2.2.1,x.2.2.2.2.1,x.2.2.2.2.2.1,x.2.2.2.2.2.2.1,x.2.2.2.2.2.2.2.1,x.2.2.2.2.2.2.2.2.1,x.2.2.2.2.2.2.2.2.2.1⟩) (fun x=>by rw [QxT];rfl) (fun x d h=>by obtain⟨_,rfl,h⟩:=h;obtain⟨_,_,rfl,a0,h⟩:=h;obtain⟨_,_,rfl,a1,h⟩:=h;obtain⟨_,_,rfl,a2,h⟩:=h;obtain⟨_,_,rfl,a3,h⟩:=h;obtain⟨_,_,rfl,a4,h⟩:=h;obtain⟨_,_,rfl,a5,h⟩:=h;obtain⟨_,_,rfl,a6,h⟩:=h;obtain⟨_,_,rfl,a7,h⟩:=h;obtain⟨_,_,rfl,a8,h⟩:=h;obtain⟨_,_,rfl,a9,h⟩:=h;exact⟨a0,a1,a2,a3,a4,a5,a6,a7,a8,a9⟩)).mono (Nat.le_succ N)
theorem QFT {H:Type}{enc:TypeId×Value→H}{w:World}(N:Nat):Rd enc Tryz.prog w N 24 QBx (fun x _=>(okL QwQ) x):=(Rd.slice (e:=75) (z:=14) (by kernel_rfl) (by kernel_rfl) (by decide) (fun x=>Ql1 rfl) (QFS N)).map id (fun _=>rfl) fun _ _ h=>Qkz h
def Qvx (x:Qk):Prop:=(okL Qtx) x.Colours∧(okL Qvb) x.Places∧(okL QwQ) x.Tasks∧(okI .i64) x.From∧(okI .i64) x.To
theorem QFU {H:Type}{enc:TypeId×Value→H}{w:World}(N:Nat):Rd enc Tryz.prog w N 26 Qe (fun x _=>Qvx x):=by
 have h0:=(Rd.struct (fs:=[(22,0),(23,1),(24,2),(3,3),(3,4)]) (tot:=5) (N:=N) (t:=26) (P:=Tryz.prog) (w:=w) (enc:=enc) (by kernel_rfl) (RdF.cons 22 0 1 (by kernel_rfl) (QFM N) (RdF.cons 23 1 1 (by kernel_rfl) (QFO N) (RdF.cons 24 2 1 (by kernel_rfl) (QFT N) (RdF.cons 3 3 1 (by kernel_rfl) (QhL N) (RdF.cons 3 4 1 (by kernel_rfl) (QhL N) RdF.nil))))))
 exact(h0.map (fun x=>⟨x.1,x.2.1,x.2.2.1,x.2.2.2.1,x.2.2.2.2.1⟩) (fun _=>rfl) (fun x d h=>by obtain⟨_,rfl,h⟩:=h;obtain⟨_,_,rfl,a0,h⟩:=h;obtain⟨_,_,rfl,a1,h⟩:=h;obtain⟨_,_,rfl,a2,h⟩:=h;obtain⟨_,_,rfl,a3,h⟩:=h;obtain⟨_,_,rfl,a4,h⟩:=h;exact⟨a0,a1,a2,a3,a4⟩)).mono (Nat.le_succ N)
theorem QFV {H:Type}{enc:TypeId×Value→H}{w:World}(N:Nat):Rd enc Tryz.prog w N 29 Qaj (fun x _=>(okL (okL QsH)) x):=(Rd.slice (e:=59) (z:=1) (by kernel_rfl) (by kernel_rfl) (by decide) (fun x=>Ql1 rfl) (QDT N)).map id (fun _=>rfl) fun _ _ h=>Qkz h
namespace LawInvarBounds
theorem own : ownKnob Tryz.prog.godebug=none:=by kernel_rfl
theorem QEs : laidOutB Tryz.prog=true:=by kernel_rfl
theorem QDK : ∀t∈Tryz.f8.params.toList,Tryz.prog.readableRec t=true∧t<Tryz.prog.types.size:=by
 have h:(Tryz.f8.params.toList.all fun t=>Tryz.prog.readableRec t&&decide (t<Tryz.prog.types.size))=true:=by kernel_rfl
 intro t ht
 have:=Qac.1 h t ht
 rw [Qz,Qx]at this
 exact this
theorem QDL (os:Os)(args:Array Value):laidMetH Tryz.prog Rows.invarBoundsRow.laid ((World.doorLaid Tryz.prog 33 os).forCall (fun _ _=>0) ⟨#[],args,[]⟩).memory:=
 laidMetH_of_parts3 (fuel:=8) (laidMet_of_run' 8 (by kernel_rfl) (by kernel_rfl)) (by kernel_rfl) (by kernel_rfl)
theorem QDM {W:World}(h:laidMetH Tryz.prog Rows.invarBoundsRow.laid W):QpS Tryz.prog (fun k=>k<W.heap.size) W:=
 QzP (r:=[]) (g:=0) (t:=261) (e:=5) 1 (by kernel_rfl) (by kernel_rfl) (by kernel_rfl) (by kernel_rfl) (by kernel_rfl) (by kernel_rfl) (by kernel_rfl) (by kernel_rfl) h
set_option maxRecDepth 100000 in
theorem QFq (hF:∀(a0:Qk) (a1:(List (List (Int×Int)))) (a2:(List Int)),Qvx a0→(okL (okL QsH)) a1→(okL (okI .i64)) a2→QeG a0 a1 a2=some true)(os:Os)(started:os.Started)(H:Type)(enc:TypeId×Value→H):
  ReturnsInHanded {} Tryz.checked os 8 .any (fun w args=>(Rows.invarBoundsSpec.pre enc Tryz.prog Tryz.f8 Rows.invarBoundsRow.domain false w args∧laidMetH Tryz.prog Rows.invarBoundsRow.laid w)∧sizedMet enc Tryz.prog Tryz.f8 (OpenSpec.ofChange Rows.invarBoundsSpec) false w args) (Rows.invarBoundsSpec.post enc Tryz.prog Tryz.f8 false true false false):=by
 refine returnsInHanded_of_change_and (C:=Tryz.checked) (X:=fun w _=>laidMetH Tryz.prog Rows.invarBoundsRow.laid w) (fun _ _ _ hh h=>h.of_heap hh) own started (by kernel_rfl) Tryz.func8
  (ChangeSpec.witness_shaped (enc:=enc) (C:=Tryz.checked) (os:=os) (X:=fun w _=>laidMetH Tryz.prog Rows.invarBoundsRow.laid w) false (World.doorLaid Tryz.prog 33 os) #[.agg #[.slice none 0 0,.slice none 0 0,.slice none 0 0,.int .i64 0,.int .i64 0],.slice none 0 0,.slice none 0 0] 8 rfl (World.shaped_of_RefB (by kernel_rfl) (by kernel_rfl)) (by kernel_rfl) (by kernel_rfl) (by kernel_rfl) (QDL os _)) ?_
 intro W base args ds gs before hval0 hW hcnd hz hL _
 have hval:∀(j:Nat) t v,Tryz.f8.params[j]? = some t→args[j]? = some v→Value.okWide Tryz.prog W .any base t v:=hval0
 have hW1:=hW
 obtain⟨p,q,hA0,hV,_,_,_⟩:=hW
 obtain⟨rfl,_⟩:=trodVars_none hV
 have hA:DataW.TrodAll enc Tryz.prog W 0 (fun _=>true) true Tryz.f8.params.toList args.toList ds p:=hA0
 rw [Tryz.params8]at hA hval
 obtain⟨v0,vs0,d0,ds0,p0,q0,hargs,rfl,_,h0,r0⟩:=trodAll_cons hA
 obtain⟨v1,vs1,d1,ds1,p1,q1,rfl,rfl,_,h1,r1⟩:=trodAll_cons r0
 obtain⟨v2,vs2,d2,ds2,p2,q2,rfl,rfl,_,h2,r2⟩:=trodAll_cons r1
 obtain⟨rfl,rfl,_⟩:=trodAll_nil r2
 obtain rfl:args=#[v0,v1,v2]:=by cases args;simp_all
 obtain⟨a0,w0,c0⟩:=Rd.open (fun N=>QFU N) h0
 obtain⟨_,rfl⟩:=QDg (P:=Tryz.prog) (t:=26) (fs:=[(22,0),(23,1),(24,2),(3,3),(3,4)]) (tot:=5) (by kernel_rfl) (hval 0 26 v0 rfl rfl)
 have e0:=c0.argS
 obtain⟨a1,w1,c1⟩:=Rd.open (fun N=>QFV N) h1
 obtain⟨_,_,_,rfl⟩:=okWide_slice Tryz.underlying29 (hval 1 29 v1 rfl rfl)
 have e1:=(Cl.arg1 rfl c1)
 obtain⟨a2,w2,c2⟩:=Rd.open (fun N=>QDW N) h2
 obtain⟨_,_,_,rfl⟩:=okWide_slice Tryz.underlying27 (hval 2 27 v2 rfl rfl)
 have e2:=(Cl.arg1 rfl c2)
 refine(Qd.law (us:=[.agg (Qe a0),.sl 1 (a1.map Qm),.sl 1 (a2.map Qb)]) (QrX a0 a1 a2 (hF a0 a1 a2 w0 w1 w2)) (QDM hL) rfl (fun j x v hx hv=>?_)).mono fun e W2 ⟨he,hb⟩=>?_
 ·match j with
  | 0=>cases hx;cases hv;exact e0
  | 1=>cases hx;cases hv;exact e1
  | 2=>cases hx;cases hv;exact e2
  | j+3=>simp at hx
 subst he
 exact⟨_,rfl,QDh QEs QDK hW1 rfl hb rfl Tryz.underlying4 rfl rfl rfl⟩
theorem proved_of (hF:∀(a0:Qk) (a1:(List (List (Int×Int)))) (a2:(List Int)),Qvx a0→(okL (okL QsH)) a1→(okL (okI .i64)) a2→QeG a0 a1 a2=some true):Rows.InvarBoundsSaid:=
 OpenClaim.holds_of_wide 8 Tryz.f8 rfl rfl rfl rfl rfl rfl rfl ⟨rfl,rfl,rfl,rfl,rfl⟩ rfl rfl rfl rfl rfl (by kernel_rfl) Tryz.func8 (by kernel_rfl)
  (QV (by kernel_rfl)) (by unfold Func.isWrapper;first | (rw [if_pos (by decide +kernel)];kernel_rfl) | (rw [if_neg (by decide +kernel)];exact⟨rfl,rfl⟩))
  (fun os started H enc _=>QFq hF os started H enc)
theorem card_of (hs:Rows.InvarBoundsSaid):Rows.InvarBoundsCardSaid:=
 Claim7.holds_tied_plain_at .later [] [.listed,.data] true (true, "e1d83377e7bc5629bf1562ed4cd27be8d64b52160e690022d2418aa094ccef66") false
  hs (fun _ h=>by cases h) (by kernel_rfl) (fun _ h=>by cases h) invarBounds_row_tie rfl ⟨rfl,rfl⟩ (by kernel_rfl) rfl
  (fun f fn hf hfn=>by
   obtain rfl:f=8:=Option.some.inj ((show Tryz.prog.funcNamed "baldric/baldriclaw18.InvarBounds" = some 8 by kernel_rfl).symm.trans hf) |>.symm
   obtain rfl:fn=Tryz.f8:=(Option.some.inj (Tryz.func8.symm.trans hfn)).symm
   exact⟨by kernel_rfl,fun j t ht=>by
    rw [Tryz.params8]at ht
    have hm:t∈[26,29,27]:=by simpa using Array.mem_of_getElem? ht
    have hall:([26,29,27].all fun u=>!Tryz.prog.wantsStandIn u)=true:=by kernel_rfl
    exact(show Tryz.prog.wantsStandIn t=false by simpa using Qac.1 hall t hm)⟩)
  (by kernel_rfl)
end LawInvarBounds
theorem kE {e:Ql}(h:Qm0 e):QdL e:=by
 induction h with
 | mk x _ _ h1 _ ih=>exact .mk x h1 ih
theorem kL {α:Type}{p q:α→Prop}(f:∀x,p x→q x){l:List α}(h:okL p l):QM q l:=⟨h.1,fun x hx=>f x (h.2 x hx)⟩
theorem kA {a:QX}(h:QsI a):Qjo a:=⟨trivial,kE h.2⟩
theorem QF6 {n:Qk}(h:Qvx n):QU n:=
 ⟨kL (fun c hc=>⟨hc.1,trivial,trivial,trivial,kL (fun s hs=>hs) hc.2.2.2.2.1,trivial,trivial⟩) h.1,kL (fun p hp=>⟨hp.1,trivial,kL (fun _ _=>trivial) hp.2.2⟩) h.2.1,
  kL (fun t ht=>⟨ht.1,kL (fun v hv=>⟨hv.1,trivial⟩) ht.2.1,kE ht.2.2.1,trivial,trivial,kL (fun _ h=>kA h) ht.2.2.2.2.2.1,kL (fun _ h=>kA h) ht.2.2.2.2.2.2.1,kL (fun _ _=>trivial) ht.2.2.2.2.2.2.2.1,trivial,trivial⟩) h.2.2.1,trivial,trivial⟩
theorem proved : Rows.InvarBoundsCardSaid:=LawInvarBounds.card_of (LawInvarBounds.proved_of fun a0 a1 a2 h0 h1 _=>QAO (QF6 h0) (kL (fun b hb=>kL (fun _ _=>trivial) hb) h1))

end Go.Proofs.YtbfgchciebcbpaaGreatDoor
