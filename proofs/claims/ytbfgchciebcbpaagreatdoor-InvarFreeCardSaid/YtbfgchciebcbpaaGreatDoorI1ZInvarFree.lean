/- InvarFree, as it is given: of any net it answers true, with no condition but what its row asks of all calls. -/
import Derived.Test.YtbfgchciebcbpaaGreatDoorI1P2
import Derived.Test.YtbfgchciebcbpaaGreatDoorI1T2
import Derived.Test.YtbfgchciebcbpaaGreatDoorI1V3
import Derived.Test.YtbfgchciebcbpaaGreatDoorRows
import Derived.Test.YtbfgchciebcbpaaGreatDoorTie
import Derived.Test.YtbfgchciebcbpaaGreatDoorCards
import Derived.SevenTiedAt
import Derived.WalkKit
import Derived.ProofKit
import Derived.OpenShut
set_option linter.unusedVariables false
set_option linter.unusedSimpArgs false
set_option linter.unusedSectionVars false
set_option linter.deprecated false
noncomputable section
namespace Go.Proofs.YtbfgchciebcbpaaGreatDoor
open Go Go.RowKit Go.Vm Go.ChangeShapes Go.WideShapes Go.ChangeAt
theorem Qt4 {H:Type}{enc:TypeId×Value→H}{w:World}(N:Nat):Rd enc Tryz.prog w N 9 QcB (fun x _=>okS x):=(Rd.string (by kernel_rfl)).map id (fun _=>rfl) fun _ _ h=>h.1
theorem QeZ {H:Type}{enc:TypeId×Value→H}{w:World}(N:Nat):Rd enc Tryz.prog w N 3 Qb (fun x _=>(okI .i64) x):=(Rd.int (by kernel_rfl)).map id (fun _=>rfl) fun _ _ h=>QwW h
theorem Qxl {H:Type}{enc:TypeId×Value→H}{w:World}(N:Nat):Rd enc Tryz.prog w N 100 QwX (fun x _=>(okL okS) x):=(Rd.slice (e:=9) (z:=1) (by kernel_rfl) (by kernel_rfl) (by decide) (fun x=>Qjy rfl) (Qt4 N)).map id (fun _=>rfl) fun _ _ h=>QiA h
def Qox (x:QI):Prop:=okS x.Name∧(okI .i64) x.Kind∧(okI .i64) x.Lo∧(okI .i64) x.Hi∧(okL okS) x.Names∧(okI .i64) x.First∧(okI .i64) x.Then
theorem Qxm {H:Type}{enc:TypeId×Value→H}{w:World}(N:Nat):Rd enc Tryz.prog w N 102 Qx (fun x _=>Qox x):=by
 have h0:=(Rd.struct (fs:=[(9,0),(3,1),(3,2),(3,3),(100,4),(3,5),(3,6)]) (tot:=7) (N:=N) (t:=102) (P:=Tryz.prog) (w:=w) (enc:=enc) (by kernel_rfl) (RdF.cons 9 0 1 (by kernel_rfl) (Qt4 N) (RdF.cons 3 1 1 (by kernel_rfl) (QeZ N) (RdF.cons 3 2 1 (by kernel_rfl) (QeZ N) (RdF.cons 3 3 1 (by kernel_rfl) (QeZ N) (RdF.cons 100 4 1 (by kernel_rfl) (Qxl N) (RdF.cons 3 5 1 (by kernel_rfl) (QeZ N) (RdF.cons 3 6 1 (by kernel_rfl) (QeZ N) RdF.nil))))))))
 exact(h0.map (fun x=>⟨x.1,x.2.1,x.2.2.1,x.2.2.2.1,x.2.2.2.2.1,x.2.2.2.2.2.1,x.2.2.2.2.2.2.1⟩) (fun _=>rfl) (fun x d h=>by obtain⟨_,rfl,h⟩:=h;obtain⟨_,_,rfl,a0,h⟩:=h;obtain⟨_,_,rfl,a1,h⟩:=h;obtain⟨_,_,rfl,a2,h⟩:=h;obtain⟨_,_,rfl,a3,h⟩:=h;obtain⟨_,_,rfl,a4,h⟩:=h;obtain⟨_,_,rfl,a5,h⟩:=h;obtain⟨_,_,rfl,a6,h⟩:=h;exact⟨a0,a1,a2,a3,a4,a5,a6⟩)).mono (Nat.le_succ N)
theorem QxF {H:Type}{enc:TypeId×Value→H}{w:World}(N:Nat):Rd enc Tryz.prog w N 22 QtL (fun x _=>(okL Qox) x):=(Rd.slice (e:=102) (z:=7) (by kernel_rfl) (by kernel_rfl) (by decide) (fun x=>Qjy rfl) (Qxm N)).map id (fun _=>rfl) fun _ _ h=>QiA h
def Qt5 (x:(Int×Int)):Prop:=(okI .i64) x.1∧(okI .i64) x.2
theorem QxG {H:Type}{enc:TypeId×Value→H}{w:World}(N:Nat):Rd enc Tryz.prog w N 61 QaF (fun x _=>Qt5 x):=by
 have h0:=(Rd.array (e:=3) (n:=2) (tot:=2) (fs:=[(3,0),(3,1)]) (N:=N) (t:=61) (P:=Tryz.prog) (w:=w) (enc:=enc) (by kernel_rfl) (RdF.cons 3 0 1 (by kernel_rfl) (QeZ N) (RdF.cons 3 1 1 (by kernel_rfl) (QeZ N) RdF.nil)))
 exact(h0.map (fun x=>⟨x.1,x.2.1⟩) (fun _=>rfl) (fun x d h=>by obtain⟨_,rfl,h⟩:=h;obtain⟨_,_,rfl,a0,h⟩:=h;obtain⟨_,_,rfl,a1,h⟩:=h;exact⟨a0,a1⟩)).mono (Nat.le_succ N)
theorem QxH {H:Type}{enc:TypeId×Value→H}{w:World}(N:Nat):Rd enc Tryz.prog w N 59 QjW (fun x _=>(okL Qt5) x):=(Rd.slice (e:=61) (z:=2) (by kernel_rfl) (by kernel_rfl) (by decide) (fun x=>Qjy rfl) (QxG N)).map id (fun _=>rfl) fun _ _ h=>QiA h
def QpN (x:QG):Prop:=okS x.Name∧(okI .i64) x.Colour∧(okL Qt5) x.First
theorem Qxn {H:Type}{enc:TypeId×Value→H}{w:World}(N:Nat):Rd enc Tryz.prog w N 104 Qq (fun x _=>QpN x):=by
 have h0:=(Rd.struct (fs:=[(9,0),(3,1),(59,2)]) (tot:=3) (N:=N) (t:=104) (P:=Tryz.prog) (w:=w) (enc:=enc) (by kernel_rfl) (RdF.cons 9 0 1 (by kernel_rfl) (Qt4 N) (RdF.cons 3 1 1 (by kernel_rfl) (QeZ N) (RdF.cons 59 2 1 (by kernel_rfl) (QxH N) RdF.nil))))
 exact(h0.map (fun x=>⟨x.1,x.2.1,x.2.2.1⟩) (fun _=>rfl) (fun x d h=>by obtain⟨_,rfl,h⟩:=h;obtain⟨_,_,rfl,a0,h⟩:=h;obtain⟨_,_,rfl,a1,h⟩:=h;obtain⟨_,_,rfl,a2,h⟩:=h;exact⟨a0,a1,a2⟩)).mono (Nat.le_succ N)
theorem QxI {H:Type}{enc:TypeId×Value→H}{w:World}(N:Nat):Rd enc Tryz.prog w N 23 Qui (fun x _=>(okL QpN) x):=(Rd.slice (e:=104) (z:=3) (by kernel_rfl) (by kernel_rfl) (by decide) (fun x=>Qjy rfl) (Qxn N)).map id (fun _=>rfl) fun _ _ h=>QiA h
def QsD (x:Qae):Prop:=okS x.Name∧(okI .i64) x.Colour
theorem Qxo {H:Type}{enc:TypeId×Value→H}{w:World}(N:Nat):Rd enc Tryz.prog w N 106 QA (fun x _=>QsD x):=by
 have h0:=(Rd.struct (fs:=[(9,0),(3,1)]) (tot:=2) (N:=N) (t:=106) (P:=Tryz.prog) (w:=w) (enc:=enc) (by kernel_rfl) (RdF.cons 9 0 1 (by kernel_rfl) (Qt4 N) (RdF.cons 3 1 1 (by kernel_rfl) (QeZ N) RdF.nil)))
 exact(h0.map (fun x=>⟨x.1,x.2.1⟩) (fun _=>rfl) (fun x d h=>by obtain⟨_,rfl,h⟩:=h;obtain⟨_,_,rfl,a0,h⟩:=h;obtain⟨_,_,rfl,a1,h⟩:=h;exact⟨a0,a1⟩)).mono (Nat.le_succ N)
theorem QxJ {H:Type}{enc:TypeId×Value→H}{w:World}(N:Nat):Rd enc Tryz.prog w N 68 Qbr (fun x _=>(okL QsD) x):=(Rd.slice (e:=106) (z:=2) (by kernel_rfl) (by kernel_rfl) (by decide) (fun x=>Qjy rfl) (Qxo N)).map id (fun _=>rfl) fun _ _ h=>QiA h
theorem Qr9 (x:Qk):Qp x=[.i .i64 x.Kind,.i .i64 x.Num,.sl 3 (Qa0 x.Kids)]:=by cases x;rw [Qp]
inductive Qjd : Qk→Prop where
 | mk (x:Qk):(okI .i64) x.Kind→(okI .i64) x.Num→x.Kids.length≤maxLen→(∀k∈x.Kids,Qjd k)→Qjd x
theorem Qwu {H:Type}{enc:TypeId×Value→H}{w:World}(N:Nat):Rd enc Tryz.prog w N 71 Qp (fun x _=>Qjd x):=by
 induction N with
 | zero=>exact Rd.zero
 | succ N ih=>
  have h0:=(Rd.struct (fs:=[(3,0),(3,1),(69,2)]) (tot:=3) (N:=N) (t:=71) (P:=Tryz.prog) (w:=w) (enc:=enc) (by kernel_rfl) (RdF.cons 3 0 1 (by kernel_rfl) (QeZ N) (RdF.cons 3 1 1 (by kernel_rfl) (QeZ N) (RdF.cons 69 2 1 (by kernel_rfl) (Rd.slice (e:=71) (z:=3) (by kernel_rfl) (by kernel_rfl) (by decide) (fun x=>Qjy (by cases x;rfl)) ih) RdF.nil))))
  exact h0.map (fun x=>⟨x.1,x.2.1,x.2.2.1⟩) (fun x=>by simp only [Qp];rw [QhM];rfl) (fun x d h=>by obtain⟨_,rfl,h⟩:=h;obtain⟨_,_,rfl,a0,h⟩:=h;obtain⟨_,_,rfl,a1,h⟩:=h;obtain⟨_,_,rfl,a2,h⟩:=h;exact Qjd.mk _ a0 a1 (QiA a2).1 (QiA a2).2)
def QnK (x:QP):Prop:=(okI .i64) x.Place∧Qjd x.Expr
theorem QxK {H:Type}{enc:TypeId×Value→H}{w:World}(N:Nat):Rd enc Tryz.prog w N 79 QR (fun x _=>QnK x):=by
 have h0:=(Rd.struct (fs:=[(3,0),(71,1)]) (tot:=4) (N:=N) (t:=79) (P:=Tryz.prog) (w:=w) (enc:=enc) (by kernel_rfl) (RdF.cons 3 0 1 (by kernel_rfl) (QeZ N) (RdF.cons 71 1 3 (by kernel_rfl) (Qwu N) RdF.nil)))
 exact(h0.map (fun x=>⟨x.1,x.2.1⟩) (fun x=>by rw [Qr9];rfl) (fun x d h=>by obtain⟨_,rfl,h⟩:=h;obtain⟨_,_,rfl,a0,h⟩:=h;obtain⟨_,_,rfl,a1,h⟩:=h;exact⟨a0,a1⟩)).mono (Nat.le_succ N)
theorem Qwv {H:Type}{enc:TypeId×Value→H}{w:World}(N:Nat):Rd enc Tryz.prog w N 72 Qvs (fun x _=>(okL QnK) x):=(Rd.slice (e:=79) (z:=4) (by kernel_rfl) (by kernel_rfl) (by decide) (fun x=>Qjy rfl) (QxK N)).map id (fun _=>rfl) fun _ _ h=>QiA h
theorem QxL {H:Type}{enc:TypeId×Value→H}{w:World}(N:Nat):Rd enc Tryz.prog w N 27 Qi (fun x _=>(okL (okI .i64)) x):=(Rd.slice (e:=3) (z:=1) (by kernel_rfl) (by kernel_rfl) (by decide) (fun x=>Qjy rfl) (QeZ N)).map id (fun _=>rfl) fun _ _ h=>QiA h
def QvK (x:(Int×Int×Int)):Prop:=(okI .i64) x.1∧(okI .i64) x.2.1∧(okI .i64) x.2.2
theorem QxM {H:Type}{enc:TypeId×Value→H}{w:World}(N:Nat):Rd enc Tryz.prog w N 73 Qsm (fun x _=>QvK x):=by
 have h0:=(Rd.array (e:=3) (n:=3) (tot:=3) (fs:=[(3,0),(3,1),(3,2)]) (N:=N) (t:=73) (P:=Tryz.prog) (w:=w) (enc:=enc) (by kernel_rfl) (RdF.cons 3 0 1 (by kernel_rfl) (QeZ N) (RdF.cons 3 1 1 (by kernel_rfl) (QeZ N) (RdF.cons 3 2 1 (by kernel_rfl) (QeZ N) RdF.nil))))
 exact(h0.map (fun x=>⟨x.1,x.2.1,x.2.2.1⟩) (fun _=>rfl) (fun x d h=>by obtain⟨_,rfl,h⟩:=h;obtain⟨_,_,rfl,a0,h⟩:=h;obtain⟨_,_,rfl,a1,h⟩:=h;obtain⟨_,_,rfl,a2,h⟩:=h;exact⟨a0,a1,a2⟩)).mono (Nat.le_succ N)
def Qrk (x:Qw):Prop:=okS x.Name∧(okL QsD) x.Vars∧Qjd x.Guard∧(okI .i64) x.Join∧(okI .i64) x.Split∧(okL QnK) x.Ins∧(okL QnK) x.Outs∧(okL (okI .i64)) x.Cancel∧(okI .i64) x.After∧QvK x.Many
theorem QxN {H:Type}{enc:TypeId×Value→H}{w:World}(N:Nat):Rd enc Tryz.prog w N 75 Qf (fun x _=>Qrk x):=by
 have h0:=(Rd.struct (fs:=[(9,0),(68,1),(71,2),(3,5),(3,6),(72,7),(72,8),(27,9),(3,10),(73,11)]) (tot:=14) (N:=N) (t:=75) (P:=Tryz.prog) (w:=w) (enc:=enc) (by kernel_rfl) (RdF.cons 9 0 1 (by kernel_rfl) (Qt4 N) (RdF.cons 68 1 1 (by kernel_rfl) (QxJ N) (RdF.cons 71 2 3 (by kernel_rfl) (Qwu N) (RdF.cons 3 5 1 (by kernel_rfl) (QeZ N) (RdF.cons 3 6 1 (by kernel_rfl) (QeZ N) (RdF.cons 72 7 1 (by kernel_rfl) (Qwv N) (RdF.cons 72 8 1 (by kernel_rfl) (Qwv N) (RdF.cons 27 9 1 (by kernel_rfl) (QxL N) (RdF.cons 3 10 1 (by kernel_rfl) (QeZ N) (RdF.cons 73 11 3 (by kernel_rfl) (QxM N) RdF.nil)))))))))))
 exact(h0.map (fun x=>⟨x.1,x.2.1,x.2.2.1,x.2.2.2.1,x.2.2.2.2.1,x.2.2.2.2.2.1,x.2.2.2.2.2.2.1,x.2.2.2.2.2.2.2.1,x.2.2.2.2.2.2.2.2.1,x.2.2.2.2.2.2.2.2.2.1⟩) (fun x=>by rw [Qr9];rfl) (fun x d h=>by obtain⟨_,rfl,h⟩:=h;obtain⟨_,_,rfl,a0,h⟩:=h;obtain⟨_,_,rfl,a1,h⟩:=h;obtain⟨_,_,rfl,a2,h⟩:=h;obtain⟨_,_,rfl,a3,h⟩:=h;obtain⟨_,_,rfl,a4,h⟩:=h;obtain⟨_,_,rfl,a5,h⟩:=h;obtain⟨_,_,rfl,a6,h⟩:=h;obtain⟨_,_,rfl,a7,h⟩:=h;obtain⟨_,_,rfl,a8,h⟩:=h;obtain⟨_,_,rfl,a9,h⟩:=h;exact⟨a0,a1,a2,a3,a4,a5,a6,a7,a8,a9⟩)).mono (Nat.le_succ N)
theorem QxO {H:Type}{enc:TypeId×Value→H}{w:World}(N:Nat):Rd enc Tryz.prog w N 24 QuX (fun x _=>(okL Qrk) x):=(Rd.slice (e:=75) (z:=14) (by kernel_rfl) (by kernel_rfl) (by decide) (fun x=>Qjy rfl) (QxN N)).map id (fun _=>rfl) fun _ _ h=>QiA h
def Qp5 (x:Qm):Prop:=(okL Qox) x.Colours∧(okL QpN) x.Places∧(okL Qrk) x.Tasks∧(okI .i64) x.From∧(okI .i64) x.To
theorem QxP {H:Type}{enc:TypeId×Value→H}{w:World}(N:Nat):Rd enc Tryz.prog w N 26 Qe (fun x _=>Qp5 x):=by
 have h0:=(Rd.struct (fs:=[(22,0),(23,1),(24,2),(3,3),(3,4)]) (tot:=5) (N:=N) (t:=26) (P:=Tryz.prog) (w:=w) (enc:=enc) (by kernel_rfl) (RdF.cons 22 0 1 (by kernel_rfl) (QxF N) (RdF.cons 23 1 1 (by kernel_rfl) (QxI N) (RdF.cons 24 2 1 (by kernel_rfl) (QxO N) (RdF.cons 3 3 1 (by kernel_rfl) (QeZ N) (RdF.cons 3 4 1 (by kernel_rfl) (QeZ N) RdF.nil))))))
 exact(h0.map (fun x=>⟨x.1,x.2.1,x.2.2.1,x.2.2.2.1,x.2.2.2.2.1⟩) (fun _=>rfl) (fun x d h=>by obtain⟨_,rfl,h⟩:=h;obtain⟨_,_,rfl,a0,h⟩:=h;obtain⟨_,_,rfl,a1,h⟩:=h;obtain⟨_,_,rfl,a2,h⟩:=h;obtain⟨_,_,rfl,a3,h⟩:=h;obtain⟨_,_,rfl,a4,h⟩:=h;exact⟨a0,a1,a2,a3,a4⟩)).mono (Nat.le_succ N)
namespace LawInvarFree
theorem own : ownKnob Tryz.prog.godebug=none:=by kernel_rfl
theorem QwK : laidOutB Tryz.prog=true:=by kernel_rfl
theorem Qwm : ∀t∈Tryz.f5.params.toList,Tryz.prog.readableRec t=true∧t<Tryz.prog.types.size:=by
 have h:(Tryz.f5.params.toList.all fun t=>Tryz.prog.readableRec t&&decide (t<Tryz.prog.types.size))=true:=by kernel_rfl
 intro t ht
 have:=QQ.1 h t ht
 rw [Qu,QZ]at this
 exact this
theorem Qwn (os:Os)(args:Array Value):laidMetH Tryz.prog Rows.invarFreeRow.laid ((World.doorLaid Tryz.prog 33 os).forCall (fun _ _=>0) ⟨#[],args,[]⟩).memory:=
 laidMetH_of_parts3 (fuel:=8) (laidMet_of_run' 8 (by kernel_rfl) (by kernel_rfl)) (by kernel_rfl) (by kernel_rfl)
theorem Qwo {W:World}(h:laidMetH Tryz.prog Rows.invarFreeRow.laid W):Qlp Tryz.prog (fun k=>k<W.heap.size) W:=
 QtK (r:=[]) (g:=0) (t:=261) (e:=5) 1 (by kernel_rfl) (by kernel_rfl) (by kernel_rfl) (by kernel_rfl) (by kernel_rfl) (by kernel_rfl) (by kernel_rfl) (by kernel_rfl) h
set_option maxRecDepth 100000 in
theorem Qxp (hF:∀(a0:Qm),Qp5 a0→Qdz a0=some true)(os:Os)(started:os.Started)(H:Type)(enc:TypeId×Value→H):
  ReturnsInHanded {} Tryz.checked os 5 .any (fun w args=>(Rows.invarFreeSpec.pre enc Tryz.prog Tryz.f5 Rows.invarFreeRow.domain false w args∧laidMetH Tryz.prog Rows.invarFreeRow.laid w)∧sizedMet enc Tryz.prog Tryz.f5 (OpenSpec.ofChange Rows.invarFreeSpec) false w args) (Rows.invarFreeSpec.post enc Tryz.prog Tryz.f5 false true false false):=by
 refine returnsInHanded_of_change_and (C:=Tryz.checked) (X:=fun w _=>laidMetH Tryz.prog Rows.invarFreeRow.laid w) (fun _ _ _ hh h=>h.of_heap hh) own started (by kernel_rfl) Tryz.func5
  (ChangeSpec.witness_shaped (enc:=enc) (C:=Tryz.checked) (os:=os) (X:=fun w _=>laidMetH Tryz.prog Rows.invarFreeRow.laid w) false (World.doorLaid Tryz.prog 33 os) #[.agg #[.slice none 0 0,.slice none 0 0,.slice none 0 0,.int .i64 0,.int .i64 0]] 8 rfl (World.shaped_of_RefB (by kernel_rfl) (by kernel_rfl)) (by kernel_rfl) (by kernel_rfl) (by kernel_rfl) (Qwn os _)) ?_
 intro W base args ds gs before hval0 hW hcnd hz hL _
 have hval:∀(j:Nat) t v,Tryz.f5.params[j]? = some t→args[j]? = some v→Value.okWide Tryz.prog W .any base t v:=hval0
 have hW1:=hW
 obtain⟨p,q,hA0,hV,_,_,_⟩:=hW
 obtain⟨rfl,_⟩:=trodVars_none hV
 have hA:DataW.TrodAll enc Tryz.prog W 0 (fun _=>true) true Tryz.f5.params.toList args.toList ds p:=hA0
 rw [Tryz.params5]at hA hval
 obtain⟨v0,vs0,d0,ds0,p0,q0,hargs,rfl,_,h0,r0⟩:=trodAll_cons hA
 obtain⟨rfl,rfl,_⟩:=trodAll_nil r0
 obtain rfl:args=#[v0]:=by cases args;simp_all
 obtain⟨a0,w0,c0⟩:=Rd.open (fun N=>QxP N) h0
 obtain⟨_,rfl⟩:=Qv9 (P:=Tryz.prog) (t:=26) (fs:=[(22,0),(23,1),(24,2),(3,3),(3,4)]) (tot:=5) (by kernel_rfl) (hval 0 26 v0 rfl rfl)
 have e0:=c0.argS
 refine(Qc.law (us:=[.agg (Qe a0)]) (Qom a0 (hF a0 w0)) (Qwo hL) rfl (fun j x v hx hv=>?_)).mono fun e W2 ⟨he,hb⟩=>?_
 ·match j with
  | 0=>cases hx;cases hv;exact e0
  | j+1=>simp at hx
 subst he
 exact⟨_,rfl,Qwa QwK Qwm hW1 rfl hb rfl Tryz.underlying4 rfl rfl rfl⟩
theorem proved_of (hF:∀(a0:Qm),Qp5 a0→Qdz a0=some true):Rows.InvarFreeSaid:=
 OpenClaim.holds_of_wide 5 Tryz.f5 rfl rfl rfl rfl rfl rfl rfl ⟨rfl,rfl,rfl,rfl,rfl⟩ rfl rfl rfl rfl rfl (by kernel_rfl) Tryz.func5 (by kernel_rfl)
  (QX (by kernel_rfl)) (by unfold Func.isWrapper;first | (rw [if_pos (by decide +kernel)];kernel_rfl) | (rw [if_neg (by decide +kernel)];exact⟨rfl,rfl⟩))
  (fun os started H enc _=>Qxp hF os started H enc)
theorem card_of (hs:Rows.InvarFreeSaid):Rows.InvarFreeCardSaid:=
 Claim7.holds_tied_plain_at .later [] [.listed,.data] true (true, "e1d83377e7bc5629bf1562ed4cd27be8d64b52160e690022d2418aa094ccef66") false
  hs (fun _ h=>by cases h) (by kernel_rfl) (fun _ h=>by cases h) invarFree_row_tie rfl ⟨rfl,rfl⟩ (by kernel_rfl) rfl
  (fun f fn hf hfn=>by
   obtain rfl:f=5:=Option.some.inj ((show Tryz.prog.funcNamed "baldric/baldriclaw18.InvarFree" = some 5 by kernel_rfl).symm.trans hf) |>.symm
   obtain rfl:fn=Tryz.f5:=(Option.some.inj (Tryz.func5.symm.trans hfn)).symm
   exact⟨by kernel_rfl,fun j t ht=>by
    rw [Tryz.params5]at ht
    have hm:t∈[26]:=by simpa using Array.mem_of_getElem? ht
    have hall:([26].all fun u=>!Tryz.prog.wantsStandIn u)=true:=by kernel_rfl
    exact(show Tryz.prog.wantsStandIn t=false by simpa using QQ.1 hall t hm)⟩)
  (by kernel_rfl)
end LawInvarFree
theorem kE {e:Qk}(h:Qjd e):Qcs e:=by
 induction h with
 | mk x _ _ h1 _ ih=>exact .mk x h1 ih
theorem kL {α:Type}{p q:α→Prop}(f:∀x,p x→q x){l:List α}(h:okL p l):QO q l:=⟨h.1,fun x hx=>f x (h.2 x hx)⟩
theorem kA {a:QP}(h:QnK a):QiG a:=⟨trivial,kE h.2⟩
theorem Qx1 {n:Qm}(h:Qp5 n):QD n:=
 ⟨kL (fun c hc=>⟨hc.1,trivial,trivial,trivial,kL (fun s hs=>hs) hc.2.2.2.2.1,trivial,trivial⟩) h.1,kL (fun p hp=>⟨hp.1,trivial,kL (fun _ _=>trivial) hp.2.2⟩) h.2.1,
  kL (fun t ht=>⟨ht.1,kL (fun v hv=>⟨hv.1,trivial⟩) ht.2.1,kE ht.2.2.1,trivial,trivial,kL (fun _ h=>kA h) ht.2.2.2.2.2.1,kL (fun _ h=>kA h) ht.2.2.2.2.2.2.1,kL (fun _ _=>trivial) ht.2.2.2.2.2.2.2.1,trivial,trivial⟩) h.2.2.1,trivial,trivial⟩
theorem proved : Rows.InvarFreeCardSaid:=LawInvarFree.card_of (LawInvarFree.proved_of fun a0 h0=>QvJ (Qx1 h0))

end Go.Proofs.YtbfgchciebcbpaaGreatDoor
