/- InvarBases, as it is given: of any net it answers true, with no condition but what its row asks of all calls. -/
import Derived.Test.YtbfgchciebcbpaaGreatDoorB1P3
import Derived.Test.YtbfgchciebcbpaaGreatDoorB1T2
import Derived.Test.YtbfgchciebcbpaaGreatDoorB1V3
import Derived.Test.YtbfgchciebcbpaaGreatDoorRows
import Derived.Test.YtbfgchciebcbpaaGreatDoorTie
import Derived.Test.YtbfgchciebcbpaaGreatDoorCards
import Derived.SevenTiedAt
import Derived.WalkKit
import Derived.ProofKit
import Derived.OpenShut
set_option linter.unusedVariables false
set_option linter.unusedSimpArgs false
set_option linter.unusedSectionVars false
set_option linter.deprecated false
noncomputable section
namespace Go.Proofs.YtbfgchciebcbpaaGreatDoor
open Go Go.RowKit Go.Vm Go.ChangeShapes Go.WideShapes Go.ChangeAt
theorem Qwl {H:Type}{enc:TypeId×Value→H}{w:World}(N:Nat):Rd enc Tryz.prog w N 9 Qdq (fun x _=>okS x):=(Rd.string (by kernel_rfl)).map id (fun _=>rfl) fun _ _ h=>h.1
theorem QfZ {H:Type}{enc:TypeId×Value→H}{w:World}(N:Nat):Rd enc Tryz.prog w N 3 Qb (fun x _=>(okI .i64) x):=(Rd.int (by kernel_rfl)).map id (fun _=>rfl) fun _ _ h=>QzA h
theorem Qz3 {H:Type}{enc:TypeId×Value→H}{w:World}(N:Nat):Rd enc Tryz.prog w N 100 QzC (fun x _=>(okL okS) x):=(Rd.slice (e:=9) (z:=1) (by kernel_rfl) (by kernel_rfl) (by decide) (fun x=>Qk3 rfl) (Qwl N)).map id (fun _=>rfl) fun _ _ h=>QjY h
def Qqp (x:QP):Prop:=okS x.Name∧(okI .i64) x.Kind∧(okI .i64) x.Lo∧(okI .i64) x.Hi∧(okL okS) x.Names∧(okI .i64) x.First∧(okI .i64) x.Then
theorem Qz4 {H:Type}{enc:TypeId×Value→H}{w:World}(N:Nat):Rd enc Tryz.prog w N 102 QA (fun x _=>Qqp x):=by
 have h0:=(Rd.struct (fs:=[(9,0),(3,1),(3,2),(3,3),(100,4),(3,5),(3,6)]) (tot:=7) (N:=N) (t:=102) (P:=Tryz.prog) (w:=w) (enc:=enc) (by kernel_rfl) (RdF.cons 9 0 1 (by kernel_rfl) (Qwl N) (RdF.cons 3 1 1 (by kernel_rfl) (QfZ N) (RdF.cons 3 2 1 (by kernel_rfl) (QfZ N) (RdF.cons 3 3 1 (by kernel_rfl) (QfZ N) (RdF.cons 100 4 1 (by kernel_rfl) (Qz3 N) (RdF.cons 3 5 1 (by kernel_rfl) (QfZ N) (RdF.cons 3 6 1 (by kernel_rfl) (QfZ N) RdF.nil))))))))
 exact(h0.map (fun x=>⟨x.1,x.2.1,x.2.2.1,x.2.2.2.1,x.2.2.2.2.1,x.2.2.2.2.2.1,x.2.2.2.2.2.2.1⟩) (fun _=>rfl) (fun x d h=>by obtain⟨_,rfl,h⟩:=h;obtain⟨_,_,rfl,a0,h⟩:=h;obtain⟨_,_,rfl,a1,h⟩:=h;obtain⟨_,_,rfl,a2,h⟩:=h;obtain⟨_,_,rfl,a3,h⟩:=h;obtain⟨_,_,rfl,a4,h⟩:=h;obtain⟨_,_,rfl,a5,h⟩:=h;obtain⟨_,_,rfl,a6,h⟩:=h;exact⟨a0,a1,a2,a3,a4,a5,a6⟩)).mono (Nat.le_succ N)
theorem QAr {H:Type}{enc:TypeId×Value→H}{w:World}(N:Nat):Rd enc Tryz.prog w N 22 QvV (fun x _=>(okL Qqp) x):=(Rd.slice (e:=102) (z:=7) (by kernel_rfl) (by kernel_rfl) (by decide) (fun x=>Qk3 rfl) (Qz4 N)).map id (fun _=>rfl) fun _ _ h=>QjY h
def Qwm (x:(Int×Int)):Prop:=(okI .i64) x.1∧(okI .i64) x.2
theorem QAs {H:Type}{enc:TypeId×Value→H}{w:World}(N:Nat):Rd enc Tryz.prog w N 61 QaV (fun x _=>Qwm x):=by
 have h0:=(Rd.array (e:=3) (n:=2) (tot:=2) (fs:=[(3,0),(3,1)]) (N:=N) (t:=61) (P:=Tryz.prog) (w:=w) (enc:=enc) (by kernel_rfl) (RdF.cons 3 0 1 (by kernel_rfl) (QfZ N) (RdF.cons 3 1 1 (by kernel_rfl) (QfZ N) RdF.nil)))
 exact(h0.map (fun x=>⟨x.1,x.2.1⟩) (fun _=>rfl) (fun x d h=>by obtain⟨_,rfl,h⟩:=h;obtain⟨_,_,rfl,a0,h⟩:=h;obtain⟨_,_,rfl,a1,h⟩:=h;exact⟨a0,a1⟩)).mono (Nat.le_succ N)
theorem QAt {H:Type}{enc:TypeId×Value→H}{w:World}(N:Nat):Rd enc Tryz.prog w N 59 Qlw (fun x _=>(okL Qwm) x):=(Rd.slice (e:=61) (z:=2) (by kernel_rfl) (by kernel_rfl) (by decide) (fun x=>Qk3 rfl) (QAs N)).map id (fun _=>rfl) fun _ _ h=>QjY h
def QrK (x:QL):Prop:=okS x.Name∧(okI .i64) x.Colour∧(okL Qwm) x.First
theorem Qz5 {H:Type}{enc:TypeId×Value→H}{w:World}(N:Nat):Rd enc Tryz.prog w N 104 Qu (fun x _=>QrK x):=by
 have h0:=(Rd.struct (fs:=[(9,0),(3,1),(59,2)]) (tot:=3) (N:=N) (t:=104) (P:=Tryz.prog) (w:=w) (enc:=enc) (by kernel_rfl) (RdF.cons 9 0 1 (by kernel_rfl) (Qwl N) (RdF.cons 3 1 1 (by kernel_rfl) (QfZ N) (RdF.cons 59 2 1 (by kernel_rfl) (QAt N) RdF.nil))))
 exact(h0.map (fun x=>⟨x.1,x.2.1,x.2.2.1⟩) (fun _=>rfl) (fun x d h=>by obtain⟨_,rfl,h⟩:=h;obtain⟨_,_,rfl,a0,h⟩:=h;obtain⟨_,_,rfl,a1,h⟩:=h;obtain⟨_,_,rfl,a2,h⟩:=h;exact⟨a0,a1,a2⟩)).mono (Nat.le_succ N)
theorem QAu {H:Type}{enc:TypeId×Value→H}{w:World}(N:Nat):Rd enc Tryz.prog w N 23 Qwy (fun x _=>(okL QrK) x):=(Rd.slice (e:=104) (z:=3) (by kernel_rfl) (by kernel_rfl) (by decide) (fun x=>Qk3 rfl) (Qz5 N)).map id (fun _=>rfl) fun _ _ h=>QjY h
def QuK (x:Qaz):Prop:=okS x.Name∧(okI .i64) x.Colour
theorem Qz6 {H:Type}{enc:TypeId×Value→H}{w:World}(N:Nat):Rd enc Tryz.prog w N 106 QH (fun x _=>QuK x):=by
 have h0:=(Rd.struct (fs:=[(9,0),(3,1)]) (tot:=2) (N:=N) (t:=106) (P:=Tryz.prog) (w:=w) (enc:=enc) (by kernel_rfl) (RdF.cons 9 0 1 (by kernel_rfl) (Qwl N) (RdF.cons 3 1 1 (by kernel_rfl) (QfZ N) RdF.nil)))
 exact(h0.map (fun x=>⟨x.1,x.2.1⟩) (fun _=>rfl) (fun x d h=>by obtain⟨_,rfl,h⟩:=h;obtain⟨_,_,rfl,a0,h⟩:=h;obtain⟨_,_,rfl,a1,h⟩:=h;exact⟨a0,a1⟩)).mono (Nat.le_succ N)
theorem QAv {H:Type}{enc:TypeId×Value→H}{w:World}(N:Nat):Rd enc Tryz.prog w N 68 QbT (fun x _=>(okL QuK) x):=(Rd.slice (e:=106) (z:=2) (by kernel_rfl) (by kernel_rfl) (by decide) (fun x=>Qk3 rfl) (Qz6 N)).map id (fun _=>rfl) fun _ _ h=>QjY h
theorem Qud (x:Ql):Qs x=[.i .i64 x.Kind,.i .i64 x.Num,.sl 3 (Qbo x.Kids)]:=by cases x;rw [Qs]
inductive QkA : Ql→Prop where
 | mk (x:Ql):(okI .i64) x.Kind→(okI .i64) x.Num→x.Kids.length≤maxLen→(∀k∈x.Kids,QkA k)→QkA x
theorem Qy5 {H:Type}{enc:TypeId×Value→H}{w:World}(N:Nat):Rd enc Tryz.prog w N 71 Qs (fun x _=>QkA x):=by
 induction N with
 | zero=>exact Rd.zero
 | succ N ih=>
  have h0:=(Rd.struct (fs:=[(3,0),(3,1),(69,2)]) (tot:=3) (N:=N) (t:=71) (P:=Tryz.prog) (w:=w) (enc:=enc) (by kernel_rfl) (RdF.cons 3 0 1 (by kernel_rfl) (QfZ N) (RdF.cons 3 1 1 (by kernel_rfl) (QfZ N) (RdF.cons 69 2 1 (by kernel_rfl) (Rd.slice (e:=71) (z:=3) (by kernel_rfl) (by kernel_rfl) (by decide) (fun x=>Qk3 (by cases x;rfl)) ih) RdF.nil))))
  exact h0.map (fun x=>⟨x.1,x.2.1,x.2.2.1⟩) (fun x=>by simp only [Qs];rw [Qi6];rfl) (fun x d h=>by obtain⟨_,rfl,h⟩:=h;obtain⟨_,_,rfl,a0,h⟩:=h;obtain⟨_,_,rfl,a1,h⟩:=h;obtain⟨_,_,rfl,a2,h⟩:=h;exact QkA.mk _ a0 a1 (QjY a2).1 (QjY a2).2)
def QpL (x:Q0):Prop:=(okI .i64) x.Place∧QkA x.Expr
theorem QAw {H:Type}{enc:TypeId×Value→H}{w:World}(N:Nat):Rd enc Tryz.prog w N 79 Q1 (fun x _=>QpL x):=by
 have h0:=(Rd.struct (fs:=[(3,0),(71,1)]) (tot:=4) (N:=N) (t:=79) (P:=Tryz.prog) (w:=w) (enc:=enc) (by kernel_rfl) (RdF.cons 3 0 1 (by kernel_rfl) (QfZ N) (RdF.cons 71 1 3 (by kernel_rfl) (Qy5 N) RdF.nil)))
 exact(h0.map (fun x=>⟨x.1,x.2.1⟩) (fun x=>by rw [Qud];rfl) (fun x d h=>by obtain⟨_,rfl,h⟩:=h;obtain⟨_,_,rfl,a0,h⟩:=h;obtain⟨_,_,rfl,a1,h⟩:=h;exact⟨a0,a1⟩)).mono (Nat.le_succ N)
theorem Qy6 {H:Type}{enc:TypeId×Value→H}{w:World}(N:Nat):Rd enc Tryz.prog w N 72 QxR (fun x _=>(okL QpL) x):=(Rd.slice (e:=79) (z:=4) (by kernel_rfl) (by kernel_rfl) (by decide) (fun x=>Qk3 rfl) (QAw N)).map id (fun _=>rfl) fun _ _ h=>QjY h
theorem QAx {H:Type}{enc:TypeId×Value→H}{w:World}(N:Nat):Rd enc Tryz.prog w N 27 Qf (fun x _=>(okL (okI .i64)) x):=(Rd.slice (e:=3) (z:=1) (by kernel_rfl) (by kernel_rfl) (by decide) (fun x=>Qk3 rfl) (QfZ N)).map id (fun _=>rfl) fun _ _ h=>QjY h
def Qyh (x:(Int×Int×Int)):Prop:=(okI .i64) x.1∧(okI .i64) x.2.1∧(okI .i64) x.2.2
theorem QAy {H:Type}{enc:TypeId×Value→H}{w:World}(N:Nat):Rd enc Tryz.prog w N 73 Qus (fun x _=>Qyh x):=by
 have h0:=(Rd.array (e:=3) (n:=3) (tot:=3) (fs:=[(3,0),(3,1),(3,2)]) (N:=N) (t:=73) (P:=Tryz.prog) (w:=w) (enc:=enc) (by kernel_rfl) (RdF.cons 3 0 1 (by kernel_rfl) (QfZ N) (RdF.cons 3 1 1 (by kernel_rfl) (QfZ N) (RdF.cons 3 2 1 (by kernel_rfl) (QfZ N) RdF.nil))))
 exact(h0.map (fun x=>⟨x.1,x.2.1,x.2.2.1⟩) (fun _=>rfl) (fun x d h=>by obtain⟨_,rfl,h⟩:=h;obtain⟨_,_,rfl,a0,h⟩:=h;obtain⟨_,_,rfl,a1,h⟩:=h;obtain⟨_,_,rfl,a2,h⟩:=h;exact⟨a0,a1,a2⟩)).mono (Nat.le_succ N)
def Qto (x:Qw):Prop:=okS x.Name∧(okL QuK) x.Vars∧QkA x.Guard∧(okI .i64) x.Join∧(okI .i64) x.Split∧(okL QpL) x.Ins∧(okL QpL) x.Outs∧(okL (okI .i64)) x.Cancel∧(okI .i64) x.After∧Qyh x.Many
theorem QAz {H:Type}{enc:TypeId×Value→H}{w:World}(N:Nat):Rd enc Tryz.prog w N 75 Qg (fun x _=>Qto x):=by
 have h0:=(Rd.struct (fs:=[(9,0),(68,1),(71,2),(3,5),(3,6),(72,7),(72,8),(27,9),(3,10),(73,11)]) (tot:=14) (N:=N) (t:=75) (P:=Tryz.prog) (w:=w) (enc:=enc) (by kernel_rfl) (RdF.cons 9 0 1 (by kernel_rfl) (Qwl N) (RdF.cons 68 1 1 (by kernel_rfl) (QAv N) (RdF.cons 71 2 3 (by kernel_rfl) (Qy5 N) (RdF.cons 3 5 1 (by kernel_rfl) (QfZ N) (RdF.cons 3 6 1 (by kernel_rfl) (QfZ N) (RdF.cons 72 7 1 (by kernel_rfl) (Qy6 N) (RdF.cons 72 8 1 (by kernel_rfl) (Qy6 N) (RdF.cons 27 9 1 (by kernel_rfl) (QAx N) (RdF.cons 3 10 1 (by kernel_rfl) (QfZ N) (RdF.cons 73 11 3 (by kernel_rfl) (QAy N) RdF.nil)))))))))))
 exact(h0.map (fun x=>⟨x.1,x.2.1,x.2.2.1,x.2.2.2.1,x.2.2.2.2.1,x.2.2.2.2.2.1,x.2.2.2.2.2.2.1,x.2.2.2.2.2.2.2.1,x.2.2.2.2.2.2.2.2.1,x.2.2.2.2.2.2.2.2.2.1⟩) (fun x=>by rw [Qud];rfl) (fun x d h=>by obtain⟨_,rfl,h⟩:=h;obtain⟨_,_,rfl,a0,h⟩:=h;obtain⟨_,_,rfl,a1,h⟩:=h;obtain⟨_,_,rfl,a2,h⟩:=h;obtain⟨_,_,rfl,a3,h⟩:=h;obtain⟨_,_,rfl,a4,h⟩:=h;obtain⟨_,_,rfl,a5,h⟩:=h;obtain⟨_,_,rfl,a6,h⟩:=h;obtain⟨_,_,rfl,a7,h⟩:=h;obtain⟨_,_,rfl,a8,h⟩:=h;obtain⟨_,_,rfl,a9,h⟩:=h;exact⟨a0,a1,a2,a3,a4,a5,a6,a7,a8,a9⟩)).mono (Nat.le_succ N)
theorem QAA {H:Type}{enc:TypeId×Value→H}{w:World}(N:Nat):Rd enc Tryz.prog w N 24 Qxg (fun x _=>(okL Qto) x):=(Rd.slice (e:=75) (z:=14) (by kernel_rfl) (by kernel_rfl) (by decide) (fun x=>Qk3 rfl) (QAz N)).map id (fun _=>rfl) fun _ _ h=>QjY h
def Qr6 (x:Qm):Prop:=(okL Qqp) x.Colours∧(okL QrK) x.Places∧(okL Qto) x.Tasks∧(okI .i64) x.From∧(okI .i64) x.To
theorem QAB {H:Type}{enc:TypeId×Value→H}{w:World}(N:Nat):Rd enc Tryz.prog w N 26 Qe (fun x _=>Qr6 x):=by
 have h0:=(Rd.struct (fs:=[(22,0),(23,1),(24,2),(3,3),(3,4)]) (tot:=5) (N:=N) (t:=26) (P:=Tryz.prog) (w:=w) (enc:=enc) (by kernel_rfl) (RdF.cons 22 0 1 (by kernel_rfl) (QAr N) (RdF.cons 23 1 1 (by kernel_rfl) (QAu N) (RdF.cons 24 2 1 (by kernel_rfl) (QAA N) (RdF.cons 3 3 1 (by kernel_rfl) (QfZ N) (RdF.cons 3 4 1 (by kernel_rfl) (QfZ N) RdF.nil))))))
 exact(h0.map (fun x=>⟨x.1,x.2.1,x.2.2.1,x.2.2.2.1,x.2.2.2.2.1⟩) (fun _=>rfl) (fun x d h=>by obtain⟨_,rfl,h⟩:=h;obtain⟨_,_,rfl,a0,h⟩:=h;obtain⟨_,_,rfl,a1,h⟩:=h;obtain⟨_,_,rfl,a2,h⟩:=h;obtain⟨_,_,rfl,a3,h⟩:=h;obtain⟨_,_,rfl,a4,h⟩:=h;exact⟨a0,a1,a2,a3,a4⟩)).mono (Nat.le_succ N)
namespace LawInvarBases
theorem own : ownKnob Tryz.prog.godebug=none:=by kernel_rfl
theorem Qzo : laidOutB Tryz.prog=true:=by kernel_rfl
theorem QyZ : ∀t∈Tryz.f4.params.toList,Tryz.prog.readableRec t=true∧t<Tryz.prog.types.size:=by
 have h:(Tryz.f4.params.toList.all fun t=>Tryz.prog.readableRec t&&decide (t<Tryz.prog.types.size))=true:=by kernel_rfl
 intro t ht
 have:=Q4.1 h t ht
 rw [Qy,Q2]at this
 exact this
theorem Qy0 (os:Os)(args:Array Value):laidMetH Tryz.prog Rows.invarBasesRow.laid ((World.doorLaid Tryz.prog 33 os).forCall (fun _ _=>0) ⟨#[],args,[]⟩).memory:=
 laidMetH_of_parts3 (fuel:=8) (laidMet_of_run' 8 (by kernel_rfl) (by kernel_rfl)) (by kernel_rfl) (by kernel_rfl)
theorem Qy1 {W:World}(h:laidMetH Tryz.prog Rows.invarBasesRow.laid W):Qmp Tryz.prog (fun k=>k<W.heap.size) W:=
 QvT (r:=[]) (g:=0) (t:=261) (e:=5) 1 (by kernel_rfl) (by kernel_rfl) (by kernel_rfl) (by kernel_rfl) (by kernel_rfl) (by kernel_rfl) (by kernel_rfl) (by kernel_rfl) h
set_option maxRecDepth 100000 in
theorem Qz7 (hF:∀(a0:Qm),Qr6 a0→Qd3 a0=some true)(os:Os)(started:os.Started)(H:Type)(enc:TypeId×Value→H):
  ReturnsInHanded {} Tryz.checked os 4 .any (fun w args=>(Rows.invarBasesSpec.pre enc Tryz.prog Tryz.f4 Rows.invarBasesRow.domain false w args∧laidMetH Tryz.prog Rows.invarBasesRow.laid w)∧sizedMet enc Tryz.prog Tryz.f4 (OpenSpec.ofChange Rows.invarBasesSpec) false w args) (Rows.invarBasesSpec.post enc Tryz.prog Tryz.f4 false true false false):=by
 refine returnsInHanded_of_change_and (C:=Tryz.checked) (X:=fun w _=>laidMetH Tryz.prog Rows.invarBasesRow.laid w) (fun _ _ _ hh h=>h.of_heap hh) own started (by kernel_rfl) Tryz.func4
  (ChangeSpec.witness_shaped (enc:=enc) (C:=Tryz.checked) (os:=os) (X:=fun w _=>laidMetH Tryz.prog Rows.invarBasesRow.laid w) false (World.doorLaid Tryz.prog 33 os) #[.agg #[.slice none 0 0,.slice none 0 0,.slice none 0 0,.int .i64 0,.int .i64 0]] 8 rfl (World.shaped_of_RefB (by kernel_rfl) (by kernel_rfl)) (by kernel_rfl) (by kernel_rfl) (by kernel_rfl) (Qy0 os _)) ?_
 intro W base args ds gs before hval0 hW hcnd hz hL _
 have hval:∀(j:Nat) t v,Tryz.f4.params[j]? = some t→args[j]? = some v→Value.okWide Tryz.prog W .any base t v:=hval0
 have hW1:=hW
 obtain⟨p,q,hA0,hV,_,_,_⟩:=hW
 obtain⟨rfl,_⟩:=trodVars_none hV
 have hA:DataW.TrodAll enc Tryz.prog W 0 (fun _=>true) true Tryz.f4.params.toList args.toList ds p:=hA0
 rw [Tryz.params4]at hA hval
 obtain⟨v0,vs0,d0,ds0,p0,q0,hargs,rfl,_,h0,r0⟩:=trodAll_cons hA
 obtain⟨rfl,rfl,_⟩:=trodAll_nil r0
 obtain rfl:args=#[v0]:=by cases args;simp_all
 obtain⟨a0,w0,c0⟩:=Rd.open (fun N=>QAB N) h0
 obtain⟨_,rfl⟩:=QyG (P:=Tryz.prog) (t:=26) (fs:=[(22,0),(23,1),(24,2),(3,3),(3,4)]) (tot:=5) (by kernel_rfl) (hval 0 26 v0 rfl rfl)
 have e0:=c0.argS
 refine(Qd.law (us:=[.agg (Qe a0)]) (Qpz a0 (hF a0 w0)) (Qy1 hL) rfl (fun j x v hx hv=>?_)).mono fun e W2 ⟨he,hb⟩=>?_
 ·match j with
  | 0=>cases hx;cases hv;exact e0
  | j+1=>simp at hx
 subst he
 exact⟨_,rfl,QyH Qzo QyZ hW1 rfl hb rfl Tryz.underlying4 rfl rfl rfl⟩
theorem proved_of (hF:∀(a0:Qm),Qr6 a0→Qd3 a0=some true):Rows.InvarBasesSaid:=
 OpenClaim.holds_of_wide 4 Tryz.f4 rfl rfl rfl rfl rfl rfl rfl ⟨rfl,rfl,rfl,rfl,rfl⟩ rfl rfl rfl rfl rfl (by kernel_rfl) Tryz.func4 (by kernel_rfl)
  (Qab (by kernel_rfl)) (by unfold Func.isWrapper;first | (rw [if_pos (by decide +kernel)];kernel_rfl) | (rw [if_neg (by decide +kernel)];exact⟨rfl,rfl⟩))
  (fun os started H enc _=>Qz7 hF os started H enc)
theorem card_of (hs:Rows.InvarBasesSaid):Rows.InvarBasesCardSaid:=
 Claim7.holds_tied_plain_at .later [] [.listed,.data] true (true, "e1d83377e7bc5629bf1562ed4cd27be8d64b52160e690022d2418aa094ccef66") false
  hs (fun _ h=>by cases h) (by kernel_rfl) (fun _ h=>by cases h) invarBases_row_tie rfl ⟨rfl,rfl⟩ (by kernel_rfl) rfl
  (fun f fn hf hfn=>by
   obtain rfl:f=4:=Option.some.inj ((show Tryz.prog.funcNamed "baldric/baldriclaw18.InvarBases" = some 4 by kernel_rfl).symm.trans hf) |>.symm
   obtain rfl:fn=Tryz.f4:=(Option.some.inj (Tryz.func4.symm.trans hfn)).symm
   exact⟨by kernel_rfl,fun j t ht=>by
    rw [Tryz.params4]at ht
    have hm:t∈[26]:=by simpa using Array.mem_of_getElem? ht
    have hall:([26].all fun u=>!Tryz.prog.wantsStandIn u)=true:=by kernel_rfl
    exact(show Tryz.prog.wantsStandIn t=false by simpa using Q4.1 hall t hm)⟩)
  (by kernel_rfl)
end LawInvarBases
theorem kE {e:Ql}(h:QkA e):Qde e:=by
 induction h with
 | mk x _ _ h1 _ ih=>exact .mk x h1 ih
theorem kL {α:Type}{p q:α→Prop}(f:∀x,p x→q x){l:List α}(h:okL p l):QT q l:=⟨h.1,fun x hx=>f x (h.2 x hx)⟩
theorem kA {a:Q0}(h:QpL a):Qj4 a:=⟨trivial,kE h.2⟩
theorem QAQ {n:Qm}(h:Qr6 n):QK n:=
 ⟨kL (fun c hc=>⟨hc.1,trivial,trivial,trivial,kL (fun s hs=>hs) hc.2.2.2.2.1,trivial,trivial⟩) h.1,kL (fun p hp=>⟨hp.1,trivial,kL (fun _ _=>trivial) hp.2.2⟩) h.2.1,
  kL (fun t ht=>⟨ht.1,kL (fun v hv=>⟨hv.1,trivial⟩) ht.2.1,kE ht.2.2.1,trivial,trivial,kL (fun _ h=>kA h) ht.2.2.2.2.2.1,kL (fun _ h=>kA h) ht.2.2.2.2.2.2.1,kL (fun _ _=>trivial) ht.2.2.2.2.2.2.2.1,trivial,trivial⟩) h.2.2.1,trivial,trivial⟩
theorem proved : Rows.InvarBasesCardSaid:=LawInvarBases.card_of (LawInvarBases.proved_of fun a0 h0=>Qxv (QAQ h0))

end Go.Proofs.YtbfgchciebcbpaaGreatDoor
