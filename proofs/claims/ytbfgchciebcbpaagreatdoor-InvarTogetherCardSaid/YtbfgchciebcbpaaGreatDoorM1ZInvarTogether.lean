/- InvarTogether, as it is given: of any net and two rows it answers true, with no condition but what its row asks of all calls. -/
import Derived.Test.YtbfgchciebcbpaaGreatDoorM1P1
import Derived.Test.YtbfgchciebcbpaaGreatDoorM1T2
import Derived.Test.YtbfgchciebcbpaaGreatDoorM1V3
import Derived.Test.YtbfgchciebcbpaaGreatDoorRows
import Derived.Test.YtbfgchciebcbpaaGreatDoorTie
import Derived.Test.YtbfgchciebcbpaaGreatDoorCards
import Derived.SevenTiedAt
import Derived.WalkKit
import Derived.ProofKit
import Derived.OpenShut
set_option linter.unusedVariables false
set_option linter.unusedSimpArgs false
set_option linter.unusedSectionVars false
set_option linter.deprecated false
noncomputable section
namespace Go.Proofs.YtbfgchciebcbpaaGreatDoor
open Go Go.RowKit Go.Vm Go.ChangeShapes Go.WideShapes Go.ChangeAt
theorem QsS {H:Type}{enc:TypeId×Value→H}{w:World}(N:Nat):Rd enc Tryz.prog w N 9 Qb7 (fun x _=>okS x):=(Rd.string (by kernel_rfl)).map id (fun _=>rfl) fun _ _ h=>h.1
theorem Qer {H:Type}{enc:TypeId×Value→H}{w:World}(N:Nat):Rd enc Tryz.prog w N 3 Qb (fun x _=>(okI .i64) x):=(Rd.int (by kernel_rfl)).map id (fun _=>rfl) fun _ _ h=>QvG h
theorem Qv1 {H:Type}{enc:TypeId×Value→H}{w:World}(N:Nat):Rd enc Tryz.prog w N 100 QvH (fun x _=>(okL okS) x):=(Rd.slice (e:=9) (z:=1) (by kernel_rfl) (by kernel_rfl) (by decide) (fun x=>QiZ rfl) (QsS N)).map id (fun _=>rfl) fun _ _ h=>QhY h
def QnC (x:QD):Prop:=okS x.Name∧(okI .i64) x.Kind∧(okI .i64) x.Lo∧(okI .i64) x.Hi∧(okL okS) x.Names∧(okI .i64) x.First∧(okI .i64) x.Then
theorem Qv2 {H:Type}{enc:TypeId×Value→H}{w:World}(N:Nat):Rd enc Tryz.prog w N 102 Qv (fun x _=>QnC x):=by
 have h0:=(Rd.struct (fs:=[(9,0),(3,1),(3,2),(3,3),(100,4),(3,5),(3,6)]) (tot:=7) (N:=N) (t:=102) (P:=Tryz.prog) (w:=w) (enc:=enc) (by kernel_rfl) (RdF.cons 9 0 1 (by kernel_rfl) (QsS N) (RdF.cons 3 1 1 (by kernel_rfl) (Qer N) (RdF.cons 3 2 1 (by kernel_rfl) (Qer N) (RdF.cons 3 3 1 (by kernel_rfl) (Qer N) (RdF.cons 100 4 1 (by kernel_rfl) (Qv1 N) (RdF.cons 3 5 1 (by kernel_rfl) (Qer N) (RdF.cons 3 6 1 (by kernel_rfl) (Qer N) RdF.nil))))))))
 exact(h0.map (fun x=>⟨x.1,x.2.1,x.2.2.1,x.2.2.2.1,x.2.2.2.2.1,x.2.2.2.2.2.1,x.2.2.2.2.2.2.1⟩) (fun _=>rfl) (fun x d h=>by obtain⟨_,rfl,h⟩:=h;obtain⟨_,_,rfl,a0,h⟩:=h;obtain⟨_,_,rfl,a1,h⟩:=h;obtain⟨_,_,rfl,a2,h⟩:=h;obtain⟨_,_,rfl,a3,h⟩:=h;obtain⟨_,_,rfl,a4,h⟩:=h;obtain⟨_,_,rfl,a5,h⟩:=h;obtain⟨_,_,rfl,a6,h⟩:=h;exact⟨a0,a1,a2,a3,a4,a5,a6⟩)).mono (Nat.le_succ N)
theorem Qwl {H:Type}{enc:TypeId×Value→H}{w:World}(N:Nat):Rd enc Tryz.prog w N 22 QsE (fun x _=>(okL QnC) x):=(Rd.slice (e:=102) (z:=7) (by kernel_rfl) (by kernel_rfl) (by decide) (fun x=>QiZ rfl) (Qv2 N)).map id (fun _=>rfl) fun _ _ h=>QhY h
def QsT (x:(Int×Int)):Prop:=(okI .i64) x.1∧(okI .i64) x.2
theorem Qwm {H:Type}{enc:TypeId×Value→H}{w:World}(N:Nat):Rd enc Tryz.prog w N 61 Qaq (fun x _=>QsT x):=by
 have h0:=(Rd.array (e:=3) (n:=2) (tot:=2) (fs:=[(3,0),(3,1)]) (N:=N) (t:=61) (P:=Tryz.prog) (w:=w) (enc:=enc) (by kernel_rfl) (RdF.cons 3 0 1 (by kernel_rfl) (Qer N) (RdF.cons 3 1 1 (by kernel_rfl) (Qer N) RdF.nil)))
 exact(h0.map (fun x=>⟨x.1,x.2.1⟩) (fun _=>rfl) (fun x d h=>by obtain⟨_,rfl,h⟩:=h;obtain⟨_,_,rfl,a0,h⟩:=h;obtain⟨_,_,rfl,a1,h⟩:=h;exact⟨a0,a1⟩)).mono (Nat.le_succ N)
theorem Qwn {H:Type}{enc:TypeId×Value→H}{w:World}(N:Nat):Rd enc Tryz.prog w N 59 Qjn (fun x _=>(okL QsT) x):=(Rd.slice (e:=61) (z:=2) (by kernel_rfl) (by kernel_rfl) (by decide) (fun x=>QiZ rfl) (Qwm N)).map id (fun _=>rfl) fun _ _ h=>QhY h
def QoM (x:QB):Prop:=okS x.Name∧(okI .i64) x.Colour∧(okL QsT) x.First
theorem Qv3 {H:Type}{enc:TypeId×Value→H}{w:World}(N:Nat):Rd enc Tryz.prog w N 104 Qq (fun x _=>QoM x):=by
 have h0:=(Rd.struct (fs:=[(9,0),(3,1),(59,2)]) (tot:=3) (N:=N) (t:=104) (P:=Tryz.prog) (w:=w) (enc:=enc) (by kernel_rfl) (RdF.cons 9 0 1 (by kernel_rfl) (QsS N) (RdF.cons 3 1 1 (by kernel_rfl) (Qer N) (RdF.cons 59 2 1 (by kernel_rfl) (Qwn N) RdF.nil))))
 exact(h0.map (fun x=>⟨x.1,x.2.1,x.2.2.1⟩) (fun _=>rfl) (fun x d h=>by obtain⟨_,rfl,h⟩:=h;obtain⟨_,_,rfl,a0,h⟩:=h;obtain⟨_,_,rfl,a1,h⟩:=h;obtain⟨_,_,rfl,a2,h⟩:=h;exact⟨a0,a1,a2⟩)).mono (Nat.le_succ N)
theorem Qwo {H:Type}{enc:TypeId×Value→H}{w:World}(N:Nat):Rd enc Tryz.prog w N 23 Qs6 (fun x _=>(okL QoM) x):=(Rd.slice (e:=104) (z:=3) (by kernel_rfl) (by kernel_rfl) (by decide) (fun x=>QiZ rfl) (Qv3 N)).map id (fun _=>rfl) fun _ _ h=>QhY h
def Qrz (x:Q6):Prop:=okS x.Name∧(okI .i64) x.Colour
theorem Qv4 {H:Type}{enc:TypeId×Value→H}{w:World}(N:Nat):Rd enc Tryz.prog w N 106 Qx (fun x _=>Qrz x):=by
 have h0:=(Rd.struct (fs:=[(9,0),(3,1)]) (tot:=2) (N:=N) (t:=106) (P:=Tryz.prog) (w:=w) (enc:=enc) (by kernel_rfl) (RdF.cons 9 0 1 (by kernel_rfl) (QsS N) (RdF.cons 3 1 1 (by kernel_rfl) (Qer N) RdF.nil)))
 exact(h0.map (fun x=>⟨x.1,x.2.1⟩) (fun _=>rfl) (fun x d h=>by obtain⟨_,rfl,h⟩:=h;obtain⟨_,_,rfl,a0,h⟩:=h;obtain⟨_,_,rfl,a1,h⟩:=h;exact⟨a0,a1⟩)).mono (Nat.le_succ N)
theorem Qwp {H:Type}{enc:TypeId×Value→H}{w:World}(N:Nat):Rd enc Tryz.prog w N 68 Qa4 (fun x _=>(okL Qrz) x):=(Rd.slice (e:=106) (z:=2) (by kernel_rfl) (by kernel_rfl) (by decide) (fun x=>QiZ rfl) (Qv4 N)).map id (fun _=>rfl) fun _ _ h=>QhY h
theorem Qq6 (x:Qj):Qo x=[.i .i64 x.Kind,.i .i64 x.Num,.sl 3 (QaG x.Kids)]:=by cases x;rw [Qo]
inductive QiG : Qj→Prop where
 | mk (x:Qj):(okI .i64) x.Kind→(okI .i64) x.Num→x.Kids.length≤maxLen→(∀k∈x.Kids,QiG k)→QiG x
theorem Qvj {H:Type}{enc:TypeId×Value→H}{w:World}(N:Nat):Rd enc Tryz.prog w N 71 Qo (fun x _=>QiG x):=by
 induction N with
 | zero=>exact Rd.zero
 | succ N ih=>
  have h0:=(Rd.struct (fs:=[(3,0),(3,1),(69,2)]) (tot:=3) (N:=N) (t:=71) (P:=Tryz.prog) (w:=w) (enc:=enc) (by kernel_rfl) (RdF.cons 3 0 1 (by kernel_rfl) (Qer N) (RdF.cons 3 1 1 (by kernel_rfl) (Qer N) (RdF.cons 69 2 1 (by kernel_rfl) (Rd.slice (e:=71) (z:=3) (by kernel_rfl) (by kernel_rfl) (by decide) (fun x=>QiZ (by cases x;rfl)) ih) RdF.nil))))
  exact h0.map (fun x=>⟨x.1,x.2.1,x.2.2.1⟩) (fun x=>by simp only [Qo];rw [Qg9];rfl) (fun x d h=>by obtain⟨_,rfl,h⟩:=h;obtain⟨_,_,rfl,a0,h⟩:=h;obtain⟨_,_,rfl,a1,h⟩:=h;obtain⟨_,_,rfl,a2,h⟩:=h;exact QiG.mk _ a0 a1 (QhY a2).1 (QhY a2).2)
def Qm1 (x:QM):Prop:=(okI .i64) x.Place∧QiG x.Expr
theorem Qwq {H:Type}{enc:TypeId×Value→H}{w:World}(N:Nat):Rd enc Tryz.prog w N 79 QP (fun x _=>Qm1 x):=by
 have h0:=(Rd.struct (fs:=[(3,0),(71,1)]) (tot:=4) (N:=N) (t:=79) (P:=Tryz.prog) (w:=w) (enc:=enc) (by kernel_rfl) (RdF.cons 3 0 1 (by kernel_rfl) (Qer N) (RdF.cons 71 1 3 (by kernel_rfl) (Qvj N) RdF.nil)))
 exact(h0.map (fun x=>⟨x.1,x.2.1⟩) (fun x=>by rw [Qq6];rfl) (fun x d h=>by obtain⟨_,rfl,h⟩:=h;obtain⟨_,_,rfl,a0,h⟩:=h;obtain⟨_,_,rfl,a1,h⟩:=h;exact⟨a0,a1⟩)).mono (Nat.le_succ N)
theorem Qvk {H:Type}{enc:TypeId×Value→H}{w:World}(N:Nat):Rd enc Tryz.prog w N 72 Quf (fun x _=>(okL Qm1) x):=(Rd.slice (e:=79) (z:=4) (by kernel_rfl) (by kernel_rfl) (by decide) (fun x=>QiZ rfl) (Qwq N)).map id (fun _=>rfl) fun _ _ h=>QhY h
theorem QtT {H:Type}{enc:TypeId×Value→H}{w:World}(N:Nat):Rd enc Tryz.prog w N 27 Qk (fun x _=>(okL (okI .i64)) x):=(Rd.slice (e:=3) (z:=1) (by kernel_rfl) (by kernel_rfl) (by decide) (fun x=>QiZ rfl) (Qer N)).map id (fun _=>rfl) fun _ _ h=>QhY h
def Quv (x:(Int×Int×Int)):Prop:=(okI .i64) x.1∧(okI .i64) x.2.1∧(okI .i64) x.2.2
theorem Qwr {H:Type}{enc:TypeId×Value→H}{w:World}(N:Nat):Rd enc Tryz.prog w N 73 Qrk (fun x _=>Quv x):=by
 have h0:=(Rd.array (e:=3) (n:=3) (tot:=3) (fs:=[(3,0),(3,1),(3,2)]) (N:=N) (t:=73) (P:=Tryz.prog) (w:=w) (enc:=enc) (by kernel_rfl) (RdF.cons 3 0 1 (by kernel_rfl) (Qer N) (RdF.cons 3 1 1 (by kernel_rfl) (Qer N) (RdF.cons 3 2 1 (by kernel_rfl) (Qer N) RdF.nil))))
 exact(h0.map (fun x=>⟨x.1,x.2.1,x.2.2.1⟩) (fun _=>rfl) (fun x d h=>by obtain⟨_,rfl,h⟩:=h;obtain⟨_,_,rfl,a0,h⟩:=h;obtain⟨_,_,rfl,a1,h⟩:=h;obtain⟨_,_,rfl,a2,h⟩:=h;exact⟨a0,a1,a2⟩)).mono (Nat.le_succ N)
def Qqg (x:Qu):Prop:=okS x.Name∧(okL Qrz) x.Vars∧QiG x.Guard∧(okI .i64) x.Join∧(okI .i64) x.Split∧(okL Qm1) x.Ins∧(okL Qm1) x.Outs∧(okL (okI .i64)) x.Cancel∧(okI .i64) x.After∧Quv x.Many
theorem Qws {H:Type}{enc:TypeId×Value→H}{w:World}(N:Nat):Rd enc Tryz.prog w N 75 Qf (fun x _=>Qqg x):=by
 have h0:=(Rd.struct (fs:=[(9,0),(68,1),(71,2),(3,5),(3,6),(72,7),(72,8),(27,9),(3,10),(73,11)]) (tot:=14) (N:=N) (t:=75) (P:=Tryz.prog) (w:=w) (enc:=enc) (by kernel_rfl) (RdF.cons 9 0 1 (by kernel_rfl) (QsS N) (RdF.cons 68 1 1 (by kernel_rfl) (Qwp N) (RdF.cons 71 2 3 (by kernel_rfl) (Qvj N) (RdF.cons 3 5 1 (by kernel_rfl) (Qer N) (RdF.cons 3 6 1 (by kernel_rfl) (Qer N) (RdF.cons 72 7 1 (by kernel_rfl) (Qvk N) (RdF.cons 72 8 1 (by kernel_rfl) (Qvk N) (RdF.cons 27 9 1 (by kernel_rfl) (QtT N) (RdF.cons 3 10 1 (by kernel_rfl) (Qer N) (RdF.cons 73 11 3 (by kernel_rfl) (Qwr N) RdF.nil)))))))))))
 exact(h0.map (fun x=>⟨x.1,x.2.1,x.2.2.1,x.2.2.2.1,x.2.2.2.2.1,x.2.2.2.2.2.1,x.2.2.2.2.2.2.1,x.2.2.2.2.2.2.2.1,x.2.2.2.2.2.2.2.2.1,x.2.2.2.2.2.2.2.2.2.1⟩) (fun x=>by rw [Qq6];rfl) (fun x d h=>by obtain⟨_,rfl,h⟩:=h;obtain⟨_,_,rfl,a0,h⟩:=h;obtain⟨_,_,rfl,a1,h⟩:=h;obtain⟨_,_,rfl,a2,h⟩:=h;obtain⟨_,_,rfl,a3,h⟩:=h;obtain⟨_,_,rfl,a4,h⟩:=h;obtain⟨_,_,rfl,a5,h⟩:=h;obtain⟨_,_,rfl,a6,h⟩:=h;obtain⟨_,_,rfl,a7,h⟩:=h;obtain⟨_,_,rfl,a8,h⟩:=h;obtain⟨_,_,rfl,a9,h⟩:=h;exact⟨a0,a1,a2,a3,a4,a5,a6,a7,a8,a9⟩)).mono (Nat.le_succ N)
theorem Qwt {H:Type}{enc:TypeId×Value→H}{w:World}(N:Nat):Rd enc Tryz.prog w N 24 QtH (fun x _=>(okL Qqg) x):=(Rd.slice (e:=75) (z:=14) (by kernel_rfl) (by kernel_rfl) (by decide) (fun x=>QiZ rfl) (Qws N)).map id (fun _=>rfl) fun _ _ h=>QhY h
def Qo0 (x:Qm):Prop:=(okL QnC) x.Colours∧(okL QoM) x.Places∧(okL Qqg) x.Tasks∧(okI .i64) x.From∧(okI .i64) x.To
theorem Qwu {H:Type}{enc:TypeId×Value→H}{w:World}(N:Nat):Rd enc Tryz.prog w N 26 Qe (fun x _=>Qo0 x):=by
 have h0:=(Rd.struct (fs:=[(22,0),(23,1),(24,2),(3,3),(3,4)]) (tot:=5) (N:=N) (t:=26) (P:=Tryz.prog) (w:=w) (enc:=enc) (by kernel_rfl) (RdF.cons 22 0 1 (by kernel_rfl) (Qwl N) (RdF.cons 23 1 1 (by kernel_rfl) (Qwo N) (RdF.cons 24 2 1 (by kernel_rfl) (Qwt N) (RdF.cons 3 3 1 (by kernel_rfl) (Qer N) (RdF.cons 3 4 1 (by kernel_rfl) (Qer N) RdF.nil))))))
 exact(h0.map (fun x=>⟨x.1,x.2.1,x.2.2.1,x.2.2.2.1,x.2.2.2.2.1⟩) (fun _=>rfl) (fun x d h=>by obtain⟨_,rfl,h⟩:=h;obtain⟨_,_,rfl,a0,h⟩:=h;obtain⟨_,_,rfl,a1,h⟩:=h;obtain⟨_,_,rfl,a2,h⟩:=h;obtain⟨_,_,rfl,a3,h⟩:=h;obtain⟨_,_,rfl,a4,h⟩:=h;exact⟨a0,a1,a2,a3,a4⟩)).mono (Nat.le_succ N)
namespace LawInvarTogether
theorem own : ownKnob Tryz.prog.godebug=none:=by kernel_rfl
theorem Qvu : laidOutB Tryz.prog=true:=by kernel_rfl
theorem Qvb : ∀t∈Tryz.f6.params.toList,Tryz.prog.readableRec t=true∧t<Tryz.prog.types.size:=by
 have h:(Tryz.f6.params.toList.all fun t=>Tryz.prog.readableRec t&&decide (t<Tryz.prog.types.size))=true:=by kernel_rfl
 intro t ht
 have:=QO.1 h t ht
 rw [Qt,QX]at this
 exact this
theorem Qvc (os:Os)(args:Array Value):laidMetH Tryz.prog Rows.invarTogetherRow.laid ((World.doorLaid Tryz.prog 33 os).forCall (fun _ _=>0) ⟨#[],args,[]⟩).memory:=
 laidMetH_of_parts3 (fuel:=8) (laidMet_of_run' 8 (by kernel_rfl) (by kernel_rfl)) (by kernel_rfl) (by kernel_rfl)
theorem Qvd {W:World}(h:laidMetH Tryz.prog Rows.invarTogetherRow.laid W):QkR Tryz.prog (fun k=>k<W.heap.size) W:=
 QsD (r:=[]) (g:=0) (t:=261) (e:=5) 1 (by kernel_rfl) (by kernel_rfl) (by kernel_rfl) (by kernel_rfl) (by kernel_rfl) (by kernel_rfl) (by kernel_rfl) (by kernel_rfl) h
set_option maxRecDepth 100000 in
theorem Qv5 (hF:∀(a0:Qm) (a1:(List Int)) (a2:(List Int)),Qo0 a0→(okL (okI .i64)) a1→(okL (okI .i64)) a2→Qbw a0 a1 a2=some true)(os:Os)(started:os.Started)(H:Type)(enc:TypeId×Value→H):
  ReturnsInHanded {} Tryz.checked os 6 .any (fun w args=>(Rows.invarTogetherSpec.pre enc Tryz.prog Tryz.f6 Rows.invarTogetherRow.domain false w args∧laidMetH Tryz.prog Rows.invarTogetherRow.laid w)∧sizedMet enc Tryz.prog Tryz.f6 (OpenSpec.ofChange Rows.invarTogetherSpec) false w args) (Rows.invarTogetherSpec.post enc Tryz.prog Tryz.f6 false true false false):=by
 refine returnsInHanded_of_change_and (C:=Tryz.checked) (X:=fun w _=>laidMetH Tryz.prog Rows.invarTogetherRow.laid w) (fun _ _ _ hh h=>h.of_heap hh) own started (by kernel_rfl) Tryz.func6
  (ChangeSpec.witness_shaped (enc:=enc) (C:=Tryz.checked) (os:=os) (X:=fun w _=>laidMetH Tryz.prog Rows.invarTogetherRow.laid w) false (World.doorLaid Tryz.prog 33 os) #[.agg #[.slice none 0 0,.slice none 0 0,.slice none 0 0,.int .i64 0,.int .i64 0],.slice none 0 0,.slice none 0 0] 8 rfl (World.shaped_of_RefB (by kernel_rfl) (by kernel_rfl)) (by kernel_rfl) (by kernel_rfl) (by kernel_rfl) (Qvc os _)) ?_
 intro W base args ds gs before hval0 hW hcnd hz hL _
 have hval:∀(j:Nat) t v,Tryz.f6.params[j]? = some t→args[j]? = some v→Value.okWide Tryz.prog W .any base t v:=hval0
 have hW1:=hW
 obtain⟨p,q,hA0,hV,_,_,_⟩:=hW
 obtain⟨rfl,_⟩:=trodVars_none hV
 have hA:DataW.TrodAll enc Tryz.prog W 0 (fun _=>true) true Tryz.f6.params.toList args.toList ds p:=hA0
 rw [Tryz.params6]at hA hval
 obtain⟨v0,vs0,d0,ds0,p0,q0,hargs,rfl,_,h0,r0⟩:=trodAll_cons hA
 obtain⟨v1,vs1,d1,ds1,p1,q1,rfl,rfl,_,h1,r1⟩:=trodAll_cons r0
 obtain⟨v2,vs2,d2,ds2,p2,q2,rfl,rfl,_,h2,r2⟩:=trodAll_cons r1
 obtain⟨rfl,rfl,_⟩:=trodAll_nil r2
 obtain rfl:args=#[v0,v1,v2]:=by cases args;simp_all
 obtain⟨a0,w0,c0⟩:=Rd.open (fun N=>Qwu N) h0
 obtain⟨_,rfl⟩:=QuU (P:=Tryz.prog) (t:=26) (fs:=[(22,0),(23,1),(24,2),(3,3),(3,4)]) (tot:=5) (by kernel_rfl) (hval 0 26 v0 rfl rfl)
 have e0:=c0.argS
 obtain⟨a1,w1,c1⟩:=Rd.open (fun N=>QtT N) h1
 obtain⟨_,_,_,rfl⟩:=okWide_slice Tryz.underlying27 (hval 1 27 v1 rfl rfl)
 have e1:=(Cl.arg1 rfl c1)
 obtain⟨a2,w2,c2⟩:=Rd.open (fun N=>QtT N) h2
 obtain⟨_,_,_,rfl⟩:=okWide_slice Tryz.underlying27 (hval 2 27 v2 rfl rfl)
 have e2:=(Cl.arg1 rfl c2)
 refine(Qc.law (us:=[.agg (Qe a0),.sl 1 (a1.map Qb),.sl 1 (a2.map Qb)]) (Qlr a0 a1 a2 (hF a0 a1 a2 w0 w1 w2)) (Qvd hL) rfl (fun j x v hx hv=>?_)).mono fun e W2 ⟨he,hb⟩=>?_
 ·match j with
  | 0=>cases hx;cases hv;exact e0
  | 1=>cases hx;cases hv;exact e1
  | 2=>cases hx;cases hv;exact e2
  | j+3=>simp at hx
 subst he
 exact⟨_,rfl,QuV Qvu Qvb hW1 rfl hb rfl Tryz.underlying4 rfl rfl rfl⟩
theorem proved_of (hF:∀(a0:Qm) (a1:(List Int)) (a2:(List Int)),Qo0 a0→(okL (okI .i64)) a1→(okL (okI .i64)) a2→Qbw a0 a1 a2=some true):Rows.InvarTogetherSaid:=
 OpenClaim.holds_of_wide 6 Tryz.f6 rfl rfl rfl rfl rfl rfl rfl ⟨rfl,rfl,rfl,rfl,rfl⟩ rfl rfl rfl rfl rfl (by kernel_rfl) Tryz.func6 (by kernel_rfl)
  (Qab (by kernel_rfl)) (by unfold Func.isWrapper;first | (rw [if_pos (by decide +kernel)];kernel_rfl) | (rw [if_neg (by decide +kernel)];exact⟨rfl,rfl⟩))
  (fun os started H enc _=>Qv5 hF os started H enc)
theorem card_of (hs:Rows.InvarTogetherSaid):Rows.InvarTogetherCardSaid:=
 Claim7.holds_tied_plain_at .later [] [.listed,.data] true (true, "e1d83377e7bc5629bf1562ed4cd27be8d64b52160e690022d2418aa094ccef66") false
  hs (fun _ h=>by cases h) (by kernel_rfl) (fun _ h=>by cases h) invarTogether_row_tie rfl ⟨rfl,rfl⟩ (by kernel_rfl) rfl
  (fun f fn hf hfn=>by
   obtain rfl:f=6:=Option.some.inj ((show Tryz.prog.funcNamed "baldric/baldriclaw18.InvarTogether" = some 6 by kernel_rfl).symm.trans hf) |>.symm
   obtain rfl:fn=Tryz.f6:=(Option.some.inj (Tryz.func6.symm.trans hfn)).symm
   exact⟨by kernel_rfl,fun j t ht=>by
    rw [Tryz.params6]at ht
    have hm:t∈[26,27,27]:=by simpa using Array.mem_of_getElem? ht
    have hall:([26,27,27].all fun u=>!Tryz.prog.wantsStandIn u)=true:=by kernel_rfl
    exact(show Tryz.prog.wantsStandIn t=false by simpa using QO.1 hall t hm)⟩)
  (by kernel_rfl)
end LawInvarTogether
theorem kE {e:Qj}(h:QiG e):QbV e:=by
 induction h with
 | mk x _ _ h1 _ ih=>exact .mk x h1 ih
theorem kL {α:Type}{p q:α→Prop}(f:∀x,p x→q x){l:List α}(h:okL p l):QJ q l:=⟨h.1,fun x hx=>f x (h.2 x hx)⟩
theorem kA {a:QM}(h:Qm1 a):Qh7 a:=⟨trivial,kE h.2⟩
theorem QwG {n:Qm}(h:Qo0 n):QA n:=
 ⟨kL (fun c hc=>⟨hc.1,trivial,trivial,trivial,kL (fun s hs=>hs) hc.2.2.2.2.1,trivial,trivial⟩) h.1,kL (fun p hp=>⟨hp.1,trivial,kL (fun _ _=>trivial) hp.2.2⟩) h.2.1,
  kL (fun t ht=>⟨ht.1,kL (fun v hv=>⟨hv.1,trivial⟩) ht.2.1,kE ht.2.2.1,trivial,trivial,kL (fun _ h=>kA h) ht.2.2.2.2.2.1,kL (fun _ h=>kA h) ht.2.2.2.2.2.2.1,kL (fun _ _=>trivial) ht.2.2.2.2.2.2.2.1,trivial,trivial⟩) h.2.2.1,trivial,trivial⟩
theorem proved : Rows.InvarTogetherCardSaid:=LawInvarTogether.card_of (LawInvarTogether.proved_of fun a0 a1 a2 h0 h1 h2=>Qr0 a0 a1 a2 (QwG h0))

end Go.Proofs.YtbfgchciebcbpaaGreatDoor
