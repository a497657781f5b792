/- InvarTells, as it is given: of any net, row, marking and number of places it answers true, with no condition but what its row asks of all calls. -/
import Derived.Test.YtbfgchciebcbpaaGreatDoorM2P2
import Derived.Test.YtbfgchciebcbpaaGreatDoorM2T2
import Derived.Test.YtbfgchciebcbpaaGreatDoorM2V3
import Derived.Test.YtbfgchciebcbpaaGreatDoorRows
import Derived.Test.YtbfgchciebcbpaaGreatDoorTie
import Derived.Test.YtbfgchciebcbpaaGreatDoorCards
import Derived.SevenTiedAt
import Derived.WalkKit
import Derived.ProofKit
import Derived.OpenShut
set_option linter.unusedVariables false
set_option linter.unusedSimpArgs false
set_option linter.unusedSectionVars false
set_option linter.deprecated false
noncomputable section
namespace Go.Proofs.YtbfgchciebcbpaaGreatDoor
open Go Go.RowKit Go.Vm Go.ChangeShapes Go.WideShapes Go.ChangeAt
theorem Qu6 {H:Type}{enc:TypeId×Value→H}{w:World}(N:Nat):Rd enc Tryz.prog w N 9 QcY (fun x _=>okS x):=(Rd.string (by kernel_rfl)).map id (fun _=>rfl) fun _ _ h=>h.1
theorem QeQ {H:Type}{enc:TypeId×Value→H}{w:World}(N:Nat):Rd enc Tryz.prog w N 3 Qb (fun x _=>(okI .i64) x):=(Rd.int (by kernel_rfl)).map id (fun _=>rfl) fun _ _ h=>Qx9 h
theorem QyA {H:Type}{enc:TypeId×Value→H}{w:World}(N:Nat):Rd enc Tryz.prog w N 100 Qya (fun x _=>(okL okS) x):=(Rd.slice (e:=9) (z:=1) (by kernel_rfl) (by kernel_rfl) (by decide) (fun x=>Qi9 rfl) (Qu6 N)).map id (fun _=>rfl) fun _ _ h=>QhQ h
def Qpw (x:QM):Prop:=okS x.Name∧(okI .i64) x.Kind∧(okI .i64) x.Lo∧(okI .i64) x.Hi∧(okL okS) x.Names∧(okI .i64) x.First∧(okI .i64) x.Then
theorem QyB {H:Type}{enc:TypeId×Value→H}{w:World}(N:Nat):Rd enc Tryz.prog w N 102 Qy (fun x _=>Qpw x):=by
 have h0:=(Rd.struct (fs:=[(9,0),(3,1),(3,2),(3,3),(100,4),(3,5),(3,6)]) (tot:=7) (N:=N) (t:=102) (P:=Tryz.prog) (w:=w) (enc:=enc) (by kernel_rfl) (RdF.cons 9 0 1 (by kernel_rfl) (Qu6 N) (RdF.cons 3 1 1 (by kernel_rfl) (QeQ N) (RdF.cons 3 2 1 (by kernel_rfl) (QeQ N) (RdF.cons 3 3 1 (by kernel_rfl) (QeQ N) (RdF.cons 100 4 1 (by kernel_rfl) (QyA N) (RdF.cons 3 5 1 (by kernel_rfl) (QeQ N) (RdF.cons 3 6 1 (by kernel_rfl) (QeQ N) RdF.nil))))))))
 exact(h0.map (fun x=>⟨x.1,x.2.1,x.2.2.1,x.2.2.2.1,x.2.2.2.2.1,x.2.2.2.2.2.1,x.2.2.2.2.2.2.1⟩) (fun _=>rfl) (fun x d h=>by obtain⟨_,rfl,h⟩:=h;obtain⟨_,_,rfl,a0,h⟩:=h;obtain⟨_,_,rfl,a1,h⟩:=h;obtain⟨_,_,rfl,a2,h⟩:=h;obtain⟨_,_,rfl,a3,h⟩:=h;obtain⟨_,_,rfl,a4,h⟩:=h;obtain⟨_,_,rfl,a5,h⟩:=h;obtain⟨_,_,rfl,a6,h⟩:=h;exact⟨a0,a1,a2,a3,a4,a5,a6⟩)).mono (Nat.le_succ N)
theorem QyV {H:Type}{enc:TypeId×Value→H}{w:World}(N:Nat):Rd enc Tryz.prog w N 22 QuW (fun x _=>(okL Qpw) x):=(Rd.slice (e:=102) (z:=7) (by kernel_rfl) (by kernel_rfl) (by decide) (fun x=>Qi9 rfl) (QyB N)).map id (fun _=>rfl) fun _ _ h=>QhQ h
def QoR (x:(Int×Int)):Prop:=(okI .i64) x.1∧(okI .i64) x.2
theorem QyW {H:Type}{enc:TypeId×Value→H}{w:World}(N:Nat):Rd enc Tryz.prog w N 61 QL (fun x _=>QoR x):=by
 have h0:=(Rd.array (e:=3) (n:=2) (tot:=2) (fs:=[(3,0),(3,1)]) (N:=N) (t:=61) (P:=Tryz.prog) (w:=w) (enc:=enc) (by kernel_rfl) (RdF.cons 3 0 1 (by kernel_rfl) (QeQ N) (RdF.cons 3 1 1 (by kernel_rfl) (QeQ N) RdF.nil)))
 exact(h0.map (fun x=>⟨x.1,x.2.1⟩) (fun _=>rfl) (fun x d h=>by obtain⟨_,rfl,h⟩:=h;obtain⟨_,_,rfl,a0,h⟩:=h;obtain⟨_,_,rfl,a1,h⟩:=h;exact⟨a0,a1⟩)).mono (Nat.le_succ N)
theorem QxD {H:Type}{enc:TypeId×Value→H}{w:World}(N:Nat):Rd enc Tryz.prog w N 59 QbE (fun x _=>(okL QoR) x):=(Rd.slice (e:=61) (z:=2) (by kernel_rfl) (by kernel_rfl) (by decide) (fun x=>Qi9 rfl) (QyW N)).map id (fun _=>rfl) fun _ _ h=>QhQ h
def QqM (x:QG):Prop:=okS x.Name∧(okI .i64) x.Colour∧(okL QoR) x.First
theorem QyC {H:Type}{enc:TypeId×Value→H}{w:World}(N:Nat):Rd enc Tryz.prog w N 104 Qu (fun x _=>QqM x):=by
 have h0:=(Rd.struct (fs:=[(9,0),(3,1),(59,2)]) (tot:=3) (N:=N) (t:=104) (P:=Tryz.prog) (w:=w) (enc:=enc) (by kernel_rfl) (RdF.cons 9 0 1 (by kernel_rfl) (Qu6 N) (RdF.cons 3 1 1 (by kernel_rfl) (QeQ N) (RdF.cons 59 2 1 (by kernel_rfl) (QxD N) RdF.nil))))
 exact(h0.map (fun x=>⟨x.1,x.2.1,x.2.2.1⟩) (fun _=>rfl) (fun x d h=>by obtain⟨_,rfl,h⟩:=h;obtain⟨_,_,rfl,a0,h⟩:=h;obtain⟨_,_,rfl,a1,h⟩:=h;obtain⟨_,_,rfl,a2,h⟩:=h;exact⟨a0,a1,a2⟩)).mono (Nat.le_succ N)
theorem QyX {H:Type}{enc:TypeId×Value→H}{w:World}(N:Nat):Rd enc Tryz.prog w N 23 Qvi (fun x _=>(okL QqM) x):=(Rd.slice (e:=104) (z:=3) (by kernel_rfl) (by kernel_rfl) (by decide) (fun x=>Qi9 rfl) (QyC N)).map id (fun _=>rfl) fun _ _ h=>QhQ h
def QtM (x:Qae):Prop:=okS x.Name∧(okI .i64) x.Colour
theorem QyD {H:Type}{enc:TypeId×Value→H}{w:World}(N:Nat):Rd enc Tryz.prog w N 106 QB (fun x _=>QtM x):=by
 have h0:=(Rd.struct (fs:=[(9,0),(3,1)]) (tot:=2) (N:=N) (t:=106) (P:=Tryz.prog) (w:=w) (enc:=enc) (by kernel_rfl) (RdF.cons 9 0 1 (by kernel_rfl) (Qu6 N) (RdF.cons 3 1 1 (by kernel_rfl) (QeQ N) RdF.nil)))
 exact(h0.map (fun x=>⟨x.1,x.2.1⟩) (fun _=>rfl) (fun x d h=>by obtain⟨_,rfl,h⟩:=h;obtain⟨_,_,rfl,a0,h⟩:=h;obtain⟨_,_,rfl,a1,h⟩:=h;exact⟨a0,a1⟩)).mono (Nat.le_succ N)
theorem QyY {H:Type}{enc:TypeId×Value→H}{w:World}(N:Nat):Rd enc Tryz.prog w N 68 Qbv (fun x _=>(okL QtM) x):=(Rd.slice (e:=106) (z:=2) (by kernel_rfl) (by kernel_rfl) (by decide) (fun x=>Qi9 rfl) (QyD N)).map id (fun _=>rfl) fun _ _ h=>QhQ h
theorem Qte (x:Qk):Qr x=[.i .i64 x.Kind,.i .i64 x.Num,.sl 3 (QaW x.Kids)]:=by cases x;rw [Qr]
inductive Qj0 : Qk→Prop where
 | mk (x:Qk):(okI .i64) x.Kind→(okI .i64) x.Num→x.Kids.length≤maxLen→(∀k∈x.Kids,Qj0 k)→Qj0 x
theorem QxE {H:Type}{enc:TypeId×Value→H}{w:World}(N:Nat):Rd enc Tryz.prog w N 71 Qr (fun x _=>Qj0 x):=by
 induction N with
 | zero=>exact Rd.zero
 | succ N ih=>
  have h0:=(Rd.struct (fs:=[(3,0),(3,1),(69,2)]) (tot:=3) (N:=N) (t:=71) (P:=Tryz.prog) (w:=w) (enc:=enc) (by kernel_rfl) (RdF.cons 3 0 1 (by kernel_rfl) (QeQ N) (RdF.cons 3 1 1 (by kernel_rfl) (QeQ N) (RdF.cons 69 2 1 (by kernel_rfl) (Rd.slice (e:=71) (z:=3) (by kernel_rfl) (by kernel_rfl) (by decide) (fun x=>Qi9 (by cases x;rfl)) ih) RdF.nil))))
  exact h0.map (fun x=>⟨x.1,x.2.1,x.2.2.1⟩) (fun x=>by simp only [Qr];rw [Qik];rfl) (fun x d h=>by obtain⟨_,rfl,h⟩:=h;obtain⟨_,_,rfl,a0,h⟩:=h;obtain⟨_,_,rfl,a1,h⟩:=h;obtain⟨_,_,rfl,a2,h⟩:=h;exact Qj0.mk _ a0 a1 (QhQ a2).1 (QhQ a2).2)
def QoS (x:QT):Prop:=(okI .i64) x.Place∧Qj0 x.Expr
theorem QyZ {H:Type}{enc:TypeId×Value→H}{w:World}(N:Nat):Rd enc Tryz.prog w N 79 QU (fun x _=>QoS x):=by
 have h0:=(Rd.struct (fs:=[(3,0),(71,1)]) (tot:=4) (N:=N) (t:=79) (P:=Tryz.prog) (w:=w) (enc:=enc) (by kernel_rfl) (RdF.cons 3 0 1 (by kernel_rfl) (QeQ N) (RdF.cons 71 1 3 (by kernel_rfl) (QxE N) RdF.nil)))
 exact(h0.map (fun x=>⟨x.1,x.2.1⟩) (fun x=>by rw [Qte];rfl) (fun x d h=>by obtain⟨_,rfl,h⟩:=h;obtain⟨_,_,rfl,a0,h⟩:=h;obtain⟨_,_,rfl,a1,h⟩:=h;exact⟨a0,a1⟩)).mono (Nat.le_succ N)
theorem QxF {H:Type}{enc:TypeId×Value→H}{w:World}(N:Nat):Rd enc Tryz.prog w N 72 Qww (fun x _=>(okL QoS) x):=(Rd.slice (e:=79) (z:=4) (by kernel_rfl) (by kernel_rfl) (by decide) (fun x=>Qi9 rfl) (QyZ N)).map id (fun _=>rfl) fun _ _ h=>QhQ h
theorem QxG {H:Type}{enc:TypeId×Value→H}{w:World}(N:Nat):Rd enc Tryz.prog w N 27 Qf (fun x _=>(okL (okI .i64)) x):=(Rd.slice (e:=3) (z:=1) (by kernel_rfl) (by kernel_rfl) (by decide) (fun x=>Qi9 rfl) (QeQ N)).map id (fun _=>rfl) fun _ _ h=>QhQ h
def QwR (x:(Int×Int×Int)):Prop:=(okI .i64) x.1∧(okI .i64) x.2.1∧(okI .i64) x.2.2
theorem Qy0 {H:Type}{enc:TypeId×Value→H}{w:World}(N:Nat):Rd enc Tryz.prog w N 73 Qtr (fun x _=>QwR x):=by
 have h0:=(Rd.array (e:=3) (n:=3) (tot:=3) (fs:=[(3,0),(3,1),(3,2)]) (N:=N) (t:=73) (P:=Tryz.prog) (w:=w) (enc:=enc) (by kernel_rfl) (RdF.cons 3 0 1 (by kernel_rfl) (QeQ N) (RdF.cons 3 1 1 (by kernel_rfl) (QeQ N) (RdF.cons 3 2 1 (by kernel_rfl) (QeQ N) RdF.nil))))
 exact(h0.map (fun x=>⟨x.1,x.2.1,x.2.2.1⟩) (fun _=>rfl) (fun x d h=>by obtain⟨_,rfl,h⟩:=h;obtain⟨_,_,rfl,a0,h⟩:=h;obtain⟨_,_,rfl,a1,h⟩:=h;obtain⟨_,_,rfl,a2,h⟩:=h;exact⟨a0,a1,a2⟩)).mono (Nat.le_succ N)
def Qsp (x:Qv):Prop:=okS x.Name∧(okL QtM) x.Vars∧Qj0 x.Guard∧(okI .i64) x.Join∧(okI .i64) x.Split∧(okL QoS) x.Ins∧(okL QoS) x.Outs∧(okL (okI .i64)) x.Cancel∧(okI .i64) x.After∧QwR x.Many
theorem Qy1 {H:Type}{enc:TypeId×Value→H}{w:World}(N:Nat):Rd enc Tryz.prog w N 75 Qh (fun x _=>Qsp x):=by
 have h0:=(Rd.struct (fs:=[(9,0),(68,1),(71,2),(3,5),(3,6),(72,7),(72,8),(27,9),(3,10),(73,11)]) (tot:=14) (N:=N) (t:=75) (P:=Tryz.prog) (w:=w) (enc:=enc) (by kernel_rfl) (RdF.cons 9 0 1 (by kernel_rfl) (Qu6 N) (RdF.cons 68 1 1 (by kernel_rfl) (QyY N) (RdF.cons 71 2 3 (by kernel_rfl) (QxE N) (RdF.cons 3 5 1 (by kernel_rfl) (QeQ N) (RdF.cons 3 6 1 (by kernel_rfl) (QeQ N) (RdF.cons 72 7 1 (by kernel_rfl) (QxF N) (RdF.cons 72 8 1 (by kernel_rfl) (QxF N) (RdF.cons 27 9 1 (by kernel_rfl) (QxG N) (RdF.cons 3 10 1 (by kernel_rfl) (QeQ N) (RdF.cons 73 11 3 (by kernel_rfl) (Qy0 N) RdF.nil)))))))))))
 exact(h0.map (fun x=>⟨x.1,x.2.1,x.2.2.1,x.2.2.2.1,x.2.2.2.2.1,x.2.2.2.2.2.1,x.2.2.2.2.2.2.1,x.2.2.2.2.2.2.2.1,x.2.2.2.2.2.2.2.2.1,x.2.2.2.2.2.2.2.2.2.1⟩) (fun x=>by rw [Qte];rfl) (fun x d h=>by obtain⟨_,rfl,h⟩:=h;obtain⟨_,_,rfl,a0,h⟩:=h;obtain⟨_,_,rfl,a1,h⟩:=h;obtain⟨_,_,rfl,a2,h⟩:=h;obtain⟨_,_,rfl,a3,h⟩:=h;obtain⟨_,_,rfl,a4,h⟩:=h;obtain⟨_,_,rfl,a5,h⟩:=h;obtain⟨_,_,rfl,a6,h⟩:=h;obtain⟨_,_,rfl,a7,h⟩:=h;obtain⟨_,_,rfl,a8,h⟩:=h;obtain⟨_,_,rfl,a9,h⟩:=h;exact⟨a0,a1,a2,a3,a4,a5,a6,a7,a8,a9⟩)).mono (Nat.le_succ N)
theorem Qy2 {H:Type}{enc:TypeId×Value→H}{w:World}(N:Nat):Rd enc Tryz.prog w N 24 QvX (fun x _=>(okL Qsp) x):=(Rd.slice (e:=75) (z:=14) (by kernel_rfl) (by kernel_rfl) (by decide) (fun x=>Qi9 rfl) (Qy1 N)).map id (fun _=>rfl) fun _ _ h=>QhQ h
def Qq3 (x:Qm):Prop:=(okL Qpw) x.Colours∧(okL QqM) x.Places∧(okL Qsp) x.Tasks∧(okI .i64) x.From∧(okI .i64) x.To
theorem Qy3 {H:Type}{enc:TypeId×Value→H}{w:World}(N:Nat):Rd enc Tryz.prog w N 26 Qe (fun x _=>Qq3 x):=by
 have h0:=(Rd.struct (fs:=[(22,0),(23,1),(24,2),(3,3),(3,4)]) (tot:=5) (N:=N) (t:=26) (P:=Tryz.prog) (w:=w) (enc:=enc) (by kernel_rfl) (RdF.cons 22 0 1 (by kernel_rfl) (QyV N) (RdF.cons 23 1 1 (by kernel_rfl) (QyX N) (RdF.cons 24 2 1 (by kernel_rfl) (Qy2 N) (RdF.cons 3 3 1 (by kernel_rfl) (QeQ N) (RdF.cons 3 4 1 (by kernel_rfl) (QeQ N) RdF.nil))))))
 exact(h0.map (fun x=>⟨x.1,x.2.1,x.2.2.1,x.2.2.2.1,x.2.2.2.2.1⟩) (fun _=>rfl) (fun x d h=>by obtain⟨_,rfl,h⟩:=h;obtain⟨_,_,rfl,a0,h⟩:=h;obtain⟨_,_,rfl,a1,h⟩:=h;obtain⟨_,_,rfl,a2,h⟩:=h;obtain⟨_,_,rfl,a3,h⟩:=h;obtain⟨_,_,rfl,a4,h⟩:=h;exact⟨a0,a1,a2,a3,a4⟩)).mono (Nat.le_succ N)
def row_LLA2I (x:List (List (Int × Int))):List V:=[.sl 1 (x.map QbE)]
theorem Qy4 {H:Type}{enc:TypeId×Value→H}{w:World}(N:Nat):Rd enc Tryz.prog w N 29 row_LLA2I (fun x _=>(okL (okL QoR)) x):=(Rd.slice (e:=59) (z:=1) (by kernel_rfl) (by kernel_rfl) (by decide) (fun x=>Qi9 rfl) (QxD N)).map id (fun _=>rfl) fun _ _ h=>QhQ h
namespace LawInvarTells
theorem own : ownKnob Tryz.prog.godebug=none:=by kernel_rfl
theorem QxY : laidOutB Tryz.prog=true:=by kernel_rfl
theorem Qxx : ∀t∈Tryz.f3.params.toList,Tryz.prog.readableRec t=true∧t<Tryz.prog.types.size:=by
 have h:(Tryz.f3.params.toList.all fun t=>Tryz.prog.readableRec t&&decide (t<Tryz.prog.types.size))=true:=by kernel_rfl
 intro t ht
 have:=QV.1 h t ht
 rw [Qw,QS]at this
 exact this
theorem Qxy (os:Os)(args:Array Value):laidMetH Tryz.prog Rows.invarTellsRow.laid ((World.doorLaid Tryz.prog 33 os).forCall (fun _ _=>0) ⟨#[],args,[]⟩).memory:=
 laidMetH_of_parts3 (fuel:=8) (laidMet_of_run' 8 (by kernel_rfl) (by kernel_rfl)) (by kernel_rfl) (by kernel_rfl)
theorem Qxz {W:World}(h:laidMetH Tryz.prog Rows.invarTellsRow.laid W):QmB Tryz.prog (fun k=>k<W.heap.size) W:=
 QuV (r:=[]) (g:=0) (t:=261) (e:=5) 1 (by kernel_rfl) (by kernel_rfl) (by kernel_rfl) (by kernel_rfl) (by kernel_rfl) (by kernel_rfl) (by kernel_rfl) (by kernel_rfl) h
set_option maxRecDepth 100000 in
theorem QyE (hF:∀(a0:Qm) (a1:(List Int)) (a2:(List (List (Int×Int)))) (a3:Int),Qq3 a0→(okL (okI .i64)) a1→(okL (okL QoR)) a2→(okI .i64) a3→QdD a0 a1 a2 a3=some true)(os:Os)(started:os.Started)(H:Type)(enc:TypeId×Value→H):
  ReturnsInHanded {} Tryz.checked os 3 .any (fun w args=>(Rows.invarTellsSpec.pre enc Tryz.prog Tryz.f3 Rows.invarTellsRow.domain false w args∧laidMetH Tryz.prog Rows.invarTellsRow.laid w)∧sizedMet enc Tryz.prog Tryz.f3 (OpenSpec.ofChange Rows.invarTellsSpec) false w args) (Rows.invarTellsSpec.post enc Tryz.prog Tryz.f3 false true false false):=by
 refine returnsInHanded_of_change_and (C:=Tryz.checked) (X:=fun w _=>laidMetH Tryz.prog Rows.invarTellsRow.laid w) (fun _ _ _ hh h=>h.of_heap hh) own started (by kernel_rfl) Tryz.func3
  (ChangeSpec.witness_shaped (enc:=enc) (C:=Tryz.checked) (os:=os) (X:=fun w _=>laidMetH Tryz.prog Rows.invarTellsRow.laid w) false (World.doorLaid Tryz.prog 33 os) #[.agg #[.slice none 0 0,.slice none 0 0,.slice none 0 0,.int .i64 0,.int .i64 0],.slice none 0 0,.slice none 0 0,.int .i64 0] 8 rfl (World.shaped_of_RefB (by kernel_rfl) (by kernel_rfl)) (by kernel_rfl) (by kernel_rfl) (by kernel_rfl) (Qxy os _)) ?_
 intro W base args ds gs before hval0 hW hcnd hz hL _
 have hval:∀(j:Nat) t v,Tryz.f3.params[j]? = some t→args[j]? = some v→Value.okWide Tryz.prog W .any base t v:=hval0
 have hW1:=hW
 obtain⟨p,q,hA0,hV,_,_,_⟩:=hW
 obtain⟨rfl,_⟩:=trodVars_none hV
 have hA:DataW.TrodAll enc Tryz.prog W 0 (fun _=>true) true Tryz.f3.params.toList args.toList ds p:=hA0
 rw [Tryz.params3]at hA hval
 obtain⟨v0,vs0,d0,ds0,p0,q0,hargs,rfl,_,h0,r0⟩:=trodAll_cons hA
 obtain⟨v1,vs1,d1,ds1,p1,q1,rfl,rfl,_,h1,r1⟩:=trodAll_cons r0
 obtain⟨v2,vs2,d2,ds2,p2,q2,rfl,rfl,_,h2,r2⟩:=trodAll_cons r1
 obtain⟨v3,vs3,d3,ds3,p3,q3,rfl,rfl,_,h3,r3⟩:=trodAll_cons r2
 obtain⟨rfl,rfl,_⟩:=trodAll_nil r3
 obtain rfl:args=#[v0,v1,v2,v3]:=by cases args;simp_all
 obtain⟨a0,w0,c0⟩:=Rd.open (fun N=>Qy3 N) h0
 obtain⟨_,rfl⟩:=Qxf (P:=Tryz.prog) (t:=26) (fs:=[(22,0),(23,1),(24,2),(3,3),(3,4)]) (tot:=5) (by kernel_rfl) (hval 0 26 v0 rfl rfl)
 have e0:=c0.argS
 obtain⟨a1,w1,c1⟩:=Rd.open (fun N=>QxG N) h1
 obtain⟨_,_,_,rfl⟩:=okWide_slice Tryz.underlying27 (hval 1 27 v1 rfl rfl)
 have e1:=(Cl.arg1 rfl c1)
 obtain⟨a2,w2,c2⟩:=Rd.open (fun N=>Qy4 N) h2
 obtain⟨_,_,_,rfl⟩:=okWide_slice Tryz.underlying29 (hval 2 29 v2 rfl rfl)
 have e2:=(Cl.arg1 rfl c2)
 obtain⟨a3,w3,c3⟩:=Rd.open (fun N=>QeQ N) h3
 obtain⟨_,rfl⟩:=okWide_int Tryz.underlying3 (hval 3 3 v3 rfl rfl)
 have e3:=(Cl.arg1 rfl c3)
 refine(Qd.law (us:=[.agg (Qe a0),.sl 1 (a1.map Qb),.sl 1 (a2.map QbE),.i .i64 a3]) (QoI a0 a1 a2 a3 (hF a0 a1 a2 a3 w0 w1 w2 w3)) (Qxz hL) rfl (fun j x v hx hv=>?_)).mono fun e W2 ⟨he,hb⟩=>?_
 ·match j with
  | 0=>cases hx;cases hv;exact e0
  | 1=>cases hx;cases hv;exact e1
  | 2=>cases hx;cases hv;exact e2
  | 3=>cases hx;cases hv;exact e3
  | j+4=>simp at hx
 subst he
 exact⟨_,rfl,Qxg QxY Qxx hW1 rfl hb rfl Tryz.underlying4 rfl rfl rfl⟩
theorem proved_of (hF:∀(a0:Qm) (a1:(List Int)) (a2:(List (List (Int×Int)))) (a3:Int),Qq3 a0→(okL (okI .i64)) a1→(okL (okL QoR)) a2→(okI .i64) a3→QdD a0 a1 a2 a3=some true):Rows.InvarTellsSaid:=
 OpenClaim.holds_of_wide 3 Tryz.f3 rfl rfl rfl rfl rfl rfl rfl ⟨rfl,rfl,rfl,rfl,rfl⟩ rfl rfl rfl rfl rfl (by kernel_rfl) Tryz.func3 (by kernel_rfl)
  (Qag (by kernel_rfl)) (by unfold Func.isWrapper;first | (rw [if_pos (by decide +kernel)];kernel_rfl) | (rw [if_neg (by decide +kernel)];exact⟨rfl,rfl⟩))
  (fun os started H enc _=>QyE hF os started H enc)
theorem card_of (hs:Rows.InvarTellsSaid):Rows.InvarTellsCardSaid:=
 Claim7.holds_tied_plain_at .later [] [.listed,.data] true (true, "e1d83377e7bc5629bf1562ed4cd27be8d64b52160e690022d2418aa094ccef66") false
  hs (fun _ h=>by cases h) (by kernel_rfl) (fun _ h=>by cases h) invarTells_row_tie rfl ⟨rfl,rfl⟩ (by kernel_rfl) rfl
  (fun f fn hf hfn=>by
   obtain rfl:f=3:=Option.some.inj ((show Tryz.prog.funcNamed "baldric/baldriclaw18.InvarTells" = some 3 by kernel_rfl).symm.trans hf) |>.symm
   obtain rfl:fn=Tryz.f3:=(Option.some.inj (Tryz.func3.symm.trans hfn)).symm
   exact⟨by kernel_rfl,fun j t ht=>by
    rw [Tryz.params3]at ht
    have hm:t∈[26,27,29,3]:=by simpa using Array.mem_of_getElem? ht
    have hall:([26,27,29,3].all fun u=>!Tryz.prog.wantsStandIn u)=true:=by kernel_rfl
    exact(show Tryz.prog.wantsStandIn t=false by simpa using QV.1 hall t hm)⟩)
  (by kernel_rfl)
end LawInvarTells
theorem kE {e:Qk}(h:Qj0 e):QcK e:=by
 induction h with
 | mk x _ _ h1 _ ih=>exact .mk x h1 ih
theorem kL {α:Type}{p q:α→Prop}(f:∀x,p x→q x){l:List α}(h:okL p l):QQ q l:=⟨h.1,fun x hx=>f x (h.2 x hx)⟩
theorem kA {a:QT}(h:QoS a):Qjk a:=⟨trivial,kE h.2⟩
theorem Qzh {n:Qm}(h:Qq3 n):QF n:=
 ⟨kL (fun c hc=>⟨hc.1,trivial,trivial,trivial,kL (fun s hs=>hs) hc.2.2.2.2.1,trivial,trivial⟩) h.1,kL (fun p hp=>⟨hp.1,trivial,kL (fun _ _=>trivial) hp.2.2⟩) h.2.1,
  kL (fun t ht=>⟨ht.1,kL (fun v hv=>⟨hv.1,trivial⟩) ht.2.1,kE ht.2.2.1,trivial,trivial,kL (fun _ h=>kA h) ht.2.2.2.2.2.1,kL (fun _ h=>kA h) ht.2.2.2.2.2.2.1,kL (fun _ _=>trivial) ht.2.2.2.2.2.2.2.1,trivial,trivial⟩) h.2.2.1,trivial,trivial⟩
theorem QyF {x:Int}(h:okI .i64 x):InI x:=by
 have h1:IntKind.min .i64=-9223372036854775808:=rfl
 have h2:IntKind.max .i64=9223372036854775807:=rfl
 unfold okI at h
 rw [h1,h2]at h
 exact h
theorem proved : Rows.InvarTellsCardSaid:=LawInvarTells.card_of (LawInvarTells.proved_of fun a0 a1 a2 a3 h0 h1 h2 _=>Qv9 a0 a1 a2 a3 (Qzh h0) (fun x hx=>QyF (h1.2 x hx)) (kL (fun b hb=>kL (fun _ _=>trivial) hb) h2))

end Go.Proofs.YtbfgchciebcbpaaGreatDoor
