/- OrjoinClosed, as it is given: of any net, marking and budget it answers true, with no condition but what its row asks of all calls. -/
import Derived.Test.YtphohlpbjofddaaGreatDoorL4P3
import Derived.Test.YtphohlpbjofddaaGreatDoorL4T3
import Derived.Test.YtphohlpbjofddaaGreatDoorL4V3
import Derived.Test.YtphohlpbjofddaaGreatDoorRows
import Derived.Test.YtphohlpbjofddaaGreatDoorTie
import Derived.Test.YtphohlpbjofddaaGreatDoorCards
import Derived.SevenTiedAt
import Derived.WalkKit
import Derived.ProofKit
import Derived.OpenShut
set_option linter.unusedVariables false
set_option linter.unusedSimpArgs false
set_option linter.unusedSectionVars false
set_option linter.deprecated false
noncomputable section
namespace Go.Proofs.YtphohlpbjofddaaGreatDoor
open Go Go.RowKit Go.Vm Go.ChangeShapes Go.WideShapes Go.ChangeAt
theorem rd_9 {H:Type}{enc:TypeId×Value→H}{w:World}(N:Nat):Rd enc Tryz.prog w N 9 QdF (fun x _=>okS x):=(Rd.string (by kernel_rfl)).map id (fun _=>rfl) fun _ _ h=>h.1
theorem rd_3 {H:Type}{enc:TypeId×Value→H}{w:World}(N:Nat):Rd enc Tryz.prog w N 3 Qe (fun x _=>(okI .i64) x):=(Rd.int (by kernel_rfl)).map id (fun _=>rfl) fun _ _ h=>QxI h
theorem Qyn {H:Type}{enc:TypeId×Value→H}{w:World}(N:Nat):Rd enc Tryz.prog w N 89 QxJ (fun x _=>(okL okS) x):=(Rd.slice (e:=9) (z:=1) (by kernel_rfl) (by kernel_rfl) (by decide) (fun x=>QjM rfl) (rd_9 N)).map id (fun _=>rfl) fun _ _ h=>QiQ h
def QoO (x:QB):Prop:=okS x.Name∧(okI .i64) x.Kind∧(okI .i64) x.Lo∧(okI .i64) x.Hi∧(okL okS) x.Names∧(okI .i64) x.First∧(okI .i64) x.Then
theorem Qyo {H:Type}{enc:TypeId×Value→H}{w:World}(N:Nat):Rd enc Tryz.prog w N 91 Qw (fun x _=>QoO x):=by
 have h0:=(Rd.struct (fs:=[(9,0),(3,1),(3,2),(3,3),(89,4),(3,5),(3,6)]) (tot:=7) (N:=N) (t:=91) (P:=Tryz.prog) (w:=w) (enc:=enc) (by kernel_rfl) (RdF.cons 9 0 1 (by kernel_rfl) (rd_9 N) (RdF.cons 3 1 1 (by kernel_rfl) (rd_3 N) (RdF.cons 3 2 1 (by kernel_rfl) (rd_3 N) (RdF.cons 3 3 1 (by kernel_rfl) (rd_3 N) (RdF.cons 89 4 1 (by kernel_rfl) (Qyn N) (RdF.cons 3 5 1 (by kernel_rfl) (rd_3 N) (RdF.cons 3 6 1 (by kernel_rfl) (rd_3 N) RdF.nil))))))))
 exact(h0.map (fun x=>⟨x.1,x.2.1,x.2.2.1,x.2.2.2.1,x.2.2.2.2.1,x.2.2.2.2.2.1,x.2.2.2.2.2.2.1⟩) (fun _=>rfl) (fun x d h=>by obtain⟨_,rfl,h⟩:=h;obtain⟨_,_,rfl,a0,h⟩:=h;obtain⟨_,_,rfl,a1,h⟩:=h;obtain⟨_,_,rfl,a2,h⟩:=h;obtain⟨_,_,rfl,a3,h⟩:=h;obtain⟨_,_,rfl,a4,h⟩:=h;obtain⟨_,_,rfl,a5,h⟩:=h;obtain⟨_,_,rfl,a6,h⟩:=h;exact⟨a0,a1,a2,a3,a4,a5,a6⟩)).mono (Nat.le_succ N)
theorem Qyp {H:Type}{enc:TypeId×Value→H}{w:World}(N:Nat):Rd enc Tryz.prog w N 22 QtN (fun x _=>(okL QoO) x):=(Rd.slice (e:=91) (z:=7) (by kernel_rfl) (by kernel_rfl) (by decide) (fun x=>QjM rfl) (Qyo N)).map id (fun _=>rfl) fun _ _ h=>QiQ h
def Qob (x:(Int×Int)):Prop:=(okI .i64) x.1∧(okI .i64) x.2
theorem Qyq {H:Type}{enc:TypeId×Value→H}{w:World}(N:Nat):Rd enc Tryz.prog w N 64 Qy (fun x _=>Qob x):=by
 have h0:=(Rd.array (e:=3) (n:=2) (tot:=2) (fs:=[(3,0),(3,1)]) (N:=N) (t:=64) (P:=Tryz.prog) (w:=w) (enc:=enc) (by kernel_rfl) (RdF.cons 3 0 1 (by kernel_rfl) (rd_3 N) (RdF.cons 3 1 1 (by kernel_rfl) (rd_3 N) RdF.nil)))
 exact(h0.map (fun x=>⟨x.1,x.2.1⟩) (fun _=>rfl) (fun x d h=>by obtain⟨_,rfl,h⟩:=h;obtain⟨_,_,rfl,a0,h⟩:=h;obtain⟨_,_,rfl,a1,h⟩:=h;exact⟨a0,a1⟩)).mono (Nat.le_succ N)
theorem Qxc {H:Type}{enc:TypeId×Value→H}{w:World}(N:Nat):Rd enc Tryz.prog w N 59 Qh (fun x _=>(okL Qob) x):=(Rd.slice (e:=64) (z:=2) (by kernel_rfl) (by kernel_rfl) (by decide) (fun x=>QjM rfl) (Qyq N)).map id (fun _=>rfl) fun _ _ h=>QiQ h
def Qp1 (x:QC):Prop:=okS x.Name∧(okI .i64) x.Colour∧(okL Qob) x.First
theorem Qyr {H:Type}{enc:TypeId×Value→H}{w:World}(N:Nat):Rd enc Tryz.prog w N 93 Qv (fun x _=>Qp1 x):=by
 have h0:=(Rd.struct (fs:=[(9,0),(3,1),(59,2)]) (tot:=3) (N:=N) (t:=93) (P:=Tryz.prog) (w:=w) (enc:=enc) (by kernel_rfl) (RdF.cons 9 0 1 (by kernel_rfl) (rd_9 N) (RdF.cons 3 1 1 (by kernel_rfl) (rd_3 N) (RdF.cons 59 2 1 (by kernel_rfl) (Qxc N) RdF.nil))))
 exact(h0.map (fun x=>⟨x.1,x.2.1,x.2.2.1⟩) (fun _=>rfl) (fun x d h=>by obtain⟨_,rfl,h⟩:=h;obtain⟨_,_,rfl,a0,h⟩:=h;obtain⟨_,_,rfl,a1,h⟩:=h;obtain⟨_,_,rfl,a2,h⟩:=h;exact⟨a0,a1,a2⟩)).mono (Nat.le_succ N)
theorem Qys {H:Type}{enc:TypeId×Value→H}{w:World}(N:Nat):Rd enc Tryz.prog w N 23 Quk (fun x _=>(okL Qp1) x):=(Rd.slice (e:=93) (z:=3) (by kernel_rfl) (by kernel_rfl) (by decide) (fun x=>QjM rfl) (Qyr N)).map id (fun _=>rfl) fun _ _ h=>QiQ h
def QsL (x:TVar):Prop:=okS x.Name∧(okI .i64) x.Colour
theorem QxZ {H:Type}{enc:TypeId×Value→H}{w:World}(N:Nat):Rd enc Tryz.prog w N 132 QE (fun x _=>QsL x):=by
 have h0:=(Rd.struct (fs:=[(9,0),(3,1)]) (tot:=2) (N:=N) (t:=132) (P:=Tryz.prog) (w:=w) (enc:=enc) (by kernel_rfl) (RdF.cons 9 0 1 (by kernel_rfl) (rd_9 N) (RdF.cons 3 1 1 (by kernel_rfl) (rd_3 N) RdF.nil)))
 exact(h0.map (fun x=>⟨x.1,x.2.1⟩) (fun _=>rfl) (fun x d h=>by obtain⟨_,rfl,h⟩:=h;obtain⟨_,_,rfl,a0,h⟩:=h;obtain⟨_,_,rfl,a1,h⟩:=h;exact⟨a0,a1⟩)).mono (Nat.le_succ N)
theorem Qyt {H:Type}{enc:TypeId×Value→H}{w:World}(N:Nat):Rd enc Tryz.prog w N 47 QbL (fun x _=>(okL QsL) x):=(Rd.slice (e:=132) (z:=2) (by kernel_rfl) (by kernel_rfl) (by decide) (fun x=>QjM rfl) (QxZ N)).map id (fun _=>rfl) fun _ _ h=>QiQ h
theorem Qsh (x:Qg):Qm x=[.i .i64 x.Kind,.i .i64 x.Num,.sl 3 (Qa1 x.Kids)]:=by cases x;rw [Qm]
inductive QkC : Qg→Prop where
 | mk (x:Qg):(okI .i64) x.Kind→(okI .i64) x.Num→x.Kids.length≤maxLen→(∀k∈x.Kids,QkC k)→QkC x
theorem Qxd {H:Type}{enc:TypeId×Value→H}{w:World}(N:Nat):Rd enc Tryz.prog w N 50 Qm (fun x _=>QkC x):=by
 induction N with
 | zero=>exact Rd.zero
 | succ N ih=>
  have h0:=(Rd.struct (fs:=[(3,0),(3,1),(48,2)]) (tot:=3) (N:=N) (t:=50) (P:=Tryz.prog) (w:=w) (enc:=enc) (by kernel_rfl) (RdF.cons 3 0 1 (by kernel_rfl) (rd_3 N) (RdF.cons 3 1 1 (by kernel_rfl) (rd_3 N) (RdF.cons 48 2 1 (by kernel_rfl) (Rd.slice (e:=50) (z:=3) (by kernel_rfl) (by kernel_rfl) (by decide) (fun x=>QjM (by cases x;rfl)) ih) RdF.nil))))
  exact h0.map (fun x=>⟨x.1,x.2.1,x.2.2.1⟩) (fun x=>by simp only [Qm];rw [Qjc];rfl) (fun x d h=>by obtain⟨_,rfl,h⟩:=h;obtain⟨_,_,rfl,a0,h⟩:=h;obtain⟨_,_,rfl,a1,h⟩:=h;obtain⟨_,_,rfl,a2,h⟩:=h;exact QkC.mk _ a0 a1 (QiQ a2).1 (QiQ a2).2)
def Qoc (x:TArc):Prop:=(okI .i64) x.Place∧QkC x.Expr
theorem Qyu {H:Type}{enc:TypeId×Value→H}{w:World}(N:Nat):Rd enc Tryz.prog w N 77 QG (fun x _=>Qoc x):=by
 have h0:=(Rd.struct (fs:=[(3,0),(50,1)]) (tot:=4) (N:=N) (t:=77) (P:=Tryz.prog) (w:=w) (enc:=enc) (by kernel_rfl) (RdF.cons 3 0 1 (by kernel_rfl) (rd_3 N) (RdF.cons 50 1 3 (by kernel_rfl) (Qxd N) RdF.nil)))
 exact(h0.map (fun x=>⟨x.1,x.2.1⟩) (fun x=>by rw [Qsh];rfl) (fun x d h=>by obtain⟨_,rfl,h⟩:=h;obtain⟨_,_,rfl,a0,h⟩:=h;obtain⟨_,_,rfl,a1,h⟩:=h;exact⟨a0,a1⟩)).mono (Nat.le_succ N)
theorem Qxe {H:Type}{enc:TypeId×Value→H}{w:World}(N:Nat):Rd enc Tryz.prog w N 51 QvQ (fun x _=>(okL Qoc) x):=(Rd.slice (e:=77) (z:=4) (by kernel_rfl) (by kernel_rfl) (by decide) (fun x=>QjM rfl) (Qyu N)).map id (fun _=>rfl) fun _ _ h=>QiQ h
theorem Qyv {H:Type}{enc:TypeId×Value→H}{w:World}(N:Nat):Rd enc Tryz.prog w N 29 Qz (fun x _=>(okL (okI .i64)) x):=(Rd.slice (e:=3) (z:=1) (by kernel_rfl) (by kernel_rfl) (by decide) (fun x=>QjM rfl) (rd_3 N)).map id (fun _=>rfl) fun _ _ h=>QiQ h
def Qwp (x:(Int×Int×Int)):Prop:=(okI .i64) x.1∧(okI .i64) x.2.1∧(okI .i64) x.2.2
theorem Qyw {H:Type}{enc:TypeId×Value→H}{w:World}(N:Nat):Rd enc Tryz.prog w N 52 Qso (fun x _=>Qwp x):=by
 have h0:=(Rd.array (e:=3) (n:=3) (tot:=3) (fs:=[(3,0),(3,1),(3,2)]) (N:=N) (t:=52) (P:=Tryz.prog) (w:=w) (enc:=enc) (by kernel_rfl) (RdF.cons 3 0 1 (by kernel_rfl) (rd_3 N) (RdF.cons 3 1 1 (by kernel_rfl) (rd_3 N) (RdF.cons 3 2 1 (by kernel_rfl) (rd_3 N) RdF.nil))))
 exact(h0.map (fun x=>⟨x.1,x.2.1,x.2.2.1⟩) (fun _=>rfl) (fun x d h=>by obtain⟨_,rfl,h⟩:=h;obtain⟨_,_,rfl,a0,h⟩:=h;obtain⟨_,_,rfl,a1,h⟩:=h;obtain⟨_,_,rfl,a2,h⟩:=h;exact⟨a0,a1,a2⟩)).mono (Nat.le_succ N)
def Qrs (x:Qr):Prop:=okS x.Name∧(okL QsL) x.Vars∧QkC x.Guard∧(okI .i64) x.Join∧(okI .i64) x.Split∧(okL Qoc) x.Ins∧(okL Qoc) x.Outs∧(okL (okI .i64)) x.Cancel∧(okI .i64) x.After∧Qwp x.Many
theorem Qyx {H:Type}{enc:TypeId×Value→H}{w:World}(N:Nat):Rd enc Tryz.prog w N 54 Qi (fun x _=>Qrs x):=by
 have h0:=(Rd.struct (fs:=[(9,0),(47,1),(50,2),(3,5),(3,6),(51,7),(51,8),(29,9),(3,10),(52,11)]) (tot:=14) (N:=N) (t:=54) (P:=Tryz.prog) (w:=w) (enc:=enc) (by kernel_rfl) (RdF.cons 9 0 1 (by kernel_rfl) (rd_9 N) (RdF.cons 47 1 1 (by kernel_rfl) (Qyt N) (RdF.cons 50 2 3 (by kernel_rfl) (Qxd N) (RdF.cons 3 5 1 (by kernel_rfl) (rd_3 N) (RdF.cons 3 6 1 (by kernel_rfl) (rd_3 N) (RdF.cons 51 7 1 (by kernel_rfl) (Qxe N) (RdF.cons 51 8 1 (by kernel_rfl) (Qxe N) (RdF.cons 29 9 1 (by kernel_rfl) (Qyv N) (RdF.cons 3 10 1 (by kernel_rfl) (rd_3 N) (RdF.cons 52 11 3 (by kernel_rfl) (Qyw N) RdF.nil)))))))))))
 exact(h0.map (fun x=>⟨x.1,x.2.1,x.2.2.1,x.2.2.2.1,x.2.2.2.2.1,x.2.2.2.2.2.1,x.2.2.2.2.2.2.1,x.2.2.2.2.2.2.2.1,x.2.2.2.2.2.2.2.2.1,x.2.2.2.2.2.2.2.2.2.1⟩) (fun x=>by rw [Qsh];rfl) (fun x d h=>by obtain⟨_,rfl,h⟩:=h;obtain⟨_,_,rfl,a0,h⟩:=h;obtain⟨_,_,rfl,a1,h⟩:=h;obtain⟨_,_,rfl,a2,h⟩:=h;obtain⟨_,_,rfl,a3,h⟩:=h;obtain⟨_,_,rfl,a4,h⟩:=h;obtain⟨_,_,rfl,a5,h⟩:=h;obtain⟨_,_,rfl,a6,h⟩:=h;obtain⟨_,_,rfl,a7,h⟩:=h;obtain⟨_,_,rfl,a8,h⟩:=h;obtain⟨_,_,rfl,a9,h⟩:=h;exact⟨a0,a1,a2,a3,a4,a5,a6,a7,a8,a9⟩)).mono (Nat.le_succ N)
theorem Qyy {H:Type}{enc:TypeId×Value→H}{w:World}(N:Nat):Rd enc Tryz.prog w N 24 Qu8 (fun x _=>(okL Qrs) x):=(Rd.slice (e:=54) (z:=14) (by kernel_rfl) (by kernel_rfl) (by decide) (fun x=>QjM rfl) (Qyx N)).map id (fun _=>rfl) fun _ _ h=>QiQ h
def Qqc (x:TNet):Prop:=(okL QoO) x.Colours∧(okL Qp1) x.Places∧(okL Qrs) x.Tasks∧(okI .i64) x.From∧(okI .i64) x.To
theorem Qyz {H:Type}{enc:TypeId×Value→H}{w:World}(N:Nat):Rd enc Tryz.prog w N 26 Qd (fun x _=>Qqc x):=by
 have h0:=(Rd.struct (fs:=[(22,0),(23,1),(24,2),(3,3),(3,4)]) (tot:=5) (N:=N) (t:=26) (P:=Tryz.prog) (w:=w) (enc:=enc) (by kernel_rfl) (RdF.cons 22 0 1 (by kernel_rfl) (Qyp N) (RdF.cons 23 1 1 (by kernel_rfl) (Qys N) (RdF.cons 24 2 1 (by kernel_rfl) (Qyy N) (RdF.cons 3 3 1 (by kernel_rfl) (rd_3 N) (RdF.cons 3 4 1 (by kernel_rfl) (rd_3 N) RdF.nil))))))
 exact(h0.map (fun x=>⟨x.1,x.2.1,x.2.2.1,x.2.2.2.1,x.2.2.2.2.1⟩) (fun _=>rfl) (fun x d h=>by obtain⟨_,rfl,h⟩:=h;obtain⟨_,_,rfl,a0,h⟩:=h;obtain⟨_,_,rfl,a1,h⟩:=h;obtain⟨_,_,rfl,a2,h⟩:=h;obtain⟨_,_,rfl,a3,h⟩:=h;obtain⟨_,_,rfl,a4,h⟩:=h;exact⟨a0,a1,a2,a3,a4⟩)).mono (Nat.le_succ N)
theorem QyA {H:Type}{enc:TypeId×Value→H}{w:World}(N:Nat):Rd enc Tryz.prog w N 28 Qs (fun x _=>(okL (okL Qob)) x):=(Rd.slice (e:=59) (z:=1) (by kernel_rfl) (by kernel_rfl) (by decide) (fun x=>QjM rfl) (Qxc N)).map id (fun _=>rfl) fun _ _ h=>QiQ h
namespace LawOrjoinClosed
theorem own : ownKnob Tryz.prog.godebug=none:=by kernel_rfl
theorem QxA : laidOutB Tryz.prog=true:=by kernel_rfl
theorem Qw4 : ∀t∈Tryz.f7.params.toList,Tryz.prog.readableRec t=true∧t<Tryz.prog.types.size:=by
 have h:(Tryz.f7.params.toList.all fun t=>Tryz.prog.readableRec t&&decide (t<Tryz.prog.types.size))=true:=by kernel_rfl
 intro t ht
 have:=List.all_eq_true.1 h t ht
 rw [Bool.and_eq_true,decide_eq_true_eq]at this
 exact this
theorem Qw5 (os:Os)(args:Array Value):laidMetH Tryz.prog Rows.orjoinClosedRow.laid ((World.doorLaid Tryz.prog 33 os).forCall (fun _ _=>0) ⟨#[],args,[]⟩).memory:=
 laidMetH_of_parts3 (fuel:=8) (laidMet_of_run' 8 (by kernel_rfl) (by kernel_rfl)) (by kernel_rfl) (by kernel_rfl)
theorem Qw6 {W:World}(h:laidMetH Tryz.prog Rows.orjoinClosedRow.laid W):Glob Tryz.prog (fun k=>k<W.heap.size) W:=
 QtM (r:=[]) (g:=0) (t:=255) (e:=5) 1 (by kernel_rfl) (by kernel_rfl) (by kernel_rfl) (by kernel_rfl) (by kernel_rfl) (by kernel_rfl) (by kernel_rfl) (by kernel_rfl) h
set_option maxRecDepth 100000 in
theorem Qx0 (hF:∀(a0:TNet) (a1:(List (List (Int×Int)))) (a2:Int),Qqc a0→(okL (okL Qob)) a1→(okI .i64) a2→Qcg a0 a1 a2=some true)(os:Os)(started:os.Started)(H:Type)(enc:TypeId×Value→H):
  ReturnsInHanded {} Tryz.checked os 7 .any (fun w args=>(Rows.orjoinClosedSpec.pre enc Tryz.prog Tryz.f7 Rows.orjoinClosedRow.domain false w args∧laidMetH Tryz.prog Rows.orjoinClosedRow.laid w)∧sizedMet enc Tryz.prog Tryz.f7 (OpenSpec.ofChange Rows.orjoinClosedSpec) false w args) (Rows.orjoinClosedSpec.post enc Tryz.prog Tryz.f7 false true false false):=by
 refine returnsInHanded_of_change_and (C:=Tryz.checked) (X:=fun w _=>laidMetH Tryz.prog Rows.orjoinClosedRow.laid w) (fun _ _ _ hh h=>h.of_heap hh) own started (by kernel_rfl) Tryz.func7
  (ChangeSpec.witness_shaped (enc:=enc) (C:=Tryz.checked) (os:=os) (X:=fun w _=>laidMetH Tryz.prog Rows.orjoinClosedRow.laid w) false (World.doorLaid Tryz.prog 33 os) #[.agg #[.slice none 0 0,.slice none 0 0,.slice none 0 0,.int .i64 0,.int .i64 0],.slice none 0 0,.int .i64 0] 8 rfl (World.shaped_of_RefB (by kernel_rfl) (by kernel_rfl)) (by kernel_rfl) (by kernel_rfl) (by kernel_rfl) (Qw5 os _)) ?_
 intro W base args ds gs before hval0 hW hcnd hz hL _
 have hval:∀(j:Nat) t v,Tryz.f7.params[j]? = some t→args[j]? = some v→Value.okWide Tryz.prog W .any base t v:=hval0
 have hW1:=hW
 obtain⟨p,q,hA0,hV,_,_,_⟩:=hW
 obtain⟨rfl,_⟩:=trodVars_none hV
 have hA:DataW.TrodAll enc Tryz.prog W 0 (fun _=>true) true Tryz.f7.params.toList args.toList ds p:=hA0
 rw [Tryz.params7]at hA hval
 obtain⟨v0,vs0,d0,ds0,p0,q0,hargs,rfl,_,h0,r0⟩:=trodAll_cons hA
 obtain⟨v1,vs1,d1,ds1,p1,q1,rfl,rfl,_,h1,r1⟩:=trodAll_cons r0
 obtain⟨v2,vs2,d2,ds2,p2,q2,rfl,rfl,_,h2,r2⟩:=trodAll_cons r1
 obtain⟨rfl,rfl,_⟩:=trodAll_nil r2
 obtain rfl:args=#[v0,v1,v2]:=by cases args;simp_all
 obtain⟨a0,w0,c0⟩:=Rd.open (fun N=>Qyz N) h0
 obtain⟨_,rfl⟩:=QwC (P:=Tryz.prog) (t:=26) (fs:=[(22,0),(23,1),(24,2),(3,3),(3,4)]) (tot:=5) (by kernel_rfl) (hval 0 26 v0 rfl rfl)
 have e0:=c0.argS
 obtain⟨a1,w1,c1⟩:=Rd.open (fun N=>QyA N) h1
 obtain⟨_,_,_,rfl⟩:=okWide_slice Tryz.underlying28 (hval 1 28 v1 rfl rfl)
 have e1:=(Cl.arg1 rfl c1)
 obtain⟨a2,w2,c2⟩:=Rd.open (fun N=>rd_3 N) h2
 obtain⟨_,rfl⟩:=okWide_int Tryz.underlying3 (hval 2 3 v2 rfl rfl)
 have e2:=(Cl.arg1 rfl c2)
 refine(Qc.law (us:=[.agg (Qd a0),.sl 1 (a1.map Qh),.i .i64 a2]) (Qnh a0 a1 a2 (hF a0 a1 a2 w0 w1 w2)) (Qw6 hL) rfl (fun j x v hx hv=>?_)).mono fun e W2 ⟨he,hb⟩=>?_
 ·match j with
  | 0=>cases hx;cases hv;exact e0
  | 1=>cases hx;cases hv;exact e1
  | 2=>cases hx;cases hv;exact e2
  | j+3=>simp at hx
 ·subst he
  exact⟨_,rfl,QwD QxA Qw4 hW1 rfl hb rfl Tryz.underlying4 rfl rfl rfl⟩
theorem proved_of (hF:∀(a0:TNet) (a1:(List (List (Int×Int)))) (a2:Int),Qqc a0→(okL (okL Qob)) a1→(okI .i64) a2→Qcg a0 a1 a2=some true):Rows.OrjoinClosedSaid:=
 OpenClaim.holds_of_wide 7 Tryz.f7 rfl rfl rfl rfl rfl rfl rfl ⟨rfl,rfl,rfl,rfl,rfl⟩ rfl rfl rfl rfl rfl (by kernel_rfl) Tryz.func7 (by kernel_rfl)
  (of_decide_eq_true (by kernel_rfl)) (by unfold Func.isWrapper;first | (rw [if_pos (by decide +kernel)];kernel_rfl) | (rw [if_neg (by decide +kernel)];exact⟨rfl,rfl⟩))
  (fun os started H enc _=>Qx0 hF os started H enc)
theorem card_of (hs:Rows.OrjoinClosedSaid):Rows.OrjoinClosedCardSaid:=
 Claim7.holds_tied_plain_at .later [] [.listed,.data] true (true, "002f84d5fda64e3b6dbf635b81a7be9608d324dc66bc549211f3d85f0ef82a3d") false
  hs (fun _ h=>by cases h) (by kernel_rfl) (fun _ h=>by cases h) orjoinClosed_row_tie rfl ⟨rfl,rfl⟩ (by kernel_rfl) rfl
  (fun f fn hf hfn=>by
   obtain rfl:f=7:=Option.some.inj ((show Tryz.prog.funcNamed "baldric/baldriclaw12.OrjoinClosed" = some 7 by kernel_rfl).symm.trans hf) |>.symm
   obtain rfl:fn=Tryz.f7:=(Option.some.inj (Tryz.func7.symm.trans hfn)).symm
   exact⟨by kernel_rfl,fun j t ht=>by
    rw [Tryz.params7]at ht
    have hm:t∈[26,28,3]:=by simpa using Array.mem_of_getElem? ht
    have hall:([26,28,3].all fun u=>!Tryz.prog.wantsStandIn u)=true:=by kernel_rfl
    exact(show Tryz.prog.wantsStandIn t=false by simpa using List.all_eq_true.1 hall t hm)⟩)
  (by kernel_rfl)
end LawOrjoinClosed
theorem kE {e:Qg}(h:QkC e):Qc6 e:=by
 induction h with
 | mk x _ _ h1 _ ih=>exact .mk x h1 ih
theorem kL {α:Type}{p q:α→Prop}(f:∀x,p x→q x){l:List α}(h:okL p l):lenL q l:=⟨h.1,fun x hx=>f x (h.2 x hx)⟩
theorem kA {a:TArc}(h:Qoc a):Qi5 a:=⟨trivial,kE h.2⟩
theorem kNet {n:TNet}(h:Qqc n):QJ n:=
 ⟨kL (fun c hc=>⟨hc.1,trivial,trivial,trivial,kL (fun s hs=>hs) hc.2.2.2.2.1,trivial,trivial⟩) h.1,kL (fun p hp=>⟨hp.1,trivial,kL (fun _ _=>trivial) hp.2.2⟩) h.2.1,
  kL (fun t ht=>⟨ht.1,kL (fun v hv=>⟨hv.1,trivial⟩) ht.2.1,kE ht.2.2.1,trivial,trivial,kL (fun _ h=>kA h) ht.2.2.2.2.2.1,kL (fun _ h=>kA h) ht.2.2.2.2.2.2.1,kL (fun _ _=>trivial) ht.2.2.2.2.2.2.2.1,trivial,trivial⟩) h.2.2.1,trivial,trivial⟩
theorem proved : Rows.OrjoinClosedCardSaid:=LawOrjoinClosed.card_of (LawOrjoinClosed.proved_of fun a0 a1 a2 h0 h1 _=>Qur a0 a1 a2 (kNet h0) (kL (fun b hb=>kL (fun _ _=>trivial) hb) h1))

end Go.Proofs.YtphohlpbjofddaaGreatDoor
