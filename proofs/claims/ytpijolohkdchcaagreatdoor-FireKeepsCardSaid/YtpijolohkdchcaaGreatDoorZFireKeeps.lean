/- FireKeeps, as it is given: of any net, marking and picks it answers true, with no condition but what its row asks of all calls. -/
import Derived.Test.YtpijolohkdchcaaGreatDoorFiK
import Derived.Test.YtpijolohkdchcaaGreatDoorT3
import Derived.Test.YtpijolohkdchcaaGreatDoorXVm4
import Derived.Test.YtpijolohkdchcaaGreatDoorRows
import Derived.Test.YtpijolohkdchcaaGreatDoorTie
import Derived.Test.YtpijolohkdchcaaGreatDoorCards
import Derived.SevenTiedAt
import Derived.WalkKit
import Derived.ProofKit
import Derived.OpenShut
set_option linter.unusedVariables false
set_option linter.unusedSimpArgs false
set_option linter.unusedSectionVars false
set_option linter.deprecated false
noncomputable section
namespace Go.Proofs.YtpijolohkdchcaaGreatDoor
open Go Go.RowKit Go.Vm Go.ChangeShapes Go.WideShapes Go.ChangeAt
theorem rd_9 {H:Type}{enc:TypeId×Value→H}{w:World}(N:Nat):Rd enc Tryz.prog w N 9 Qdv (fun x _=>okS x):=(Rd.string (by kernel_rfl)).map id (fun _=>rfl) fun _ _ h=>h.1
theorem rd_3 {H:Type}{enc:TypeId×Value→H}{w:World}(N:Nat):Rd enc Tryz.prog w N 3 Qe (fun x _=>(okI .i64) x):=(Rd.int (by kernel_rfl)).map id (fun _=>rfl) fun _ _ h=>Qvn h
theorem Qv0 {H:Type}{enc:TypeId×Value→H}{w:World}(N:Nat):Rd enc Tryz.prog w N 92 Qvo (fun x _=>(okL okS) x):=(Rd.slice (e:=9) (z:=1) (by kernel_rfl) (by kernel_rfl) (by decide) (fun x=>QiL rfl) (rd_9 N)).map id (fun _=>rfl) fun _ _ h=>QhW h
def QnF (x:Qy):Prop:=okS x.Name∧(okI .i64) x.Kind∧(okI .i64) x.Lo∧(okI .i64) x.Hi∧(okL okS) x.Names∧(okI .i64) x.First∧(okI .i64) x.Then
theorem Qv1 {H:Type}{enc:TypeId×Value→H}{w:World}(N:Nat):Rd enc Tryz.prog w N 94 Qu (fun x _=>QnF x):=by
 have h0:=(Rd.struct (fs:=[(9,0),(3,1),(3,2),(3,3),(92,4),(3,5),(3,6)]) (tot:=7) (N:=N) (t:=94) (P:=Tryz.prog) (w:=w) (enc:=enc) (by kernel_rfl) (RdF.cons 9 0 1 (by kernel_rfl) (rd_9 N) (RdF.cons 3 1 1 (by kernel_rfl) (rd_3 N) (RdF.cons 3 2 1 (by kernel_rfl) (rd_3 N) (RdF.cons 3 3 1 (by kernel_rfl) (rd_3 N) (RdF.cons 92 4 1 (by kernel_rfl) (Qv0 N) (RdF.cons 3 5 1 (by kernel_rfl) (rd_3 N) (RdF.cons 3 6 1 (by kernel_rfl) (rd_3 N) RdF.nil))))))))
 exact(h0.map (fun x=>⟨x.1,x.2.1,x.2.2.1,x.2.2.2.1,x.2.2.2.2.1,x.2.2.2.2.2.1,x.2.2.2.2.2.2.1⟩) (fun _=>rfl) (fun x d h=>by obtain⟨_,rfl,h⟩:=h;obtain⟨_,_,rfl,a0,h⟩:=h;obtain⟨_,_,rfl,a1,h⟩:=h;obtain⟨_,_,rfl,a2,h⟩:=h;obtain⟨_,_,rfl,a3,h⟩:=h;obtain⟨_,_,rfl,a4,h⟩:=h;obtain⟨_,_,rfl,a5,h⟩:=h;obtain⟨_,_,rfl,a6,h⟩:=h;exact⟨a0,a1,a2,a3,a4,a5,a6⟩)).mono (Nat.le_succ N)
theorem Qv2 {H:Type}{enc:TypeId×Value→H}{w:World}(N:Nat):Rd enc Tryz.prog w N 22 Qsl (fun x _=>(okL QnF) x):=(Rd.slice (e:=94) (z:=7) (by kernel_rfl) (by kernel_rfl) (by decide) (fun x=>QiL rfl) (Qv1 N)).map id (fun _=>rfl) fun _ _ h=>QhW h
def Qm3 (x:(Int×Int)):Prop:=(okI .i64) x.1∧(okI .i64) x.2
theorem Qv3 {H:Type}{enc:TypeId×Value→H}{w:World}(N:Nat):Rd enc Tryz.prog w N 40 Qt (fun x _=>Qm3 x):=by
 have h0:=(Rd.array (e:=3) (n:=2) (tot:=2) (fs:=[(3,0),(3,1)]) (N:=N) (t:=40) (P:=Tryz.prog) (w:=w) (enc:=enc) (by kernel_rfl) (RdF.cons 3 0 1 (by kernel_rfl) (rd_3 N) (RdF.cons 3 1 1 (by kernel_rfl) (rd_3 N) RdF.nil)))
 exact(h0.map (fun x=>⟨x.1,x.2.1⟩) (fun _=>rfl) (fun x d h=>by obtain⟨_,rfl,h⟩:=h;obtain⟨_,_,rfl,a0,h⟩:=h;obtain⟨_,_,rfl,a1,h⟩:=h;exact⟨a0,a1⟩)).mono (Nat.le_succ N)
theorem QuU {H:Type}{enc:TypeId×Value→H}{w:World}(N:Nat):Rd enc Tryz.prog w N 35 Qg (fun x _=>(okL Qm3) x):=(Rd.slice (e:=40) (z:=2) (by kernel_rfl) (by kernel_rfl) (by decide) (fun x=>QiL rfl) (Qv3 N)).map id (fun _=>rfl) fun _ _ h=>QhW h
def QoT (x:QA):Prop:=okS x.Name∧(okI .i64) x.Colour∧(okL Qm3) x.First
theorem Qv4 {H:Type}{enc:TypeId×Value→H}{w:World}(N:Nat):Rd enc Tryz.prog w N 89 Qs (fun x _=>QoT x):=by
 have h0:=(Rd.struct (fs:=[(9,0),(3,1),(35,2)]) (tot:=3) (N:=N) (t:=89) (P:=Tryz.prog) (w:=w) (enc:=enc) (by kernel_rfl) (RdF.cons 9 0 1 (by kernel_rfl) (rd_9 N) (RdF.cons 3 1 1 (by kernel_rfl) (rd_3 N) (RdF.cons 35 2 1 (by kernel_rfl) (QuU N) RdF.nil))))
 exact(h0.map (fun x=>⟨x.1,x.2.1,x.2.2.1⟩) (fun _=>rfl) (fun x d h=>by obtain⟨_,rfl,h⟩:=h;obtain⟨_,_,rfl,a0,h⟩:=h;obtain⟨_,_,rfl,a1,h⟩:=h;obtain⟨_,_,rfl,a2,h⟩:=h;exact⟨a0,a1,a2⟩)).mono (Nat.le_succ N)
theorem Qv5 {H:Type}{enc:TypeId×Value→H}{w:World}(N:Nat):Rd enc Tryz.prog w N 23 QsH (fun x _=>(okL QoT) x):=(Rd.slice (e:=89) (z:=3) (by kernel_rfl) (by kernel_rfl) (by decide) (fun x=>QiL rfl) (Qv4 N)).map id (fun _=>rfl) fun _ _ h=>QhW h
def Qrm (x:TVar):Prop:=okS x.Name∧(okI .i64) x.Colour
theorem Qv6 {H:Type}{enc:TypeId×Value→H}{w:World}(N:Nat):Rd enc Tryz.prog w N 96 QC (fun x _=>Qrm x):=by
 have h0:=(Rd.struct (fs:=[(9,0),(3,1)]) (tot:=2) (N:=N) (t:=96) (P:=Tryz.prog) (w:=w) (enc:=enc) (by kernel_rfl) (RdF.cons 9 0 1 (by kernel_rfl) (rd_9 N) (RdF.cons 3 1 1 (by kernel_rfl) (rd_3 N) RdF.nil)))
 exact(h0.map (fun x=>⟨x.1,x.2.1⟩) (fun _=>rfl) (fun x d h=>by obtain⟨_,rfl,h⟩:=h;obtain⟨_,_,rfl,a0,h⟩:=h;obtain⟨_,_,rfl,a1,h⟩:=h;exact⟨a0,a1⟩)).mono (Nat.le_succ N)
theorem Qv7 {H:Type}{enc:TypeId×Value→H}{w:World}(N:Nat):Rd enc Tryz.prog w N 48 Qbv (fun x _=>(okL Qrm) x):=(Rd.slice (e:=96) (z:=2) (by kernel_rfl) (by kernel_rfl) (by decide) (fun x=>QiL rfl) (Qv6 N)).map id (fun _=>rfl) fun _ _ h=>QhW h
theorem QqT (x:Qf):Ql x=[.i .i64 x.Kind,.i .i64 x.Num,.sl 3 (QaF x.Kids)]:=by cases x;rw [Ql]
inductive Qjp : Qf→Prop where
 | mk (x:Qf):(okI .i64) x.Kind→(okI .i64) x.Num→x.Kids.length≤maxLen→(∀k∈x.Kids,Qjp k)→Qjp x
theorem QuV {H:Type}{enc:TypeId×Value→H}{w:World}(N:Nat):Rd enc Tryz.prog w N 51 Ql (fun x _=>Qjp x):=by
 induction N with
 | zero=>exact Rd.zero
 | succ N ih=>
  have h0:=(Rd.struct (fs:=[(3,0),(3,1),(49,2)]) (tot:=3) (N:=N) (t:=51) (P:=Tryz.prog) (w:=w) (enc:=enc) (by kernel_rfl) (RdF.cons 3 0 1 (by kernel_rfl) (rd_3 N) (RdF.cons 3 1 1 (by kernel_rfl) (rd_3 N) (RdF.cons 49 2 1 (by kernel_rfl) (Rd.slice (e:=51) (z:=3) (by kernel_rfl) (by kernel_rfl) (by decide) (fun x=>QiL (by cases x;rfl)) ih) RdF.nil))))
  exact h0.map (fun x=>⟨x.1,x.2.1,x.2.2.1⟩) (fun x=>by simp only [Ql];rw [Qik];rfl) (fun x d h=>by obtain⟨_,rfl,h⟩:=h;obtain⟨_,_,rfl,a0,h⟩:=h;obtain⟨_,_,rfl,a1,h⟩:=h;obtain⟨_,_,rfl,a2,h⟩:=h;exact Qjp.mk _ a0 a1 (QhW a2).1 (QhW a2).2)
def Qm4 (x:TArc):Prop:=(okI .i64) x.Place∧Qjp x.Expr
theorem Qv8 {H:Type}{enc:TypeId×Value→H}{w:World}(N:Nat):Rd enc Tryz.prog w N 98 QN (fun x _=>Qm4 x):=by
 have h0:=(Rd.struct (fs:=[(3,0),(51,1)]) (tot:=4) (N:=N) (t:=98) (P:=Tryz.prog) (w:=w) (enc:=enc) (by kernel_rfl) (RdF.cons 3 0 1 (by kernel_rfl) (rd_3 N) (RdF.cons 51 1 3 (by kernel_rfl) (QuV N) RdF.nil)))
 exact(h0.map (fun x=>⟨x.1,x.2.1⟩) (fun x=>by rw [QqT];rfl) (fun x d h=>by obtain⟨_,rfl,h⟩:=h;obtain⟨_,_,rfl,a0,h⟩:=h;obtain⟨_,_,rfl,a1,h⟩:=h;exact⟨a0,a1⟩)).mono (Nat.le_succ N)
theorem QuW {H:Type}{enc:TypeId×Value→H}{w:World}(N:Nat):Rd enc Tryz.prog w N 52 QtS (fun x _=>(okL Qm4) x):=(Rd.slice (e:=98) (z:=4) (by kernel_rfl) (by kernel_rfl) (by decide) (fun x=>QiL rfl) (Qv8 N)).map id (fun _=>rfl) fun _ _ h=>QhW h
theorem QuX {H:Type}{enc:TypeId×Value→H}{w:World}(N:Nat):Rd enc Tryz.prog w N 29 Qw (fun x _=>(okL (okI .i64)) x):=(Rd.slice (e:=3) (z:=1) (by kernel_rfl) (by kernel_rfl) (by decide) (fun x=>QiL rfl) (rd_3 N)).map id (fun _=>rfl) fun _ _ h=>QhW h
def Que (x:(Int×Int×Int)):Prop:=(okI .i64) x.1∧(okI .i64) x.2.1∧(okI .i64) x.2.2
theorem Qv9 {H:Type}{enc:TypeId×Value→H}{w:World}(N:Nat):Rd enc Tryz.prog w N 53 Qq1 (fun x _=>Que x):=by
 have h0:=(Rd.array (e:=3) (n:=3) (tot:=3) (fs:=[(3,0),(3,1),(3,2)]) (N:=N) (t:=53) (P:=Tryz.prog) (w:=w) (enc:=enc) (by kernel_rfl) (RdF.cons 3 0 1 (by kernel_rfl) (rd_3 N) (RdF.cons 3 1 1 (by kernel_rfl) (rd_3 N) (RdF.cons 3 2 1 (by kernel_rfl) (rd_3 N) RdF.nil))))
 exact(h0.map (fun x=>⟨x.1,x.2.1,x.2.2.1⟩) (fun _=>rfl) (fun x d h=>by obtain⟨_,rfl,h⟩:=h;obtain⟨_,_,rfl,a0,h⟩:=h;obtain⟨_,_,rfl,a1,h⟩:=h;obtain⟨_,_,rfl,a2,h⟩:=h;exact⟨a0,a1,a2⟩)).mono (Nat.le_succ N)
def Qqa (x:Qr):Prop:=okS x.Name∧(okL Qrm) x.Vars∧Qjp x.Guard∧(okI .i64) x.Join∧(okI .i64) x.Split∧(okL Qm4) x.Ins∧(okL Qm4) x.Outs∧(okL (okI .i64)) x.Cancel∧(okI .i64) x.After∧Que x.Many
theorem Qwa {H:Type}{enc:TypeId×Value→H}{w:World}(N:Nat):Rd enc Tryz.prog w N 55 Qi (fun x _=>Qqa x):=by
 have h0:=(Rd.struct (fs:=[(9,0),(48,1),(51,2),(3,5),(3,6),(52,7),(52,8),(29,9),(3,10),(53,11)]) (tot:=14) (N:=N) (t:=55) (P:=Tryz.prog) (w:=w) (enc:=enc) (by kernel_rfl) (RdF.cons 9 0 1 (by kernel_rfl) (rd_9 N) (RdF.cons 48 1 1 (by kernel_rfl) (Qv7 N) (RdF.cons 51 2 3 (by kernel_rfl) (QuV N) (RdF.cons 3 5 1 (by kernel_rfl) (rd_3 N) (RdF.cons 3 6 1 (by kernel_rfl) (rd_3 N) (RdF.cons 52 7 1 (by kernel_rfl) (QuW N) (RdF.cons 52 8 1 (by kernel_rfl) (QuW N) (RdF.cons 29 9 1 (by kernel_rfl) (QuX N) (RdF.cons 3 10 1 (by kernel_rfl) (rd_3 N) (RdF.cons 53 11 3 (by kernel_rfl) (Qv9 N) RdF.nil)))))))))))
 exact(h0.map (fun x=>⟨x.1,x.2.1,x.2.2.1,x.2.2.2.1,x.2.2.2.2.1,x.2.2.2.2.2.1,x.2.2.2.2.2.2.1,x.2.2.2.2.2.2.2.1,x.2.2.2.2.2.2.2.2.1,x.2.2.2.2.2.2.2.2.2.1⟩) (fun x=>by rw [QqT];rfl) (fun x d h=>by obtain⟨_,rfl,h⟩:=h;obtain⟨_,_,rfl,a0,h⟩:=h;obtain⟨_,_,rfl,a1,h⟩:=h;obtain⟨_,_,rfl,a2,h⟩:=h;obtain⟨_,_,rfl,a3,h⟩:=h;obtain⟨_,_,rfl,a4,h⟩:=h;obtain⟨_,_,rfl,a5,h⟩:=h;obtain⟨_,_,rfl,a6,h⟩:=h;obtain⟨_,_,rfl,a7,h⟩:=h;obtain⟨_,_,rfl,a8,h⟩:=h;obtain⟨_,_,rfl,a9,h⟩:=h;exact⟨a0,a1,a2,a3,a4,a5,a6,a7,a8,a9⟩)).mono (Nat.le_succ N)
theorem Qwb {H:Type}{enc:TypeId×Value→H}{w:World}(N:Nat):Rd enc Tryz.prog w N 24 Qtk (fun x _=>(okL Qqa) x):=(Rd.slice (e:=55) (z:=14) (by kernel_rfl) (by kernel_rfl) (by decide) (fun x=>QiL rfl) (Qwa N)).map id (fun _=>rfl) fun _ _ h=>QhW h
def Qo3 (x:TNet):Prop:=(okL QnF) x.Colours∧(okL QoT) x.Places∧(okL Qqa) x.Tasks∧(okI .i64) x.From∧(okI .i64) x.To
theorem Qwc {H:Type}{enc:TypeId×Value→H}{w:World}(N:Nat):Rd enc Tryz.prog w N 26 Qd (fun x _=>Qo3 x):=by
 have h0:=(Rd.struct (fs:=[(22,0),(23,1),(24,2),(3,3),(3,4)]) (tot:=5) (N:=N) (t:=26) (P:=Tryz.prog) (w:=w) (enc:=enc) (by kernel_rfl) (RdF.cons 22 0 1 (by kernel_rfl) (Qv2 N) (RdF.cons 23 1 1 (by kernel_rfl) (Qv5 N) (RdF.cons 24 2 1 (by kernel_rfl) (Qwb N) (RdF.cons 3 3 1 (by kernel_rfl) (rd_3 N) (RdF.cons 3 4 1 (by kernel_rfl) (rd_3 N) RdF.nil))))))
 exact(h0.map (fun x=>⟨x.1,x.2.1,x.2.2.1,x.2.2.2.1,x.2.2.2.2.1⟩) (fun _=>rfl) (fun x d h=>by obtain⟨_,rfl,h⟩:=h;obtain⟨_,_,rfl,a0,h⟩:=h;obtain⟨_,_,rfl,a1,h⟩:=h;obtain⟨_,_,rfl,a2,h⟩:=h;obtain⟨_,_,rfl,a3,h⟩:=h;obtain⟨_,_,rfl,a4,h⟩:=h;exact⟨a0,a1,a2,a3,a4⟩)).mono (Nat.le_succ N)
theorem Qwd {H:Type}{enc:TypeId×Value→H}{w:World}(N:Nat):Rd enc Tryz.prog w N 28 QT (fun x _=>(okL (okL Qm3)) x):=(Rd.slice (e:=35) (z:=1) (by kernel_rfl) (by kernel_rfl) (by decide) (fun x=>QiL rfl) (QuU N)).map id (fun _=>rfl) fun _ _ h=>QhW h
namespace LawFireKeeps
theorem own : ownKnob Tryz.prog.godebug=none:=by kernel_rfl
theorem Qvf : laidOutB Tryz.prog=true:=by kernel_rfl
theorem QuN : ∀t∈Tryz.f7.params.toList,Tryz.prog.readableRec t=true∧t<Tryz.prog.types.size:=by
 have h:(Tryz.f7.params.toList.all fun t=>Tryz.prog.readableRec t&&decide (t<Tryz.prog.types.size))=true:=by kernel_rfl
 intro t ht
 have:=List.all_eq_true.1 h t ht
 rw [Bool.and_eq_true,decide_eq_true_eq]at this
 exact this
theorem QuO (os:Os)(args:Array Value):laidMetH Tryz.prog Rows.fireKeepsRow.laid ((World.doorLaid Tryz.prog 33 os).forCall (fun _ _=>0) ⟨#[],args,[]⟩).memory:=
 laidMetH_of_parts3 (fuel:=8) (laidMet_of_run' 8 (by kernel_rfl) (by kernel_rfl)) (by kernel_rfl) (by kernel_rfl)
theorem QuP {W:World}(h:laidMetH Tryz.prog Rows.fireKeepsRow.laid W):Glob Tryz.prog (fun k=>k<W.heap.size) W:=
 Qsk (r:=[]) (g:=0) (t:=236) (e:=5) 1 (by kernel_rfl) (by kernel_rfl) (by kernel_rfl) (by kernel_rfl) (by kernel_rfl) (by kernel_rfl) (by kernel_rfl) (by kernel_rfl) h
set_option maxRecDepth 100000 in
theorem QvF (hF:∀(a0:TNet) (a1:(List (List (Int×Int)))) (a2:(List Int)),Qo3 a0→(okL (okL Qm3)) a1→(okL (okI .i64)) a2→Qc7 a0 a1 a2=some true)(os:Os)(started:os.Started)(H:Type)(enc:TypeId×Value→H):
  ReturnsInHanded {} Tryz.checked os 7 .any (fun w args=>(Rows.fireKeepsSpec.pre enc Tryz.prog Tryz.f7 Rows.fireKeepsRow.domain false w args∧laidMetH Tryz.prog Rows.fireKeepsRow.laid w)∧sizedMet enc Tryz.prog Tryz.f7 (OpenSpec.ofChange Rows.fireKeepsSpec) false w args) (Rows.fireKeepsSpec.post enc Tryz.prog Tryz.f7 false true false false):=by
 refine returnsInHanded_of_change_and (C:=Tryz.checked) (X:=fun w _=>laidMetH Tryz.prog Rows.fireKeepsRow.laid w) (fun _ _ _ hh h=>h.of_heap hh) own started (by kernel_rfl) Tryz.func7
  (ChangeSpec.witness_shaped (enc:=enc) (C:=Tryz.checked) (os:=os) (X:=fun w _=>laidMetH Tryz.prog Rows.fireKeepsRow.laid w) false (World.doorLaid Tryz.prog 33 os) #[.agg #[.slice none 0 0,.slice none 0 0,.slice none 0 0,.int .i64 0,.int .i64 0],.slice none 0 0,.slice none 0 0] 8 rfl (World.shaped_of_RefB (by kernel_rfl) (by kernel_rfl)) (by kernel_rfl) (by kernel_rfl) (by kernel_rfl) (QuO os _)) ?_
 intro W base args ds gs before hval0 hW hcnd _ hL _
 have hval:∀(j:Nat) t v,Tryz.f7.params[j]? = some t→args[j]? = some v→Value.okWide Tryz.prog W .any base t v:=hval0
 have hW1:=hW
 obtain⟨p,q,hA0,hV,_,_,_⟩:=hW
 obtain⟨rfl,_⟩:=trodVars_none hV
 have hA:DataW.TrodAll enc Tryz.prog W 0 (fun _=>true) true Tryz.f7.params.toList args.toList ds p:=hA0
 rw [Tryz.params7]at hA hval
 obtain⟨v0,vs0,d0,ds0,p0,q0,hargs,rfl,_,h0,r0⟩:=trodAll_cons hA
 obtain⟨v1,vs1,d1,ds1,p1,q1,rfl,rfl,_,h1,r1⟩:=trodAll_cons r0
 obtain⟨v2,vs2,d2,ds2,p2,q2,rfl,rfl,_,h2,r2⟩:=trodAll_cons r1
 obtain⟨rfl,rfl,_⟩:=trodAll_nil r2
 obtain rfl:args=#[v0,v1,v2]:=by cases args;simp_all
 obtain⟨a0,w0,c0⟩:=Rd.open (fun N=>Qwc N) h0
 obtain⟨_,rfl⟩:=Qur (P:=Tryz.prog) (t:=26) (fs:=[(22,0),(23,1),(24,2),(3,3),(3,4)]) (tot:=5) (by kernel_rfl) (hval 0 26 v0 rfl rfl)
 have e0:=c0.argS
 obtain⟨a1,w1,c1⟩:=Rd.open (fun N=>Qwd N) h1
 obtain⟨_,_,_,rfl⟩:=okWide_slice Tryz.underlying28 (hval 1 28 v1 rfl rfl)
 have e1:=(Cl.arg1 rfl c1)
 obtain⟨a2,w2,c2⟩:=Rd.open (fun N=>QuX N) h2
 obtain⟨_,_,_,rfl⟩:=okWide_slice Tryz.underlying29 (hval 2 29 v2 rfl rfl)
 have e2:=(Cl.arg1 rfl c2)
 refine(Qc.law (us:=[.agg (Qd a0),.sl 1 (a1.map Qg),.sl 1 (a2.map Qe)]) (Qnx a0 a1 a2 (hF a0 a1 a2 w0 w1 w2)) (QuP hL) rfl (fun j x v hx hv=>?_)).mono fun e W2 ⟨he,hb⟩=>?_
 ·match j with
  | 0=>cases hx;cases hv;exact e0
  | 1=>cases hx;cases hv;exact e1
  | 2=>cases hx;cases hv;exact e2
  | j+3=>simp at hx
 ·subst he
  exact⟨_,rfl,Qus Qvf QuN hW1 rfl hb rfl Tryz.underlying4 rfl rfl rfl⟩
theorem proved_of (hF:∀(a0:TNet) (a1:(List (List (Int×Int)))) (a2:(List Int)),Qo3 a0→(okL (okL Qm3)) a1→(okL (okI .i64)) a2→Qc7 a0 a1 a2=some true):Rows.FireKeepsSaid:=
 OpenClaim.holds_of_wide 7 Tryz.f7 rfl rfl rfl rfl rfl rfl rfl ⟨rfl,rfl,rfl,rfl,rfl⟩ rfl rfl rfl rfl rfl (by kernel_rfl) Tryz.func7 (by kernel_rfl)
  (of_decide_eq_true (by kernel_rfl)) (by unfold Func.isWrapper;first | (rw [if_pos (by decide +kernel)];kernel_rfl) | (rw [if_neg (by decide +kernel)];exact⟨rfl,rfl⟩))
  (fun os started H enc _=>QvF hF os started H enc)
theorem card_of (hs:Rows.FireKeepsSaid):Rows.FireKeepsCardSaid:=
 Claim7.holds_tied_plain_at .later [] [.listed,.data] true (true, "55a32eb73a824f972e2f3ec437ce2d921973ab58bea41a2c34a0dbeb3863f61f") false
  hs (fun _ h=>by cases h) (by kernel_rfl) (fun _ h=>by cases h) fireKeeps_row_tie rfl ⟨rfl,rfl⟩ (by kernel_rfl) rfl
  (fun f fn hf hfn=>by
   obtain rfl:f=7:=Option.some.inj ((show Tryz.prog.funcNamed "baldric/baldriclaw11.FireKeeps" = some 7 by kernel_rfl).symm.trans hf) |>.symm
   obtain rfl:fn=Tryz.f7:=(Option.some.inj (Tryz.func7.symm.trans hfn)).symm
   exact⟨by kernel_rfl,fun j t ht=>by
    rw [Tryz.params7]at ht
    have hm:t∈[26,28,29]:=by simpa using Array.mem_of_getElem? ht
    have hall:([26,28,29].all fun u=>!Tryz.prog.wantsStandIn u)=true:=by kernel_rfl
    exact(show Tryz.prog.wantsStandIn t=false by simpa using List.all_eq_true.1 hall t hm)⟩)
  (by kernel_rfl)
end LawFireKeeps
theorem kE {e:Qf}(h:Qjp e):QcK e:=by
 induction h with
 | mk x _ _ h1 _ ih=>exact .mk x h1 ih
theorem kL {α:Type}{p q:α→Prop}(f:∀x,p x→q x){l:List α}(h:okL p l):lenL q l:=⟨h.1,fun x hx=>f x (h.2 x hx)⟩
theorem kA {a:TArc}(h:Qm4 a):Qid a:=⟨trivial,kE h.2⟩
theorem kNet {n:TNet}(h:Qo3 n):QH n:=
 ⟨kL (fun c hc=>⟨hc.1,trivial,trivial,trivial,kL (fun s hs=>hs) hc.2.2.2.2.1,trivial,trivial⟩) h.1,kL (fun p hp=>⟨hp.1,trivial,kL (fun _ _=>trivial) hp.2.2⟩) h.2.1,
  kL (fun t ht=>⟨ht.1,kL (fun v hv=>⟨hv.1,trivial⟩) ht.2.1,kE ht.2.2.1,trivial,trivial,kL (fun _ h=>kA h) ht.2.2.2.2.2.1,kL (fun _ h=>kA h) ht.2.2.2.2.2.2.1,kL (fun _ _=>trivial) ht.2.2.2.2.2.2.2.1,trivial,trivial⟩) h.2.2.1,trivial,trivial⟩
theorem proved : Rows.FireKeepsCardSaid:=LawFireKeeps.card_of (LawFireKeeps.proved_of fun a0 a1 a2 h0 h1 _=>Qtw a0 a1 a2 (kNet h0) (kL (fun b hb=>kL (fun _ _=>trivial) hb) h1))

end Go.Proofs.YtpijolohkdchcaaGreatDoor
