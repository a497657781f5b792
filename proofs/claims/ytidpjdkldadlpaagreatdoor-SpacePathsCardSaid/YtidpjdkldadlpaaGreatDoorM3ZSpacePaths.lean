/- SpacePaths, as it is given: of any net and numbers it answers true, with no condition but what its row asks of all calls. -/
import Derived.Test.YtidpjdkldadlpaaGreatDoorM3P3
import Derived.Test.YtidpjdkldadlpaaGreatDoorM3T3
import Derived.Test.YtidpjdkldadlpaaGreatDoorM3V3
import Derived.Test.YtidpjdkldadlpaaGreatDoorRows
import Derived.Test.YtidpjdkldadlpaaGreatDoorTie
import Derived.Test.YtidpjdkldadlpaaGreatDoorCards
import Derived.SevenTiedAt
import Derived.WalkKit
import Derived.ProofKit
import Derived.OpenShut
set_option linter.unusedVariables false
set_option linter.unusedSimpArgs false
set_option linter.unusedSectionVars false
set_option linter.deprecated false
noncomputable section
namespace Go.Proofs.YtidpjdkldadlpaaGreatDoor
open Go Go.RowKit Go.Vm Go.ChangeShapes Go.WideShapes Go.ChangeAt
theorem Quv {H:Type}{enc:TypeId×Value→H}{w:World}(N:Nat):Rd enc Tryz.prog w N 9 Qea (fun x _=>okS x):=(Rd.string (by kernel_rfl)).map id (fun _=>rfl) fun _ _ h=>h.1
theorem Qdm {H:Type}{enc:TypeId×Value→H}{w:World}(N:Nat):Rd enc Tryz.prog w N 3 Qe (fun x _=>(okI .i64) x):=(Rd.int (by kernel_rfl)).map id (fun _=>rfl) fun _ _ h=>QEc h
theorem QFi {H:Type}{enc:TypeId×Value→H}{w:World}(N:Nat):Rd enc Tryz.prog w N 94 QBv (fun x _=>(okL okS) x):=(Rd.slice (e:=9) (z:=1) (by kernel_rfl) (by kernel_rfl) (by decide) (fun x=>QhI rfl) (Quv N)).map id (fun _=>rfl) fun _ _ h=>Qln h
def Qm5 (x:QH):Prop:=okS x.Name∧(okI .i64) x.Kind∧(okI .i64) x.Lo∧(okI .i64) x.Hi∧(okL okS) x.Names∧(okI .i64) x.First∧(okI .i64) x.Then
theorem QFj {H:Type}{enc:TypeId×Value→H}{w:World}(N:Nat):Rd enc Tryz.prog w N 96 Qr (fun x _=>Qm5 x):=by
 have h0:=(Rd.struct (fs:=[(9,0),(3,1),(3,2),(3,3),(94,4),(3,5),(3,6)]) (tot:=7) (N:=N) (t:=96) (P:=Tryz.prog) (w:=w) (enc:=enc) (by kernel_rfl) (RdF.cons 9 0 1 (by kernel_rfl) (Quv N) (RdF.cons 3 1 1 (by kernel_rfl) (Qdm N) (RdF.cons 3 2 1 (by kernel_rfl) (Qdm N) (RdF.cons 3 3 1 (by kernel_rfl) (Qdm N) (RdF.cons 94 4 1 (by kernel_rfl) (QFi N) (RdF.cons 3 5 1 (by kernel_rfl) (Qdm N) (RdF.cons 3 6 1 (by kernel_rfl) (Qdm N) RdF.nil))))))))
 exact(h0.map (fun x=>⟨x.1,x.2.1,x.2.2.1,x.2.2.2.1,x.2.2.2.2.1,x.2.2.2.2.2.1,x.2.2.2.2.2.2.1⟩) (fun _=>rfl) (fun x d h=>by obtain⟨_,rfl,h⟩:=h;obtain⟨_,_,rfl,a0,h⟩:=h;obtain⟨_,_,rfl,a1,h⟩:=h;obtain⟨_,_,rfl,a2,h⟩:=h;obtain⟨_,_,rfl,a3,h⟩:=h;obtain⟨_,_,rfl,a4,h⟩:=h;obtain⟨_,_,rfl,a5,h⟩:=h;obtain⟨_,_,rfl,a6,h⟩:=h;exact⟨a0,a1,a2,a3,a4,a5,a6⟩)).mono (Qmm N)
theorem QFk {H:Type}{enc:TypeId×Value→H}{w:World}(N:Nat):Rd enc Tryz.prog w N 22 QtN (fun x _=>(okL Qm5) x):=(Rd.slice (e:=96) (z:=7) (by kernel_rfl) (by kernel_rfl) (by decide) (fun x=>QhI rfl) (QFj N)).map id (fun _=>rfl) fun _ _ h=>Qln h
def Qw7 (x:(Int×Int)):Prop:=(okI .i64) x.1∧(okI .i64) x.2
theorem QDw {H:Type}{enc:TypeId×Value→H}{w:World}(N:Nat):Rd enc Tryz.prog w N 59 QI (fun x _=>Qw7 x):=by
 have h0:=(Rd.array (e:=3) (n:=2) (tot:=2) (fs:=[(3,0),(3,1)]) (N:=N) (t:=59) (P:=Tryz.prog) (w:=w) (enc:=enc) (by kernel_rfl) (RdF.cons 3 0 1 (by kernel_rfl) (Qdm N) (RdF.cons 3 1 1 (by kernel_rfl) (Qdm N) RdF.nil)))
 exact(h0.map (fun x=>⟨x.1,x.2.1⟩) (fun _=>rfl) (fun x d h=>by obtain⟨_,rfl,h⟩:=h;obtain⟨_,_,rfl,a0,h⟩:=h;obtain⟨_,_,rfl,a1,h⟩:=h;exact⟨a0,a1⟩)).mono (Qmm N)
theorem QFl {H:Type}{enc:TypeId×Value→H}{w:World}(N:Nat):Rd enc Tryz.prog w N 61 Qi (fun x _=>(okL Qw7) x):=(Rd.slice (e:=59) (z:=2) (by kernel_rfl) (by kernel_rfl) (by decide) (fun x=>QhI rfl) (QDw N)).map id (fun _=>rfl) fun _ _ h=>Qln h
def Qn3 (x:QM):Prop:=okS x.Name∧(okI .i64) x.Colour∧(okL Qw7) x.First
theorem QFm {H:Type}{enc:TypeId×Value→H}{w:World}(N:Nat):Rd enc Tryz.prog w N 83 Qp (fun x _=>Qn3 x):=by
 have h0:=(Rd.struct (fs:=[(9,0),(3,1),(61,2)]) (tot:=3) (N:=N) (t:=83) (P:=Tryz.prog) (w:=w) (enc:=enc) (by kernel_rfl) (RdF.cons 9 0 1 (by kernel_rfl) (Quv N) (RdF.cons 3 1 1 (by kernel_rfl) (Qdm N) (RdF.cons 61 2 1 (by kernel_rfl) (QFl N) RdF.nil))))
 exact(h0.map (fun x=>⟨x.1,x.2.1,x.2.2.1⟩) (fun _=>rfl) (fun x d h=>by obtain⟨_,rfl,h⟩:=h;obtain⟨_,_,rfl,a0,h⟩:=h;obtain⟨_,_,rfl,a1,h⟩:=h;obtain⟨_,_,rfl,a2,h⟩:=h;exact⟨a0,a1,a2⟩)).mono (Qmm N)
theorem QFn {H:Type}{enc:TypeId×Value→H}{w:World}(N:Nat):Rd enc Tryz.prog w N 23 Qvp (fun x _=>(okL Qn3) x):=(Rd.slice (e:=83) (z:=3) (by kernel_rfl) (by kernel_rfl) (by decide) (fun x=>QhI rfl) (QFm N)).map id (fun _=>rfl) fun _ _ h=>Qln h
def QxJ (x:QaN):Prop:=okS x.Name∧(okI .i64) x.Colour
theorem QEF {H:Type}{enc:TypeId×Value→H}{w:World}(N:Nat):Rd enc Tryz.prog w N 107 QR (fun x _=>QxJ x):=by
 have h0:=(Rd.struct (fs:=[(9,0),(3,1)]) (tot:=2) (N:=N) (t:=107) (P:=Tryz.prog) (w:=w) (enc:=enc) (by kernel_rfl) (RdF.cons 9 0 1 (by kernel_rfl) (Quv N) (RdF.cons 3 1 1 (by kernel_rfl) (Qdm N) RdF.nil)))
 exact(h0.map (fun x=>⟨x.1,x.2.1⟩) (fun _=>rfl) (fun x d h=>by obtain⟨_,rfl,h⟩:=h;obtain⟨_,_,rfl,a0,h⟩:=h;obtain⟨_,_,rfl,a1,h⟩:=h;exact⟨a0,a1⟩)).mono (Qmm N)
theorem QEG {H:Type}{enc:TypeId×Value→H}{w:World}(N:Nat):Rd enc Tryz.prog w N 100 Qch (fun x _=>(okL QxJ) x):=(Rd.slice (e:=107) (z:=2) (by kernel_rfl) (by kernel_rfl) (by decide) (fun x=>QhI rfl) (QEF N)).map id (fun _=>rfl) fun _ _ h=>Qln h
theorem Qw8 (x:Qo):Qq x=[.i .i64 x.Kind,.i .i64 x.Num,.sl 3 (Qbo x.Kids)]:=by cases x;rw [Qq]
inductive Ql7 : Qo→Prop where
 | mk (x:Qo):(okI .i64) x.Kind→(okI .i64) x.Num→x.Kids.length≤maxLen→(∀k∈x.Kids,Ql7 k)→Ql7 x
theorem QDx {H:Type}{enc:TypeId×Value→H}{w:World}(N:Nat):Rd enc Tryz.prog w N 93 Qq (fun x _=>Ql7 x):=by
 induction N with
 | zero=>exact Rd.zero
 | succ N ih=>
  have h0:=(Rd.struct (fs:=[(3,0),(3,1),(91,2)]) (tot:=3) (N:=N) (t:=93) (P:=Tryz.prog) (w:=w) (enc:=enc) (by kernel_rfl) (RdF.cons 3 0 1 (by kernel_rfl) (Qdm N) (RdF.cons 3 1 1 (by kernel_rfl) (Qdm N) (RdF.cons 91 2 1 (by kernel_rfl) (Rd.slice (e:=93) (z:=3) (by kernel_rfl) (by kernel_rfl) (by decide) (fun x=>QhI (by cases x;rfl)) ih) RdF.nil))))
  exact h0.map (fun x=>⟨x.1,x.2.1,x.2.2.1⟩) (fun x=>by simp only [Qq];rw [Qkw];rfl) (fun x d h=>by obtain⟨_,rfl,h⟩:=h;obtain⟨_,_,rfl,a0,h⟩:=h;obtain⟨_,_,rfl,a1,h⟩:=h;obtain⟨_,_,rfl,a2,h⟩:=h;exact Ql7.mk _ a0 a1 (Qln a2).1 (Qln a2).2)
def Qr0 (x:Qaw):Prop:=(okI .i64) x.Place∧Ql7 x.Expr
theorem QFo {H:Type}{enc:TypeId×Value→H}{w:World}(N:Nat):Rd enc Tryz.prog w N 98 Q5 (fun x _=>Qr0 x):=by
 have h0:=(Rd.struct (fs:=[(3,0),(93,1)]) (tot:=4) (N:=N) (t:=98) (P:=Tryz.prog) (w:=w) (enc:=enc) (by kernel_rfl) (RdF.cons 3 0 1 (by kernel_rfl) (Qdm N) (RdF.cons 93 1 3 (by kernel_rfl) (QDx N) RdF.nil)))
 exact(h0.map (fun x=>⟨x.1,x.2.1⟩) (fun x=>by rw [Qw8];rfl) (fun x d h=>by obtain⟨_,rfl,h⟩:=h;obtain⟨_,_,rfl,a0,h⟩:=h;obtain⟨_,_,rfl,a1,h⟩:=h;exact⟨a0,a1⟩)).mono (Qmm N)
theorem QDy {H:Type}{enc:TypeId×Value→H}{w:World}(N:Nat):Rd enc Tryz.prog w N 99 QBw (fun x _=>(okL Qr0) x):=(Rd.slice (e:=98) (z:=4) (by kernel_rfl) (by kernel_rfl) (by decide) (fun x=>QhI rfl) (QFo N)).map id (fun _=>rfl) fun _ _ h=>Qln h
theorem QFp {H:Type}{enc:TypeId×Value→H}{w:World}(N:Nat):Rd enc Tryz.prog w N 39 QK (fun x _=>(okL (okI .i64)) x):=(Rd.slice (e:=3) (z:=1) (by kernel_rfl) (by kernel_rfl) (by decide) (fun x=>QhI rfl) (Qdm N)).map id (fun _=>rfl) fun _ _ h=>Qln h
def QCj (x:(Int×Int×Int)):Prop:=(okI .i64) x.1∧(okI .i64) x.2.1∧(okI .i64) x.2.2
theorem QEH {H:Type}{enc:TypeId×Value→H}{w:World}(N:Nat):Rd enc Tryz.prog w N 101 Qxl (fun x _=>QCj x):=by
 have h0:=(Rd.array (e:=3) (n:=3) (tot:=3) (fs:=[(3,0),(3,1),(3,2)]) (N:=N) (t:=101) (P:=Tryz.prog) (w:=w) (enc:=enc) (by kernel_rfl) (RdF.cons 3 0 1 (by kernel_rfl) (Qdm N) (RdF.cons 3 1 1 (by kernel_rfl) (Qdm N) (RdF.cons 3 2 1 (by kernel_rfl) (Qdm N) RdF.nil))))
 exact(h0.map (fun x=>⟨x.1,x.2.1,x.2.2.1⟩) (fun _=>rfl) (fun x d h=>by obtain⟨_,rfl,h⟩:=h;obtain⟨_,_,rfl,a0,h⟩:=h;obtain⟨_,_,rfl,a1,h⟩:=h;obtain⟨_,_,rfl,a2,h⟩:=h;exact⟨a0,a1,a2⟩)).mono (Qmm N)
def Qv9 (x:QC):Prop:=okS x.Name∧(okL QxJ) x.Vars∧Ql7 x.Guard∧(okI .i64) x.Join∧(okI .i64) x.Split∧(okL Qr0) x.Ins∧(okL Qr0) x.Outs∧(okL (okI .i64)) x.Cancel∧(okI .i64) x.After∧QCj x.Many
theorem QEI {H:Type}{enc:TypeId×Value→H}{w:World}(N:Nat):Rd enc Tryz.prog w N 103 Qh (fun x _=>Qv9 x):=by
 have h0:=(Rd.struct (fs:=[(9,0),(100,1),(93,2),(3,5),(3,6),(99,7),(99,8),(39,9),(3,10),(101,11)]) (tot:=14) (N:=N) (t:=103) (P:=Tryz.prog) (w:=w) (enc:=enc) (by kernel_rfl) (RdF.cons 9 0 1 (by kernel_rfl) (Quv N) (RdF.cons 100 1 1 (by kernel_rfl) (QEG N) (RdF.cons 93 2 3 (by kernel_rfl) (QDx N) (RdF.cons 3 5 1 (by kernel_rfl) (Qdm N) (RdF.cons 3 6 1 (by kernel_rfl) (Qdm N) (RdF.cons 99 7 1 (by kernel_rfl) (QDy N) (RdF.cons 99 8 1 (by kernel_rfl) (QDy N) (RdF.cons 39 9 1 (by kernel_rfl) (QFp N) (RdF.cons 3 10 1 (by kernel_rfl) (Qdm N) (RdF.cons 101 11 3 (by kernel_rfl) (QEH N) RdF.nil)))))))))))
 exact(h0.map (fun x=>⟨x.1,x.2.1,x.2.2.1,x.2.2.2.1,x.2.2.2.2.1,x.2.2.2.2.2.1,x.2.2.2.2.2.2.1,x.2.2.2.2.2.2.2.1,x.2.2.2.2.2.2.2.2.1,x.2.2.2.2.2.2.2.2.2.1⟩) (fun x=>by rw [Qw8];rfl) (fun x d h=>by obtain⟨_,rfl,h⟩:=h;obtain⟨_,_,rfl,a0,h⟩:=h;obtain⟨_,_,rfl,a1,h⟩:=h;obtain⟨_,_,rfl,a2,h⟩:=h;obtain⟨_,_,rfl,a3,h⟩:=h;obtain⟨_,_,rfl,a4,h⟩:=h;obtain⟨_,_,rfl,a5,h⟩:=h;obtain⟨_,_,rfl,a6,h⟩:=h;obtain⟨_,_,rfl,a7,h⟩:=h;obtain⟨_,_,rfl,a8,h⟩:=h;obtain⟨_,_,rfl,a9,h⟩:=h;exact⟨a0,a1,a2,a3,a4,a5,a6,a7,a8,a9⟩)).mono (Qmm N)
theorem QDz {H:Type}{enc:TypeId×Value→H}{w:World}(N:Nat):Rd enc Tryz.prog w N 24 QAv (fun x _=>(okL Qv9) x):=(Rd.slice (e:=103) (z:=14) (by kernel_rfl) (by kernel_rfl) (by decide) (fun x=>QhI rfl) (QEI N)).map id (fun _=>rfl) fun _ _ h=>Qln h
def QuK (x:Qj):Prop:=(okL Qm5) x.Colours∧(okL Qn3) x.Places∧(okL Qv9) x.Tasks∧(okI .i64) x.From∧(okI .i64) x.To
theorem QFF {H:Type}{enc:TypeId×Value→H}{w:World}(N:Nat):Rd enc Tryz.prog w N 26 Qd (fun x _=>QuK x):=by
 have h0:=(Rd.struct (fs:=[(22,0),(23,1),(24,2),(3,3),(3,4)]) (tot:=5) (N:=N) (t:=26) (P:=Tryz.prog) (w:=w) (enc:=enc) (by kernel_rfl) (RdF.cons 22 0 1 (by kernel_rfl) (QFk N) (RdF.cons 23 1 1 (by kernel_rfl) (QFn N) (RdF.cons 24 2 1 (by kernel_rfl) (QDz N) (RdF.cons 3 3 1 (by kernel_rfl) (Qdm N) (RdF.cons 3 4 1 (by kernel_rfl) (Qdm N) RdF.nil))))))
 exact(h0.map (fun x=>⟨x.1,x.2.1,x.2.2.1,x.2.2.2.1,x.2.2.2.2.1⟩) (fun _=>rfl) (fun x d h=>by obtain⟨_,rfl,h⟩:=h;obtain⟨_,_,rfl,a0,h⟩:=h;obtain⟨_,_,rfl,a1,h⟩:=h;obtain⟨_,_,rfl,a2,h⟩:=h;obtain⟨_,_,rfl,a3,h⟩:=h;obtain⟨_,_,rfl,a4,h⟩:=h;exact⟨a0,a1,a2,a3,a4⟩)).mono (Qmm N)
theorem QEJ {H:Type}{enc:TypeId×Value→H}{w:World}(N:Nat):Rd enc Tryz.prog w N 61 Qi (fun x d=>(okL Qw7) x∧(Sz Tryz.prog 61 d→x.length*16≤reachBytes)):=(Rd.slice (e:=59) (z:=2) (by kernel_rfl) (by kernel_rfl) (by decide) (fun x=>QhI rfl) (QDw N)).map id (fun _=>rfl) fun _ _ h=>QEd (t:=61) (e:=59) (by kernel_rfl) (by kernel_rfl) h
theorem QEK {H:Type}{enc:TypeId×Value→H}{w:World}(N:Nat):Rd enc Tryz.prog w N 83 Qp (fun x d=>Qn3 x∧(Sz Tryz.prog 83 d→x.First.length*16≤reachBytes)):=by
 have h0:=(Rd.struct (fs:=[(9,0),(3,1),(61,2)]) (tot:=3) (N:=N) (t:=83) (P:=Tryz.prog) (w:=w) (enc:=enc) (by kernel_rfl) (RdF.cons 9 0 1 (by kernel_rfl) (Quv N) (RdF.cons 3 1 1 (by kernel_rfl) (Qdm N) (RdF.cons 61 2 1 (by kernel_rfl) (QEJ N) RdF.nil))))
 exact(h0.map (fun x=>⟨x.1,x.2.1,x.2.2.1⟩) (fun _=>rfl) (fun x d h=>by obtain⟨_,rfl,h⟩:=h;obtain⟨_,_,rfl,a0,h⟩:=h;obtain⟨_,_,rfl,a1,h⟩:=h;obtain⟨_,_,rfl,a2,h⟩:=h;exact⟨⟨a0,a1,a2.1⟩,fun hz=>a2.2 (Sz.field Tryz.underlying83 hz (j:=2) rfl rfl)⟩)).mono (Qmm N)
theorem QEL {H:Type}{enc:TypeId×Value→H}{w:World}(N:Nat):Rd enc Tryz.prog w N 23 Qvp (fun x d=>(okL Qn3) x∧(Sz Tryz.prog 23 d→∀p∈x,p.First.length*16≤reachBytes)):=(Rd.slice (e:=83) (z:=3) (by kernel_rfl) (by kernel_rfl) (by decide) (fun x=>QhI rfl) (QEK N)).map id (fun _=>rfl) fun _ _ h=>⟨(szL (P:=Tryz.prog) (t:=23) (e:=83) (by kernel_rfl) h).1,fun hz=>((szL (t:=23) (e:=83) (by kernel_rfl) h).2 hz).2⟩
theorem QEM {H:Type}{enc:TypeId×Value→H}{w:World}(N:Nat):Rd enc Tryz.prog w N 94 QBv (fun x d=>(okL okS) x∧(Sz Tryz.prog 94 d→x.length*16≤reachBytes)):=(Rd.slice (e:=9) (z:=1) (by kernel_rfl) (by kernel_rfl) (by decide) (fun x=>QhI rfl) (Quv N)).map id (fun _=>rfl) fun _ _ h=>QEd (t:=94) (e:=9) (by kernel_rfl) (by kernel_rfl) h
theorem QEN {H:Type}{enc:TypeId×Value→H}{w:World}(N:Nat):Rd enc Tryz.prog w N 96 Qr (fun x d=>Qm5 x∧(Sz Tryz.prog 96 d→x.Names.length*16≤reachBytes)):=by
 have h0:=(Rd.struct (fs:=[(9,0),(3,1),(3,2),(3,3),(94,4),(3,5),(3,6)]) (tot:=7) (N:=N) (t:=96) (P:=Tryz.prog) (w:=w) (enc:=enc) (by kernel_rfl) (RdF.cons 9 0 1 (by kernel_rfl) (Quv N) (RdF.cons 3 1 1 (by kernel_rfl) (Qdm N) (RdF.cons 3 2 1 (by kernel_rfl) (Qdm N) (RdF.cons 3 3 1 (by kernel_rfl) (Qdm N) (RdF.cons 94 4 1 (by kernel_rfl) (QEM N) (RdF.cons 3 5 1 (by kernel_rfl) (Qdm N) (RdF.cons 3 6 1 (by kernel_rfl) (Qdm N) RdF.nil))))))))
 exact(h0.map (fun x=>⟨x.1,x.2.1,x.2.2.1,x.2.2.2.1,x.2.2.2.2.1,x.2.2.2.2.2.1,x.2.2.2.2.2.2.1⟩) (fun _=>rfl) (fun x d h=>by obtain⟨_,rfl,h⟩:=h;obtain⟨_,_,rfl,a0,h⟩:=h;obtain⟨_,_,rfl,a1,h⟩:=h;obtain⟨_,_,rfl,a2,h⟩:=h;obtain⟨_,_,rfl,a3,h⟩:=h;obtain⟨_,_,rfl,a4,h⟩:=h;obtain⟨_,_,rfl,a5,h⟩:=h;obtain⟨_,_,rfl,a6,h⟩:=h;exact⟨⟨a0,a1,a2,a3,a4.1,a5,a6⟩,fun hz=>a4.2 (Sz.field Tryz.underlying96 hz (j:=4) rfl rfl)⟩)).mono (Qmm N)
theorem QEO {H:Type}{enc:TypeId×Value→H}{w:World}(N:Nat):Rd enc Tryz.prog w N 22 QtN (fun x d=>(okL Qm5) x∧(Sz Tryz.prog 22 d→∀p∈x,p.Names.length*16≤reachBytes)):=(Rd.slice (e:=96) (z:=7) (by kernel_rfl) (by kernel_rfl) (by decide) (fun x=>QhI rfl) (QEN N)).map id (fun _=>rfl) fun _ _ h=>⟨(szL (P:=Tryz.prog) (t:=22) (e:=96) (by kernel_rfl) h).1,fun hz=>((szL (t:=22) (e:=96) (by kernel_rfl) h).2 hz).2⟩
theorem QEP {H:Type}{enc:TypeId×Value→H}{w:World}(N:Nat):Rd enc Tryz.prog w N 26 Qd (fun x d=>QuK x∧(Sz Tryz.prog 26 d→(∀p∈x.Places,p.First.length*16≤reachBytes)∧(∀p∈x.Colours,p.Names.length*16≤reachBytes))):=by
 have h0:=(Rd.struct (fs:=[(22,0),(23,1),(24,2),(3,3),(3,4)]) (tot:=5) (N:=N) (t:=26) (P:=Tryz.prog) (w:=w) (enc:=enc) (by kernel_rfl) (RdF.cons 22 0 1 (by kernel_rfl) (QEO N) (RdF.cons 23 1 1 (by kernel_rfl) (QEL N) (RdF.cons 24 2 1 (by kernel_rfl) (QDz N) (RdF.cons 3 3 1 (by kernel_rfl) (Qdm N) (RdF.cons 3 4 1 (by kernel_rfl) (Qdm N) RdF.nil))))))
 exact(h0.map (fun x=>⟨x.1,x.2.1,x.2.2.1,x.2.2.2.1,x.2.2.2.2.1⟩) (fun _=>rfl) (fun x d h=>by obtain⟨_,rfl,h⟩:=h;obtain⟨_,_,rfl,a0,h⟩:=h;obtain⟨_,_,rfl,a1,h⟩:=h;obtain⟨_,_,rfl,a2,h⟩:=h;obtain⟨_,_,rfl,a3,h⟩:=h;obtain⟨_,_,rfl,a4,h⟩:=h;exact⟨⟨a0.1,a1.1,a2,a3,a4⟩,fun hz=>⟨a1.2 (Sz.field Tryz.underlying26 hz (j:=1) rfl rfl),a0.2 (Sz.field Tryz.underlying26 hz (j:=0) rfl rfl)⟩⟩)).mono (Qmm N)
def QsQ (x:Qj):Prop:=QuK x∧(∀p∈x.Places,p.First.length*16≤reachBytes)∧(∀p∈x.Colours,p.Names.length*16≤reachBytes)
namespace LawSpacePaths
theorem own : ownKnob Tryz.prog.godebug=none:=by kernel_rfl
theorem QDY : laidOutB Tryz.prog=true:=by kernel_rfl
theorem QDm : ∀t∈Tryz.f6.params.toList,Tryz.prog.readableRec t=true∧t<Tryz.prog.types.size:=by
 have h:(Tryz.f6.params.toList.all fun t=>Tryz.prog.readableRec t&&decide (t<Tryz.prog.types.size))=true:=by kernel_rfl
 intro t ht
 have:=Qah.1 h t ht
 rw [QE,QD]at this
 exact this
theorem QDn (os:Os)(args:Array Value):laidMetH Tryz.prog Rows.spacePathsRow.laid ((World.doorLaid Tryz.prog 33 os).forCall (fun _ _=>0) ⟨#[],args,[]⟩).memory:=
 laidMetH_of_parts3 (fuel:=8) (laidMet_of_run' 8 (by kernel_rfl) (by kernel_rfl)) (by kernel_rfl) (by kernel_rfl)
theorem QDo {W:World}(h:laidMetH Tryz.prog Rows.spacePathsRow.laid W):Qpb Tryz.prog (fun k=>k<W.heap.size) W:=
 Qy1 (r:=[]) (g:=0) (t:=273) (e:=5) 1 (by kernel_rfl) (by kernel_rfl) (by kernel_rfl) (by kernel_rfl) (by kernel_rfl) (by kernel_rfl) (by kernel_rfl) (by kernel_rfl) h
set_option maxRecDepth 100000 in
theorem QEQ (hF:∀(a0:Qj) (a1:Int) (a2:Int),QsQ a0→(okI .i64) a1→(okI .i64) a2→QeS a0 a1 a2=some true)(os:Os)(started:os.Started)(H:Type)(enc:TypeId×Value→H):
  ReturnsInHanded {} Tryz.checked os 6 .any (fun w args=>(Rows.spacePathsSpec.pre enc Tryz.prog Tryz.f6 Rows.spacePathsRow.domain false w args∧laidMetH Tryz.prog Rows.spacePathsRow.laid w)∧sizedMet enc Tryz.prog Tryz.f6 (OpenSpec.ofChange Rows.spacePathsSpec) false w args) (Rows.spacePathsSpec.post enc Tryz.prog Tryz.f6 false true false false):=by
 refine returnsInHanded_of_change_and (C:=Tryz.checked) (X:=fun w _=>laidMetH Tryz.prog Rows.spacePathsRow.laid w) (fun _ _ _ hh h=>h.of_heap hh) own started (by kernel_rfl) Tryz.func6
  (ChangeSpec.witness_shaped (enc:=enc) (C:=Tryz.checked) (os:=os) (X:=fun w _=>laidMetH Tryz.prog Rows.spacePathsRow.laid w) false (World.doorLaid Tryz.prog 33 os) #[.agg #[.slice none 0 0,.slice none 0 0,.slice none 0 0,.int .i64 0,.int .i64 0],.int .i64 0,.int .i64 0] 8 rfl (World.shaped_of_RefB (by kernel_rfl) (by kernel_rfl)) (by kernel_rfl) (by kernel_rfl) (by kernel_rfl) (QDn os _)) ?_
 intro W base args ds gs before hval0 hW hcnd hz hL _
 have hval:∀(j:Nat) t v,Tryz.f6.params[j]? = some t→args[j]? = some v→Value.okWide Tryz.prog W .any base t v:=hval0
 have hW1:=hW
 obtain⟨p,q,hA0,hV,_,_,_⟩:=hW
 obtain⟨rfl,_⟩:=trodVars_none hV
 have hA:DataW.TrodAll enc Tryz.prog W 0 (fun _=>true) true Tryz.f6.params.toList args.toList ds p:=hA0
 rw [Tryz.params6]at hA hval
 obtain⟨v0,vs0,d0,ds0,p0,q0,hargs,rfl,_,h0,r0⟩:=trodAll_cons hA
 obtain⟨v1,vs1,d1,ds1,p1,q1,rfl,rfl,_,h1,r1⟩:=trodAll_cons r0
 obtain⟨v2,vs2,d2,ds2,p2,q2,rfl,rfl,_,h2,r2⟩:=trodAll_cons r1
 obtain⟨rfl,rfl,_⟩:=trodAll_nil r2
 obtain rfl:args=#[v0,v1,v2]:=by cases args;simp_all
 obtain⟨a0,w0',c0⟩:=Rd.open (fun N=>QEP N) h0
 have w0:QsQ a0:=⟨w0'.1,w0'.2 (Sz.all hz (j:=0) (by kernel_rfl) rfl)⟩
 obtain⟨_,rfl⟩:=QCD (P:=Tryz.prog) (t:=26) (fs:=[(22,0),(23,1),(24,2),(3,3),(3,4)]) (tot:=5) (by kernel_rfl) (hval 0 26 v0 rfl rfl)
 have e0:=c0.argS
 obtain⟨a1,w1,c1⟩:=Rd.open (fun N=>Qdm N) h1
 obtain⟨_,rfl⟩:=okWide_int Tryz.underlying3 (hval 1 3 v1 rfl rfl)
 have e1:=(Cl.arg1 rfl c1)
 obtain⟨a2,w2,c2⟩:=Rd.open (fun N=>Qdm N) h2
 obtain⟨_,rfl⟩:=okWide_int Tryz.underlying3 (hval 2 3 v2 rfl rfl)
 have e2:=(Cl.arg1 rfl c2)
 refine(Qc.law (us:=[.agg (Qd a0),.i .i64 a1,.i .i64 a2]) (QrN a0 a1 a2 (hF a0 a1 a2 w0 w1 w2)) (QDo hL) rfl (fun j x v hx hv=>?_)).mono fun e W2 ⟨he,hb⟩=>?_
 ·match j with
  | 0=>cases hx;cases hv;exact e0
  | 1=>cases hx;cases hv;exact e1
  | 2=>cases hx;cases hv;exact e2
  | j+3=>simp at hx
 subst he
 exact⟨_,rfl,QCE QDY QDm hW1 rfl hb rfl Tryz.underlying4 rfl rfl rfl⟩
theorem proved_of (hF:∀(a0:Qj) (a1:Int) (a2:Int),QsQ a0→(okI .i64) a1→(okI .i64) a2→QeS a0 a1 a2=some true):Rows.SpacePathsSaid:=
 OpenClaim.holds_of_wide 6 Tryz.f6 rfl rfl rfl rfl rfl rfl rfl ⟨rfl,rfl,rfl,rfl,rfl⟩ rfl rfl rfl rfl rfl (by kernel_rfl) Tryz.func6 (by kernel_rfl)
  (Q9 (by kernel_rfl)) (by unfold Func.isWrapper;first | (rw [if_pos (by decide +kernel)];kernel_rfl) | (rw [if_neg (by decide +kernel)];exact⟨rfl,rfl⟩))
  (fun os started H enc _=>QEQ hF os started H enc)
theorem card_of (hs:Rows.SpacePathsSaid):Rows.SpacePathsCardSaid:=
 Claim7.holds_tied_plain_at .later [] [.listed,.data] true (true, "ef3e97953ec7da941344858f2ca7530661a1e378e8c85be78fef1fcae4c06c59") false
  hs (fun _ h=>by cases h) (by kernel_rfl) (fun _ h=>by cases h) spacePaths_row_tie rfl ⟨rfl,rfl⟩ (by kernel_rfl) rfl
  (fun f fn hf hfn=>by
   obtain rfl:f=6:=Option.some.inj ((show Tryz.prog.funcNamed "baldric/baldriclaw15.SpacePaths" = some 6 by kernel_rfl).symm.trans hf) |>.symm
   obtain rfl:fn=Tryz.f6:=(Option.some.inj (Tryz.func6.symm.trans hfn)).symm
   exact⟨by kernel_rfl,fun j t ht=>by
    rw [Tryz.params6]at ht
    have hm:t∈[26,3,3]:=by simpa using Array.mem_of_getElem? ht
    have hall:([26,3,3].all fun u=>!Tryz.prog.wantsStandIn u)=true:=by kernel_rfl
    exact(show Tryz.prog.wantsStandIn t=false by simpa using Qah.1 hall t hm)⟩)
  (by kernel_rfl)
end LawSpacePaths
theorem kE {e:Qo}(h:Ql7 e):Qds e:=by
 induction h with
 | mk x _ _ h1 _ ih=>exact .mk x h1 ih
theorem kL {α:Type}{p q:α→Prop}(f:∀x,p x→q x){l:List α}(h:okL p l):QP q l:=⟨h.1,fun x hx=>f x (h.2 x hx)⟩
theorem kA {a:Qaw}(h:Qr0 a):Qkk a:=⟨trivial,kE h.2⟩
theorem QFD {n:Qj}(h:QuK n):QW n:=
 ⟨kL (fun c hc=>⟨hc.1,trivial,trivial,trivial,kL (fun s hs=>hs) hc.2.2.2.2.1,trivial,trivial⟩) h.1,kL (fun p hp=>⟨hp.1,trivial,kL (fun _ _=>trivial) hp.2.2⟩) h.2.1,
  kL (fun t ht=>⟨ht.1,kL (fun v hv=>⟨hv.1,trivial⟩) ht.2.1,kE ht.2.2.1,trivial,trivial,kL (fun _ h=>kA h) ht.2.2.2.2.2.1,kL (fun _ h=>kA h) ht.2.2.2.2.2.2.1,kL (fun _ _=>trivial) ht.2.2.2.2.2.2.2.1,trivial,trivial⟩) h.2.2.1,trivial,trivial⟩
theorem QFE {n:Qj}(h:QsQ n):Rch n:=⟨h.2.1,h.2.2⟩
theorem proved : Rows.SpacePathsCardSaid:=LawSpacePaths.card_of (LawSpacePaths.proved_of fun a0 a1 a2 h0 _ _=>QzJ a0 a1 a2 (QFD h0.1) (QFE h0))

end Go.Proofs.YtidpjdkldadlpaaGreatDoor
