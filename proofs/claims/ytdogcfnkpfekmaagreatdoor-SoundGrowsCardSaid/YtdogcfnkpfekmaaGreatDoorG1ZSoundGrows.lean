/- SoundGrows, as it is given: of any net and numbers it answers true, with no condition but what its row asks of all calls. -/
import Derived.Test.YtdogcfnkpfekmaaGreatDoorG1P3
import Derived.Test.YtdogcfnkpfekmaaGreatDoorG1T2
import Derived.Test.YtdogcfnkpfekmaaGreatDoorG1V3
import Derived.Test.YtdogcfnkpfekmaaGreatDoorRows
import Derived.Test.YtdogcfnkpfekmaaGreatDoorTie
import Derived.Test.YtdogcfnkpfekmaaGreatDoorCards
import Derived.SevenTiedAt
import Derived.WalkKit
import Derived.ProofKit
import Derived.OpenShut
set_option linter.all false
noncomputable section
namespace Go.Proofs.YtdogcfnkpfekmaaGreatDoor
open Go Go.RowKit Go.Vm Go.ChangeShapes Go.WideShapes Go.ChangeAt
theorem QcC {H:Type}{enc:TypeId×Value->H}{w:World}(N:Nat):Rd enc Tryz.prog w N 9 DR (λx _=>okS x):=(Rd.string (by kernel_rfl)).map id (λ_=>rfl) λ_ _ h=>h.1
theorem WF {H:Type}{enc:TypeId×Value->H}{w:World}(N:Nat):Rd enc Tryz.prog w N 3 Qb (λx _=>(Uz .i64) x):=(Rd.int (by kernel_rfl)).map id (λ_=>rfl) λ_ _ h=>QnR h
theorem QoU {H:Type}{enc:TypeId×Value->H}{w:World}(N:Nat):Rd enc Tryz.prog w N 88 QkR (λx _=>(CD okS) x):=(Rd.slice (e:=9) (z:=1) (by kernel_rfl) (by kernel_rfl) (by decide) (λx=>Bk rfl) (QcC N)).map id (λ_=>rfl) λ_ _ h=>Lf h
def NT (x:QI):Prop:=okS x.Name/\(Uz .i64) x.Kind/\(Uz .i64) x.Lo/\(Uz .i64) x.Hi/\(CD okS) x.Names/\(Uz .i64) x.First/\(Uz .i64) x.Then
theorem QoV {H:Type}{enc:TypeId×Value->H}{w:World}(N:Nat):Rd enc Tryz.prog w N 90 Qr (λx _=>NT x):=by
 have h0:=(Rd.struct (fs:=[(9,0),(3,1),(3,2),(3,3),(88,4),(3,5),(3,6)]) (tot:=7) (N:=N) (t:=90) (P:=Tryz.prog) (w:=w) (enc:=enc) (by kernel_rfl) (Yy.cons 9 0 1 (by kernel_rfl) (QcC N) (Yy.cons 3 1 1 (by kernel_rfl) (WF N) (Yy.cons 3 2 1 (by kernel_rfl) (WF N) (Yy.cons 3 3 1 (by kernel_rfl) (WF N) (Yy.cons 88 4 1 (by kernel_rfl) (QoU N) (Yy.cons 3 5 1 (by kernel_rfl) (WF N) (Yy.cons 3 6 1 (by kernel_rfl) (WF N) Yy.nil))))))))
 exact(h0.map (λx=>⟨x.1,x.2.1,x.2.2.1,x.2.2.2.1,x.2.2.2.2.1,x.2.2.2.2.2.1,x.2.2.2.2.2.2.1⟩) (λ_=>rfl) (λx d h=>by obtain⟨_,rfl,h⟩:=h;obtain⟨_,_,rfl,a0,h⟩:=h;obtain⟨_,_,rfl,a1,h⟩:=h;obtain⟨_,_,rfl,a2,h⟩:=h;obtain⟨_,_,rfl,a3,h⟩:=h;obtain⟨_,_,rfl,a4,h⟩:=h;obtain⟨_,_,rfl,a5,h⟩:=h;obtain⟨_,_,rfl,a6,h⟩:=h;exact⟨a0,a1,a2,a3,a4,a5,a6⟩)).mono (MK N)
theorem QoW {H:Type}{enc:TypeId×Value->H}{w:World}(N:Nat):Rd enc Tryz.prog w N 22 QbH (λx _=>(CD NT) x):=(Rd.slice (e:=90) (z:=7) (by kernel_rfl) (by kernel_rfl) (by decide) (λx=>Bk rfl) (QoV N)).map id (λ_=>rfl) λ_ _ h=>Lf h
def QfZ (x:(Int×Int)):Prop:=(Uz .i64) x.1/\(Uz .i64) x.2
theorem Qm7 {H:Type}{enc:TypeId×Value->H}{w:World}(N:Nat):Rd enc Tryz.prog w N 74 QT (λx _=>QfZ x):=by
 have h0:=(Rd.array (e:=3) (n:=2) (tot:=2) (fs:=[(3,0),(3,1)]) (N:=N) (t:=74) (P:=Tryz.prog) (w:=w) (enc:=enc) (by kernel_rfl) (Yy.cons 3 0 1 (by kernel_rfl) (WF N) (Yy.cons 3 1 1 (by kernel_rfl) (WF N) Yy.nil)))
 exact(h0.map (λx=>⟨x.1,x.2.1⟩) (λ_=>rfl) (λx d h=>by obtain⟨_,rfl,h⟩:=h;obtain⟨_,_,rfl,a0,h⟩:=h;obtain⟨_,_,rfl,a1,h⟩:=h;exact⟨a0,a1⟩)).mono (MK N)
theorem QoX {H:Type}{enc:TypeId×Value->H}{w:World}(N:Nat):Rd enc Tryz.prog w N 70 Qh (λx _=>(CD QfZ) x):=(Rd.slice (e:=74) (z:=2) (by kernel_rfl) (by kernel_rfl) (by decide) (λx=>Bk rfl) (Qm7 N)).map id (λ_=>rfl) λ_ _ h=>Lf h
def Pu (x:QM):Prop:=okS x.Name/\(Uz .i64) x.Colour/\(CD QfZ) x.First
theorem QoY {H:Type}{enc:TypeId×Value->H}{w:World}(N:Nat):Rd enc Tryz.prog w N 72 Qp (λx _=>Pu x):=by
 have h0:=(Rd.struct (fs:=[(9,0),(3,1),(70,2)]) (tot:=3) (N:=N) (t:=72) (P:=Tryz.prog) (w:=w) (enc:=enc) (by kernel_rfl) (Yy.cons 9 0 1 (by kernel_rfl) (QcC N) (Yy.cons 3 1 1 (by kernel_rfl) (WF N) (Yy.cons 70 2 1 (by kernel_rfl) (QoX N) Yy.nil))))
 exact(h0.map (λx=>⟨x.1,x.2.1,x.2.2.1⟩) (λ_=>rfl) (λx d h=>by obtain⟨_,rfl,h⟩:=h;obtain⟨_,_,rfl,a0,h⟩:=h;obtain⟨_,_,rfl,a1,h⟩:=h;obtain⟨_,_,rfl,a2,h⟩:=h;exact⟨a0,a1,a2⟩)).mono (MK N)
theorem QoZ {H:Type}{enc:TypeId×Value->H}{w:World}(N:Nat):Rd enc Tryz.prog w N 23 QdI (λx _=>(CD Pu) x):=(Rd.slice (e:=72) (z:=3) (by kernel_rfl) (by kernel_rfl) (by decide) (λx=>Bk rfl) (QoY N)).map id (λ_=>rfl) λ_ _ h=>Lf h
def QgQ (x:YI):Prop:=okS x.Name/\(Uz .i64) x.Colour
theorem Qok {H:Type}{enc:TypeId×Value->H}{w:World}(N:Nat):Rd enc Tryz.prog w N 103 Xe (λx _=>QgQ x):=by
 have h0:=(Rd.struct (fs:=[(9,0),(3,1)]) (tot:=2) (N:=N) (t:=103) (P:=Tryz.prog) (w:=w) (enc:=enc) (by kernel_rfl) (Yy.cons 9 0 1 (by kernel_rfl) (QcC N) (Yy.cons 3 1 1 (by kernel_rfl) (WF N) Yy.nil)))
 exact(h0.map (λx=>⟨x.1,x.2.1⟩) (λ_=>rfl) (λx d h=>by obtain⟨_,rfl,h⟩:=h;obtain⟨_,_,rfl,a0,h⟩:=h;obtain⟨_,_,rfl,a1,h⟩:=h;exact⟨a0,a1⟩)).mono (MK N)
theorem Qo0 {H:Type}{enc:TypeId×Value->H}{w:World}(N:Nat):Rd enc Tryz.prog w N 94 Kf (λx _=>(CD QgQ) x):=(Rd.slice (e:=103) (z:=2) (by kernel_rfl) (by kernel_rfl) (by decide) (λx=>Bk rfl) (Qok N)).map id (λ_=>rfl) λ_ _ h=>Lf h
theorem Qf0 (x:Ql):Qs x=[.i .i64 x.Kind,.i .i64 x.Num,.sl 3 (Yi x.Kids)]:=by cases x;rw[Qs]
inductive Mz : Ql->Prop where
 | mk (x:Ql):(Uz .i64) x.Kind->(Uz .i64) x.Num->x.Kids.length<=maxLen->(∀k∈x.Kids,Mz k)->Mz x
theorem Qm8 {H:Type}{enc:TypeId×Value->H}{w:World}(N:Nat):Rd enc Tryz.prog w N 87 Qs (λx _=>Mz x):=by
 induction N with
 | zero=>exact Rd.zero
 | succ N ih=>
  have h0:=(Rd.struct (fs:=[(3,0),(3,1),(85,2)]) (tot:=3) (N:=N) (t:=87) (P:=Tryz.prog) (w:=w) (enc:=enc) (by kernel_rfl) (Yy.cons 3 0 1 (by kernel_rfl) (WF N) (Yy.cons 3 1 1 (by kernel_rfl) (WF N) (Yy.cons 85 2 1 (by kernel_rfl) (Rd.slice (e:=87) (z:=3) (by kernel_rfl) (by kernel_rfl) (by decide) (λx=>Bk (by cases x;rfl)) ih) Yy.nil))))
  exact h0.map (λx=>⟨x.1,x.2.1,x.2.2.1⟩) (λx=>by simp only[Qs];rw[HO];rfl) (λx d h=>by obtain⟨_,rfl,h⟩:=h;obtain⟨_,_,rfl,a0,h⟩:=h;obtain⟨_,_,rfl,a1,h⟩:=h;obtain⟨_,_,rfl,a2,h⟩:=h;exact Mz.mk _ a0 a1 (Lf a2).1 (Lf a2).2)
def ZC (x:Xo):Prop:=(Uz .i64) x.Place/\Mz x.Expr
theorem Qo1 {H:Type}{enc:TypeId×Value->H}{w:World}(N:Nat):Rd enc Tryz.prog w N 92 Xf (λx _=>ZC x):=by
 have h0:=(Rd.struct (fs:=[(3,0),(87,1)]) (tot:=4) (N:=N) (t:=92) (P:=Tryz.prog) (w:=w) (enc:=enc) (by kernel_rfl) (Yy.cons 3 0 1 (by kernel_rfl) (WF N) (Yy.cons 87 1 3 (by kernel_rfl) (Qm8 N) Yy.nil)))
 exact(h0.map (λx=>⟨x.1,x.2.1⟩) (λx=>by rw[Qf0];rfl) (λx d h=>by obtain⟨_,rfl,h⟩:=h;obtain⟨_,_,rfl,a0,h⟩:=h;obtain⟨_,_,rfl,a1,h⟩:=h;exact⟨a0,a1⟩)).mono (MK N)
theorem Qm9 {H:Type}{enc:TypeId×Value->H}{w:World}(N:Nat):Rd enc Tryz.prog w N 93 QkS (λx _=>(CD ZC) x):=(Rd.slice (e:=92) (z:=4) (by kernel_rfl) (by kernel_rfl) (by decide) (λx=>Bk rfl) (Qo1 N)).map id (λ_=>rfl) λ_ _ h=>Lf h
theorem Qo2 {H:Type}{enc:TypeId×Value->H}{w:World}(N:Nat):Rd enc Tryz.prog w N 37 QQ (λx _=>(CD (Uz .i64)) x):=(Rd.slice (e:=3) (z:=1) (by kernel_rfl) (by kernel_rfl) (by decide) (λx=>Bk rfl) (WF N)).map id (λ_=>rfl) λ_ _ h=>Lf h
def QlO (x:(Int×Int×Int)):Prop:=(Uz .i64) x.1/\(Uz .i64) x.2.1/\(Uz .i64) x.2.2
theorem Qo3 {H:Type}{enc:TypeId×Value->H}{w:World}(N:Nat):Rd enc Tryz.prog w N 95 Qgg (λx _=>QlO x):=by
 have h0:=(Rd.array (e:=3) (n:=3) (tot:=3) (fs:=[(3,0),(3,1),(3,2)]) (N:=N) (t:=95) (P:=Tryz.prog) (w:=w) (enc:=enc) (by kernel_rfl) (Yy.cons 3 0 1 (by kernel_rfl) (WF N) (Yy.cons 3 1 1 (by kernel_rfl) (WF N) (Yy.cons 3 2 1 (by kernel_rfl) (WF N) Yy.nil))))
 exact(h0.map (λx=>⟨x.1,x.2.1,x.2.2.1⟩) (λ_=>rfl) (λx d h=>by obtain⟨_,rfl,h⟩:=h;obtain⟨_,_,rfl,a0,h⟩:=h;obtain⟨_,_,rfl,a1,h⟩:=h;obtain⟨_,_,rfl,a2,h⟩:=h;exact⟨a0,a1,a2⟩)).mono (MK N)
def QeK (x:QG):Prop:=okS x.Name/\(CD QgQ) x.Vars/\Mz x.Guard/\(Uz .i64) x.Join/\(Uz .i64) x.Split/\(CD ZC) x.Ins/\(CD ZC) x.Outs/\(CD (Uz .i64)) x.Cancel/\(Uz .i64) x.After/\QlO x.Many
theorem Qo4 {H:Type}{enc:TypeId×Value->H}{w:World}(N:Nat):Rd enc Tryz.prog w N 97 Qg (λx _=>QeK x):=by
 have h0:=(Rd.struct (fs:=[(9,0),(94,1),(87,2),(3,5),(3,6),(93,7),(93,8),(37,9),(3,10),(95,11)]) (tot:=14) (N:=N) (t:=97) (P:=Tryz.prog) (w:=w) (enc:=enc) (by kernel_rfl) (Yy.cons 9 0 1 (by kernel_rfl) (QcC N) (Yy.cons 94 1 1 (by kernel_rfl) (Qo0 N) (Yy.cons 87 2 3 (by kernel_rfl) (Qm8 N) (Yy.cons 3 5 1 (by kernel_rfl) (WF N) (Yy.cons 3 6 1 (by kernel_rfl) (WF N) (Yy.cons 93 7 1 (by kernel_rfl) (Qm9 N) (Yy.cons 93 8 1 (by kernel_rfl) (Qm9 N) (Yy.cons 37 9 1 (by kernel_rfl) (Qo2 N) (Yy.cons 3 10 1 (by kernel_rfl) (WF N) (Yy.cons 95 11 3 (by kernel_rfl) (Qo3 N) Yy.nil)))))))))))
 exact(h0.map (λx=>⟨x.1,x.2.1,x.2.2.1,x.2.2.2.1,x.2.2.2.2.1,x.2.2.2.2.2.1,x.2.2.2.2.2.2.1,x.2.2.2.2.2.2.2.1,x.2.2.2.2.2.2.2.2.1,x.2.2.2.2.2.2.2.2.2.1⟩) (λx=>by rw[Qf0];rfl) (λx d h=>by obtain⟨_,rfl,h⟩:=h;obtain⟨_,_,rfl,a0,h⟩:=h;obtain⟨_,_,rfl,a1,h⟩:=h;obtain⟨_,_,rfl,a2,h⟩:=h;obtain⟨_,_,rfl,a3,h⟩:=h;obtain⟨_,_,rfl,a4,h⟩:=h;obtain⟨_,_,rfl,a5,h⟩:=h;obtain⟨_,_,rfl,a6,h⟩:=h;obtain⟨_,_,rfl,a7,h⟩:=h;obtain⟨_,_,rfl,a8,h⟩:=h;obtain⟨_,_,rfl,a9,h⟩:=h;exact⟨a0,a1,a2,a3,a4,a5,a6,a7,a8,a9⟩)).mono (MK N)
theorem Qna {H:Type}{enc:TypeId×Value->H}{w:World}(N:Nat):Rd enc Tryz.prog w N 24 QjK (λx _=>(CD QeK) x):=(Rd.slice (e:=97) (z:=14) (by kernel_rfl) (by kernel_rfl) (by decide) (λx=>Bk rfl) (Qo4 N)).map id (λ_=>rfl) λ_ _ h=>Lf h
def QcS (x:Qe):Prop:=(CD NT) x.Colours/\(CD Pu) x.Places/\(CD QeK) x.Tasks/\(Uz .i64) x.From/\(Uz .i64) x.To
theorem Qpl {H:Type}{enc:TypeId×Value->H}{w:World}(N:Nat):Rd enc Tryz.prog w N 26 Qa (λx _=>QcS x):=by
 have h0:=(Rd.struct (fs:=[(22,0),(23,1),(24,2),(3,3),(3,4)]) (tot:=5) (N:=N) (t:=26) (P:=Tryz.prog) (w:=w) (enc:=enc) (by kernel_rfl) (Yy.cons 22 0 1 (by kernel_rfl) (QoW N) (Yy.cons 23 1 1 (by kernel_rfl) (QoZ N) (Yy.cons 24 2 1 (by kernel_rfl) (Qna N) (Yy.cons 3 3 1 (by kernel_rfl) (WF N) (Yy.cons 3 4 1 (by kernel_rfl) (WF N) Yy.nil))))))
 exact(h0.map (λx=>⟨x.1,x.2.1,x.2.2.1,x.2.2.2.1,x.2.2.2.2.1⟩) (λ_=>rfl) (λx d h=>by obtain⟨_,rfl,h⟩:=h;obtain⟨_,_,rfl,a0,h⟩:=h;obtain⟨_,_,rfl,a1,h⟩:=h;obtain⟨_,_,rfl,a2,h⟩:=h;obtain⟨_,_,rfl,a3,h⟩:=h;obtain⟨_,_,rfl,a4,h⟩:=h;exact⟨a0,a1,a2,a3,a4⟩)).mono (MK N)
theorem Qol {H:Type}{enc:TypeId×Value->H}{w:World}(N:Nat):Rd enc Tryz.prog w N 70 Qh (λx d=>(CD QfZ) x/\(Sz Tryz.prog 70 d->x.length*16<=reachBytes)):=(Rd.slice (e:=74) (z:=2) (by kernel_rfl) (by kernel_rfl) (by decide) (λx=>Bk rfl) (Qm7 N)).map id (λ_=>rfl) λ_ _ h=>QnS (t:=70) (e:=74) (by kernel_rfl) (by kernel_rfl) h
theorem Qom {H:Type}{enc:TypeId×Value->H}{w:World}(N:Nat):Rd enc Tryz.prog w N 72 Qp (λx d=>Pu x/\(Sz Tryz.prog 72 d->x.First.length*16<=reachBytes)):=by
 have h0:=(Rd.struct (fs:=[(9,0),(3,1),(70,2)]) (tot:=3) (N:=N) (t:=72) (P:=Tryz.prog) (w:=w) (enc:=enc) (by kernel_rfl) (Yy.cons 9 0 1 (by kernel_rfl) (QcC N) (Yy.cons 3 1 1 (by kernel_rfl) (WF N) (Yy.cons 70 2 1 (by kernel_rfl) (Qol N) Yy.nil))))
 exact(h0.map (λx=>⟨x.1,x.2.1,x.2.2.1⟩) (λ_=>rfl) (λx d h=>by obtain⟨_,rfl,h⟩:=h;obtain⟨_,_,rfl,a0,h⟩:=h;obtain⟨_,_,rfl,a1,h⟩:=h;obtain⟨_,_,rfl,a2,h⟩:=h;exact⟨⟨a0,a1,a2.1⟩,λhz=>a2.2 (Sz.field Tryz.underlying72 hz (j:=2) rfl rfl)⟩)).mono (MK N)
theorem Qon {H:Type}{enc:TypeId×Value->H}{w:World}(N:Nat):Rd enc Tryz.prog w N 23 QdI (λx d=>(CD Pu) x/\(Sz Tryz.prog 23 d->∀p∈x,p.First.length*16<=reachBytes)):=(Rd.slice (e:=72) (z:=3) (by kernel_rfl) (by kernel_rfl) (by decide) (λx=>Bk rfl) (Qom N)).map id (λ_=>rfl) λ_ _ h=>⟨(szL (P:=Tryz.prog) (t:=23) (e:=72) (by kernel_rfl) h).1,λhz=>((szL (t:=23) (e:=72) (by kernel_rfl) h).2 hz).2⟩
theorem Qoo {H:Type}{enc:TypeId×Value->H}{w:World}(N:Nat):Rd enc Tryz.prog w N 88 QkR (λx d=>(CD okS) x/\(Sz Tryz.prog 88 d->x.length*16<=reachBytes)):=(Rd.slice (e:=9) (z:=1) (by kernel_rfl) (by kernel_rfl) (by decide) (λx=>Bk rfl) (QcC N)).map id (λ_=>rfl) λ_ _ h=>QnS (t:=88) (e:=9) (by kernel_rfl) (by kernel_rfl) h
theorem Qop {H:Type}{enc:TypeId×Value->H}{w:World}(N:Nat):Rd enc Tryz.prog w N 90 Qr (λx d=>NT x/\(Sz Tryz.prog 90 d->x.Names.length*16<=reachBytes)):=by
 have h0:=(Rd.struct (fs:=[(9,0),(3,1),(3,2),(3,3),(88,4),(3,5),(3,6)]) (tot:=7) (N:=N) (t:=90) (P:=Tryz.prog) (w:=w) (enc:=enc) (by kernel_rfl) (Yy.cons 9 0 1 (by kernel_rfl) (QcC N) (Yy.cons 3 1 1 (by kernel_rfl) (WF N) (Yy.cons 3 2 1 (by kernel_rfl) (WF N) (Yy.cons 3 3 1 (by kernel_rfl) (WF N) (Yy.cons 88 4 1 (by kernel_rfl) (Qoo N) (Yy.cons 3 5 1 (by kernel_rfl) (WF N) (Yy.cons 3 6 1 (by kernel_rfl) (WF N) Yy.nil))))))))
 exact(h0.map (λx=>⟨x.1,x.2.1,x.2.2.1,x.2.2.2.1,x.2.2.2.2.1,x.2.2.2.2.2.1,x.2.2.2.2.2.2.1⟩) (λ_=>rfl) (λx d h=>by obtain⟨_,rfl,h⟩:=h;obtain⟨_,_,rfl,a0,h⟩:=h;obtain⟨_,_,rfl,a1,h⟩:=h;obtain⟨_,_,rfl,a2,h⟩:=h;obtain⟨_,_,rfl,a3,h⟩:=h;obtain⟨_,_,rfl,a4,h⟩:=h;obtain⟨_,_,rfl,a5,h⟩:=h;obtain⟨_,_,rfl,a6,h⟩:=h;exact⟨⟨a0,a1,a2,a3,a4.1,a5,a6⟩,λhz=>a4.2 (Sz.field Tryz.underlying90 hz (j:=4) rfl rfl)⟩)).mono (MK N)
theorem Qoq {H:Type}{enc:TypeId×Value->H}{w:World}(N:Nat):Rd enc Tryz.prog w N 22 QbH (λx d=>(CD NT) x/\(Sz Tryz.prog 22 d->∀p∈x,p.Names.length*16<=reachBytes)):=(Rd.slice (e:=90) (z:=7) (by kernel_rfl) (by kernel_rfl) (by decide) (λx=>Bk rfl) (Qop N)).map id (λ_=>rfl) λ_ _ h=>⟨(szL (P:=Tryz.prog) (t:=22) (e:=90) (by kernel_rfl) h).1,λhz=>((szL (t:=22) (e:=90) (by kernel_rfl) h).2 hz).2⟩
theorem Qor {H:Type}{enc:TypeId×Value->H}{w:World}(N:Nat):Rd enc Tryz.prog w N 26 Qa (λx d=>QcS x/\(Sz Tryz.prog 26 d->(∀p∈x.Places,p.First.length*16<=reachBytes)/\(∀p∈x.Colours,p.Names.length*16<=reachBytes))):=by
 have h0:=(Rd.struct (fs:=[(22,0),(23,1),(24,2),(3,3),(3,4)]) (tot:=5) (N:=N) (t:=26) (P:=Tryz.prog) (w:=w) (enc:=enc) (by kernel_rfl) (Yy.cons 22 0 1 (by kernel_rfl) (Qoq N) (Yy.cons 23 1 1 (by kernel_rfl) (Qon N) (Yy.cons 24 2 1 (by kernel_rfl) (Qna N) (Yy.cons 3 3 1 (by kernel_rfl) (WF N) (Yy.cons 3 4 1 (by kernel_rfl) (WF N) Yy.nil))))))
 exact(h0.map (λx=>⟨x.1,x.2.1,x.2.2.1,x.2.2.2.1,x.2.2.2.2.1⟩) (λ_=>rfl) (λx d h=>by obtain⟨_,rfl,h⟩:=h;obtain⟨_,_,rfl,a0,h⟩:=h;obtain⟨_,_,rfl,a1,h⟩:=h;obtain⟨_,_,rfl,a2,h⟩:=h;obtain⟨_,_,rfl,a3,h⟩:=h;obtain⟨_,_,rfl,a4,h⟩:=h;exact⟨⟨a0.1,a1.1,a2,a3,a4⟩,λhz=>⟨a1.2 (Sz.field Tryz.underlying26 hz (j:=1) rfl rfl),a0.2 (Sz.field Tryz.underlying26 hz (j:=0) rfl rfl)⟩⟩)).mono (MK N)
def QaI (x:Qe):Prop:=QcS x/\(∀p∈x.Places,p.First.length*16<=reachBytes)/\(∀p∈x.Colours,p.Names.length*16<=reachBytes)
namespace LawSoundGrows
theorem own : ownKnob Tryz.prog.godebug=none:=by kernel_rfl
theorem QnE : laidOutB Tryz.prog=true:=by kernel_rfl
theorem QmW : ∀t∈Tryz.f4.params.toList,Tryz.prog.readableRec t=true/\t<Tryz.prog.types.size:=by
 have h:(Tryz.f4.params.toList.all λt=>Tryz.prog.readableRec t&&decide (t<Tryz.prog.types.size))=true:=by kernel_rfl
 intro t ht
 have:=Xz.1 h t ht
 rw[QH,QK]at this
 exact this
theorem QmX (os:Os)(args:Array Value):laidMetH Tryz.prog Rows.soundGrowsRow.laid ((World.doorLaid Tryz.prog 33 os).forCall (λ_ _=>0) ⟨#[],args,[]⟩).memory:=
 laidMetH_of_parts3 (fuel:=8) (laidMet_of_run' 8 (by kernel_rfl) (by kernel_rfl)) (by kernel_rfl) (by kernel_rfl)
theorem QmY {W:World}(h:laidMetH Tryz.prog Rows.soundGrowsRow.laid W):Pv Tryz.prog (λk=>k<W.heap.size) W:=
 Qif (r:=[]) (g:=0) (t:=308) (e:=5) 1 (by kernel_rfl) (by kernel_rfl) (by kernel_rfl) (by kernel_rfl) (by kernel_rfl) (by kernel_rfl) (by kernel_rfl) (by kernel_rfl) h
set_option maxRecDepth 100000 in
theorem Qos (hF:∀(a0:Qe) (a1:Int) (a2:Int) (a3:Int),QaI a0->(Uz .i64) a1->(Uz .i64) a2->(Uz .i64) a3->GD a0 a1 a2 a3=some true)(os:Os)(started:os.Started)(H:Type)(enc:TypeId×Value->H):
  ReturnsInHanded {} Tryz.checked os 4 .any (λw args=>(Rows.soundGrowsSpec.pre enc Tryz.prog Tryz.f4 Rows.soundGrowsRow.domain false w args/\laidMetH Tryz.prog Rows.soundGrowsRow.laid w)/\sizedMet enc Tryz.prog Tryz.f4 (OpenSpec.ofChange Rows.soundGrowsSpec) false w args) (Rows.soundGrowsSpec.post enc Tryz.prog Tryz.f4 false true false false):=by
 refine returnsInHanded_of_change_and (C:=Tryz.checked) (X:=λw _=>laidMetH Tryz.prog Rows.soundGrowsRow.laid w) (λ_ _ _ hh h=>h.of_heap hh) own started (by kernel_rfl) Tryz.func4
  (ChangeSpec.witness_shaped (enc:=enc) (C:=Tryz.checked) (os:=os) (X:=λw _=>laidMetH Tryz.prog Rows.soundGrowsRow.laid w) false (World.doorLaid Tryz.prog 33 os) #[.agg #[.slice none 0 0,.slice none 0 0,.slice none 0 0,.int .i64 0,.int .i64 0],.int .i64 0,.int .i64 0,.int .i64 0] 8 rfl (World.shaped_of_RefB (by kernel_rfl) (by kernel_rfl)) (by kernel_rfl) (by kernel_rfl) (by kernel_rfl) (QmX os _)) ?_
 intro W base args ds gs before hval0 hW hcnd hz hL _
 have hval:∀(j:Nat) t v,Tryz.f4.params[j]? = some t->args[j]? = some v->Value.okWide Tryz.prog W .any base t v:=hval0
 have hW1:=hW
 obtain⟨p,q,hA0,hV,_,_,_⟩:=hW
 obtain⟨rfl,_⟩:=trodVars_none hV
 have hA:DataW.TrodAll enc Tryz.prog W 0 (λ_=>true) true Tryz.f4.params.toList args.toList ds p:=hA0
 rw[Tryz.params4]at hA hval
 obtain⟨v0,vs0,d0,ds0,p0,q0,hargs,rfl,_,h0,r0⟩:=trodAll_cons hA
 obtain⟨v1,vs1,d1,ds1,p1,q1,rfl,rfl,_,h1,r1⟩:=trodAll_cons r0
 obtain⟨v2,vs2,d2,ds2,p2,q2,rfl,rfl,_,h2,r2⟩:=trodAll_cons r1
 obtain⟨v3,vs3,d3,ds3,p3,q3,rfl,rfl,_,h3,r3⟩:=trodAll_cons r2
 obtain⟨rfl,rfl,_⟩:=trodAll_nil r3
 obtain rfl:args=#[v0,v1,v2,v3]:=by cases args;simp_all
 obtain⟨a0,w0',c0⟩:=Rd.open (λN=>Qor N) h0
 have w0:QaI a0:=⟨w0'.1,w0'.2 (Sz.all hz (j:=0) (by kernel_rfl) rfl)⟩
 obtain⟨_,rfl⟩:=Ql6 (P:=Tryz.prog) (t:=26) (fs:=[(22,0),(23,1),(24,2),(3,3),(3,4)]) (tot:=5) (by kernel_rfl) (hval 0 26 v0 rfl rfl)
 have e0:=c0.argS
 obtain⟨a1,w1,c1⟩:=Rd.open (λN=>WF N) h1
 obtain⟨_,rfl⟩:=okWide_int Tryz.underlying3 (hval 1 3 v1 rfl rfl)
 have e1:=(Cl.arg1 rfl c1)
 obtain⟨a2,w2,c2⟩:=Rd.open (λN=>WF N) h2
 obtain⟨_,rfl⟩:=okWide_int Tryz.underlying3 (hval 2 3 v2 rfl rfl)
 have e2:=(Cl.arg1 rfl c2)
 obtain⟨a3,w3,c3⟩:=Rd.open (λN=>WF N) h3
 obtain⟨_,rfl⟩:=okWide_int Tryz.underlying3 (hval 3 3 v3 rfl rfl)
 have e3:=(Cl.arg1 rfl c3)
 refine(QU.law (us:=[.agg (Qa a0),.i .i64 a1,.i .i64 a2,.i .i64 a3]) (Zm a0 a1 a2 a3 _ (hF a0 a1 a2 a3 w0 w1 w2 w3)) (QmY hL) rfl (λj x v hx hv=>?_)).mono λe W2 ⟨he,hb⟩=>?_
 ·match j with
  | 0=>cases hx;cases hv;exact e0
  | 1=>cases hx;cases hv;exact e1
  | 2=>cases hx;cases hv;exact e2
  | 3=>cases hx;cases hv;exact e3
  | j+4=>simp at hx
 subst he
 exact⟨_,rfl,Ql7 QnE QmW hW1 rfl hb rfl Tryz.underlying4 rfl rfl rfl⟩
theorem bA {a b : Bool} (x : a = true) (y : b = true) : (a && b) = true := by rw [x, y]; rfl
abbrev jR := Rows.soundGrowsRow
noncomputable abbrev jP := Tryz.pinned.checked.prog
abbrev jS := Rows.soundGrowsSpec
theorem ja : (jR.wf (OpenSpec.ofChange jS)) = true := by kernel_rfl
theorem jb : (laidOutB jP) = true := by kernel_rfl
theorem jc : (mapsRowed jP) = true := by kernel_rfl
theorem jd : (namedTie jP jR.named jS.vars) = true := by kernel_rfl
theorem je : (jR.inPlace == jP.inPlace 4) = true := by kernel_rfl
theorem jf : (jR.unfollowed == jP.unfollowed 4) = true := by kernel_rfl
theorem jg : (jR.recurses == jP.recurses 4) = true := by kernel_rfl
theorem jh : (jR.named == jP.varsNamed 4) = true := by kernel_rfl
theorem ji : (jR.plainKeys == jP.plainKeys) = true := by kernel_rfl
theorem jj : (jP.stopsHeard) = true := by kernel_rfl
theorem jk : (jP.mayEnter) = true := by kernel_rfl
theorem jl : (jR.lifted == jP.liftsFinal) = true := by kernel_rfl
theorem jm : (jP.make == some jR.make) = true := by kernel_rfl
theorem jn : (jR.pinned == jR.pinnedBy) = true := by kernel_rfl
theorem jz : joinedFacts jP 4 Tryz.f4 jS jR = true := by
  unfold joinedFacts
  exact (bA (bA (bA (bA (bA (bA (bA (bA (bA (bA (bA (bA (bA (bA (bA (bA (bA (bA (bA (bA (bA (bA (bA (bA (bA (bA (bA (bA (bA (bA (bA ja jb) jc) (by kernel_rfl)) jd) (by kernel_rfl)) (by kernel_rfl)) (by kernel_rfl)) (by kernel_rfl)) je) jf) jg) jh) (by kernel_rfl)) (by kernel_rfl)) (by kernel_rfl)) (by kernel_rfl)) (by kernel_rfl)) (by kernel_rfl)) (by kernel_rfl)) (by kernel_rfl)) (by kernel_rfl)) ji) (by kernel_rfl)) jj) jk) jl) jm) (by kernel_rfl)) jn) (by kernel_rfl)) (by kernel_rfl))
theorem proved_of (hF:∀(a0:Qe) (a1:Int) (a2:Int) (a3:Int),QaI a0->(Uz .i64) a1->(Uz .i64) a2->(Uz .i64) a3->GD a0 a1 a2 a3=some true):Rows.SoundGrowsSaid:=
 OpenClaim.holds_of_wide 4 Tryz.f4 rfl rfl rfl rfl rfl rfl rfl ⟨rfl,rfl,rfl,rfl,rfl⟩ rfl rfl rfl rfl rfl (by kernel_rfl) Tryz.func4 jz
  (Xs (by kernel_rfl)) (by unfold Func.isWrapper;first | (rw[if_pos (by decide +kernel)];kernel_rfl) | (rw[if_neg (by decide +kernel)];exact⟨rfl,rfl⟩))
  (λos started H enc _=>Qos hF os started H enc)
theorem card_of (hs:Rows.SoundGrowsSaid):Rows.SoundGrowsCardSaid:=
 Claim7.holds_tied_plain_at .later [] [.listed,.data] true (true, "771ec4e614c6ba662463237d52e87425835a0e6bfd08e0c86a45a4253e497e8f") true
  hs (λ_ h=>by cases h) (by kernel_rfl) (λ_ h=>by cases h) soundGrows_row_tie rfl ⟨rfl,rfl⟩ (by kernel_rfl) rfl
  (λf fn hf hfn=>by
   obtain rfl:f=4:=Option.some.inj ((show Tryz.prog.funcNamed "baldric/baldriclaw17.SoundGrows" = some 4 by kernel_rfl).symm.trans hf) |>.symm
   obtain rfl:fn=Tryz.f4:=(Option.some.inj (Tryz.func4.symm.trans hfn)).symm
   exact⟨by kernel_rfl,λj t ht=>by
    rw[Tryz.params4]at ht
    have hm:t∈[26,3,3,3]:=by simpa using Array.mem_of_getElem? ht
    have hall:([26,3,3,3].all λu=>!Tryz.prog.wantsStandIn u)=true:=by kernel_rfl
    exact(show Tryz.prog.wantsStandIn t=false by simpa using Xz.1 hall t hm)⟩)
  (by kernel_rfl)
end LawSoundGrows
theorem kE {e:Ql}(h:Mz e):WZ e:=by
 induction h with
 | mk x _ _ h1 _ ih=>exact .mk x h1 ih
theorem kL {α:Type}{p q:α->Prop}(f:∀x,p x->q x){l:L_ α}(h:CD p l):Xa q l:=⟨h.1,λx hx=>f x (h.2 x hx)⟩
theorem kA {a:Xo}(h:ZC a):HB a:=⟨trivial,kE h.2⟩
theorem Qpi {n:Qe}(h:QcS n):Xm n:=
 ⟨kL (λc hc=>⟨hc.1,trivial,trivial,trivial,kL (λs hs=>hs) hc.2.2.2.2.1,trivial,trivial⟩) h.1,kL (λp hp=>⟨hp.1,trivial,kL (λ_ _=>trivial) hp.2.2⟩) h.2.1,
  kL (λt ht=>⟨ht.1,kL (λv hv=>⟨hv.1,trivial⟩) ht.2.1,kE ht.2.2.1,trivial,trivial,kL (λ_ h=>kA h) ht.2.2.2.2.2.1,kL (λ_ h=>kA h) ht.2.2.2.2.2.2.1,kL (λ_ _=>trivial) ht.2.2.2.2.2.2.2.1,trivial,trivial⟩) h.2.2.1,trivial,trivial⟩
theorem Qpj {n:Qe}(h:QaI n):Rch n:=⟨h.2.1,h.2.2⟩
theorem proved : Rows.SoundGrowsCardSaid:=LawSoundGrows.card_of (LawSoundGrows.proved_of λa0 a1 a2 a3 h0 _ _ _=>Qi0 a0 a1 a2 a3 (Qpi h0.1) (Qpj h0))

end Go.Proofs.YtdogcfnkpfekmaaGreatDoor
