/- SoundMeans, as it is given: of any net, numbers and picks it answers true, with no condition but what its row asks of all calls. -/
import Derived.Test.YtdogcfnkpfekmaaGreatDoorM1P3
import Derived.Test.YtdogcfnkpfekmaaGreatDoorM1T2
import Derived.Test.YtdogcfnkpfekmaaGreatDoorM1V3
import Derived.Test.YtdogcfnkpfekmaaGreatDoorRows
import Derived.Test.YtdogcfnkpfekmaaGreatDoorTie
import Derived.Test.YtdogcfnkpfekmaaGreatDoorCards
import Derived.SevenTiedAt
import Derived.WalkKit
import Derived.ProofKit
import Derived.OpenShut
set_option linter.all false
noncomputable section
namespace Go.Proofs.YtdogcfnkpfekmaaGreatDoor
open Go Go.RowKit Go.Vm Go.ChangeShapes Go.WideShapes Go.ChangeAt
theorem Qdp {H:Type}{enc:TypeId×Value->H}{w:World}(N:Nat):Rd enc Tryz.prog w N 9 DW (λx _=>okS x):=(Rd.string (by kernel_rfl)).map id (λ_=>rfl) λ_ _ h=>h.1
theorem WU {H:Type}{enc:TypeId×Value->H}{w:World}(N:Nat):Rd enc Tryz.prog w N 3 Qb (λx _=>(UO .i64) x):=(Rd.int (by kernel_rfl)).map id (λ_=>rfl) λ_ _ h=>QoO h
theorem QpR {H:Type}{enc:TypeId×Value->H}{w:World}(N:Nat):Rd enc Tryz.prog w N 88 QlP (λx _=>(BH okS) x):=(Rd.slice (e:=9) (z:=1) (by kernel_rfl) (by kernel_rfl) (by decide) (λx=>BI rfl) (Qdp N)).map id (λ_=>rfl) λ_ _ h=>LT h
def OR (x:QL):Prop:=okS x.Name/\(UO .i64) x.Kind/\(UO .i64) x.Lo/\(UO .i64) x.Hi/\(BH okS) x.Names/\(UO .i64) x.First/\(UO .i64) x.Then
theorem QpS {H:Type}{enc:TypeId×Value->H}{w:World}(N:Nat):Rd enc Tryz.prog w N 90 Qr (λx _=>OR x):=by
 have h0:=(Rd.struct (fs:=[(9,0),(3,1),(3,2),(3,3),(88,4),(3,5),(3,6)]) (tot:=7) (N:=N) (t:=90) (P:=Tryz.prog) (w:=w) (enc:=enc) (by kernel_rfl) (YD.cons 9 0 1 (by kernel_rfl) (Qdp N) (YD.cons 3 1 1 (by kernel_rfl) (WU N) (YD.cons 3 2 1 (by kernel_rfl) (WU N) (YD.cons 3 3 1 (by kernel_rfl) (WU N) (YD.cons 88 4 1 (by kernel_rfl) (QpR N) (YD.cons 3 5 1 (by kernel_rfl) (WU N) (YD.cons 3 6 1 (by kernel_rfl) (WU N) YD.nil))))))))
 exact(h0.map (λx=>⟨x.1,x.2.1,x.2.2.1,x.2.2.2.1,x.2.2.2.2.1,x.2.2.2.2.2.1,x.2.2.2.2.2.2.1⟩) (λ_=>rfl) (λx d h=>by obtain⟨_,rfl,h⟩:=h;obtain⟨_,_,rfl,a0,h⟩:=h;obtain⟨_,_,rfl,a1,h⟩:=h;obtain⟨_,_,rfl,a2,h⟩:=h;obtain⟨_,_,rfl,a3,h⟩:=h;obtain⟨_,_,rfl,a4,h⟩:=h;obtain⟨_,_,rfl,a5,h⟩:=h;obtain⟨_,_,rfl,a6,h⟩:=h;exact⟨a0,a1,a2,a3,a4,a5,a6⟩)).mono (NJ N)
theorem QpT {H:Type}{enc:TypeId×Value->H}{w:World}(N:Nat):Rd enc Tryz.prog w N 22 Qcz (λx _=>(BH OR) x):=(Rd.slice (e:=90) (z:=7) (by kernel_rfl) (by kernel_rfl) (by decide) (λx=>BI rfl) (QpS N)).map id (λ_=>rfl) λ_ _ h=>LT h
def QgT (x:(Int×Int)):Prop:=(UO .i64) x.1/\(UO .i64) x.2
theorem Qn1 {H:Type}{enc:TypeId×Value->H}{w:World}(N:Nat):Rd enc Tryz.prog w N 74 QQ (λx _=>QgT x):=by
 have h0:=(Rd.array (e:=3) (n:=2) (tot:=2) (fs:=[(3,0),(3,1)]) (N:=N) (t:=74) (P:=Tryz.prog) (w:=w) (enc:=enc) (by kernel_rfl) (YD.cons 3 0 1 (by kernel_rfl) (WU N) (YD.cons 3 1 1 (by kernel_rfl) (WU N) YD.nil)))
 exact(h0.map (λx=>⟨x.1,x.2.1⟩) (λ_=>rfl) (λx d h=>by obtain⟨_,rfl,h⟩:=h;obtain⟨_,_,rfl,a0,h⟩:=h;obtain⟨_,_,rfl,a1,h⟩:=h;exact⟨a0,a1⟩)).mono (NJ N)
theorem QpU {H:Type}{enc:TypeId×Value->H}{w:World}(N:Nat):Rd enc Tryz.prog w N 70 Qe (λx _=>(BH QgT) x):=(Rd.slice (e:=74) (z:=2) (by kernel_rfl) (by kernel_rfl) (by decide) (λx=>BI rfl) (Qn1 N)).map id (λ_=>rfl) λ_ _ h=>LT h
def Ry (x:QP):Prop:=okS x.Name/\(UO .i64) x.Colour/\(BH QgT) x.First
theorem QpV {H:Type}{enc:TypeId×Value->H}{w:World}(N:Nat):Rd enc Tryz.prog w N 72 Qq (λx _=>Ry x):=by
 have h0:=(Rd.struct (fs:=[(9,0),(3,1),(70,2)]) (tot:=3) (N:=N) (t:=72) (P:=Tryz.prog) (w:=w) (enc:=enc) (by kernel_rfl) (YD.cons 9 0 1 (by kernel_rfl) (Qdp N) (YD.cons 3 1 1 (by kernel_rfl) (WU N) (YD.cons 70 2 1 (by kernel_rfl) (QpU N) YD.nil))))
 exact(h0.map (λx=>⟨x.1,x.2.1,x.2.2.1⟩) (λ_=>rfl) (λx d h=>by obtain⟨_,rfl,h⟩:=h;obtain⟨_,_,rfl,a0,h⟩:=h;obtain⟨_,_,rfl,a1,h⟩:=h;obtain⟨_,_,rfl,a2,h⟩:=h;exact⟨a0,a1,a2⟩)).mono (NJ N)
theorem QpW {H:Type}{enc:TypeId×Value->H}{w:World}(N:Nat):Rd enc Tryz.prog w N 23 Qex (λx _=>(BH Ry) x):=(Rd.slice (e:=72) (z:=3) (by kernel_rfl) (by kernel_rfl) (by decide) (λx=>BI rfl) (QpV N)).map id (λ_=>rfl) λ_ _ h=>LT h
def QhI (x:YO):Prop:=okS x.Name/\(UO .i64) x.Colour
theorem Qpi {H:Type}{enc:TypeId×Value->H}{w:World}(N:Nat):Rd enc Tryz.prog w N 103 Xi (λx _=>QhI x):=by
 have h0:=(Rd.struct (fs:=[(9,0),(3,1)]) (tot:=2) (N:=N) (t:=103) (P:=Tryz.prog) (w:=w) (enc:=enc) (by kernel_rfl) (YD.cons 9 0 1 (by kernel_rfl) (Qdp N) (YD.cons 3 1 1 (by kernel_rfl) (WU N) YD.nil)))
 exact(h0.map (λx=>⟨x.1,x.2.1⟩) (λ_=>rfl) (λx d h=>by obtain⟨_,rfl,h⟩:=h;obtain⟨_,_,rfl,a0,h⟩:=h;obtain⟨_,_,rfl,a1,h⟩:=h;exact⟨a0,a1⟩)).mono (NJ N)
theorem QpX {H:Type}{enc:TypeId×Value->H}{w:World}(N:Nat):Rd enc Tryz.prog w N 94 Ki (λx _=>(BH QhI) x):=(Rd.slice (e:=103) (z:=2) (by kernel_rfl) (by kernel_rfl) (by decide) (λx=>BI rfl) (Qpi N)).map id (λ_=>rfl) λ_ _ h=>LT h
theorem QgU (x:Ql):Qu x=[.i .i64 x.Kind,.i .i64 x.Num,.sl 3 (Yn x.Kids)]:=by cases x;rw[Qu]
inductive Nr : Ql->Prop where
 | mk (x:Ql):(UO .i64) x.Kind->(UO .i64) x.Num->x.Kids.length<=maxLen->(∀k∈x.Kids,Nr k)->Nr x
theorem Qn2 {H:Type}{enc:TypeId×Value->H}{w:World}(N:Nat):Rd enc Tryz.prog w N 87 Qu (λx _=>Nr x):=by
 induction N with
 | zero=>exact Rd.zero
 | succ N ih=>
  have h0:=(Rd.struct (fs:=[(3,0),(3,1),(85,2)]) (tot:=3) (N:=N) (t:=87) (P:=Tryz.prog) (w:=w) (enc:=enc) (by kernel_rfl) (YD.cons 3 0 1 (by kernel_rfl) (WU N) (YD.cons 3 1 1 (by kernel_rfl) (WU N) (YD.cons 85 2 1 (by kernel_rfl) (Rd.slice (e:=87) (z:=3) (by kernel_rfl) (by kernel_rfl) (by decide) (λx=>BI (by cases x;rfl)) ih) YD.nil))))
  exact h0.map (λx=>⟨x.1,x.2.1,x.2.2.1⟩) (λx=>by simp only[Qu];rw[IE];rfl) (λx d h=>by obtain⟨_,rfl,h⟩:=h;obtain⟨_,_,rfl,a0,h⟩:=h;obtain⟨_,_,rfl,a1,h⟩:=h;obtain⟨_,_,rfl,a2,h⟩:=h;exact Nr.mk _ a0 a1 (LT a2).1 (LT a2).2)
def QaH (x:Xs):Prop:=(UO .i64) x.Place/\Nr x.Expr
theorem QpY {H:Type}{enc:TypeId×Value->H}{w:World}(N:Nat):Rd enc Tryz.prog w N 92 Xj (λx _=>QaH x):=by
 have h0:=(Rd.struct (fs:=[(3,0),(87,1)]) (tot:=4) (N:=N) (t:=92) (P:=Tryz.prog) (w:=w) (enc:=enc) (by kernel_rfl) (YD.cons 3 0 1 (by kernel_rfl) (WU N) (YD.cons 87 1 3 (by kernel_rfl) (Qn2 N) YD.nil)))
 exact(h0.map (λx=>⟨x.1,x.2.1⟩) (λx=>by rw[QgU];rfl) (λx d h=>by obtain⟨_,rfl,h⟩:=h;obtain⟨_,_,rfl,a0,h⟩:=h;obtain⟨_,_,rfl,a1,h⟩:=h;exact⟨a0,a1⟩)).mono (NJ N)
theorem Qn3 {H:Type}{enc:TypeId×Value->H}{w:World}(N:Nat):Rd enc Tryz.prog w N 93 QlQ (λx _=>(BH QaH) x):=(Rd.slice (e:=92) (z:=4) (by kernel_rfl) (by kernel_rfl) (by decide) (λx=>BI rfl) (QpY N)).map id (λ_=>rfl) λ_ _ h=>LT h
theorem Qn4 {H:Type}{enc:TypeId×Value->H}{w:World}(N:Nat):Rd enc Tryz.prog w N 37 QN (λx _=>(BH (UO .i64)) x):=(Rd.slice (e:=3) (z:=1) (by kernel_rfl) (by kernel_rfl) (by decide) (λx=>BI rfl) (WU N)).map id (λ_=>rfl) λ_ _ h=>LT h
def QmK (x:(Int×Int×Int)):Prop:=(UO .i64) x.1/\(UO .i64) x.2.1/\(UO .i64) x.2.2
theorem QpZ {H:Type}{enc:TypeId×Value->H}{w:World}(N:Nat):Rd enc Tryz.prog w N 95 Qg9 (λx _=>QmK x):=by
 have h0:=(Rd.array (e:=3) (n:=3) (tot:=3) (fs:=[(3,0),(3,1),(3,2)]) (N:=N) (t:=95) (P:=Tryz.prog) (w:=w) (enc:=enc) (by kernel_rfl) (YD.cons 3 0 1 (by kernel_rfl) (WU N) (YD.cons 3 1 1 (by kernel_rfl) (WU N) (YD.cons 3 2 1 (by kernel_rfl) (WU N) YD.nil))))
 exact(h0.map (λx=>⟨x.1,x.2.1,x.2.2.1⟩) (λ_=>rfl) (λx d h=>by obtain⟨_,rfl,h⟩:=h;obtain⟨_,_,rfl,a0,h⟩:=h;obtain⟨_,_,rfl,a1,h⟩:=h;obtain⟨_,_,rfl,a2,h⟩:=h;exact⟨a0,a1,a2⟩)).mono (NJ N)
def QfA (x:QH):Prop:=okS x.Name/\(BH QhI) x.Vars/\Nr x.Guard/\(UO .i64) x.Join/\(UO .i64) x.Split/\(BH QaH) x.Ins/\(BH QaH) x.Outs/\(BH (UO .i64)) x.Cancel/\(UO .i64) x.After/\QmK x.Many
theorem Qp0 {H:Type}{enc:TypeId×Value->H}{w:World}(N:Nat):Rd enc Tryz.prog w N 97 Qh (λx _=>QfA x):=by
 have h0:=(Rd.struct (fs:=[(9,0),(94,1),(87,2),(3,5),(3,6),(93,7),(93,8),(37,9),(3,10),(95,11)]) (tot:=14) (N:=N) (t:=97) (P:=Tryz.prog) (w:=w) (enc:=enc) (by kernel_rfl) (YD.cons 9 0 1 (by kernel_rfl) (Qdp N) (YD.cons 94 1 1 (by kernel_rfl) (QpX N) (YD.cons 87 2 3 (by kernel_rfl) (Qn2 N) (YD.cons 3 5 1 (by kernel_rfl) (WU N) (YD.cons 3 6 1 (by kernel_rfl) (WU N) (YD.cons 93 7 1 (by kernel_rfl) (Qn3 N) (YD.cons 93 8 1 (by kernel_rfl) (Qn3 N) (YD.cons 37 9 1 (by kernel_rfl) (Qn4 N) (YD.cons 3 10 1 (by kernel_rfl) (WU N) (YD.cons 95 11 3 (by kernel_rfl) (QpZ N) YD.nil)))))))))))
 exact(h0.map (λx=>⟨x.1,x.2.1,x.2.2.1,x.2.2.2.1,x.2.2.2.2.1,x.2.2.2.2.2.1,x.2.2.2.2.2.2.1,x.2.2.2.2.2.2.2.1,x.2.2.2.2.2.2.2.2.1,x.2.2.2.2.2.2.2.2.2.1⟩) (λx=>by rw[QgU];rfl) (λx d h=>by obtain⟨_,rfl,h⟩:=h;obtain⟨_,_,rfl,a0,h⟩:=h;obtain⟨_,_,rfl,a1,h⟩:=h;obtain⟨_,_,rfl,a2,h⟩:=h;obtain⟨_,_,rfl,a3,h⟩:=h;obtain⟨_,_,rfl,a4,h⟩:=h;obtain⟨_,_,rfl,a5,h⟩:=h;obtain⟨_,_,rfl,a6,h⟩:=h;obtain⟨_,_,rfl,a7,h⟩:=h;obtain⟨_,_,rfl,a8,h⟩:=h;obtain⟨_,_,rfl,a9,h⟩:=h;exact⟨a0,a1,a2,a3,a4,a5,a6,a7,a8,a9⟩)).mono (NJ N)
theorem Qn5 {H:Type}{enc:TypeId×Value->H}{w:World}(N:Nat):Rd enc Tryz.prog w N 24 QkL (λx _=>(BH QfA) x):=(Rd.slice (e:=97) (z:=14) (by kernel_rfl) (by kernel_rfl) (by decide) (λx=>BI rfl) (Qp0 N)).map id (λ_=>rfl) λ_ _ h=>LT h
def QdG (x:Qf):Prop:=(BH OR) x.Colours/\(BH Ry) x.Places/\(BH QfA) x.Tasks/\(UO .i64) x.From/\(UO .i64) x.To
theorem Qqh {H:Type}{enc:TypeId×Value->H}{w:World}(N:Nat):Rd enc Tryz.prog w N 26 Qa (λx _=>QdG x):=by
 have h0:=(Rd.struct (fs:=[(22,0),(23,1),(24,2),(3,3),(3,4)]) (tot:=5) (N:=N) (t:=26) (P:=Tryz.prog) (w:=w) (enc:=enc) (by kernel_rfl) (YD.cons 22 0 1 (by kernel_rfl) (QpT N) (YD.cons 23 1 1 (by kernel_rfl) (QpW N) (YD.cons 24 2 1 (by kernel_rfl) (Qn5 N) (YD.cons 3 3 1 (by kernel_rfl) (WU N) (YD.cons 3 4 1 (by kernel_rfl) (WU N) YD.nil))))))
 exact(h0.map (λx=>⟨x.1,x.2.1,x.2.2.1,x.2.2.2.1,x.2.2.2.2.1⟩) (λ_=>rfl) (λx d h=>by obtain⟨_,rfl,h⟩:=h;obtain⟨_,_,rfl,a0,h⟩:=h;obtain⟨_,_,rfl,a1,h⟩:=h;obtain⟨_,_,rfl,a2,h⟩:=h;obtain⟨_,_,rfl,a3,h⟩:=h;obtain⟨_,_,rfl,a4,h⟩:=h;exact⟨a0,a1,a2,a3,a4⟩)).mono (NJ N)
theorem Qpj {H:Type}{enc:TypeId×Value->H}{w:World}(N:Nat):Rd enc Tryz.prog w N 70 Qe (λx d=>(BH QgT) x/\(Sz Tryz.prog 70 d->x.length*16<=reachBytes)):=(Rd.slice (e:=74) (z:=2) (by kernel_rfl) (by kernel_rfl) (by decide) (λx=>BI rfl) (Qn1 N)).map id (λ_=>rfl) λ_ _ h=>QoP (t:=70) (e:=74) (by kernel_rfl) (by kernel_rfl) h
theorem Qpk {H:Type}{enc:TypeId×Value->H}{w:World}(N:Nat):Rd enc Tryz.prog w N 72 Qq (λx d=>Ry x/\(Sz Tryz.prog 72 d->x.First.length*16<=reachBytes)):=by
 have h0:=(Rd.struct (fs:=[(9,0),(3,1),(70,2)]) (tot:=3) (N:=N) (t:=72) (P:=Tryz.prog) (w:=w) (enc:=enc) (by kernel_rfl) (YD.cons 9 0 1 (by kernel_rfl) (Qdp N) (YD.cons 3 1 1 (by kernel_rfl) (WU N) (YD.cons 70 2 1 (by kernel_rfl) (Qpj N) YD.nil))))
 exact(h0.map (λx=>⟨x.1,x.2.1,x.2.2.1⟩) (λ_=>rfl) (λx d h=>by obtain⟨_,rfl,h⟩:=h;obtain⟨_,_,rfl,a0,h⟩:=h;obtain⟨_,_,rfl,a1,h⟩:=h;obtain⟨_,_,rfl,a2,h⟩:=h;exact⟨⟨a0,a1,a2.1⟩,λhz=>a2.2 (Sz.field Tryz.underlying72 hz (j:=2) rfl rfl)⟩)).mono (NJ N)
theorem Qpl {H:Type}{enc:TypeId×Value->H}{w:World}(N:Nat):Rd enc Tryz.prog w N 23 Qex (λx d=>(BH Ry) x/\(Sz Tryz.prog 23 d->∀p∈x,p.First.length*16<=reachBytes)):=(Rd.slice (e:=72) (z:=3) (by kernel_rfl) (by kernel_rfl) (by decide) (λx=>BI rfl) (Qpk N)).map id (λ_=>rfl) λ_ _ h=>⟨(szL (P:=Tryz.prog) (t:=23) (e:=72) (by kernel_rfl) h).1,λhz=>((szL (t:=23) (e:=72) (by kernel_rfl) h).2 hz).2⟩
theorem Qpm {H:Type}{enc:TypeId×Value->H}{w:World}(N:Nat):Rd enc Tryz.prog w N 88 QlP (λx d=>(BH okS) x/\(Sz Tryz.prog 88 d->x.length*16<=reachBytes)):=(Rd.slice (e:=9) (z:=1) (by kernel_rfl) (by kernel_rfl) (by decide) (λx=>BI rfl) (Qdp N)).map id (λ_=>rfl) λ_ _ h=>QoP (t:=88) (e:=9) (by kernel_rfl) (by kernel_rfl) h
theorem Qpn {H:Type}{enc:TypeId×Value->H}{w:World}(N:Nat):Rd enc Tryz.prog w N 90 Qr (λx d=>OR x/\(Sz Tryz.prog 90 d->x.Names.length*16<=reachBytes)):=by
 have h0:=(Rd.struct (fs:=[(9,0),(3,1),(3,2),(3,3),(88,4),(3,5),(3,6)]) (tot:=7) (N:=N) (t:=90) (P:=Tryz.prog) (w:=w) (enc:=enc) (by kernel_rfl) (YD.cons 9 0 1 (by kernel_rfl) (Qdp N) (YD.cons 3 1 1 (by kernel_rfl) (WU N) (YD.cons 3 2 1 (by kernel_rfl) (WU N) (YD.cons 3 3 1 (by kernel_rfl) (WU N) (YD.cons 88 4 1 (by kernel_rfl) (Qpm N) (YD.cons 3 5 1 (by kernel_rfl) (WU N) (YD.cons 3 6 1 (by kernel_rfl) (WU N) YD.nil))))))))
 exact(h0.map (λx=>⟨x.1,x.2.1,x.2.2.1,x.2.2.2.1,x.2.2.2.2.1,x.2.2.2.2.2.1,x.2.2.2.2.2.2.1⟩) (λ_=>rfl) (λx d h=>by obtain⟨_,rfl,h⟩:=h;obtain⟨_,_,rfl,a0,h⟩:=h;obtain⟨_,_,rfl,a1,h⟩:=h;obtain⟨_,_,rfl,a2,h⟩:=h;obtain⟨_,_,rfl,a3,h⟩:=h;obtain⟨_,_,rfl,a4,h⟩:=h;obtain⟨_,_,rfl,a5,h⟩:=h;obtain⟨_,_,rfl,a6,h⟩:=h;exact⟨⟨a0,a1,a2,a3,a4.1,a5,a6⟩,λhz=>a4.2 (Sz.field Tryz.underlying90 hz (j:=4) rfl rfl)⟩)).mono (NJ N)
theorem Qpo {H:Type}{enc:TypeId×Value->H}{w:World}(N:Nat):Rd enc Tryz.prog w N 22 Qcz (λx d=>(BH OR) x/\(Sz Tryz.prog 22 d->∀p∈x,p.Names.length*16<=reachBytes)):=(Rd.slice (e:=90) (z:=7) (by kernel_rfl) (by kernel_rfl) (by decide) (λx=>BI rfl) (Qpn N)).map id (λ_=>rfl) λ_ _ h=>⟨(szL (P:=Tryz.prog) (t:=22) (e:=90) (by kernel_rfl) h).1,λhz=>((szL (t:=22) (e:=90) (by kernel_rfl) h).2 hz).2⟩
theorem Qpp {H:Type}{enc:TypeId×Value->H}{w:World}(N:Nat):Rd enc Tryz.prog w N 26 Qa (λx d=>QdG x/\(Sz Tryz.prog 26 d->(∀p∈x.Places,p.First.length*16<=reachBytes)/\(∀p∈x.Colours,p.Names.length*16<=reachBytes))):=by
 have h0:=(Rd.struct (fs:=[(22,0),(23,1),(24,2),(3,3),(3,4)]) (tot:=5) (N:=N) (t:=26) (P:=Tryz.prog) (w:=w) (enc:=enc) (by kernel_rfl) (YD.cons 22 0 1 (by kernel_rfl) (Qpo N) (YD.cons 23 1 1 (by kernel_rfl) (Qpl N) (YD.cons 24 2 1 (by kernel_rfl) (Qn5 N) (YD.cons 3 3 1 (by kernel_rfl) (WU N) (YD.cons 3 4 1 (by kernel_rfl) (WU N) YD.nil))))))
 exact(h0.map (λx=>⟨x.1,x.2.1,x.2.2.1,x.2.2.2.1,x.2.2.2.2.1⟩) (λ_=>rfl) (λx d h=>by obtain⟨_,rfl,h⟩:=h;obtain⟨_,_,rfl,a0,h⟩:=h;obtain⟨_,_,rfl,a1,h⟩:=h;obtain⟨_,_,rfl,a2,h⟩:=h;obtain⟨_,_,rfl,a3,h⟩:=h;obtain⟨_,_,rfl,a4,h⟩:=h;exact⟨⟨a0.1,a1.1,a2,a3,a4⟩,λhz=>⟨a1.2 (Sz.field Tryz.underlying26 hz (j:=1) rfl rfl),a0.2 (Sz.field Tryz.underlying26 hz (j:=0) rfl rfl)⟩⟩)).mono (NJ N)
def QbC (x:Qf):Prop:=QdG x/\(∀p∈x.Places,p.First.length*16<=reachBytes)/\(∀p∈x.Colours,p.Names.length*16<=reachBytes)
namespace LawSoundMeans
theorem own : ownKnob Tryz.prog.godebug=none:=by kernel_rfl
theorem QoB : laidOutB Tryz.prog=true:=by kernel_rfl
theorem QnQ : ∀t∈Tryz.f5.params.toList,Tryz.prog.readableRec t=true/\t<Tryz.prog.types.size:=by
 have h:(Tryz.f5.params.toList.all λt=>Tryz.prog.readableRec t&&decide (t<Tryz.prog.types.size))=true:=by kernel_rfl
 intro t ht
 have:=XF.1 h t ht
 rw[QJ,QI]at this
 exact this
theorem QnR (os:Os)(args:Array Value):laidMetH Tryz.prog Rows.soundMeansRow.laid ((World.doorLaid Tryz.prog 33 os).forCall (λ_ _=>0) ⟨#[],args,[]⟩).memory:=
 laidMetH_of_parts3 (fuel:=8) (laidMet_of_run' 8 (by kernel_rfl) (by kernel_rfl)) (by kernel_rfl) (by kernel_rfl)
theorem QnS {W:World}(h:laidMetH Tryz.prog Rows.soundMeansRow.laid W):RA Tryz.prog (λk=>k<W.heap.size) W:=
 Qjf (r:=[]) (g:=0) (t:=308) (e:=5) 1 (by kernel_rfl) (by kernel_rfl) (by kernel_rfl) (by kernel_rfl) (by kernel_rfl) (by kernel_rfl) (by kernel_rfl) (by kernel_rfl) h
set_option maxRecDepth 100000 in
theorem lifted (hF:∀(a0:Qf) (a1:Int) (a2:Int) (a3:(L_ Int)),QbC a0->(UO .i64) a1->(UO .i64) a2->(BH (UO .i64)) a3->GQ a0 a1 a2 a3=some true)(os:Os)(started:os.Started)(H:Type)(enc:TypeId×Value->H):
  ReturnsInHanded {} Tryz.checked os 5 .any (λw args=>(Rows.soundMeansSpec.pre enc Tryz.prog Tryz.f5 Rows.soundMeansRow.domain false w args/\laidMetH Tryz.prog Rows.soundMeansRow.laid w)/\sizedMet enc Tryz.prog Tryz.f5 (OpenSpec.ofChange Rows.soundMeansSpec) false w args) (Rows.soundMeansSpec.post enc Tryz.prog Tryz.f5 false true false false):=by
 refine returnsInHanded_of_change_and (C:=Tryz.checked) (X:=λw _=>laidMetH Tryz.prog Rows.soundMeansRow.laid w) (λ_ _ _ hh h=>h.of_heap hh) own started (by kernel_rfl) Tryz.func5
  (ChangeSpec.witness_shaped (enc:=enc) (C:=Tryz.checked) (os:=os) (X:=λw _=>laidMetH Tryz.prog Rows.soundMeansRow.laid w) false (World.doorLaid Tryz.prog 33 os) #[.agg #[.slice none 0 0,.slice none 0 0,.slice none 0 0,.int .i64 0,.int .i64 0],.int .i64 0,.int .i64 0,.slice none 0 0] 8 rfl (World.shaped_of_RefB (by kernel_rfl) (by kernel_rfl)) (by kernel_rfl) (by kernel_rfl) (by kernel_rfl) (QnR os _)) ?_
 intro W base args ds gs before hval0 hW hcnd hz hL _
 have hval:∀(j:Nat) t v,Tryz.f5.params[j]? = some t->args[j]? = some v->Value.okWide Tryz.prog W .any base t v:=hval0
 have hW1:=hW
 obtain⟨p,q,hA0,hV,_,_,_⟩:=hW
 obtain⟨rfl,_⟩:=trodVars_none hV
 have hA:DataW.TrodAll enc Tryz.prog W 0 (λ_=>true) true Tryz.f5.params.toList args.toList ds p:=hA0
 rw[Tryz.params5]at hA hval
 obtain⟨v0,vs0,d0,ds0,p0,q0,hargs,rfl,_,h0,r0⟩:=trodAll_cons hA
 obtain⟨v1,vs1,d1,ds1,p1,q1,rfl,rfl,_,h1,r1⟩:=trodAll_cons r0
 obtain⟨v2,vs2,d2,ds2,p2,q2,rfl,rfl,_,h2,r2⟩:=trodAll_cons r1
 obtain⟨v3,vs3,d3,ds3,p3,q3,rfl,rfl,_,h3,r3⟩:=trodAll_cons r2
 obtain⟨rfl,rfl,_⟩:=trodAll_nil r3
 obtain rfl:args=#[v0,v1,v2,v3]:=by cases args;simp_all
 obtain⟨a0,w0',c0⟩:=Rd.open (λN=>Qpp N) h0
 have w0:QbC a0:=⟨w0'.1,w0'.2 (Sz.all hz (j:=0) (by kernel_rfl) rfl)⟩
 obtain⟨_,rfl⟩:=Qm2 (P:=Tryz.prog) (t:=26) (fs:=[(22,0),(23,1),(24,2),(3,3),(3,4)]) (tot:=5) (by kernel_rfl) (hval 0 26 v0 rfl rfl)
 have e0:=c0.argS
 obtain⟨a1,w1,c1⟩:=Rd.open (λN=>WU N) h1
 obtain⟨_,rfl⟩:=okWide_int Tryz.underlying3 (hval 1 3 v1 rfl rfl)
 have e1:=(Cl.arg1 rfl c1)
 obtain⟨a2,w2,c2⟩:=Rd.open (λN=>WU N) h2
 obtain⟨_,rfl⟩:=okWide_int Tryz.underlying3 (hval 2 3 v2 rfl rfl)
 have e2:=(Cl.arg1 rfl c2)
 obtain⟨a3,w3,c3⟩:=Rd.open (λN=>Qn4 N) h3
 obtain⟨_,_,_,rfl⟩:=okWide_slice Tryz.underlying37 (hval 3 37 v3 rfl rfl)
 have e3:=(Cl.arg1 rfl c3)
 refine(QX.law (us:=[.agg (Qa a0),.i .i64 a1,.i .i64 a2,.sl 1 (a3.map Qb)]) (Qau a0 a1 a2 a3 _ (hF a0 a1 a2 a3 w0 w1 w2 w3)) (QnS hL) rfl (λj x v hx hv=>?_)).mono λe W2 ⟨he,hb⟩=>?_
 ·match j with
  | 0=>cases hx;cases hv;exact e0
  | 1=>cases hx;cases hv;exact e1
  | 2=>cases hx;cases hv;exact e2
  | 3=>cases hx;cases hv;exact e3
  | j+4=>simp at hx
 subst he
 exact⟨_,rfl,Qm3 QoB QnQ hW1 rfl hb rfl Tryz.underlying4 rfl rfl rfl⟩
theorem bA {a b:Bool}(x:a=true)(y:b=true):(a&&b)=true:=by rw[x,y];rfl
abbrev jR := Rows.soundMeansRow
noncomputable abbrev jP := Tryz.pinned.checked.prog
abbrev jS := Rows.soundMeansSpec
theorem ja : (jR.wf (OpenSpec.ofChange jS))=true:=by kernel_rfl
theorem jb : (laidOutB jP)=true:=by kernel_rfl
theorem jc : (mapsRowed jP)=true:=by kernel_rfl
theorem jd : (namedTie jP jR.named jS.vars)=true:=by kernel_rfl
theorem je : (jR.inPlace==jP.inPlace 5)=true:=by kernel_rfl
theorem jf : (jR.unfollowed==jP.unfollowed 5)=true:=by kernel_rfl
theorem jg : (jR.recurses==jP.recurses 5)=true:=by kernel_rfl
theorem jh : (jR.named==jP.varsNamed 5)=true:=by kernel_rfl
theorem ji : (jR.plainKeys==jP.plainKeys)=true:=by kernel_rfl
theorem jj : (jP.stopsHeard)=true:=by kernel_rfl
theorem jk : (jP.mayEnter)=true:=by kernel_rfl
theorem jl : (jR.lifted==jP.liftsFinal)=true:=by kernel_rfl
theorem jm : (jP.make==some jR.make)=true:=by kernel_rfl
theorem jn : (jR.pinned==jR.pinnedBy)=true:=by kernel_rfl
theorem jz : joinedFacts jP 5 Tryz.f5 jS jR=true:=by
 unfold joinedFacts
 exact(bA (bA (bA (bA (bA (bA (bA (bA (bA (bA (bA (bA (bA (bA (bA (bA (bA (bA (bA (bA (bA (bA (bA (bA (bA (bA (bA (bA (bA (bA (bA ja jb) jc) (by kernel_rfl)) jd) (by kernel_rfl)) (by kernel_rfl)) (by kernel_rfl)) (by kernel_rfl)) je) jf) jg) jh) (by kernel_rfl)) (by kernel_rfl)) (by kernel_rfl)) (by kernel_rfl)) (by kernel_rfl)) (by kernel_rfl)) (by kernel_rfl)) (by kernel_rfl)) (by kernel_rfl)) ji) (by kernel_rfl)) jj) jk) jl) jm) (by kernel_rfl)) jn) (by kernel_rfl)) (by kernel_rfl))
theorem proved_of (hF:∀(a0:Qf) (a1:Int) (a2:Int) (a3:(L_ Int)),QbC a0->(UO .i64) a1->(UO .i64) a2->(BH (UO .i64)) a3->GQ a0 a1 a2 a3=some true):Rows.SoundMeansSaid:=
 OpenClaim.holds_of_wide 5 Tryz.f5 rfl rfl rfl rfl rfl rfl rfl ⟨rfl,rfl,rfl,rfl,rfl⟩ rfl rfl rfl rfl rfl (by kernel_rfl) Tryz.func5 jz
  (Xw (by kernel_rfl)) (by unfold Func.isWrapper;first | (rw[if_pos (by decide +kernel)];kernel_rfl) | (rw[if_neg (by decide +kernel)];exact⟨rfl,rfl⟩))
  (λos started H enc _=>lifted hF os started H enc)
theorem card_of (hs:Rows.SoundMeansSaid):Rows.SoundMeansCardSaid:=
 Claim7.holds_tied_plain_at .later [] [.listed,.data] true (true, "771ec4e614c6ba662463237d52e87425835a0e6bfd08e0c86a45a4253e497e8f") true
  hs (λ_ h=>by cases h) (by kernel_rfl) (λ_ h=>by cases h) soundMeans_row_tie rfl ⟨rfl,rfl⟩ (by kernel_rfl) rfl
  (λf fn hf hfn=>by
   obtain rfl:f=5:=Option.some.inj ((show Tryz.prog.funcNamed "baldric/baldriclaw17.SoundMeans" = some 5 by kernel_rfl).symm.trans hf) |>.symm
   obtain rfl:fn=Tryz.f5:=(Option.some.inj (Tryz.func5.symm.trans hfn)).symm
   exact⟨by kernel_rfl,λj t ht=>by
    rw[Tryz.params5]at ht
    have hm:t∈[26,3,3,37]:=by simpa using Array.mem_of_getElem? ht
    have hall:([26,3,3,37].all λu=>!Tryz.prog.wantsStandIn u)=true:=by kernel_rfl
    exact(show Tryz.prog.wantsStandIn t=false by simpa using XF.1 hall t hm)⟩)
  (by kernel_rfl)
end LawSoundMeans
theorem kE {e:Ql}(h:Nr e):Dd e:=by
 induction h with
 | mk x _ _ h1 _ ih=>exact .mk x h1 ih
theorem kL {α:Type}{p q:α->Prop}(f:∀x,p x->q x){l:L_ α}(h:BH p l):Xe q l:=⟨h.1,λx hx=>f x (h.2 x hx)⟩
theorem kA {a:Xs}(h:QaH a):Im a:=⟨trivial,kE h.2⟩
theorem Qqe {n:Qf}(h:QdG n):Xr n:=
 ⟨kL (λc hc=>⟨hc.1,trivial,trivial,trivial,kL (λs hs=>hs) hc.2.2.2.2.1,trivial,trivial⟩) h.1,kL (λp hp=>⟨hp.1,trivial,kL (λ_ _=>trivial) hp.2.2⟩) h.2.1,
  kL (λt ht=>⟨ht.1,kL (λv hv=>⟨hv.1,trivial⟩) ht.2.1,kE ht.2.2.1,trivial,trivial,kL (λ_ h=>kA h) ht.2.2.2.2.2.1,kL (λ_ h=>kA h) ht.2.2.2.2.2.2.1,kL (λ_ _=>trivial) ht.2.2.2.2.2.2.2.1,trivial,trivial⟩) h.2.2.1,trivial,trivial⟩
theorem Qqf {n:Qf}(h:QbC n):Rch n:=⟨h.2.1,h.2.2⟩
theorem proved : Rows.SoundMeansCardSaid:=LawSoundMeans.card_of (LawSoundMeans.proved_of λa0 a1 a2 a3 h0 _ _ _=>QjZ a0 a1 a2 a3 (Qqe h0.1) (Qqf h0))

end Go.Proofs.YtdogcfnkpfekmaaGreatDoor
