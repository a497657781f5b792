/- SoundTells, as it is given: of any net, budget and tokens it answers true, with no condition but what its row asks of all calls. -/
import Derived.Test.YtdogcfnkpfekmaaGreatDoorN3P5
import Derived.Test.YtdogcfnkpfekmaaGreatDoorN3T2
import Derived.Test.YtdogcfnkpfekmaaGreatDoorN3V3
import Derived.Test.YtdogcfnkpfekmaaGreatDoorRows
import Derived.Test.YtdogcfnkpfekmaaGreatDoorTie
import Derived.Test.YtdogcfnkpfekmaaGreatDoorCards
import Derived.SevenTiedAt
import Derived.WalkKit
import Derived.ProofKit
import Derived.OpenShut
set_option linter.all false
noncomputable section
namespace Go.Proofs.YtdogcfnkpfekmaaGreatDoor
open Go Go.RowKit Go.Vm Go.ChangeShapes Go.WideShapes Go.ChangeAt
theorem Qiz {H:Type}{enc:TypeId×Value->H}{w:World}(N:Nat):Rd enc Tryz.prog w N 9 HR (λx _=>okS x):=(Rd.string (by kernel_rfl)).map id (λ_=>rfl) λ_ _ h=>h.1
theorem Gn {H:Type}{enc:TypeId×Value->H}{w:World}(N:Nat):Rd enc Tryz.prog w N 3 Qb (λx _=>(BJ .i64) x):=(Rd.int (by kernel_rfl)).map id (λ_=>rfl) λ_ _ h=>QxN h
theorem QyZ {H:Type}{enc:TypeId×Value->H}{w:World}(N:Nat):Rd enc Tryz.prog w N 88 Qup (λx _=>(Lb okS) x):=(Rd.slice (e:=9) (z:=1) (by kernel_rfl) (by kernel_rfl) (by decide) (λx=>FV rfl) (Qiz N)).map id (λ_=>rfl) λ_ _ h=>PG h
def VF (x:QD):Prop:=okS x.Name/\(BJ .i64) x.Kind/\(BJ .i64) x.Lo/\(BJ .i64) x.Hi/\(Lb okS) x.Names/\(BJ .i64) x.First/\(BJ .i64) x.Then
theorem Qy0 {H:Type}{enc:TypeId×Value->H}{w:World}(N:Nat):Rd enc Tryz.prog w N 90 Xf (λx _=>VF x):=by
 have h0:=(Rd.struct (fs:=[(9,0),(3,1),(3,2),(3,3),(88,4),(3,5),(3,6)]) (tot:=7) (N:=N) (t:=90) (P:=Tryz.prog) (w:=w) (enc:=enc) (by kernel_rfl) (YO.cons 9 0 1 (by kernel_rfl) (Qiz N) (YO.cons 3 1 1 (by kernel_rfl) (Gn N) (YO.cons 3 2 1 (by kernel_rfl) (Gn N) (YO.cons 3 3 1 (by kernel_rfl) (Gn N) (YO.cons 88 4 1 (by kernel_rfl) (QyZ N) (YO.cons 3 5 1 (by kernel_rfl) (Gn N) (YO.cons 3 6 1 (by kernel_rfl) (Gn N) YO.nil))))))));exact(h0.map (λx=>⟨x.1,x.2.1,x.2.2.1,x.2.2.2.1,x.2.2.2.2.1,x.2.2.2.2.2.1,x.2.2.2.2.2.2.1⟩) (λ_=>rfl) (λx d h=>by obtain⟨_,rfl,h⟩:=h;obtain⟨_,_,rfl,a0,h⟩:=h;obtain⟨_,_,rfl,a1,h⟩:=h;obtain⟨_,_,rfl,a2,h⟩:=h;obtain⟨_,_,rfl,a3,h⟩:=h;obtain⟨_,_,rfl,a4,h⟩:=h;obtain⟨_,_,rfl,a5,h⟩:=h;obtain⟨_,_,rfl,a6,h⟩:=h;exact⟨a0,a1,a2,a3,a4,a5,a6⟩)).mono (MT N)
theorem Qy1 {H:Type}{enc:TypeId×Value->H}{w:World}(N:Nat):Rd enc Tryz.prog w N 22 Qhz (λx _=>(Lb VF) x):=(Rd.slice (e:=90) (z:=7) (by kernel_rfl) (by kernel_rfl) (by decide) (λx=>FV rfl) (Qy0 N)).map id (λ_=>rfl) λ_ _ h=>PG h
def Qn1 (x:(Int×Int)):Prop:=(BJ .i64) x.1/\(BJ .i64) x.2
theorem QwY {H:Type}{enc:TypeId×Value->H}{w:World}(N:Nat):Rd enc Tryz.prog w N 74 QI (λx _=>Qn1 x):=by
 have h0:=(Rd.array (e:=3) (n:=2) (tot:=2) (fs:=[(3,0),(3,1)]) (N:=N) (t:=74) (P:=Tryz.prog) (w:=w) (enc:=enc) (by kernel_rfl) (YO.cons 3 0 1 (by kernel_rfl) (Gn N) (YO.cons 3 1 1 (by kernel_rfl) (Gn N) YO.nil)));exact(h0.map (λx=>⟨x.1,x.2.1⟩) (λ_=>rfl) (λx d h=>by obtain⟨_,rfl,h⟩:=h;obtain⟨_,_,rfl,a0,h⟩:=h;obtain⟨_,_,rfl,a1,h⟩:=h;exact⟨a0,a1⟩)).mono (MT N)
theorem Qy2 {H:Type}{enc:TypeId×Value->H}{w:World}(N:Nat):Rd enc Tryz.prog w N 70 Qk (λx _=>(Lb Qn1) x):=(Rd.slice (e:=74) (z:=2) (by kernel_rfl) (by kernel_rfl) (by decide) (λx=>FV rfl) (QwY N)).map id (λ_=>rfl) λ_ _ h=>PG h
def Qao (x:Xb):Prop:=okS x.Name/\(BJ .i64) x.Colour/\(Lb Qn1) x.First
theorem Qy3 {H:Type}{enc:TypeId×Value->H}{w:World}(N:Nat):Rd enc Tryz.prog w N 72 QW (λx _=>Qao x):=by
 have h0:=(Rd.struct (fs:=[(9,0),(3,1),(70,2)]) (tot:=3) (N:=N) (t:=72) (P:=Tryz.prog) (w:=w) (enc:=enc) (by kernel_rfl) (YO.cons 9 0 1 (by kernel_rfl) (Qiz N) (YO.cons 3 1 1 (by kernel_rfl) (Gn N) (YO.cons 70 2 1 (by kernel_rfl) (Qy2 N) YO.nil))));exact(h0.map (λx=>⟨x.1,x.2.1,x.2.2.1⟩) (λ_=>rfl) (λx d h=>by obtain⟨_,rfl,h⟩:=h;obtain⟨_,_,rfl,a0,h⟩:=h;obtain⟨_,_,rfl,a1,h⟩:=h;obtain⟨_,_,rfl,a2,h⟩:=h;exact⟨a0,a1,a2⟩)).mono (MT N)
theorem Qy4 {H:Type}{enc:TypeId×Value->H}{w:World}(N:Nat):Rd enc Tryz.prog w N 23 Qj2 (λx _=>(Lb Qao) x):=(Rd.slice (e:=72) (z:=3) (by kernel_rfl) (by kernel_rfl) (by decide) (λx=>FV rfl) (Qy3 N)).map id (λ_=>rfl) λ_ _ h=>PG h
def Qpc (x:Ju):Prop:=okS x.Name/\(BJ .i64) x.Colour
theorem Qyp {H:Type}{enc:TypeId×Value->H}{w:World}(N:Nat):Rd enc Tryz.prog w N 103 Yw (λx _=>Qpc x):=by
 have h0:=(Rd.struct (fs:=[(9,0),(3,1)]) (tot:=2) (N:=N) (t:=103) (P:=Tryz.prog) (w:=w) (enc:=enc) (by kernel_rfl) (YO.cons 9 0 1 (by kernel_rfl) (Qiz N) (YO.cons 3 1 1 (by kernel_rfl) (Gn N) YO.nil)));exact(h0.map (λx=>⟨x.1,x.2.1⟩) (λ_=>rfl) (λx d h=>by obtain⟨_,rfl,h⟩:=h;obtain⟨_,_,rfl,a0,h⟩:=h;obtain⟨_,_,rfl,a1,h⟩:=h;exact⟨a0,a1⟩)).mono (MT N)
theorem Qy5 {H:Type}{enc:TypeId×Value->H}{w:World}(N:Nat):Rd enc Tryz.prog w N 94 Cw (λx _=>(Lb Qpc) x):=(Rd.slice (e:=103) (z:=2) (by kernel_rfl) (by kernel_rfl) (by decide) (λx=>FV rfl) (Qyp N)).map id (λ_=>rfl) λ_ _ h=>PG h
theorem Qn2 (x:Qm):QO x=[.i .i64 x.Kind,.i .i64 x.Num,.sl 3 (Ke x.Kids)]:=by cases x;rw[QO]
inductive NB : Qm->Prop where
 | mk (x:Qm):(BJ .i64) x.Kind->(BJ .i64) x.Num->x.Kids.length<=maxLen->(∀k∈x.Kids,NB k)->NB x
theorem QwZ {H:Type}{enc:TypeId×Value->H}{w:World}(N:Nat):Rd enc Tryz.prog w N 87 QO (λx _=>NB x):=by
 induction N with
 | zero=>exact Rd.zero
 | succ N ih=>
  have h0:=(Rd.struct (fs:=[(3,0),(3,1),(85,2)]) (tot:=3) (N:=N) (t:=87) (P:=Tryz.prog) (w:=w) (enc:=enc) (by kernel_rfl) (YO.cons 3 0 1 (by kernel_rfl) (Gn N) (YO.cons 3 1 1 (by kernel_rfl) (Gn N) (YO.cons 85 2 1 (by kernel_rfl) (Rd.slice (e:=87) (z:=3) (by kernel_rfl) (by kernel_rfl) (by decide) (λx=>FV (by cases x;rfl)) ih) YO.nil))));exact h0.map (λx=>⟨x.1,x.2.1,x.2.2.1⟩) (λx=>by simp only[QO];rw[NK];rfl) (λx d h=>by obtain⟨_,rfl,h⟩:=h;obtain⟨_,_,rfl,a0,h⟩:=h;obtain⟨_,_,rfl,a1,h⟩:=h;obtain⟨_,_,rfl,a2,h⟩:=h;exact NB.mk _ a0 a1 (PG a2).1 (PG a2).2)
def Qfu (x:XT):Prop:=(BJ .i64) x.Place/\NB x.Expr
theorem Qy6 {H:Type}{enc:TypeId×Value->H}{w:World}(N:Nat):Rd enc Tryz.prog w N 92 Yz (λx _=>Qfu x):=by
 have h0:=(Rd.struct (fs:=[(3,0),(87,1)]) (tot:=4) (N:=N) (t:=92) (P:=Tryz.prog) (w:=w) (enc:=enc) (by kernel_rfl) (YO.cons 3 0 1 (by kernel_rfl) (Gn N) (YO.cons 87 1 3 (by kernel_rfl) (QwZ N) YO.nil)));exact(h0.map (λx=>⟨x.1,x.2.1⟩) (λx=>by rw[Qn2];rfl) (λx d h=>by obtain⟨_,rfl,h⟩:=h;obtain⟨_,_,rfl,a0,h⟩:=h;obtain⟨_,_,rfl,a1,h⟩:=h;exact⟨a0,a1⟩)).mono (MT N)
theorem Qw0 {H:Type}{enc:TypeId×Value->H}{w:World}(N:Nat):Rd enc Tryz.prog w N 93 Quq (λx _=>(Lb Qfu) x):=(Rd.slice (e:=92) (z:=4) (by kernel_rfl) (by kernel_rfl) (by decide) (λx=>FV rfl) (Qy6 N)).map id (λ_=>rfl) λ_ _ h=>PG h
theorem Qy7 {H:Type}{enc:TypeId×Value->H}{w:World}(N:Nat):Rd enc Tryz.prog w N 37 Xy (λx _=>(Lb (BJ .i64)) x):=(Rd.slice (e:=3) (z:=1) (by kernel_rfl) (by kernel_rfl) (by decide) (λx=>FV rfl) (Gn N)).map id (λ_=>rfl) λ_ _ h=>PG h
def Qvz (x:(Int×Int×Int)):Prop:=(BJ .i64) x.1/\(BJ .i64) x.2.1/\(BJ .i64) x.2.2
theorem Qy8 {H:Type}{enc:TypeId×Value->H}{w:World}(N:Nat):Rd enc Tryz.prog w N 95 Qw6 (λx _=>Qvz x):=by
 have h0:=(Rd.array (e:=3) (n:=3) (tot:=3) (fs:=[(3,0),(3,1),(3,2)]) (N:=N) (t:=95) (P:=Tryz.prog) (w:=w) (enc:=enc) (by kernel_rfl) (YO.cons 3 0 1 (by kernel_rfl) (Gn N) (YO.cons 3 1 1 (by kernel_rfl) (Gn N) (YO.cons 3 2 1 (by kernel_rfl) (Gn N) YO.nil))));exact(h0.map (λx=>⟨x.1,x.2.1,x.2.2.1⟩) (λ_=>rfl) (λx d h=>by obtain⟨_,rfl,h⟩:=h;obtain⟨_,_,rfl,a0,h⟩:=h;obtain⟨_,_,rfl,a1,h⟩:=h;obtain⟨_,_,rfl,a2,h⟩:=h;exact⟨a0,a1,a2⟩)).mono (MT N)
def Ql1 (x:QF):Prop:=okS x.Name/\(Lb Qpc) x.Vars/\NB x.Guard/\(BJ .i64) x.Join/\(BJ .i64) x.Split/\(Lb Qfu) x.Ins/\(Lb Qfu) x.Outs/\(Lb (BJ .i64)) x.Cancel/\(BJ .i64) x.After/\Qvz x.Many
theorem Qy9 {H:Type}{enc:TypeId×Value->H}{w:World}(N:Nat):Rd enc Tryz.prog w N 97 Qy (λx _=>Ql1 x):=by
 have h0:=(Rd.struct (fs:=[(9,0),(94,1),(87,2),(3,5),(3,6),(93,7),(93,8),(37,9),(3,10),(95,11)]) (tot:=14) (N:=N) (t:=97) (P:=Tryz.prog) (w:=w) (enc:=enc) (by kernel_rfl) (YO.cons 9 0 1 (by kernel_rfl) (Qiz N) (YO.cons 94 1 1 (by kernel_rfl) (Qy5 N) (YO.cons 87 2 3 (by kernel_rfl) (QwZ N) (YO.cons 3 5 1 (by kernel_rfl) (Gn N) (YO.cons 3 6 1 (by kernel_rfl) (Gn N) (YO.cons 93 7 1 (by kernel_rfl) (Qw0 N) (YO.cons 93 8 1 (by kernel_rfl) (Qw0 N) (YO.cons 37 9 1 (by kernel_rfl) (Qy7 N) (YO.cons 3 10 1 (by kernel_rfl) (Gn N) (YO.cons 95 11 3 (by kernel_rfl) (Qy8 N) YO.nil)))))))))));exact(h0.map (λx=>⟨x.1,x.2.1,x.2.2.1,x.2.2.2.1,x.2.2.2.2.1,x.2.2.2.2.2.1,x.2.2.2.2.2.2.1,x.2.2.2.2.2.2.2.1,x.2.2.2.2.2.2.2.2.1,x.2.2.2.2.2.2.2.2.2.1⟩) (λx=>by rw[Qn2];rfl) (λx d h=>by obtain⟨_,rfl,h⟩:=h;obtain⟨_,_,rfl,a0,h⟩:=h;obtain⟨_,_,rfl,a1,h⟩:=h;obtain⟨_,_,rfl,a2,h⟩:=h;obtain⟨_,_,rfl,a3,h⟩:=h;obtain⟨_,_,rfl,a4,h⟩:=h;obtain⟨_,_,rfl,a5,h⟩:=h;obtain⟨_,_,rfl,a6,h⟩:=h;obtain⟨_,_,rfl,a7,h⟩:=h;obtain⟨_,_,rfl,a8,h⟩:=h;obtain⟨_,_,rfl,a9,h⟩:=h;exact⟨a0,a1,a2,a3,a4,a5,a6,a7,a8,a9⟩)).mono (MT N)
theorem Qw1 {H:Type}{enc:TypeId×Value->H}{w:World}(N:Nat):Rd enc Tryz.prog w N 24 Qs5 (λx _=>(Lb Ql1) x):=(Rd.slice (e:=97) (z:=14) (by kernel_rfl) (by kernel_rfl) (by decide) (λx=>FV rfl) (Qy9 N)).map id (λ_=>rfl) λ_ _ h=>PG h
def Qfv (x:Qd):Prop:=(Lb VF) x.Colours/\(Lb Qao) x.Places/\(Lb Ql1) x.Tasks/\(BJ .i64) x.From/\(BJ .i64) x.To
theorem Qzx {H:Type}{enc:TypeId×Value->H}{w:World}(N:Nat):Rd enc Tryz.prog w N 26 Qf (λx _=>Qfv x):=by
 have h0:=(Rd.struct (fs:=[(22,0),(23,1),(24,2),(3,3),(3,4)]) (tot:=5) (N:=N) (t:=26) (P:=Tryz.prog) (w:=w) (enc:=enc) (by kernel_rfl) (YO.cons 22 0 1 (by kernel_rfl) (Qy1 N) (YO.cons 23 1 1 (by kernel_rfl) (Qy4 N) (YO.cons 24 2 1 (by kernel_rfl) (Qw1 N) (YO.cons 3 3 1 (by kernel_rfl) (Gn N) (YO.cons 3 4 1 (by kernel_rfl) (Gn N) YO.nil))))));exact(h0.map (λx=>⟨x.1,x.2.1,x.2.2.1,x.2.2.2.1,x.2.2.2.2.1⟩) (λ_=>rfl) (λx d h=>by obtain⟨_,rfl,h⟩:=h;obtain⟨_,_,rfl,a0,h⟩:=h;obtain⟨_,_,rfl,a1,h⟩:=h;obtain⟨_,_,rfl,a2,h⟩:=h;obtain⟨_,_,rfl,a3,h⟩:=h;obtain⟨_,_,rfl,a4,h⟩:=h;exact⟨a0,a1,a2,a3,a4⟩)).mono (MT N)
theorem Qyq {H:Type}{enc:TypeId×Value->H}{w:World}(N:Nat):Rd enc Tryz.prog w N 70 Qk (λx d=>(Lb Qn1) x/\(Sz Tryz.prog 70 d->x.length*16<=reachBytes)):=(Rd.slice (e:=74) (z:=2) (by kernel_rfl) (by kernel_rfl) (by decide) (λx=>FV rfl) (QwY N)).map id (λ_=>rfl) λ_ _ h=>QxO (t:=70) (e:=74) (by kernel_rfl) (by kernel_rfl) h
theorem Qyr {H:Type}{enc:TypeId×Value->H}{w:World}(N:Nat):Rd enc Tryz.prog w N 72 QW (λx d=>Qao x/\(Sz Tryz.prog 72 d->x.First.length*16<=reachBytes)):=by
 have h0:=(Rd.struct (fs:=[(9,0),(3,1),(70,2)]) (tot:=3) (N:=N) (t:=72) (P:=Tryz.prog) (w:=w) (enc:=enc) (by kernel_rfl) (YO.cons 9 0 1 (by kernel_rfl) (Qiz N) (YO.cons 3 1 1 (by kernel_rfl) (Gn N) (YO.cons 70 2 1 (by kernel_rfl) (Qyq N) YO.nil))));exact(h0.map (λx=>⟨x.1,x.2.1,x.2.2.1⟩) (λ_=>rfl) (λx d h=>by obtain⟨_,rfl,h⟩:=h;obtain⟨_,_,rfl,a0,h⟩:=h;obtain⟨_,_,rfl,a1,h⟩:=h;obtain⟨_,_,rfl,a2,h⟩:=h;exact⟨⟨a0,a1,a2.1⟩,λhz=>a2.2 (Sz.field Tryz.underlying72 hz (j:=2) rfl rfl)⟩)).mono (MT N)
theorem Qys {H:Type}{enc:TypeId×Value->H}{w:World}(N:Nat):Rd enc Tryz.prog w N 23 Qj2 (λx d=>(Lb Qao) x/\(Sz Tryz.prog 23 d->∀p∈x,p.First.length*16<=reachBytes)):=(Rd.slice (e:=72) (z:=3) (by kernel_rfl) (by kernel_rfl) (by decide) (λx=>FV rfl) (Qyr N)).map id (λ_=>rfl) λ_ _ h=>⟨(szL (P:=Tryz.prog) (t:=23) (e:=72) (by kernel_rfl) h).1,λhz=>((szL (t:=23) (e:=72) (by kernel_rfl) h).2 hz).2⟩
theorem Qyt {H:Type}{enc:TypeId×Value->H}{w:World}(N:Nat):Rd enc Tryz.prog w N 88 Qup (λx d=>(Lb okS) x/\(Sz Tryz.prog 88 d->x.length*16<=reachBytes)):=(Rd.slice (e:=9) (z:=1) (by kernel_rfl) (by kernel_rfl) (by decide) (λx=>FV rfl) (Qiz N)).map id (λ_=>rfl) λ_ _ h=>QxO (t:=88) (e:=9) (by kernel_rfl) (by kernel_rfl) h
theorem Qyu {H:Type}{enc:TypeId×Value->H}{w:World}(N:Nat):Rd enc Tryz.prog w N 90 Xf (λx d=>VF x/\(Sz Tryz.prog 90 d->x.Names.length*16<=reachBytes)):=by
 have h0:=(Rd.struct (fs:=[(9,0),(3,1),(3,2),(3,3),(88,4),(3,5),(3,6)]) (tot:=7) (N:=N) (t:=90) (P:=Tryz.prog) (w:=w) (enc:=enc) (by kernel_rfl) (YO.cons 9 0 1 (by kernel_rfl) (Qiz N) (YO.cons 3 1 1 (by kernel_rfl) (Gn N) (YO.cons 3 2 1 (by kernel_rfl) (Gn N) (YO.cons 3 3 1 (by kernel_rfl) (Gn N) (YO.cons 88 4 1 (by kernel_rfl) (Qyt N) (YO.cons 3 5 1 (by kernel_rfl) (Gn N) (YO.cons 3 6 1 (by kernel_rfl) (Gn N) YO.nil))))))));exact(h0.map (λx=>⟨x.1,x.2.1,x.2.2.1,x.2.2.2.1,x.2.2.2.2.1,x.2.2.2.2.2.1,x.2.2.2.2.2.2.1⟩) (λ_=>rfl) (λx d h=>by obtain⟨_,rfl,h⟩:=h;obtain⟨_,_,rfl,a0,h⟩:=h;obtain⟨_,_,rfl,a1,h⟩:=h;obtain⟨_,_,rfl,a2,h⟩:=h;obtain⟨_,_,rfl,a3,h⟩:=h;obtain⟨_,_,rfl,a4,h⟩:=h;obtain⟨_,_,rfl,a5,h⟩:=h;obtain⟨_,_,rfl,a6,h⟩:=h;exact⟨⟨a0,a1,a2,a3,a4.1,a5,a6⟩,λhz=>a4.2 (Sz.field Tryz.underlying90 hz (j:=4) rfl rfl)⟩)).mono (MT N)
theorem Qyv {H:Type}{enc:TypeId×Value->H}{w:World}(N:Nat):Rd enc Tryz.prog w N 22 Qhz (λx d=>(Lb VF) x/\(Sz Tryz.prog 22 d->∀p∈x,p.Names.length*16<=reachBytes)):=(Rd.slice (e:=90) (z:=7) (by kernel_rfl) (by kernel_rfl) (by decide) (λx=>FV rfl) (Qyu N)).map id (λ_=>rfl) λ_ _ h=>⟨(szL (P:=Tryz.prog) (t:=22) (e:=90) (by kernel_rfl) h).1,λhz=>((szL (t:=22) (e:=90) (by kernel_rfl) h).2 hz).2⟩
theorem Qyw {H:Type}{enc:TypeId×Value->H}{w:World}(N:Nat):Rd enc Tryz.prog w N 26 Qf (λx d=>Qfv x/\(Sz Tryz.prog 26 d->(∀p∈x.Places,p.First.length*16<=reachBytes)/\(∀p∈x.Colours,p.Names.length*16<=reachBytes))):=by
 have h0:=(Rd.struct (fs:=[(22,0),(23,1),(24,2),(3,3),(3,4)]) (tot:=5) (N:=N) (t:=26) (P:=Tryz.prog) (w:=w) (enc:=enc) (by kernel_rfl) (YO.cons 22 0 1 (by kernel_rfl) (Qyv N) (YO.cons 23 1 1 (by kernel_rfl) (Qys N) (YO.cons 24 2 1 (by kernel_rfl) (Qw1 N) (YO.cons 3 3 1 (by kernel_rfl) (Gn N) (YO.cons 3 4 1 (by kernel_rfl) (Gn N) YO.nil))))));exact(h0.map (λx=>⟨x.1,x.2.1,x.2.2.1,x.2.2.2.1,x.2.2.2.2.1⟩) (λ_=>rfl) (λx d h=>by obtain⟨_,rfl,h⟩:=h;obtain⟨_,_,rfl,a0,h⟩:=h;obtain⟨_,_,rfl,a1,h⟩:=h;obtain⟨_,_,rfl,a2,h⟩:=h;obtain⟨_,_,rfl,a3,h⟩:=h;obtain⟨_,_,rfl,a4,h⟩:=h;exact⟨⟨a0.1,a1.1,a2,a3,a4⟩,λhz=>⟨a1.2 (Sz.field Tryz.underlying26 hz (j:=1) rfl rfl),a0.2 (Sz.field Tryz.underlying26 hz (j:=0) rfl rfl)⟩⟩)).mono (MT N)
def QgA (x:Qd):Prop:=Qfv x/\(∀p∈x.Places,p.First.length*16<=reachBytes)/\(∀p∈x.Colours,p.Names.length*16<=reachBytes)
namespace LawSoundTells
theorem own : ownKnob Tryz.prog.godebug=none:=by kernel_rfl
theorem QxB : laidOutB Tryz.prog=true:=by kernel_rfl
theorem QwK : ∀t∈Tryz.f3.params.toList,Tryz.prog.readableRec t=true/\t<Tryz.prog.types.size:=by
 have h:(Tryz.f3.params.toList.all λt=>Tryz.prog.readableRec t&&decide (t<Tryz.prog.types.size))=true:=by kernel_rfl
 intro t ht;have:=XJ.1 h t ht;rw[QJ,Qx]at this;exact this
theorem QwL (os:Os)(args:Array Value):laidMetH Tryz.prog Rows.soundTellsRow.laid ((World.doorLaid Tryz.prog 33 os).forCall (λ_ _=>0) ⟨#[],args,[]⟩).memory:=
 laidMetH_of_parts3 (fuel:=8) (laidMet_of_run' 8 (by kernel_rfl) (by kernel_rfl)) (by kernel_rfl) (by kernel_rfl)
theorem QwM {W:World}(h:laidMetH Tryz.prog Rows.soundTellsRow.laid W):Qaq Tryz.prog (λk=>k<W.heap.size) W:=
 QqZ (r:=[]) (g:=0) (t:=308) (e:=5) 1 (by kernel_rfl) (by kernel_rfl) (by kernel_rfl) (by kernel_rfl) (by kernel_rfl) (by kernel_rfl) (by kernel_rfl) (by kernel_rfl) h
set_option maxRecDepth 100000 in
theorem lifted (hF:∀(a0:Qd) (a1:Int) (a2:Int),QgA a0->(BJ .i64) a1->(BJ .i64) a2->Uy a0 a1 a2=some true)(os:Os)(started:os.Started)(H:Type)(enc:TypeId×Value->H):
  ReturnsInHanded {} Tryz.checked os 3 .any (λw args=>(Rows.soundTellsSpec.pre enc Tryz.prog Tryz.f3 Rows.soundTellsRow.domain false w args/\laidMetH Tryz.prog Rows.soundTellsRow.laid w)/\sizedMet enc Tryz.prog Tryz.f3 (OpenSpec.ofChange Rows.soundTellsSpec) false w args) (Rows.soundTellsSpec.post enc Tryz.prog Tryz.f3 false true false false):=by
 refine returnsInHanded_of_change_and (C:=Tryz.checked) (X:=λw _=>laidMetH Tryz.prog Rows.soundTellsRow.laid w) (λ_ _ _ hh h=>h.of_heap hh) own started (by kernel_rfl) Tryz.func3
  (ChangeSpec.witness_shaped (enc:=enc) (C:=Tryz.checked) (os:=os) (X:=λw _=>laidMetH Tryz.prog Rows.soundTellsRow.laid w) false (World.doorLaid Tryz.prog 33 os) #[.agg #[.slice none 0 0,.slice none 0 0,.slice none 0 0,.int .i64 0,.int .i64 0],.int .i64 0,.int .i64 0] 8 rfl (World.shaped_of_RefB (by kernel_rfl) (by kernel_rfl)) (by kernel_rfl) (by kernel_rfl) (by kernel_rfl) (QwL os _)) ?_
 intro W base args ds gs before hval0 hW hcnd hz hL _;have hval:∀(j:Nat) t v,Tryz.f3.params[j]? = some t->args[j]? = some v->Value.okWide Tryz.prog W .any base t v:=hval0;have hW1:=hW;obtain⟨p,q,hA0,hV,_,_,_⟩:=hW;obtain⟨rfl,_⟩:=trodVars_none hV;have hA:DataW.TrodAll enc Tryz.prog W 0 (λ_=>true) true Tryz.f3.params.toList args.toList ds p:=hA0;rw[Tryz.params3]at hA hval;obtain⟨v0,vs0,d0,ds0,p0,q0,hargs,rfl,_,h0,r0⟩:=trodAll_cons hA;obtain⟨v1,vs1,d1,ds1,p1,q1,rfl,rfl,_,h1,r1⟩:=trodAll_cons r0;obtain⟨v2,vs2,d2,ds2,p2,q2,rfl,rfl,_,h2,r2⟩:=trodAll_cons r1;obtain⟨rfl,rfl,_⟩:=trodAll_nil r2;obtain rfl:args=#[v0,v1,v2]:=by cases args;simp_all
 obtain⟨a0,w0',c0⟩:=Rd.open (λN=>Qyw N) h0;have w0:QgA a0:=⟨w0'.1,w0'.2 (Sz.all hz (j:=0) (by kernel_rfl) rfl)⟩;obtain⟨_,rfl⟩:=QvQ (P:=Tryz.prog) (t:=26) (fs:=[(22,0),(23,1),(24,2),(3,3),(3,4)]) (tot:=5) (by kernel_rfl) (hval 0 26 v0 rfl rfl);have e0:=c0.argS;obtain⟨a1,w1,c1⟩:=Rd.open (λN=>Gn N) h1;obtain⟨_,rfl⟩:=okWide_int Tryz.underlying3 (hval 1 3 v1 rfl rfl);have e1:=(Cl.arg1 rfl c1);obtain⟨a2,w2,c2⟩:=Rd.open (λN=>Gn N) h2;obtain⟨_,rfl⟩:=okWide_int Tryz.underlying3 (hval 2 3 v2 rfl rfl);have e2:=(Cl.arg1 rfl c2);refine(QN.law (us:=[.agg (Qf a0),.i .i64 a1,.i .i64 a2]) (@Qfh a0 a1 a2 _ (hF a0 a1 a2 w0 w1 w2)) (QwM hL) rfl (λj x v hx hv=>?_)).mono λe W2 ⟨he,hb⟩=>?_
 ·match j with
  | 0=>cases hx;cases hv;exact e0
  | 1=>cases hx;cases hv;exact e1
  | 2=>cases hx;cases hv;exact e2
  | j+3=>simp at hx
 subst he;exact⟨_,rfl,QvR QxB QwK hW1 rfl hb rfl Tryz.underlying4 rfl rfl rfl⟩
theorem bA {a b:Bool}(x:a=true)(y:b=true):(a&&b)=true:=by rw[x,y];rfl
abbrev jR := Rows.soundTellsRow
noncomputable abbrev jP := Tryz.pinned.checked.prog
abbrev jS := Rows.soundTellsSpec
theorem ja : (jR.wf (OpenSpec.ofChange jS))=true:=by kernel_rfl
theorem jb : (laidOutB jP)=true:=by kernel_rfl
theorem jc : (mapsRowed jP)=true:=by kernel_rfl
theorem jd : (namedTie jP jR.named jS.vars)=true:=by kernel_rfl
theorem je : (jR.inPlace==jP.inPlace 3)=true:=by kernel_rfl
theorem jf : (jR.unfollowed==jP.unfollowed 3)=true:=by kernel_rfl
theorem jg : (jR.recurses==jP.recurses 3)=true:=by kernel_rfl
theorem jh : (jR.named==jP.varsNamed 3)=true:=by kernel_rfl
theorem ji : (jR.plainKeys==jP.plainKeys)=true:=by kernel_rfl
theorem jj : (jP.stopsHeard)=true:=by kernel_rfl
theorem jk : (jP.mayEnter)=true:=by kernel_rfl
theorem jl : (jR.lifted==jP.liftsFinal)=true:=by kernel_rfl
theorem jm : (jP.make==some jR.make)=true:=by kernel_rfl
theorem jn : (jR.pinned==jR.pinnedBy)=true:=by kernel_rfl
theorem jz : joinedFacts jP 3 Tryz.f3 jS jR=true:=by
 unfold joinedFacts;exact(bA (bA (bA (bA (bA (bA (bA (bA (bA (bA (bA (bA (bA (bA (bA (bA (bA (bA (bA (bA (bA (bA (bA (bA (bA (bA (bA (bA (bA (bA (bA ja jb) jc) (by kernel_rfl)) jd) (by kernel_rfl)) (by kernel_rfl)) (by kernel_rfl)) (by kernel_rfl)) je) jf) jg) jh) (by kernel_rfl)) (by kernel_rfl)) (by kernel_rfl)) (by kernel_rfl)) (by kernel_rfl)) (by kernel_rfl)) (by kernel_rfl)) (by kernel_rfl)) (by kernel_rfl)) ji) (by kernel_rfl)) jj) jk) jl) jm) (by kernel_rfl)) jn) (by kernel_rfl)) (by kernel_rfl))
theorem proved_of (hF:∀(a0:Qd) (a1:Int) (a2:Int),QgA a0->(BJ .i64) a1->(BJ .i64) a2->Uy a0 a1 a2=some true):Rows.SoundTellsSaid:=
 OpenClaim.holds_of_wide 3 Tryz.f3 rfl rfl rfl rfl rfl rfl rfl ⟨rfl,rfl,rfl,rfl,rfl⟩ rfl rfl rfl rfl rfl (by kernel_rfl) Tryz.func3 jz
  (Xd (by kernel_rfl)) (by unfold Func.isWrapper;first | (rw[if_pos (by decide +kernel)];kernel_rfl) | (rw[if_neg (by decide +kernel)];exact⟨rfl,rfl⟩))
  (λos started H enc _=>lifted hF os started H enc)
theorem card_of (hs:Rows.SoundTellsSaid):Rows.SoundTellsCardSaid:=
 Claim7.holds_tied_plain_at .later [] [.listed,.data] true (true, "771ec4e614c6ba662463237d52e87425835a0e6bfd08e0c86a45a4253e497e8f") true
  hs (λ_ h=>by cases h) (by kernel_rfl) (λ_ h=>by cases h) soundTells_row_tie rfl ⟨rfl,rfl⟩ (by kernel_rfl) rfl
  (λf fn hf hfn=>by
   obtain rfl:f=3:=Option.some.inj ((show Tryz.prog.funcNamed "baldric/baldriclaw17.SoundTells" = some 3 by kernel_rfl).symm.trans hf) |>.symm
   obtain rfl:fn=Tryz.f3:=(Option.some.inj (Tryz.func3.symm.trans hfn)).symm;exact⟨by kernel_rfl,λj t ht=>by
    rw[Tryz.params3]at ht;have hm:t∈[26,3,3]:=by simpa using Array.mem_of_getElem? ht
    have hall:([26,3,3].all λu=>!Tryz.prog.wantsStandIn u)=true:=by kernel_rfl
    exact(show Tryz.prog.wantsStandIn t=false by simpa using XJ.1 hall t hm)⟩)
  (by kernel_rfl)
end LawSoundTells
theorem kE {e:Qm}(h:NB e):WA e:=by
 induction h with
 | mk x _ _ h1 _ ih=>exact .mk x h1 ih
theorem kL {α:Type}{p q:α->Prop}(f:∀x,p x->q x){l:L_ α}(h:Lb p l):QP q l:=⟨h.1,λx hx=>f x (h.2 x hx)⟩
theorem kA {a:XT}(h:Qfu a):Lp a:=⟨trivial,kE h.2⟩
theorem Qzp {n:Qd}(h:Qfv n):Xo n:=
 ⟨kL (λc hc=>⟨hc.1,trivial,trivial,trivial,kL (λs hs=>hs) hc.2.2.2.2.1,trivial,trivial⟩) h.1,kL (λp hp=>⟨hp.1,trivial,kL (λ_ _=>trivial) hp.2.2⟩) h.2.1,
  kL (λt ht=>⟨ht.1,kL (λv hv=>⟨hv.1,trivial⟩) ht.2.1,kE ht.2.2.1,trivial,trivial,kL (λ_ h=>kA h) ht.2.2.2.2.2.1,kL (λ_ h=>kA h) ht.2.2.2.2.2.2.1,kL (λ_ _=>trivial) ht.2.2.2.2.2.2.2.1,trivial,trivial⟩) h.2.2.1,trivial,trivial⟩
theorem QrL {x:Int}(h:BJ .i64 x):XI x:=by
 have h1:IntKind.min .i64=-9223372036854775808:=rfl;have h2:IntKind.max .i64=9223372036854775807:=rfl;unfold BJ at h;rw[h1,h2]at h;exact h
theorem rE {e:Qm}(h:NB e):RE e:=by
 induction h with
 | mk x _ hn _ _ ih=>exact .mk x (QrL hn) ih
theorem Qzq {n:Qd}(h:Qfv n):RN n:=
 ⟨λc hc=>⟨QrL (h.1.2 c hc).2.2.1,QrL (h.1.2 c hc).2.2.2.1⟩,λt ht=>rE (h.2.2.1.2 t ht).2.2.1,λt ht a ha=>rE ((h.2.2.1.2 t ht).2.2.2.2.2.1.2 a ha).2,λt ht a ha=>rE ((h.2.2.1.2 t ht).2.2.2.2.2.2.1.2 a ha).2⟩
theorem Qzr {n:Qd}(h:QgA n):Rch n:=⟨h.2.1,h.2.2⟩
theorem proved : Rows.SoundTellsCardSaid:=LawSoundTells.card_of (LawSoundTells.proved_of λa0 a1 a2 h0 _ _=>Qsj a0 a1 a2 (Qzp h0.1) (Qzq h0.1) (Qzr h0))

end Go.Proofs.YtdogcfnkpfekmaaGreatDoor
