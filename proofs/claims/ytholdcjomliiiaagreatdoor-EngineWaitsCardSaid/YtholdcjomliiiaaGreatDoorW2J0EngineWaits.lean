/- EngineWaits, as it is given: of any net and any calls it answers true, with no condition but what its row asks of all calls. -/
import Derived.Test.YtholdcjomliiiaaGreatDoorW2P5
import Derived.Test.YtholdcjomliiiaaGreatDoorW2T2
import Derived.Test.YtholdcjomliiiaaGreatDoorW2V3
import Derived.Test.YtholdcjomliiiaaGreatDoorRows
import Derived.Test.YtholdcjomliiiaaGreatDoorTie
import Derived.Test.YtholdcjomliiiaaGreatDoorCards
import Derived.SevenTiedAt
import Derived.WalkKit
import Derived.ProofKit
import Derived.OpenShut
set_option linter.all false
noncomputable section
namespace Go.Proofs.YtholdcjomliiiaaGreatDoor
open Go Go.RowKit Go.Vm Go.ChangeShapes Go.WideShapes Go.ChangeAt
def QvP (x:L_ Xt):L_ V:=[.sl 7 (x.map Jl)]
theorem Qj6 {H:Type}{enc:TypeId×Value->H}{w:World}(N:Nat):Rd enc Tryz.prog w N 9 LC (λx _=>okS x):=(Rd.string (by kernel_rfl)).map id (λ_=>rfl) λ_ _ h=>h.1
theorem DZ {H:Type}{enc:TypeId×Value->H}{w:World}(N:Nat):Rd enc Tryz.prog w N 3 Qb (λx _=>(Bk .i64) x):=(Rd.int (by kernel_rfl)).map id (λ_=>rfl) λ_ _ h=>QzR h
theorem QA9 {H:Type}{enc:TypeId×Value->H}{w:World}(N:Nat):Rd enc Tryz.prog w N 73 Qwd (λx _=>(Cm okS) x):=(Rd.slice (e:=9) (z:=1) (by kernel_rfl) (by kernel_rfl) (by decide) (λx=>FV rfl) (Qj6 N)).map id (λ_=>rfl) λ_ _ h=>OL h
def ZJ (x:QK):Prop:=okS x.Name/\(Bk .i64) x.Kind/\(Bk .i64) x.Lo/\(Bk .i64) x.Hi/\(Cm okS) x.Names/\(Bk .i64) x.First/\(Bk .i64) x.Then
theorem QBa {H:Type}{enc:TypeId×Value->H}{w:World}(N:Nat):Rd enc Tryz.prog w N 75 Xm (λx _=>ZJ x):=by
 have h0:=(Rd.struct (fs:=[(9,0),(3,1),(3,2),(3,3),(73,4),(3,5),(3,6)]) (tot:=7) (N:=N) (t:=75) (P:=Tryz.prog) (w:=w) (enc:=enc) (by kernel_rfl) (YE.cons 9 0 1 (by kernel_rfl) (Qj6 N) (YE.cons 3 1 1 (by kernel_rfl) (DZ N) (YE.cons 3 2 1 (by kernel_rfl) (DZ N) (YE.cons 3 3 1 (by kernel_rfl) (DZ N) (YE.cons 73 4 1 (by kernel_rfl) (QA9 N) (YE.cons 3 5 1 (by kernel_rfl) (DZ N) (YE.cons 3 6 1 (by kernel_rfl) (DZ N) YE.nil))))))));exact(h0.map (λx=>⟨x.1,x.2.1,x.2.2.1,x.2.2.2.1,x.2.2.2.2.1,x.2.2.2.2.2.1,x.2.2.2.2.2.2.1⟩) (λ_=>rfl) (λx d h=>by obtain⟨_,rfl,h⟩:=h;obtain⟨_,_,rfl,a0,h⟩:=h;obtain⟨_,_,rfl,a1,h⟩:=h;obtain⟨_,_,rfl,a2,h⟩:=h;obtain⟨_,_,rfl,a3,h⟩:=h;obtain⟨_,_,rfl,a4,h⟩:=h;obtain⟨_,_,rfl,a5,h⟩:=h;obtain⟨_,_,rfl,a6,h⟩:=h;exact⟨a0,a1,a2,a3,a4,a5,a6⟩)).mono (FT N)
theorem QBb {H:Type}{enc:TypeId×Value->H}{w:World}(N:Nat):Rd enc Tryz.prog w N 22 Qi6 (λx _=>(Cm ZJ) x):=(Rd.slice (e:=75) (z:=7) (by kernel_rfl) (by kernel_rfl) (by decide) (λx=>FV rfl) (QBa N)).map id (λ_=>rfl) λ_ _ h=>OL h
def QpH (x:(Int×Int)):Prop:=(Bk .i64) x.1/\(Bk .i64) x.2
theorem QyM {H:Type}{enc:TypeId×Value->H}{w:World}(N:Nat):Rd enc Tryz.prog w N 97 QB (λx _=>QpH x):=by
 have h0:=(Rd.array (e:=3) (n:=2) (tot:=2) (fs:=[(3,0),(3,1)]) (N:=N) (t:=97) (P:=Tryz.prog) (w:=w) (enc:=enc) (by kernel_rfl) (YE.cons 3 0 1 (by kernel_rfl) (DZ N) (YE.cons 3 1 1 (by kernel_rfl) (DZ N) YE.nil)));exact(h0.map (λx=>⟨x.1,x.2.1⟩) (λ_=>rfl) (λx d h=>by obtain⟨_,rfl,h⟩:=h;obtain⟨_,_,rfl,a0,h⟩:=h;obtain⟨_,_,rfl,a1,h⟩:=h;exact⟨a0,a1⟩)).mono (FT N)
theorem QBc {H:Type}{enc:TypeId×Value->H}{w:World}(N:Nat):Rd enc Tryz.prog w N 77 Qj (λx _=>(Cm QpH) x):=(Rd.slice (e:=97) (z:=2) (by kernel_rfl) (by kernel_rfl) (by decide) (λx=>FV rfl) (QyM N)).map id (λ_=>rfl) λ_ _ h=>OL h
def QbG (x:Xn):Prop:=okS x.Name/\(Bk .i64) x.Colour/\(Cm QpH) x.First
theorem QBd {H:Type}{enc:TypeId×Value->H}{w:World}(N:Nat):Rd enc Tryz.prog w N 79 Xd (λx _=>QbG x):=by
 have h0:=(Rd.struct (fs:=[(9,0),(3,1),(77,2)]) (tot:=3) (N:=N) (t:=79) (P:=Tryz.prog) (w:=w) (enc:=enc) (by kernel_rfl) (YE.cons 9 0 1 (by kernel_rfl) (Qj6 N) (YE.cons 3 1 1 (by kernel_rfl) (DZ N) (YE.cons 77 2 1 (by kernel_rfl) (QBc N) YE.nil))));exact(h0.map (λx=>⟨x.1,x.2.1,x.2.2.1⟩) (λ_=>rfl) (λx d h=>by obtain⟨_,rfl,h⟩:=h;obtain⟨_,_,rfl,a0,h⟩:=h;obtain⟨_,_,rfl,a1,h⟩:=h;obtain⟨_,_,rfl,a2,h⟩:=h;exact⟨a0,a1,a2⟩)).mono (FT N)
theorem QBe {H:Type}{enc:TypeId×Value->H}{w:World}(N:Nat):Rd enc Tryz.prog w N 23 Qlu (λx _=>(Cm QbG) x):=(Rd.slice (e:=79) (z:=3) (by kernel_rfl) (by kernel_rfl) (by decide) (λx=>FV rfl) (QBd N)).map id (λ_=>rfl) λ_ _ h=>OL h
def QqP (x:JH):Prop:=okS x.Name/\(Bk .i64) x.Colour
theorem QBf {H:Type}{enc:TypeId×Value->H}{w:World}(N:Nat):Rd enc Tryz.prog w N 93 YM (λx _=>QqP x):=by
 have h0:=(Rd.struct (fs:=[(9,0),(3,1)]) (tot:=2) (N:=N) (t:=93) (P:=Tryz.prog) (w:=w) (enc:=enc) (by kernel_rfl) (YE.cons 9 0 1 (by kernel_rfl) (Qj6 N) (YE.cons 3 1 1 (by kernel_rfl) (DZ N) YE.nil)));exact(h0.map (λx=>⟨x.1,x.2.1⟩) (λ_=>rfl) (λx d h=>by obtain⟨_,rfl,h⟩:=h;obtain⟨_,_,rfl,a0,h⟩:=h;obtain⟨_,_,rfl,a1,h⟩:=h;exact⟨a0,a1⟩)).mono (FT N)
theorem QBh {H:Type}{enc:TypeId×Value->H}{w:World}(N:Nat):Rd enc Tryz.prog w N 84 FW (λx _=>(Cm QqP) x):=(Rd.slice (e:=93) (z:=2) (by kernel_rfl) (by kernel_rfl) (by decide) (λx=>FV rfl) (QBf N)).map id (λ_=>rfl) λ_ _ h=>OL h
theorem QpI (x:Qs):QY x=[.i .i64 x.Kind,.i .i64 x.Num,.sl 3 (WJ x.Kids)]:=by cases x;rw[QY]
inductive Pr : Qs->Prop where
 |mk (x:Qs):(Bk .i64) x.Kind->(Bk .i64) x.Num->x.Kids.length<=maxLen->(∀k∈x.Kids,Pr k)->Pr x
theorem QyN {H:Type}{enc:TypeId×Value->H}{w:World}(N:Nat):Rd enc Tryz.prog w N 72 QY (λx _=>Pr x):=by
 induction N with
 |zero=>exact Rd.zero|succ N ih=>
  have h0:=(Rd.struct (fs:=[(3,0),(3,1),(70,2)]) (tot:=3) (N:=N) (t:=72) (P:=Tryz.prog) (w:=w) (enc:=enc) (by kernel_rfl) (YE.cons 3 0 1 (by kernel_rfl) (DZ N) (YE.cons 3 1 1 (by kernel_rfl) (DZ N) (YE.cons 70 2 1 (by kernel_rfl) (Rd.slice (e:=72) (z:=3) (by kernel_rfl) (by kernel_rfl) (by decide) (λx=>FV (by cases x;rfl)) ih) YE.nil))));exact h0.map (λx=>⟨x.1,x.2.1,x.2.2.1⟩) (λx=>by simp only[QY];rw[Py];rfl) (λx d h=>by obtain⟨_,rfl,h⟩:=h;obtain⟨_,_,rfl,a0,h⟩:=h;obtain⟨_,_,rfl,a1,h⟩:=h;obtain⟨_,_,rfl,a2,h⟩:=h;exact Pr.mk _ a0 a1 (OL a2).1 (OL a2).2)
def QgU (x:Jy):Prop:=(Bk .i64) x.Place/\Pr x.Expr
theorem QBi {H:Type}{enc:TypeId×Value->H}{w:World}(N:Nat):Rd enc Tryz.prog w N 81 KP (λx _=>QgU x):=by
 have h0:=(Rd.struct (fs:=[(3,0),(72,1)]) (tot:=4) (N:=N) (t:=81) (P:=Tryz.prog) (w:=w) (enc:=enc) (by kernel_rfl) (YE.cons 3 0 1 (by kernel_rfl) (DZ N) (YE.cons 72 1 3 (by kernel_rfl) (QyN N) YE.nil)));exact(h0.map (λx=>⟨x.1,x.2.1⟩) (λx=>by rw[QpI];rfl) (λx d h=>by obtain⟨_,rfl,h⟩:=h;obtain⟨_,_,rfl,a0,h⟩:=h;obtain⟨_,_,rfl,a1,h⟩:=h;exact⟨a0,a1⟩)).mono (FT N)
theorem QyO {H:Type}{enc:TypeId×Value->H}{w:World}(N:Nat):Rd enc Tryz.prog w N 82 Qwe (λx _=>(Cm QgU) x):=(Rd.slice (e:=81) (z:=4) (by kernel_rfl) (by kernel_rfl) (by decide) (λx=>FV rfl) (QBi N)).map id (λ_=>rfl) λ_ _ h=>OL h
theorem Qsi {H:Type}{enc:TypeId×Value->H}{w:World}(N:Nat):Rd enc Tryz.prog w N 49 XH (λx _=>(Cm (Bk .i64)) x):=(Rd.slice (e:=3) (z:=1) (by kernel_rfl) (by kernel_rfl) (by decide) (λx=>FV rfl) (DZ N)).map id (λ_=>rfl) λ_ _ h=>OL h
def Qxm (x:(Int×Int×Int)):Prop:=(Bk .i64) x.1/\(Bk .i64) x.2.1/\(Bk .i64) x.2.2
theorem QBj {H:Type}{enc:TypeId×Value->H}{w:World}(N:Nat):Rd enc Tryz.prog w N 83 QcU (λx _=>Qxm x):=by
 have h0:=(Rd.array (e:=3) (n:=3) (tot:=3) (fs:=[(3,0),(3,1),(3,2)]) (N:=N) (t:=83) (P:=Tryz.prog) (w:=w) (enc:=enc) (by kernel_rfl) (YE.cons 3 0 1 (by kernel_rfl) (DZ N) (YE.cons 3 1 1 (by kernel_rfl) (DZ N) (YE.cons 3 2 1 (by kernel_rfl) (DZ N) YE.nil))));exact(h0.map (λx=>⟨x.1,x.2.1,x.2.2.1⟩) (λ_=>rfl) (λx d h=>by obtain⟨_,rfl,h⟩:=h;obtain⟨_,_,rfl,a0,h⟩:=h;obtain⟨_,_,rfl,a1,h⟩:=h;obtain⟨_,_,rfl,a2,h⟩:=h;exact⟨a0,a1,a2⟩)).mono (FT N)
def QnF (x:QL):Prop:=okS x.Name/\(Cm QqP) x.Vars/\Pr x.Guard/\(Bk .i64) x.Join/\(Bk .i64) x.Split/\(Cm QgU) x.Ins/\(Cm QgU) x.Outs/\(Cm (Bk .i64)) x.Cancel/\(Bk .i64) x.After/\Qxm x.Many
theorem QBk {H:Type}{enc:TypeId×Value->H}{w:World}(N:Nat):Rd enc Tryz.prog w N 86 QE (λx _=>QnF x):=by
 have h0:=(Rd.struct (fs:=[(9,0),(84,1),(72,2),(3,5),(3,6),(82,7),(82,8),(49,9),(3,10),(83,11)]) (tot:=14) (N:=N) (t:=86) (P:=Tryz.prog) (w:=w) (enc:=enc) (by kernel_rfl) (YE.cons 9 0 1 (by kernel_rfl) (Qj6 N) (YE.cons 84 1 1 (by kernel_rfl) (QBh N) (YE.cons 72 2 3 (by kernel_rfl) (QyN N) (YE.cons 3 5 1 (by kernel_rfl) (DZ N) (YE.cons 3 6 1 (by kernel_rfl) (DZ N) (YE.cons 82 7 1 (by kernel_rfl) (QyO N) (YE.cons 82 8 1 (by kernel_rfl) (QyO N) (YE.cons 49 9 1 (by kernel_rfl) (Qsi N) (YE.cons 3 10 1 (by kernel_rfl) (DZ N) (YE.cons 83 11 3 (by kernel_rfl) (QBj N) YE.nil)))))))))));exact(h0.map (λx=>⟨x.1,x.2.1,x.2.2.1,x.2.2.2.1,x.2.2.2.2.1,x.2.2.2.2.2.1,x.2.2.2.2.2.2.1,x.2.2.2.2.2.2.2.1,x.2.2.2.2.2.2.2.2.1,x.2.2.2.2.2.2.2.2.2.1⟩) (λx=>by rw[QpI];rfl) (λx d h=>by obtain⟨_,rfl,h⟩:=h;obtain⟨_,_,rfl,a0,h⟩:=h;obtain⟨_,_,rfl,a1,h⟩:=h;obtain⟨_,_,rfl,a2,h⟩:=h;obtain⟨_,_,rfl,a3,h⟩:=h;obtain⟨_,_,rfl,a4,h⟩:=h;obtain⟨_,_,rfl,a5,h⟩:=h;obtain⟨_,_,rfl,a6,h⟩:=h;obtain⟨_,_,rfl,a7,h⟩:=h;obtain⟨_,_,rfl,a8,h⟩:=h;obtain⟨_,_,rfl,a9,h⟩:=h;exact⟨a0,a1,a2,a3,a4,a5,a6,a7,a8,a9⟩)).mono (FT N)
theorem QyP {H:Type}{enc:TypeId×Value->H}{w:World}(N:Nat):Rd enc Tryz.prog w N 24 QuY (λx _=>(Cm QnF) x):=(Rd.slice (e:=86) (z:=14) (by kernel_rfl) (by kernel_rfl) (by decide) (λx=>FV rfl) (QBk N)).map id (λ_=>rfl) λ_ _ h=>OL h
def QgV (x:Qc):Prop:=(Cm ZJ) x.Colours/\(Cm QbG) x.Places/\(Cm QnF) x.Tasks/\(Bk .i64) x.From/\(Bk .i64) x.To
theorem QBO {H:Type}{enc:TypeId×Value->H}{w:World}(N:Nat):Rd enc Tryz.prog w N 26 Qi (λx _=>QgV x):=by
 have h0:=(Rd.struct (fs:=[(22,0),(23,1),(24,2),(3,3),(3,4)]) (tot:=5) (N:=N) (t:=26) (P:=Tryz.prog) (w:=w) (enc:=enc) (by kernel_rfl) (YE.cons 22 0 1 (by kernel_rfl) (QBb N) (YE.cons 23 1 1 (by kernel_rfl) (QBe N) (YE.cons 24 2 1 (by kernel_rfl) (QyP N) (YE.cons 3 3 1 (by kernel_rfl) (DZ N) (YE.cons 3 4 1 (by kernel_rfl) (DZ N) YE.nil))))));exact(h0.map (λx=>⟨x.1,x.2.1,x.2.2.1,x.2.2.2.1,x.2.2.2.2.1⟩) (λ_=>rfl) (λx d h=>by obtain⟨_,rfl,h⟩:=h;obtain⟨_,_,rfl,a0,h⟩:=h;obtain⟨_,_,rfl,a1,h⟩:=h;obtain⟨_,_,rfl,a2,h⟩:=h;obtain⟨_,_,rfl,a3,h⟩:=h;obtain⟨_,_,rfl,a4,h⟩:=h;exact⟨a0,a1,a2,a3,a4⟩)).mono (FT N)
def QtC (x:Qd):Prop:=(Bk .i64) x.Task/\(Cm (Bk .i64)) x.Vars/\(Cm (Bk .i64)) x.Ins/\(Cm (Bk .i64)) x.Outs
theorem QBl {H:Type}{enc:TypeId×Value->H}{w:World}(N:Nat):Rd enc Tryz.prog w N 51 Qy (λx _=>QtC x):=by
 have h0:=(Rd.struct (fs:=[(3,0),(49,1),(49,2),(49,3)]) (tot:=4) (N:=N) (t:=51) (P:=Tryz.prog) (w:=w) (enc:=enc) (by kernel_rfl) (YE.cons 3 0 1 (by kernel_rfl) (DZ N) (YE.cons 49 1 1 (by kernel_rfl) (Qsi N) (YE.cons 49 2 1 (by kernel_rfl) (Qsi N) (YE.cons 49 3 1 (by kernel_rfl) (Qsi N) YE.nil)))));exact(h0.map (λx=>⟨x.1,x.2.1,x.2.2.1,x.2.2.2.1⟩) (λ_=>rfl) (λx d h=>by obtain⟨_,rfl,h⟩:=h;obtain⟨_,_,rfl,a0,h⟩:=h;obtain⟨_,_,rfl,a1,h⟩:=h;obtain⟨_,_,rfl,a2,h⟩:=h;obtain⟨_,_,rfl,a3,h⟩:=h;exact⟨a0,a1,a2,a3⟩)).mono (FT N)
def Qh3 (x:Xt):Prop:=(Bk .i64) x.Do/\(Bk .i64) x.Id/\QtC x.Mode/\(Bk .i64) x.Num
theorem QBm {H:Type}{enc:TypeId×Value->H}{w:World}(N:Nat):Rd enc Tryz.prog w N 53 Jl (λx _=>Qh3 x):=by
 have h0:=(Rd.struct (fs:=[(3,0),(3,1),(51,2),(3,6)]) (tot:=7) (N:=N) (t:=53) (P:=Tryz.prog) (w:=w) (enc:=enc) (by kernel_rfl) (YE.cons 3 0 1 (by kernel_rfl) (DZ N) (YE.cons 3 1 1 (by kernel_rfl) (DZ N) (YE.cons 51 2 4 (by kernel_rfl) (QBl N) (YE.cons 3 6 1 (by kernel_rfl) (DZ N) YE.nil)))));exact(h0.map (λx=>⟨x.1,x.2.1,x.2.2.1,x.2.2.2.1⟩) (λ_=>rfl) (λx d h=>by obtain⟨_,rfl,h⟩:=h;obtain⟨_,_,rfl,a0,h⟩:=h;obtain⟨_,_,rfl,a1,h⟩:=h;obtain⟨_,_,rfl,a2,h⟩:=h;obtain⟨_,_,rfl,a3,h⟩:=h;exact⟨a0,a1,a2,a3⟩)).mono (FT N)
theorem QBn {H:Type}{enc:TypeId×Value->H}{w:World}(N:Nat):Rd enc Tryz.prog w N 27 QvP (λx _=>(Cm Qh3) x):=(Rd.slice (e:=53) (z:=7) (by kernel_rfl) (by kernel_rfl) (by decide) (λx=>FV rfl) (QBm N)).map id (λ_=>rfl) λ_ _ h=>OL h
theorem QAD {H:Type}{enc:TypeId×Value->H}{w:World}(N:Nat):Rd enc Tryz.prog w N 77 Qj (λx d=>(Cm QpH) x/\(Sz Tryz.prog 77 d->x.length*16<=reachBytes)):=(Rd.slice (e:=97) (z:=2) (by kernel_rfl) (by kernel_rfl) (by decide) (λx=>FV rfl) (QyM N)).map id (λ_=>rfl) λ_ _ h=>QzS (t:=77) (e:=97) (by kernel_rfl) (by kernel_rfl) h
theorem QAE {H:Type}{enc:TypeId×Value->H}{w:World}(N:Nat):Rd enc Tryz.prog w N 79 Xd (λx d=>QbG x/\(Sz Tryz.prog 79 d->x.First.length*16<=reachBytes)):=by
 have h0:=(Rd.struct (fs:=[(9,0),(3,1),(77,2)]) (tot:=3) (N:=N) (t:=79) (P:=Tryz.prog) (w:=w) (enc:=enc) (by kernel_rfl) (YE.cons 9 0 1 (by kernel_rfl) (Qj6 N) (YE.cons 3 1 1 (by kernel_rfl) (DZ N) (YE.cons 77 2 1 (by kernel_rfl) (QAD N) YE.nil))));exact(h0.map (λx=>⟨x.1,x.2.1,x.2.2.1⟩) (λ_=>rfl) (λx d h=>by obtain⟨_,rfl,h⟩:=h;obtain⟨_,_,rfl,a0,h⟩:=h;obtain⟨_,_,rfl,a1,h⟩:=h;obtain⟨_,_,rfl,a2,h⟩:=h;exact⟨⟨a0,a1,a2.1⟩,λhz=>a2.2 (Sz.field Tryz.underlying79 hz (j:=2) rfl rfl)⟩)).mono (FT N)
theorem QAF {H:Type}{enc:TypeId×Value->H}{w:World}(N:Nat):Rd enc Tryz.prog w N 23 Qlu (λx d=>(Cm QbG) x/\(Sz Tryz.prog 23 d->∀p∈x,p.First.length*16<=reachBytes)):=(Rd.slice (e:=79) (z:=3) (by kernel_rfl) (by kernel_rfl) (by decide) (λx=>FV rfl) (QAE N)).map id (λ_=>rfl) λ_ _ h=>⟨(szL (P:=Tryz.prog) (t:=23) (e:=79) (by kernel_rfl) h).1,λhz=>((szL (t:=23) (e:=79) (by kernel_rfl) h).2 hz).2⟩
theorem QAG {H:Type}{enc:TypeId×Value->H}{w:World}(N:Nat):Rd enc Tryz.prog w N 73 Qwd (λx d=>(Cm okS) x/\(Sz Tryz.prog 73 d->x.length*16<=reachBytes)):=(Rd.slice (e:=9) (z:=1) (by kernel_rfl) (by kernel_rfl) (by decide) (λx=>FV rfl) (Qj6 N)).map id (λ_=>rfl) λ_ _ h=>QzS (t:=73) (e:=9) (by kernel_rfl) (by kernel_rfl) h
theorem QAH {H:Type}{enc:TypeId×Value->H}{w:World}(N:Nat):Rd enc Tryz.prog w N 75 Xm (λx d=>ZJ x/\(Sz Tryz.prog 75 d->x.Names.length*16<=reachBytes)):=by
 have h0:=(Rd.struct (fs:=[(9,0),(3,1),(3,2),(3,3),(73,4),(3,5),(3,6)]) (tot:=7) (N:=N) (t:=75) (P:=Tryz.prog) (w:=w) (enc:=enc) (by kernel_rfl) (YE.cons 9 0 1 (by kernel_rfl) (Qj6 N) (YE.cons 3 1 1 (by kernel_rfl) (DZ N) (YE.cons 3 2 1 (by kernel_rfl) (DZ N) (YE.cons 3 3 1 (by kernel_rfl) (DZ N) (YE.cons 73 4 1 (by kernel_rfl) (QAG N) (YE.cons 3 5 1 (by kernel_rfl) (DZ N) (YE.cons 3 6 1 (by kernel_rfl) (DZ N) YE.nil))))))));exact(h0.map (λx=>⟨x.1,x.2.1,x.2.2.1,x.2.2.2.1,x.2.2.2.2.1,x.2.2.2.2.2.1,x.2.2.2.2.2.2.1⟩) (λ_=>rfl) (λx d h=>by obtain⟨_,rfl,h⟩:=h;obtain⟨_,_,rfl,a0,h⟩:=h;obtain⟨_,_,rfl,a1,h⟩:=h;obtain⟨_,_,rfl,a2,h⟩:=h;obtain⟨_,_,rfl,a3,h⟩:=h;obtain⟨_,_,rfl,a4,h⟩:=h;obtain⟨_,_,rfl,a5,h⟩:=h;obtain⟨_,_,rfl,a6,h⟩:=h;exact⟨⟨a0,a1,a2,a3,a4.1,a5,a6⟩,λhz=>a4.2 (Sz.field Tryz.underlying75 hz (j:=4) rfl rfl)⟩)).mono (FT N)
theorem QAI {H:Type}{enc:TypeId×Value->H}{w:World}(N:Nat):Rd enc Tryz.prog w N 22 Qi6 (λx d=>(Cm ZJ) x/\(Sz Tryz.prog 22 d->∀p∈x,p.Names.length*16<=reachBytes)):=(Rd.slice (e:=75) (z:=7) (by kernel_rfl) (by kernel_rfl) (by decide) (λx=>FV rfl) (QAH N)).map id (λ_=>rfl) λ_ _ h=>⟨(szL (P:=Tryz.prog) (t:=22) (e:=75) (by kernel_rfl) h).1,λhz=>((szL (t:=22) (e:=75) (by kernel_rfl) h).2 hz).2⟩
theorem QAJ {H:Type}{enc:TypeId×Value->H}{w:World}(N:Nat):Rd enc Tryz.prog w N 26 Qi (λx d=>QgV x/\(Sz Tryz.prog 26 d->(∀p∈x.Places,p.First.length*16<=reachBytes)/\(∀p∈x.Colours,p.Names.length*16<=reachBytes))):=by
 have h0:=(Rd.struct (fs:=[(22,0),(23,1),(24,2),(3,3),(3,4)]) (tot:=5) (N:=N) (t:=26) (P:=Tryz.prog) (w:=w) (enc:=enc) (by kernel_rfl) (YE.cons 22 0 1 (by kernel_rfl) (QAI N) (YE.cons 23 1 1 (by kernel_rfl) (QAF N) (YE.cons 24 2 1 (by kernel_rfl) (QyP N) (YE.cons 3 3 1 (by kernel_rfl) (DZ N) (YE.cons 3 4 1 (by kernel_rfl) (DZ N) YE.nil))))));exact(h0.map (λx=>⟨x.1,x.2.1,x.2.2.1,x.2.2.2.1,x.2.2.2.2.1⟩) (λ_=>rfl) (λx d h=>by obtain⟨_,rfl,h⟩:=h;obtain⟨_,_,rfl,a0,h⟩:=h;obtain⟨_,_,rfl,a1,h⟩:=h;obtain⟨_,_,rfl,a2,h⟩:=h;obtain⟨_,_,rfl,a3,h⟩:=h;obtain⟨_,_,rfl,a4,h⟩:=h;exact⟨⟨a0.1,a1.1,a2,a3,a4⟩,λhz=>⟨a1.2 (Sz.field Tryz.underlying26 hz (j:=1) rfl rfl),a0.2 (Sz.field Tryz.underlying26 hz (j:=0) rfl rfl)⟩⟩)).mono (FT N)
def Qh4 (x:Qc):Prop:=QgV x/\(∀p∈x.Places,p.First.length*16<=reachBytes)/\(∀p∈x.Colours,p.Names.length*16<=reachBytes)
namespace LawEngineWaits
theorem own : ownKnob Tryz.prog.godebug=none:=by kernel_rfl
theorem QzE : laidOutB Tryz.prog=true:=by kernel_rfl
theorem Qyy : ∀t∈Tryz.f3.params.toList,Tryz.prog.readableRec t=true/\t<Tryz.prog.types.size:=by
 have h:(Tryz.f3.params.toList.all λt=>Tryz.prog.readableRec t&&decide (t<Tryz.prog.types.size))=true:=by kernel_rfl
 intro t ht;have:=XS.1 h t ht;rw[QN,Qw]at this;exact this
theorem Qyz (os:Os)(args:Array Value):laidMetH Tryz.prog Rows.engineWaitsRow.laid ((World.doorLaid Tryz.prog 33 os).forCall (λ_ _=>0) ⟨#[],args,[]⟩).memory:=
 laidMetH_of_parts3 (fuel:=8) (laidMet_of_run' 8 (by kernel_rfl) (by kernel_rfl)) (by kernel_rfl) (by kernel_rfl)
theorem QyA {W:World}(h:laidMetH Tryz.prog Rows.engineWaitsRow.laid W):QbH Tryz.prog (λk=>k<W.heap.size) W:=
 QsJ (r:=[]) (g:=0) (t:=348) (e:=5) 1 (by kernel_rfl) (by kernel_rfl) (by kernel_rfl) (by kernel_rfl) (by kernel_rfl) (by kernel_rfl) (by kernel_rfl) (by kernel_rfl) h
set_option maxRecDepth 100000 in
theorem lifted (hF:∀(a0:Qc) (a1:(L_ Xt)),Qh4 a0->(Cm Qh3) a1->Un a0 a1=some true)(os:Os)(started:os.Started)(H:Type)(enc:TypeId×Value->H):
  ReturnsInHanded {} Tryz.checked os 3 .any (λw args=>(Rows.engineWaitsSpec.pre enc Tryz.prog Tryz.f3 Rows.engineWaitsRow.domain false w args/\laidMetH Tryz.prog Rows.engineWaitsRow.laid w)/\sizedMet enc Tryz.prog Tryz.f3 (OpenSpec.ofChange Rows.engineWaitsSpec) false w args) (Rows.engineWaitsSpec.post enc Tryz.prog Tryz.f3 false true false false):=by
 refine returnsInHanded_of_change_and (C:=Tryz.checked) (X:=λw _=>laidMetH Tryz.prog Rows.engineWaitsRow.laid w) (λ_ _ _ hh h=>h.of_heap hh) own started (by kernel_rfl) Tryz.func3
  (ChangeSpec.witness_shaped (enc:=enc) (C:=Tryz.checked) (os:=os) (X:=λw _=>laidMetH Tryz.prog Rows.engineWaitsRow.laid w) false (World.doorLaid Tryz.prog 33 os) #[.agg #[.slice none 0 0,.slice none 0 0,.slice none 0 0,.int .i64 0,.int .i64 0],.slice none 0 0] 8 rfl (World.shaped_of_RefB (by kernel_rfl) (by kernel_rfl)) (by kernel_rfl) (by kernel_rfl) (by kernel_rfl) (Qyz os _)) ?_
 intro W base args ds gs before hval0 hW hcnd hz hL _;have hval:∀(j:Nat) t v,Tryz.f3.params[j]? = some t->args[j]? = some v->Value.okWide Tryz.prog W .any base t v:=hval0;have hW1:=hW;obtain⟨p,q,hA0,hV,_,_,_⟩:=hW;obtain⟨rfl,_⟩:=trodVars_none hV;have hA:DataW.TrodAll enc Tryz.prog W 0 (λ_=>true) true Tryz.f3.params.toList args.toList ds p:=hA0;rw[Tryz.params3]at hA hval;obtain⟨v0,vs0,d0,ds0,p0,q0,hargs,rfl,_,h0,r0⟩:=trodAll_cons hA;obtain⟨v1,vs1,d1,ds1,p1,q1,rfl,rfl,_,h1,r1⟩:=trodAll_cons r0;obtain⟨rfl,rfl,_⟩:=trodAll_nil r1;obtain rfl:args=#[v0,v1]:=by cases args;simp_all
 obtain⟨a0,w0',c0⟩:=Rd.open (λN=>QAJ N) h0;have w0:Qh4 a0:=⟨w0'.1,w0'.2 (Sz.all hz (j:=0) (by kernel_rfl) rfl)⟩;obtain⟨_,rfl⟩:=QxH (P:=Tryz.prog) (t:=26) (fs:=[(22,0),(23,1),(24,2),(3,3),(3,4)]) (tot:=5) (by kernel_rfl) (hval 0 26 v0 rfl rfl);have e0:=c0.argS;obtain⟨a1,w1,c1⟩:=Rd.open (λN=>QBn N) h1;obtain⟨_,_,_,rfl⟩:=okWide_slice Tryz.underlying27 (hval 1 27 v1 rfl rfl);have e1:=(Cl.arg1 rfl c1);refine(QX.law (us:=[.agg (Qi a0),.sl 7 (a1.map Jl)]) (@Qf9 a0 a1 _ (hF a0 a1 w0 w1)) (QyA hL) rfl (λj x v hx hv=>?_)).mono λe W2 ⟨he,hb⟩=>?_
 ·match j with
  |0=>cases hx;cases hv;exact e0
  |1=>cases hx;cases hv;exact e1
  |j+2=>simp at hx
 subst he;exact⟨_,rfl,QxI QzE Qyy hW1 rfl hb rfl Tryz.underlying4 rfl rfl rfl⟩
theorem bA {a b:Bool}(x:a=true)(y:b=true):(a&&b)=true:=by rw[x,y];rfl
abbrev jR := Rows.engineWaitsRow
noncomputable abbrev jP := Tryz.pinned.checked.prog
abbrev jS := Rows.engineWaitsSpec
end LawEngineWaits
end Go.Proofs.YtholdcjomliiiaaGreatDoor
