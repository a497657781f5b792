/- TopSound, as it is given: of any net and numbers it answers true, with no condition but what its row asks of all calls. -/
import Derived.Test.YtopbdpofkfimkaaGreatDoorS2P3
import Derived.Test.YtopbdpofkfimkaaGreatDoorS2P3
import Derived.Test.YtopbdpofkfimkaaGreatDoorS2T3
import Derived.Test.YtopbdpofkfimkaaGreatDoorS2V3
import Derived.Test.YtopbdpofkfimkaaGreatDoorRows
import Derived.Test.YtopbdpofkfimkaaGreatDoorTie
import Derived.Test.YtopbdpofkfimkaaGreatDoorCards
import Derived.SevenTiedAt
import Derived.WalkKit
import Derived.ProofKit
import Derived.OpenShut
set_option linter.all false
noncomputable section
namespace Go.Proofs.YtopbdpofkfimkaaGreatDoor
open Go Go.RowKit Go.Vm Go.ChangeShapes Go.WideShapes Go.ChangeAt
theorem QhK {H:Type}{enc:TypeId×Value->H}{w:World}(N:Nat):Rd enc Tryz.prog w N 9 QG (λx _=>okS x):=(Rd.string (by kernel_rfl)).map id (λ_=>rfl) λ_ _ h=>h.1
theorem WA {H:Type}{enc:TypeId×Value->H}{w:World}(N:Nat):Rd enc Tryz.prog w N 3 Qa (λx _=>(BC .i64) x):=(Rd.int (by kernel_rfl)).map id (λ_=>rfl) λ_ _ h=>Qyo h
theorem Qzs {H:Type}{enc:TypeId×Value->H}{w:World}(N:Nat):Rd enc Tryz.prog w N 242 QuZ (λx _=>(AU okS) x):=(Rd.slice (e:=9) (z:=1) (by kernel_rfl) (by kernel_rfl) (by decide) (λx=>Es rfl) (QhK N)).map id (λ_=>rfl) λ_ _ h=>Pj h
def TW (x:Qj):Prop:=okS x.Name/\(BC .i64) x.Kind/\(BC .i64) x.Lo/\(BC .i64) x.Hi/\(AU okS) x.Names/\(BC .i64) x.First/\(BC .i64) x.Then
theorem Qzt {H:Type}{enc:TypeId×Value->H}{w:World}(N:Nat):Rd enc Tryz.prog w N 254 Qc (λx _=>TW x):=by
 have h0:=(Rd.struct (fs:=[(9,0),(3,1),(3,2),(3,3),(242,4),(3,5),(3,6)]) (tot:=7) (N:=N) (t:=254) (P:=Tryz.prog) (w:=w) (enc:=enc) (by kernel_rfl) (Yj.cons 9 0 1 (by kernel_rfl) (QhK N) (Yj.cons 3 1 1 (by kernel_rfl) (WA N) (Yj.cons 3 2 1 (by kernel_rfl) (WA N) (Yj.cons 3 3 1 (by kernel_rfl) (WA N) (Yj.cons 242 4 1 (by kernel_rfl) (Qzs N) (Yj.cons 3 5 1 (by kernel_rfl) (WA N) (Yj.cons 3 6 1 (by kernel_rfl) (WA N) Yj.nil))))))));exact(h0.map (λx=>⟨x.1,x.2.1,x.2.2.1,x.2.2.2.1,x.2.2.2.2.1,x.2.2.2.2.2.1,x.2.2.2.2.2.2.1⟩) (λ_=>rfl) (λx d h=>by obtain⟨_,rfl,h⟩:=h;obtain⟨_,_,rfl,a0,h⟩:=h;obtain⟨_,_,rfl,a1,h⟩:=h;obtain⟨_,_,rfl,a2,h⟩:=h;obtain⟨_,_,rfl,a3,h⟩:=h;obtain⟨_,_,rfl,a4,h⟩:=h;obtain⟨_,_,rfl,a5,h⟩:=h;obtain⟨_,_,rfl,a6,h⟩:=h;exact⟨a0,a1,a2,a3,a4,a5,a6⟩)).mono (PP N)
theorem Qz7 {H:Type}{enc:TypeId×Value->H}{w:World}(N:Nat):Rd enc Tryz.prog w N 22 QiP (λx _=>(AU TW) x):=(Rd.slice (e:=254) (z:=7) (by kernel_rfl) (by kernel_rfl) (by decide) (λx=>Es rfl) (Qzt N)).map id (λ_=>rfl) λ_ _ h=>Pj h
def Qo0 (x:(Int×Int)):Prop:=(BC .i64) x.1/\(BC .i64) x.2
theorem QvR {H:Type}{enc:TypeId×Value->H}{w:World}(N:Nat):Rd enc Tryz.prog w N 131 XS (λx _=>Qo0 x):=by
 have h0:=(Rd.array (e:=3) (n:=2) (tot:=2) (fs:=[(3,0),(3,1)]) (N:=N) (t:=131) (P:=Tryz.prog) (w:=w) (enc:=enc) (by kernel_rfl) (Yj.cons 3 0 1 (by kernel_rfl) (WA N) (Yj.cons 3 1 1 (by kernel_rfl) (WA N) Yj.nil)));exact(h0.map (λx=>⟨x.1,x.2.1⟩) (λ_=>rfl) (λx d h=>by obtain⟨_,rfl,h⟩:=h;obtain⟨_,_,rfl,a0,h⟩:=h;obtain⟨_,_,rfl,a1,h⟩:=h;exact⟨a0,a1⟩)).mono (PP N)
theorem Qz8 {H:Type}{enc:TypeId×Value->H}{w:World}(N:Nat):Rd enc Tryz.prog w N 87 Qs (λx _=>(AU Qo0) x):=(Rd.slice (e:=131) (z:=2) (by kernel_rfl) (by kernel_rfl) (by decide) (λx=>Es rfl) (QvR N)).map id (λ_=>rfl) λ_ _ h=>Pj h
def QaC (x:Qp):Prop:=okS x.Name/\(BC .i64) x.Colour/\(AU Qo0) x.First
theorem Qzu {H:Type}{enc:TypeId×Value->H}{w:World}(N:Nat):Rd enc Tryz.prog w N 129 Qd (λx _=>QaC x):=by
 have h0:=(Rd.struct (fs:=[(9,0),(3,1),(87,2)]) (tot:=3) (N:=N) (t:=129) (P:=Tryz.prog) (w:=w) (enc:=enc) (by kernel_rfl) (Yj.cons 9 0 1 (by kernel_rfl) (QhK N) (Yj.cons 3 1 1 (by kernel_rfl) (WA N) (Yj.cons 87 2 1 (by kernel_rfl) (Qz8 N) Yj.nil))));exact(h0.map (λx=>⟨x.1,x.2.1,x.2.2.1⟩) (λ_=>rfl) (λx d h=>by obtain⟨_,rfl,h⟩:=h;obtain⟨_,_,rfl,a0,h⟩:=h;obtain⟨_,_,rfl,a1,h⟩:=h;obtain⟨_,_,rfl,a2,h⟩:=h;exact⟨a0,a1,a2⟩)).mono (PP N)
theorem Qz9 {H:Type}{enc:TypeId×Value->H}{w:World}(N:Nat):Rd enc Tryz.prog w N 23 QlC (λx _=>(AU QaC) x):=(Rd.slice (e:=129) (z:=3) (by kernel_rfl) (by kernel_rfl) (by decide) (λx=>Es rfl) (Qzu N)).map id (λ_=>rfl) λ_ _ h=>Pj h
def Qkr (x:XB):Prop:=okS x.Name/\(BC .i64) x.Colour
theorem QvS {H:Type}{enc:TypeId×Value->H}{w:World}(N:Nat):Rd enc Tryz.prog w N 297 Xa (λx _=>Qkr x):=by
 have h0:=(Rd.struct (fs:=[(9,0),(3,1)]) (tot:=2) (N:=N) (t:=297) (P:=Tryz.prog) (w:=w) (enc:=enc) (by kernel_rfl) (Yj.cons 9 0 1 (by kernel_rfl) (QhK N) (Yj.cons 3 1 1 (by kernel_rfl) (WA N) Yj.nil)));exact(h0.map (λx=>⟨x.1,x.2.1⟩) (λ_=>rfl) (λx d h=>by obtain⟨_,rfl,h⟩:=h;obtain⟨_,_,rfl,a0,h⟩:=h;obtain⟨_,_,rfl,a1,h⟩:=h;exact⟨a0,a1⟩)).mono (PP N)
theorem Qzv {H:Type}{enc:TypeId×Value->H}{w:World}(N:Nat):Rd enc Tryz.prog w N 113 US (λx _=>(AU Qkr) x):=(Rd.slice (e:=297) (z:=2) (by kernel_rfl) (by kernel_rfl) (by decide) (λx=>Es rfl) (QvS N)).map id (λ_=>rfl) λ_ _ h=>Pj h
theorem Qo1 (x:Qo):QM x=[.i .i64 x.Kind,.i .i64 x.Num,.sl 3 (QS x.Kids)]:=by cases x;rw[QM]
inductive RV : Qo->Prop where
 |mk (x:Qo):(BC .i64) x.Kind->(BC .i64) x.Num->x.Kids.length<=maxLen->(∀k∈x.Kids,RV k)->RV x
theorem QsV {H:Type}{enc:TypeId×Value->H}{w:World}(N:Nat):Rd enc Tryz.prog w N 116 QM (λx _=>RV x):=by
 induction N with
 |zero=>exact Rd.zero|succ N ih=>
  have h0:=(Rd.struct (fs:=[(3,0),(3,1),(114,2)]) (tot:=3) (N:=N) (t:=116) (P:=Tryz.prog) (w:=w) (enc:=enc) (by kernel_rfl) (Yj.cons 3 0 1 (by kernel_rfl) (WA N) (Yj.cons 3 1 1 (by kernel_rfl) (WA N) (Yj.cons 114 2 1 (by kernel_rfl) (Rd.slice (e:=116) (z:=3) (by kernel_rfl) (by kernel_rfl) (by decide) (λx=>Es (by cases x;rfl)) ih) Yj.nil))));exact h0.map (λx=>⟨x.1,x.2.1,x.2.2.1⟩) (λx=>by simp only[QM];rw[KD];rfl) (λx d h=>by obtain⟨_,rfl,h⟩:=h;obtain⟨_,_,rfl,a0,h⟩:=h;obtain⟨_,_,rfl,a1,h⟩:=h;obtain⟨_,_,rfl,a2,h⟩:=h;exact RV.mk _ a0 a1 (Pj a2).1 (Pj a2).2)
def Qb5 (x:Xf):Prop:=(BC .i64) x.Place/\RV x.Expr
theorem QvT {H:Type}{enc:TypeId×Value->H}{w:World}(N:Nat):Rd enc Tryz.prog w N 300 QC (λx _=>Qb5 x):=by
 have h0:=(Rd.struct (fs:=[(3,0),(116,1)]) (tot:=4) (N:=N) (t:=300) (P:=Tryz.prog) (w:=w) (enc:=enc) (by kernel_rfl) (Yj.cons 3 0 1 (by kernel_rfl) (WA N) (Yj.cons 116 1 3 (by kernel_rfl) (QsV N) Yj.nil)));exact(h0.map (λx=>⟨x.1,x.2.1⟩) (λx=>by rw[Qo1];rfl) (λx d h=>by obtain⟨_,rfl,h⟩:=h;obtain⟨_,_,rfl,a0,h⟩:=h;obtain⟨_,_,rfl,a1,h⟩:=h;exact⟨a0,a1⟩)).mono (PP N)
theorem QvU {H:Type}{enc:TypeId×Value->H}{w:World}(N:Nat):Rd enc Tryz.prog w N 117 QqB (λx _=>(AU Qb5) x):=(Rd.slice (e:=300) (z:=4) (by kernel_rfl) (by kernel_rfl) (by decide) (λx=>Es rfl) (QvT N)).map id (λ_=>rfl) λ_ _ h=>Pj h
theorem QAa {H:Type}{enc:TypeId×Value->H}{w:World}(N:Nat):Rd enc Tryz.prog w N 39 XL (λx _=>(AU (BC .i64)) x):=(Rd.slice (e:=3) (z:=1) (by kernel_rfl) (by kernel_rfl) (by decide) (λx=>Es rfl) (WA N)).map id (λ_=>rfl) λ_ _ h=>Pj h
def QvV (x:(Int×Int×Int)):Prop:=(BC .i64) x.1/\(BC .i64) x.2.1/\(BC .i64) x.2.2
theorem QvW {H:Type}{enc:TypeId×Value->H}{w:World}(N:Nat):Rd enc Tryz.prog w N 118 Qkj (λx _=>QvV x):=by
 have h0:=(Rd.array (e:=3) (n:=3) (tot:=3) (fs:=[(3,0),(3,1),(3,2)]) (N:=N) (t:=118) (P:=Tryz.prog) (w:=w) (enc:=enc) (by kernel_rfl) (Yj.cons 3 0 1 (by kernel_rfl) (WA N) (Yj.cons 3 1 1 (by kernel_rfl) (WA N) (Yj.cons 3 2 1 (by kernel_rfl) (WA N) Yj.nil))));exact(h0.map (λx=>⟨x.1,x.2.1,x.2.2.1⟩) (λ_=>rfl) (λx d h=>by obtain⟨_,rfl,h⟩:=h;obtain⟨_,_,rfl,a0,h⟩:=h;obtain⟨_,_,rfl,a1,h⟩:=h;obtain⟨_,_,rfl,a2,h⟩:=h;exact⟨a0,a1,a2⟩)).mono (PP N)
def QdD (x:Qm):Prop:=okS x.Name/\(AU Qkr) x.Vars/\RV x.Guard/\(BC .i64) x.Join/\(BC .i64) x.Split/\(AU Qb5) x.Ins/\(AU Qb5) x.Outs/\(AU (BC .i64)) x.Cancel/\(BC .i64) x.After/\QvV x.Many
theorem Qzw {H:Type}{enc:TypeId×Value->H}{w:World}(N:Nat):Rd enc Tryz.prog w N 120 Qb (λx _=>QdD x):=by
 have h0:=(Rd.struct (fs:=[(9,0),(113,1),(116,2),(3,5),(3,6),(117,7),(117,8),(39,9),(3,10),(118,11)]) (tot:=14) (N:=N) (t:=120) (P:=Tryz.prog) (w:=w) (enc:=enc) (by kernel_rfl) (Yj.cons 9 0 1 (by kernel_rfl) (QhK N) (Yj.cons 113 1 1 (by kernel_rfl) (Qzv N) (Yj.cons 116 2 3 (by kernel_rfl) (QsV N) (Yj.cons 3 5 1 (by kernel_rfl) (WA N) (Yj.cons 3 6 1 (by kernel_rfl) (WA N) (Yj.cons 117 7 1 (by kernel_rfl) (QvU N) (Yj.cons 117 8 1 (by kernel_rfl) (QvU N) (Yj.cons 39 9 1 (by kernel_rfl) (QAa N) (Yj.cons 3 10 1 (by kernel_rfl) (WA N) (Yj.cons 118 11 3 (by kernel_rfl) (QvW N) Yj.nil)))))))))));exact(h0.map (λx=>⟨x.1,x.2.1,x.2.2.1,x.2.2.2.1,x.2.2.2.2.1,x.2.2.2.2.2.1,x.2.2.2.2.2.2.1,x.2.2.2.2.2.2.2.1,x.2.2.2.2.2.2.2.2.1,x.2.2.2.2.2.2.2.2.2.1⟩) (λx=>by rw[Qo1];rfl) (λx d h=>by obtain⟨_,rfl,h⟩:=h;obtain⟨_,_,rfl,a0,h⟩:=h;obtain⟨_,_,rfl,a1,h⟩:=h;obtain⟨_,_,rfl,a2,h⟩:=h;obtain⟨_,_,rfl,a3,h⟩:=h;obtain⟨_,_,rfl,a4,h⟩:=h;obtain⟨_,_,rfl,a5,h⟩:=h;obtain⟨_,_,rfl,a6,h⟩:=h;obtain⟨_,_,rfl,a7,h⟩:=h;obtain⟨_,_,rfl,a8,h⟩:=h;obtain⟨_,_,rfl,a9,h⟩:=h;exact⟨a0,a1,a2,a3,a4,a5,a6,a7,a8,a9⟩)).mono (PP N)
theorem QAb {H:Type}{enc:TypeId×Value->H}{w:World}(N:Nat):Rd enc Tryz.prog w N 24 Qnp (λx _=>(AU QdD) x):=(Rd.slice (e:=120) (z:=14) (by kernel_rfl) (by kernel_rfl) (by decide) (λx=>Es rfl) (Qzw N)).map id (λ_=>rfl) λ_ _ h=>Pj h
def QgL (x:Qg):Prop:=(AU TW) x.Colours/\(AU QaC) x.Places/\(AU QdD) x.Tasks/\(BC .i64) x.From/\(BC .i64) x.To
theorem QAz {H:Type}{enc:TypeId×Value->H}{w:World}(N:Nat):Rd enc Tryz.prog w N 26 Qi (λx _=>QgL x):=by
 have h0:=(Rd.struct (fs:=[(22,0),(23,1),(24,2),(3,3),(3,4)]) (tot:=5) (N:=N) (t:=26) (P:=Tryz.prog) (w:=w) (enc:=enc) (by kernel_rfl) (Yj.cons 22 0 1 (by kernel_rfl) (Qz7 N) (Yj.cons 23 1 1 (by kernel_rfl) (Qz9 N) (Yj.cons 24 2 1 (by kernel_rfl) (QAb N) (Yj.cons 3 3 1 (by kernel_rfl) (WA N) (Yj.cons 3 4 1 (by kernel_rfl) (WA N) Yj.nil))))));exact(h0.map (λx=>⟨x.1,x.2.1,x.2.2.1,x.2.2.2.1,x.2.2.2.2.1⟩) (λ_=>rfl) (λx d h=>by obtain⟨_,rfl,h⟩:=h;obtain⟨_,_,rfl,a0,h⟩:=h;obtain⟨_,_,rfl,a1,h⟩:=h;obtain⟨_,_,rfl,a2,h⟩:=h;obtain⟨_,_,rfl,a3,h⟩:=h;obtain⟨_,_,rfl,a4,h⟩:=h;exact⟨a0,a1,a2,a3,a4⟩)).mono (PP N)
def QvX (x:(L_ ByteArray)):Prop:=x.length*16<=reachBytes
theorem Qx8 {H:Type}{enc:TypeId×Value->H}{w:World}(N:Nat):Rd enc Tryz.prog w N 242 QuZ (λx d=>(AU okS) x/\(Sz Tryz.prog 242 d->QvX x)):=(Rd.slice (e:=9) (z:=1) (by kernel_rfl) (by kernel_rfl) (by decide) (λx=>Es rfl) (QhK N)).map id (λ_=>rfl) λ_ _ h=>Qsh (t:=242) (e:=9) (b:=16) (by kernel_rfl) (by kernel_rfl) h
def QvY (x:Qj):Prop:=QvX x.Names
theorem Qx9 {H:Type}{enc:TypeId×Value->H}{w:World}(N:Nat):Rd enc Tryz.prog w N 254 Qc (λx d=>TW x/\(Sz Tryz.prog 254 d->QvY x)):=by
 have h0:=(Rd.struct (fs:=[(9,0),(3,1),(3,2),(3,3),(242,4),(3,5),(3,6)]) (tot:=7) (N:=N) (t:=254) (P:=Tryz.prog) (w:=w) (enc:=enc) (by kernel_rfl) (Yj.cons 9 0 1 (by kernel_rfl) (QhK N) (Yj.cons 3 1 1 (by kernel_rfl) (WA N) (Yj.cons 3 2 1 (by kernel_rfl) (WA N) (Yj.cons 3 3 1 (by kernel_rfl) (WA N) (Yj.cons 242 4 1 (by kernel_rfl) (Qx8 N) (Yj.cons 3 5 1 (by kernel_rfl) (WA N) (Yj.cons 3 6 1 (by kernel_rfl) (WA N) Yj.nil))))))));exact(h0.map (λx=>⟨x.1,x.2.1,x.2.2.1,x.2.2.2.1,x.2.2.2.2.1,x.2.2.2.2.2.1,x.2.2.2.2.2.2.1⟩) (λ_=>rfl) (λx d h=>by obtain⟨_,rfl,h⟩:=h;obtain⟨_,_,rfl,a0,h⟩:=h;obtain⟨_,_,rfl,a1,h⟩:=h;obtain⟨_,_,rfl,a2,h⟩:=h;obtain⟨_,_,rfl,a3,h⟩:=h;obtain⟨_,_,rfl,a4,h⟩:=h;obtain⟨_,_,rfl,a5,h⟩:=h;obtain⟨_,_,rfl,a6,h⟩:=h;exact⟨⟨a0,a1,a2,a3,a4.1,a5,a6⟩,λhz=>a4.2 (Sz.field Tryz.underlying254 hz (j:=4) rfl rfl)⟩)).mono (PP N)
def Qxv (x:(L_ Qj)):Prop:=x.length*80<=reachBytes/\∀y∈x,QvY y
theorem Qzx {H:Type}{enc:TypeId×Value->H}{w:World}(N:Nat):Rd enc Tryz.prog w N 22 QiP (λx d=>(AU TW) x/\(Sz Tryz.prog 22 d->Qxv x)):=(Rd.slice (e:=254) (z:=7) (by kernel_rfl) (by kernel_rfl) (by decide) (λx=>Es rfl) (Qx9 N)).map id (λ_=>rfl) λ_ _ h=>Qwl (t:=22) (e:=254) (b:=80) (by kernel_rfl) (by kernel_rfl) h
def Qxw (x:(L_ (Int×Int))):Prop:=x.length*16<=reachBytes
theorem Qzy {H:Type}{enc:TypeId×Value->H}{w:World}(N:Nat):Rd enc Tryz.prog w N 87 Qs (λx d=>(AU Qo0) x/\(Sz Tryz.prog 87 d->Qxw x)):=(Rd.slice (e:=131) (z:=2) (by kernel_rfl) (by kernel_rfl) (by decide) (λx=>Es rfl) (QvR N)).map id (λ_=>rfl) λ_ _ h=>Qsh (t:=87) (e:=131) (b:=16) (by kernel_rfl) (by kernel_rfl) h
def QvZ (x:Qp):Prop:=Qxw x.First
theorem Qya {H:Type}{enc:TypeId×Value->H}{w:World}(N:Nat):Rd enc Tryz.prog w N 129 Qd (λx d=>QaC x/\(Sz Tryz.prog 129 d->QvZ x)):=by
 have h0:=(Rd.struct (fs:=[(9,0),(3,1),(87,2)]) (tot:=3) (N:=N) (t:=129) (P:=Tryz.prog) (w:=w) (enc:=enc) (by kernel_rfl) (Yj.cons 9 0 1 (by kernel_rfl) (QhK N) (Yj.cons 3 1 1 (by kernel_rfl) (WA N) (Yj.cons 87 2 1 (by kernel_rfl) (Qzy N) Yj.nil))));exact(h0.map (λx=>⟨x.1,x.2.1,x.2.2.1⟩) (λ_=>rfl) (λx d h=>by obtain⟨_,rfl,h⟩:=h;obtain⟨_,_,rfl,a0,h⟩:=h;obtain⟨_,_,rfl,a1,h⟩:=h;obtain⟨_,_,rfl,a2,h⟩:=h;exact⟨⟨a0,a1,a2.1⟩,λhz=>a2.2 (Sz.field Tryz.underlying129 hz (j:=2) rfl rfl)⟩)).mono (PP N)
def Qxx (x:(L_ Qp)):Prop:=x.length*48<=reachBytes/\∀y∈x,QvZ y
theorem Qzz {H:Type}{enc:TypeId×Value->H}{w:World}(N:Nat):Rd enc Tryz.prog w N 23 QlC (λx d=>(AU QaC) x/\(Sz Tryz.prog 23 d->Qxx x)):=(Rd.slice (e:=129) (z:=3) (by kernel_rfl) (by kernel_rfl) (by decide) (λx=>Es rfl) (Qya N)).map id (λ_=>rfl) λ_ _ h=>Qwl (t:=23) (e:=129) (b:=48) (by kernel_rfl) (by kernel_rfl) h
def Qv0 (x:(L_ XB)):Prop:=x.length*24<=reachBytes
theorem Qyb {H:Type}{enc:TypeId×Value->H}{w:World}(N:Nat):Rd enc Tryz.prog w N 113 US (λx d=>(AU Qkr) x/\(Sz Tryz.prog 113 d->Qv0 x)):=(Rd.slice (e:=297) (z:=2) (by kernel_rfl) (by kernel_rfl) (by decide) (λx=>Es rfl) (QvS N)).map id (λ_=>rfl) λ_ _ h=>Qsh (t:=113) (e:=297) (b:=24) (by kernel_rfl) (by kernel_rfl) h
def QsW (x:(L_ Xf)):Prop:=x.length*48<=reachBytes
theorem Qtx {H:Type}{enc:TypeId×Value->H}{w:World}(N:Nat):Rd enc Tryz.prog w N 117 QqB (λx d=>(AU Qb5) x/\(Sz Tryz.prog 117 d->QsW x)):=(Rd.slice (e:=300) (z:=4) (by kernel_rfl) (by kernel_rfl) (by decide) (λx=>Es rfl) (QvT N)).map id (λ_=>rfl) λ_ _ h=>Qsh (t:=117) (e:=300) (b:=48) (by kernel_rfl) (by kernel_rfl) h
def Qxy (x:(L_ Int)):Prop:=x.length*8<=reachBytes
theorem QzA {H:Type}{enc:TypeId×Value->H}{w:World}(N:Nat):Rd enc Tryz.prog w N 39 XL (λx d=>(AU (BC .i64)) x/\(Sz Tryz.prog 39 d->Qxy x)):=(Rd.slice (e:=3) (z:=1) (by kernel_rfl) (by kernel_rfl) (by decide) (λx=>Es rfl) (WA N)).map id (λ_=>rfl) λ_ _ h=>Qsh (t:=39) (e:=3) (b:=8) (by kernel_rfl) (by kernel_rfl) h
def Qv1 (x:Qm):Prop:=Qv0 x.Vars/\QsW x.Ins/\QsW x.Outs/\Qxy x.Cancel
theorem Qyc {H:Type}{enc:TypeId×Value->H}{w:World}(N:Nat):Rd enc Tryz.prog w N 120 Qb (λx d=>QdD x/\(Sz Tryz.prog 120 d->Qv1 x)):=by
 have h0:=(Rd.struct (fs:=[(9,0),(113,1),(116,2),(3,5),(3,6),(117,7),(117,8),(39,9),(3,10),(118,11)]) (tot:=14) (N:=N) (t:=120) (P:=Tryz.prog) (w:=w) (enc:=enc) (by kernel_rfl) (Yj.cons 9 0 1 (by kernel_rfl) (QhK N) (Yj.cons 113 1 1 (by kernel_rfl) (Qyb N) (Yj.cons 116 2 3 (by kernel_rfl) (QsV N) (Yj.cons 3 5 1 (by kernel_rfl) (WA N) (Yj.cons 3 6 1 (by kernel_rfl) (WA N) (Yj.cons 117 7 1 (by kernel_rfl) (Qtx N) (Yj.cons 117 8 1 (by kernel_rfl) (Qtx N) (Yj.cons 39 9 1 (by kernel_rfl) (QzA N) (Yj.cons 3 10 1 (by kernel_rfl) (WA N) (Yj.cons 118 11 3 (by kernel_rfl) (QvW N) Yj.nil)))))))))));exact(h0.map (λx=>⟨x.1,x.2.1,x.2.2.1,x.2.2.2.1,x.2.2.2.2.1,x.2.2.2.2.2.1,x.2.2.2.2.2.2.1,x.2.2.2.2.2.2.2.1,x.2.2.2.2.2.2.2.2.1,x.2.2.2.2.2.2.2.2.2.1⟩) (λ_=>rfl) (λx d h=>by obtain⟨_,rfl,h⟩:=h;obtain⟨_,_,rfl,a0,h⟩:=h;obtain⟨_,_,rfl,a1,h⟩:=h;obtain⟨_,_,rfl,a2,h⟩:=h;obtain⟨_,_,rfl,a3,h⟩:=h;obtain⟨_,_,rfl,a4,h⟩:=h;obtain⟨_,_,rfl,a5,h⟩:=h;obtain⟨_,_,rfl,a6,h⟩:=h;obtain⟨_,_,rfl,a7,h⟩:=h;obtain⟨_,_,rfl,a8,h⟩:=h;obtain⟨_,_,rfl,a9,h⟩:=h;exact⟨⟨a0,a1.1,a2,a3,a4,a5.1,a6.1,a7.1,a8,a9⟩,λhz=>⟨a1.2 (Sz.field Tryz.underlying120 hz (j:=1) rfl rfl),a5.2 (Sz.field Tryz.underlying120 hz (j:=5) rfl rfl),a6.2 (Sz.field Tryz.underlying120 hz (j:=6) rfl rfl),a7.2 (Sz.field Tryz.underlying120 hz (j:=7) rfl rfl)⟩⟩)).mono (PP N)
def Qxz (x:(L_ Qm)):Prop:=x.length*200<=reachBytes/\∀y∈x,Qv1 y
theorem QzB {H:Type}{enc:TypeId×Value->H}{w:World}(N:Nat):Rd enc Tryz.prog w N 24 Qnp (λx d=>(AU QdD) x/\(Sz Tryz.prog 24 d->Qxz x)):=(Rd.slice (e:=120) (z:=14) (by kernel_rfl) (by kernel_rfl) (by decide) (λx=>Es rfl) (Qyc N)).map id (λ_=>rfl) λ_ _ h=>Qwl (t:=24) (e:=120) (b:=200) (by kernel_rfl) (by kernel_rfl) h
def QrH (x:Qg):Prop:=Qxv x.Colours/\Qxx x.Places/\Qxz x.Tasks
theorem QzC {H:Type}{enc:TypeId×Value->H}{w:World}(N:Nat):Rd enc Tryz.prog w N 26 Qi (λx d=>QgL x/\(Sz Tryz.prog 26 d->QrH x)):=by
 have h0:=(Rd.struct (fs:=[(22,0),(23,1),(24,2),(3,3),(3,4)]) (tot:=5) (N:=N) (t:=26) (P:=Tryz.prog) (w:=w) (enc:=enc) (by kernel_rfl) (Yj.cons 22 0 1 (by kernel_rfl) (Qzx N) (Yj.cons 23 1 1 (by kernel_rfl) (Qzz N) (Yj.cons 24 2 1 (by kernel_rfl) (QzB N) (Yj.cons 3 3 1 (by kernel_rfl) (WA N) (Yj.cons 3 4 1 (by kernel_rfl) (WA N) Yj.nil))))));exact(h0.map (λx=>⟨x.1,x.2.1,x.2.2.1,x.2.2.2.1,x.2.2.2.2.1⟩) (λ_=>rfl) (λx d h=>by obtain⟨_,rfl,h⟩:=h;obtain⟨_,_,rfl,a0,h⟩:=h;obtain⟨_,_,rfl,a1,h⟩:=h;obtain⟨_,_,rfl,a2,h⟩:=h;obtain⟨_,_,rfl,a3,h⟩:=h;obtain⟨_,_,rfl,a4,h⟩:=h;exact⟨⟨a0.1,a1.1,a2.1,a3,a4⟩,λhz=>⟨a0.2 (Sz.field Tryz.underlying26 hz (j:=0) rfl rfl),a1.2 (Sz.field Tryz.underlying26 hz (j:=1) rfl rfl),a2.2 (Sz.field Tryz.underlying26 hz (j:=2) rfl rfl)⟩⟩)).mono (PP N)
namespace LawTopSound
theorem own : ownKnob Tryz.prog.godebug=none:=by kernel_rfl
theorem Qyd : laidOutB Tryz.prog=true:=by kernel_rfl
theorem Qxi : ∀t∈Tryz.f3.params.toList,Tryz.prog.readableRec t=true/\t<Tryz.prog.types.size:=by
 have h:(Tryz.f3.params.toList.all λt=>Tryz.prog.readableRec t&&decide (t<Tryz.prog.types.size))=true:=by kernel_rfl
 intro t ht;have:=XM.1 h t ht;rw[QL,QT]at this;exact this
theorem Qxj (os:Os)(args:Array Value):laidMetH Tryz.prog Rows.topSoundRow.laid ((World.doorLaid Tryz.prog 33 os).forCall (λ_ _=>0) ⟨#[],args,[]⟩).memory:=
 laidMetH_of_parts3 (fuel:=8) (laidMet_of_run' 8 (by kernel_rfl) (by kernel_rfl)) (by kernel_rfl) (by kernel_rfl)
theorem Qxk {W:World}(h:laidMetH Tryz.prog Rows.topSoundRow.laid W):QaD Tryz.prog (λk=>k<W.heap.size) W:=
 Qsg (r:=[]) (g:=0) (t:=513) (e:=5) 1 (by kernel_rfl) (by kernel_rfl) (by kernel_rfl) (by kernel_rfl) (by kernel_rfl) (by kernel_rfl) (by kernel_rfl) (by kernel_rfl) h
set_option maxRecDepth 100000 in
theorem lifted (hF:∀(a0:Qg) (a1:Int) (a2:Int),(QgL a0/\QrH a0)->(BC .i64) a1->(BC .i64) a2->FH a0 a1 a2=some true)(os:Os)(started:os.Started)(H:Type)(enc:TypeId×Value->H):
  ReturnsInHanded {} Tryz.checked os 3 .any (λw args=>(Rows.topSoundSpec.pre enc Tryz.prog Tryz.f3 Rows.topSoundRow.domain false w args/\laidMetH Tryz.prog Rows.topSoundRow.laid w)/\sizedMet enc Tryz.prog Tryz.f3 (OpenSpec.ofChange Rows.topSoundSpec) false w args) (Rows.topSoundSpec.post enc Tryz.prog Tryz.f3 false true false false):=by
 refine returnsInHanded_of_change_and (C:=Tryz.checked) (X:=λw _=>laidMetH Tryz.prog Rows.topSoundRow.laid w) (λ_ _ _ hh h=>h.of_heap hh) own started (by kernel_rfl) Tryz.func3
  (ChangeSpec.witness_shaped (enc:=enc) (C:=Tryz.checked) (os:=os) (X:=λw _=>laidMetH Tryz.prog Rows.topSoundRow.laid w) false (World.doorLaid Tryz.prog 33 os) #[.agg #[.slice none 0 0,.slice none 0 0,.slice none 0 0,.int .i64 0,.int .i64 0],.int .i64 0,.int .i64 0] 8 rfl (World.shaped_of_RefB (by kernel_rfl) (by kernel_rfl)) (by kernel_rfl) (by kernel_rfl) (by kernel_rfl) (Qxj os _)) ?_
 intro W base args ds gs before hval0 hW hcnd hz hL _;have hval:∀(j:Nat) t v,Tryz.f3.params[j]? = some t->args[j]? = some v->Value.okWide Tryz.prog W .any base t v:=hval0;have hW1:=hW;obtain⟨p,q,hA0,hV,_,_,_⟩:=hW;obtain⟨rfl,_⟩:=trodVars_none hV;have hA:DataW.TrodAll enc Tryz.prog W 0 (λ_=>true) true Tryz.f3.params.toList args.toList ds p:=hA0;rw[Tryz.params3]at hA hval;obtain⟨v0,vs0,d0,ds0,p0,q0,hargs,rfl,_,h0,r0⟩:=trodAll_cons hA;obtain⟨v1,vs1,d1,ds1,p1,q1,rfl,rfl,_,h1,r1⟩:=trodAll_cons r0;obtain⟨v2,vs2,d2,ds2,p2,q2,rfl,rfl,_,h2,r2⟩:=trodAll_cons r1;obtain⟨rfl,rfl,_⟩:=trodAll_nil r2;obtain rfl:args=#[v0,v1,v2]:=by cases args;simp_all
 obtain⟨a0,w0',c0⟩:=Rd.open (λN=>QzC N) h0;have w0:=And.intro w0'.1 (w0'.2 (Sz.all hz (j:=0) (by kernel_rfl) rfl));obtain⟨_,rfl⟩:=Qwj (P:=Tryz.prog) (t:=26) (fs:=[(22,0),(23,1),(24,2),(3,3),(3,4)]) (tot:=5) (by kernel_rfl) (hval 0 26 v0 rfl rfl);have e0:=c0.argS;obtain⟨a1,w1,c1⟩:=Rd.open (λN=>WA N) h1;obtain⟨_,rfl⟩:=okWide_int Tryz.underlying3 (hval 1 3 v1 rfl rfl);have e1:=(Cl.arg1 rfl c1);obtain⟨a2,w2,c2⟩:=Rd.open (λN=>WA N) h2;obtain⟨_,rfl⟩:=okWide_int Tryz.underlying3 (hval 2 3 v2 rfl rfl);have e2:=(Cl.arg1 rfl c2);refine(QQ.law (us:=[.agg (Qi a0),.i .i64 a1,.i .i64 a2]) (@Qlj a0 a1 a2 _ (hF a0 a1 a2 w0 w1 w2)) (Qxk hL) rfl (λj x v hx hv=>?_)).mono λe W2 ⟨he,hb⟩=>?_
 ·match j with
  |0=>cases hx;cases hv;exact e0
  |1=>cases hx;cases hv;exact e1
  |2=>cases hx;cases hv;exact e2
  |j+3=>simp at hx
 subst he;exact⟨_,rfl,Qwk Qyd Qxi hW1 rfl hb rfl Tryz.underlying4 rfl rfl rfl⟩
theorem bA {a b:Bool}(x:a=true)(y:b=true):(a&&b)=true:=by rw[x,y];rfl
abbrev jR := Rows.topSoundRow
noncomputable abbrev jP := Tryz.pinned.checked.prog
abbrev jS := Rows.topSoundSpec
end LawTopSound
end Go.Proofs.YtopbdpofkfimkaaGreatDoor
