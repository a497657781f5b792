/- EngineRuns, as it is given: of any net and any calls it answers true, with no condition but what its row asks of all calls. -/
import Derived.Test.YthihjgnmfnohoaaGreatDoorR1P4
import Derived.Test.YthihjgnmfnohoaaGreatDoorR1T2
import Derived.Test.YthihjgnmfnohoaaGreatDoorR1V3
import Derived.Test.YthihjgnmfnohoaaGreatDoorRows
import Derived.Test.YthihjgnmfnohoaaGreatDoorTie
import Derived.Test.YthihjgnmfnohoaaGreatDoorCards
import Derived.SevenTiedAt
import Derived.WalkKit
import Derived.ProofKit
import Derived.OpenShut
set_option linter.all false
noncomputable section
namespace Go.Proofs.YthihjgnmfnohoaaGreatDoor
open Go Go.RowKit Go.Vm Go.ChangeShapes Go.WideShapes Go.ChangeAt
def QlH (x:L_ Xh):L_ V:=[.sl 7 (x.map YF)]
theorem QeM {H:Type}{enc:TypeId×Value->H}{w:World}(N:Nat):Rd enc Tryz.prog w N 9 Hm (λx _=>okS x):=(Rd.string (by kernel_rfl)).map id (λ_=>rfl) λ_ _ h=>h.1
theorem Kn {H:Type}{enc:TypeId×Value->H}{w:World}(N:Nat):Rd enc Tryz.prog w N 3 Qb (λx _=>(Uj .i64) x):=(Rd.int (by kernel_rfl)).map id (λ_=>rfl) λ_ _ h=>QuS h
theorem Qv7 {H:Type}{enc:TypeId×Value->H}{w:World}(N:Nat):Rd enc Tryz.prog w N 72 QrE (λx _=>(GU okS) x):=(Rd.slice (e:=9) (z:=1) (by kernel_rfl) (by kernel_rfl) (by decide) (λx=>Gu rfl) (QeM N)).map id (λ_=>rfl) λ_ _ h=>LZ h
def Su (x:QR):Prop:=okS x.Name/\(Uj .i64) x.Kind/\(Uj .i64) x.Lo/\(Uj .i64) x.Hi/\(GU okS) x.Names/\(Uj .i64) x.First/\(Uj .i64) x.Then
theorem Qv8 {H:Type}{enc:TypeId×Value->H}{w:World}(N:Nat):Rd enc Tryz.prog w N 74 XI (λx _=>Su x):=by
 have h0:=(Rd.struct (fs:=[(9,0),(3,1),(3,2),(3,3),(72,4),(3,5),(3,6)]) (tot:=7) (N:=N) (t:=74) (P:=Tryz.prog) (w:=w) (enc:=enc) (by kernel_rfl) (XP.cons 9 0 1 (by kernel_rfl) (QeM N) (XP.cons 3 1 1 (by kernel_rfl) (Kn N) (XP.cons 3 2 1 (by kernel_rfl) (Kn N) (XP.cons 3 3 1 (by kernel_rfl) (Kn N) (XP.cons 72 4 1 (by kernel_rfl) (Qv7 N) (XP.cons 3 5 1 (by kernel_rfl) (Kn N) (XP.cons 3 6 1 (by kernel_rfl) (Kn N) XP.nil))))))));exact(h0.map (λx=>⟨x.1,x.2.1,x.2.2.1,x.2.2.2.1,x.2.2.2.2.1,x.2.2.2.2.2.1,x.2.2.2.2.2.2.1⟩) (λ_=>rfl) (λx d h=>by obtain⟨_,rfl,h⟩:=h;obtain⟨_,_,rfl,a0,h⟩:=h;obtain⟨_,_,rfl,a1,h⟩:=h;obtain⟨_,_,rfl,a2,h⟩:=h;obtain⟨_,_,rfl,a3,h⟩:=h;obtain⟨_,_,rfl,a4,h⟩:=h;obtain⟨_,_,rfl,a5,h⟩:=h;obtain⟨_,_,rfl,a6,h⟩:=h;exact⟨a0,a1,a2,a3,a4,a5,a6⟩)).mono (EG N)
theorem Qv9 {H:Type}{enc:TypeId×Value->H}{w:World}(N:Nat):Rd enc Tryz.prog w N 22 QfN (λx _=>(GU Su) x):=(Rd.slice (e:=74) (z:=7) (by kernel_rfl) (by kernel_rfl) (by decide) (λx=>Gu rfl) (Qv8 N)).map id (λ_=>rfl) λ_ _ h=>LZ h
def QlI (x:(Int×Int)):Prop:=(Uj .i64) x.1/\(Uj .i64) x.2
theorem QtH {H:Type}{enc:TypeId×Value->H}{w:World}(N:Nat):Rd enc Tryz.prog w N 86 Qy (λx _=>QlI x):=by
 have h0:=(Rd.array (e:=3) (n:=2) (tot:=2) (fs:=[(3,0),(3,1)]) (N:=N) (t:=86) (P:=Tryz.prog) (w:=w) (enc:=enc) (by kernel_rfl) (XP.cons 3 0 1 (by kernel_rfl) (Kn N) (XP.cons 3 1 1 (by kernel_rfl) (Kn N) XP.nil)));exact(h0.map (λx=>⟨x.1,x.2.1⟩) (λ_=>rfl) (λx d h=>by obtain⟨_,rfl,h⟩:=h;obtain⟨_,_,rfl,a0,h⟩:=h;obtain⟨_,_,rfl,a1,h⟩:=h;exact⟨a0,a1⟩)).mono (EG N)
theorem Qwa {H:Type}{enc:TypeId×Value->H}{w:World}(N:Nat):Rd enc Tryz.prog w N 76 Ql (λx _=>(GU QlI) x):=(Rd.slice (e:=86) (z:=2) (by kernel_rfl) (by kernel_rfl) (by decide) (λx=>Gu rfl) (QtH N)).map id (λ_=>rfl) λ_ _ h=>LZ h
def VC (x:XR):Prop:=okS x.Name/\(Uj .i64) x.Colour/\(GU QlI) x.First
theorem Qwb {H:Type}{enc:TypeId×Value->H}{w:World}(N:Nat):Rd enc Tryz.prog w N 78 Xk (λx _=>VC x):=by
 have h0:=(Rd.struct (fs:=[(9,0),(3,1),(76,2)]) (tot:=3) (N:=N) (t:=78) (P:=Tryz.prog) (w:=w) (enc:=enc) (by kernel_rfl) (XP.cons 9 0 1 (by kernel_rfl) (QeM N) (XP.cons 3 1 1 (by kernel_rfl) (Kn N) (XP.cons 76 2 1 (by kernel_rfl) (Qwa N) XP.nil))));exact(h0.map (λx=>⟨x.1,x.2.1,x.2.2.1⟩) (λ_=>rfl) (λx d h=>by obtain⟨_,rfl,h⟩:=h;obtain⟨_,_,rfl,a0,h⟩:=h;obtain⟨_,_,rfl,a1,h⟩:=h;obtain⟨_,_,rfl,a2,h⟩:=h;exact⟨a0,a1,a2⟩)).mono (EG N)
theorem Qwc {H:Type}{enc:TypeId×Value->H}{w:World}(N:Nat):Rd enc Tryz.prog w N 23 QhY (λx _=>(GU VC) x):=(Rd.slice (e:=78) (z:=3) (by kernel_rfl) (by kernel_rfl) (by decide) (λx=>Gu rfl) (Qwb N)).map id (λ_=>rfl) λ_ _ h=>LZ h
def Qg3 (x:Je):Prop:=okS x.Name/\(Uj .i64) x.Colour
theorem Qsw {H:Type}{enc:TypeId×Value->H}{w:World}(N:Nat):Rd enc Tryz.prog w N 124 Yz (λx _=>Qg3 x):=by
 have h0:=(Rd.struct (fs:=[(9,0),(3,1)]) (tot:=2) (N:=N) (t:=124) (P:=Tryz.prog) (w:=w) (enc:=enc) (by kernel_rfl) (XP.cons 9 0 1 (by kernel_rfl) (QeM N) (XP.cons 3 1 1 (by kernel_rfl) (Kn N) XP.nil)));exact(h0.map (λx=>⟨x.1,x.2.1⟩) (λ_=>rfl) (λx d h=>by obtain⟨_,rfl,h⟩:=h;obtain⟨_,_,rfl,a0,h⟩:=h;obtain⟨_,_,rfl,a1,h⟩:=h;exact⟨a0,a1⟩)).mono (EG N)
theorem Qwd {H:Type}{enc:TypeId×Value->H}{w:World}(N:Nat):Rd enc Tryz.prog w N 59 Aq (λx _=>(GU Qg3) x):=(Rd.slice (e:=124) (z:=2) (by kernel_rfl) (by kernel_rfl) (by decide) (λx=>Gu rfl) (Qsw N)).map id (λ_=>rfl) λ_ _ h=>LZ h
theorem QlJ (x:Qn):QS x=[.i .i64 x.Kind,.i .i64 x.Num,.sl 3 (Wc x.Kids)]:=by cases x;rw[QS]
inductive Mw : Qn->Prop where
 | mk (x:Qn):(Uj .i64) x.Kind->(Uj .i64) x.Num->x.Kids.length<=maxLen->(∀k∈x.Kids,Mw k)->Mw x
theorem Qrd {H:Type}{enc:TypeId×Value->H}{w:World}(N:Nat):Rd enc Tryz.prog w N 62 QS (λx _=>Mw x):=by
 induction N with
 | zero=>exact Rd.zero
 | succ N ih=>
  have h0:=(Rd.struct (fs:=[(3,0),(3,1),(60,2)]) (tot:=3) (N:=N) (t:=62) (P:=Tryz.prog) (w:=w) (enc:=enc) (by kernel_rfl) (XP.cons 3 0 1 (by kernel_rfl) (Kn N) (XP.cons 3 1 1 (by kernel_rfl) (Kn N) (XP.cons 60 2 1 (by kernel_rfl) (Rd.slice (e:=62) (z:=3) (by kernel_rfl) (by kernel_rfl) (by decide) (λx=>Gu (by cases x;rfl)) ih) XP.nil))));exact h0.map (λx=>⟨x.1,x.2.1,x.2.2.1⟩) (λx=>by simp only[QS];rw[MF];rfl) (λx d h=>by obtain⟨_,rfl,h⟩:=h;obtain⟨_,_,rfl,a0,h⟩:=h;obtain⟨_,_,rfl,a1,h⟩:=h;obtain⟨_,_,rfl,a2,h⟩:=h;exact Mw.mk _ a0 a1 (LZ a2).1 (LZ a2).2)
def ZW (x:Jf):Prop:=(Uj .i64) x.Place/\Mw x.Expr
theorem QtI {H:Type}{enc:TypeId×Value->H}{w:World}(N:Nat):Rd enc Tryz.prog w N 80 Kj (λx _=>ZW x):=by
 have h0:=(Rd.struct (fs:=[(3,0),(62,1)]) (tot:=4) (N:=N) (t:=80) (P:=Tryz.prog) (w:=w) (enc:=enc) (by kernel_rfl) (XP.cons 3 0 1 (by kernel_rfl) (Kn N) (XP.cons 62 1 3 (by kernel_rfl) (Qrd N) XP.nil)));exact(h0.map (λx=>⟨x.1,x.2.1⟩) (λx=>by rw[QlJ];rfl) (λx d h=>by obtain⟨_,rfl,h⟩:=h;obtain⟨_,_,rfl,a0,h⟩:=h;obtain⟨_,_,rfl,a1,h⟩:=h;exact⟨a0,a1⟩)).mono (EG N)
theorem QtJ {H:Type}{enc:TypeId×Value->H}{w:World}(N:Nat):Rd enc Tryz.prog w N 63 Qm6 (λx _=>(GU ZW) x):=(Rd.slice (e:=80) (z:=4) (by kernel_rfl) (by kernel_rfl) (by decide) (λx=>Gu rfl) (QtI N)).map id (λ_=>rfl) λ_ _ h=>LZ h
theorem Qoe {H:Type}{enc:TypeId×Value->H}{w:World}(N:Nat):Rd enc Tryz.prog w N 44 XA (λx _=>(GU (Uj .i64)) x):=(Rd.slice (e:=3) (z:=1) (by kernel_rfl) (by kernel_rfl) (by decide) (λx=>Gu rfl) (Kn N)).map id (λ_=>rfl) λ_ _ h=>LZ h
def Qsx (x:(Int×Int×Int)):Prop:=(Uj .i64) x.1/\(Uj .i64) x.2.1/\(Uj .i64) x.2.2
theorem QtK {H:Type}{enc:TypeId×Value->H}{w:World}(N:Nat):Rd enc Tryz.prog w N 64 ZT (λx _=>Qsx x):=by
 have h0:=(Rd.array (e:=3) (n:=3) (tot:=3) (fs:=[(3,0),(3,1),(3,2)]) (N:=N) (t:=64) (P:=Tryz.prog) (w:=w) (enc:=enc) (by kernel_rfl) (XP.cons 3 0 1 (by kernel_rfl) (Kn N) (XP.cons 3 1 1 (by kernel_rfl) (Kn N) (XP.cons 3 2 1 (by kernel_rfl) (Kn N) XP.nil))));exact(h0.map (λx=>⟨x.1,x.2.1,x.2.2.1⟩) (λ_=>rfl) (λx d h=>by obtain⟨_,rfl,h⟩:=h;obtain⟨_,_,rfl,a0,h⟩:=h;obtain⟨_,_,rfl,a1,h⟩:=h;obtain⟨_,_,rfl,a2,h⟩:=h;exact⟨a0,a1,a2⟩)).mono (EG N)
def Qbm (x:QW):Prop:=okS x.Name/\(GU Qg3) x.Vars/\Mw x.Guard/\(Uj .i64) x.Join/\(Uj .i64) x.Split/\(GU ZW) x.Ins/\(GU ZW) x.Outs/\(GU (Uj .i64)) x.Cancel/\(Uj .i64) x.After/\Qsx x.Many
theorem Qwe {H:Type}{enc:TypeId×Value->H}{w:World}(N:Nat):Rd enc Tryz.prog w N 66 QC (λx _=>Qbm x):=by
 have h0:=(Rd.struct (fs:=[(9,0),(59,1),(62,2),(3,5),(3,6),(63,7),(63,8),(44,9),(3,10),(64,11)]) (tot:=14) (N:=N) (t:=66) (P:=Tryz.prog) (w:=w) (enc:=enc) (by kernel_rfl) (XP.cons 9 0 1 (by kernel_rfl) (QeM N) (XP.cons 59 1 1 (by kernel_rfl) (Qwd N) (XP.cons 62 2 3 (by kernel_rfl) (Qrd N) (XP.cons 3 5 1 (by kernel_rfl) (Kn N) (XP.cons 3 6 1 (by kernel_rfl) (Kn N) (XP.cons 63 7 1 (by kernel_rfl) (QtJ N) (XP.cons 63 8 1 (by kernel_rfl) (QtJ N) (XP.cons 44 9 1 (by kernel_rfl) (Qoe N) (XP.cons 3 10 1 (by kernel_rfl) (Kn N) (XP.cons 64 11 3 (by kernel_rfl) (QtK N) XP.nil)))))))))));exact(h0.map (λx=>⟨x.1,x.2.1,x.2.2.1,x.2.2.2.1,x.2.2.2.2.1,x.2.2.2.2.2.1,x.2.2.2.2.2.2.1,x.2.2.2.2.2.2.2.1,x.2.2.2.2.2.2.2.2.1,x.2.2.2.2.2.2.2.2.2.1⟩) (λx=>by rw[QlJ];rfl) (λx d h=>by obtain⟨_,rfl,h⟩:=h;obtain⟨_,_,rfl,a0,h⟩:=h;obtain⟨_,_,rfl,a1,h⟩:=h;obtain⟨_,_,rfl,a2,h⟩:=h;obtain⟨_,_,rfl,a3,h⟩:=h;obtain⟨_,_,rfl,a4,h⟩:=h;obtain⟨_,_,rfl,a5,h⟩:=h;obtain⟨_,_,rfl,a6,h⟩:=h;obtain⟨_,_,rfl,a7,h⟩:=h;obtain⟨_,_,rfl,a8,h⟩:=h;obtain⟨_,_,rfl,a9,h⟩:=h;exact⟨a0,a1,a2,a3,a4,a5,a6,a7,a8,a9⟩)).mono (EG N)
theorem Qwf {H:Type}{enc:TypeId×Value->H}{w:World}(N:Nat):Rd enc Tryz.prog w N 24 Qj7 (λx _=>(GU Qbm) x):=(Rd.slice (e:=66) (z:=14) (by kernel_rfl) (by kernel_rfl) (by decide) (λx=>Gu rfl) (Qwe N)).map id (λ_=>rfl) λ_ _ h=>LZ h
def ZX (x:Qh):Prop:=(GU Su) x.Colours/\(GU VC) x.Places/\(GU Qbm) x.Tasks/\(Uj .i64) x.From/\(Uj .i64) x.To
theorem QwI {H:Type}{enc:TypeId×Value->H}{w:World}(N:Nat):Rd enc Tryz.prog w N 26 Qf (λx _=>ZX x):=by
 have h0:=(Rd.struct (fs:=[(22,0),(23,1),(24,2),(3,3),(3,4)]) (tot:=5) (N:=N) (t:=26) (P:=Tryz.prog) (w:=w) (enc:=enc) (by kernel_rfl) (XP.cons 22 0 1 (by kernel_rfl) (Qv9 N) (XP.cons 23 1 1 (by kernel_rfl) (Qwc N) (XP.cons 24 2 1 (by kernel_rfl) (Qwf N) (XP.cons 3 3 1 (by kernel_rfl) (Kn N) (XP.cons 3 4 1 (by kernel_rfl) (Kn N) XP.nil))))));exact(h0.map (λx=>⟨x.1,x.2.1,x.2.2.1,x.2.2.2.1,x.2.2.2.2.1⟩) (λ_=>rfl) (λx d h=>by obtain⟨_,rfl,h⟩:=h;obtain⟨_,_,rfl,a0,h⟩:=h;obtain⟨_,_,rfl,a1,h⟩:=h;obtain⟨_,_,rfl,a2,h⟩:=h;obtain⟨_,_,rfl,a3,h⟩:=h;obtain⟨_,_,rfl,a4,h⟩:=h;exact⟨a0,a1,a2,a3,a4⟩)).mono (EG N)
def QjL (x:Qo):Prop:=(Uj .i64) x.Task/\(GU (Uj .i64)) x.Vars/\(GU (Uj .i64)) x.Ins/\(GU (Uj .i64)) x.Outs
theorem Qwg {H:Type}{enc:TypeId×Value->H}{w:World}(N:Nat):Rd enc Tryz.prog w N 46 QE (λx _=>QjL x):=by
 have h0:=(Rd.struct (fs:=[(3,0),(44,1),(44,2),(44,3)]) (tot:=4) (N:=N) (t:=46) (P:=Tryz.prog) (w:=w) (enc:=enc) (by kernel_rfl) (XP.cons 3 0 1 (by kernel_rfl) (Kn N) (XP.cons 44 1 1 (by kernel_rfl) (Qoe N) (XP.cons 44 2 1 (by kernel_rfl) (Qoe N) (XP.cons 44 3 1 (by kernel_rfl) (Qoe N) XP.nil)))));exact(h0.map (λx=>⟨x.1,x.2.1,x.2.2.1,x.2.2.2.1⟩) (λ_=>rfl) (λx d h=>by obtain⟨_,rfl,h⟩:=h;obtain⟨_,_,rfl,a0,h⟩:=h;obtain⟨_,_,rfl,a1,h⟩:=h;obtain⟨_,_,rfl,a2,h⟩:=h;obtain⟨_,_,rfl,a3,h⟩:=h;exact⟨a0,a1,a2,a3⟩)).mono (EG N)
def TE (x:Xh):Prop:=(Uj .i64) x.Do/\(Uj .i64) x.Id/\QjL x.Mode/\(Uj .i64) x.Num
theorem Qwh {H:Type}{enc:TypeId×Value->H}{w:World}(N:Nat):Rd enc Tryz.prog w N 48 YF (λx _=>TE x):=by
 have h0:=(Rd.struct (fs:=[(3,0),(3,1),(46,2),(3,6)]) (tot:=7) (N:=N) (t:=48) (P:=Tryz.prog) (w:=w) (enc:=enc) (by kernel_rfl) (XP.cons 3 0 1 (by kernel_rfl) (Kn N) (XP.cons 3 1 1 (by kernel_rfl) (Kn N) (XP.cons 46 2 4 (by kernel_rfl) (Qwg N) (XP.cons 3 6 1 (by kernel_rfl) (Kn N) XP.nil)))));exact(h0.map (λx=>⟨x.1,x.2.1,x.2.2.1,x.2.2.2.1⟩) (λ_=>rfl) (λx d h=>by obtain⟨_,rfl,h⟩:=h;obtain⟨_,_,rfl,a0,h⟩:=h;obtain⟨_,_,rfl,a1,h⟩:=h;obtain⟨_,_,rfl,a2,h⟩:=h;obtain⟨_,_,rfl,a3,h⟩:=h;exact⟨a0,a1,a2,a3⟩)).mono (EG N)
theorem QwJ {H:Type}{enc:TypeId×Value->H}{w:World}(N:Nat):Rd enc Tryz.prog w N 27 QlH (λx _=>(GU TE) x):=(Rd.slice (e:=48) (z:=7) (by kernel_rfl) (by kernel_rfl) (by decide) (λx=>Gu rfl) (Qwh N)).map id (λ_=>rfl) λ_ _ h=>LZ h
def QtL (x:(L_ ByteArray)):Prop:=x.length*16<=reachBytes
theorem Qvv {H:Type}{enc:TypeId×Value->H}{w:World}(N:Nat):Rd enc Tryz.prog w N 72 QrE (λx d=>(GU okS) x/\(Sz Tryz.prog 72 d->QtL x)):=(Rd.slice (e:=9) (z:=1) (by kernel_rfl) (by kernel_rfl) (by decide) (λx=>Gu rfl) (QeM N)).map id (λ_=>rfl) λ_ _ h=>QoG (t:=72) (e:=9) (b:=16) (by kernel_rfl) (by kernel_rfl) h
def QtM (x:QR):Prop:=QtL x.Names
theorem Qvw {H:Type}{enc:TypeId×Value->H}{w:World}(N:Nat):Rd enc Tryz.prog w N 74 XI (λx d=>Su x/\(Sz Tryz.prog 74 d->QtM x)):=by
 have h0:=(Rd.struct (fs:=[(9,0),(3,1),(3,2),(3,3),(72,4),(3,5),(3,6)]) (tot:=7) (N:=N) (t:=74) (P:=Tryz.prog) (w:=w) (enc:=enc) (by kernel_rfl) (XP.cons 9 0 1 (by kernel_rfl) (QeM N) (XP.cons 3 1 1 (by kernel_rfl) (Kn N) (XP.cons 3 2 1 (by kernel_rfl) (Kn N) (XP.cons 3 3 1 (by kernel_rfl) (Kn N) (XP.cons 72 4 1 (by kernel_rfl) (Qvv N) (XP.cons 3 5 1 (by kernel_rfl) (Kn N) (XP.cons 3 6 1 (by kernel_rfl) (Kn N) XP.nil))))))));exact(h0.map (λx=>⟨x.1,x.2.1,x.2.2.1,x.2.2.2.1,x.2.2.2.2.1,x.2.2.2.2.2.1,x.2.2.2.2.2.2.1⟩) (λ_=>rfl) (λx d h=>by obtain⟨_,rfl,h⟩:=h;obtain⟨_,_,rfl,a0,h⟩:=h;obtain⟨_,_,rfl,a1,h⟩:=h;obtain⟨_,_,rfl,a2,h⟩:=h;obtain⟨_,_,rfl,a3,h⟩:=h;obtain⟨_,_,rfl,a4,h⟩:=h;obtain⟨_,_,rfl,a5,h⟩:=h;obtain⟨_,_,rfl,a6,h⟩:=h;exact⟨⟨a0,a1,a2,a3,a4.1,a5,a6⟩,λhz=>a4.2 (Sz.field Tryz.underlying74 hz (j:=4) rfl rfl)⟩)).mono (EG N)
def QtN (x:(L_ QR)):Prop:=x.length*80<=reachBytes/\∀y∈x,QtM y
theorem Qvx {H:Type}{enc:TypeId×Value->H}{w:World}(N:Nat):Rd enc Tryz.prog w N 22 QfN (λx d=>(GU Su) x/\(Sz Tryz.prog 22 d->QtN x)):=(Rd.slice (e:=74) (z:=7) (by kernel_rfl) (by kernel_rfl) (by decide) (λx=>Gu rfl) (Qvw N)).map id (λ_=>rfl) λ_ _ h=>QqC (t:=22) (e:=74) (b:=80) (by kernel_rfl) (by kernel_rfl) h
def QtO (x:(L_ (Int×Int))):Prop:=x.length*16<=reachBytes
theorem Qvy {H:Type}{enc:TypeId×Value->H}{w:World}(N:Nat):Rd enc Tryz.prog w N 76 Ql (λx d=>(GU QlI) x/\(Sz Tryz.prog 76 d->QtO x)):=(Rd.slice (e:=86) (z:=2) (by kernel_rfl) (by kernel_rfl) (by decide) (λx=>Gu rfl) (QtH N)).map id (λ_=>rfl) λ_ _ h=>QoG (t:=76) (e:=86) (b:=16) (by kernel_rfl) (by kernel_rfl) h
def QtP (x:XR):Prop:=QtO x.First
theorem Qvz {H:Type}{enc:TypeId×Value->H}{w:World}(N:Nat):Rd enc Tryz.prog w N 78 Xk (λx d=>VC x/\(Sz Tryz.prog 78 d->QtP x)):=by
 have h0:=(Rd.struct (fs:=[(9,0),(3,1),(76,2)]) (tot:=3) (N:=N) (t:=78) (P:=Tryz.prog) (w:=w) (enc:=enc) (by kernel_rfl) (XP.cons 9 0 1 (by kernel_rfl) (QeM N) (XP.cons 3 1 1 (by kernel_rfl) (Kn N) (XP.cons 76 2 1 (by kernel_rfl) (Qvy N) XP.nil))));exact(h0.map (λx=>⟨x.1,x.2.1,x.2.2.1⟩) (λ_=>rfl) (λx d h=>by obtain⟨_,rfl,h⟩:=h;obtain⟨_,_,rfl,a0,h⟩:=h;obtain⟨_,_,rfl,a1,h⟩:=h;obtain⟨_,_,rfl,a2,h⟩:=h;exact⟨⟨a0,a1,a2.1⟩,λhz=>a2.2 (Sz.field Tryz.underlying78 hz (j:=2) rfl rfl)⟩)).mono (EG N)
def QtQ (x:(L_ XR)):Prop:=x.length*48<=reachBytes/\∀y∈x,QtP y
theorem QvA {H:Type}{enc:TypeId×Value->H}{w:World}(N:Nat):Rd enc Tryz.prog w N 23 QhY (λx d=>(GU VC) x/\(Sz Tryz.prog 23 d->QtQ x)):=(Rd.slice (e:=78) (z:=3) (by kernel_rfl) (by kernel_rfl) (by decide) (λx=>Gu rfl) (Qvz N)).map id (λ_=>rfl) λ_ _ h=>QqC (t:=23) (e:=78) (b:=48) (by kernel_rfl) (by kernel_rfl) h
def QtR (x:(L_ Je)):Prop:=x.length*24<=reachBytes
theorem QvB {H:Type}{enc:TypeId×Value->H}{w:World}(N:Nat):Rd enc Tryz.prog w N 59 Aq (λx d=>(GU Qg3) x/\(Sz Tryz.prog 59 d->QtR x)):=(Rd.slice (e:=124) (z:=2) (by kernel_rfl) (by kernel_rfl) (by decide) (λx=>Gu rfl) (Qsw N)).map id (λ_=>rfl) λ_ _ h=>QoG (t:=59) (e:=124) (b:=24) (by kernel_rfl) (by kernel_rfl) h
def Qre (x:(L_ Jf)):Prop:=x.length*48<=reachBytes
theorem Qsy {H:Type}{enc:TypeId×Value->H}{w:World}(N:Nat):Rd enc Tryz.prog w N 63 Qm6 (λx d=>(GU ZW) x/\(Sz Tryz.prog 63 d->Qre x)):=(Rd.slice (e:=80) (z:=4) (by kernel_rfl) (by kernel_rfl) (by decide) (λx=>Gu rfl) (QtI N)).map id (λ_=>rfl) λ_ _ h=>QoG (t:=63) (e:=80) (b:=48) (by kernel_rfl) (by kernel_rfl) h
def QlK (x:(L_ Int)):Prop:=x.length*8<=reachBytes
theorem QlL {H:Type}{enc:TypeId×Value->H}{w:World}(N:Nat):Rd enc Tryz.prog w N 44 XA (λx d=>(GU (Uj .i64)) x/\(Sz Tryz.prog 44 d->QlK x)):=(Rd.slice (e:=3) (z:=1) (by kernel_rfl) (by kernel_rfl) (by decide) (λx=>Gu rfl) (Kn N)).map id (λ_=>rfl) λ_ _ h=>QoG (t:=44) (e:=3) (b:=8) (by kernel_rfl) (by kernel_rfl) h
def QtS (x:QW):Prop:=QtR x.Vars/\Qre x.Ins/\Qre x.Outs/\QlK x.Cancel
theorem QvC {H:Type}{enc:TypeId×Value->H}{w:World}(N:Nat):Rd enc Tryz.prog w N 66 QC (λx d=>Qbm x/\(Sz Tryz.prog 66 d->QtS x)):=by
 have h0:=(Rd.struct (fs:=[(9,0),(59,1),(62,2),(3,5),(3,6),(63,7),(63,8),(44,9),(3,10),(64,11)]) (tot:=14) (N:=N) (t:=66) (P:=Tryz.prog) (w:=w) (enc:=enc) (by kernel_rfl) (XP.cons 9 0 1 (by kernel_rfl) (QeM N) (XP.cons 59 1 1 (by kernel_rfl) (QvB N) (XP.cons 62 2 3 (by kernel_rfl) (Qrd N) (XP.cons 3 5 1 (by kernel_rfl) (Kn N) (XP.cons 3 6 1 (by kernel_rfl) (Kn N) (XP.cons 63 7 1 (by kernel_rfl) (Qsy N) (XP.cons 63 8 1 (by kernel_rfl) (Qsy N) (XP.cons 44 9 1 (by kernel_rfl) (QlL N) (XP.cons 3 10 1 (by kernel_rfl) (Kn N) (XP.cons 64 11 3 (by kernel_rfl) (QtK N) XP.nil)))))))))));exact(h0.map (λx=>⟨x.1,x.2.1,x.2.2.1,x.2.2.2.1,x.2.2.2.2.1,x.2.2.2.2.2.1,x.2.2.2.2.2.2.1,x.2.2.2.2.2.2.2.1,x.2.2.2.2.2.2.2.2.1,x.2.2.2.2.2.2.2.2.2.1⟩) (λ_=>rfl) (λx d h=>by obtain⟨_,rfl,h⟩:=h;obtain⟨_,_,rfl,a0,h⟩:=h;obtain⟨_,_,rfl,a1,h⟩:=h;obtain⟨_,_,rfl,a2,h⟩:=h;obtain⟨_,_,rfl,a3,h⟩:=h;obtain⟨_,_,rfl,a4,h⟩:=h;obtain⟨_,_,rfl,a5,h⟩:=h;obtain⟨_,_,rfl,a6,h⟩:=h;obtain⟨_,_,rfl,a7,h⟩:=h;obtain⟨_,_,rfl,a8,h⟩:=h;obtain⟨_,_,rfl,a9,h⟩:=h;exact⟨⟨a0,a1.1,a2,a3,a4,a5.1,a6.1,a7.1,a8,a9⟩,λhz=>⟨a1.2 (Sz.field Tryz.underlying66 hz (j:=1) rfl rfl),a5.2 (Sz.field Tryz.underlying66 hz (j:=5) rfl rfl),a6.2 (Sz.field Tryz.underlying66 hz (j:=6) rfl rfl),a7.2 (Sz.field Tryz.underlying66 hz (j:=7) rfl rfl)⟩⟩)).mono (EG N)
def QtT (x:(L_ QW)):Prop:=x.length*200<=reachBytes/\∀y∈x,QtS y
theorem QvD {H:Type}{enc:TypeId×Value->H}{w:World}(N:Nat):Rd enc Tryz.prog w N 24 Qj7 (λx d=>(GU Qbm) x/\(Sz Tryz.prog 24 d->QtT x)):=(Rd.slice (e:=66) (z:=14) (by kernel_rfl) (by kernel_rfl) (by decide) (λx=>Gu rfl) (QvC N)).map id (λ_=>rfl) λ_ _ h=>QqC (t:=24) (e:=66) (b:=200) (by kernel_rfl) (by kernel_rfl) h
def Qof (x:Qh):Prop:=QtN x.Colours/\QtQ x.Places/\QtT x.Tasks
theorem QvE {H:Type}{enc:TypeId×Value->H}{w:World}(N:Nat):Rd enc Tryz.prog w N 26 Qf (λx d=>ZX x/\(Sz Tryz.prog 26 d->Qof x)):=by
 have h0:=(Rd.struct (fs:=[(22,0),(23,1),(24,2),(3,3),(3,4)]) (tot:=5) (N:=N) (t:=26) (P:=Tryz.prog) (w:=w) (enc:=enc) (by kernel_rfl) (XP.cons 22 0 1 (by kernel_rfl) (Qvx N) (XP.cons 23 1 1 (by kernel_rfl) (QvA N) (XP.cons 24 2 1 (by kernel_rfl) (QvD N) (XP.cons 3 3 1 (by kernel_rfl) (Kn N) (XP.cons 3 4 1 (by kernel_rfl) (Kn N) XP.nil))))));exact(h0.map (λx=>⟨x.1,x.2.1,x.2.2.1,x.2.2.2.1,x.2.2.2.2.1⟩) (λ_=>rfl) (λx d h=>by obtain⟨_,rfl,h⟩:=h;obtain⟨_,_,rfl,a0,h⟩:=h;obtain⟨_,_,rfl,a1,h⟩:=h;obtain⟨_,_,rfl,a2,h⟩:=h;obtain⟨_,_,rfl,a3,h⟩:=h;obtain⟨_,_,rfl,a4,h⟩:=h;exact⟨⟨a0.1,a1.1,a2.1,a3,a4⟩,λhz=>⟨a0.2 (Sz.field Tryz.underlying26 hz (j:=0) rfl rfl),a1.2 (Sz.field Tryz.underlying26 hz (j:=1) rfl rfl),a2.2 (Sz.field Tryz.underlying26 hz (j:=2) rfl rfl)⟩⟩)).mono (EG N)
def QtU (x:Qo):Prop:=QlK x.Vars/\QlK x.Ins/\QlK x.Outs
theorem QvF {H:Type}{enc:TypeId×Value->H}{w:World}(N:Nat):Rd enc Tryz.prog w N 46 QE (λx d=>QjL x/\(Sz Tryz.prog 46 d->QtU x)):=by
 have h0:=(Rd.struct (fs:=[(3,0),(44,1),(44,2),(44,3)]) (tot:=4) (N:=N) (t:=46) (P:=Tryz.prog) (w:=w) (enc:=enc) (by kernel_rfl) (XP.cons 3 0 1 (by kernel_rfl) (Kn N) (XP.cons 44 1 1 (by kernel_rfl) (QlL N) (XP.cons 44 2 1 (by kernel_rfl) (QlL N) (XP.cons 44 3 1 (by kernel_rfl) (QlL N) XP.nil)))));exact(h0.map (λx=>⟨x.1,x.2.1,x.2.2.1,x.2.2.2.1⟩) (λ_=>rfl) (λx d h=>by obtain⟨_,rfl,h⟩:=h;obtain⟨_,_,rfl,a0,h⟩:=h;obtain⟨_,_,rfl,a1,h⟩:=h;obtain⟨_,_,rfl,a2,h⟩:=h;obtain⟨_,_,rfl,a3,h⟩:=h;exact⟨⟨a0,a1.1,a2.1,a3.1⟩,λhz=>⟨a1.2 (Sz.field Tryz.underlying46 hz (j:=1) rfl rfl),a2.2 (Sz.field Tryz.underlying46 hz (j:=2) rfl rfl),a3.2 (Sz.field Tryz.underlying46 hz (j:=3) rfl rfl)⟩⟩)).mono (EG N)
def QtV (x:Xh):Prop:=QtU x.Mode
theorem QvG {H:Type}{enc:TypeId×Value->H}{w:World}(N:Nat):Rd enc Tryz.prog w N 48 YF (λx d=>TE x/\(Sz Tryz.prog 48 d->QtV x)):=by
 have h0:=(Rd.struct (fs:=[(3,0),(3,1),(46,2),(3,6)]) (tot:=7) (N:=N) (t:=48) (P:=Tryz.prog) (w:=w) (enc:=enc) (by kernel_rfl) (XP.cons 3 0 1 (by kernel_rfl) (Kn N) (XP.cons 3 1 1 (by kernel_rfl) (Kn N) (XP.cons 46 2 4 (by kernel_rfl) (QvF N) (XP.cons 3 6 1 (by kernel_rfl) (Kn N) XP.nil)))));exact(h0.map (λx=>⟨x.1,x.2.1,x.2.2.1,x.2.2.2.1⟩) (λ_=>rfl) (λx d h=>by obtain⟨_,rfl,h⟩:=h;obtain⟨_,_,rfl,a0,h⟩:=h;obtain⟨_,_,rfl,a1,h⟩:=h;obtain⟨_,_,rfl,a2,h⟩:=h;obtain⟨_,_,rfl,a3,h⟩:=h;exact⟨⟨a0,a1,a2.1,a3⟩,λhz=>a2.2 (Sz.field Tryz.underlying48 hz (j:=2) rfl rfl)⟩)).mono (EG N)
def Qrf (x:(L_ Xh)):Prop:=x.length*104<=reachBytes/\∀y∈x,QtV y
theorem QvH {H:Type}{enc:TypeId×Value->H}{w:World}(N:Nat):Rd enc Tryz.prog w N 27 QlH (λx d=>(GU TE) x/\(Sz Tryz.prog 27 d->Qrf x)):=(Rd.slice (e:=48) (z:=7) (by kernel_rfl) (by kernel_rfl) (by decide) (λx=>Gu rfl) (QvG N)).map id (λ_=>rfl) λ_ _ h=>QqC (t:=27) (e:=48) (b:=104) (by kernel_rfl) (by kernel_rfl) h
namespace LawEngineRuns
theorem own : ownKnob Tryz.prog.godebug=none:=by kernel_rfl
theorem QuF : laidOutB Tryz.prog=true:=by kernel_rfl
theorem Qtw : ∀t∈Tryz.f3.params.toList,Tryz.prog.readableRec t=true/\t<Tryz.prog.types.size:=by
 have h:(Tryz.f3.params.toList.all λt=>Tryz.prog.readableRec t&&decide (t<Tryz.prog.types.size))=true:=by kernel_rfl
 intro t ht;have:=XG.1 h t ht;rw[QH,QG]at this;exact this
theorem Qtx (os:Os)(args:Array Value):laidMetH Tryz.prog Rows.engineRunsRow.laid ((World.doorLaid Tryz.prog 33 os).forCall (λ_ _=>0) ⟨#[],args,[]⟩).memory:=
 laidMetH_of_parts3 (fuel:=8) (laidMet_of_run' 8 (by kernel_rfl) (by kernel_rfl)) (by kernel_rfl) (by kernel_rfl)
theorem Qty {W:World}(h:laidMetH Tryz.prog Rows.engineRunsRow.laid W):VD Tryz.prog (λk=>k<W.heap.size) W:=
 QoF (r:=[]) (g:=0) (t:=334) (e:=5) 1 (by kernel_rfl) (by kernel_rfl) (by kernel_rfl) (by kernel_rfl) (by kernel_rfl) (by kernel_rfl) (by kernel_rfl) (by kernel_rfl) h
set_option maxRecDepth 100000 in
theorem lifted (hF:∀(a0:Qh) (a1:(L_ Xh)),(ZX a0/\Qof a0)->((GU TE) a1/\Qrf a1)->Ub a0 a1=some true)(os:Os)(started:os.Started)(H:Type)(enc:TypeId×Value->H):
  ReturnsInHanded {} Tryz.checked os 3 .any (λw args=>(Rows.engineRunsSpec.pre enc Tryz.prog Tryz.f3 Rows.engineRunsRow.domain false w args/\laidMetH Tryz.prog Rows.engineRunsRow.laid w)/\sizedMet enc Tryz.prog Tryz.f3 (OpenSpec.ofChange Rows.engineRunsSpec) false w args) (Rows.engineRunsSpec.post enc Tryz.prog Tryz.f3 false true false false):=by
 refine returnsInHanded_of_change_and (C:=Tryz.checked) (X:=λw _=>laidMetH Tryz.prog Rows.engineRunsRow.laid w) (λ_ _ _ hh h=>h.of_heap hh) own started (by kernel_rfl) Tryz.func3
  (ChangeSpec.witness_shaped (enc:=enc) (C:=Tryz.checked) (os:=os) (X:=λw _=>laidMetH Tryz.prog Rows.engineRunsRow.laid w) false (World.doorLaid Tryz.prog 33 os) #[.agg #[.slice none 0 0,.slice none 0 0,.slice none 0 0,.int .i64 0,.int .i64 0],.slice none 0 0] 8 rfl (World.shaped_of_RefB (by kernel_rfl) (by kernel_rfl)) (by kernel_rfl) (by kernel_rfl) (by kernel_rfl) (Qtx os _)) ?_
 intro W base args ds gs before hval0 hW hcnd hz hL _;have hval:∀(j:Nat) t v,Tryz.f3.params[j]? = some t->args[j]? = some v->Value.okWide Tryz.prog W .any base t v:=hval0;have hW1:=hW;obtain⟨p,q,hA0,hV,_,_,_⟩:=hW;obtain⟨rfl,_⟩:=trodVars_none hV;have hA:DataW.TrodAll enc Tryz.prog W 0 (λ_=>true) true Tryz.f3.params.toList args.toList ds p:=hA0;rw[Tryz.params3]at hA hval;obtain⟨v0,vs0,d0,ds0,p0,q0,hargs,rfl,_,h0,r0⟩:=trodAll_cons hA;obtain⟨v1,vs1,d1,ds1,p1,q1,rfl,rfl,_,h1,r1⟩:=trodAll_cons r0;obtain⟨rfl,rfl,_⟩:=trodAll_nil r1;obtain rfl:args=#[v0,v1]:=by cases args;simp_all
 obtain⟨a0,w0',c0⟩:=Rd.open (λN=>QvE N) h0;have w0:=And.intro w0'.1 (w0'.2 (Sz.all hz (j:=0) (by kernel_rfl) rfl));obtain⟨_,rfl⟩:=QsT (P:=Tryz.prog) (t:=26) (fs:=[(22,0),(23,1),(24,2),(3,3),(3,4)]) (tot:=5) (by kernel_rfl) (hval 0 26 v0 rfl rfl);have e0:=c0.argS;obtain⟨a1,w1',c1⟩:=Rd.open (λN=>QvH N) h1;have w1:=And.intro w1'.1 (w1'.2 (Sz.all hz (j:=1) (by kernel_rfl) rfl));obtain⟨_,_,_,rfl⟩:=okWide_slice Tryz.underlying27 (hval 1 27 v1 rfl rfl);have e1:=(Cl.arg1 rfl c1);refine(QP.law (us:=[.agg (Qf a0),.sl 7 (a1.map YF)]) (@QdC a0 a1 _ (hF a0 a1 w0 w1)) (Qty hL) rfl (λj x v hx hv=>?_)).mono λe W2 ⟨he,hb⟩=>?_
 ·match j with
  | 0=>cases hx;cases hv;exact e0
  | 1=>cases hx;cases hv;exact e1
  | j+2=>simp at hx
 subst he;exact⟨_,rfl,QsU QuF Qtw hW1 rfl hb rfl Tryz.underlying4 rfl rfl rfl⟩
theorem bA {a b:Bool}(x:a=true)(y:b=true):(a&&b)=true:=by rw[x,y];rfl
abbrev jR := Rows.engineRunsRow
noncomputable abbrev jP := Tryz.pinned.checked.prog
abbrev jS := Rows.engineRunsSpec
end LawEngineRuns
end Go.Proofs.YthihjgnmfnohoaaGreatDoor
