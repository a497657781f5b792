/- EngineKeeps, as it is given: of any net and any calls it answers true, with no condition but what its row asks of all calls. -/
import Derived.Test.YtkocdcoeinjdbaaGreatDoorK1P2
import Derived.Test.YtkocdcoeinjdbaaGreatDoorK1T2
import Derived.Test.YtkocdcoeinjdbaaGreatDoorK1V3
import Derived.Test.YtkocdcoeinjdbaaGreatDoorRows
import Derived.Test.YtkocdcoeinjdbaaGreatDoorTie
import Derived.Test.YtkocdcoeinjdbaaGreatDoorCards
import Derived.SevenTiedAt
import Derived.WalkKit
import Derived.ProofKit
import Derived.OpenShut
set_option linter.all false
noncomputable section
namespace Go.Proofs.YtkocdcoeinjdbaaGreatDoor
open Go Go.RowKit Go.Vm Go.ChangeShapes Go.WideShapes Go.ChangeAt
def row_LTCall (x:(L_ Xy)):List V:=[.sl 7 (x.map Xl)]
theorem Qao {H:Type}{enc:TypeId×Value->H}{w:World}(N:Nat):Rd enc Tryz.prog w N 9 WY (λx _=>okS x):=(Rd.string (by kernel_rfl)).map id (λ_=>rfl) λ_ _ h=>h.1
theorem Jv {H:Type}{enc:TypeId×Value->H}{w:World}(N:Nat):Rd enc Tryz.prog w N 3 Qb (λx _=>(Ed .i64) x):=(Rd.int (by kernel_rfl)).map id (λ_=>rfl) λ_ _ h=>QmR h
theorem Qnr {H:Type}{enc:TypeId×Value->H}{w:World}(N:Nat):Rd enc Tryz.prog w N 104 Qj3 (λx _=>(De okS) x):=(Rd.slice (e:=9) (z:=1) (by kernel_rfl) (by kernel_rfl) (by decide) (λx=>WK rfl) (Qao N)).map id (λ_=>rfl) λ_ _ h=>Fo h
def Nh (x:Xj):Prop:=okS x.Name/\(Ed .i64) x.Kind/\(Ed .i64) x.Lo/\(Ed .i64) x.Hi/\(De okS) x.Names/\(Ed .i64) x.First/\(Ed .i64) x.Then
theorem Qns {H:Type}{enc:TypeId×Value->H}{w:World}(N:Nat):Rd enc Tryz.prog w N 106 QL (λx _=>Nh x):=by
 have h0:=(Rd.struct (fs:=[(9,0),(3,1),(3,2),(3,3),(104,4),(3,5),(3,6)]) (tot:=7) (N:=N) (t:=106) (P:=Tryz.prog) (w:=w) (enc:=enc) (by kernel_rfl) (XH.cons 9 0 1 (by kernel_rfl) (Qao N) (XH.cons 3 1 1 (by kernel_rfl) (Jv N) (XH.cons 3 2 1 (by kernel_rfl) (Jv N) (XH.cons 3 3 1 (by kernel_rfl) (Jv N) (XH.cons 104 4 1 (by kernel_rfl) (Qnr N) (XH.cons 3 5 1 (by kernel_rfl) (Jv N) (XH.cons 3 6 1 (by kernel_rfl) (Jv N) XH.nil))))))))
 exact(h0.map (λx=>⟨x.1,x.2.1,x.2.2.1,x.2.2.2.1,x.2.2.2.2.1,x.2.2.2.2.2.1,x.2.2.2.2.2.2.1⟩) (λ_=>rfl) (λx d h=>by obtain⟨_,rfl,h⟩:=h;obtain⟨_,_,rfl,a0,h⟩:=h;obtain⟨_,_,rfl,a1,h⟩:=h;obtain⟨_,_,rfl,a2,h⟩:=h;obtain⟨_,_,rfl,a3,h⟩:=h;obtain⟨_,_,rfl,a4,h⟩:=h;obtain⟨_,_,rfl,a5,h⟩:=h;obtain⟨_,_,rfl,a6,h⟩:=h;exact⟨a0,a1,a2,a3,a4,a5,a6⟩)).mono (Us N)
theorem QnY {H:Type}{enc:TypeId×Value->H}{w:World}(N:Nat):Rd enc Tryz.prog w N 22 Qbm (λx _=>(De Nh) x):=(Rd.slice (e:=106) (z:=7) (by kernel_rfl) (by kernel_rfl) (by decide) (λx=>WK rfl) (Qns N)).map id (λ_=>rfl) λ_ _ h=>Fo h
def QfA (x:(Int×Int)):Prop:=(Ed .i64) x.1/\(Ed .i64) x.2
theorem QkE {H:Type}{enc:TypeId×Value->H}{w:World}(N:Nat):Rd enc Tryz.prog w N 112 QM (λx _=>QfA x):=by
 have h0:=(Rd.array (e:=3) (n:=2) (tot:=2) (fs:=[(3,0),(3,1)]) (N:=N) (t:=112) (P:=Tryz.prog) (w:=w) (enc:=enc) (by kernel_rfl) (XH.cons 3 0 1 (by kernel_rfl) (Jv N) (XH.cons 3 1 1 (by kernel_rfl) (Jv N) XH.nil)))
 exact(h0.map (λx=>⟨x.1,x.2.1⟩) (λ_=>rfl) (λx d h=>by obtain⟨_,rfl,h⟩:=h;obtain⟨_,_,rfl,a0,h⟩:=h;obtain⟨_,_,rfl,a1,h⟩:=h;exact⟨a0,a1⟩)).mono (Us N)
theorem QnZ {H:Type}{enc:TypeId×Value->H}{w:World}(N:Nat):Rd enc Tryz.prog w N 99 Qj (λx _=>(De QfA) x):=(Rd.slice (e:=112) (z:=2) (by kernel_rfl) (by kernel_rfl) (by decide) (λx=>WK rfl) (QkE N)).map id (λ_=>rfl) λ_ _ h=>Fo h
def OM (x:Xz):Prop:=okS x.Name/\(Ed .i64) x.Colour/\(De QfA) x.First
theorem Qnt {H:Type}{enc:TypeId×Value->H}{w:World}(N:Nat):Rd enc Tryz.prog w N 108 QI (λx _=>OM x):=by
 have h0:=(Rd.struct (fs:=[(9,0),(3,1),(99,2)]) (tot:=3) (N:=N) (t:=108) (P:=Tryz.prog) (w:=w) (enc:=enc) (by kernel_rfl) (XH.cons 9 0 1 (by kernel_rfl) (Qao N) (XH.cons 3 1 1 (by kernel_rfl) (Jv N) (XH.cons 99 2 1 (by kernel_rfl) (QnZ N) XH.nil))))
 exact(h0.map (λx=>⟨x.1,x.2.1,x.2.2.1⟩) (λ_=>rfl) (λx d h=>by obtain⟨_,rfl,h⟩:=h;obtain⟨_,_,rfl,a0,h⟩:=h;obtain⟨_,_,rfl,a1,h⟩:=h;obtain⟨_,_,rfl,a2,h⟩:=h;exact⟨a0,a1,a2⟩)).mono (Us N)
theorem Qn0 {H:Type}{enc:TypeId×Value->H}{w:World}(N:Nat):Rd enc Tryz.prog w N 23 Qda (λx _=>(De OM) x):=(Rd.slice (e:=108) (z:=3) (by kernel_rfl) (by kernel_rfl) (by decide) (λx=>WK rfl) (Qnt N)).map id (λ_=>rfl) λ_ _ h=>Fo h
def Qct (x:Yw):Prop:=okS x.Name/\(Ed .i64) x.Colour
theorem QkF {H:Type}{enc:TypeId×Value->H}{w:World}(N:Nat):Rd enc Tryz.prog w N 140 Xe (λx _=>Qct x):=by
 have h0:=(Rd.struct (fs:=[(9,0),(3,1)]) (tot:=2) (N:=N) (t:=140) (P:=Tryz.prog) (w:=w) (enc:=enc) (by kernel_rfl) (XH.cons 9 0 1 (by kernel_rfl) (Qao N) (XH.cons 3 1 1 (by kernel_rfl) (Jv N) XH.nil)))
 exact(h0.map (λx=>⟨x.1,x.2.1⟩) (λ_=>rfl) (λx d h=>by obtain⟨_,rfl,h⟩:=h;obtain⟨_,_,rfl,a0,h⟩:=h;obtain⟨_,_,rfl,a1,h⟩:=h;exact⟨a0,a1⟩)).mono (Us N)
theorem Qn1 {H:Type}{enc:TypeId×Value->H}{w:World}(N:Nat):Rd enc Tryz.prog w N 56 JD (λx _=>(De Qct) x):=(Rd.slice (e:=140) (z:=2) (by kernel_rfl) (by kernel_rfl) (by decide) (λx=>WK rfl) (QkF N)).map id (λ_=>rfl) λ_ _ h=>Fo h
theorem QfB (x:Qv):Qx x=[.i .i64 x.Kind,.i .i64 x.Num,.sl 3 (YW x.Kids)]:=by cases x;rw[Qx]
inductive LE : Qv->Prop where
 | mk (x:Qv):(Ed .i64) x.Kind->(Ed .i64) x.Num->x.Kids.length<=maxLen->(∀k∈x.Kids,LE k)->LE x
theorem QjD {H:Type}{enc:TypeId×Value->H}{w:World}(N:Nat):Rd enc Tryz.prog w N 59 Qx (λx _=>LE x):=by
 induction N with
 | zero=>exact Rd.zero
 | succ N ih=>
  have h0:=(Rd.struct (fs:=[(3,0),(3,1),(57,2)]) (tot:=3) (N:=N) (t:=59) (P:=Tryz.prog) (w:=w) (enc:=enc) (by kernel_rfl) (XH.cons 3 0 1 (by kernel_rfl) (Jv N) (XH.cons 3 1 1 (by kernel_rfl) (Jv N) (XH.cons 57 2 1 (by kernel_rfl) (Rd.slice (e:=59) (z:=3) (by kernel_rfl) (by kernel_rfl) (by decide) (λx=>WK (by cases x;rfl)) ih) XH.nil))))
  exact h0.map (λx=>⟨x.1,x.2.1,x.2.2.1⟩) (λx=>by simp only[Qx];rw[Ha];rfl) (λx d h=>by obtain⟨_,rfl,h⟩:=h;obtain⟨_,_,rfl,a0,h⟩:=h;obtain⟨_,_,rfl,a1,h⟩:=h;obtain⟨_,_,rfl,a2,h⟩:=h;exact LE.mk _ a0 a1 (Fo a2).1 (Fo a2).2)
def PY (x:Yd):Prop:=(Ed .i64) x.Place/\LE x.Expr
theorem QkG {H:Type}{enc:TypeId×Value->H}{w:World}(N:Nat):Rd enc Tryz.prog w N 110 XL (λx _=>PY x):=by
 have h0:=(Rd.struct (fs:=[(3,0),(59,1)]) (tot:=4) (N:=N) (t:=110) (P:=Tryz.prog) (w:=w) (enc:=enc) (by kernel_rfl) (XH.cons 3 0 1 (by kernel_rfl) (Jv N) (XH.cons 59 1 3 (by kernel_rfl) (QjD N) XH.nil)))
 exact(h0.map (λx=>⟨x.1,x.2.1⟩) (λx=>by rw[QfB];rfl) (λx d h=>by obtain⟨_,rfl,h⟩:=h;obtain⟨_,_,rfl,a0,h⟩:=h;obtain⟨_,_,rfl,a1,h⟩:=h;exact⟨a0,a1⟩)).mono (Us N)
theorem QlR {H:Type}{enc:TypeId×Value->H}{w:World}(N:Nat):Rd enc Tryz.prog w N 60 QgF (λx _=>(De PY) x):=(Rd.slice (e:=110) (z:=4) (by kernel_rfl) (by kernel_rfl) (by decide) (λx=>WK rfl) (QkG N)).map id (λ_=>rfl) λ_ _ h=>Fo h
theorem Qhq {H:Type}{enc:TypeId×Value->H}{w:World}(N:Nat):Rd enc Tryz.prog w N 43 QQ (λx _=>(De (Ed .i64)) x):=(Rd.slice (e:=3) (z:=1) (by kernel_rfl) (by kernel_rfl) (by decide) (λx=>WK rfl) (Jv N)).map id (λ_=>rfl) λ_ _ h=>Fo h
def QkH (x:(Int×Int×Int)):Prop:=(Ed .i64) x.1/\(Ed .i64) x.2.1/\(Ed .i64) x.2.2
theorem QlS {H:Type}{enc:TypeId×Value->H}{w:World}(N:Nat):Rd enc Tryz.prog w N 61 Au (λx _=>QkH x):=by
 have h0:=(Rd.array (e:=3) (n:=3) (tot:=3) (fs:=[(3,0),(3,1),(3,2)]) (N:=N) (t:=61) (P:=Tryz.prog) (w:=w) (enc:=enc) (by kernel_rfl) (XH.cons 3 0 1 (by kernel_rfl) (Jv N) (XH.cons 3 1 1 (by kernel_rfl) (Jv N) (XH.cons 3 2 1 (by kernel_rfl) (Jv N) XH.nil))))
 exact(h0.map (λx=>⟨x.1,x.2.1,x.2.2.1⟩) (λ_=>rfl) (λx d h=>by obtain⟨_,rfl,h⟩:=h;obtain⟨_,_,rfl,a0,h⟩:=h;obtain⟨_,_,rfl,a1,h⟩:=h;obtain⟨_,_,rfl,a2,h⟩:=h;exact⟨a0,a1,a2⟩)).mono (Us N)
def Su (x:QT):Prop:=okS x.Name/\(De Qct) x.Vars/\LE x.Guard/\(Ed .i64) x.Join/\(Ed .i64) x.Split/\(De PY) x.Ins/\(De PY) x.Outs/\(De (Ed .i64)) x.Cancel/\(Ed .i64) x.After/\QkH x.Many
theorem Qn2 {H:Type}{enc:TypeId×Value->H}{w:World}(N:Nat):Rd enc Tryz.prog w N 63 Qk (λx _=>Su x):=by
 have h0:=(Rd.struct (fs:=[(9,0),(56,1),(59,2),(3,5),(3,6),(60,7),(60,8),(43,9),(3,10),(61,11)]) (tot:=14) (N:=N) (t:=63) (P:=Tryz.prog) (w:=w) (enc:=enc) (by kernel_rfl) (XH.cons 9 0 1 (by kernel_rfl) (Qao N) (XH.cons 56 1 1 (by kernel_rfl) (Qn1 N) (XH.cons 59 2 3 (by kernel_rfl) (QjD N) (XH.cons 3 5 1 (by kernel_rfl) (Jv N) (XH.cons 3 6 1 (by kernel_rfl) (Jv N) (XH.cons 60 7 1 (by kernel_rfl) (QlR N) (XH.cons 60 8 1 (by kernel_rfl) (QlR N) (XH.cons 43 9 1 (by kernel_rfl) (Qhq N) (XH.cons 3 10 1 (by kernel_rfl) (Jv N) (XH.cons 61 11 3 (by kernel_rfl) (QlS N) XH.nil)))))))))))
 exact(h0.map (λx=>⟨x.1,x.2.1,x.2.2.1,x.2.2.2.1,x.2.2.2.2.1,x.2.2.2.2.2.1,x.2.2.2.2.2.2.1,x.2.2.2.2.2.2.2.1,x.2.2.2.2.2.2.2.2.1,x.2.2.2.2.2.2.2.2.2.1⟩) (λx=>by rw[QfB];rfl) (λx d h=>by obtain⟨_,rfl,h⟩:=h;obtain⟨_,_,rfl,a0,h⟩:=h;obtain⟨_,_,rfl,a1,h⟩:=h;obtain⟨_,_,rfl,a2,h⟩:=h;obtain⟨_,_,rfl,a3,h⟩:=h;obtain⟨_,_,rfl,a4,h⟩:=h;obtain⟨_,_,rfl,a5,h⟩:=h;obtain⟨_,_,rfl,a6,h⟩:=h;obtain⟨_,_,rfl,a7,h⟩:=h;obtain⟨_,_,rfl,a8,h⟩:=h;obtain⟨_,_,rfl,a9,h⟩:=h;exact⟨a0,a1,a2,a3,a4,a5,a6,a7,a8,a9⟩)).mono (Us N)
theorem Qn3 {H:Type}{enc:TypeId×Value->H}{w:World}(N:Nat):Rd enc Tryz.prog w N 24 Qey (λx _=>(De Su) x):=(Rd.slice (e:=63) (z:=14) (by kernel_rfl) (by kernel_rfl) (by decide) (λx=>WK rfl) (Qn2 N)).map id (λ_=>rfl) λ_ _ h=>Fo h
def Zm (x:Ql):Prop:=(De Nh) x.Colours/\(De OM) x.Places/\(De Su) x.Tasks/\(Ed .i64) x.From/\(Ed .i64) x.To
theorem Qon {H:Type}{enc:TypeId×Value->H}{w:World}(N:Nat):Rd enc Tryz.prog w N 26 Qa (λx _=>Zm x):=by
 have h0:=(Rd.struct (fs:=[(22,0),(23,1),(24,2),(3,3),(3,4)]) (tot:=5) (N:=N) (t:=26) (P:=Tryz.prog) (w:=w) (enc:=enc) (by kernel_rfl) (XH.cons 22 0 1 (by kernel_rfl) (QnY N) (XH.cons 23 1 1 (by kernel_rfl) (Qn0 N) (XH.cons 24 2 1 (by kernel_rfl) (Qn3 N) (XH.cons 3 3 1 (by kernel_rfl) (Jv N) (XH.cons 3 4 1 (by kernel_rfl) (Jv N) XH.nil))))))
 exact(h0.map (λx=>⟨x.1,x.2.1,x.2.2.1,x.2.2.2.1,x.2.2.2.2.1⟩) (λ_=>rfl) (λx d h=>by obtain⟨_,rfl,h⟩:=h;obtain⟨_,_,rfl,a0,h⟩:=h;obtain⟨_,_,rfl,a1,h⟩:=h;obtain⟨_,_,rfl,a2,h⟩:=h;obtain⟨_,_,rfl,a3,h⟩:=h;obtain⟨_,_,rfl,a4,h⟩:=h;exact⟨a0,a1,a2,a3,a4⟩)).mono (Us N)
def Qee (x:Qr):Prop:=(Ed .i64) x.Task/\(De (Ed .i64)) x.Vars/\(De (Ed .i64)) x.Ins/\(De (Ed .i64)) x.Outs
theorem Qn4 {H:Type}{enc:TypeId×Value->H}{w:World}(N:Nat):Rd enc Tryz.prog w N 50 Qn (λx _=>Qee x):=by
 have h0:=(Rd.struct (fs:=[(3,0),(43,1),(43,2),(43,3)]) (tot:=4) (N:=N) (t:=50) (P:=Tryz.prog) (w:=w) (enc:=enc) (by kernel_rfl) (XH.cons 3 0 1 (by kernel_rfl) (Jv N) (XH.cons 43 1 1 (by kernel_rfl) (Qhq N) (XH.cons 43 2 1 (by kernel_rfl) (Qhq N) (XH.cons 43 3 1 (by kernel_rfl) (Qhq N) XH.nil)))))
 exact(h0.map (λx=>⟨x.1,x.2.1,x.2.2.1,x.2.2.2.1⟩) (λ_=>rfl) (λx d h=>by obtain⟨_,rfl,h⟩:=h;obtain⟨_,_,rfl,a0,h⟩:=h;obtain⟨_,_,rfl,a1,h⟩:=h;obtain⟨_,_,rfl,a2,h⟩:=h;obtain⟨_,_,rfl,a3,h⟩:=h;exact⟨a0,a1,a2,a3⟩)).mono (Us N)
def NZ (x:Xy):Prop:=(Ed .i64) x.Do/\(Ed .i64) x.Id/\Qee x.Mode/\(Ed .i64) x.Num
theorem Qn5 {H:Type}{enc:TypeId×Value->H}{w:World}(N:Nat):Rd enc Tryz.prog w N 52 Xl (λx _=>NZ x):=by
 have h0:=(Rd.struct (fs:=[(3,0),(3,1),(50,2),(3,6)]) (tot:=7) (N:=N) (t:=52) (P:=Tryz.prog) (w:=w) (enc:=enc) (by kernel_rfl) (XH.cons 3 0 1 (by kernel_rfl) (Jv N) (XH.cons 3 1 1 (by kernel_rfl) (Jv N) (XH.cons 50 2 4 (by kernel_rfl) (Qn4 N) (XH.cons 3 6 1 (by kernel_rfl) (Jv N) XH.nil)))))
 exact(h0.map (λx=>⟨x.1,x.2.1,x.2.2.1,x.2.2.2.1⟩) (λ_=>rfl) (λx d h=>by obtain⟨_,rfl,h⟩:=h;obtain⟨_,_,rfl,a0,h⟩:=h;obtain⟨_,_,rfl,a1,h⟩:=h;obtain⟨_,_,rfl,a2,h⟩:=h;obtain⟨_,_,rfl,a3,h⟩:=h;exact⟨a0,a1,a2,a3⟩)).mono (Us N)
theorem Qoo {H:Type}{enc:TypeId×Value->H}{w:World}(N:Nat):Rd enc Tryz.prog w N 27 row_LTCall (λx _=>(De NZ) x):=(Rd.slice (e:=52) (z:=7) (by kernel_rfl) (by kernel_rfl) (by decide) (λx=>WK rfl) (Qn5 N)).map id (λ_=>rfl) λ_ _ h=>Fo h
def QkI (x:(L_ ByteArray)):Prop:=x.length*16<=reachBytes
theorem QmA {H:Type}{enc:TypeId×Value->H}{w:World}(N:Nat):Rd enc Tryz.prog w N 104 Qj3 (λx d=>(De okS) x/\(Sz Tryz.prog 104 d->QkI x)):=(Rd.slice (e:=9) (z:=1) (by kernel_rfl) (by kernel_rfl) (by decide) (λx=>WK rfl) (Qao N)).map id (λ_=>rfl) λ_ _ h=>QhW (t:=104) (e:=9) (b:=16) (by kernel_rfl) (by kernel_rfl) h
def QkJ (x:Xj):Prop:=QkI x.Names
theorem QmB {H:Type}{enc:TypeId×Value->H}{w:World}(N:Nat):Rd enc Tryz.prog w N 106 QL (λx d=>Nh x/\(Sz Tryz.prog 106 d->QkJ x)):=by
 have h0:=(Rd.struct (fs:=[(9,0),(3,1),(3,2),(3,3),(104,4),(3,5),(3,6)]) (tot:=7) (N:=N) (t:=106) (P:=Tryz.prog) (w:=w) (enc:=enc) (by kernel_rfl) (XH.cons 9 0 1 (by kernel_rfl) (Qao N) (XH.cons 3 1 1 (by kernel_rfl) (Jv N) (XH.cons 3 2 1 (by kernel_rfl) (Jv N) (XH.cons 3 3 1 (by kernel_rfl) (Jv N) (XH.cons 104 4 1 (by kernel_rfl) (QmA N) (XH.cons 3 5 1 (by kernel_rfl) (Jv N) (XH.cons 3 6 1 (by kernel_rfl) (Jv N) XH.nil))))))))
 exact(h0.map (λx=>⟨x.1,x.2.1,x.2.2.1,x.2.2.2.1,x.2.2.2.2.1,x.2.2.2.2.2.1,x.2.2.2.2.2.2.1⟩) (λ_=>rfl) (λx d h=>by obtain⟨_,rfl,h⟩:=h;obtain⟨_,_,rfl,a0,h⟩:=h;obtain⟨_,_,rfl,a1,h⟩:=h;obtain⟨_,_,rfl,a2,h⟩:=h;obtain⟨_,_,rfl,a3,h⟩:=h;obtain⟨_,_,rfl,a4,h⟩:=h;obtain⟨_,_,rfl,a5,h⟩:=h;obtain⟨_,_,rfl,a6,h⟩:=h;exact⟨⟨a0,a1,a2,a3,a4.1,a5,a6⟩,λhz=>a4.2 (Sz.field Tryz.underlying106 hz (j:=4) rfl rfl)⟩)).mono (Us N)
def QlT (x:(L_ Xj)):Prop:=x.length*80<=reachBytes/\∀y∈x,QkJ y
theorem Qnu {H:Type}{enc:TypeId×Value->H}{w:World}(N:Nat):Rd enc Tryz.prog w N 22 Qbm (λx d=>(De Nh) x/\(Sz Tryz.prog 22 d->QlT x)):=(Rd.slice (e:=106) (z:=7) (by kernel_rfl) (by kernel_rfl) (by decide) (λx=>WK rfl) (QmB N)).map id (λ_=>rfl) λ_ _ h=>Qjj (t:=22) (e:=106) (b:=80) (by kernel_rfl) (by kernel_rfl) h
def QlU (x:(L_ (Int×Int))):Prop:=x.length*16<=reachBytes
theorem Qnv {H:Type}{enc:TypeId×Value->H}{w:World}(N:Nat):Rd enc Tryz.prog w N 99 Qj (λx d=>(De QfA) x/\(Sz Tryz.prog 99 d->QlU x)):=(Rd.slice (e:=112) (z:=2) (by kernel_rfl) (by kernel_rfl) (by decide) (λx=>WK rfl) (QkE N)).map id (λ_=>rfl) λ_ _ h=>QhW (t:=99) (e:=112) (b:=16) (by kernel_rfl) (by kernel_rfl) h
def QkK (x:Xz):Prop:=QlU x.First
theorem QmC {H:Type}{enc:TypeId×Value->H}{w:World}(N:Nat):Rd enc Tryz.prog w N 108 QI (λx d=>OM x/\(Sz Tryz.prog 108 d->QkK x)):=by
 have h0:=(Rd.struct (fs:=[(9,0),(3,1),(99,2)]) (tot:=3) (N:=N) (t:=108) (P:=Tryz.prog) (w:=w) (enc:=enc) (by kernel_rfl) (XH.cons 9 0 1 (by kernel_rfl) (Qao N) (XH.cons 3 1 1 (by kernel_rfl) (Jv N) (XH.cons 99 2 1 (by kernel_rfl) (Qnv N) XH.nil))))
 exact(h0.map (λx=>⟨x.1,x.2.1,x.2.2.1⟩) (λ_=>rfl) (λx d h=>by obtain⟨_,rfl,h⟩:=h;obtain⟨_,_,rfl,a0,h⟩:=h;obtain⟨_,_,rfl,a1,h⟩:=h;obtain⟨_,_,rfl,a2,h⟩:=h;exact⟨⟨a0,a1,a2.1⟩,λhz=>a2.2 (Sz.field Tryz.underlying108 hz (j:=2) rfl rfl)⟩)).mono (Us N)
def QlV (x:(L_ Xz)):Prop:=x.length*48<=reachBytes/\∀y∈x,QkK y
theorem Qnw {H:Type}{enc:TypeId×Value->H}{w:World}(N:Nat):Rd enc Tryz.prog w N 23 Qda (λx d=>(De OM) x/\(Sz Tryz.prog 23 d->QlV x)):=(Rd.slice (e:=108) (z:=3) (by kernel_rfl) (by kernel_rfl) (by decide) (λx=>WK rfl) (QmC N)).map id (λ_=>rfl) λ_ _ h=>Qjj (t:=23) (e:=108) (b:=48) (by kernel_rfl) (by kernel_rfl) h
def QlW (x:(L_ Yw)):Prop:=x.length*24<=reachBytes
theorem Qnx {H:Type}{enc:TypeId×Value->H}{w:World}(N:Nat):Rd enc Tryz.prog w N 56 JD (λx d=>(De Qct) x/\(Sz Tryz.prog 56 d->QlW x)):=(Rd.slice (e:=140) (z:=2) (by kernel_rfl) (by kernel_rfl) (by decide) (λx=>WK rfl) (QkF N)).map id (λ_=>rfl) λ_ _ h=>QhW (t:=56) (e:=140) (b:=24) (by kernel_rfl) (by kernel_rfl) h
def QjE (x:(L_ Yd)):Prop:=x.length*48<=reachBytes
theorem QkL {H:Type}{enc:TypeId×Value->H}{w:World}(N:Nat):Rd enc Tryz.prog w N 60 QgF (λx d=>(De PY) x/\(Sz Tryz.prog 60 d->QjE x)):=(Rd.slice (e:=110) (z:=4) (by kernel_rfl) (by kernel_rfl) (by decide) (λx=>WK rfl) (QkG N)).map id (λ_=>rfl) λ_ _ h=>QhW (t:=60) (e:=110) (b:=48) (by kernel_rfl) (by kernel_rfl) h
def QfC (x:(L_ Int)):Prop:=x.length*8<=reachBytes
theorem QfD {H:Type}{enc:TypeId×Value->H}{w:World}(N:Nat):Rd enc Tryz.prog w N 43 QQ (λx d=>(De (Ed .i64)) x/\(Sz Tryz.prog 43 d->QfC x)):=(Rd.slice (e:=3) (z:=1) (by kernel_rfl) (by kernel_rfl) (by decide) (λx=>WK rfl) (Jv N)).map id (λ_=>rfl) λ_ _ h=>QhW (t:=43) (e:=3) (b:=8) (by kernel_rfl) (by kernel_rfl) h
def QlX (x:QT):Prop:=QlW x.Vars/\QjE x.Ins/\QjE x.Outs/\QfC x.Cancel
theorem Qny {H:Type}{enc:TypeId×Value->H}{w:World}(N:Nat):Rd enc Tryz.prog w N 63 Qk (λx d=>Su x/\(Sz Tryz.prog 63 d->QlX x)):=by
 have h0:=(Rd.struct (fs:=[(9,0),(56,1),(59,2),(3,5),(3,6),(60,7),(60,8),(43,9),(3,10),(61,11)]) (tot:=14) (N:=N) (t:=63) (P:=Tryz.prog) (w:=w) (enc:=enc) (by kernel_rfl) (XH.cons 9 0 1 (by kernel_rfl) (Qao N) (XH.cons 56 1 1 (by kernel_rfl) (Qnx N) (XH.cons 59 2 3 (by kernel_rfl) (QjD N) (XH.cons 3 5 1 (by kernel_rfl) (Jv N) (XH.cons 3 6 1 (by kernel_rfl) (Jv N) (XH.cons 60 7 1 (by kernel_rfl) (QkL N) (XH.cons 60 8 1 (by kernel_rfl) (QkL N) (XH.cons 43 9 1 (by kernel_rfl) (QfD N) (XH.cons 3 10 1 (by kernel_rfl) (Jv N) (XH.cons 61 11 3 (by kernel_rfl) (QlS N) XH.nil)))))))))))
 exact(h0.map (λx=>⟨x.1,x.2.1,x.2.2.1,x.2.2.2.1,x.2.2.2.2.1,x.2.2.2.2.2.1,x.2.2.2.2.2.2.1,x.2.2.2.2.2.2.2.1,x.2.2.2.2.2.2.2.2.1,x.2.2.2.2.2.2.2.2.2.1⟩) (λ_=>rfl) (λx d h=>by obtain⟨_,rfl,h⟩:=h;obtain⟨_,_,rfl,a0,h⟩:=h;obtain⟨_,_,rfl,a1,h⟩:=h;obtain⟨_,_,rfl,a2,h⟩:=h;obtain⟨_,_,rfl,a3,h⟩:=h;obtain⟨_,_,rfl,a4,h⟩:=h;obtain⟨_,_,rfl,a5,h⟩:=h;obtain⟨_,_,rfl,a6,h⟩:=h;obtain⟨_,_,rfl,a7,h⟩:=h;obtain⟨_,_,rfl,a8,h⟩:=h;obtain⟨_,_,rfl,a9,h⟩:=h;exact⟨⟨a0,a1.1,a2,a3,a4,a5.1,a6.1,a7.1,a8,a9⟩,λhz=>⟨a1.2 (Sz.field Tryz.underlying63 hz (j:=1) rfl rfl),a5.2 (Sz.field Tryz.underlying63 hz (j:=5) rfl rfl),a6.2 (Sz.field Tryz.underlying63 hz (j:=6) rfl rfl),a7.2 (Sz.field Tryz.underlying63 hz (j:=7) rfl rfl)⟩⟩)).mono (Us N)
def QlY (x:(L_ QT)):Prop:=x.length*200<=reachBytes/\∀y∈x,QlX y
theorem Qnz {H:Type}{enc:TypeId×Value->H}{w:World}(N:Nat):Rd enc Tryz.prog w N 24 Qey (λx d=>(De Su) x/\(Sz Tryz.prog 24 d->QlY x)):=(Rd.slice (e:=63) (z:=14) (by kernel_rfl) (by kernel_rfl) (by decide) (λx=>WK rfl) (Qny N)).map id (λ_=>rfl) λ_ _ h=>Qjj (t:=24) (e:=63) (b:=200) (by kernel_rfl) (by kernel_rfl) h
def Qhr (x:Ql):Prop:=QlT x.Colours/\QlV x.Places/\QlY x.Tasks
theorem QnA {H:Type}{enc:TypeId×Value->H}{w:World}(N:Nat):Rd enc Tryz.prog w N 26 Qa (λx d=>Zm x/\(Sz Tryz.prog 26 d->Qhr x)):=by
 have h0:=(Rd.struct (fs:=[(22,0),(23,1),(24,2),(3,3),(3,4)]) (tot:=5) (N:=N) (t:=26) (P:=Tryz.prog) (w:=w) (enc:=enc) (by kernel_rfl) (XH.cons 22 0 1 (by kernel_rfl) (Qnu N) (XH.cons 23 1 1 (by kernel_rfl) (Qnw N) (XH.cons 24 2 1 (by kernel_rfl) (Qnz N) (XH.cons 3 3 1 (by kernel_rfl) (Jv N) (XH.cons 3 4 1 (by kernel_rfl) (Jv N) XH.nil))))))
 exact(h0.map (λx=>⟨x.1,x.2.1,x.2.2.1,x.2.2.2.1,x.2.2.2.2.1⟩) (λ_=>rfl) (λx d h=>by obtain⟨_,rfl,h⟩:=h;obtain⟨_,_,rfl,a0,h⟩:=h;obtain⟨_,_,rfl,a1,h⟩:=h;obtain⟨_,_,rfl,a2,h⟩:=h;obtain⟨_,_,rfl,a3,h⟩:=h;obtain⟨_,_,rfl,a4,h⟩:=h;exact⟨⟨a0.1,a1.1,a2.1,a3,a4⟩,λhz=>⟨a0.2 (Sz.field Tryz.underlying26 hz (j:=0) rfl rfl),a1.2 (Sz.field Tryz.underlying26 hz (j:=1) rfl rfl),a2.2 (Sz.field Tryz.underlying26 hz (j:=2) rfl rfl)⟩⟩)).mono (Us N)
def QlZ (x:Qr):Prop:=QfC x.Vars/\QfC x.Ins/\QfC x.Outs
theorem QnB {H:Type}{enc:TypeId×Value->H}{w:World}(N:Nat):Rd enc Tryz.prog w N 50 Qn (λx d=>Qee x/\(Sz Tryz.prog 50 d->QlZ x)):=by
 have h0:=(Rd.struct (fs:=[(3,0),(43,1),(43,2),(43,3)]) (tot:=4) (N:=N) (t:=50) (P:=Tryz.prog) (w:=w) (enc:=enc) (by kernel_rfl) (XH.cons 3 0 1 (by kernel_rfl) (Jv N) (XH.cons 43 1 1 (by kernel_rfl) (QfD N) (XH.cons 43 2 1 (by kernel_rfl) (QfD N) (XH.cons 43 3 1 (by kernel_rfl) (QfD N) XH.nil)))))
 exact(h0.map (λx=>⟨x.1,x.2.1,x.2.2.1,x.2.2.2.1⟩) (λ_=>rfl) (λx d h=>by obtain⟨_,rfl,h⟩:=h;obtain⟨_,_,rfl,a0,h⟩:=h;obtain⟨_,_,rfl,a1,h⟩:=h;obtain⟨_,_,rfl,a2,h⟩:=h;obtain⟨_,_,rfl,a3,h⟩:=h;exact⟨⟨a0,a1.1,a2.1,a3.1⟩,λhz=>⟨a1.2 (Sz.field Tryz.underlying50 hz (j:=1) rfl rfl),a2.2 (Sz.field Tryz.underlying50 hz (j:=2) rfl rfl),a3.2 (Sz.field Tryz.underlying50 hz (j:=3) rfl rfl)⟩⟩)).mono (Us N)
def Ql0 (x:Xy):Prop:=QlZ x.Mode
theorem QnC {H:Type}{enc:TypeId×Value->H}{w:World}(N:Nat):Rd enc Tryz.prog w N 52 Xl (λx d=>NZ x/\(Sz Tryz.prog 52 d->Ql0 x)):=by
 have h0:=(Rd.struct (fs:=[(3,0),(3,1),(50,2),(3,6)]) (tot:=7) (N:=N) (t:=52) (P:=Tryz.prog) (w:=w) (enc:=enc) (by kernel_rfl) (XH.cons 3 0 1 (by kernel_rfl) (Jv N) (XH.cons 3 1 1 (by kernel_rfl) (Jv N) (XH.cons 50 2 4 (by kernel_rfl) (QnB N) (XH.cons 3 6 1 (by kernel_rfl) (Jv N) XH.nil)))))
 exact(h0.map (λx=>⟨x.1,x.2.1,x.2.2.1,x.2.2.2.1⟩) (λ_=>rfl) (λx d h=>by obtain⟨_,rfl,h⟩:=h;obtain⟨_,_,rfl,a0,h⟩:=h;obtain⟨_,_,rfl,a1,h⟩:=h;obtain⟨_,_,rfl,a2,h⟩:=h;obtain⟨_,_,rfl,a3,h⟩:=h;exact⟨⟨a0,a1,a2.1,a3⟩,λhz=>a2.2 (Sz.field Tryz.underlying52 hz (j:=2) rfl rfl)⟩)).mono (Us N)
def QjF (x:(L_ Xy)):Prop:=x.length*104<=reachBytes/\∀y∈x,Ql0 y
theorem QnD {H:Type}{enc:TypeId×Value->H}{w:World}(N:Nat):Rd enc Tryz.prog w N 27 row_LTCall (λx d=>(De NZ) x/\(Sz Tryz.prog 27 d->QjF x)):=(Rd.slice (e:=52) (z:=7) (by kernel_rfl) (by kernel_rfl) (by decide) (λx=>WK rfl) (QnC N)).map id (λ_=>rfl) λ_ _ h=>Qjj (t:=27) (e:=52) (b:=104) (by kernel_rfl) (by kernel_rfl) h
namespace LawEngineKeeps
theorem own : ownKnob Tryz.prog.godebug=none:=by kernel_rfl
theorem QmD : laidOutB Tryz.prog=true:=by kernel_rfl
theorem QlJ : ∀t∈Tryz.f4.params.toList,Tryz.prog.readableRec t=true/\t<Tryz.prog.types.size:=by
 have h:(Tryz.f4.params.toList.all λt=>Tryz.prog.readableRec t&&decide (t<Tryz.prog.types.size))=true:=by kernel_rfl
 intro t ht
 have:=XD.1 h t ht
 rw[QJ,QV]at this
 exact this
theorem QlK (os:Os)(args:Array Value):laidMetH Tryz.prog Rows.engineKeepsRow.laid ((World.doorLaid Tryz.prog 33 os).forCall (λ_ _=>0) ⟨#[],args,[]⟩).memory:=
 laidMetH_of_parts3 (fuel:=8) (laidMet_of_run' 8 (by kernel_rfl) (by kernel_rfl)) (by kernel_rfl) (by kernel_rfl)
theorem QlL {W:World}(h:laidMetH Tryz.prog Rows.engineKeepsRow.laid W):ON Tryz.prog (λk=>k<W.heap.size) W:=
 QhV (r:=[]) (g:=0) (t:=350) (e:=5) 1 (by kernel_rfl) (by kernel_rfl) (by kernel_rfl) (by kernel_rfl) (by kernel_rfl) (by kernel_rfl) (by kernel_rfl) (by kernel_rfl) h
set_option maxRecDepth 100000 in
theorem lifted (hF:∀(a0:Ql) (a1:(L_ Xy)),(Zm a0/\Qhr a0)->((De NZ) a1/\QjF a1)->Dk a0 a1=some true)(os:Os)(started:os.Started)(H:Type)(enc:TypeId×Value->H):
  ReturnsInHanded {} Tryz.checked os 4 .any (λw args=>(Rows.engineKeepsSpec.pre enc Tryz.prog Tryz.f4 Rows.engineKeepsRow.domain false w args/\laidMetH Tryz.prog Rows.engineKeepsRow.laid w)/\sizedMet enc Tryz.prog Tryz.f4 (OpenSpec.ofChange Rows.engineKeepsSpec) false w args) (Rows.engineKeepsSpec.post enc Tryz.prog Tryz.f4 false true false false):=by
 refine returnsInHanded_of_change_and (C:=Tryz.checked) (X:=λw _=>laidMetH Tryz.prog Rows.engineKeepsRow.laid w) (λ_ _ _ hh h=>h.of_heap hh) own started (by kernel_rfl) Tryz.func4
  (ChangeSpec.witness_shaped (enc:=enc) (C:=Tryz.checked) (os:=os) (X:=λw _=>laidMetH Tryz.prog Rows.engineKeepsRow.laid w) false (World.doorLaid Tryz.prog 33 os) #[.agg #[.slice none 0 0,.slice none 0 0,.slice none 0 0,.int .i64 0,.int .i64 0],.slice none 0 0] 8 rfl (World.shaped_of_RefB (by kernel_rfl) (by kernel_rfl)) (by kernel_rfl) (by kernel_rfl) (by kernel_rfl) (QlK os _)) ?_
 intro W base args ds gs before hval0 hW hcnd hz hL _
 have hval:∀(j:Nat) t v,Tryz.f4.params[j]? = some t->args[j]? = some v->Value.okWide Tryz.prog W .any base t v:=hval0
 have hW1:=hW
 obtain⟨p,q,hA0,hV,_,_,_⟩:=hW
 obtain⟨rfl,_⟩:=trodVars_none hV
 have hA:DataW.TrodAll enc Tryz.prog W 0 (λ_=>true) true Tryz.f4.params.toList args.toList ds p:=hA0
 rw[Tryz.params4]at hA hval
 obtain⟨v0,vs0,d0,ds0,p0,q0,hargs,rfl,_,h0,r0⟩:=trodAll_cons hA
 obtain⟨v1,vs1,d1,ds1,p1,q1,rfl,rfl,_,h1,r1⟩:=trodAll_cons r0
 obtain⟨rfl,rfl,_⟩:=trodAll_nil r1
 obtain rfl:args=#[v0,v1]:=by cases args;simp_all
 obtain⟨a0,w0',c0⟩:=Rd.open (λN=>QnA N) h0
 have w0:=And.intro w0'.1 (w0'.2 (Sz.all hz (j:=0) (by kernel_rfl) rfl))
 obtain⟨_,rfl⟩:=Qk7 (P:=Tryz.prog) (t:=26) (fs:=[(22,0),(23,1),(24,2),(3,3),(3,4)]) (tot:=5) (by kernel_rfl) (hval 0 26 v0 rfl rfl)
 have e0:=c0.argS
 obtain⟨a1,w1',c1⟩:=Rd.open (λN=>QnD N) h1
 have w1:=And.intro w1'.1 (w1'.2 (Sz.all hz (j:=1) (by kernel_rfl) rfl))
 obtain⟨_,_,_,rfl⟩:=okWide_slice Tryz.underlying27 (hval 1 27 v1 rfl rfl)
 have e1:=(Cl.arg1 rfl c1)
 refine(QS.law (us:=[.agg (Qa a0),.sl 7 (a1.map Xl)]) (VA a0 a1 _ (hF a0 a1 w0 w1)) (QlL hL) rfl (λj x v hx hv=>?_)).mono λe W2 ⟨he,hb⟩=>?_
 ·match j with
  | 0=>cases hx;cases hv;exact e0
  | 1=>cases hx;cases hv;exact e1
  | j+2=>simp at hx
 subst he
 exact⟨_,rfl,Qk8 QmD QlJ hW1 rfl hb rfl Tryz.underlying4 rfl rfl rfl⟩
theorem bA {a b:Bool}(x:a=true)(y:b=true):(a&&b)=true:=by rw[x,y];rfl
abbrev jR := Rows.engineKeepsRow
noncomputable abbrev jP := Tryz.pinned.checked.prog
abbrev jS := Rows.engineKeepsSpec
end LawEngineKeeps
end Go.Proofs.YtkocdcoeinjdbaaGreatDoor
