/- EngineCancels, as it is given: of any net and any calls it answers true, with no condition but what its row asks of all calls. -/
import Derived.Test.YtkocdcoeinjdbaaGreatDoorK2P3
import Derived.Test.YtkocdcoeinjdbaaGreatDoorK2T2
import Derived.Test.YtkocdcoeinjdbaaGreatDoorK2V3
import Derived.Test.YtkocdcoeinjdbaaGreatDoorRows
import Derived.Test.YtkocdcoeinjdbaaGreatDoorTie
import Derived.Test.YtkocdcoeinjdbaaGreatDoorCards
import Derived.SevenTiedAt
import Derived.WalkKit
import Derived.ProofKit
import Derived.OpenShut
set_option linter.all false
noncomputable section
namespace Go.Proofs.YtkocdcoeinjdbaaGreatDoor
open Go Go.RowKit Go.Vm Go.ChangeShapes Go.WideShapes Go.ChangeAt
def row_LTCall (x:(L_ Xt)):List V:=[.sl 7 (x.map XF)]
theorem rd_9 {H:Type}{enc:TypeId×Value->H}{w:World}(N:Nat):Rd enc Tryz.prog w N 9 Di (λx _=>Py x):=(Rd.string (by kernel_rfl)).map id (λ_=>rfl) λ_ _ h=>h.1
theorem rd_3 {H:Type}{enc:TypeId×Value->H}{w:World}(N:Nat):Rd enc Tryz.prog w N 3 Qb (λx _=>(Jn .i64) x):=(Rd.int (by kernel_rfl)).map id (λ_=>rfl) λ_ _ h=>QjZ h
theorem rd_104 {H:Type}{enc:TypeId×Value->H}{w:World}(N:Nat):Rd enc Tryz.prog w N 104 QeB (λx _=>(YW Py) x):=(Rd.slice (e:=9) (z:=1) (by kernel_rfl) (by kernel_rfl) (by decide) (λx=>Yt rfl) (rd_9 N)).map id (λ_=>rfl) λ_ _ h=>Ws h
def ok_TColour (x:Xh):Prop:=Py x.Name/\(Jn .i64) x.Kind/\(Jn .i64) x.Lo/\(Jn .i64) x.Hi/\(YW Py) x.Names/\(Jn .i64) x.First/\(Jn .i64) x.Then
theorem rd_106 {H:Type}{enc:TypeId×Value->H}{w:World}(N:Nat):Rd enc Tryz.prog w N 106 QK (λx _=>ok_TColour x):=by
 have h0:=(Rd.struct (fs:=[(9,0),(3,1),(3,2),(3,3),(104,4),(3,5),(3,6)]) (tot:=7) (N:=N) (t:=106) (P:=Tryz.prog) (w:=w) (enc:=enc) (by kernel_rfl) (QY.cons 9 0 1 (by kernel_rfl) (rd_9 N) (QY.cons 3 1 1 (by kernel_rfl) (rd_3 N) (QY.cons 3 2 1 (by kernel_rfl) (rd_3 N) (QY.cons 3 3 1 (by kernel_rfl) (rd_3 N) (QY.cons 104 4 1 (by kernel_rfl) (rd_104 N) (QY.cons 3 5 1 (by kernel_rfl) (rd_3 N) (QY.cons 3 6 1 (by kernel_rfl) (rd_3 N) QY.nil))))))))
 exact(h0.map (λx=>⟨x.1,x.2.1,x.2.2.1,x.2.2.2.1,x.2.2.2.2.1,x.2.2.2.2.2.1,x.2.2.2.2.2.2.1⟩) (λ_=>rfl) (λx d h=>by obtain⟨_,rfl,h⟩:=h;obtain⟨_,_,rfl,a0,h⟩:=h;obtain⟨_,_,rfl,a1,h⟩:=h;obtain⟨_,_,rfl,a2,h⟩:=h;obtain⟨_,_,rfl,a3,h⟩:=h;obtain⟨_,_,rfl,a4,h⟩:=h;obtain⟨_,_,rfl,a5,h⟩:=h;obtain⟨_,_,rfl,a6,h⟩:=h;exact⟨a0,a1,a2,a3,a4,a5,a6⟩)).mono (Ko N)
theorem rd_22 {H:Type}{enc:TypeId×Value->H}{w:World}(N:Nat):Rd enc Tryz.prog w N 22 ME (λx _=>(YW ok_TColour) x):=(Rd.slice (e:=106) (z:=7) (by kernel_rfl) (by kernel_rfl) (by decide) (λx=>Yt rfl) (rd_106 N)).map id (λ_=>rfl) λ_ _ h=>Ws h
def ok_A2I (x:(Int×Int)):Prop:=(Jn .i64) x.1/\(Jn .i64) x.2
theorem rd_112 {H:Type}{enc:TypeId×Value->H}{w:World}(N:Nat):Rd enc Tryz.prog w N 112 QW (λx _=>ok_A2I x):=by
 have h0:=(Rd.array (e:=3) (n:=2) (tot:=2) (fs:=[(3,0),(3,1)]) (N:=N) (t:=112) (P:=Tryz.prog) (w:=w) (enc:=enc) (by kernel_rfl) (QY.cons 3 0 1 (by kernel_rfl) (rd_3 N) (QY.cons 3 1 1 (by kernel_rfl) (rd_3 N) QY.nil)))
 exact(h0.map (λx=>⟨x.1,x.2.1⟩) (λ_=>rfl) (λx d h=>by obtain⟨_,rfl,h⟩:=h;obtain⟨_,_,rfl,a0,h⟩:=h;obtain⟨_,_,rfl,a1,h⟩:=h;exact⟨a0,a1⟩)).mono (Ko N)
theorem rd_99 {H:Type}{enc:TypeId×Value->H}{w:World}(N:Nat):Rd enc Tryz.prog w N 99 Qm (λx _=>(YW ok_A2I) x):=(Rd.slice (e:=112) (z:=2) (by kernel_rfl) (by kernel_rfl) (by decide) (λx=>Yt rfl) (rd_112 N)).map id (λ_=>rfl) λ_ _ h=>Ws h
def ok_TPlace (x:XB):Prop:=Py x.Name/\(Jn .i64) x.Colour/\(YW ok_A2I) x.First
theorem rd_108 {H:Type}{enc:TypeId×Value->H}{w:World}(N:Nat):Rd enc Tryz.prog w N 108 QH (λx _=>ok_TPlace x):=by
 have h0:=(Rd.struct (fs:=[(9,0),(3,1),(99,2)]) (tot:=3) (N:=N) (t:=108) (P:=Tryz.prog) (w:=w) (enc:=enc) (by kernel_rfl) (QY.cons 9 0 1 (by kernel_rfl) (rd_9 N) (QY.cons 3 1 1 (by kernel_rfl) (rd_3 N) (QY.cons 99 2 1 (by kernel_rfl) (rd_99 N) QY.nil))))
 exact(h0.map (λx=>⟨x.1,x.2.1,x.2.2.1⟩) (λ_=>rfl) (λx d h=>by obtain⟨_,rfl,h⟩:=h;obtain⟨_,_,rfl,a0,h⟩:=h;obtain⟨_,_,rfl,a1,h⟩:=h;obtain⟨_,_,rfl,a2,h⟩:=h;exact⟨a0,a1,a2⟩)).mono (Ko N)
theorem rd_23 {H:Type}{enc:TypeId×Value->H}{w:World}(N:Nat):Rd enc Tryz.prog w N 23 OI (λx _=>(YW ok_TPlace) x):=(Rd.slice (e:=108) (z:=3) (by kernel_rfl) (by kernel_rfl) (by decide) (λx=>Yt rfl) (rd_108 N)).map id (λ_=>rfl) λ_ _ h=>Ws h
def ok_TVar (x:Yz):Prop:=Py x.Name/\(Jn .i64) x.Colour
theorem rd_140 {H:Type}{enc:TypeId×Value->H}{w:World}(N:Nat):Rd enc Tryz.prog w N 140 Xg (λx _=>ok_TVar x):=by
 have h0:=(Rd.struct (fs:=[(9,0),(3,1)]) (tot:=2) (N:=N) (t:=140) (P:=Tryz.prog) (w:=w) (enc:=enc) (by kernel_rfl) (QY.cons 9 0 1 (by kernel_rfl) (rd_9 N) (QY.cons 3 1 1 (by kernel_rfl) (rd_3 N) QY.nil)))
 exact(h0.map (λx=>⟨x.1,x.2.1⟩) (λ_=>rfl) (λx d h=>by obtain⟨_,rfl,h⟩:=h;obtain⟨_,_,rfl,a0,h⟩:=h;obtain⟨_,_,rfl,a1,h⟩:=h;exact⟨a0,a1⟩)).mono (Ko N)
theorem rd_56 {H:Type}{enc:TypeId×Value->H}{w:World}(N:Nat):Rd enc Tryz.prog w N 56 Jh (λx _=>(YW ok_TVar) x):=(Rd.slice (e:=140) (z:=2) (by kernel_rfl) (by kernel_rfl) (by decide) (λx=>Yt rfl) (rd_140 N)).map id (λ_=>rfl) λ_ _ h=>Ws h
theorem rowx_TExpr (x:Qv):Qy x=[.i .i64 x.Kind,.i .i64 x.Num,.sl 3 (Ja x.Kids)]:=by cases x;rw[Qy]
inductive ok_TExpr : Qv->Prop where
 | mk (x:Qv):(Jn .i64) x.Kind->(Jn .i64) x.Num->x.Kids.length<=maxLen->(∀k∈x.Kids,ok_TExpr k)->ok_TExpr x
theorem rd_59 {H:Type}{enc:TypeId×Value->H}{w:World}(N:Nat):Rd enc Tryz.prog w N 59 Qy (λx _=>ok_TExpr x):=by
 induction N with
 | zero=>exact Rd.zero
 | succ N ih=>
  have h0:=(Rd.struct (fs:=[(3,0),(3,1),(57,2)]) (tot:=3) (N:=N) (t:=59) (P:=Tryz.prog) (w:=w) (enc:=enc) (by kernel_rfl) (QY.cons 3 0 1 (by kernel_rfl) (rd_3 N) (QY.cons 3 1 1 (by kernel_rfl) (rd_3 N) (QY.cons 57 2 1 (by kernel_rfl) (Rd.slice (e:=59) (z:=3) (by kernel_rfl) (by kernel_rfl) (by decide) (λx=>Yt (by cases x;rfl)) ih) QY.nil))))
  exact h0.map (λx=>⟨x.1,x.2.1,x.2.2.1⟩) (λx=>by simp only[Qy];rw[Bh];rfl) (λx d h=>by obtain⟨_,rfl,h⟩:=h;obtain⟨_,_,rfl,a0,h⟩:=h;obtain⟨_,_,rfl,a1,h⟩:=h;obtain⟨_,_,rfl,a2,h⟩:=h;exact ok_TExpr.mk _ a0 a1 (Ws a2).1 (Ws a2).2)
def ok_TArc (x:Ye):Prop:=(Jn .i64) x.Place/\ok_TExpr x.Expr
theorem rd_110 {H:Type}{enc:TypeId×Value->H}{w:World}(N:Nat):Rd enc Tryz.prog w N 110 XL (λx _=>ok_TArc x):=by
 have h0:=(Rd.struct (fs:=[(3,0),(59,1)]) (tot:=4) (N:=N) (t:=110) (P:=Tryz.prog) (w:=w) (enc:=enc) (by kernel_rfl) (QY.cons 3 0 1 (by kernel_rfl) (rd_3 N) (QY.cons 59 1 3 (by kernel_rfl) (rd_59 N) QY.nil)))
 exact(h0.map (λx=>⟨x.1,x.2.1⟩) (λx=>by rw[rowx_TExpr];rfl) (λx d h=>by obtain⟨_,rfl,h⟩:=h;obtain⟨_,_,rfl,a0,h⟩:=h;obtain⟨_,_,rfl,a1,h⟩:=h;exact⟨a0,a1⟩)).mono (Ko N)
theorem rd_60 {H:Type}{enc:TypeId×Value->H}{w:World}(N:Nat):Rd enc Tryz.prog w N 60 Tk (λx _=>(YW ok_TArc) x):=(Rd.slice (e:=110) (z:=4) (by kernel_rfl) (by kernel_rfl) (by decide) (λx=>Yt rfl) (rd_110 N)).map id (λ_=>rfl) λ_ _ h=>Ws h
theorem rd_43 {H:Type}{enc:TypeId×Value->H}{w:World}(N:Nat):Rd enc Tryz.prog w N 43 QU (λx _=>(YW (Jn .i64)) x):=(Rd.slice (e:=3) (z:=1) (by kernel_rfl) (by kernel_rfl) (by decide) (λx=>Yt rfl) (rd_3 N)).map id (λ_=>rfl) λ_ _ h=>Ws h
def ok_A3I (x:(Int×Int×Int)):Prop:=(Jn .i64) x.1/\(Jn .i64) x.2.1/\(Jn .i64) x.2.2
theorem rd_61 {H:Type}{enc:TypeId×Value->H}{w:World}(N:Nat):Rd enc Tryz.prog w N 61 Ae (λx _=>ok_A3I x):=by
 have h0:=(Rd.array (e:=3) (n:=3) (tot:=3) (fs:=[(3,0),(3,1),(3,2)]) (N:=N) (t:=61) (P:=Tryz.prog) (w:=w) (enc:=enc) (by kernel_rfl) (QY.cons 3 0 1 (by kernel_rfl) (rd_3 N) (QY.cons 3 1 1 (by kernel_rfl) (rd_3 N) (QY.cons 3 2 1 (by kernel_rfl) (rd_3 N) QY.nil))))
 exact(h0.map (λx=>⟨x.1,x.2.1,x.2.2.1⟩) (λ_=>rfl) (λx d h=>by obtain⟨_,rfl,h⟩:=h;obtain⟨_,_,rfl,a0,h⟩:=h;obtain⟨_,_,rfl,a1,h⟩:=h;obtain⟨_,_,rfl,a2,h⟩:=h;exact⟨a0,a1,a2⟩)).mono (Ko N)
def ok_TTask (x:QS):Prop:=Py x.Name/\(YW ok_TVar) x.Vars/\ok_TExpr x.Guard/\(Jn .i64) x.Join/\(Jn .i64) x.Split/\(YW ok_TArc) x.Ins/\(YW ok_TArc) x.Outs/\(YW (Jn .i64)) x.Cancel/\(Jn .i64) x.After/\ok_A3I x.Many
theorem rd_63 {H:Type}{enc:TypeId×Value->H}{w:World}(N:Nat):Rd enc Tryz.prog w N 63 Qi (λx _=>ok_TTask x):=by
 have h0:=(Rd.struct (fs:=[(9,0),(56,1),(59,2),(3,5),(3,6),(60,7),(60,8),(43,9),(3,10),(61,11)]) (tot:=14) (N:=N) (t:=63) (P:=Tryz.prog) (w:=w) (enc:=enc) (by kernel_rfl) (QY.cons 9 0 1 (by kernel_rfl) (rd_9 N) (QY.cons 56 1 1 (by kernel_rfl) (rd_56 N) (QY.cons 59 2 3 (by kernel_rfl) (rd_59 N) (QY.cons 3 5 1 (by kernel_rfl) (rd_3 N) (QY.cons 3 6 1 (by kernel_rfl) (rd_3 N) (QY.cons 60 7 1 (by kernel_rfl) (rd_60 N) (QY.cons 60 8 1 (by kernel_rfl) (rd_60 N) (QY.cons 43 9 1 (by kernel_rfl) (rd_43 N) (QY.cons 3 10 1 (by kernel_rfl) (rd_3 N) (QY.cons 61 11 3 (by kernel_rfl) (rd_61 N) QY.nil)))))))))))
 exact(h0.map (λx=>⟨x.1,x.2.1,x.2.2.1,x.2.2.2.1,x.2.2.2.2.1,x.2.2.2.2.2.1,x.2.2.2.2.2.2.1,x.2.2.2.2.2.2.2.1,x.2.2.2.2.2.2.2.2.1,x.2.2.2.2.2.2.2.2.2.1⟩) (λx=>by rw[rowx_TExpr];rfl) (λx d h=>by obtain⟨_,rfl,h⟩:=h;obtain⟨_,_,rfl,a0,h⟩:=h;obtain⟨_,_,rfl,a1,h⟩:=h;obtain⟨_,_,rfl,a2,h⟩:=h;obtain⟨_,_,rfl,a3,h⟩:=h;obtain⟨_,_,rfl,a4,h⟩:=h;obtain⟨_,_,rfl,a5,h⟩:=h;obtain⟨_,_,rfl,a6,h⟩:=h;obtain⟨_,_,rfl,a7,h⟩:=h;obtain⟨_,_,rfl,a8,h⟩:=h;obtain⟨_,_,rfl,a9,h⟩:=h;exact⟨a0,a1,a2,a3,a4,a5,a6,a7,a8,a9⟩)).mono (Ko N)
theorem rd_24 {H:Type}{enc:TypeId×Value->H}{w:World}(N:Nat):Rd enc Tryz.prog w N 24 PZ (λx _=>(YW ok_TTask) x):=(Rd.slice (e:=63) (z:=14) (by kernel_rfl) (by kernel_rfl) (by decide) (λx=>Yt rfl) (rd_63 N)).map id (λ_=>rfl) λ_ _ h=>Ws h
def ok_TNet (x:Ql):Prop:=(YW ok_TColour) x.Colours/\(YW ok_TPlace) x.Places/\(YW ok_TTask) x.Tasks/\(Jn .i64) x.From/\(Jn .i64) x.To
theorem rd_26 {H:Type}{enc:TypeId×Value->H}{w:World}(N:Nat):Rd enc Tryz.prog w N 26 Qa (λx _=>ok_TNet x):=by
 have h0:=(Rd.struct (fs:=[(22,0),(23,1),(24,2),(3,3),(3,4)]) (tot:=5) (N:=N) (t:=26) (P:=Tryz.prog) (w:=w) (enc:=enc) (by kernel_rfl) (QY.cons 22 0 1 (by kernel_rfl) (rd_22 N) (QY.cons 23 1 1 (by kernel_rfl) (rd_23 N) (QY.cons 24 2 1 (by kernel_rfl) (rd_24 N) (QY.cons 3 3 1 (by kernel_rfl) (rd_3 N) (QY.cons 3 4 1 (by kernel_rfl) (rd_3 N) QY.nil))))))
 exact(h0.map (λx=>⟨x.1,x.2.1,x.2.2.1,x.2.2.2.1,x.2.2.2.2.1⟩) (λ_=>rfl) (λx d h=>by obtain⟨_,rfl,h⟩:=h;obtain⟨_,_,rfl,a0,h⟩:=h;obtain⟨_,_,rfl,a1,h⟩:=h;obtain⟨_,_,rfl,a2,h⟩:=h;obtain⟨_,_,rfl,a3,h⟩:=h;obtain⟨_,_,rfl,a4,h⟩:=h;exact⟨a0,a1,a2,a3,a4⟩)).mono (Ko N)
def Qej (x:Qk):Prop:=(Jn .i64) x.Task/\(YW (Jn .i64)) x.Vars/\(YW (Jn .i64)) x.Ins/\(YW (Jn .i64)) x.Outs
theorem Qnd {H:Type}{enc:TypeId×Value->H}{w:World}(N:Nat):Rd enc Tryz.prog w N 50 Qo (λx _=>Qej x):=by
 have h0:=(Rd.struct (fs:=[(3,0),(43,1),(43,2),(43,3)]) (tot:=4) (N:=N) (t:=50) (P:=Tryz.prog) (w:=w) (enc:=enc) (by kernel_rfl) (QY.cons 3 0 1 (by kernel_rfl) (rd_3 N) (QY.cons 43 1 1 (by kernel_rfl) (rd_43 N) (QY.cons 43 2 1 (by kernel_rfl) (rd_43 N) (QY.cons 43 3 1 (by kernel_rfl) (rd_43 N) QY.nil)))))
 exact(h0.map (λx=>⟨x.1,x.2.1,x.2.2.1,x.2.2.2.1⟩) (λ_=>rfl) (λx d h=>by obtain⟨_,rfl,h⟩:=h;obtain⟨_,_,rfl,a0,h⟩:=h;obtain⟨_,_,rfl,a1,h⟩:=h;obtain⟨_,_,rfl,a2,h⟩:=h;obtain⟨_,_,rfl,a3,h⟩:=h;exact⟨a0,a1,a2,a3⟩)).mono (Ko N)
def Ow (x:Xt):Prop:=(Jn .i64) x.Do/\(Jn .i64) x.Id/\Qej x.Mode/\(Jn .i64) x.Num
theorem Qne {H:Type}{enc:TypeId×Value->H}{w:World}(N:Nat):Rd enc Tryz.prog w N 52 XF (λx _=>Ow x):=by
 have h0:=(Rd.struct (fs:=[(3,0),(3,1),(50,2),(3,6)]) (tot:=7) (N:=N) (t:=52) (P:=Tryz.prog) (w:=w) (enc:=enc) (by kernel_rfl) (QY.cons 3 0 1 (by kernel_rfl) (rd_3 N) (QY.cons 3 1 1 (by kernel_rfl) (rd_3 N) (QY.cons 50 2 4 (by kernel_rfl) (Qnd N) (QY.cons 3 6 1 (by kernel_rfl) (rd_3 N) QY.nil)))))
 exact(h0.map (λx=>⟨x.1,x.2.1,x.2.2.1,x.2.2.2.1⟩) (λ_=>rfl) (λx d h=>by obtain⟨_,rfl,h⟩:=h;obtain⟨_,_,rfl,a0,h⟩:=h;obtain⟨_,_,rfl,a1,h⟩:=h;obtain⟨_,_,rfl,a2,h⟩:=h;obtain⟨_,_,rfl,a3,h⟩:=h;exact⟨a0,a1,a2,a3⟩)).mono (Ko N)
theorem Qns {H:Type}{enc:TypeId×Value->H}{w:World}(N:Nat):Rd enc Tryz.prog w N 27 row_LTCall (λx _=>(YW Ow) x):=(Rd.slice (e:=52) (z:=7) (by kernel_rfl) (by kernel_rfl) (by decide) (λx=>Yt rfl) (Qne N)).map id (λ_=>rfl) λ_ _ h=>Ws h
def sz_104 (x:(L_ ByteArray)):Prop:=x.length*16<=reachBytes
theorem rdz_104 {H:Type}{enc:TypeId×Value->H}{w:World}(N:Nat):Rd enc Tryz.prog w N 104 QeB (λx d=>(YW Py) x/\(Sz Tryz.prog 104 d->sz_104 x)):=(Rd.slice (e:=9) (z:=1) (by kernel_rfl) (by kernel_rfl) (by decide) (λx=>Yt rfl) (rd_9 N)).map id (λ_=>rfl) λ_ _ h=>Vh (t:=104) (e:=9) (b:=16) (by kernel_rfl) (by kernel_rfl) h
def sz_106 (x:Xh):Prop:=sz_104 x.Names
theorem rdz_106 {H:Type}{enc:TypeId×Value->H}{w:World}(N:Nat):Rd enc Tryz.prog w N 106 QK (λx d=>ok_TColour x/\(Sz Tryz.prog 106 d->sz_106 x)):=by
 have h0:=(Rd.struct (fs:=[(9,0),(3,1),(3,2),(3,3),(104,4),(3,5),(3,6)]) (tot:=7) (N:=N) (t:=106) (P:=Tryz.prog) (w:=w) (enc:=enc) (by kernel_rfl) (QY.cons 9 0 1 (by kernel_rfl) (rd_9 N) (QY.cons 3 1 1 (by kernel_rfl) (rd_3 N) (QY.cons 3 2 1 (by kernel_rfl) (rd_3 N) (QY.cons 3 3 1 (by kernel_rfl) (rd_3 N) (QY.cons 104 4 1 (by kernel_rfl) (rdz_104 N) (QY.cons 3 5 1 (by kernel_rfl) (rd_3 N) (QY.cons 3 6 1 (by kernel_rfl) (rd_3 N) QY.nil))))))))
 exact(h0.map (λx=>⟨x.1,x.2.1,x.2.2.1,x.2.2.2.1,x.2.2.2.2.1,x.2.2.2.2.2.1,x.2.2.2.2.2.2.1⟩) (λ_=>rfl) (λx d h=>by obtain⟨_,rfl,h⟩:=h;obtain⟨_,_,rfl,a0,h⟩:=h;obtain⟨_,_,rfl,a1,h⟩:=h;obtain⟨_,_,rfl,a2,h⟩:=h;obtain⟨_,_,rfl,a3,h⟩:=h;obtain⟨_,_,rfl,a4,h⟩:=h;obtain⟨_,_,rfl,a5,h⟩:=h;obtain⟨_,_,rfl,a6,h⟩:=h;exact⟨⟨a0,a1,a2,a3,a4.1,a5,a6⟩,λhz=>a4.2 (Sz.field Tryz.underlying106 hz (j:=4) rfl rfl)⟩)).mono (Ko N)
def sz_22 (x:(L_ Xh)):Prop:=x.length*80<=reachBytes/\∀y∈x,sz_106 y
theorem rdz_22 {H:Type}{enc:TypeId×Value->H}{w:World}(N:Nat):Rd enc Tryz.prog w N 22 ME (λx d=>(YW ok_TColour) x/\(Sz Tryz.prog 22 d->sz_22 x)):=(Rd.slice (e:=106) (z:=7) (by kernel_rfl) (by kernel_rfl) (by decide) (λx=>Yt rfl) (rdz_106 N)).map id (λ_=>rfl) λ_ _ h=>Qds (t:=22) (e:=106) (b:=80) (by kernel_rfl) (by kernel_rfl) h
def sz_99 (x:(L_ (Int×Int))):Prop:=x.length*16<=reachBytes
theorem rdz_99 {H:Type}{enc:TypeId×Value->H}{w:World}(N:Nat):Rd enc Tryz.prog w N 99 Qm (λx d=>(YW ok_A2I) x/\(Sz Tryz.prog 99 d->sz_99 x)):=(Rd.slice (e:=112) (z:=2) (by kernel_rfl) (by kernel_rfl) (by decide) (λx=>Yt rfl) (rd_112 N)).map id (λ_=>rfl) λ_ _ h=>Vh (t:=99) (e:=112) (b:=16) (by kernel_rfl) (by kernel_rfl) h
def sz_108 (x:XB):Prop:=sz_99 x.First
theorem rdz_108 {H:Type}{enc:TypeId×Value->H}{w:World}(N:Nat):Rd enc Tryz.prog w N 108 QH (λx d=>ok_TPlace x/\(Sz Tryz.prog 108 d->sz_108 x)):=by
 have h0:=(Rd.struct (fs:=[(9,0),(3,1),(99,2)]) (tot:=3) (N:=N) (t:=108) (P:=Tryz.prog) (w:=w) (enc:=enc) (by kernel_rfl) (QY.cons 9 0 1 (by kernel_rfl) (rd_9 N) (QY.cons 3 1 1 (by kernel_rfl) (rd_3 N) (QY.cons 99 2 1 (by kernel_rfl) (rdz_99 N) QY.nil))))
 exact(h0.map (λx=>⟨x.1,x.2.1,x.2.2.1⟩) (λ_=>rfl) (λx d h=>by obtain⟨_,rfl,h⟩:=h;obtain⟨_,_,rfl,a0,h⟩:=h;obtain⟨_,_,rfl,a1,h⟩:=h;obtain⟨_,_,rfl,a2,h⟩:=h;exact⟨⟨a0,a1,a2.1⟩,λhz=>a2.2 (Sz.field Tryz.underlying108 hz (j:=2) rfl rfl)⟩)).mono (Ko N)
def sz_23 (x:(L_ XB)):Prop:=x.length*48<=reachBytes/\∀y∈x,sz_108 y
theorem rdz_23 {H:Type}{enc:TypeId×Value->H}{w:World}(N:Nat):Rd enc Tryz.prog w N 23 OI (λx d=>(YW ok_TPlace) x/\(Sz Tryz.prog 23 d->sz_23 x)):=(Rd.slice (e:=108) (z:=3) (by kernel_rfl) (by kernel_rfl) (by decide) (λx=>Yt rfl) (rdz_108 N)).map id (λ_=>rfl) λ_ _ h=>Qds (t:=23) (e:=108) (b:=48) (by kernel_rfl) (by kernel_rfl) h
def sz_56 (x:(L_ Yz)):Prop:=x.length*24<=reachBytes
theorem rdz_56 {H:Type}{enc:TypeId×Value->H}{w:World}(N:Nat):Rd enc Tryz.prog w N 56 Jh (λx d=>(YW ok_TVar) x/\(Sz Tryz.prog 56 d->sz_56 x)):=(Rd.slice (e:=140) (z:=2) (by kernel_rfl) (by kernel_rfl) (by decide) (λx=>Yt rfl) (rd_140 N)).map id (λ_=>rfl) λ_ _ h=>Vh (t:=56) (e:=140) (b:=24) (by kernel_rfl) (by kernel_rfl) h
def sz_60 (x:(L_ Ye)):Prop:=x.length*48<=reachBytes
theorem rdz_60 {H:Type}{enc:TypeId×Value->H}{w:World}(N:Nat):Rd enc Tryz.prog w N 60 Tk (λx d=>(YW ok_TArc) x/\(Sz Tryz.prog 60 d->sz_60 x)):=(Rd.slice (e:=110) (z:=4) (by kernel_rfl) (by kernel_rfl) (by decide) (λx=>Yt rfl) (rd_110 N)).map id (λ_=>rfl) λ_ _ h=>Vh (t:=60) (e:=110) (b:=48) (by kernel_rfl) (by kernel_rfl) h
def sz_43 (x:(L_ Int)):Prop:=x.length*8<=reachBytes
theorem rdz_43 {H:Type}{enc:TypeId×Value->H}{w:World}(N:Nat):Rd enc Tryz.prog w N 43 QU (λx d=>(YW (Jn .i64)) x/\(Sz Tryz.prog 43 d->sz_43 x)):=(Rd.slice (e:=3) (z:=1) (by kernel_rfl) (by kernel_rfl) (by decide) (λx=>Yt rfl) (rd_3 N)).map id (λ_=>rfl) λ_ _ h=>Vh (t:=43) (e:=3) (b:=8) (by kernel_rfl) (by kernel_rfl) h
def sz_63 (x:QS):Prop:=sz_56 x.Vars/\sz_60 x.Ins/\sz_60 x.Outs/\sz_43 x.Cancel
theorem rdz_63 {H:Type}{enc:TypeId×Value->H}{w:World}(N:Nat):Rd enc Tryz.prog w N 63 Qi (λx d=>ok_TTask x/\(Sz Tryz.prog 63 d->sz_63 x)):=by
 have h0:=(Rd.struct (fs:=[(9,0),(56,1),(59,2),(3,5),(3,6),(60,7),(60,8),(43,9),(3,10),(61,11)]) (tot:=14) (N:=N) (t:=63) (P:=Tryz.prog) (w:=w) (enc:=enc) (by kernel_rfl) (QY.cons 9 0 1 (by kernel_rfl) (rd_9 N) (QY.cons 56 1 1 (by kernel_rfl) (rdz_56 N) (QY.cons 59 2 3 (by kernel_rfl) (rd_59 N) (QY.cons 3 5 1 (by kernel_rfl) (rd_3 N) (QY.cons 3 6 1 (by kernel_rfl) (rd_3 N) (QY.cons 60 7 1 (by kernel_rfl) (rdz_60 N) (QY.cons 60 8 1 (by kernel_rfl) (rdz_60 N) (QY.cons 43 9 1 (by kernel_rfl) (rdz_43 N) (QY.cons 3 10 1 (by kernel_rfl) (rd_3 N) (QY.cons 61 11 3 (by kernel_rfl) (rd_61 N) QY.nil)))))))))))
 exact(h0.map (λx=>⟨x.1,x.2.1,x.2.2.1,x.2.2.2.1,x.2.2.2.2.1,x.2.2.2.2.2.1,x.2.2.2.2.2.2.1,x.2.2.2.2.2.2.2.1,x.2.2.2.2.2.2.2.2.1,x.2.2.2.2.2.2.2.2.2.1⟩) (λ_=>rfl) (λx d h=>by obtain⟨_,rfl,h⟩:=h;obtain⟨_,_,rfl,a0,h⟩:=h;obtain⟨_,_,rfl,a1,h⟩:=h;obtain⟨_,_,rfl,a2,h⟩:=h;obtain⟨_,_,rfl,a3,h⟩:=h;obtain⟨_,_,rfl,a4,h⟩:=h;obtain⟨_,_,rfl,a5,h⟩:=h;obtain⟨_,_,rfl,a6,h⟩:=h;obtain⟨_,_,rfl,a7,h⟩:=h;obtain⟨_,_,rfl,a8,h⟩:=h;obtain⟨_,_,rfl,a9,h⟩:=h;exact⟨⟨a0,a1.1,a2,a3,a4,a5.1,a6.1,a7.1,a8,a9⟩,λhz=>⟨a1.2 (Sz.field Tryz.underlying63 hz (j:=1) rfl rfl),a5.2 (Sz.field Tryz.underlying63 hz (j:=5) rfl rfl),a6.2 (Sz.field Tryz.underlying63 hz (j:=6) rfl rfl),a7.2 (Sz.field Tryz.underlying63 hz (j:=7) rfl rfl)⟩⟩)).mono (Ko N)
def sz_24 (x:(L_ QS)):Prop:=x.length*200<=reachBytes/\∀y∈x,sz_63 y
theorem rdz_24 {H:Type}{enc:TypeId×Value->H}{w:World}(N:Nat):Rd enc Tryz.prog w N 24 PZ (λx d=>(YW ok_TTask) x/\(Sz Tryz.prog 24 d->sz_24 x)):=(Rd.slice (e:=63) (z:=14) (by kernel_rfl) (by kernel_rfl) (by decide) (λx=>Yt rfl) (rdz_63 N)).map id (λ_=>rfl) λ_ _ h=>Qds (t:=24) (e:=63) (b:=200) (by kernel_rfl) (by kernel_rfl) h
def sz_26 (x:Ql):Prop:=sz_22 x.Colours/\sz_23 x.Places/\sz_24 x.Tasks
theorem rdz_26 {H:Type}{enc:TypeId×Value->H}{w:World}(N:Nat):Rd enc Tryz.prog w N 26 Qa (λx d=>ok_TNet x/\(Sz Tryz.prog 26 d->sz_26 x)):=by
 have h0:=(Rd.struct (fs:=[(22,0),(23,1),(24,2),(3,3),(3,4)]) (tot:=5) (N:=N) (t:=26) (P:=Tryz.prog) (w:=w) (enc:=enc) (by kernel_rfl) (QY.cons 22 0 1 (by kernel_rfl) (rdz_22 N) (QY.cons 23 1 1 (by kernel_rfl) (rdz_23 N) (QY.cons 24 2 1 (by kernel_rfl) (rdz_24 N) (QY.cons 3 3 1 (by kernel_rfl) (rd_3 N) (QY.cons 3 4 1 (by kernel_rfl) (rd_3 N) QY.nil))))))
 exact(h0.map (λx=>⟨x.1,x.2.1,x.2.2.1,x.2.2.2.1,x.2.2.2.2.1⟩) (λ_=>rfl) (λx d h=>by obtain⟨_,rfl,h⟩:=h;obtain⟨_,_,rfl,a0,h⟩:=h;obtain⟨_,_,rfl,a1,h⟩:=h;obtain⟨_,_,rfl,a2,h⟩:=h;obtain⟨_,_,rfl,a3,h⟩:=h;obtain⟨_,_,rfl,a4,h⟩:=h;exact⟨⟨a0.1,a1.1,a2.1,a3,a4⟩,λhz=>⟨a0.2 (Sz.field Tryz.underlying26 hz (j:=0) rfl rfl),a1.2 (Sz.field Tryz.underlying26 hz (j:=1) rfl rfl),a2.2 (Sz.field Tryz.underlying26 hz (j:=2) rfl rfl)⟩⟩)).mono (Ko N)
def QlH (x:Qk):Prop:=sz_43 x.Vars/\sz_43 x.Ins/\sz_43 x.Outs
theorem QmR {H:Type}{enc:TypeId×Value->H}{w:World}(N:Nat):Rd enc Tryz.prog w N 50 Qo (λx d=>Qej x/\(Sz Tryz.prog 50 d->QlH x)):=by
 have h0:=(Rd.struct (fs:=[(3,0),(43,1),(43,2),(43,3)]) (tot:=4) (N:=N) (t:=50) (P:=Tryz.prog) (w:=w) (enc:=enc) (by kernel_rfl) (QY.cons 3 0 1 (by kernel_rfl) (rd_3 N) (QY.cons 43 1 1 (by kernel_rfl) (rdz_43 N) (QY.cons 43 2 1 (by kernel_rfl) (rdz_43 N) (QY.cons 43 3 1 (by kernel_rfl) (rdz_43 N) QY.nil)))))
 exact(h0.map (λx=>⟨x.1,x.2.1,x.2.2.1,x.2.2.2.1⟩) (λ_=>rfl) (λx d h=>by obtain⟨_,rfl,h⟩:=h;obtain⟨_,_,rfl,a0,h⟩:=h;obtain⟨_,_,rfl,a1,h⟩:=h;obtain⟨_,_,rfl,a2,h⟩:=h;obtain⟨_,_,rfl,a3,h⟩:=h;exact⟨⟨a0,a1.1,a2.1,a3.1⟩,λhz=>⟨a1.2 (Sz.field Tryz.underlying50 hz (j:=1) rfl rfl),a2.2 (Sz.field Tryz.underlying50 hz (j:=2) rfl rfl),a3.2 (Sz.field Tryz.underlying50 hz (j:=3) rfl rfl)⟩⟩)).mono (Ko N)
def QlI (x:Xt):Prop:=QlH x.Mode
theorem QmS {H:Type}{enc:TypeId×Value->H}{w:World}(N:Nat):Rd enc Tryz.prog w N 52 XF (λx d=>Ow x/\(Sz Tryz.prog 52 d->QlI x)):=by
 have h0:=(Rd.struct (fs:=[(3,0),(3,1),(50,2),(3,6)]) (tot:=7) (N:=N) (t:=52) (P:=Tryz.prog) (w:=w) (enc:=enc) (by kernel_rfl) (QY.cons 3 0 1 (by kernel_rfl) (rd_3 N) (QY.cons 3 1 1 (by kernel_rfl) (rd_3 N) (QY.cons 50 2 4 (by kernel_rfl) (QmR N) (QY.cons 3 6 1 (by kernel_rfl) (rd_3 N) QY.nil)))))
 exact(h0.map (λx=>⟨x.1,x.2.1,x.2.2.1,x.2.2.2.1⟩) (λ_=>rfl) (λx d h=>by obtain⟨_,rfl,h⟩:=h;obtain⟨_,_,rfl,a0,h⟩:=h;obtain⟨_,_,rfl,a1,h⟩:=h;obtain⟨_,_,rfl,a2,h⟩:=h;obtain⟨_,_,rfl,a3,h⟩:=h;exact⟨⟨a0,a1,a2.1,a3⟩,λhz=>a2.2 (Sz.field Tryz.underlying52 hz (j:=2) rfl rfl)⟩)).mono (Ko N)
def QjE (x:(L_ Xt)):Prop:=x.length*104<=reachBytes/\∀y∈x,QlI y
theorem QmT {H:Type}{enc:TypeId×Value->H}{w:World}(N:Nat):Rd enc Tryz.prog w N 27 row_LTCall (λx d=>(YW Ow) x/\(Sz Tryz.prog 27 d->QjE x)):=(Rd.slice (e:=52) (z:=7) (by kernel_rfl) (by kernel_rfl) (by decide) (λx=>Yt rfl) (QmS N)).map id (λ_=>rfl) λ_ _ h=>Qds (t:=27) (e:=52) (b:=104) (by kernel_rfl) (by kernel_rfl) h
namespace LawEngineCancels
theorem own : ownKnob Tryz.prog.godebug=none:=by kernel_rfl
theorem laidOut : laidOutB Tryz.prog=true:=by kernel_rfl
theorem readable : ∀t∈Tryz.f6.params.toList,Tryz.prog.readableRec t=true/\t<Tryz.prog.types.size:=by
 have h:(Tryz.f6.params.toList.all λt=>Tryz.prog.readableRec t&&decide (t<Tryz.prog.types.size))=true:=by kernel_rfl
 intro t ht
 have:=XE.1 h t ht
 rw[QL,QM]at this
 exact this
theorem door_met (os:Os)(args:Array Value):laidMetH Tryz.prog Rows.engineCancelsRow.laid ((World.doorLaid Tryz.prog 33 os).forCall (λ_ _=>0) ⟨#[],args,[]⟩).memory:=
 laidMetH_of_parts3 (fuel:=8) (laidMet_of_run' 8 (by kernel_rfl) (by kernel_rfl)) (by kernel_rfl) (by kernel_rfl)
theorem glob_met {W:World}(h:laidMetH Tryz.prog Rows.engineCancelsRow.laid W):NK Tryz.prog (λk=>k<W.heap.size) W:=
 Qbv (r:=[]) (g:=0) (t:=350) (e:=5) 1 (by kernel_rfl) (by kernel_rfl) (by kernel_rfl) (by kernel_rfl) (by kernel_rfl) (by kernel_rfl) (by kernel_rfl) (by kernel_rfl) h
set_option maxRecDepth 100000 in
theorem lifted (hF:∀(a0:Ql) (a1:(L_ Xt)),(ok_TNet a0/\sz_26 a0)->((YW Ow) a1/\QjE a1)->WR a0 a1=some true)(os:Os)(started:os.Started)(H:Type)(enc:TypeId×Value->H):
  ReturnsInHanded {} Tryz.checked os 6 .any (λw args=>(Rows.engineCancelsSpec.pre enc Tryz.prog Tryz.f6 Rows.engineCancelsRow.domain false w args/\laidMetH Tryz.prog Rows.engineCancelsRow.laid w)/\sizedMet enc Tryz.prog Tryz.f6 (OpenSpec.ofChange Rows.engineCancelsSpec) false w args) (Rows.engineCancelsSpec.post enc Tryz.prog Tryz.f6 false true false false):=by
 refine returnsInHanded_of_change_and (C:=Tryz.checked) (X:=λw _=>laidMetH Tryz.prog Rows.engineCancelsRow.laid w) (λ_ _ _ hh h=>h.of_heap hh) own started (by kernel_rfl) Tryz.func6
  (ChangeSpec.witness_shaped (enc:=enc) (C:=Tryz.checked) (os:=os) (X:=λw _=>laidMetH Tryz.prog Rows.engineCancelsRow.laid w) false (World.doorLaid Tryz.prog 33 os) #[.agg #[.slice none 0 0,.slice none 0 0,.slice none 0 0,.int .i64 0,.int .i64 0],.slice none 0 0] 8 rfl (World.shaped_of_RefB (by kernel_rfl) (by kernel_rfl)) (by kernel_rfl) (by kernel_rfl) (by kernel_rfl) (door_met os _)) ?_
 intro W base args ds gs before hval0 hW hcnd hz hL _
 have hval:∀(j:Nat) t v,Tryz.f6.params[j]? = some t->args[j]? = some v->Value.okWide Tryz.prog W .any base t v:=hval0
 have hW1:=hW
 obtain⟨p,q,hA0,hV,_,_,_⟩:=hW
 obtain⟨rfl,_⟩:=trodVars_none hV
 have hA:DataW.TrodAll enc Tryz.prog W 0 (λ_=>true) true Tryz.f6.params.toList args.toList ds p:=hA0
 rw[Tryz.params6]at hA hval
 obtain⟨v0,vs0,d0,ds0,p0,q0,hargs,rfl,_,h0,r0⟩:=trodAll_cons hA
 obtain⟨v1,vs1,d1,ds1,p1,q1,rfl,rfl,_,h1,r1⟩:=trodAll_cons r0
 obtain⟨rfl,rfl,_⟩:=trodAll_nil r1
 obtain rfl:args=#[v0,v1]:=by cases args;simp_all
 obtain⟨a0,w0',c0⟩:=Rd.open (λN=>rdz_26 N) h0
 have w0:=And.intro w0'.1 (w0'.2 (Sz.all hz (j:=0) (by kernel_rfl) rfl))
 obtain⟨_,rfl⟩:=QhI (P:=Tryz.prog) (t:=26) (fs:=[(22,0),(23,1),(24,2),(3,3),(3,4)]) (tot:=5) (by kernel_rfl) (hval 0 26 v0 rfl rfl)
 have e0:=c0.argS
 obtain⟨a1,w1',c1⟩:=Rd.open (λN=>QmT N) h1
 have w1:=And.intro w1'.1 (w1'.2 (Sz.all hz (j:=1) (by kernel_rfl) rfl))
 obtain⟨_,_,_,rfl⟩:=okWide_slice Tryz.underlying27 (hval 1 27 v1 rfl rfl)
 have e1:=(Cl.arg1 rfl c1)
 refine(QX.law (us:=[.agg (Qa a0),.sl 7 (a1.map XF)]) (Sv a0 a1 _ (hF a0 a1 w0 w1)) (glob_met hL) rfl (λj x v hx hv=>?_)).mono λe W2 ⟨he,hb⟩=>?_
 ·match j with
  | 0=>cases hx;cases hv;exact e0
  | 1=>cases hx;cases hv;exact e1
  | j+2=>simp at hx
 subst he
 exact⟨_,rfl,QhJ laidOut readable hW1 rfl hb rfl Tryz.underlying4 rfl rfl rfl⟩
theorem bA {a b:Bool}(x:a=true)(y:b=true):(a&&b)=true:=by rw[x,y];rfl
abbrev jR := Rows.engineCancelsRow
noncomputable abbrev jP := Tryz.pinned.checked.prog
abbrev jS := Rows.engineCancelsSpec
end LawEngineCancels
end Go.Proofs.YtkocdcoeinjdbaaGreatDoor
