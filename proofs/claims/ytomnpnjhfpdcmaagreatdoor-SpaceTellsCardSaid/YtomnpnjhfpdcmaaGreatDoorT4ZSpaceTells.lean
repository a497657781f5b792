/- SpaceTells, as it is given: of any net and numbers it answers true, with no condition but what its row asks of all calls. -/
import Derived.Test.YtomnpnjhfpdcmaaGreatDoorT4P4
import Derived.Test.YtomnpnjhfpdcmaaGreatDoorT4T3
import Derived.Test.YtomnpnjhfpdcmaaGreatDoorT4V3
import Derived.Test.YtomnpnjhfpdcmaaGreatDoorRows
import Derived.Test.YtomnpnjhfpdcmaaGreatDoorTie
import Derived.Test.YtomnpnjhfpdcmaaGreatDoorCards
import Derived.SevenTiedAt
import Derived.WalkKit
import Derived.ProofKit
import Derived.OpenShut
set_option linter.all false
noncomputable section
namespace Go.Proofs.YtomnpnjhfpdcmaaGreatDoor
open Go Go.RowKit Go.Vm Go.ChangeShapes Go.WideShapes Go.ChangeAt
theorem QeF {H:Type}{enc:TypeId×Value->H}{w:World}(N:Nat):Rd enc Tryz.prog w N 9 Ky (λx _=>okS x):=(Rd.string (by kernel_rfl)).map id (λ_=>rfl) λ_ _ h=>h.1
theorem Dx {H:Type}{enc:TypeId×Value->H}{w:World}(N:Nat):Rd enc Tryz.prog w N 3 Qb (λx _=>(Ay .i64) x):=(Rd.int (by kernel_rfl)).map id (λ_=>rfl) λ_ _ h=>QrW h
theorem QsY {H:Type}{enc:TypeId×Value->H}{w:World}(N:Nat):Rd enc Tryz.prog w N 62 Qpd (λx _=>(Hk okS) x):=(Rd.slice (e:=9) (z:=1) (by kernel_rfl) (by kernel_rfl) (by decide) (λx=>Cz rfl) (QeF N)).map id (λ_=>rfl) λ_ _ h=>MV h
def Rl (x:QD):Prop:=okS x.Name/\(Ay .i64) x.Kind/\(Ay .i64) x.Lo/\(Ay .i64) x.Hi/\(Hk okS) x.Names/\(Ay .i64) x.First/\(Ay .i64) x.Then
theorem QsZ {H:Type}{enc:TypeId×Value->H}{w:World}(N:Nat):Rd enc Tryz.prog w N 64 Qr (λx _=>Rl x):=by
 have h0:=(Rd.struct (fs:=[(9,0),(3,1),(3,2),(3,3),(62,4),(3,5),(3,6)]) (tot:=7) (N:=N) (t:=64) (P:=Tryz.prog) (w:=w) (enc:=enc) (by kernel_rfl) (YJ.cons 9 0 1 (by kernel_rfl) (QeF N) (YJ.cons 3 1 1 (by kernel_rfl) (Dx N) (YJ.cons 3 2 1 (by kernel_rfl) (Dx N) (YJ.cons 3 3 1 (by kernel_rfl) (Dx N) (YJ.cons 62 4 1 (by kernel_rfl) (QsY N) (YJ.cons 3 5 1 (by kernel_rfl) (Dx N) (YJ.cons 3 6 1 (by kernel_rfl) (Dx N) YJ.nil))))))))
 exact(h0.map (λx=>⟨x.1,x.2.1,x.2.2.1,x.2.2.2.1,x.2.2.2.2.1,x.2.2.2.2.2.1,x.2.2.2.2.2.2.1⟩) (λ_=>rfl) (λx d h=>by obtain⟨_,rfl,h⟩:=h;obtain⟨_,_,rfl,a0,h⟩:=h;obtain⟨_,_,rfl,a1,h⟩:=h;obtain⟨_,_,rfl,a2,h⟩:=h;obtain⟨_,_,rfl,a3,h⟩:=h;obtain⟨_,_,rfl,a4,h⟩:=h;obtain⟨_,_,rfl,a5,h⟩:=h;obtain⟨_,_,rfl,a6,h⟩:=h;exact⟨a0,a1,a2,a3,a4,a5,a6⟩)).mono (IN N)
theorem Qs0 {H:Type}{enc:TypeId×Value->H}{w:World}(N:Nat):Rd enc Tryz.prog w N 22 QdK (λx _=>(Hk Rl) x):=(Rd.slice (e:=64) (z:=7) (by kernel_rfl) (by kernel_rfl) (by decide) (λx=>Cz rfl) (QsZ N)).map id (λ_=>rfl) λ_ _ h=>MV h
def QjM (x:(Int×Int)):Prop:=(Ay .i64) x.1/\(Ay .i64) x.2
theorem Qre {H:Type}{enc:TypeId×Value->H}{w:World}(N:Nat):Rd enc Tryz.prog w N 40 Qm (λx _=>QjM x):=by
 have h0:=(Rd.array (e:=3) (n:=2) (tot:=2) (fs:=[(3,0),(3,1)]) (N:=N) (t:=40) (P:=Tryz.prog) (w:=w) (enc:=enc) (by kernel_rfl) (YJ.cons 3 0 1 (by kernel_rfl) (Dx N) (YJ.cons 3 1 1 (by kernel_rfl) (Dx N) YJ.nil)))
 exact(h0.map (λx=>⟨x.1,x.2.1⟩) (λ_=>rfl) (λx d h=>by obtain⟨_,rfl,h⟩:=h;obtain⟨_,_,rfl,a0,h⟩:=h;obtain⟨_,_,rfl,a1,h⟩:=h;exact⟨a0,a1⟩)).mono (IN N)
theorem Qs1 {H:Type}{enc:TypeId×Value->H}{w:World}(N:Nat):Rd enc Tryz.prog w N 42 Qe (λx _=>(Hk QjM) x):=(Rd.slice (e:=40) (z:=2) (by kernel_rfl) (by kernel_rfl) (by decide) (λx=>Cz rfl) (Qre N)).map id (λ_=>rfl) λ_ _ h=>MV h
def SI (x:Xb):Prop:=okS x.Name/\(Ay .i64) x.Colour/\(Hk QjM) x.First
theorem Qs2 {H:Type}{enc:TypeId×Value->H}{w:World}(N:Nat):Rd enc Tryz.prog w N 66 Qw (λx _=>SI x):=by
 have h0:=(Rd.struct (fs:=[(9,0),(3,1),(42,2)]) (tot:=3) (N:=N) (t:=66) (P:=Tryz.prog) (w:=w) (enc:=enc) (by kernel_rfl) (YJ.cons 9 0 1 (by kernel_rfl) (QeF N) (YJ.cons 3 1 1 (by kernel_rfl) (Dx N) (YJ.cons 42 2 1 (by kernel_rfl) (Qs1 N) YJ.nil))))
 exact(h0.map (λx=>⟨x.1,x.2.1,x.2.2.1⟩) (λ_=>rfl) (λx d h=>by obtain⟨_,rfl,h⟩:=h;obtain⟨_,_,rfl,a0,h⟩:=h;obtain⟨_,_,rfl,a1,h⟩:=h;obtain⟨_,_,rfl,a2,h⟩:=h;exact⟨a0,a1,a2⟩)).mono (IN N)
theorem Qs3 {H:Type}{enc:TypeId×Value->H}{w:World}(N:Nat):Rd enc Tryz.prog w N 23 Qf9 (λx _=>(Hk SI) x):=(Rd.slice (e:=66) (z:=3) (by kernel_rfl) (by kernel_rfl) (by decide) (λx=>Cz rfl) (Qs2 N)).map id (λ_=>rfl) λ_ _ h=>MV h
def QkU (x:YS):Prop:=okS x.Name/\(Ay .i64) x.Colour
theorem Qs4 {H:Type}{enc:TypeId×Value->H}{w:World}(N:Nat):Rd enc Tryz.prog w N 84 Xg (λx _=>QkU x):=by
 have h0:=(Rd.struct (fs:=[(9,0),(3,1)]) (tot:=2) (N:=N) (t:=84) (P:=Tryz.prog) (w:=w) (enc:=enc) (by kernel_rfl) (YJ.cons 9 0 1 (by kernel_rfl) (QeF N) (YJ.cons 3 1 1 (by kernel_rfl) (Dx N) YJ.nil)))
 exact(h0.map (λx=>⟨x.1,x.2.1⟩) (λ_=>rfl) (λx d h=>by obtain⟨_,rfl,h⟩:=h;obtain⟨_,_,rfl,a0,h⟩:=h;obtain⟨_,_,rfl,a1,h⟩:=h;exact⟨a0,a1⟩)).mono (IN N)
theorem Qs5 {H:Type}{enc:TypeId×Value->H}{w:World}(N:Nat):Rd enc Tryz.prog w N 70 KC (λx _=>(Hk QkU) x):=(Rd.slice (e:=84) (z:=2) (by kernel_rfl) (by kernel_rfl) (by decide) (λx=>Cz rfl) (Qs4 N)).map id (λ_=>rfl) λ_ _ h=>MV h
theorem QjN (x:Qp):Qn x=[.i .i64 x.Kind,.i .i64 x.Num,.sl 3 (Jp x.Kids)]:=by cases x;rw[Qn]
inductive Ls : Qp->Prop where
 | mk (x:Qp):(Ay .i64) x.Kind->(Ay .i64) x.Num->x.Kids.length<=maxLen->(∀k∈x.Kids,Ls k)->Ls x
theorem Qrf {H:Type}{enc:TypeId×Value->H}{w:World}(N:Nat):Rd enc Tryz.prog w N 61 Qn (λx _=>Ls x):=by
 induction N with
 | zero=>exact Rd.zero
 | succ N ih=>
  have h0:=(Rd.struct (fs:=[(3,0),(3,1),(59,2)]) (tot:=3) (N:=N) (t:=61) (P:=Tryz.prog) (w:=w) (enc:=enc) (by kernel_rfl) (YJ.cons 3 0 1 (by kernel_rfl) (Dx N) (YJ.cons 3 1 1 (by kernel_rfl) (Dx N) (YJ.cons 59 2 1 (by kernel_rfl) (Rd.slice (e:=61) (z:=3) (by kernel_rfl) (by kernel_rfl) (by decide) (λx=>Cz (by cases x;rfl)) ih) YJ.nil))))
  exact h0.map (λx=>⟨x.1,x.2.1,x.2.2.1⟩) (λx=>by simp only[Qn];rw[LD];rfl) (λx d h=>by obtain⟨_,rfl,h⟩:=h;obtain⟨_,_,rfl,a0,h⟩:=h;obtain⟨_,_,rfl,a1,h⟩:=h;obtain⟨_,_,rfl,a2,h⟩:=h;exact Ls.mk _ a0 a1 (MV a2).1 (MV a2).2)
def QbM (x:Yg):Prop:=(Ay .i64) x.Place/\Ls x.Expr
theorem Qs6 {H:Type}{enc:TypeId×Value->H}{w:World}(N:Nat):Rd enc Tryz.prog w N 68 Xm (λx _=>QbM x):=by
 have h0:=(Rd.struct (fs:=[(3,0),(61,1)]) (tot:=4) (N:=N) (t:=68) (P:=Tryz.prog) (w:=w) (enc:=enc) (by kernel_rfl) (YJ.cons 3 0 1 (by kernel_rfl) (Dx N) (YJ.cons 61 1 3 (by kernel_rfl) (Qrf N) YJ.nil)))
 exact(h0.map (λx=>⟨x.1,x.2.1⟩) (λx=>by rw[QjN];rfl) (λx d h=>by obtain⟨_,rfl,h⟩:=h;obtain⟨_,_,rfl,a0,h⟩:=h;obtain⟨_,_,rfl,a1,h⟩:=h;exact⟨a0,a1⟩)).mono (IN N)
theorem Qrg {H:Type}{enc:TypeId×Value->H}{w:World}(N:Nat):Rd enc Tryz.prog w N 69 Qpe (λx _=>(Hk QbM) x):=(Rd.slice (e:=68) (z:=4) (by kernel_rfl) (by kernel_rfl) (by decide) (λx=>Cz rfl) (Qs6 N)).map id (λ_=>rfl) λ_ _ h=>MV h
theorem Qs7 {H:Type}{enc:TypeId×Value->H}{w:World}(N:Nat):Rd enc Tryz.prog w N 46 QC (λx _=>(Hk (Ay .i64)) x):=(Rd.slice (e:=3) (z:=1) (by kernel_rfl) (by kernel_rfl) (by decide) (λx=>Cz rfl) (Dx N)).map id (λ_=>rfl) λ_ _ h=>MV h
def Qp6 (x:(Int×Int×Int)):Prop:=(Ay .i64) x.1/\(Ay .i64) x.2.1/\(Ay .i64) x.2.2
theorem Qs8 {H:Type}{enc:TypeId×Value->H}{w:World}(N:Nat):Rd enc Tryz.prog w N 71 Qj0 (λx _=>Qp6 x):=by
 have h0:=(Rd.array (e:=3) (n:=3) (tot:=3) (fs:=[(3,0),(3,1),(3,2)]) (N:=N) (t:=71) (P:=Tryz.prog) (w:=w) (enc:=enc) (by kernel_rfl) (YJ.cons 3 0 1 (by kernel_rfl) (Dx N) (YJ.cons 3 1 1 (by kernel_rfl) (Dx N) (YJ.cons 3 2 1 (by kernel_rfl) (Dx N) YJ.nil))))
 exact(h0.map (λx=>⟨x.1,x.2.1,x.2.2.1⟩) (λ_=>rfl) (λx d h=>by obtain⟨_,rfl,h⟩:=h;obtain⟨_,_,rfl,a0,h⟩:=h;obtain⟨_,_,rfl,a1,h⟩:=h;obtain⟨_,_,rfl,a2,h⟩:=h;exact⟨a0,a1,a2⟩)).mono (IN N)
def QhX (x:QI):Prop:=okS x.Name/\(Hk QkU) x.Vars/\Ls x.Guard/\(Ay .i64) x.Join/\(Ay .i64) x.Split/\(Hk QbM) x.Ins/\(Hk QbM) x.Outs/\(Hk (Ay .i64)) x.Cancel/\(Ay .i64) x.After/\Qp6 x.Many
theorem Qs9 {H:Type}{enc:TypeId×Value->H}{w:World}(N:Nat):Rd enc Tryz.prog w N 73 Qh (λx _=>QhX x):=by
 have h0:=(Rd.struct (fs:=[(9,0),(70,1),(61,2),(3,5),(3,6),(69,7),(69,8),(46,9),(3,10),(71,11)]) (tot:=14) (N:=N) (t:=73) (P:=Tryz.prog) (w:=w) (enc:=enc) (by kernel_rfl) (YJ.cons 9 0 1 (by kernel_rfl) (QeF N) (YJ.cons 70 1 1 (by kernel_rfl) (Qs5 N) (YJ.cons 61 2 3 (by kernel_rfl) (Qrf N) (YJ.cons 3 5 1 (by kernel_rfl) (Dx N) (YJ.cons 3 6 1 (by kernel_rfl) (Dx N) (YJ.cons 69 7 1 (by kernel_rfl) (Qrg N) (YJ.cons 69 8 1 (by kernel_rfl) (Qrg N) (YJ.cons 46 9 1 (by kernel_rfl) (Qs7 N) (YJ.cons 3 10 1 (by kernel_rfl) (Dx N) (YJ.cons 71 11 3 (by kernel_rfl) (Qs8 N) YJ.nil)))))))))))
 exact(h0.map (λx=>⟨x.1,x.2.1,x.2.2.1,x.2.2.2.1,x.2.2.2.2.1,x.2.2.2.2.2.1,x.2.2.2.2.2.2.1,x.2.2.2.2.2.2.2.1,x.2.2.2.2.2.2.2.2.1,x.2.2.2.2.2.2.2.2.2.1⟩) (λx=>by rw[QjN];rfl) (λx d h=>by obtain⟨_,rfl,h⟩:=h;obtain⟨_,_,rfl,a0,h⟩:=h;obtain⟨_,_,rfl,a1,h⟩:=h;obtain⟨_,_,rfl,a2,h⟩:=h;obtain⟨_,_,rfl,a3,h⟩:=h;obtain⟨_,_,rfl,a4,h⟩:=h;obtain⟨_,_,rfl,a5,h⟩:=h;obtain⟨_,_,rfl,a6,h⟩:=h;obtain⟨_,_,rfl,a7,h⟩:=h;obtain⟨_,_,rfl,a8,h⟩:=h;obtain⟨_,_,rfl,a9,h⟩:=h;exact⟨a0,a1,a2,a3,a4,a5,a6,a7,a8,a9⟩)).mono (IN N)
theorem Qrh {H:Type}{enc:TypeId×Value->H}{w:World}(N:Nat):Rd enc Tryz.prog w N 24 Qod (λx _=>(Hk QhX) x):=(Rd.slice (e:=73) (z:=14) (by kernel_rfl) (by kernel_rfl) (by decide) (λx=>Cz rfl) (Qs9 N)).map id (λ_=>rfl) λ_ _ h=>MV h
def QbN (x:Qk):Prop:=(Hk Rl) x.Colours/\(Hk SI) x.Places/\(Hk QhX) x.Tasks/\(Ay .i64) x.From/\(Ay .i64) x.To
theorem Qtr {H:Type}{enc:TypeId×Value->H}{w:World}(N:Nat):Rd enc Tryz.prog w N 26 Qa (λx _=>QbN x):=by
 have h0:=(Rd.struct (fs:=[(22,0),(23,1),(24,2),(3,3),(3,4)]) (tot:=5) (N:=N) (t:=26) (P:=Tryz.prog) (w:=w) (enc:=enc) (by kernel_rfl) (YJ.cons 22 0 1 (by kernel_rfl) (Qs0 N) (YJ.cons 23 1 1 (by kernel_rfl) (Qs3 N) (YJ.cons 24 2 1 (by kernel_rfl) (Qrh N) (YJ.cons 3 3 1 (by kernel_rfl) (Dx N) (YJ.cons 3 4 1 (by kernel_rfl) (Dx N) YJ.nil))))))
 exact(h0.map (λx=>⟨x.1,x.2.1,x.2.2.1,x.2.2.2.1,x.2.2.2.2.1⟩) (λ_=>rfl) (λx d h=>by obtain⟨_,rfl,h⟩:=h;obtain⟨_,_,rfl,a0,h⟩:=h;obtain⟨_,_,rfl,a1,h⟩:=h;obtain⟨_,_,rfl,a2,h⟩:=h;obtain⟨_,_,rfl,a3,h⟩:=h;obtain⟨_,_,rfl,a4,h⟩:=h;exact⟨a0,a1,a2,a3,a4⟩)).mono (IN N)
theorem Qsn {H:Type}{enc:TypeId×Value->H}{w:World}(N:Nat):Rd enc Tryz.prog w N 42 Qe (λx d=>(Hk QjM) x/\(Sz Tryz.prog 42 d->x.length*16<=reachBytes)):=(Rd.slice (e:=40) (z:=2) (by kernel_rfl) (by kernel_rfl) (by decide) (λx=>Cz rfl) (Qre N)).map id (λ_=>rfl) λ_ _ h=>QrX (t:=42) (e:=40) (by kernel_rfl) (by kernel_rfl) h
theorem Qso {H:Type}{enc:TypeId×Value->H}{w:World}(N:Nat):Rd enc Tryz.prog w N 66 Qw (λx d=>SI x/\(Sz Tryz.prog 66 d->x.First.length*16<=reachBytes)):=by
 have h0:=(Rd.struct (fs:=[(9,0),(3,1),(42,2)]) (tot:=3) (N:=N) (t:=66) (P:=Tryz.prog) (w:=w) (enc:=enc) (by kernel_rfl) (YJ.cons 9 0 1 (by kernel_rfl) (QeF N) (YJ.cons 3 1 1 (by kernel_rfl) (Dx N) (YJ.cons 42 2 1 (by kernel_rfl) (Qsn N) YJ.nil))))
 exact(h0.map (λx=>⟨x.1,x.2.1,x.2.2.1⟩) (λ_=>rfl) (λx d h=>by obtain⟨_,rfl,h⟩:=h;obtain⟨_,_,rfl,a0,h⟩:=h;obtain⟨_,_,rfl,a1,h⟩:=h;obtain⟨_,_,rfl,a2,h⟩:=h;exact⟨⟨a0,a1,a2.1⟩,λhz=>a2.2 (Sz.field Tryz.underlying66 hz (j:=2) rfl rfl)⟩)).mono (IN N)
theorem Qsp {H:Type}{enc:TypeId×Value->H}{w:World}(N:Nat):Rd enc Tryz.prog w N 23 Qf9 (λx d=>(Hk SI) x/\(Sz Tryz.prog 23 d->∀p∈x,p.First.length*16<=reachBytes)):=(Rd.slice (e:=66) (z:=3) (by kernel_rfl) (by kernel_rfl) (by decide) (λx=>Cz rfl) (Qso N)).map id (λ_=>rfl) λ_ _ h=>⟨(szL (P:=Tryz.prog) (t:=23) (e:=66) (by kernel_rfl) h).1,λhz=>((szL (t:=23) (e:=66) (by kernel_rfl) h).2 hz).2⟩
theorem Qsq {H:Type}{enc:TypeId×Value->H}{w:World}(N:Nat):Rd enc Tryz.prog w N 62 Qpd (λx d=>(Hk okS) x/\(Sz Tryz.prog 62 d->x.length*16<=reachBytes)):=(Rd.slice (e:=9) (z:=1) (by kernel_rfl) (by kernel_rfl) (by decide) (λx=>Cz rfl) (QeF N)).map id (λ_=>rfl) λ_ _ h=>QrX (t:=62) (e:=9) (by kernel_rfl) (by kernel_rfl) h
theorem Qsr {H:Type}{enc:TypeId×Value->H}{w:World}(N:Nat):Rd enc Tryz.prog w N 64 Qr (λx d=>Rl x/\(Sz Tryz.prog 64 d->x.Names.length*16<=reachBytes)):=by
 have h0:=(Rd.struct (fs:=[(9,0),(3,1),(3,2),(3,3),(62,4),(3,5),(3,6)]) (tot:=7) (N:=N) (t:=64) (P:=Tryz.prog) (w:=w) (enc:=enc) (by kernel_rfl) (YJ.cons 9 0 1 (by kernel_rfl) (QeF N) (YJ.cons 3 1 1 (by kernel_rfl) (Dx N) (YJ.cons 3 2 1 (by kernel_rfl) (Dx N) (YJ.cons 3 3 1 (by kernel_rfl) (Dx N) (YJ.cons 62 4 1 (by kernel_rfl) (Qsq N) (YJ.cons 3 5 1 (by kernel_rfl) (Dx N) (YJ.cons 3 6 1 (by kernel_rfl) (Dx N) YJ.nil))))))))
 exact(h0.map (λx=>⟨x.1,x.2.1,x.2.2.1,x.2.2.2.1,x.2.2.2.2.1,x.2.2.2.2.2.1,x.2.2.2.2.2.2.1⟩) (λ_=>rfl) (λx d h=>by obtain⟨_,rfl,h⟩:=h;obtain⟨_,_,rfl,a0,h⟩:=h;obtain⟨_,_,rfl,a1,h⟩:=h;obtain⟨_,_,rfl,a2,h⟩:=h;obtain⟨_,_,rfl,a3,h⟩:=h;obtain⟨_,_,rfl,a4,h⟩:=h;obtain⟨_,_,rfl,a5,h⟩:=h;obtain⟨_,_,rfl,a6,h⟩:=h;exact⟨⟨a0,a1,a2,a3,a4.1,a5,a6⟩,λhz=>a4.2 (Sz.field Tryz.underlying64 hz (j:=4) rfl rfl)⟩)).mono (IN N)
theorem Qss {H:Type}{enc:TypeId×Value->H}{w:World}(N:Nat):Rd enc Tryz.prog w N 22 QdK (λx d=>(Hk Rl) x/\(Sz Tryz.prog 22 d->∀p∈x,p.Names.length*16<=reachBytes)):=(Rd.slice (e:=64) (z:=7) (by kernel_rfl) (by kernel_rfl) (by decide) (λx=>Cz rfl) (Qsr N)).map id (λ_=>rfl) λ_ _ h=>⟨(szL (P:=Tryz.prog) (t:=22) (e:=64) (by kernel_rfl) h).1,λhz=>((szL (t:=22) (e:=64) (by kernel_rfl) h).2 hz).2⟩
theorem Qst {H:Type}{enc:TypeId×Value->H}{w:World}(N:Nat):Rd enc Tryz.prog w N 26 Qa (λx d=>QbN x/\(Sz Tryz.prog 26 d->(∀p∈x.Places,p.First.length*16<=reachBytes)/\(∀p∈x.Colours,p.Names.length*16<=reachBytes))):=by
 have h0:=(Rd.struct (fs:=[(22,0),(23,1),(24,2),(3,3),(3,4)]) (tot:=5) (N:=N) (t:=26) (P:=Tryz.prog) (w:=w) (enc:=enc) (by kernel_rfl) (YJ.cons 22 0 1 (by kernel_rfl) (Qss N) (YJ.cons 23 1 1 (by kernel_rfl) (Qsp N) (YJ.cons 24 2 1 (by kernel_rfl) (Qrh N) (YJ.cons 3 3 1 (by kernel_rfl) (Dx N) (YJ.cons 3 4 1 (by kernel_rfl) (Dx N) YJ.nil))))))
 exact(h0.map (λx=>⟨x.1,x.2.1,x.2.2.1,x.2.2.2.1,x.2.2.2.2.1⟩) (λ_=>rfl) (λx d h=>by obtain⟨_,rfl,h⟩:=h;obtain⟨_,_,rfl,a0,h⟩:=h;obtain⟨_,_,rfl,a1,h⟩:=h;obtain⟨_,_,rfl,a2,h⟩:=h;obtain⟨_,_,rfl,a3,h⟩:=h;obtain⟨_,_,rfl,a4,h⟩:=h;exact⟨⟨a0.1,a1.1,a2,a3,a4⟩,λhz=>⟨a1.2 (Sz.field Tryz.underlying26 hz (j:=1) rfl rfl),a0.2 (Sz.field Tryz.underlying26 hz (j:=0) rfl rfl)⟩⟩)).mono (IN N)
def QcJ (x:Qk):Prop:=QbN x/\(∀p∈x.Places,p.First.length*16<=reachBytes)/\(∀p∈x.Colours,p.Names.length*16<=reachBytes)
namespace LawSpaceTells
theorem own : ownKnob Tryz.prog.godebug=none:=by kernel_rfl
theorem QrI : laidOutB Tryz.prog=true:=by kernel_rfl
theorem Qq1 : ∀t∈Tryz.f3.params.toList,Tryz.prog.readableRec t=true/\t<Tryz.prog.types.size:=by
 have h:(Tryz.f3.params.toList.all λt=>Tryz.prog.readableRec t&&decide (t<Tryz.prog.types.size))=true:=by kernel_rfl
 intro t ht
 have:=XN.1 h t ht
 rw[QQ,QB]at this
 exact this
theorem Qq2 (os:Os)(args:Array Value):laidMetH Tryz.prog Rows.spaceTellsRow.laid ((World.doorLaid Tryz.prog 33 os).forCall (λ_ _=>0) ⟨#[],args,[]⟩).memory:=
 laidMetH_of_parts3 (fuel:=8) (laidMet_of_run' 8 (by kernel_rfl) (by kernel_rfl)) (by kernel_rfl) (by kernel_rfl)
theorem Qq3 {W:World}(h:laidMetH Tryz.prog Rows.spaceTellsRow.laid W):SJ Tryz.prog (λk=>k<W.heap.size) W:=
 Qmq (r:=[]) (g:=0) (t:=267) (e:=5) 1 (by kernel_rfl) (by kernel_rfl) (by kernel_rfl) (by kernel_rfl) (by kernel_rfl) (by kernel_rfl) (by kernel_rfl) (by kernel_rfl) h
set_option maxRecDepth 100000 in
theorem Qsu (hF:∀(a0:Qk) (a1:Int) (a2:Int),QcJ a0->(Ay .i64) a1->(Ay .i64) a2->Ey a0 a1 a2=some true)(os:Os)(started:os.Started)(H:Type)(enc:TypeId×Value->H):
  ReturnsInHanded {} Tryz.checked os 3 .any (λw args=>(Rows.spaceTellsSpec.pre enc Tryz.prog Tryz.f3 Rows.spaceTellsRow.domain false w args/\laidMetH Tryz.prog Rows.spaceTellsRow.laid w)/\sizedMet enc Tryz.prog Tryz.f3 (OpenSpec.ofChange Rows.spaceTellsSpec) false w args) (Rows.spaceTellsSpec.post enc Tryz.prog Tryz.f3 false true false false):=by
 refine returnsInHanded_of_change_and (C:=Tryz.checked) (X:=λw _=>laidMetH Tryz.prog Rows.spaceTellsRow.laid w) (λ_ _ _ hh h=>h.of_heap hh) own started (by kernel_rfl) Tryz.func3
  (ChangeSpec.witness_shaped (enc:=enc) (C:=Tryz.checked) (os:=os) (X:=λw _=>laidMetH Tryz.prog Rows.spaceTellsRow.laid w) false (World.doorLaid Tryz.prog 33 os) #[.agg #[.slice none 0 0,.slice none 0 0,.slice none 0 0,.int .i64 0,.int .i64 0],.int .i64 0,.int .i64 0] 8 rfl (World.shaped_of_RefB (by kernel_rfl) (by kernel_rfl)) (by kernel_rfl) (by kernel_rfl) (by kernel_rfl) (Qq2 os _)) ?_
 intro W base args ds gs before hval0 hW hcnd hz hL _
 have hval:∀(j:Nat) t v,Tryz.f3.params[j]? = some t->args[j]? = some v->Value.okWide Tryz.prog W .any base t v:=hval0
 have hW1:=hW
 obtain⟨p,q,hA0,hV,_,_,_⟩:=hW
 obtain⟨rfl,_⟩:=trodVars_none hV
 have hA:DataW.TrodAll enc Tryz.prog W 0 (λ_=>true) true Tryz.f3.params.toList args.toList ds p:=hA0
 rw[Tryz.params3]at hA hval
 obtain⟨v0,vs0,d0,ds0,p0,q0,hargs,rfl,_,h0,r0⟩:=trodAll_cons hA
 obtain⟨v1,vs1,d1,ds1,p1,q1,rfl,rfl,_,h1,r1⟩:=trodAll_cons r0
 obtain⟨v2,vs2,d2,ds2,p2,q2,rfl,rfl,_,h2,r2⟩:=trodAll_cons r1
 obtain⟨rfl,rfl,_⟩:=trodAll_nil r2
 obtain rfl:args=#[v0,v1,v2]:=by cases args;simp_all
 obtain⟨a0,w0',c0⟩:=Rd.open (λN=>Qst N) h0
 have w0:QcJ a0:=⟨w0'.1,w0'.2 (Sz.all hz (j:=0) (by kernel_rfl) rfl)⟩
 obtain⟨_,rfl⟩:=Qqp (P:=Tryz.prog) (t:=26) (fs:=[(22,0),(23,1),(24,2),(3,3),(3,4)]) (tot:=5) (by kernel_rfl) (hval 0 26 v0 rfl rfl)
 have e0:=c0.argS
 obtain⟨a1,w1,c1⟩:=Rd.open (λN=>Dx N) h1
 obtain⟨_,rfl⟩:=okWide_int Tryz.underlying3 (hval 1 3 v1 rfl rfl)
 have e1:=(Cl.arg1 rfl c1)
 obtain⟨a2,w2,c2⟩:=Rd.open (λN=>Dx N) h2
 obtain⟨_,rfl⟩:=okWide_int Tryz.underlying3 (hval 2 3 v2 rfl rfl)
 have e2:=(Cl.arg1 rfl c2)
 refine(QU.law (us:=[.agg (Qa a0),.i .i64 a1,.i .i64 a2]) (QbB a0 a1 a2 _ (hF a0 a1 a2 w0 w1 w2)) (Qq3 hL) rfl (λj x v hx hv=>?_)).mono λe W2 ⟨he,hb⟩=>?_
 ·match j with
  | 0=>cases hx;cases hv;exact e0
  | 1=>cases hx;cases hv;exact e1
  | 2=>cases hx;cases hv;exact e2
  | j+3=>simp at hx
 subst he
 exact⟨_,rfl,Qqq QrI Qq1 hW1 rfl hb rfl Tryz.underlying4 rfl rfl rfl⟩
theorem proved_of (hF:∀(a0:Qk) (a1:Int) (a2:Int),QcJ a0->(Ay .i64) a1->(Ay .i64) a2->Ey a0 a1 a2=some true):Rows.SpaceTellsSaid:=
 OpenClaim.holds_of_wide 3 Tryz.f3 rfl rfl rfl rfl rfl rfl rfl ⟨rfl,rfl,rfl,rfl,rfl⟩ rfl rfl rfl rfl rfl (by kernel_rfl) Tryz.func3 (by kernel_rfl)
  (Xo (by kernel_rfl)) (by unfold Func.isWrapper;first | (rw[if_pos (by decide +kernel)];kernel_rfl) | (rw[if_neg (by decide +kernel)];exact⟨rfl,rfl⟩))
  (λos started H enc _=>Qsu hF os started H enc)
theorem card_of (hs:Rows.SpaceTellsSaid):Rows.SpaceTellsCardSaid:=
 Claim7.holds_tied_plain_at .later [] [.listed,.data] true (true, "945129e94dbbc2294fab0d20ed014a8912ac835ee726dc18ac653e9ee6ba1e59") false
  hs (λ_ h=>by cases h) (by kernel_rfl) (λ_ h=>by cases h) spaceTells_row_tie rfl ⟨rfl,rfl⟩ (by kernel_rfl) rfl
  (λf fn hf hfn=>by
   obtain rfl:f=3:=Option.some.inj ((show Tryz.prog.funcNamed "baldric/baldriclaw15.SpaceTells" = some 3 by kernel_rfl).symm.trans hf) |>.symm
   obtain rfl:fn=Tryz.f3:=(Option.some.inj (Tryz.func3.symm.trans hfn)).symm
   exact⟨by kernel_rfl,λj t ht=>by
    rw[Tryz.params3]at ht
    have hm:t∈[26,3,3]:=by simpa using Array.mem_of_getElem? ht
    have hall:([26,3,3].all λu=>!Tryz.prog.wantsStandIn u)=true:=by kernel_rfl
    exact(show Tryz.prog.wantsStandIn t=false by simpa using XN.1 hall t hm)⟩)
  (by kernel_rfl)
end LawSpaceTells
theorem kE {e:Qp}(h:Ls e):KW e:=by
 induction h with
 | mk x _ _ h1 _ ih=>exact .mk x h1 ih
theorem kL {α:Type}{p q:α->Prop}(f:∀x,p x->q x){l:L_ α}(h:Hk p l):QV q l:=⟨h.1,λx hx=>f x (h.2 x hx)⟩
theorem kA {a:Yg}(h:QbM a):Hu a:=⟨trivial,kE h.2⟩
theorem Qtn {n:Qk}(h:QbN n):Xp n:=
 ⟨kL (λc hc=>⟨hc.1,trivial,trivial,trivial,kL (λs hs=>hs) hc.2.2.2.2.1,trivial,trivial⟩) h.1,kL (λp hp=>⟨hp.1,trivial,kL (λ_ _=>trivial) hp.2.2⟩) h.2.1,
  kL (λt ht=>⟨ht.1,kL (λv hv=>⟨hv.1,trivial⟩) ht.2.1,kE ht.2.2.1,trivial,trivial,kL (λ_ h=>kA h) ht.2.2.2.2.2.1,kL (λ_ h=>kA h) ht.2.2.2.2.2.2.1,kL (λ_ _=>trivial) ht.2.2.2.2.2.2.2.1,trivial,trivial⟩) h.2.2.1,trivial,trivial⟩
theorem Qm2 {x:Int}(h:Ay .i64 x):XJ x:=by
 have h1:IntKind.min .i64=-9223372036854775808:=rfl
 have h2:IntKind.max .i64=9223372036854775807:=rfl
 unfold Ay at h
 rw[h1,h2]at h
 exact h
theorem rE {e:Qp}(h:Ls e):RE e:=by
 induction h with
 | mk x _ hn _ _ ih=>exact .mk x (Qm2 hn) ih
theorem Qto {n:Qk}(h:QbN n):RN n:=
 ⟨λc hc=>⟨Qm2 (h.1.2 c hc).2.2.1,Qm2 (h.1.2 c hc).2.2.2.1⟩,λt ht=>rE (h.2.2.1.2 t ht).2.2.1,λt ht a ha=>rE ((h.2.2.1.2 t ht).2.2.2.2.2.1.2 a ha).2,λt ht a ha=>rE ((h.2.2.1.2 t ht).2.2.2.2.2.2.1.2 a ha).2⟩
theorem Qtp {n:Qk}(h:QcJ n):Rch n:=⟨h.2.1,h.2.2⟩
theorem proved : Rows.SpaceTellsCardSaid:=LawSpaceTells.card_of (LawSpaceTells.proved_of λa0 a1 a2 h0 _ _=>Qnr a0 a1 a2 (Qtn h0.1) (Qto h0.1) (Qtp h0))

end Go.Proofs.YtomnpnjhfpdcmaaGreatDoor
