/- OrjoinTells, as it is given: of any net, marking, mode, task and budget it answers true, with no condition but what its row asks of all calls. -/
import Derived.Test.YtphohlpbjofddaaGreatDoorO4P4
import Derived.Test.YtphohlpbjofddaaGreatDoorO4T2
import Derived.Test.YtphohlpbjofddaaGreatDoorO4V3
import Derived.Test.YtphohlpbjofddaaGreatDoorRows
import Derived.Test.YtphohlpbjofddaaGreatDoorTie
import Derived.Test.YtphohlpbjofddaaGreatDoorCards
import Derived.SevenTiedAt
import Derived.WalkKit
import Derived.ProofKit
import Derived.OpenShut
set_option linter.all false
noncomputable section
namespace Go.Proofs.YtphohlpbjofddaaGreatDoor
open Go Go.RowKit Go.Vm Go.ChangeShapes Go.WideShapes Go.ChangeAt
theorem QkN {H:Type}{enc:TypeId×Value->H}{w:World}(N:Nat):Rd enc Tryz.prog w N 9 Ki (λx _=>okS x):=(Rd.string (by kernel_rfl)).map id (λ_=>rfl) λ_ _ h=>h.1
theorem Ua {H:Type}{enc:TypeId×Value->H}{w:World}(N:Nat):Rd enc Tryz.prog w N 3 Qb (λx _=>(Eb .i64) x):=(Rd.int (by kernel_rfl)).map id (λ_=>rfl) λ_ _ h=>Qpn h
theorem Qqa {H:Type}{enc:TypeId×Value->H}{w:World}(N:Nat):Rd enc Tryz.prog w N 89 Qpo (λx _=>(Bh okS) x):=(Rd.slice (e:=9) (z:=1) (by kernel_rfl) (by kernel_rfl) (by decide) (λx=>LL rfl) (QkN N)).map id (λ_=>rfl) λ_ _ h=>HF h
def Qbj (x:QM):Prop:=okS x.Name/\(Eb .i64) x.Kind/\(Eb .i64) x.Lo/\(Eb .i64) x.Hi/\(Bh okS) x.Names/\(Eb .i64) x.First/\(Eb .i64) x.Then
theorem Qqb {H:Type}{enc:TypeId×Value->H}{w:World}(N:Nat):Rd enc Tryz.prog w N 91 Qt (λx _=>Qbj x):=by
 have h0:=(Rd.struct (fs:=[(9,0),(3,1),(3,2),(3,3),(89,4),(3,5),(3,6)]) (tot:=7) (N:=N) (t:=91) (P:=Tryz.prog) (w:=w) (enc:=enc) (by kernel_rfl) (Jj.cons 9 0 1 (by kernel_rfl) (QkN N) (Jj.cons 3 1 1 (by kernel_rfl) (Ua N) (Jj.cons 3 2 1 (by kernel_rfl) (Ua N) (Jj.cons 3 3 1 (by kernel_rfl) (Ua N) (Jj.cons 89 4 1 (by kernel_rfl) (Qqa N) (Jj.cons 3 5 1 (by kernel_rfl) (Ua N) (Jj.cons 3 6 1 (by kernel_rfl) (Ua N) Jj.nil))))))))
 exact(h0.map (λx=>⟨x.1,x.2.1,x.2.2.1,x.2.2.2.1,x.2.2.2.2.1,x.2.2.2.2.2.1,x.2.2.2.2.2.2.1⟩) (λ_=>rfl) (λx d h=>by obtain⟨_,rfl,h⟩:=h;obtain⟨_,_,rfl,a0,h⟩:=h;obtain⟨_,_,rfl,a1,h⟩:=h;obtain⟨_,_,rfl,a2,h⟩:=h;obtain⟨_,_,rfl,a3,h⟩:=h;obtain⟨_,_,rfl,a4,h⟩:=h;obtain⟨_,_,rfl,a5,h⟩:=h;obtain⟨_,_,rfl,a6,h⟩:=h;exact⟨a0,a1,a2,a3,a4,a5,a6⟩)).mono (Nat.le_succ N)
theorem Qqc {H:Type}{enc:TypeId×Value->H}{w:World}(N:Nat):Rd enc Tryz.prog w N 22 Qkc (λx _=>(Bh Qbj) x):=(Rd.slice (e:=91) (z:=7) (by kernel_rfl) (by kernel_rfl) (by decide) (λx=>LL rfl) (Qqb N)).map id (λ_=>rfl) λ_ _ h=>HF h
def Qai (x:(Int×Int)):Prop:=(Eb .i64) x.1/\(Eb .i64) x.2
theorem Qqd {H:Type}{enc:TypeId×Value->H}{w:World}(N:Nat):Rd enc Tryz.prog w N 64 Qo (λx _=>Qai x):=by
 have h0:=(Rd.array (e:=3) (n:=2) (tot:=2) (fs:=[(3,0),(3,1)]) (N:=N) (t:=64) (P:=Tryz.prog) (w:=w) (enc:=enc) (by kernel_rfl) (Jj.cons 3 0 1 (by kernel_rfl) (Ua N) (Jj.cons 3 1 1 (by kernel_rfl) (Ua N) Jj.nil)))
 exact(h0.map (λx=>⟨x.1,x.2.1⟩) (λ_=>rfl) (λx d h=>by obtain⟨_,rfl,h⟩:=h;obtain⟨_,_,rfl,a0,h⟩:=h;obtain⟨_,_,rfl,a1,h⟩:=h;exact⟨a0,a1⟩)).mono (Nat.le_succ N)
theorem QoH {H:Type}{enc:TypeId×Value->H}{w:World}(N:Nat):Rd enc Tryz.prog w N 59 Qe (λx _=>(Bh Qai) x):=(Rd.slice (e:=64) (z:=2) (by kernel_rfl) (by kernel_rfl) (by decide) (λx=>LL rfl) (Qqd N)).map id (λ_=>rfl) λ_ _ h=>HF h
def Qc6 (x:Xh):Prop:=okS x.Name/\(Eb .i64) x.Colour/\(Bh Qai) x.First
theorem Qqe {H:Type}{enc:TypeId×Value->H}{w:World}(N:Nat):Rd enc Tryz.prog w N 93 QK (λx _=>Qc6 x):=by
 have h0:=(Rd.struct (fs:=[(9,0),(3,1),(59,2)]) (tot:=3) (N:=N) (t:=93) (P:=Tryz.prog) (w:=w) (enc:=enc) (by kernel_rfl) (Jj.cons 9 0 1 (by kernel_rfl) (QkN N) (Jj.cons 3 1 1 (by kernel_rfl) (Ua N) (Jj.cons 59 2 1 (by kernel_rfl) (QoH N) Jj.nil))))
 exact(h0.map (λx=>⟨x.1,x.2.1,x.2.2.1⟩) (λ_=>rfl) (λx d h=>by obtain⟨_,rfl,h⟩:=h;obtain⟨_,_,rfl,a0,h⟩:=h;obtain⟨_,_,rfl,a1,h⟩:=h;obtain⟨_,_,rfl,a2,h⟩:=h;exact⟨a0,a1,a2⟩)).mono (Nat.le_succ N)
theorem Qqf {H:Type}{enc:TypeId×Value->H}{w:World}(N:Nat):Rd enc Tryz.prog w N 23 Qk0 (λx _=>(Bh Qc6) x):=(Rd.slice (e:=93) (z:=3) (by kernel_rfl) (by kernel_rfl) (by decide) (λx=>LL rfl) (Qqe N)).map id (λ_=>rfl) λ_ _ h=>HF h
def QiG (x:Yd):Prop:=okS x.Name/\(Eb .i64) x.Colour
theorem QpL {H:Type}{enc:TypeId×Value->H}{w:World}(N:Nat):Rd enc Tryz.prog w N 132 QY (λx _=>QiG x):=by
 have h0:=(Rd.struct (fs:=[(9,0),(3,1)]) (tot:=2) (N:=N) (t:=132) (P:=Tryz.prog) (w:=w) (enc:=enc) (by kernel_rfl) (Jj.cons 9 0 1 (by kernel_rfl) (QkN N) (Jj.cons 3 1 1 (by kernel_rfl) (Ua N) Jj.nil)))
 exact(h0.map (λx=>⟨x.1,x.2.1⟩) (λ_=>rfl) (λx d h=>by obtain⟨_,rfl,h⟩:=h;obtain⟨_,_,rfl,a0,h⟩:=h;obtain⟨_,_,rfl,a1,h⟩:=h;exact⟨a0,a1⟩)).mono (Nat.le_succ N)
theorem Qqg {H:Type}{enc:TypeId×Value->H}{w:World}(N:Nat):Rd enc Tryz.prog w N 47 Km (λx _=>(Bh QiG) x):=(Rd.slice (e:=132) (z:=2) (by kernel_rfl) (by kernel_rfl) (by decide) (λx=>LL rfl) (QpL N)).map id (λ_=>rfl) λ_ _ h=>HF h
theorem QhF (x:Qi):Qm x=[.i .i64 x.Kind,.i .i64 x.Num,.sl 3 (Jb x.Kids)]:=by cases x;rw[Qm]
inductive Ig : Qi->Prop where
 | mk (x:Qi):(Eb .i64) x.Kind->(Eb .i64) x.Num->x.Kids.length<=maxLen->(∀k∈x.Kids,Ig k)->Ig x
theorem QoI {H:Type}{enc:TypeId×Value->H}{w:World}(N:Nat):Rd enc Tryz.prog w N 50 Qm (λx _=>Ig x):=by
 induction N with
 | zero=>exact Rd.zero
 | succ N ih=>
  have h0:=(Rd.struct (fs:=[(3,0),(3,1),(48,2)]) (tot:=3) (N:=N) (t:=50) (P:=Tryz.prog) (w:=w) (enc:=enc) (by kernel_rfl) (Jj.cons 3 0 1 (by kernel_rfl) (Ua N) (Jj.cons 3 1 1 (by kernel_rfl) (Ua N) (Jj.cons 48 2 1 (by kernel_rfl) (Rd.slice (e:=50) (z:=3) (by kernel_rfl) (by kernel_rfl) (by decide) (λx=>LL (by cases x;rfl)) ih) Jj.nil))))
  exact h0.map (λx=>⟨x.1,x.2.1,x.2.2.1⟩) (λx=>by simp only[Qm];rw[Ip];rfl) (λx d h=>by obtain⟨_,rfl,h⟩:=h;obtain⟨_,_,rfl,a0,h⟩:=h;obtain⟨_,_,rfl,a1,h⟩:=h;obtain⟨_,_,rfl,a2,h⟩:=h;exact Ig.mk _ a0 a1 (HF a2).1 (HF a2).2)
def Qaj (x:Xk):Prop:=(Eb .i64) x.Place/\Ig x.Expr
theorem Qqh {H:Type}{enc:TypeId×Value->H}{w:World}(N:Nat):Rd enc Tryz.prog w N 77 Xa (λx _=>Qaj x):=by
 have h0:=(Rd.struct (fs:=[(3,0),(50,1)]) (tot:=4) (N:=N) (t:=77) (P:=Tryz.prog) (w:=w) (enc:=enc) (by kernel_rfl) (Jj.cons 3 0 1 (by kernel_rfl) (Ua N) (Jj.cons 50 1 3 (by kernel_rfl) (QoI N) Jj.nil)))
 exact(h0.map (λx=>⟨x.1,x.2.1⟩) (λx=>by rw[QhF];rfl) (λx d h=>by obtain⟨_,rfl,h⟩:=h;obtain⟨_,_,rfl,a0,h⟩:=h;obtain⟨_,_,rfl,a1,h⟩:=h;exact⟨a0,a1⟩)).mono (Nat.le_succ N)
theorem QoJ {H:Type}{enc:TypeId×Value->H}{w:World}(N:Nat):Rd enc Tryz.prog w N 51 QmR (λx _=>(Bh Qaj) x):=(Rd.slice (e:=77) (z:=4) (by kernel_rfl) (by kernel_rfl) (by decide) (λx=>LL rfl) (Qqh N)).map id (λ_=>rfl) λ_ _ h=>HF h
theorem QjG {H:Type}{enc:TypeId×Value->H}{w:World}(N:Nat):Rd enc Tryz.prog w N 29 Qz (λx _=>(Bh (Eb .i64)) x):=(Rd.slice (e:=3) (z:=1) (by kernel_rfl) (by kernel_rfl) (by decide) (λx=>LL rfl) (Ua N)).map id (λ_=>rfl) λ_ _ h=>HF h
def QnE (x:(Int×Int×Int)):Prop:=(Eb .i64) x.1/\(Eb .i64) x.2.1/\(Eb .i64) x.2.2
theorem Qqi {H:Type}{enc:TypeId×Value->H}{w:World}(N:Nat):Rd enc Tryz.prog w N 52 QhU (λx _=>QnE x):=by
 have h0:=(Rd.array (e:=3) (n:=3) (tot:=3) (fs:=[(3,0),(3,1),(3,2)]) (N:=N) (t:=52) (P:=Tryz.prog) (w:=w) (enc:=enc) (by kernel_rfl) (Jj.cons 3 0 1 (by kernel_rfl) (Ua N) (Jj.cons 3 1 1 (by kernel_rfl) (Ua N) (Jj.cons 3 2 1 (by kernel_rfl) (Ua N) Jj.nil))))
 exact(h0.map (λx=>⟨x.1,x.2.1,x.2.2.1⟩) (λ_=>rfl) (λx d h=>by obtain⟨_,rfl,h⟩:=h;obtain⟨_,_,rfl,a0,h⟩:=h;obtain⟨_,_,rfl,a1,h⟩:=h;obtain⟨_,_,rfl,a2,h⟩:=h;exact⟨a0,a1,a2⟩)).mono (Nat.le_succ N)
def Qf6 (x:QL):Prop:=okS x.Name/\(Bh QiG) x.Vars/\Ig x.Guard/\(Eb .i64) x.Join/\(Eb .i64) x.Split/\(Bh Qaj) x.Ins/\(Bh Qaj) x.Outs/\(Bh (Eb .i64)) x.Cancel/\(Eb .i64) x.After/\QnE x.Many
theorem Qqj {H:Type}{enc:TypeId×Value->H}{w:World}(N:Nat):Rd enc Tryz.prog w N 54 Qk (λx _=>Qf6 x):=by
 have h0:=(Rd.struct (fs:=[(9,0),(47,1),(50,2),(3,5),(3,6),(51,7),(51,8),(29,9),(3,10),(52,11)]) (tot:=14) (N:=N) (t:=54) (P:=Tryz.prog) (w:=w) (enc:=enc) (by kernel_rfl) (Jj.cons 9 0 1 (by kernel_rfl) (QkN N) (Jj.cons 47 1 1 (by kernel_rfl) (Qqg N) (Jj.cons 50 2 3 (by kernel_rfl) (QoI N) (Jj.cons 3 5 1 (by kernel_rfl) (Ua N) (Jj.cons 3 6 1 (by kernel_rfl) (Ua N) (Jj.cons 51 7 1 (by kernel_rfl) (QoJ N) (Jj.cons 51 8 1 (by kernel_rfl) (QoJ N) (Jj.cons 29 9 1 (by kernel_rfl) (QjG N) (Jj.cons 3 10 1 (by kernel_rfl) (Ua N) (Jj.cons 52 11 3 (by kernel_rfl) (Qqi N) Jj.nil)))))))))))
 exact(h0.map (λx=>⟨x.1,x.2.1,x.2.2.1,x.2.2.2.1,x.2.2.2.2.1,x.2.2.2.2.2.1,x.2.2.2.2.2.2.1,x.2.2.2.2.2.2.2.1,x.2.2.2.2.2.2.2.2.1,x.2.2.2.2.2.2.2.2.2.1⟩) (λx=>by rw[QhF];rfl) (λx d h=>by obtain⟨_,rfl,h⟩:=h;obtain⟨_,_,rfl,a0,h⟩:=h;obtain⟨_,_,rfl,a1,h⟩:=h;obtain⟨_,_,rfl,a2,h⟩:=h;obtain⟨_,_,rfl,a3,h⟩:=h;obtain⟨_,_,rfl,a4,h⟩:=h;obtain⟨_,_,rfl,a5,h⟩:=h;obtain⟨_,_,rfl,a6,h⟩:=h;obtain⟨_,_,rfl,a7,h⟩:=h;obtain⟨_,_,rfl,a8,h⟩:=h;obtain⟨_,_,rfl,a9,h⟩:=h;exact⟨a0,a1,a2,a3,a4,a5,a6,a7,a8,a9⟩)).mono (Nat.le_succ N)
theorem Qqk {H:Type}{enc:TypeId×Value->H}{w:World}(N:Nat):Rd enc Tryz.prog w N 24 QlV (λx _=>(Bh Qf6) x):=(Rd.slice (e:=54) (z:=14) (by kernel_rfl) (by kernel_rfl) (by decide) (λx=>LL rfl) (Qqj N)).map id (λ_=>rfl) λ_ _ h=>HF h
def Qak (x:Qn):Prop:=(Bh Qbj) x.Colours/\(Bh Qc6) x.Places/\(Bh Qf6) x.Tasks/\(Eb .i64) x.From/\(Eb .i64) x.To
theorem Qql {H:Type}{enc:TypeId×Value->H}{w:World}(N:Nat):Rd enc Tryz.prog w N 26 Qa (λx _=>Qak x):=by
 have h0:=(Rd.struct (fs:=[(22,0),(23,1),(24,2),(3,3),(3,4)]) (tot:=5) (N:=N) (t:=26) (P:=Tryz.prog) (w:=w) (enc:=enc) (by kernel_rfl) (Jj.cons 22 0 1 (by kernel_rfl) (Qqc N) (Jj.cons 23 1 1 (by kernel_rfl) (Qqf N) (Jj.cons 24 2 1 (by kernel_rfl) (Qqk N) (Jj.cons 3 3 1 (by kernel_rfl) (Ua N) (Jj.cons 3 4 1 (by kernel_rfl) (Ua N) Jj.nil))))))
 exact(h0.map (λx=>⟨x.1,x.2.1,x.2.2.1,x.2.2.2.1,x.2.2.2.2.1⟩) (λ_=>rfl) (λx d h=>by obtain⟨_,rfl,h⟩:=h;obtain⟨_,_,rfl,a0,h⟩:=h;obtain⟨_,_,rfl,a1,h⟩:=h;obtain⟨_,_,rfl,a2,h⟩:=h;obtain⟨_,_,rfl,a3,h⟩:=h;obtain⟨_,_,rfl,a4,h⟩:=h;exact⟨a0,a1,a2,a3,a4⟩)).mono (Nat.le_succ N)
theorem Qqm {H:Type}{enc:TypeId×Value->H}{w:World}(N:Nat):Rd enc Tryz.prog w N 28 Qu (λx _=>(Bh (Bh Qai)) x):=(Rd.slice (e:=59) (z:=1) (by kernel_rfl) (by kernel_rfl) (by decide) (λx=>LL rfl) (QoH N)).map id (λ_=>rfl) λ_ _ h=>HF h
def Qf7 (x:Qh):Prop:=(Eb .i64) x.Task/\(Bh (Eb .i64)) x.Vars/\(Bh (Eb .i64)) x.Ins/\(Bh (Eb .i64)) x.Outs
theorem Qqn {H:Type}{enc:TypeId×Value->H}{w:World}(N:Nat):Rd enc Tryz.prog w N 31 Qf (λx _=>Qf7 x):=by
 have h0:=(Rd.struct (fs:=[(3,0),(29,1),(29,2),(29,3)]) (tot:=4) (N:=N) (t:=31) (P:=Tryz.prog) (w:=w) (enc:=enc) (by kernel_rfl) (Jj.cons 3 0 1 (by kernel_rfl) (Ua N) (Jj.cons 29 1 1 (by kernel_rfl) (QjG N) (Jj.cons 29 2 1 (by kernel_rfl) (QjG N) (Jj.cons 29 3 1 (by kernel_rfl) (QjG N) Jj.nil)))))
 exact(h0.map (λx=>⟨x.1,x.2.1,x.2.2.1,x.2.2.2.1⟩) (λ_=>rfl) (λx d h=>by obtain⟨_,rfl,h⟩:=h;obtain⟨_,_,rfl,a0,h⟩:=h;obtain⟨_,_,rfl,a1,h⟩:=h;obtain⟨_,_,rfl,a2,h⟩:=h;obtain⟨_,_,rfl,a3,h⟩:=h;exact⟨a0,a1,a2,a3⟩)).mono (Nat.le_succ N)
namespace LawOrjoinTells
theorem own : ownKnob Tryz.prog.godebug=none:=by kernel_rfl
theorem Qpa : laidOutB Tryz.prog=true:=by kernel_rfl
theorem Qow : ∀t∈Tryz.f3.params.toList,Tryz.prog.readableRec t=true/\t<Tryz.prog.types.size:=by
 have h:(Tryz.f3.params.toList.all λt=>Tryz.prog.readableRec t&&decide (t<Tryz.prog.types.size))=true:=by kernel_rfl
 intro t ht
 have:=XD.1 h t ht
 rw[QH,QC]at this
 exact this
theorem Qox (os:Os)(args:Array Value):laidMetH Tryz.prog Rows.orjoinTellsRow.laid ((World.doorLaid Tryz.prog 33 os).forCall (λ_ _=>0) ⟨#[],args,[]⟩).memory:=
 laidMetH_of_parts3 (fuel:=8) (laidMet_of_run' 8 (by kernel_rfl) (by kernel_rfl)) (by kernel_rfl) (by kernel_rfl)
theorem Qoy {W:World}(h:laidMetH Tryz.prog Rows.orjoinTellsRow.laid W):PU Tryz.prog (λk=>k<W.heap.size) W:=
 Qkb (r:=[]) (g:=0) (t:=255) (e:=5) 1 (by kernel_rfl) (by kernel_rfl) (by kernel_rfl) (by kernel_rfl) (by kernel_rfl) (by kernel_rfl) (by kernel_rfl) (by kernel_rfl) h
set_option maxRecDepth 100000 in
theorem QpM (hF:∀(a0:Qn) (a1:(L_ (L_ (Int×Int)))) (a2:Qh) (a3:Int) (a4:Int),Qak a0->(Bh (Bh Qai)) a1->Qf7 a2->(Eb .i64) a3->(Eb .i64) a4->Gd a0 a1 a2 a3 a4=some true)(os:Os)(started:os.Started)(H:Type)(enc:TypeId×Value->H):
  ReturnsInHanded {} Tryz.checked os 3 .any (λw args=>(Rows.orjoinTellsSpec.pre enc Tryz.prog Tryz.f3 Rows.orjoinTellsRow.domain false w args/\laidMetH Tryz.prog Rows.orjoinTellsRow.laid w)/\sizedMet enc Tryz.prog Tryz.f3 (OpenSpec.ofChange Rows.orjoinTellsSpec) false w args) (Rows.orjoinTellsSpec.post enc Tryz.prog Tryz.f3 false true false false):=by
 refine returnsInHanded_of_change_and (C:=Tryz.checked) (X:=λw _=>laidMetH Tryz.prog Rows.orjoinTellsRow.laid w) (λ_ _ _ hh h=>h.of_heap hh) own started (by kernel_rfl) Tryz.func3
  (ChangeSpec.witness_shaped (enc:=enc) (C:=Tryz.checked) (os:=os) (X:=λw _=>laidMetH Tryz.prog Rows.orjoinTellsRow.laid w) false (World.doorLaid Tryz.prog 33 os) #[.agg #[.slice none 0 0,.slice none 0 0,.slice none 0 0,.int .i64 0,.int .i64 0],.slice none 0 0,.agg #[.int .i64 0,.slice none 0 0,.slice none 0 0,.slice none 0 0],.int .i64 0,.int .i64 0] 8 rfl (World.shaped_of_RefB (by kernel_rfl) (by kernel_rfl)) (by kernel_rfl) (by kernel_rfl) (by kernel_rfl) (Qox os _)) ?_
 intro W base args ds gs before hval0 hW hcnd hz hL _
 have hval:∀(j:Nat) t v,Tryz.f3.params[j]? = some t->args[j]? = some v->Value.okWide Tryz.prog W .any base t v:=hval0
 have hW1:=hW
 obtain⟨p,q,hA0,hV,_,_,_⟩:=hW
 obtain⟨rfl,_⟩:=trodVars_none hV
 have hA:DataW.TrodAll enc Tryz.prog W 0 (λ_=>true) true Tryz.f3.params.toList args.toList ds p:=hA0
 rw[Tryz.params3]at hA hval
 obtain⟨v0,vs0,d0,ds0,p0,q0,hargs,rfl,_,h0,r0⟩:=trodAll_cons hA
 obtain⟨v1,vs1,d1,ds1,p1,q1,rfl,rfl,_,h1,r1⟩:=trodAll_cons r0
 obtain⟨v2,vs2,d2,ds2,p2,q2,rfl,rfl,_,h2,r2⟩:=trodAll_cons r1
 obtain⟨v3,vs3,d3,ds3,p3,q3,rfl,rfl,_,h3,r3⟩:=trodAll_cons r2
 obtain⟨v4,vs4,d4,ds4,p4,q4,rfl,rfl,_,h4,r4⟩:=trodAll_cons r3
 obtain⟨rfl,rfl,_⟩:=trodAll_nil r4
 obtain rfl:args=#[v0,v1,v2,v3,v4]:=by cases args;simp_all
 obtain⟨a0,w0,c0⟩:=Rd.open (λN=>Qql N) h0
 obtain⟨_,rfl⟩:=Qka (P:=Tryz.prog) (t:=26) (fs:=[(22,0),(23,1),(24,2),(3,3),(3,4)]) (tot:=5) (by kernel_rfl) (hval 0 26 v0 rfl rfl)
 have e0:=c0.argS
 obtain⟨a1,w1,c1⟩:=Rd.open (λN=>Qqm N) h1
 obtain⟨_,_,_,rfl⟩:=okWide_slice Tryz.underlying28 (hval 1 28 v1 rfl rfl)
 have e1:=(Cl.arg1 rfl c1)
 obtain⟨a2,w2,c2⟩:=Rd.open (λN=>Qqn N) h2
 obtain⟨_,rfl⟩:=Qka (P:=Tryz.prog) (t:=31) (fs:=[(3,0),(29,1),(29,2),(29,3)]) (tot:=4) (by kernel_rfl) (hval 2 31 v2 rfl rfl)
 have e2:=c2.argS
 obtain⟨a3,w3,c3⟩:=Rd.open (λN=>Ua N) h3
 obtain⟨_,rfl⟩:=okWide_int Tryz.underlying3 (hval 3 3 v3 rfl rfl)
 have e3:=(Cl.arg1 rfl c3)
 obtain⟨a4,w4,c4⟩:=Rd.open (λN=>Ua N) h4
 obtain⟨_,rfl⟩:=okWide_int Tryz.underlying3 (hval 4 3 v4 rfl rfl)
 have e4:=(Cl.arg1 rfl c4)
 refine(QP.law (us:=[.agg (Qa a0),.sl 1 (a1.map Qe),.agg (Qf a2),.i .i64 a3,.i .i64 a4]) (ZA a0 a1 a2 a3 a4 _ (hF a0 a1 a2 a3 a4 w0 w1 w2 w3 w4)) (Qoy hL) rfl (λj x v hx hv=>?_)).mono λe W2 ⟨he,hb⟩=>?_
 ·match j with
  | 0=>cases hx;cases hv;exact e0
  | 1=>cases hx;cases hv;exact e1
  | 2=>cases hx;cases hv;exact e2
  | 3=>cases hx;cases hv;exact e3
  | 4=>cases hx;cases hv;exact e4
  | j+5=>simp at hx
 subst he
 exact⟨_,rfl,QnZ Qpa Qow hW1 rfl hb rfl Tryz.underlying4 rfl rfl rfl⟩
theorem proved_of (hF:∀(a0:Qn) (a1:(L_ (L_ (Int×Int)))) (a2:Qh) (a3:Int) (a4:Int),Qak a0->(Bh (Bh Qai)) a1->Qf7 a2->(Eb .i64) a3->(Eb .i64) a4->Gd a0 a1 a2 a3 a4=some true):Rows.OrjoinTellsSaid:=
 OpenClaim.holds_of_wide 3 Tryz.f3 rfl rfl rfl rfl rfl rfl rfl ⟨rfl,rfl,rfl,rfl,rfl⟩ rfl rfl rfl rfl rfl (by kernel_rfl) Tryz.func3 (by kernel_rfl)
  (Xn (by kernel_rfl)) (by unfold Func.isWrapper;first | (rw[if_pos (by decide +kernel)];kernel_rfl) | (rw[if_neg (by decide +kernel)];exact⟨rfl,rfl⟩))
  (λos started H enc _=>QpM hF os started H enc)
theorem card_of (hs:Rows.OrjoinTellsSaid):Rows.OrjoinTellsCardSaid:=
 Claim7.holds_tied_plain_at .later [] [.listed,.data] true (true, "002f84d5fda64e3b6dbf635b81a7be9608d324dc66bc549211f3d85f0ef82a3d") false
  hs (λ_ h=>by cases h) (by kernel_rfl) (λ_ h=>by cases h) orjoinTells_row_tie rfl ⟨rfl,rfl⟩ (by kernel_rfl) rfl
  (λf fn hf hfn=>by
   obtain rfl:f=3:=Option.some.inj ((show Tryz.prog.funcNamed "baldric/baldriclaw12.OrjoinTells" = some 3 by kernel_rfl).symm.trans hf) |>.symm
   obtain rfl:fn=Tryz.f3:=(Option.some.inj (Tryz.func3.symm.trans hfn)).symm
   exact⟨by kernel_rfl,λj t ht=>by
    rw[Tryz.params3]at ht
    have hm:t∈[26,28,31,3,3]:=by simpa using Array.mem_of_getElem? ht
    have hall:([26,28,31,3,3].all λu=>!Tryz.prog.wantsStandIn u)=true:=by kernel_rfl
    exact(show Tryz.prog.wantsStandIn t=false by simpa using XD.1 hall t hm)⟩)
  (by kernel_rfl)
end LawOrjoinTells
theorem kE {e:Qi}(h:Ig e):KD e:=by
 induction h with
 | mk x _ _ h1 _ ih=>exact .mk x h1 ih
theorem kL {α:Type}{p q:α->Prop}(f:∀x,p x->q x){l:L_ α}(h:Bh p l):QO q l:=⟨h.1,λx hx=>f x (h.2 x hx)⟩
theorem kA {a:Xk}(h:Qaj a):Fm a:=⟨trivial,kE h.2⟩
theorem QqB {n:Qn}(h:Qak n):Xl n:=
 ⟨kL (λc hc=>⟨hc.1,trivial,trivial,trivial,kL (λs hs=>hs) hc.2.2.2.2.1,trivial,trivial⟩) h.1,kL (λp hp=>⟨hp.1,trivial,kL (λ_ _=>trivial) hp.2.2⟩) h.2.1,
  kL (λt ht=>⟨ht.1,kL (λv hv=>⟨hv.1,trivial⟩) ht.2.1,kE ht.2.2.1,trivial,trivial,kL (λ_ h=>kA h) ht.2.2.2.2.2.1,kL (λ_ h=>kA h) ht.2.2.2.2.2.2.1,kL (λ_ _=>trivial) ht.2.2.2.2.2.2.2.1,trivial,trivial⟩) h.2.2.1,trivial,trivial⟩
theorem QkO {x:Int}(h:Eb .i64 x):Xy x:=by
 have h1:IntKind.min .i64=-9223372036854775808:=rfl
 have h2:IntKind.max .i64=9223372036854775807:=rfl
 unfold Eb at h
 rw[h1,h2]at h
 exact h
theorem rE {e:Qi}(h:Ig e):RE e:=by
 induction h with
 | mk x _ hn _ _ ih=>exact .mk x (QkO hn) ih
theorem QqC {n:Qn}(h:Qak n):RN n:=
 ⟨λc hc=>⟨QkO (h.1.2 c hc).2.2.1,QkO (h.1.2 c hc).2.2.2.1⟩,λt ht=>rE (h.2.2.1.2 t ht).2.2.1,λt ht a ha=>rE ((h.2.2.1.2 t ht).2.2.2.2.2.1.2 a ha).2,λt ht a ha=>rE ((h.2.2.1.2 t ht).2.2.2.2.2.2.1.2 a ha).2⟩
theorem proved : Rows.OrjoinTellsCardSaid:=LawOrjoinTells.card_of (LawOrjoinTells.proved_of λa0 a1 a2 a3 a4 h0 h1 _ _ _=>Qmv (QqB h0) (QqC h0) (kL (λb hb=>kL (λ_ _=>trivial) hb) h1))

end Go.Proofs.YtphohlpbjofddaaGreatDoor
