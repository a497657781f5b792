/- ItemsTell, as it is given: of any items and any time it answers true, with no condition but what its row asks of all calls. -/
import Derived.Test.YtbcmaoldnhphlaaU1P1
import Derived.Test.YtbcmaoldnhphlaaU1T1
import Derived.Test.YtbcmaoldnhphlaaU1V3
import Derived.Test.YtbcmaoldnhphlaaRows
import Derived.WalkKit
import Derived.ProofKit
import Derived.OpenShut
set_option linter.unusedVariables false
set_option linter.unusedSimpArgs false
set_option linter.unusedSectionVars false
set_option linter.deprecated false
noncomputable section
namespace Go.Proofs.Ytbcmaoldnhphlaa
open Go Go.RowKit Go.Vm Go.ChangeShapes Go.WideShapes Go.ChangeAt
theorem QfJ {H:Type}{enc:TypeId×Value→H}{w:World}(N:Nat):Rd enc Try.prog w N 3 Qr (fun x _=>(okI .i64) x):=(Rd.int (by kernel_rfl)).map id (fun _=>rfl) fun _ _ h=>Qpr h
theorem QnA {H:Type}{enc:TypeId×Value→H}{w:World}(N:Nat):Rd enc Try.prog w N 23 QnV (fun x _=>(okL (okI .i64)) x):=(Rd.slice (e:=3) (z:=1) (by kernel_rfl) (by kernel_rfl) (by decide) (fun x=>Qk0 rfl) (QfJ N)).map id (fun _=>rfl) fun _ _ h=>QnT h
def QkJ (x:Qac):Prop:=(okI .i64) x.Task∧(okL (okI .i64)) x.Vars∧(okL (okI .i64)) x.Ins∧(okL (okI .i64)) x.Outs
theorem QpW {H:Type}{enc:TypeId×Value→H}{w:World}(N:Nat):Rd enc Try.prog w N 25 QU (fun x _=>QkJ x):=by
 have h0:=(Rd.struct (fs:=[(3,0),(23,1),(23,2),(23,3)]) (tot:=4) (N:=N) (t:=25) (P:=Try.prog) (w:=w) (enc:=enc) (by kernel_rfl) (RdF.cons 3 0 1 (by kernel_rfl) (QfJ N) (RdF.cons 23 1 1 (by kernel_rfl) (QnA N) (RdF.cons 23 2 1 (by kernel_rfl) (QnA N) (RdF.cons 23 3 1 (by kernel_rfl) (QnA N) RdF.nil)))))
 exact(h0.map (fun x=>⟨x.1,x.2.1,x.2.2.1,x.2.2.2.1⟩) (fun _=>rfl) (fun x d h=>by obtain⟨_,rfl,h⟩:=h;obtain⟨_,_,rfl,a0,h⟩:=h;obtain⟨_,_,rfl,a1,h⟩:=h;obtain⟨_,_,rfl,a2,h⟩:=h;obtain⟨_,_,rfl,a3,h⟩:=h;exact⟨a0,a1,a2,a3⟩)).mono (Nat.le_succ N)
def QlT (x:QV):Prop:=(okI .i64) x.Most∧(okI .i64) x.Enough∧(okI .i64) x.Open∧(okI .i64) x.Done∧(okI .i64) x.Failed
theorem QoU {H:Type}{enc:TypeId×Value→H}{w:World}(N:Nat):Rd enc Try.prog w N 27 QT (fun x _=>QlT x):=by
 have h0:=(Rd.struct (fs:=[(3,0),(3,1),(3,2),(3,3),(3,4)]) (tot:=5) (N:=N) (t:=27) (P:=Try.prog) (w:=w) (enc:=enc) (by kernel_rfl) (RdF.cons 3 0 1 (by kernel_rfl) (QfJ N) (RdF.cons 3 1 1 (by kernel_rfl) (QfJ N) (RdF.cons 3 2 1 (by kernel_rfl) (QfJ N) (RdF.cons 3 3 1 (by kernel_rfl) (QfJ N) (RdF.cons 3 4 1 (by kernel_rfl) (QfJ N) RdF.nil))))))
 exact(h0.map (fun x=>⟨x.1,x.2.1,x.2.2.1,x.2.2.2.1,x.2.2.2.2.1⟩) (fun _=>rfl) (fun x d h=>by obtain⟨_,rfl,h⟩:=h;obtain⟨_,_,rfl,a0,h⟩:=h;obtain⟨_,_,rfl,a1,h⟩:=h;obtain⟨_,_,rfl,a2,h⟩:=h;obtain⟨_,_,rfl,a3,h⟩:=h;obtain⟨_,_,rfl,a4,h⟩:=h;exact⟨a0,a1,a2,a3,a4⟩)).mono (Nat.le_succ N)
def Qee (x:Qe):Prop:=(okI .i64) x.Id∧QkJ x.Mode∧QlT x.Batch∧(okI .i64) x.Until
theorem QpX {H:Type}{enc:TypeId×Value→H}{w:World}(N:Nat):Rd enc Try.prog w N 29 Qb (fun x _=>Qee x):=by
 have h0:=(Rd.struct (fs:=[(3,0),(25,1),(27,5),(3,10)]) (tot:=11) (N:=N) (t:=29) (P:=Try.prog) (w:=w) (enc:=enc) (by kernel_rfl) (RdF.cons 3 0 1 (by kernel_rfl) (QfJ N) (RdF.cons 25 1 4 (by kernel_rfl) (QpW N) (RdF.cons 27 5 5 (by kernel_rfl) (QoU N) (RdF.cons 3 10 1 (by kernel_rfl) (QfJ N) RdF.nil)))))
 exact(h0.map (fun x=>⟨x.1,x.2.1,x.2.2.1,x.2.2.2.1⟩) (fun _=>rfl) (fun x d h=>by obtain⟨_,rfl,h⟩:=h;obtain⟨_,_,rfl,a0,h⟩:=h;obtain⟨_,_,rfl,a1,h⟩:=h;obtain⟨_,_,rfl,a2,h⟩:=h;obtain⟨_,_,rfl,a3,h⟩:=h;exact⟨a0,a1,a2,a3⟩)).mono (Nat.le_succ N)
theorem Qqc {H:Type}{enc:TypeId×Value→H}{w:World}(N:Nat):Rd enc Try.prog w N 22 Qk3 (fun x _=>(okL Qee) x):=(Rd.slice (e:=29) (z:=11) (by kernel_rfl) (by kernel_rfl) (by decide) (fun x=>Qk0 rfl) (QpX N)).map id (fun _=>rfl) fun _ _ h=>QnT h
def Qlk (x:(List Int)):Prop:=x.length*8≤reachBytes
theorem QmJ {H:Type}{enc:TypeId×Value→H}{w:World}(N:Nat):Rd enc Try.prog w N 23 QnV (fun x d=>(okL (okI .i64)) x∧(Sz Try.prog 23 d→Qlk x)):=(Rd.slice (e:=3) (z:=1) (by kernel_rfl) (by kernel_rfl) (by decide) (fun x=>Qk0 rfl) (QfJ N)).map id (fun _=>rfl) fun _ _ h=>Qp3 (t:=23) (e:=3) (b:=8) (by kernel_rfl) (by kernel_rfl) h
def QoV (x:Qac):Prop:=Qlk x.Vars∧Qlk x.Ins∧Qlk x.Outs
theorem QpI {H:Type}{enc:TypeId×Value→H}{w:World}(N:Nat):Rd enc Try.prog w N 25 QU (fun x d=>QkJ x∧(Sz Try.prog 25 d→QoV x)):=by
 have h0:=(Rd.struct (fs:=[(3,0),(23,1),(23,2),(23,3)]) (tot:=4) (N:=N) (t:=25) (P:=Try.prog) (w:=w) (enc:=enc) (by kernel_rfl) (RdF.cons 3 0 1 (by kernel_rfl) (QfJ N) (RdF.cons 23 1 1 (by kernel_rfl) (QmJ N) (RdF.cons 23 2 1 (by kernel_rfl) (QmJ N) (RdF.cons 23 3 1 (by kernel_rfl) (QmJ N) RdF.nil)))))
 exact(h0.map (fun x=>⟨x.1,x.2.1,x.2.2.1,x.2.2.2.1⟩) (fun _=>rfl) (fun x d h=>by obtain⟨_,rfl,h⟩:=h;obtain⟨_,_,rfl,a0,h⟩:=h;obtain⟨_,_,rfl,a1,h⟩:=h;obtain⟨_,_,rfl,a2,h⟩:=h;obtain⟨_,_,rfl,a3,h⟩:=h;exact⟨⟨a0,a1.1,a2.1,a3.1⟩,fun hz=>⟨a1.2 (Sz.field Try.underlying25 hz (j:=1) rfl rfl),a2.2 (Sz.field Try.underlying25 hz (j:=2) rfl rfl),a3.2 (Sz.field Try.underlying25 hz (j:=3) rfl rfl)⟩⟩)).mono (Nat.le_succ N)
def Qll (x:Qe):Prop:=QoV x.Mode
theorem Qn7 {H:Type}{enc:TypeId×Value→H}{w:World}(N:Nat):Rd enc Try.prog w N 29 Qb (fun x d=>Qee x∧(Sz Try.prog 29 d→Qll x)):=by
 have h0:=(Rd.struct (fs:=[(3,0),(25,1),(27,5),(3,10)]) (tot:=11) (N:=N) (t:=29) (P:=Try.prog) (w:=w) (enc:=enc) (by kernel_rfl) (RdF.cons 3 0 1 (by kernel_rfl) (QfJ N) (RdF.cons 25 1 4 (by kernel_rfl) (QpI N) (RdF.cons 27 5 5 (by kernel_rfl) (QoU N) (RdF.cons 3 10 1 (by kernel_rfl) (QfJ N) RdF.nil)))))
 exact(h0.map (fun x=>⟨x.1,x.2.1,x.2.2.1,x.2.2.2.1⟩) (fun _=>rfl) (fun x d h=>by obtain⟨_,rfl,h⟩:=h;obtain⟨_,_,rfl,a0,h⟩:=h;obtain⟨_,_,rfl,a1,h⟩:=h;obtain⟨_,_,rfl,a2,h⟩:=h;obtain⟨_,_,rfl,a3,h⟩:=h;exact⟨⟨a0,a1.1,a2,a3⟩,fun hz=>a1.2 (Sz.field Try.underlying29 hz (j:=1) rfl rfl)⟩)).mono (Nat.le_succ N)
def QnB (x:(List Qe)):Prop:=x.length*136≤reachBytes∧∀y∈x,Qll y
theorem QpJ {H:Type}{enc:TypeId×Value→H}{w:World}(N:Nat):Rd enc Try.prog w N 22 Qk3 (fun x d=>(okL Qee) x∧(Sz Try.prog 22 d→QnB x)):=(Rd.slice (e:=29) (z:=11) (by kernel_rfl) (by kernel_rfl) (by decide) (fun x=>Qk0 rfl) (Qn7 N)).map id (fun _=>rfl) fun _ _ h=>Qp4 (t:=22) (e:=29) (b:=136) (by kernel_rfl) (by kernel_rfl) h
namespace LawItemsTell
theorem own : ownKnob Try.prog.godebug=none:=by kernel_rfl
theorem Qpi : laidOutB Try.prog=true:=by kernel_rfl
theorem QoO : ∀t∈Try.f3.params.toList,Try.prog.readableRec t=true∧t<Try.prog.types.size:=by
 have h:(Try.f3.params.toList.all fun t=>Try.prog.readableRec t&&decide (t<Try.prog.types.size))=true:=by kernel_rfl
 intro t ht
 have:=QN.1 h t ht
 rw [Qu,Qbw]at this
 exact this
set_option maxRecDepth 100000 in
theorem QpK (hF:∀(a0:(List Qe)) (a1:Qe) (a2:Int),((okL Qee) a0∧QnB a0)→(Qee a1∧Qll a1)→(okI .i64) a2→Qb6 a0 a1 a2=some true)(os:Os)(started:os.Started)(H:Type)(enc:TypeId×Value→H):
  ReturnsInHanded {} Try.checked os 3 .any (Rows.itemsTellSpec.pre6 enc Try.prog Try.f3 Rows.itemsTellRow.domain false) (Rows.itemsTellSpec.post enc Try.prog Try.f3 false true false false):=by
 refine Qmw (C:=Try.checked) own started (by kernel_rfl) Try.func3
  (ChangeSpec.witness6 (enc:=enc) (C:=Try.checked) false ⟨#[],#[.slice none 0 0,.agg #[.int .i64 0,.int .i64 0,.slice none 0 0,.slice none 0 0,.slice none 0 0,.int .i64 0,.int .i64 0,.int .i64 0,.int .i64 0,.int .i64 0,.int .i64 0],.int .i64 0],[]⟩ 8 (by kernel_rfl) (by kernel_rfl) (by kernel_rfl) (by kernel_rfl)) ?_
 intro W base args ds gs before hval0 hW hcnd hz _
 have hval:∀(j:Nat) t v,Try.f3.params[j]? = some t→args[j]? = some v→Value.okWide Try.prog W .any base t v:=hval0
 have hW1:=hW
 obtain⟨p,q,hA0,hV,_,_,_⟩:=hW
 obtain⟨rfl,_⟩:=trodVars_none hV
 have hA:DataW.TrodAll enc Try.prog W 0 (fun _=>true) true Try.f3.params.toList args.toList ds p:=hA0
 rw [Try.params3]at hA hval
 obtain⟨v0,vs0,d0,ds0,p0,q0,hargs,rfl,_,h0,r0⟩:=trodAll_cons hA
 obtain⟨v1,vs1,d1,ds1,p1,q1,rfl,rfl,_,h1,r1⟩:=trodAll_cons r0
 obtain⟨v2,vs2,d2,ds2,p2,q2,rfl,rfl,_,h2,r2⟩:=trodAll_cons r1
 obtain⟨rfl,rfl,_⟩:=trodAll_nil r2
 obtain rfl:args=#[v0,v1,v2]:=by cases args;simp_all
 obtain⟨a0,w0',c0⟩:=Rd.open (fun N=>QpJ N) h0
 have w0:=And.intro w0'.1 (w0'.2 (Sz.all hz (j:=0) (by kernel_rfl) rfl))
 obtain⟨_,_,_,rfl⟩:=okWide_slice Try.underlying22 (hval 0 22 v0 rfl rfl)
 have e0:=(Cl.arg1 rfl c0)
 obtain⟨a1,w1',c1⟩:=Rd.open (fun N=>Qn7 N) h1
 have w1:=And.intro w1'.1 (w1'.2 (Sz.all hz (j:=1) (by kernel_rfl) rfl))
 obtain⟨_,rfl⟩:=Qow (P:=Try.prog) (t:=29) (fs:=[(3,0),(25,1),(27,5),(3,10)]) (tot:=11) (by kernel_rfl) (hval 1 29 v1 rfl rfl)
 have e1:=c1.argS
 obtain⟨a2,w2,c2⟩:=Rd.open (fun N=>QfJ N) h2
 obtain⟨_,rfl⟩:=okWide_int Try.underlying3 (hval 2 3 v2 rfl rfl)
 have e2:=(Cl.arg1 rfl c2)
 refine(Qh.law (us:=[.sl 11 (a0.map Qb),.agg (Qb a1),.i .i64 a2]) (Qjf a0 a1 a2 (hF a0 a1 a2 w0 w1 w2)) (fun g hg=>by rw [show Qm3 Try.prog=none from by kernel_rfl]at hg;cases hg) rfl (fun j x v hx hv=>?_)).mono fun e W2 ⟨he,hb⟩=>?_
 ·match j with
  | 0=>cases hx;cases hv;exact e0
  | 1=>cases hx;cases hv;exact e1
  | 2=>cases hx;cases hv;exact e2
  | j+3=>simp at hx
 subst he
 exact⟨_,rfl,Qox Qpi QoO hW1 rfl hb rfl Try.underlying4 rfl rfl rfl⟩
theorem proved_of (hF:∀(a0:(List Qe)) (a1:Qe) (a2:Int),((okL Qee) a0∧QnB a0)→(Qee a1∧Qll a1)→(okI .i64) a2→Qb6 a0 a1 a2=some true):Rows.ItemsTellSaid:=
 OpenClaim.holds_of_wide 3 Try.f3 rfl rfl rfl rfl rfl rfl rfl ⟨rfl,rfl,rfl,rfl,rfl⟩ rfl rfl rfl rfl rfl (by kernel_rfl) Try.func3 (by kernel_rfl)
  (Qal (by kernel_rfl)) (by unfold Func.isWrapper;first | (rw [if_pos (by decide +kernel)];kernel_rfl) | (rw [if_neg (by decide +kernel)];exact⟨rfl,rfl⟩))
  (fun os started H enc _=>QpK hF os started H enc)
end LawItemsTell
theorem Qn8 {x:Qe}(h:Qll x):Can x:=by
 have e:reachBytes=140737488351232:=by decide
 obtain⟨h1,h2,h3⟩:=h
 unfold Qlk at h1 h2 h3
 unfold Can;omega
theorem proved : Rows.ItemsTellSaid:=LawItemsTell.proved_of fun a0 a1 a2 h0 h1 _=>Qn6 (fun x hx=>Qn8 (h0.2.2 x hx)) (Qn8 h1.2)

end Go.Proofs.Ytbcmaoldnhphlaa
