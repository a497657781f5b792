/- ItemsKeep, as it is given: of any row of items, any item and any two numbers it answers true, with no condition but what its row asks of all calls. -/
import Derived.Test.YtbcmaoldnhphlaaO5P1
import Derived.Test.YtbcmaoldnhphlaaO5T1
import Derived.Test.YtbcmaoldnhphlaaO5V3
import Derived.Test.YtbcmaoldnhphlaaRows
import Derived.WalkKit
import Derived.ProofKit
import Derived.OpenShut
set_option linter.unusedVariables false
set_option linter.unusedSimpArgs false
set_option linter.unusedSectionVars false
set_option linter.deprecated false
noncomputable section
namespace Go.Proofs.Ytbcmaoldnhphlaa
open Go Go.RowKit Go.Vm Go.ChangeShapes Go.WideShapes Go.ChangeAt
theorem QdY {H:Type}{enc:TypeId×Value→H}{w:World}(N:Nat):Rd enc Try.prog w N 3 Qo (fun x _=>(okI .i64) x):=(Rd.int (by kernel_rfl)).map id (fun _=>rfl) fun _ _ h=>Qm5 h
theorem Qlw {H:Type}{enc:TypeId×Value→H}{w:World}(N:Nat):Rd enc Try.prog w N 23 QlR (fun x _=>(okL (okI .i64)) x):=(Rd.slice (e:=3) (z:=1) (by kernel_rfl) (by kernel_rfl) (by decide) (fun x=>Qi6 rfl) (QdY N)).map id (fun _=>rfl) fun _ _ h=>QlP h
def QiQ (x:QaF):Prop:=(okI .i64) x.Task∧(okL (okI .i64)) x.Vars∧(okL (okI .i64)) x.Ins∧(okL (okI .i64)) x.Outs
theorem Qnw {H:Type}{enc:TypeId×Value→H}{w:World}(N:Nat):Rd enc Try.prog w N 25 Qaw (fun x _=>QiQ x):=by
 have h0:=(Rd.struct (fs:=[(3,0),(23,1),(23,2),(23,3)]) (tot:=4) (N:=N) (t:=25) (P:=Try.prog) (w:=w) (enc:=enc) (by kernel_rfl) (RdF.cons 3 0 1 (by kernel_rfl) (QdY N) (RdF.cons 23 1 1 (by kernel_rfl) (Qlw N) (RdF.cons 23 2 1 (by kernel_rfl) (Qlw N) (RdF.cons 23 3 1 (by kernel_rfl) (Qlw N) RdF.nil)))))
 exact(h0.map (fun x=>⟨x.1,x.2.1,x.2.2.1,x.2.2.2.1⟩) (fun _=>rfl) (fun x d h=>by obtain⟨_,rfl,h⟩:=h;obtain⟨_,_,rfl,a0,h⟩:=h;obtain⟨_,_,rfl,a1,h⟩:=h;obtain⟨_,_,rfl,a2,h⟩:=h;obtain⟨_,_,rfl,a3,h⟩:=h;exact⟨a0,a1,a2,a3⟩)).mono (Nat.le_succ N)
def QjR (x:Q5):Prop:=(okI .i64) x.Most∧(okI .i64) x.Enough∧(okI .i64) x.Open∧(okI .i64) x.Done∧(okI .i64) x.Failed
theorem QmG {H:Type}{enc:TypeId×Value→H}{w:World}(N:Nat):Rd enc Try.prog w N 27 Qaf (fun x _=>QjR x):=by
 have h0:=(Rd.struct (fs:=[(3,0),(3,1),(3,2),(3,3),(3,4)]) (tot:=5) (N:=N) (t:=27) (P:=Try.prog) (w:=w) (enc:=enc) (by kernel_rfl) (RdF.cons 3 0 1 (by kernel_rfl) (QdY N) (RdF.cons 3 1 1 (by kernel_rfl) (QdY N) (RdF.cons 3 2 1 (by kernel_rfl) (QdY N) (RdF.cons 3 3 1 (by kernel_rfl) (QdY N) (RdF.cons 3 4 1 (by kernel_rfl) (QdY N) RdF.nil))))))
 exact(h0.map (fun x=>⟨x.1,x.2.1,x.2.2.1,x.2.2.2.1,x.2.2.2.2.1⟩) (fun _=>rfl) (fun x d h=>by obtain⟨_,rfl,h⟩:=h;obtain⟨_,_,rfl,a0,h⟩:=h;obtain⟨_,_,rfl,a1,h⟩:=h;obtain⟨_,_,rfl,a2,h⟩:=h;obtain⟨_,_,rfl,a3,h⟩:=h;obtain⟨_,_,rfl,a4,h⟩:=h;exact⟨a0,a1,a2,a3,a4⟩)).mono (Nat.le_succ N)
def Qdi (x:Qi):Prop:=(okI .i64) x.Id∧QiQ x.Mode∧QjR x.Batch∧(okI .i64) x.Until
theorem Qnx {H:Type}{enc:TypeId×Value→H}{w:World}(N:Nat):Rd enc Try.prog w N 29 Qc (fun x _=>Qdi x):=by
 have h0:=(Rd.struct (fs:=[(3,0),(25,1),(27,5),(3,10)]) (tot:=11) (N:=N) (t:=29) (P:=Try.prog) (w:=w) (enc:=enc) (by kernel_rfl) (RdF.cons 3 0 1 (by kernel_rfl) (QdY N) (RdF.cons 25 1 4 (by kernel_rfl) (Qnw N) (RdF.cons 27 5 5 (by kernel_rfl) (QmG N) (RdF.cons 3 10 1 (by kernel_rfl) (QdY N) RdF.nil)))))
 exact(h0.map (fun x=>⟨x.1,x.2.1,x.2.2.1,x.2.2.2.1⟩) (fun _=>rfl) (fun x d h=>by obtain⟨_,rfl,h⟩:=h;obtain⟨_,_,rfl,a0,h⟩:=h;obtain⟨_,_,rfl,a1,h⟩:=h;obtain⟨_,_,rfl,a2,h⟩:=h;obtain⟨_,_,rfl,a3,h⟩:=h;exact⟨a0,a1,a2,a3⟩)).mono (Nat.le_succ N)
theorem QnK {H:Type}{enc:TypeId×Value→H}{w:World}(N:Nat):Rd enc Try.prog w N 22 Qi9 (fun x _=>(okL Qdi) x):=(Rd.slice (e:=29) (z:=11) (by kernel_rfl) (by kernel_rfl) (by decide) (fun x=>Qi6 rfl) (Qnx N)).map id (fun _=>rfl) fun _ _ h=>QlP h
def Qji (x:(List Int)):Prop:=x.length*8≤reachBytes
theorem QkG {H:Type}{enc:TypeId×Value→H}{w:World}(N:Nat):Rd enc Try.prog w N 23 QlR (fun x d=>(okL (okI .i64)) x∧(Sz Try.prog 23 d→Qji x)):=(Rd.slice (e:=3) (z:=1) (by kernel_rfl) (by kernel_rfl) (by decide) (fun x=>Qi6 rfl) (QdY N)).map id (fun _=>rfl) fun _ _ h=>QnD (t:=23) (e:=3) (b:=8) (by kernel_rfl) (by kernel_rfl) h
def QmH (x:QaF):Prop:=Qji x.Vars∧Qji x.Ins∧Qji x.Outs
theorem Qnh {H:Type}{enc:TypeId×Value→H}{w:World}(N:Nat):Rd enc Try.prog w N 25 Qaw (fun x d=>QiQ x∧(Sz Try.prog 25 d→QmH x)):=by
 have h0:=(Rd.struct (fs:=[(3,0),(23,1),(23,2),(23,3)]) (tot:=4) (N:=N) (t:=25) (P:=Try.prog) (w:=w) (enc:=enc) (by kernel_rfl) (RdF.cons 3 0 1 (by kernel_rfl) (QdY N) (RdF.cons 23 1 1 (by kernel_rfl) (QkG N) (RdF.cons 23 2 1 (by kernel_rfl) (QkG N) (RdF.cons 23 3 1 (by kernel_rfl) (QkG N) RdF.nil)))))
 exact(h0.map (fun x=>⟨x.1,x.2.1,x.2.2.1,x.2.2.2.1⟩) (fun _=>rfl) (fun x d h=>by obtain⟨_,rfl,h⟩:=h;obtain⟨_,_,rfl,a0,h⟩:=h;obtain⟨_,_,rfl,a1,h⟩:=h;obtain⟨_,_,rfl,a2,h⟩:=h;obtain⟨_,_,rfl,a3,h⟩:=h;exact⟨⟨a0,a1.1,a2.1,a3.1⟩,fun hz=>⟨a1.2 (Sz.field Try.underlying25 hz (j:=1) rfl rfl),a2.2 (Sz.field Try.underlying25 hz (j:=2) rfl rfl),a3.2 (Sz.field Try.underlying25 hz (j:=3) rfl rfl)⟩⟩)).mono (Nat.le_succ N)
def Qjj (x:Qi):Prop:=QmH x.Mode
theorem QlW {H:Type}{enc:TypeId×Value→H}{w:World}(N:Nat):Rd enc Try.prog w N 29 Qc (fun x d=>Qdi x∧(Sz Try.prog 29 d→Qjj x)):=by
 have h0:=(Rd.struct (fs:=[(3,0),(25,1),(27,5),(3,10)]) (tot:=11) (N:=N) (t:=29) (P:=Try.prog) (w:=w) (enc:=enc) (by kernel_rfl) (RdF.cons 3 0 1 (by kernel_rfl) (QdY N) (RdF.cons 25 1 4 (by kernel_rfl) (Qnh N) (RdF.cons 27 5 5 (by kernel_rfl) (QmG N) (RdF.cons 3 10 1 (by kernel_rfl) (QdY N) RdF.nil)))))
 exact(h0.map (fun x=>⟨x.1,x.2.1,x.2.2.1,x.2.2.2.1⟩) (fun _=>rfl) (fun x d h=>by obtain⟨_,rfl,h⟩:=h;obtain⟨_,_,rfl,a0,h⟩:=h;obtain⟨_,_,rfl,a1,h⟩:=h;obtain⟨_,_,rfl,a2,h⟩:=h;obtain⟨_,_,rfl,a3,h⟩:=h;exact⟨⟨a0,a1.1,a2,a3⟩,fun hz=>a1.2 (Sz.field Try.underlying29 hz (j:=1) rfl rfl)⟩)).mono (Nat.le_succ N)
def Qlx (x:(List Qi)):Prop:=x.length*136≤reachBytes∧∀y∈x,Qjj y
theorem Qni {H:Type}{enc:TypeId×Value→H}{w:World}(N:Nat):Rd enc Try.prog w N 22 Qi9 (fun x d=>(okL Qdi) x∧(Sz Try.prog 22 d→Qlx x)):=(Rd.slice (e:=29) (z:=11) (by kernel_rfl) (by kernel_rfl) (by decide) (fun x=>Qi6 rfl) (QlW N)).map id (fun _=>rfl) fun _ _ h=>QnE (t:=22) (e:=29) (b:=136) (by kernel_rfl) (by kernel_rfl) h
namespace LawItemsKeep
theorem own : ownKnob Try.prog.godebug=none:=by kernel_rfl
theorem QmV : laidOutB Try.prog=true:=by kernel_rfl
theorem QmD : ∀t∈Try.f6.params.toList,Try.prog.readableRec t=true∧t<Try.prog.types.size:=by
 have h:(Try.f6.params.toList.all fun t=>Try.prog.readableRec t&&decide (t<Try.prog.types.size))=true:=by kernel_rfl
 intro t ht
 have:=QG.1 h t ht
 rw [Qr,QdP]at this
 exact this
set_option maxRecDepth 100000 in
theorem Qnj (hF:∀(a0:(List Qi)) (a1:Qi) (a2:Int) (a3:Int),((okL Qdi) a0∧Qlx a0)→(Qdi a1∧Qjj a1)→(okI .i64) a2→(okI .i64) a3→Qbs a0 a1 a2 a3=some true)(os:Os)(started:os.Started)(H:Type)(enc:TypeId×Value→H):
  ReturnsInHanded {} Try.checked os 6 .any (Rows.itemsKeepSpec.pre6 enc Try.prog Try.f6 Rows.itemsKeepRow.domain false) (Rows.itemsKeepSpec.post enc Try.prog Try.f6 false true false false):=by
 refine Qky (C:=Try.checked) own started (by kernel_rfl) Try.func6
  (ChangeSpec.witness6 (enc:=enc) (C:=Try.checked) false ⟨#[],#[.slice none 0 0,.agg #[.int .i64 0,.int .i64 0,.slice none 0 0,.slice none 0 0,.slice none 0 0,.int .i64 0,.int .i64 0,.int .i64 0,.int .i64 0,.int .i64 0,.int .i64 0],.int .i64 0,.int .i64 0],[]⟩ 8 (by kernel_rfl) (by kernel_rfl) (by kernel_rfl) (by kernel_rfl)) ?_
 intro W base args ds gs before hval0 hW hcnd hz _
 have hval:∀(j:Nat) t v,Try.f6.params[j]? = some t→args[j]? = some v→Value.okWide Try.prog W .any base t v:=hval0
 have hW1:=hW
 obtain⟨p,q,hA0,hV,_,_,_⟩:=hW
 obtain⟨rfl,_⟩:=trodVars_none hV
 have hA:DataW.TrodAll enc Try.prog W 0 (fun _=>true) true Try.f6.params.toList args.toList ds p:=hA0
 rw [Try.params6]at hA hval
 obtain⟨v0,vs0,d0,ds0,p0,q0,hargs,rfl,_,h0,r0⟩:=trodAll_cons hA
 obtain⟨v1,vs1,d1,ds1,p1,q1,rfl,rfl,_,h1,r1⟩:=trodAll_cons r0
 obtain⟨v2,vs2,d2,ds2,p2,q2,rfl,rfl,_,h2,r2⟩:=trodAll_cons r1
 obtain⟨v3,vs3,d3,ds3,p3,q3,rfl,rfl,_,h3,r3⟩:=trodAll_cons r2
 obtain⟨rfl,rfl,_⟩:=trodAll_nil r3
 obtain rfl:args=#[v0,v1,v2,v3]:=by cases args;simp_all
 obtain⟨a0,w0',c0⟩:=Rd.open (fun N=>Qni N) h0
 have w0:=And.intro w0'.1 (w0'.2 (Sz.all hz (j:=0) (by kernel_rfl) rfl))
 obtain⟨_,_,_,rfl⟩:=okWide_slice Try.underlying22 (hval 0 22 v0 rfl rfl)
 have e0:=(Cl.arg1 rfl c0)
 obtain⟨a1,w1',c1⟩:=Rd.open (fun N=>QlW N) h1
 have w1:=And.intro w1'.1 (w1'.2 (Sz.all hz (j:=1) (by kernel_rfl) rfl))
 obtain⟨_,rfl⟩:=Qml (P:=Try.prog) (t:=29) (fs:=[(3,0),(25,1),(27,5),(3,10)]) (tot:=11) (by kernel_rfl) (hval 1 29 v1 rfl rfl)
 have e1:=c1.argS
 obtain⟨a2,w2,c2⟩:=Rd.open (fun N=>QdY N) h2
 obtain⟨_,rfl⟩:=okWide_int Try.underlying3 (hval 2 3 v2 rfl rfl)
 have e2:=(Cl.arg1 rfl c2)
 obtain⟨a3,w3,c3⟩:=Rd.open (fun N=>QdY N) h3
 obtain⟨_,rfl⟩:=okWide_int Try.underlying3 (hval 3 3 v3 rfl rfl)
 have e3:=(Cl.arg1 rfl c3)
 refine(Qh.law (us:=[.sl 11 (a0.map Qc),.agg (Qc a1),.i .i64 a2,.i .i64 a3]) (QhA a0 a1 a2 a3 (hF a0 a1 a2 a3 w0 w1 w2 w3)) (fun g hg=>by rw [show QkZ Try.prog=none from by kernel_rfl]at hg;cases hg) rfl (fun j x v hx hv=>?_)).mono fun e W2 ⟨he,hb⟩=>?_
 ·match j with
  | 0=>cases hx;cases hv;exact e0
  | 1=>cases hx;cases hv;exact e1
  | 2=>cases hx;cases hv;exact e2
  | 3=>cases hx;cases hv;exact e3
  | j+4=>simp at hx
 subst he
 exact⟨_,rfl,Qmm QmV QmD hW1 rfl hb rfl Try.underlying4 rfl rfl rfl⟩
theorem proved_of (hF:∀(a0:(List Qi)) (a1:Qi) (a2:Int) (a3:Int),((okL Qdi) a0∧Qlx a0)→(Qdi a1∧Qjj a1)→(okI .i64) a2→(okI .i64) a3→Qbs a0 a1 a2 a3=some true):Rows.ItemsKeepSaid:=
 OpenClaim.holds_of_wide 6 Try.f6 rfl rfl rfl rfl rfl rfl rfl ⟨rfl,rfl,rfl,rfl,rfl⟩ rfl rfl rfl rfl rfl (by kernel_rfl) Try.func6 (by kernel_rfl)
  (Qa3 (by kernel_rfl)) (by unfold Func.isWrapper;first | (rw [if_pos (by decide +kernel)];kernel_rfl) | (rw [if_neg (by decide +kernel)];exact⟨rfl,rfl⟩))
  (fun os started H enc _=>Qnj hF os started H enc)
end LawItemsKeep
theorem QlX {x:Qi}(h:Qjj x):Can x:=by
 have e:reachBytes=140737488351232:=by decide
 obtain⟨h1,h2,h3⟩:=h
 unfold Qji at h1 h2 h3
 unfold Can;omega
theorem proved : Rows.ItemsKeepSaid:=LawItemsKeep.proved_of fun a0 a1 a2 a3 h0 h1 _ _=>QlV (fun x hx=>QlX (h0.2.2 x hx)) (QlX h1.2)

end Go.Proofs.Ytbcmaoldnhphlaa
