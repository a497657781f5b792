/- ItemsReads, as it is given: of any row of bytes it answers true, with no condition but what its row asks of all calls. -/
import Derived.Test.YtbcmaoldnhphlaaO3P1
import Derived.Test.YtbcmaoldnhphlaaO3T1
import Derived.Test.YtbcmaoldnhphlaaO3V3
import Derived.Test.YtbcmaoldnhphlaaRows
import Derived.WalkKit
import Derived.ProofKit
import Derived.OpenShut
set_option linter.unusedVariables false
set_option linter.unusedSimpArgs false
set_option linter.unusedSectionVars false
set_option linter.deprecated false
noncomputable section
namespace Go.Proofs.Ytbcmaoldnhphlaa
open Go Go.RowKit Go.Vm Go.ChangeShapes Go.WideShapes Go.ChangeAt
theorem QoG {H:Type}{enc:TypeId×Value→H}{w:World}(N:Nat):Rd enc Try.prog w N 5 Qp (fun x _=>(okI .u8) x):=(Rd.int (by kernel_rfl)).map id (fun _=>rfl) fun _ _ h=>Qoo h
theorem Qo7 {H:Type}{enc:TypeId×Value→H}{w:World}(N:Nat):Rd enc Try.prog w N 47 Qlx (fun x _=>(okL (okI .u8)) x):=(Rd.slice (e:=5) (z:=1) (by kernel_rfl) (by kernel_rfl) (by decide) (fun x=>Qm4 rfl) (QoG N)).map id (fun _=>rfl) fun _ _ h=>Qop h
def QmM (x:(List Int)):Prop:=x.length*1≤reachBytes
theorem QoH {H:Type}{enc:TypeId×Value→H}{w:World}(N:Nat):Rd enc Try.prog w N 47 Qlx (fun x d=>(okL (okI .u8)) x∧(Sz Try.prog 47 d→QmM x)):=(Rd.slice (e:=5) (z:=1) (by kernel_rfl) (by kernel_rfl) (by decide) (fun x=>Qm4 rfl) (QoG N)).map id (fun _=>rfl) fun _ _ h=>QoZ (t:=47) (e:=5) (b:=1) (by kernel_rfl) (by kernel_rfl) h
namespace LawItemsReads
theorem own : ownKnob Try.prog.godebug=none:=by kernel_rfl
theorem Qod : laidOutB Try.prog=true:=by kernel_rfl
theorem QnS : ∀t∈Try.f5.params.toList,Try.prog.readableRec t=true∧t<Try.prog.types.size:=by
 have h:(Try.f5.params.toList.all fun t=>Try.prog.readableRec t&&decide (t<Try.prog.types.size))=true:=by kernel_rfl
 intro t ht
 have:=QQ.1 h t ht
 rw [Qx,Qfw]at this
 exact this
set_option maxRecDepth 100000 in
theorem QoI (hF:∀(a0:(List Int)),((okL (okI .u8)) a0∧QmM a0)→QbN a0=some true)(os:Os)(started:os.Started)(H:Type)(enc:TypeId×Value→H):
  ReturnsInHanded {} Try.checked os 5 .any (Rows.itemsReadsSpec.pre6 enc Try.prog Try.f5 Rows.itemsReadsRow.domain false) (Rows.itemsReadsSpec.post enc Try.prog Try.f5 false true false false):=by
 refine Qlv (C:=Try.checked) own started (by kernel_rfl) Try.func5
  (ChangeSpec.witness6 (enc:=enc) (C:=Try.checked) false ⟨#[],#[.slice none 0 0],[]⟩ 8 (by kernel_rfl) (by kernel_rfl) (by kernel_rfl) (by kernel_rfl)) ?_
 intro W base args ds gs before hval0 hW hcnd hz _
 have hval:∀(j:Nat) t v,Try.f5.params[j]? = some t→args[j]? = some v→Value.okWide Try.prog W .any base t v:=hval0
 have hW1:=hW
 obtain⟨p,q,hA0,hV,_,_,_⟩:=hW
 obtain⟨rfl,_⟩:=trodVars_none hV
 have hA:DataW.TrodAll enc Try.prog W 0 (fun _=>true) true Try.f5.params.toList args.toList ds p:=hA0
 rw [Try.params5]at hA hval
 obtain⟨v0,vs0,d0,ds0,p0,q0,hargs,rfl,_,h0,r0⟩:=trodAll_cons hA
 obtain⟨rfl,rfl,_⟩:=trodAll_nil r0
 obtain rfl:args=#[v0]:=by cases args;simp_all
 obtain⟨a0,w0',c0⟩:=Rd.open (fun N=>QoH N) h0
 have w0:=And.intro w0'.1 (w0'.2 (Sz.all hz (j:=0) (by kernel_rfl) rfl))
 obtain⟨_,_,_,rfl⟩:=okWide_slice Try.underlying47 (hval 0 47 v0 rfl rfl)
 have e0:=(Cl.arg1 rfl c0)
 refine(Qh.law (us:=[.sl 1 (a0.map Qp)]) (QhT a0 (hF a0 w0)) (fun g hg=>by rw [show Ql9 Try.prog=none from by kernel_rfl]at hg;cases hg) rfl (fun j x v hx hv=>?_)).mono fun e W2 ⟨he,hb⟩=>?_
 ·match j with
  | 0=>cases hx;cases hv;exact e0
  | j+1=>simp at hx
 subst he
 exact⟨_,rfl,QnC Qod QnS hW1 rfl hb rfl Try.underlying4 rfl rfl rfl⟩
theorem proved_of (hF:∀(a0:(List Int)),((okL (okI .u8)) a0∧QmM a0)→QbN a0=some true):Rows.ItemsReadsSaid:=
 OpenClaim.holds_of_wide 5 Try.f5 rfl rfl rfl rfl rfl rfl rfl ⟨rfl,rfl,rfl,rfl,rfl⟩ rfl rfl rfl rfl rfl (by kernel_rfl) Try.func5 (by kernel_rfl)
  (QbO (by kernel_rfl)) (by unfold Func.isWrapper;first | (rw [if_pos (by decide +kernel)];kernel_rfl) | (rw [if_neg (by decide +kernel)];exact⟨rfl,rfl⟩))
  (fun os started H enc _=>QoI hF os started H enc)
end LawItemsReads
theorem Qoe {n:Int}(h:okI .u8 n):QaV n:=by
 have h1:(0:Int)≤n:=h.1
 have h2:n≤255:=h.2
 unfold QaV;omega
theorem proved : Rows.ItemsReadsSaid:=LawItemsReads.proved_of fun a0 h0=>QmL fun e he=>Qoe (h0.1.2 e he)

end Go.Proofs.Ytbcmaoldnhphlaa
