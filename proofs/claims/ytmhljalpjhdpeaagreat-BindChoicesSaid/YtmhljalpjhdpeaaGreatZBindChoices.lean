/- BindChoices, as it is given: of any numbers it answers true, with no condition but what its row asks of all calls. -/
import Derived.Test.YtmhljalpjhdpeaaGreatBdC
import Derived.Test.YtmhljalpjhdpeaaGreatT2
import Derived.Test.YtmhljalpjhdpeaaGreatXVmU
import Derived.Test.YtmhljalpjhdpeaaGreatRows
import Derived.WalkKit
import Derived.ProofKit
import Derived.OpenShut
set_option linter.unusedVariables false
set_option linter.unusedSimpArgs false
set_option linter.unusedSectionVars false
set_option linter.deprecated false
noncomputable section
namespace Go.Proofs.YtmhljalpjhdpeaaGreat
open Go Go.RowKit Go.Vm Go.ChangeShapes Go.WideShapes Go.ChangeAt
theorem rd_3 {H : Type} {enc : TypeId × Value → H} {w : World} (N : Nat) : Rd enc Tryz.prog w N 3 row_I (fun x _ => (okI .i64) x) := (Rd.int (by kernel_rfl)).map id (fun _ => rfl) fun _ _ h => okI_of h
namespace LawBindChoices
theorem own : ownKnob Tryz.prog.godebug = none := by kernel_rfl
theorem laidOut : laidOutB Tryz.prog = true := by kernel_rfl
theorem readable : ∀ t ∈ Tryz.f3.params.toList, Tryz.prog.readableRec t = true ∧ t < Tryz.prog.types.size := by
  have h : (Tryz.f3.params.toList.all fun t => Tryz.prog.readableRec t && decide (t < Tryz.prog.types.size)) = true := by kernel_rfl
  intro t ht
  have := List.all_eq_true.1 h t ht
  rw [Bool.and_eq_true, decide_eq_true_eq] at this
  exact this
set_option maxRecDepth 100000 in
theorem lifted (hF : ∀ (a0 : Int) (a1 : Int), (okI .i64) a0 → (okI .i64) a1 → F_law10_BindChoices a0 a1 = some true) (os : Os) (started : os.Started) (H : Type) (enc : TypeId × Value → H) :
    ReturnsInHanded {} Tryz.checked os 3 .any (Rows.bindChoicesSpec.pre6 enc Tryz.prog Tryz.f3 Rows.bindChoicesRow.domain false) (Rows.bindChoicesSpec.post enc Tryz.prog Tryz.f3 false true false false) := by
  refine returnsInHanded_of_change (C := Tryz.checked) own started (by kernel_rfl) Tryz.func3
    (ChangeSpec.witness6 (enc := enc) (C := Tryz.checked) false ⟨#[], #[.int .i64 0, .int .i64 0], []⟩ 8 (by kernel_rfl) (by kernel_rfl) (by kernel_rfl) (by kernel_rfl)) ?_
  intro W base args ds gs before hval0 hW hcnd _
  have hval : ∀ (j : Nat) t v, Tryz.f3.params[j]? = some t → args[j]? = some v → Value.okWide Tryz.prog W .any base t v := hval0
  have hW1 := hW
  obtain ⟨p, q, hA0, hV, _, _, _⟩ := hW
  obtain ⟨rfl, _⟩ := trodVars_none hV
  have hA : DataW.TrodAll enc Tryz.prog W 0 (fun _ => true) true Tryz.f3.params.toList args.toList ds p := hA0
  rw [Tryz.params3] at hA hval
  obtain ⟨v0, vs0, d0, ds0, p0, q0, hargs, rfl, _, h0, r0⟩ := trodAll_cons hA
  obtain ⟨v1, vs1, d1, ds1, p1, q1, rfl, rfl, _, h1, r1⟩ := trodAll_cons r0
  obtain ⟨rfl, rfl, _⟩ := trodAll_nil r1
  obtain rfl : args = #[v0, v1] := by cases args; simp_all
  obtain ⟨a0, w0, c0⟩ := Rd.open (fun N => rd_3 N) h0
  obtain ⟨_, rfl⟩ := okWide_int Tryz.underlying3 (hval 0 3 v0 rfl rfl)
  have e0 := (Cl.arg1 rfl c0)
  obtain ⟨a1, w1, c1⟩ := Rd.open (fun N => rd_3 N) h1
  obtain ⟨_, rfl⟩ := okWide_int Tryz.underlying3 (hval 1 3 v1 rfl rfl)
  have e1 := (Cl.arg1 rfl c1)
  refine (ACalls.law (us := [.i .i64 a0, .i .i64 a1]) (F_law10_BindChoices_ok a0 a1 (hF a0 a1 w0 w1)) rfl (fun j x v hx hv => ?_)).mono fun e W2 ⟨he, hb⟩ => ?_
  · match j with
    | 0 => cases hx; cases hv; exact e0
    | 1 => cases hx; cases hv; exact e1
    | j + 2 => simp at hx
  · subst he
    exact ⟨_, rfl, law_post laidOut readable hW1 rfl hb rfl Tryz.underlying4 rfl rfl rfl⟩
theorem proved_of (hF : ∀ (a0 : Int) (a1 : Int), (okI .i64) a0 → (okI .i64) a1 → F_law10_BindChoices a0 a1 = some true) : Rows.BindChoicesSaid :=
  OpenClaim.holds_of_wide 3 Tryz.f3 rfl rfl rfl rfl rfl rfl rfl ⟨rfl, rfl, rfl, rfl, rfl⟩ rfl rfl rfl rfl rfl (by kernel_rfl) Tryz.func3 (by kernel_rfl)
    (of_decide_eq_true (by kernel_rfl)) (by unfold Func.isWrapper; first | (rw [if_pos (by decide +kernel)]; kernel_rfl) | (rw [if_neg (by decide +kernel)]; exact ⟨rfl, rfl⟩))
    (fun os started H enc _ => lifted hF os started H enc)
end LawBindChoices
theorem proved : Rows.BindChoicesSaid := LawBindChoices.proved_of fun a0 a1 _ _ => choices_true a0 a1
end Go.Proofs.YtmhljalpjhdpeaaGreat
