/- A part of the proof. -/
import Derived.Test.YtkocdcoeinjdbaaGreatDoorK1J1EngineKeeps
import Derived.Test.YtkocdcoeinjdbaaGreatDoorK1J2EngineKeeps
import Derived.Test.YtkocdcoeinjdbaaGreatDoorK1J3EngineKeeps
import Derived.Test.YtkocdcoeinjdbaaGreatDoorK1J4EngineKeeps
import Derived.Test.YtkocdcoeinjdbaaGreatDoorK1J5EngineKeeps
set_option linter.all false
noncomputable section
namespace Go.Proofs.YtkocdcoeinjdbaaGreatDoor
open Go Go.RowKit Go.Vm Go.ChangeShapes Go.WideShapes Go.ChangeAt
namespace LawEngineKeeps
theorem jz : joinedFacts jP 4 Tryz.f4 jS jR=true:=by
 unfold joinedFacts
 exact(bA (bA (bA (bA (bA (bA (bA (bA (bA (bA (bA (bA (bA (bA (bA (bA (bA (bA (bA (bA (bA (bA (bA (bA (bA (bA (bA (bA (bA (bA (bA ja jb) jc) (by kernel_rfl)) jd) (by kernel_rfl)) (by kernel_rfl)) (by kernel_rfl)) (by kernel_rfl)) je) jf) jg) jh) (by kernel_rfl)) (by kernel_rfl)) (by kernel_rfl)) (by kernel_rfl)) (by kernel_rfl)) (by kernel_rfl)) (by kernel_rfl)) (by kernel_rfl)) (by kernel_rfl)) ji) (by kernel_rfl)) jj) jk) jl) jm) (by kernel_rfl)) jn) (by kernel_rfl)) (by kernel_rfl))
theorem proved_of (hF:∀(a0:Ql) (a1:(L_ Xy)),(Zm a0/\Qhr a0)->((De NZ) a1/\QjF a1)->Dk a0 a1=some true):Rows.EngineKeepsSaid:=
 OpenClaim.holds_of_wide 4 Tryz.f4 rfl rfl rfl rfl rfl rfl rfl ⟨rfl,rfl,rfl,rfl,rfl⟩ rfl rfl rfl rfl rfl (by kernel_rfl) Tryz.func4 jz
  (XB (by kernel_rfl)) (by unfold Func.isWrapper;first | (rw[if_pos (by decide +kernel)];kernel_rfl) | (rw[if_neg (by decide +kernel)];exact⟨rfl,rfl⟩))
  (λos started H enc _=>lifted hF os started H enc)
theorem card_of (hs:Rows.EngineKeepsSaid):Rows.EngineKeepsCardSaid:=
 Claim7.holds_tied_plain_at .later [] [.listed,.data] true (true, "1c1753074b2f12c08a2d8ed8b2bff1cdf48a3d6795104cecfb8d57c717a493a6") true
  hs (λ_ h=>by cases h) (by kernel_rfl) (λ_ h=>by cases h) engineKeeps_row_tie rfl ⟨rfl,rfl⟩ (by kernel_rfl) rfl
  (λf fn hf hfn=>by
   obtain rfl:f=4:=Option.some.inj ((show Tryz.prog.funcNamed "baldric/baldriclaw24.EngineKeeps" = some 4 by kernel_rfl).symm.trans hf) |>.symm
   obtain rfl:fn=Tryz.f4:=(Option.some.inj (Tryz.func4.symm.trans hfn)).symm
   exact⟨jo,λj t ht=>by
    rw[Tryz.params4]at ht
    have hm:t∈[26,27]:=by simpa using Array.mem_of_getElem? ht
    have hall:([26,27].all λu=>!Tryz.prog.wantsStandIn u)=true:=by kernel_rfl
    exact(show Tryz.prog.wantsStandIn t=false by simpa using XD.1 hall t hm)⟩)
  jp
end LawEngineKeeps
theorem kE {e:Qv}(h:LE e):Wt e:=by
 induction h with
 | mk x _ _ h1 _ ih=>exact .mk x h1 ih
theorem kL {α:Type}{p q:α->Prop}(f:∀x,p x->q x){l:L_ α}(h:De p l):Xf q l:=⟨h.1,λx hx=>f x (h.2 x hx)⟩
theorem kA {a:Yd}(h:PY a):FL a:=⟨trivial,kE h.2⟩
theorem Qok {n:Ql}(h:Zm n):Xp n:=
 ⟨kL (λc hc=>⟨hc.1,trivial,trivial,trivial,kL (λs hs=>hs) hc.2.2.2.2.1,trivial,trivial⟩) h.1,kL (λp hp=>⟨hp.1,trivial,kL (λ_ _=>trivial) hp.2.2⟩) h.2.1,
  kL (λt ht=>⟨ht.1,kL (λv hv=>⟨hv.1,trivial⟩) ht.2.1,kE ht.2.2.1,trivial,trivial,kL (λ_ h=>kA h) ht.2.2.2.2.2.1,kL (λ_ h=>kA h) ht.2.2.2.2.2.2.1,kL (λ_ _=>trivial) ht.2.2.2.2.2.2.2.1,trivial,trivial⟩) h.2.2.1,trivial,trivial⟩
theorem Qol {n:Ql}(h:Qhr n):Qhp n:=⟨h.2.1.1,λp hp=>h.2.1.2 p hp⟩
theorem proved : Rows.EngineKeepsCardSaid:=LawEngineKeeps.card_of (LawEngineKeeps.proved_of λa0 a1 h0 h1=>QiF a0 a1 (Qok h0.1) (Qol h0.2) h1.1.1)

end Go.Proofs.YtkocdcoeinjdbaaGreatDoor
