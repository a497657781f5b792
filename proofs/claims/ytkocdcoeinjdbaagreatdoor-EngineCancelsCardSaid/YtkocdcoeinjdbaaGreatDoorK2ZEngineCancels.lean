/- A part of the proof. -/
import Derived.Test.YtkocdcoeinjdbaaGreatDoorK2J1EngineCancels
import Derived.Test.YtkocdcoeinjdbaaGreatDoorK2J2EngineCancels
import Derived.Test.YtkocdcoeinjdbaaGreatDoorK2J3EngineCancels
import Derived.Test.YtkocdcoeinjdbaaGreatDoorK2J4EngineCancels
import Derived.Test.YtkocdcoeinjdbaaGreatDoorK2J5EngineCancels
set_option linter.all false
noncomputable section
namespace Go.Proofs.YtkocdcoeinjdbaaGreatDoor
open Go Go.RowKit Go.Vm Go.ChangeShapes Go.WideShapes Go.ChangeAt
namespace LawEngineCancels
theorem jz : joinedFacts jP 6 Tryz.f6 jS jR=true:=by
 unfold joinedFacts
 exact(bA (bA (bA (bA (bA (bA (bA (bA (bA (bA (bA (bA (bA (bA (bA (bA (bA (bA (bA (bA (bA (bA (bA (bA (bA (bA (bA (bA (bA (bA (bA ja jb) jc) (by kernel_rfl)) jd) (by kernel_rfl)) (by kernel_rfl)) (by kernel_rfl)) (by kernel_rfl)) je) jf) jg) jh) (by kernel_rfl)) (by kernel_rfl)) (by kernel_rfl)) (by kernel_rfl)) (by kernel_rfl)) (by kernel_rfl)) (by kernel_rfl)) (by kernel_rfl)) (by kernel_rfl)) ji) (by kernel_rfl)) jj) jk) jl) jm) (by kernel_rfl)) jn) (by kernel_rfl)) (by kernel_rfl))
theorem proved_of (hF:∀(a0:Ql) (a1:(L_ Xt)),(ok_TNet a0/\sz_26 a0)->((YW Ow) a1/\QjE a1)->WR a0 a1=some true):Rows.EngineCancelsSaid:=
 OpenClaim.holds_of_wide 6 Tryz.f6 rfl rfl rfl rfl rfl rfl rfl ⟨rfl,rfl,rfl,rfl,rfl⟩ rfl rfl rfl rfl rfl (by kernel_rfl) Tryz.func6 jz
  (XC (by kernel_rfl)) (by unfold Func.isWrapper;first | (rw[if_pos (by decide +kernel)];kernel_rfl) | (rw[if_neg (by decide +kernel)];exact⟨rfl,rfl⟩))
  (λos started H enc _=>lifted hF os started H enc)
theorem card_of (hs:Rows.EngineCancelsSaid):Rows.EngineCancelsCardSaid:=
 Claim7.holds_tied_plain_at .later [] [.listed,.data] true (true, "1c1753074b2f12c08a2d8ed8b2bff1cdf48a3d6795104cecfb8d57c717a493a6") true
  hs (λ_ h=>by cases h) (by kernel_rfl) (λ_ h=>by cases h) engineCancels_row_tie rfl ⟨rfl,rfl⟩ (by kernel_rfl) rfl
  (λf fn hf hfn=>by
   obtain rfl:f=6:=Option.some.inj ((show Tryz.prog.funcNamed "baldric/baldriclaw24.EngineCancels" = some 6 by kernel_rfl).symm.trans hf) |>.symm
   obtain rfl:fn=Tryz.f6:=(Option.some.inj (Tryz.func6.symm.trans hfn)).symm
   exact⟨jo,λj t ht=>by
    rw[Tryz.params6]at ht
    have hm:t∈[26,27]:=by simpa using Array.mem_of_getElem? ht
    have hall:([26,27].all λu=>!Tryz.prog.wantsStandIn u)=true:=by kernel_rfl
    exact(show Tryz.prog.wantsStandIn t=false by simpa using XE.1 hall t hm)⟩)
  jp
end LawEngineCancels
theorem kE {e:Qv}(h:ok_TExpr e):Wq e:=by
 induction h with
 | mk x _ _ h1 _ ih=>exact .mk x h1 ih
theorem kL {α:Type}{p q:α->Prop}(f:∀x,p x->q x){l:L_ α}(h:YW p l):Xc q l:=⟨h.1,λx hx=>f x (h.2 x hx)⟩
theorem kA {a:Ye}(h:ok_TArc a):CJ a:=⟨trivial,kE h.2⟩
theorem kNet {n:Ql}(h:ok_TNet n):Xm n:=
 ⟨kL (λc hc=>⟨hc.1,trivial,trivial,trivial,kL (λs hs=>hs) hc.2.2.2.2.1,trivial,trivial⟩) h.1,kL (λp hp=>⟨hp.1,trivial,kL (λ_ _=>trivial) hp.2.2⟩) h.2.1,
  kL (λt ht=>⟨ht.1,kL (λv hv=>⟨hv.1,trivial⟩) ht.2.1,kE ht.2.2.1,trivial,trivial,kL (λ_ h=>kA h) ht.2.2.2.2.2.1,kL (λ_ h=>kA h) ht.2.2.2.2.2.2.1,kL (λ_ _=>trivial) ht.2.2.2.2.2.2.2.1,trivial,trivial⟩) h.2.2.1,trivial,trivial⟩
theorem kRch {n:Ql}(h:sz_26 n):Qcz n:=⟨h.2.1.1,λp hp=>h.2.1.2 p hp⟩
theorem proved : Rows.EngineCancelsCardSaid:=LawEngineCancels.card_of (LawEngineCancels.proved_of λa0 a1 h0 h1=>Qg8 a0 a1 (kNet h0.1) (kRch h0.2) h1.1.1)

end Go.Proofs.YtkocdcoeinjdbaaGreatDoor
