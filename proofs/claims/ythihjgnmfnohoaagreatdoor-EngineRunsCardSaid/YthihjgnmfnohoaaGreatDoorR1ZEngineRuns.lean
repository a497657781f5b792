/- A part of the proof. -/
import Derived.Test.YthihjgnmfnohoaaGreatDoorR1J1EngineRuns
import Derived.Test.YthihjgnmfnohoaaGreatDoorR1J2EngineRuns
import Derived.Test.YthihjgnmfnohoaaGreatDoorR1J3EngineRuns
import Derived.Test.YthihjgnmfnohoaaGreatDoorR1J4EngineRuns
import Derived.Test.YthihjgnmfnohoaaGreatDoorR1J5EngineRuns
set_option linter.all false
noncomputable section
namespace Go.Proofs.YthihjgnmfnohoaaGreatDoor
open Go Go.RowKit Go.Vm Go.ChangeShapes Go.WideShapes Go.ChangeAt
namespace LawEngineRuns
theorem jz : joinedFacts jP 3 Tryz.f3 jS jR=true:=by
 unfold joinedFacts;exact(bA (bA (bA (bA (bA (bA (bA (bA (bA (bA (bA (bA (bA (bA (bA (bA (bA (bA (bA (bA (bA (bA (bA (bA (bA (bA (bA (bA (bA (bA (bA ja jb) jc) (by kernel_rfl)) jd) (by kernel_rfl)) (by kernel_rfl)) (by kernel_rfl)) (by kernel_rfl)) je) jf) jg) jh) (by kernel_rfl)) (by kernel_rfl)) (by kernel_rfl)) (by kernel_rfl)) (by kernel_rfl)) (by kernel_rfl)) (by kernel_rfl)) (by kernel_rfl)) (by kernel_rfl)) ji) (by kernel_rfl)) jj) jk) jl) jm) (by kernel_rfl)) jn) (by kernel_rfl)) (by kernel_rfl))
theorem proved_of (hF:∀(a0:Qh) (a1:(L_ Xh)),(ZX a0/\Qof a0)->((GU TE) a1/\Qrf a1)->Ub a0 a1=some true):Rows.EngineRunsSaid:=
 OpenClaim.holds_of_wide 3 Tryz.f3 rfl rfl rfl rfl rfl rfl rfl ⟨rfl,rfl,rfl,rfl,rfl⟩ rfl rfl rfl rfl rfl (by kernel_rfl) Tryz.func3 jz
  (Xc (by kernel_rfl)) (by unfold Func.isWrapper;first | (rw[if_pos (by decide +kernel)];kernel_rfl) | (rw[if_neg (by decide +kernel)];exact⟨rfl,rfl⟩))
  (λos started H enc _=>lifted hF os started H enc)
theorem card_of (hs:Rows.EngineRunsSaid):Rows.EngineRunsCardSaid:=
 Claim7.holds_tied_plain_at .later [] [.listed,.data] true (true, "2e18fb9f5ea69b77bf07134270fd05792e56ec643d554afa51ce32626db2b48f") true
  hs (λ_ h=>by cases h) (by kernel_rfl) (λ_ h=>by cases h) engineRuns_row_tie rfl ⟨rfl,rfl⟩ (by kernel_rfl) rfl
  (λf fn hf hfn=>by
   obtain rfl:f=3:=Option.some.inj ((show Tryz.prog.funcNamed "baldric/baldriclaw24.EngineRuns" = some 3 by kernel_rfl).symm.trans hf) |>.symm
   obtain rfl:fn=Tryz.f3:=(Option.some.inj (Tryz.func3.symm.trans hfn)).symm;exact⟨jo,λj t ht=>by
    rw[Tryz.params3]at ht;have hm:t∈[26,27]:=by simpa using Array.mem_of_getElem? ht
    have hall:([26,27].all λu=>!Tryz.prog.wantsStandIn u)=true:=by kernel_rfl
    exact(show Tryz.prog.wantsStandIn t=false by simpa using XG.1 hall t hm)⟩)
  jp
end LawEngineRuns
theorem kE {e:Qn}(h:Mw e):Wp e:=by
 induction h with
 | mk x _ _ h1 _ ih=>exact .mk x h1 ih
theorem kL {α:Type}{p q:α->Prop}(f:∀x,p x->q x){l:L_ α}(h:GU p l):QX q l:=⟨h.1,λx hx=>f x (h.2 x hx)⟩
theorem kA {a:Jf}(h:ZW a):Ip a:=⟨trivial,kE h.2⟩
theorem Qwz {n:Qh}(h:ZX n):Xo n:=
 ⟨kL (λc hc=>⟨hc.1,trivial,trivial,trivial,kL (λs hs=>hs) hc.2.2.2.2.1,trivial,trivial⟩) h.1,kL (λp hp=>⟨hp.1,trivial,kL (λ_ _=>trivial) hp.2.2⟩) h.2.1,
  kL (λt ht=>⟨ht.1,kL (λv hv=>⟨hv.1,trivial⟩) ht.2.1,kE ht.2.2.1,trivial,trivial,kL (λ_ h=>kA h) ht.2.2.2.2.2.1,kL (λ_ h=>kA h) ht.2.2.2.2.2.2.1,kL (λ_ _=>trivial) ht.2.2.2.2.2.2.2.1,trivial,trivial⟩) h.2.2.1,trivial,trivial⟩
theorem Qpu {x:Int}(h:Uj .i64 x):XQ x:=by
 have h1:IntKind.min .i64=-9223372036854775808:=rfl;have h2:IntKind.max .i64=9223372036854775807:=rfl;unfold Uj at h;rw[h1,h2]at h;exact h
theorem rE {e:Qn}(h:Mw e):RE e:=by
 induction h with
 | mk x _ hn _ _ ih=>exact .mk x (Qpu hn) ih
theorem QwA {n:Qh}(h:ZX n):RN n:=
 ⟨λc hc=>⟨Qpu (h.1.2 c hc).2.2.1,Qpu (h.1.2 c hc).2.2.2.1⟩,λt ht=>rE (h.2.2.1.2 t ht).2.2.1,λt ht a ha=>rE ((h.2.2.1.2 t ht).2.2.2.2.2.1.2 a ha).2,λt ht a ha=>rE ((h.2.2.1.2 t ht).2.2.2.2.2.2.1.2 a ha).2⟩
theorem QwB {n:Qh}(h:Qof n):Qob n:=⟨h.2.1.1,λp hp=>h.2.1.2 p hp⟩
theorem proved : Rows.EngineRunsCardSaid:=LawEngineRuns.card_of (LawEngineRuns.proved_of λa0 a1 h0 h1=>Qrc a0 a1 (Qwz h0.1) (QwA h0.1) (QwB h0.2) h1.1.1)

end Go.Proofs.YthihjgnmfnohoaaGreatDoor
