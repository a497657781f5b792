/- A part of the proof. -/
import Derived.Test.YtholdcjomliiiaaGreatDoorW2J1EngineWaits
import Derived.Test.YtholdcjomliiiaaGreatDoorW2J2EngineWaits
import Derived.Test.YtholdcjomliiiaaGreatDoorW2J3EngineWaits
import Derived.Test.YtholdcjomliiiaaGreatDoorW2J4EngineWaits
import Derived.Test.YtholdcjomliiiaaGreatDoorW2J5EngineWaits
set_option linter.all false
noncomputable section
namespace Go.Proofs.YtholdcjomliiiaaGreatDoor
open Go Go.RowKit Go.Vm Go.ChangeShapes Go.WideShapes Go.ChangeAt
namespace LawEngineWaits
theorem jz : joinedFacts jP 3 Tryz.f3 jS jR=true:=by
 unfold joinedFacts;exact(bA (bA (bA (bA (bA (bA (bA (bA (bA (bA (bA (bA (bA (bA (bA (bA (bA (bA (bA (bA (bA (bA (bA (bA (bA (bA (bA (bA (bA (bA (bA ja jb) jc) (by kernel_rfl)) jd) (by kernel_rfl)) (by kernel_rfl)) (by kernel_rfl)) (by kernel_rfl)) je) jf) jg) jh) (by kernel_rfl)) (by kernel_rfl)) (by kernel_rfl)) (by kernel_rfl)) (by kernel_rfl)) (by kernel_rfl)) (by kernel_rfl)) (by kernel_rfl)) (by kernel_rfl)) ji) (by kernel_rfl)) jj) jk) jl) jm) (by kernel_rfl)) jn) (by kernel_rfl)) (by kernel_rfl))
theorem proved_of (hF:∀(a0:Qc) (a1:(L_ Xt)),Qh4 a0->(Cm Qh3) a1->Un a0 a1=some true):Rows.EngineWaitsSaid:=
 OpenClaim.holds_of_wide 3 Tryz.f3 rfl rfl rfl rfl rfl rfl rfl ⟨rfl,rfl,rfl,rfl,rfl⟩ rfl rfl rfl rfl rfl (by kernel_rfl) Tryz.func3 jz
  (Xe (by kernel_rfl)) (by unfold Func.isWrapper;first|(rw[if_pos (by decide +kernel)];kernel_rfl)|(rw[if_neg (by decide +kernel)];exact⟨rfl,rfl⟩))
  (λos started H enc _=>lifted hF os started H enc)
theorem card_of (hs:Rows.EngineWaitsSaid):Rows.EngineWaitsCardSaid:=
 Claim7.holds_tied_plain_at .later [] [.listed,.data] true (true, "bd59b084872f4f44953bc7087df45c9ce24f379b48ba8404213c4a69cd965c7b") true
  hs (λ_ h=>by cases h) (by kernel_rfl) (λ_ h=>by cases h) engineWaits_row_tie rfl ⟨rfl,rfl⟩ (by kernel_rfl) rfl
  (λf fn hf hfn=>by
   obtain rfl:f=3:=Option.some.inj ((show Tryz.prog.funcNamed "baldric/baldriclaw24.EngineWaits" = some 3 by kernel_rfl).symm.trans hf) |>.symm
   obtain rfl:fn=Tryz.f3:=(Option.some.inj (Tryz.func3.symm.trans hfn)).symm;exact⟨jo,λj t ht=>by
    rw[Tryz.params3]at ht;have hm:t∈[26,27]:=by simpa using Array.mem_of_getElem? ht
    have hall:([26,27].all λu=>!Tryz.prog.wantsStandIn u)=true:=by kernel_rfl
    exact(show Tryz.prog.wantsStandIn t=false by simpa using XS.1 hall t hm)⟩)
  jp
end LawEngineWaits
theorem kE {e:Qs}(h:Pr e):WZ e:=by
 induction h with|mk x _ _ h1 _ ih=>exact .mk x h1 ih
theorem kL {α:Type}{p q:α->Prop}(f:∀x,p x->q x){l:L_ α}(h:Cm p l):QV q l:=⟨h.1,λx hx=>f x (h.2 x hx)⟩
theorem kA {a:Jy}(h:QgU a):MT a:=⟨trivial,kE h.2⟩
theorem QBH {n:Qc}(h:QgV n):Xu n:=
 ⟨kL (λc hc=>⟨hc.1,trivial,trivial,trivial,kL (λs hs=>hs) hc.2.2.2.2.1,trivial,trivial⟩) h.1,kL (λp hp=>⟨hp.1,trivial,kL (λ_ _=>trivial) hp.2.2⟩) h.2.1,
  kL (λt ht=>⟨ht.1,kL (λv hv=>⟨hv.1,trivial⟩) ht.2.1,kE ht.2.2.1,trivial,trivial,kL (λ_ h=>kA h) ht.2.2.2.2.2.1,kL (λ_ h=>kA h) ht.2.2.2.2.2.2.1,kL (λ_ _=>trivial) ht.2.2.2.2.2.2.2.1,trivial,trivial⟩) h.2.2.1,trivial,trivial⟩
theorem QtD {x:Int}(h:Bk .i64 x):XW x:=by
 have h1:IntKind.min .i64=-9223372036854775808:=rfl;have h2:IntKind.max .i64=9223372036854775807:=rfl;unfold Bk at h;rw[h1,h2]at h;exact h
theorem rE {e:Qs}(h:Pr e):RE e:=by
 induction h with|mk x _ hn _ _ ih=>exact .mk x (QtD hn) ih
theorem QBI {n:Qc}(h:QgV n):RN n:=
 ⟨λc hc=>⟨QtD (h.1.2 c hc).2.2.1,QtD (h.1.2 c hc).2.2.2.1⟩,λt ht=>rE (h.2.2.1.2 t ht).2.2.1,λt ht a ha=>rE ((h.2.2.1.2 t ht).2.2.2.2.2.1.2 a ha).2,λt ht a ha=>rE ((h.2.2.1.2 t ht).2.2.2.2.2.2.1.2 a ha).2⟩
theorem QBJ {n:Qc}(h:Qh4 n):Rch n:=⟨h.2.1,h.2.2⟩
theorem proved : Rows.EngineWaitsCardSaid:=LawEngineWaits.card_of (LawEngineWaits.proved_of λa0 a1 h0 h1=>Qt6 a0 a1 (QBH h0.1) (QBI h0.1) (QBJ h0) h1.1)

end Go.Proofs.YtholdcjomliiiaaGreatDoor
