/- A part of the proof. -/
import Derived.Test.YtopbdpofkfimkaaGreatDoorS2J1TopSound
import Derived.Test.YtopbdpofkfimkaaGreatDoorS2J2TopSound
import Derived.Test.YtopbdpofkfimkaaGreatDoorS2J3TopSound
import Derived.Test.YtopbdpofkfimkaaGreatDoorS2J4TopSound
import Derived.Test.YtopbdpofkfimkaaGreatDoorS2J5TopSound
set_option linter.all false
noncomputable section
namespace Go.Proofs.YtopbdpofkfimkaaGreatDoor
open Go Go.RowKit Go.Vm Go.ChangeShapes Go.WideShapes Go.ChangeAt
namespace LawTopSound
theorem jz : joinedFacts jP 3 Tryz.f3 jS jR=true:=by
 unfold joinedFacts;exact(bA (bA (bA (bA (bA (bA (bA (bA (bA (bA (bA (bA (bA (bA (bA (bA (bA (bA (bA (bA (bA (bA (bA (bA (bA (bA (bA (bA (bA (bA (bA ja jb) jc) (by kernel_rfl)) jd) (by kernel_rfl)) (by kernel_rfl)) (by kernel_rfl)) (by kernel_rfl)) je) jf) jg) jh) (by kernel_rfl)) (by kernel_rfl)) (by kernel_rfl)) (by kernel_rfl)) (by kernel_rfl)) (by kernel_rfl)) (by kernel_rfl)) (by kernel_rfl)) (by kernel_rfl)) ji) (by kernel_rfl)) jj) jk) jl) jm) (by kernel_rfl)) jn) (by kernel_rfl)) (by kernel_rfl))
theorem proved_of (hF:∀(a0:Qg) (a1:Int) (a2:Int),(QgL a0/\QrH a0)->(BC .i64) a1->(BC .i64) a2->FH a0 a1 a2=some true):Rows.TopSoundSaid:=
 OpenClaim.holds_of_wide 3 Tryz.f3 rfl rfl rfl rfl rfl rfl rfl ⟨rfl,rfl,rfl,rfl,rfl⟩ rfl rfl rfl rfl rfl (by kernel_rfl) Tryz.func3 jz
  (QZ (by kernel_rfl)) (by unfold Func.isWrapper;first|(rw[if_pos (by decide +kernel)];kernel_rfl)|(rw[if_neg (by decide +kernel)];exact⟨rfl,rfl⟩))
  (λos started H enc _=>lifted hF os started H enc)
theorem card_of (hs:Rows.TopSoundSaid):Rows.TopSoundCardSaid:=
 Claim7.holds_tied_plain_at .later [] [.listed,.data] true (true, "8a3ff1730b150072ec58868d5169408a913b1ec519bcd998e99cd30a53c22b7e") true
  hs (λ_ h=>by cases h) (by kernel_rfl) (λ_ h=>by cases h) topSound_row_tie rfl ⟨rfl,rfl⟩ (by kernel_rfl) rfl
  (λf fn hf hfn=>by
   obtain rfl:f=3:=Option.some.inj ((show Tryz.prog.funcNamed "baldric/baldrictop.TopSound" = some 3 by kernel_rfl).symm.trans hf) |>.symm
   obtain rfl:fn=Tryz.f3:=(Option.some.inj (Tryz.func3.symm.trans hfn)).symm;exact⟨jo,λj t ht=>by
    rw[Tryz.params3]at ht;have hm:t∈[26,3,3]:=by simpa using Array.mem_of_getElem? ht
    have hall:([26,3,3].all λu=>!Tryz.prog.wantsStandIn u)=true:=by kernel_rfl
    exact(show Tryz.prog.wantsStandIn t=false by simpa using XM.1 hall t hm)⟩)
  jp
end LawTopSound
theorem kE {e:Qo}(h:RV e):DG e:=by
 induction h with|mk x _ _ h1 _ ih=>exact .mk x h1 ih
theorem kL {α:Type}{p q:α->Prop}(f:∀x,p x->q x){l:L_ α}(h:AU p l):Xg q l:=⟨h.1,λx hx=>f x (h.2 x hx)⟩
theorem kA {a:Xf}(h:Qb5 a):Nj a:=⟨trivial,kE h.2⟩
theorem QAt {n:Qg}(h:QgL n):Xu n:=
 ⟨kL (λc hc=>⟨hc.1,trivial,trivial,trivial,kL (λs hs=>hs) hc.2.2.2.2.1,trivial,trivial⟩) h.1,kL (λp hp=>⟨hp.1,trivial,kL (λ_ _=>trivial) hp.2.2⟩) h.2.1,
  kL (λt ht=>⟨ht.1,kL (λv hv=>⟨hv.1,trivial⟩) ht.2.1,kE ht.2.2.1,trivial,trivial,kL (λ_ h=>kA h) ht.2.2.2.2.2.1,kL (λ_ h=>kA h) ht.2.2.2.2.2.2.1,kL (λ_ _=>trivial) ht.2.2.2.2.2.2.2.1,trivial,trivial⟩) h.2.2.1,trivial,trivial⟩
theorem QAu {n:Qg}(h:QrH n):QrG n:=⟨h.2.1.1,λp hp=>h.2.1.2 p hp⟩
theorem proved : Rows.TopSoundCardSaid:=LawTopSound.card_of (LawTopSound.proved_of λa0 a1 a2 h0 _ _=>Qxh a0 a1 a2 (QAt h0.1) (QAu h0.2) QvO)

end Go.Proofs.YtopbdpofkfimkaaGreatDoor
