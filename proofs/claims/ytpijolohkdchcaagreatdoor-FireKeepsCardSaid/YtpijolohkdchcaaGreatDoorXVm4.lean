/- A part of the proof; what it holds is told at each theorem. -/
import Derived.Test.YtpijolohkdchcaaGreatDoorXVmU
import Derived.Lib.LaidTab
import Derived.LaidMore
import Derived.MakeChecks
import Derived.Stop.LaidErr
import Derived.Stop.Joined
set_option linter.unusedVariables false
set_option linter.unusedSimpArgs false
set_option linter.unusedSectionVars false
set_option linter.deprecated false
namespace Go.Vm
open Go Go.RowKit
def spZ : List Int:=(List.range 256).map fun c=>if Lib.isSp (UInt8.ofNat c)then 1 else 0
theorem QsG {P:Program}{W:World}(h:Lib.TabIs P W "strings.asciiSpace" .u8 spZ):Glob P (fun k=>k<W.heap.size) W:=fun g hg=>by
 have hc:∀c:Nat,c<256→W.cell? ⟨g,c,none⟩=some (.int .u8 (if Lib.isSp (UInt8.ofNat c)then 1 else 0)):=fun c hc=>by
  rw [h.cell hg c (by simp only [spZ,List.length_map,List.length_range];exact hc)]
  simp [spZ,List.getD,hc]
 have h0:g<W.heap.size:=by
  have:=hc 0 (by decide)
  apply Nat.lt_of_not_le
  intro hle
  have e:W.heap[g]? = none:=Array.getElem?_eq_none hle
  simp [World.cell?,e]at this
 exact⟨h0,h0,hc⟩
theorem Qsk {P:Program}{W:World}{l r:List (String×DataW Unit)}{g:Nat}{t e:TypeId}(n:Nat)(hl:l.drop n=("strings.asciiSpace",Lib.tabData .u8 spZ)::r)(hp:(l.all fun x=>x.2.handleName?.isNone)=true)
  (hg:P.globalNamed "strings.asciiSpace" = some g) (hty:(P.globals[g]?).map (·.type)=some t) (ht:P.underlying t=some (.array 256 e)) (he:P.underlying e=some (.int .u8)) (hce:P.cellsOf e=1) (hct:P.cellsOf t=256)
  (h:laidMetH P l W):Glob P (fun k=>k<W.heap.size) W:=by
 rw [MakeChecks.laidMetH_plain _ _ _ hp]at h
 have key:∀(n:Nat) (l:List (String×DataW Unit)),laidMet P l W→laidMet P (l.drop n) W:=by
  intro n
  induction n with
  | zero=>intro l h;exact h
  | succ n ih=>
   intro l h
   cases l with
   | nil=>exact h
   | cons x l=>exact ih l h.tail
 have h2:=key n l h
 rw [hl]at h2
 exact QsG (Lib.tabIs_of_head hg hty ht he hce hct h2)
end Go.Vm
