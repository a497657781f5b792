/-
  NARROWER THAN 'FOR EVERY INPUT', by the rows' own cells (each row's printed sentence says how): RankTells: loops · RankWays: loops.
  DERIVED. THE GIVEN ROWS OF THIS SEAT. 5 by the template 'for every input the law returns true; each argument reads behind the call as it read before'; 0 by the template 'total and deterministic' (their statements: YtmmnafdkbobjcaaTotals.lean).
  GIVEN WITH THE SEED: the statements are not yours to turn. If you find one false, say at which input.
  Laid BY PROGRAM, IN A SANDBOX (cutbox-rows.mjs): the forced cells as the released guide's own fill.sh prints them over the translation 54b2f98ee0d26093… (all of the seat's roots in one cut). By AI agents, Wed Nov 11 2026. No macro, syntax, notation, axiom, sorry.
-/
import Derived.Test.YtmmnafdkbobjcaaChecked
import GoSem.Claim
import GoSem.ClaimJoined
import GoSem.ClaimMapViews
import Derived.JoinedTies
import Derived.KernelRfl
namespace Go.Proofs.Ytmmnafdkbobjcaa
/- THE CELL 'sum', in the pinned program and in every row, IS THE sha256 OF THE DUMP (.gsa) THAT YtmmnafdkbobjcaaProg.lean LOADS. Nothing in Lean hashes anything: it is a label: what it is worth is what the hold of that sum in a sandbox is worth. -/
noncomputable def Try.pinned : Pinned := { name := "ytmmnafdkbobjcaa", sum := "54b2f98ee0d2609335ff82c2fbe34502049bdaaaaf90e1898ab1f751534d3e52", checked := Try.checked }
namespace Rows
def none {H : Type} : Left H := { results := [], args := [] }

/-- 'baldriclaw16.RankTells': WHATEVER THE INPUT: true; the input reads as it did. -/
def rankTellsSpec : ChangeSpec := { name := "rankTells", fn := fun _ => fun
  | [d1, d2, d3, d4] => { results := [.lit (.bool true)], args := [d1, d2, d3, d4] }
  | _ => none }
def rankTellsRow : OpenClaim := { program := "ytmmnafdkbobjcaa", sum := "54b2f98ee0d2609335ff82c2fbe34502049bdaaaaf90e1898ab1f751534d3e52", func := "baldric/baldriclaw16.RankTells", spec := "rankTells", unfollowed := true, recurses := true, loops := true, apart := false }
def RankTellsSaid : Prop := rankTellsRow.holds Try.pinned (OpenSpec.ofChange rankTellsSpec)

/-- ITS FALSE NEIGHBOUR: 'it returns false'. Refute it at one input. -/
def rankTellsWrong : ChangeSpec := { name := "rankTells", fn := fun _ => fun
  | [d1, d2, d3, d4] => { results := [.lit (.bool false)], args := [d1, d2, d3, d4] }
  | _ => none }
def RankTellsWrongFalsely : Prop := rankTellsRow.holds Try.pinned (OpenSpec.ofChange rankTellsWrong)

/-- 'baldriclaw16.RankWays': WHATEVER THE INPUT: true; the input reads as it did. -/
def rankWaysSpec : ChangeSpec := { name := "rankWays", fn := fun _ => fun
  | [d1, d2, d3] => { results := [.lit (.bool true)], args := [d1, d2, d3] }
  | _ => none }
def rankWaysRow : OpenClaim := { program := "ytmmnafdkbobjcaa", sum := "54b2f98ee0d2609335ff82c2fbe34502049bdaaaaf90e1898ab1f751534d3e52", func := "baldric/baldriclaw16.RankWays", spec := "rankWays", unfollowed := true, recurses := true, loops := true, apart := false }
def RankWaysSaid : Prop := rankWaysRow.holds Try.pinned (OpenSpec.ofChange rankWaysSpec)

/-- ITS FALSE NEIGHBOUR: 'it returns false'. Refute it at one input. -/
def rankWaysWrong : ChangeSpec := { name := "rankWays", fn := fun _ => fun
  | [d1, d2, d3] => { results := [.lit (.bool false)], args := [d1, d2, d3] }
  | _ => none }
def RankWaysWrongFalsely : Prop := rankWaysRow.holds Try.pinned (OpenSpec.ofChange rankWaysWrong)

/-- 'baldriclaw16.RankLeast': WHATEVER THE INPUT: true; the input reads as it did. -/
def rankLeastSpec : ChangeSpec := { name := "rankLeast", fn := fun _ => fun
  | [d1, d2] => { results := [.lit (.bool true)], args := [d1, d2] }
  | _ => none }
def rankLeastRow : OpenClaim := { program := "ytmmnafdkbobjcaa", sum := "54b2f98ee0d2609335ff82c2fbe34502049bdaaaaf90e1898ab1f751534d3e52", func := "baldric/baldriclaw16.RankLeast", spec := "rankLeast", unfollowed := true, recurses := true, apart := false }
def RankLeastSaid : Prop := rankLeastRow.holds Try.pinned (OpenSpec.ofChange rankLeastSpec)

/-- ITS FALSE NEIGHBOUR: 'it returns false'. Refute it at one input. -/
def rankLeastWrong : ChangeSpec := { name := "rankLeast", fn := fun _ => fun
  | [d1, d2] => { results := [.lit (.bool false)], args := [d1, d2] }
  | _ => none }
def RankLeastWrongFalsely : Prop := rankLeastRow.holds Try.pinned (OpenSpec.ofChange rankLeastWrong)

/-- 'baldriclaw16.RankMore': WHATEVER THE INPUT: true; the input reads as it did. -/
def rankMoreSpec : ChangeSpec := { name := "rankMore", fn := fun _ => fun
  | [d1, d2, d3] => { results := [.lit (.bool true)], args := [d1, d2, d3] }
  | _ => none }
def rankMoreRow : OpenClaim := { program := "ytmmnafdkbobjcaa", sum := "54b2f98ee0d2609335ff82c2fbe34502049bdaaaaf90e1898ab1f751534d3e52", func := "baldric/baldriclaw16.RankMore", spec := "rankMore", unfollowed := true, recurses := true, apart := false }
def RankMoreSaid : Prop := rankMoreRow.holds Try.pinned (OpenSpec.ofChange rankMoreSpec)

/-- ITS FALSE NEIGHBOUR: 'it returns false'. Refute it at one input. -/
def rankMoreWrong : ChangeSpec := { name := "rankMore", fn := fun _ => fun
  | [d1, d2, d3] => { results := [.lit (.bool false)], args := [d1, d2, d3] }
  | _ => none }
def RankMoreWrongFalsely : Prop := rankMoreRow.holds Try.pinned (OpenSpec.ofChange rankMoreWrong)

/-- 'baldriclaw16.RankPaths': WHATEVER THE INPUT: true; the input reads as it did. -/
def rankPathsSpec : ChangeSpec := { name := "rankPaths", fn := fun _ => fun
  | [d1, d2] => { results := [.lit (.bool true)], args := [d1, d2] }
  | _ => none }
def rankPathsRow : OpenClaim := { program := "ytmmnafdkbobjcaa", sum := "54b2f98ee0d2609335ff82c2fbe34502049bdaaaaf90e1898ab1f751534d3e52", func := "baldric/baldriclaw16.RankPaths", spec := "rankPaths", unfollowed := true, recurses := true, apart := false }
def RankPathsSaid : Prop := rankPathsRow.holds Try.pinned (OpenSpec.ofChange rankPathsSpec)

/-- ITS FALSE NEIGHBOUR: 'it returns false'. Refute it at one input. -/
def rankPathsWrong : ChangeSpec := { name := "rankPaths", fn := fun _ => fun
  | [d1, d2] => { results := [.lit (.bool false)], args := [d1, d2] }
  | _ => none }
def RankPathsWrongFalsely : Prop := rankPathsRow.holds Try.pinned (OpenSpec.ofChange rankPathsWrong)

/- THE SECOND FORM. 'bulk': how many values and letters a reading holds, each counted each time it is reached (what is shared counts as often as it is met; a slice's spare places count too). A statement '..UptoSaid' is the law's where the arguments, and the package variables that the reading takes, are together of bulk at most 1048576: NARROWER than '..Said'. Prove '..Said' where nothing that the law and all that it calls make is longer than what came in: it says more and counts as full. Else prove '..UptoSaid'. A law counts once. -/
mutual
def uptoBulk {H : Type} : DataW H → Nat
  | .lit (.string bytes) => bytes.length + 1
  | .lit _ => 1
  | .nil => 1
  | .ptr d => uptoBulk d + 1
  | .slice elems spare => uptoBulkAll elems + uptoBulkAll spare + 1
  | .agg parts => uptoBulkAll parts + 1
  | .iface _ d => uptoBulk d + 1
  | .map entries => uptoBulkEntries entries + 1
  | .held _ => 1
def uptoBulkAll {H : Type} : List (DataW H) → Nat
  | [] => 0
  | d :: r => uptoBulk d + uptoBulkAll r
def uptoBulkEntries {H : Type} : List (Lit × DataW H) → Nat
  | [] => 0
  | x :: r => uptoBulkEntry x + uptoBulkEntries r
def uptoBulkEntry {H : Type} : Lit × DataW H → Nat
  | (.string bytes, d) => bytes.length + uptoBulk d + 1
  | (_, d) => uptoBulk d + 1
 end
def uptoSmall : (H : Type) → List (DataW H) → Bool := fun _ ds => decide (uptoBulkAll ds ≤ 1048576)
def OpenSpec.upto (s : _root_.Go.ChangeSpec) : _root_.Go.OpenSpec := { _root_.Go.OpenSpec.ofChange s with cond := some uptoSmall }

/-- 'baldriclaw16.RankTells', WHERE WHAT IT READS IS OF BULK AT MOST 1048576: true; the input reads as it did. -/
def rankTellsUptoRow : OpenClaim := { program := "ytmmnafdkbobjcaa", sum := "54b2f98ee0d2609335ff82c2fbe34502049bdaaaaf90e1898ab1f751534d3e52", func := "baldric/baldriclaw16.RankTells", spec := "rankTells", unfollowed := true, recurses := true, loops := true, apart := false, narrowed := true }
def RankTellsUptoSaid : Prop := rankTellsUptoRow.holds Try.pinned (OpenSpec.upto rankTellsSpec)

/-- 'baldriclaw16.RankWays', WHERE WHAT IT READS IS OF BULK AT MOST 1048576: true; the input reads as it did. -/
def rankWaysUptoRow : OpenClaim := { program := "ytmmnafdkbobjcaa", sum := "54b2f98ee0d2609335ff82c2fbe34502049bdaaaaf90e1898ab1f751534d3e52", func := "baldric/baldriclaw16.RankWays", spec := "rankWays", unfollowed := true, recurses := true, loops := true, apart := false, narrowed := true }
def RankWaysUptoSaid : Prop := rankWaysUptoRow.holds Try.pinned (OpenSpec.upto rankWaysSpec)

/-- 'baldriclaw16.RankLeast', WHERE WHAT IT READS IS OF BULK AT MOST 1048576: true; the input reads as it did. -/
def rankLeastUptoRow : OpenClaim := { program := "ytmmnafdkbobjcaa", sum := "54b2f98ee0d2609335ff82c2fbe34502049bdaaaaf90e1898ab1f751534d3e52", func := "baldric/baldriclaw16.RankLeast", spec := "rankLeast", unfollowed := true, recurses := true, apart := false, narrowed := true }
def RankLeastUptoSaid : Prop := rankLeastUptoRow.holds Try.pinned (OpenSpec.upto rankLeastSpec)

/-- 'baldriclaw16.RankMore', WHERE WHAT IT READS IS OF BULK AT MOST 1048576: true; the input reads as it did. -/
def rankMoreUptoRow : OpenClaim := { program := "ytmmnafdkbobjcaa", sum := "54b2f98ee0d2609335ff82c2fbe34502049bdaaaaf90e1898ab1f751534d3e52", func := "baldric/baldriclaw16.RankMore", spec := "rankMore", unfollowed := true, recurses := true, apart := false, narrowed := true }
def RankMoreUptoSaid : Prop := rankMoreUptoRow.holds Try.pinned (OpenSpec.upto rankMoreSpec)

/-- 'baldriclaw16.RankPaths', WHERE WHAT IT READS IS OF BULK AT MOST 1048576: true; the input reads as it did. -/
def rankPathsUptoRow : OpenClaim := { program := "ytmmnafdkbobjcaa", sum := "54b2f98ee0d2609335ff82c2fbe34502049bdaaaaf90e1898ab1f751534d3e52", func := "baldric/baldriclaw16.RankPaths", spec := "rankPaths", unfollowed := true, recurses := true, apart := false, narrowed := true }
def RankPathsUptoSaid : Prop := rankPathsUptoRow.holds Try.pinned (OpenSpec.upto rankPathsSpec)

end Rows
end Go.Proofs.Ytmmnafdkbobjcaa
