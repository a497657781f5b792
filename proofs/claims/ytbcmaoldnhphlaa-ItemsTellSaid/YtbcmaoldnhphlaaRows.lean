/-
  No cell of these rows narrows 'for every input' (looked for: loops, veiled, ifaces, maps, wideKeys, modest, calm, conditions, laid).
  DERIVED. THE GIVEN ROWS OF THIS SEAT. 6 by the template 'for every input the law returns true; each argument reads behind the call as it read before'; 0 by the template 'total and deterministic' (their statements: YtbcmaoldnhphlaaTotals.lean).
  GIVEN WITH THE SEED: the statements are not yours to turn. If you find one false, say at which input.
  Laid BY PROGRAM, IN A SANDBOX (cutbox-rows.mjs): the forced cells as the released guide's own fill.sh prints them over the translation 94a26a8f7b1f1ad9… (all of the seat's roots in one cut). By AI agents, Wed Nov 11 2026. No macro, syntax, notation, axiom, sorry.
-/
import Derived.Test.YtbcmaoldnhphlaaChecked
import GoSem.Claim
import GoSem.ClaimJoined
import GoSem.ClaimMapViews
import Derived.JoinedTies
import Derived.KernelRfl
namespace Go.Proofs.Ytbcmaoldnhphlaa
/- THE CELL 'sum', in the pinned program and in every row, IS THE sha256 OF THE DUMP (.gsa) THAT YtbcmaoldnhphlaaProg.lean LOADS. Nothing in Lean hashes anything: it is a label: what it is worth is what the hold of that sum in a sandbox is worth. -/
noncomputable def Try.pinned : Pinned := { name := "ytbcmaoldnhphlaa", sum := "94a26a8f7b1f1ad973e436639e5fe11ab3d3496055477d40da3afde722641ad3", checked := Try.checked }
namespace Rows
def none {H : Type} : Left H := { results := [], args := [] }

/-- 'baldriclaw23.ItemsTell': WHATEVER THE INPUT: true; the input reads as it did. -/
def itemsTellSpec : ChangeSpec := { name := "itemsTell", fn := fun _ => fun
  | [d1, d2, d3] => { results := [.lit (.bool true)], args := [d1, d2, d3] }
  | _ => none }
def itemsTellRow : OpenClaim := { program := "ytbcmaoldnhphlaa", sum := "94a26a8f7b1f1ad973e436639e5fe11ab3d3496055477d40da3afde722641ad3", func := "baldric/baldriclaw23.ItemsTell", spec := "itemsTell", inPlace := ["slices.overlaps[baldric/api.Item]"], unfollowed := true, recurses := true, apart := false }
def ItemsTellSaid : Prop := itemsTellRow.holds Try.pinned (OpenSpec.ofChange itemsTellSpec)

/-- ITS FALSE NEIGHBOUR: 'it returns false'. Refute it at one input. -/
def itemsTellWrong : ChangeSpec := { name := "itemsTell", fn := fun _ => fun
  | [d1, d2, d3] => { results := [.lit (.bool false)], args := [d1, d2, d3] }
  | _ => none }
def ItemsTellWrongFalsely : Prop := itemsTellRow.holds Try.pinned (OpenSpec.ofChange itemsTellWrong)

/-- 'baldriclaw23.ItemsBytes': WHATEVER THE INPUT: true; the input reads as it did. -/
def itemsBytesSpec : ChangeSpec := { name := "itemsBytes", fn := fun _ => fun
  | [d1, d2, d3] => { results := [.lit (.bool true)], args := [d1, d2, d3] }
  | _ => none }
def itemsBytesRow : OpenClaim := { program := "ytbcmaoldnhphlaa", sum := "94a26a8f7b1f1ad973e436639e5fe11ab3d3496055477d40da3afde722641ad3", func := "baldric/baldriclaw23.ItemsBytes", spec := "itemsBytes", inPlace := ["slices.overlaps[baldric/api.Item]"], unfollowed := true, recurses := true, apart := false }
def ItemsBytesSaid : Prop := itemsBytesRow.holds Try.pinned (OpenSpec.ofChange itemsBytesSpec)

/-- ITS FALSE NEIGHBOUR: 'it returns false'. Refute it at one input. -/
def itemsBytesWrong : ChangeSpec := { name := "itemsBytes", fn := fun _ => fun
  | [d1, d2, d3] => { results := [.lit (.bool false)], args := [d1, d2, d3] }
  | _ => none }
def ItemsBytesWrongFalsely : Prop := itemsBytesRow.holds Try.pinned (OpenSpec.ofChange itemsBytesWrong)

/-- 'baldriclaw23.ItemsReads': WHATEVER THE INPUT: true; the input reads as it did. -/
def itemsReadsSpec : ChangeSpec := { name := "itemsReads", fn := fun _ => fun
  | [d] => { results := [.lit (.bool true)], args := [d] }
  | _ => none }
def itemsReadsRow : OpenClaim := { program := "ytbcmaoldnhphlaa", sum := "94a26a8f7b1f1ad973e436639e5fe11ab3d3496055477d40da3afde722641ad3", func := "baldric/baldriclaw23.ItemsReads", spec := "itemsReads", inPlace := ["slices.overlaps[baldric/api.Item]"], unfollowed := true, recurses := true, apart := false }
def ItemsReadsSaid : Prop := itemsReadsRow.holds Try.pinned (OpenSpec.ofChange itemsReadsSpec)

/-- ITS FALSE NEIGHBOUR: 'it returns false'. Refute it at one input. -/
def itemsReadsWrong : ChangeSpec := { name := "itemsReads", fn := fun _ => fun
  | [d] => { results := [.lit (.bool false)], args := [d] }
  | _ => none }
def ItemsReadsWrongFalsely : Prop := itemsReadsRow.holds Try.pinned (OpenSpec.ofChange itemsReadsWrong)

/-- 'baldriclaw23.ItemsKeep': WHATEVER THE INPUT: true; the input reads as it did. -/
def itemsKeepSpec : ChangeSpec := { name := "itemsKeep", fn := fun _ => fun
  | [d1, d2, d3, d4] => { results := [.lit (.bool true)], args := [d1, d2, d3, d4] }
  | _ => none }
def itemsKeepRow : OpenClaim := { program := "ytbcmaoldnhphlaa", sum := "94a26a8f7b1f1ad973e436639e5fe11ab3d3496055477d40da3afde722641ad3", func := "baldric/baldriclaw23.ItemsKeep", spec := "itemsKeep", inPlace := ["slices.overlaps[baldric/api.Item]"], unfollowed := true, recurses := true, apart := false }
def ItemsKeepSaid : Prop := itemsKeepRow.holds Try.pinned (OpenSpec.ofChange itemsKeepSpec)

/-- ITS FALSE NEIGHBOUR: 'it returns false'. Refute it at one input. -/
def itemsKeepWrong : ChangeSpec := { name := "itemsKeep", fn := fun _ => fun
  | [d1, d2, d3, d4] => { results := [.lit (.bool false)], args := [d1, d2, d3, d4] }
  | _ => none }
def ItemsKeepWrongFalsely : Prop := itemsKeepRow.holds Try.pinned (OpenSpec.ofChange itemsKeepWrong)

/-- 'baldriclaw23.ItemsOrder': WHATEVER THE INPUT: true; the input reads as it did. -/
def itemsOrderSpec : ChangeSpec := { name := "itemsOrder", fn := fun _ => fun
  | [d1, d2, d3] => { results := [.lit (.bool true)], args := [d1, d2, d3] }
  | _ => none }
def itemsOrderRow : OpenClaim := { program := "ytbcmaoldnhphlaa", sum := "94a26a8f7b1f1ad973e436639e5fe11ab3d3496055477d40da3afde722641ad3", func := "baldric/baldriclaw23.ItemsOrder", spec := "itemsOrder", inPlace := ["slices.overlaps[baldric/api.Item]"], unfollowed := true, recurses := true, apart := false }
def ItemsOrderSaid : Prop := itemsOrderRow.holds Try.pinned (OpenSpec.ofChange itemsOrderSpec)

/-- ITS FALSE NEIGHBOUR: 'it returns false'. Refute it at one input. -/
def itemsOrderWrong : ChangeSpec := { name := "itemsOrder", fn := fun _ => fun
  | [d1, d2, d3] => { results := [.lit (.bool false)], args := [d1, d2, d3] }
  | _ => none }
def ItemsOrderWrongFalsely : Prop := itemsOrderRow.holds Try.pinned (OpenSpec.ofChange itemsOrderWrong)

/-- 'baldriclaw23.ItemsBack': WHATEVER THE INPUT: true; the input reads as it did. -/
def itemsBackSpec : ChangeSpec := { name := "itemsBack", fn := fun _ => fun
  | [d1, d2, d3] => { results := [.lit (.bool true)], args := [d1, d2, d3] }
  | _ => none }
def itemsBackRow : OpenClaim := { program := "ytbcmaoldnhphlaa", sum := "94a26a8f7b1f1ad973e436639e5fe11ab3d3496055477d40da3afde722641ad3", func := "baldric/baldriclaw23.ItemsBack", spec := "itemsBack", inPlace := ["slices.overlaps[baldric/api.Item]"], unfollowed := true, recurses := true, apart := false }
def ItemsBackSaid : Prop := itemsBackRow.holds Try.pinned (OpenSpec.ofChange itemsBackSpec)

/-- ITS FALSE NEIGHBOUR: 'it returns false'. Refute it at one input. -/
def itemsBackWrong : ChangeSpec := { name := "itemsBack", fn := fun _ => fun
  | [d1, d2, d3] => { results := [.lit (.bool false)], args := [d1, d2, d3] }
  | _ => none }
def ItemsBackWrongFalsely : Prop := itemsBackRow.holds Try.pinned (OpenSpec.ofChange itemsBackWrong)

/- THE SECOND FORM. 'bulk': how many values and letters a reading holds, each counted each time it is reached (what is shared counts as often as it is met; a slice's spare places count too). A statement '..UptoSaid' is the law's where the arguments, and the package variables that the reading takes, are together of bulk at most 1048576: NARROWER than '..Said'. Prove '..Said' where nothing that the law and all that it calls make is longer than what came in: it says more and counts as full. Else prove '..UptoSaid'. A law counts once. -/
mutual
def uptoBulk {H : Type} : DataW H → Nat
  | .lit (.string bytes) => bytes.length + 1
  | .lit _ => 1
  | .nil => 1
  | .ptr d => uptoBulk d + 1
  | .slice elems spare => uptoBulkAll elems + uptoBulkAll spare + 1
  | .agg parts => uptoBulkAll parts + 1
  | .iface _ d => uptoBulk d + 1
  | .map entries => uptoBulkEntries entries + 1
  | .held _ => 1
def uptoBulkAll {H : Type} : List (DataW H) → Nat
  | [] => 0
  | d :: r => uptoBulk d + uptoBulkAll r
def uptoBulkEntries {H : Type} : List (Lit × DataW H) → Nat
  | [] => 0
  | x :: r => uptoBulkEntry x + uptoBulkEntries r
def uptoBulkEntry {H : Type} : Lit × DataW H → Nat
  | (.string bytes, d) => bytes.length + uptoBulk d + 1
  | (_, d) => uptoBulk d + 1
 end
def uptoSmall : (H : Type) → List (DataW H) → Bool := fun _ ds => decide (uptoBulkAll ds ≤ 1048576)
def OpenSpec.upto (s : _root_.Go.ChangeSpec) : _root_.Go.OpenSpec := { _root_.Go.OpenSpec.ofChange s with cond := some uptoSmall }

/-- 'baldriclaw23.ItemsTell', WHERE WHAT IT READS IS OF BULK AT MOST 1048576: true; the input reads as it did. -/
def itemsTellUptoRow : OpenClaim := { program := "ytbcmaoldnhphlaa", sum := "94a26a8f7b1f1ad973e436639e5fe11ab3d3496055477d40da3afde722641ad3", func := "baldric/baldriclaw23.ItemsTell", spec := "itemsTell", inPlace := ["slices.overlaps[baldric/api.Item]"], unfollowed := true, recurses := true, apart := false, narrowed := true }
def ItemsTellUptoSaid : Prop := itemsTellUptoRow.holds Try.pinned (OpenSpec.upto itemsTellSpec)

/-- 'baldriclaw23.ItemsBytes', WHERE WHAT IT READS IS OF BULK AT MOST 1048576: true; the input reads as it did. -/
def itemsBytesUptoRow : OpenClaim := { program := "ytbcmaoldnhphlaa", sum := "94a26a8f7b1f1ad973e436639e5fe11ab3d3496055477d40da3afde722641ad3", func := "baldric/baldriclaw23.ItemsBytes", spec := "itemsBytes", inPlace := ["slices.overlaps[baldric/api.Item]"], unfollowed := true, recurses := true, apart := false, narrowed := true }
def ItemsBytesUptoSaid : Prop := itemsBytesUptoRow.holds Try.pinned (OpenSpec.upto itemsBytesSpec)

/-- 'baldriclaw23.ItemsReads', WHERE WHAT IT READS IS OF BULK AT MOST 1048576: true; the input reads as it did. -/
def itemsReadsUptoRow : OpenClaim := { program := "ytbcmaoldnhphlaa", sum := "94a26a8f7b1f1ad973e436639e5fe11ab3d3496055477d40da3afde722641ad3", func := "baldric/baldriclaw23.ItemsReads", spec := "itemsReads", inPlace := ["slices.overlaps[baldric/api.Item]"], unfollowed := true, recurses := true, apart := false, narrowed := true }
def ItemsReadsUptoSaid : Prop := itemsReadsUptoRow.holds Try.pinned (OpenSpec.upto itemsReadsSpec)

/-- 'baldriclaw23.ItemsKeep', WHERE WHAT IT READS IS OF BULK AT MOST 1048576: true; the input reads as it did. -/
def itemsKeepUptoRow : OpenClaim := { program := "ytbcmaoldnhphlaa", sum := "94a26a8f7b1f1ad973e436639e5fe11ab3d3496055477d40da3afde722641ad3", func := "baldric/baldriclaw23.ItemsKeep", spec := "itemsKeep", inPlace := ["slices.overlaps[baldric/api.Item]"], unfollowed := true, recurses := true, apart := false, narrowed := true }
def ItemsKeepUptoSaid : Prop := itemsKeepUptoRow.holds Try.pinned (OpenSpec.upto itemsKeepSpec)

/-- 'baldriclaw23.ItemsOrder', WHERE WHAT IT READS IS OF BULK AT MOST 1048576: true; the input reads as it did. -/
def itemsOrderUptoRow : OpenClaim := { program := "ytbcmaoldnhphlaa", sum := "94a26a8f7b1f1ad973e436639e5fe11ab3d3496055477d40da3afde722641ad3", func := "baldric/baldriclaw23.ItemsOrder", spec := "itemsOrder", inPlace := ["slices.overlaps[baldric/api.Item]"], unfollowed := true, recurses := true, apart := false, narrowed := true }
def ItemsOrderUptoSaid : Prop := itemsOrderUptoRow.holds Try.pinned (OpenSpec.upto itemsOrderSpec)

/-- 'baldriclaw23.ItemsBack', WHERE WHAT IT READS IS OF BULK AT MOST 1048576: true; the input reads as it did. -/
def itemsBackUptoRow : OpenClaim := { program := "ytbcmaoldnhphlaa", sum := "94a26a8f7b1f1ad973e436639e5fe11ab3d3496055477d40da3afde722641ad3", func := "baldric/baldriclaw23.ItemsBack", spec := "itemsBack", inPlace := ["slices.overlaps[baldric/api.Item]"], unfollowed := true, recurses := true, apart := false, narrowed := true }
def ItemsBackUptoSaid : Prop := itemsBackUptoRow.holds Try.pinned (OpenSpec.upto itemsBackSpec)

end Rows
end Go.Proofs.Ytbcmaoldnhphlaa
