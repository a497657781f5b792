/-
  DERIVED. GIVEN WITH THE SEED: THE CARDS: each row of YtopbdpofkfimkaaGreatDoorRows.lean that lists a variable, with what it lists TIED to the program's text (the seventh form; the later family's looks); each row that meets fmt, with fmt's text TOLD by the authors' own Lean function (tested against real Go, not proved from fmt's source: count such statements apart). THE CARD IS WHAT COUNTS. Prove the row's statement (the work); the ties are given (YtopbdpofkfimkaaGreatDoorTie.lean); close each card by the builder's one call (the guide's Derived/Test/ToyasCard.lean, 'card_holds'). Laid BY PROGRAM, IN A SANDBOX (cutbox-door.mjs). By AI agents, Wed Nov 11 2026. No macro, syntax, notation, axiom, sorry.
-/
import Derived.Test.YtopbdpofkfimkaaGreatDoorRows
import GoSem.ClaimSeven
namespace Go.Proofs.YtopbdpofkfimkaaGreatDoor
namespace Rows

/-- THE TIED CARD OF 'baldrictop.TopSound'. -/
def topSoundCard : Claim7 := { stood := { row := topSoundRow, standIns := [], harness := (true, "8a3ff1730b150072ec58868d5169408a913b1ec519bcd998e99cd30a53c22b7e"), looks := true }, kinds := [], alts := [], laidByText := true, laidKinds := [.listed, .data], laidTests := true, laidLooks := .later }
def TopSoundCardSaid : Prop := Claim7.holds Tryz.pinned (.plain (OpenSpec.ofChange topSoundSpec)) topSoundCard

/-- THE SECOND FORM's CARD OF 'baldrictop.TopSound'. -/
def topSoundUptoCard : Claim7 := { stood := { row := topSoundUptoRow, standIns := [], harness := (true, "8a3ff1730b150072ec58868d5169408a913b1ec519bcd998e99cd30a53c22b7e"), looks := true }, kinds := [], alts := [], laidByText := true, laidKinds := [.listed, .data], laidTests := true, laidLooks := .later }
def TopSoundUptoCardSaid : Prop := Claim7.holds Tryz.pinned (.plain (OpenSpec.upto topSoundSpec)) topSoundUptoCard
end Rows
end Go.Proofs.YtopbdpofkfimkaaGreatDoor
