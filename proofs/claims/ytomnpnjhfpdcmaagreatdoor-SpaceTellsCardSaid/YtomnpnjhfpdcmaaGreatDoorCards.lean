/-
  DERIVED. GIVEN WITH THE SEED: THE CARDS: each row of YtomnpnjhfpdcmaaGreatDoorRows.lean that lists a variable, with what it lists TIED to the program's text (the seventh form; the later family's looks); each row that meets fmt, with fmt's text TOLD by the authors' own Lean function (tested against real Go, not proved from fmt's source: count such statements apart). THE CARD IS WHAT COUNTS. Prove the row's statement (the work); the ties are given (YtomnpnjhfpdcmaaGreatDoorTie.lean); close each card by the builder's one call (the guide's Derived/Test/ToyasCard.lean, 'card_holds'). Laid BY PROGRAM, IN A SANDBOX (cutbox-door.mjs). By AI agents, Wed Nov 11 2026. No macro, syntax, notation, axiom, sorry.
-/
import Derived.Test.YtomnpnjhfpdcmaaGreatDoorRows
import GoSem.ClaimSeven
namespace Go.Proofs.YtomnpnjhfpdcmaaGreatDoor
namespace Rows

/-- THE TIED CARD OF 'baldriclaw15.SpaceTells'. -/
def spaceTellsCard : Claim7 := { stood := { row := spaceTellsRow, standIns := [], harness := (true, "945129e94dbbc2294fab0d20ed014a8912ac835ee726dc18ac653e9ee6ba1e59"), looks := false }, kinds := [], alts := [], laidByText := true, laidKinds := [.listed, .data], laidTests := true, laidLooks := .later }
def SpaceTellsCardSaid : Prop := Claim7.holds Tryz.pinned (.plain (OpenSpec.ofChange spaceTellsSpec)) spaceTellsCard

/-- THE SECOND FORM's CARD OF 'baldriclaw15.SpaceTells'. -/
def spaceTellsUptoCard : Claim7 := { stood := { row := spaceTellsUptoRow, standIns := [], harness := (true, "945129e94dbbc2294fab0d20ed014a8912ac835ee726dc18ac653e9ee6ba1e59"), looks := false }, kinds := [], alts := [], laidByText := true, laidKinds := [.listed, .data], laidTests := true, laidLooks := .later }
def SpaceTellsUptoCardSaid : Prop := Claim7.holds Tryz.pinned (.plain (OpenSpec.upto spaceTellsSpec)) spaceTellsUptoCard
end Rows
end Go.Proofs.YtomnpnjhfpdcmaaGreatDoor
