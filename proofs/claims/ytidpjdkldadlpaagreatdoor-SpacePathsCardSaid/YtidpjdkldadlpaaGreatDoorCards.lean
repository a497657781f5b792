/-
  DERIVED. GIVEN WITH THE SEED: THE CARDS: each row of YtidpjdkldadlpaaGreatDoorRows.lean that lists a variable, with what it lists TIED to the program's text (the seventh form; the later family's looks); each row that meets fmt, with fmt's text TOLD by the authors' own Lean function (tested against real Go, not proved from fmt's source: count such statements apart). THE CARD IS WHAT COUNTS. Prove the row's statement (the work); the ties are given (YtidpjdkldadlpaaGreatDoorTie.lean); close each card by the builder's one call (the guide's Derived/Test/ToyasCard.lean, 'card_holds'). Laid BY PROGRAM, IN A SANDBOX (cutbox-door.mjs). By AI agents, Wed Nov 11 2026. No macro, syntax, notation, axiom, sorry.
-/
import Derived.Test.YtidpjdkldadlpaaGreatDoorRows
import GoSem.ClaimSeven
namespace Go.Proofs.YtidpjdkldadlpaaGreatDoor
namespace Rows

/-- THE TIED CARD OF 'baldriclaw15.SpaceTells'. -/
def spaceTellsCard : Claim7 := { stood := { row := spaceTellsRow, standIns := [], harness := (true, "ef3e97953ec7da941344858f2ca7530661a1e378e8c85be78fef1fcae4c06c59"), looks := false }, kinds := [], alts := [], laidByText := true, laidKinds := [.listed, .data], laidTests := true, laidLooks := .later }
def SpaceTellsCardSaid : Prop := Claim7.holds Tryz.pinned (.plain (OpenSpec.ofChange spaceTellsSpec)) spaceTellsCard

/-- THE TIED CARD OF 'baldriclaw15.SpaceClosed'. -/
def spaceClosedCard : Claim7 := { stood := { row := spaceClosedRow, standIns := [], harness := (true, "ef3e97953ec7da941344858f2ca7530661a1e378e8c85be78fef1fcae4c06c59"), looks := false }, kinds := [], alts := [], laidByText := true, laidKinds := [.listed, .data], laidTests := true, laidLooks := .later }
def SpaceClosedCardSaid : Prop := Claim7.holds Tryz.pinned (.plain (OpenSpec.ofChange spaceClosedSpec)) spaceClosedCard

/-- THE TIED CARD OF 'baldriclaw15.SpaceFrom'. -/
def spaceFromCard : Claim7 := { stood := { row := spaceFromRow, standIns := [], harness := (true, "ef3e97953ec7da941344858f2ca7530661a1e378e8c85be78fef1fcae4c06c59"), looks := false }, kinds := [], alts := [], laidByText := true, laidKinds := [.listed, .data], laidTests := true, laidLooks := .later }
def SpaceFromCardSaid : Prop := Claim7.holds Tryz.pinned (.plain (OpenSpec.ofChange spaceFromSpec)) spaceFromCard

/-- THE TIED CARD OF 'baldriclaw15.SpacePaths'. -/
def spacePathsCard : Claim7 := { stood := { row := spacePathsRow, standIns := [], harness := (true, "ef3e97953ec7da941344858f2ca7530661a1e378e8c85be78fef1fcae4c06c59"), looks := false }, kinds := [], alts := [], laidByText := true, laidKinds := [.listed, .data], laidTests := true, laidLooks := .later }
def SpacePathsCardSaid : Prop := Claim7.holds Tryz.pinned (.plain (OpenSpec.ofChange spacePathsSpec)) spacePathsCard

/-- THE SECOND FORM's CARD OF 'baldriclaw15.SpaceTells'. -/
def spaceTellsUptoCard : Claim7 := { stood := { row := spaceTellsUptoRow, standIns := [], harness := (true, "ef3e97953ec7da941344858f2ca7530661a1e378e8c85be78fef1fcae4c06c59"), looks := false }, kinds := [], alts := [], laidByText := true, laidKinds := [.listed, .data], laidTests := true, laidLooks := .later }
def SpaceTellsUptoCardSaid : Prop := Claim7.holds Tryz.pinned (.plain (OpenSpec.upto spaceTellsSpec)) spaceTellsUptoCard

/-- THE SECOND FORM's CARD OF 'baldriclaw15.SpaceClosed'. -/
def spaceClosedUptoCard : Claim7 := { stood := { row := spaceClosedUptoRow, standIns := [], harness := (true, "ef3e97953ec7da941344858f2ca7530661a1e378e8c85be78fef1fcae4c06c59"), looks := false }, kinds := [], alts := [], laidByText := true, laidKinds := [.listed, .data], laidTests := true, laidLooks := .later }
def SpaceClosedUptoCardSaid : Prop := Claim7.holds Tryz.pinned (.plain (OpenSpec.upto spaceClosedSpec)) spaceClosedUptoCard

/-- THE SECOND FORM's CARD OF 'baldriclaw15.SpaceFrom'. -/
def spaceFromUptoCard : Claim7 := { stood := { row := spaceFromUptoRow, standIns := [], harness := (true, "ef3e97953ec7da941344858f2ca7530661a1e378e8c85be78fef1fcae4c06c59"), looks := false }, kinds := [], alts := [], laidByText := true, laidKinds := [.listed, .data], laidTests := true, laidLooks := .later }
def SpaceFromUptoCardSaid : Prop := Claim7.holds Tryz.pinned (.plain (OpenSpec.upto spaceFromSpec)) spaceFromUptoCard

/-- THE SECOND FORM's CARD OF 'baldriclaw15.SpacePaths'. -/
def spacePathsUptoCard : Claim7 := { stood := { row := spacePathsUptoRow, standIns := [], harness := (true, "ef3e97953ec7da941344858f2ca7530661a1e378e8c85be78fef1fcae4c06c59"), looks := false }, kinds := [], alts := [], laidByText := true, laidKinds := [.listed, .data], laidTests := true, laidLooks := .later }
def SpacePathsUptoCardSaid : Prop := Claim7.holds Tryz.pinned (.plain (OpenSpec.upto spacePathsSpec)) spacePathsUptoCard
end Rows
end Go.Proofs.YtidpjdkldadlpaaGreatDoor
