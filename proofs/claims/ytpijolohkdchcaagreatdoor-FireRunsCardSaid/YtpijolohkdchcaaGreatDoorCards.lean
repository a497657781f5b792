/-
  DERIVED. GIVEN WITH THE SEED: THE CARDS: each row of YtpijolohkdchcaaGreatDoorRows.lean that lists a variable, with what it lists TIED to the program's text (the seventh form; the later family's looks); each row that meets fmt, with fmt's text TOLD by the authors' own Lean function (tested against real Go, not proved from fmt's source: count such statements apart). THE CARD IS WHAT COUNTS. Prove the row's statement (the work); the ties are given (YtpijolohkdchcaaGreatDoorTie.lean); close each card by the builder's one call (the guide's Derived/Test/ToyasCard.lean, 'card_holds'). Laid BY PROGRAM, IN A SANDBOX (cutbox-door.mjs). By AI agents, Wed Nov 11 2026. No macro, syntax, notation, axiom, sorry.
-/
import Derived.Test.YtpijolohkdchcaaGreatDoorRows
import GoSem.ClaimSeven
namespace Go.Proofs.YtpijolohkdchcaaGreatDoor
namespace Rows

/-- THE TIED CARD OF 'baldriclaw11.FireDoes'. -/
def fireDoesCard : Claim7 := { stood := { row := fireDoesRow, standIns := [], harness := (true, "55a32eb73a824f972e2f3ec437ce2d921973ab58bea41a2c34a0dbeb3863f61f"), looks := false }, kinds := [], alts := [], laidByText := true, laidKinds := [.listed, .data], laidTests := true, laidLooks := .later }
def FireDoesCardSaid : Prop := Claim7.holds Tryz.pinned (.plain (OpenSpec.ofChange fireDoesSpec)) fireDoesCard

/-- THE TIED CARD OF 'baldriclaw11.FireRuns'. -/
def fireRunsCard : Claim7 := { stood := { row := fireRunsRow, standIns := [], harness := (true, "55a32eb73a824f972e2f3ec437ce2d921973ab58bea41a2c34a0dbeb3863f61f"), looks := false }, kinds := [], alts := [], laidByText := true, laidKinds := [.listed, .data], laidTests := true, laidLooks := .later }
def FireRunsCardSaid : Prop := Claim7.holds Tryz.pinned (.plain (OpenSpec.ofChange fireRunsSpec)) fireRunsCard

/-- THE TIED CARD OF 'baldriclaw11.FireMore'. -/
def fireMoreCard : Claim7 := { stood := { row := fireMoreRow, standIns := [], harness := (true, "55a32eb73a824f972e2f3ec437ce2d921973ab58bea41a2c34a0dbeb3863f61f"), looks := false }, kinds := [], alts := [], laidByText := true, laidKinds := [.listed, .data], laidTests := true, laidLooks := .later }
def FireMoreCardSaid : Prop := Claim7.holds Tryz.pinned (.plain (OpenSpec.ofChange fireMoreSpec)) fireMoreCard

/-- THE TIED CARD OF 'baldriclaw11.FireParts'. -/
def firePartsCard : Claim7 := { stood := { row := firePartsRow, standIns := [], harness := (true, "55a32eb73a824f972e2f3ec437ce2d921973ab58bea41a2c34a0dbeb3863f61f"), looks := false }, kinds := [], alts := [], laidByText := true, laidKinds := [.listed, .data], laidTests := true, laidLooks := .later }
def FirePartsCardSaid : Prop := Claim7.holds Tryz.pinned (.plain (OpenSpec.ofChange firePartsSpec)) firePartsCard

/-- THE TIED CARD OF 'baldriclaw11.FireKeeps'. -/
def fireKeepsCard : Claim7 := { stood := { row := fireKeepsRow, standIns := [], harness := (true, "55a32eb73a824f972e2f3ec437ce2d921973ab58bea41a2c34a0dbeb3863f61f"), looks := false }, kinds := [], alts := [], laidByText := true, laidKinds := [.listed, .data], laidTests := true, laidLooks := .later }
def FireKeepsCardSaid : Prop := Claim7.holds Tryz.pinned (.plain (OpenSpec.ofChange fireKeepsSpec)) fireKeepsCard

/-- THE SECOND FORM's CARD OF 'baldriclaw11.FireDoes'. -/
def fireDoesUptoCard : Claim7 := { stood := { row := fireDoesUptoRow, standIns := [], harness := (true, "55a32eb73a824f972e2f3ec437ce2d921973ab58bea41a2c34a0dbeb3863f61f"), looks := false }, kinds := [], alts := [], laidByText := true, laidKinds := [.listed, .data], laidTests := true, laidLooks := .later }
def FireDoesUptoCardSaid : Prop := Claim7.holds Tryz.pinned (.plain (OpenSpec.upto fireDoesSpec)) fireDoesUptoCard

/-- THE SECOND FORM's CARD OF 'baldriclaw11.FireRuns'. -/
def fireRunsUptoCard : Claim7 := { stood := { row := fireRunsUptoRow, standIns := [], harness := (true, "55a32eb73a824f972e2f3ec437ce2d921973ab58bea41a2c34a0dbeb3863f61f"), looks := false }, kinds := [], alts := [], laidByText := true, laidKinds := [.listed, .data], laidTests := true, laidLooks := .later }
def FireRunsUptoCardSaid : Prop := Claim7.holds Tryz.pinned (.plain (OpenSpec.upto fireRunsSpec)) fireRunsUptoCard

/-- THE SECOND FORM's CARD OF 'baldriclaw11.FireMore'. -/
def fireMoreUptoCard : Claim7 := { stood := { row := fireMoreUptoRow, standIns := [], harness := (true, "55a32eb73a824f972e2f3ec437ce2d921973ab58bea41a2c34a0dbeb3863f61f"), looks := false }, kinds := [], alts := [], laidByText := true, laidKinds := [.listed, .data], laidTests := true, laidLooks := .later }
def FireMoreUptoCardSaid : Prop := Claim7.holds Tryz.pinned (.plain (OpenSpec.upto fireMoreSpec)) fireMoreUptoCard

/-- THE SECOND FORM's CARD OF 'baldriclaw11.FireParts'. -/
def firePartsUptoCard : Claim7 := { stood := { row := firePartsUptoRow, standIns := [], harness := (true, "55a32eb73a824f972e2f3ec437ce2d921973ab58bea41a2c34a0dbeb3863f61f"), looks := false }, kinds := [], alts := [], laidByText := true, laidKinds := [.listed, .data], laidTests := true, laidLooks := .later }
def FirePartsUptoCardSaid : Prop := Claim7.holds Tryz.pinned (.plain (OpenSpec.upto firePartsSpec)) firePartsUptoCard

/-- THE SECOND FORM's CARD OF 'baldriclaw11.FireKeeps'. -/
def fireKeepsUptoCard : Claim7 := { stood := { row := fireKeepsUptoRow, standIns := [], harness := (true, "55a32eb73a824f972e2f3ec437ce2d921973ab58bea41a2c34a0dbeb3863f61f"), looks := false }, kinds := [], alts := [], laidByText := true, laidKinds := [.listed, .data], laidTests := true, laidLooks := .later }
def FireKeepsUptoCardSaid : Prop := Claim7.holds Tryz.pinned (.plain (OpenSpec.upto fireKeepsSpec)) fireKeepsUptoCard
end Rows
end Go.Proofs.YtpijolohkdchcaaGreatDoor
