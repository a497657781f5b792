/-
  DERIVED. GIVEN WITH THE SEED: THE CARDS: each row of YtmhljalpjhdpeaaGreatDoorRows.lean that lists a variable, with what it lists TIED to the program's text (the seventh form; the later family's looks); each row that meets fmt, with fmt's text TOLD by the authors' own Lean function (tested against real Go, not proved from fmt's source: count such statements apart). THE CARD IS WHAT COUNTS. Prove the row's statement (the work); the ties are given (YtmhljalpjhdpeaaGreatDoorTie.lean); close each card by the builder's one call (the guide's Derived/Test/ToyasCard.lean, 'card_holds'). Laid BY PROGRAM, IN A SANDBOX (cutbox-door.mjs). By AI agents, Wed Nov 11 2026. No macro, syntax, notation, axiom, sorry.
-/
import Derived.Test.YtmhljalpjhdpeaaGreatDoorRows
import GoSem.ClaimSeven
namespace Go.Proofs.YtmhljalpjhdpeaaGreatDoor
namespace Rows

/-- THE TIED CARD OF 'baldriclaw10.BindModes'. -/
def bindModesCard : Claim7 := { stood := { row := bindModesRow, standIns := [], harness := (true, "19fd64c5862f784c0b5fae8ee2b99057551572d2f7e6e106d9aefd47fc20a008"), looks := false }, kinds := [], alts := [], laidByText := true, laidKinds := [.listed, .data], laidTests := true, laidLooks := .later }
def BindModesCardSaid : Prop := Claim7.holds Tryz.pinned (.plain (OpenSpec.ofChange bindModesSpec)) bindModesCard

/-- THE TIED CARD OF 'baldriclaw10.BindMore'. -/
def bindMoreCard : Claim7 := { stood := { row := bindMoreRow, standIns := [], harness := (true, "19fd64c5862f784c0b5fae8ee2b99057551572d2f7e6e106d9aefd47fc20a008"), looks := false }, kinds := [], alts := [], laidByText := true, laidKinds := [.listed, .data], laidTests := true, laidLooks := .later }
def BindMoreCardSaid : Prop := Claim7.holds Tryz.pinned (.plain (OpenSpec.ofChange bindMoreSpec)) bindMoreCard

/-- THE TIED CARD OF 'baldriclaw10.BindApart'. -/
def bindApartCard : Claim7 := { stood := { row := bindApartRow, standIns := [], harness := (true, "19fd64c5862f784c0b5fae8ee2b99057551572d2f7e6e106d9aefd47fc20a008"), looks := false }, kinds := [], alts := [], laidByText := true, laidKinds := [.listed, .data], laidTests := true, laidLooks := .later }
def BindApartCardSaid : Prop := Claim7.holds Tryz.pinned (.plain (OpenSpec.ofChange bindApartSpec)) bindApartCard

/-- THE TIED CARD OF 'baldriclaw10.BindFew'. -/
def bindFewCard : Claim7 := { stood := { row := bindFewRow, standIns := [], harness := (true, "19fd64c5862f784c0b5fae8ee2b99057551572d2f7e6e106d9aefd47fc20a008"), looks := false }, kinds := [], alts := [], laidByText := true, laidKinds := [.listed, .data], laidTests := true, laidLooks := .later }
def BindFewCardSaid : Prop := Claim7.holds Tryz.pinned (.plain (OpenSpec.ofChange bindFewSpec)) bindFewCard

/-- THE SECOND FORM's CARD OF 'baldriclaw10.BindModes'. -/
def bindModesUptoCard : Claim7 := { stood := { row := bindModesUptoRow, standIns := [], harness := (true, "19fd64c5862f784c0b5fae8ee2b99057551572d2f7e6e106d9aefd47fc20a008"), looks := false }, kinds := [], alts := [], laidByText := true, laidKinds := [.listed, .data], laidTests := true, laidLooks := .later }
def BindModesUptoCardSaid : Prop := Claim7.holds Tryz.pinned (.plain (OpenSpec.upto bindModesSpec)) bindModesUptoCard

/-- THE SECOND FORM's CARD OF 'baldriclaw10.BindMore'. -/
def bindMoreUptoCard : Claim7 := { stood := { row := bindMoreUptoRow, standIns := [], harness := (true, "19fd64c5862f784c0b5fae8ee2b99057551572d2f7e6e106d9aefd47fc20a008"), looks := false }, kinds := [], alts := [], laidByText := true, laidKinds := [.listed, .data], laidTests := true, laidLooks := .later }
def BindMoreUptoCardSaid : Prop := Claim7.holds Tryz.pinned (.plain (OpenSpec.upto bindMoreSpec)) bindMoreUptoCard

/-- THE SECOND FORM's CARD OF 'baldriclaw10.BindApart'. -/
def bindApartUptoCard : Claim7 := { stood := { row := bindApartUptoRow, standIns := [], harness := (true, "19fd64c5862f784c0b5fae8ee2b99057551572d2f7e6e106d9aefd47fc20a008"), looks := false }, kinds := [], alts := [], laidByText := true, laidKinds := [.listed, .data], laidTests := true, laidLooks := .later }
def BindApartUptoCardSaid : Prop := Claim7.holds Tryz.pinned (.plain (OpenSpec.upto bindApartSpec)) bindApartUptoCard

/-- THE SECOND FORM's CARD OF 'baldriclaw10.BindFew'. -/
def bindFewUptoCard : Claim7 := { stood := { row := bindFewUptoRow, standIns := [], harness := (true, "19fd64c5862f784c0b5fae8ee2b99057551572d2f7e6e106d9aefd47fc20a008"), looks := false }, kinds := [], alts := [], laidByText := true, laidKinds := [.listed, .data], laidTests := true, laidLooks := .later }
def BindFewUptoCardSaid : Prop := Claim7.holds Tryz.pinned (.plain (OpenSpec.upto bindFewSpec)) bindFewUptoCard
end Rows
end Go.Proofs.YtmhljalpjhdpeaaGreatDoor
