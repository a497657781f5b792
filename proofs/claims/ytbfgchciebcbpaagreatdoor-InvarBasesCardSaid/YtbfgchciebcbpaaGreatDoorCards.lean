/-
  DERIVED. GIVEN WITH THE SEED: THE CARDS: each row of YtbfgchciebcbpaaGreatDoorRows.lean that lists a variable, with what it lists TIED to the program's text (the seventh form; the later family's looks); each row that meets fmt, with fmt's text TOLD by the authors' own Lean function (tested against real Go, not proved from fmt's source: count such statements apart). THE CARD IS WHAT COUNTS. Prove the row's statement (the work); the ties are given (YtbfgchciebcbpaaGreatDoorTie.lean); close each card by the builder's one call (the guide's Derived/Test/ToyasCard.lean, 'card_holds'). Laid BY PROGRAM, IN A SANDBOX (cutbox-door.mjs). By AI agents, Wed Nov 11 2026. No macro, syntax, notation, axiom, sorry.
-/
import Derived.Test.YtbfgchciebcbpaaGreatDoorRows
import GoSem.ClaimSeven
namespace Go.Proofs.YtbfgchciebcbpaaGreatDoor
namespace Rows

/-- THE TIED CARD OF 'baldriclaw18.InvarTells'. -/
def invarTellsCard : Claim7 := { stood := { row := invarTellsRow, standIns := [], harness := (true, "e1d83377e7bc5629bf1562ed4cd27be8d64b52160e690022d2418aa094ccef66"), looks := false }, kinds := [], alts := [], laidByText := true, laidKinds := [.listed, .data], laidTests := true, laidLooks := .later }
def InvarTellsCardSaid : Prop := Claim7.holds Tryz.pinned (.plain (OpenSpec.ofChange invarTellsSpec)) invarTellsCard

/-- THE TIED CARD OF 'baldriclaw18.InvarBases'. -/
def invarBasesCard : Claim7 := { stood := { row := invarBasesRow, standIns := [], harness := (true, "e1d83377e7bc5629bf1562ed4cd27be8d64b52160e690022d2418aa094ccef66"), looks := false }, kinds := [], alts := [], laidByText := true, laidKinds := [.listed, .data], laidTests := true, laidLooks := .later }
def InvarBasesCardSaid : Prop := Claim7.holds Tryz.pinned (.plain (OpenSpec.ofChange invarBasesSpec)) invarBasesCard

/-- THE TIED CARD OF 'baldriclaw18.InvarFree'. -/
def invarFreeCard : Claim7 := { stood := { row := invarFreeRow, standIns := [], harness := (true, "e1d83377e7bc5629bf1562ed4cd27be8d64b52160e690022d2418aa094ccef66"), looks := false }, kinds := [], alts := [], laidByText := true, laidKinds := [.listed, .data], laidTests := true, laidLooks := .later }
def InvarFreeCardSaid : Prop := Claim7.holds Tryz.pinned (.plain (OpenSpec.ofChange invarFreeSpec)) invarFreeCard

/-- THE TIED CARD OF 'baldriclaw18.InvarTogether'. -/
def invarTogetherCard : Claim7 := { stood := { row := invarTogetherRow, standIns := [], harness := (true, "e1d83377e7bc5629bf1562ed4cd27be8d64b52160e690022d2418aa094ccef66"), looks := false }, kinds := [], alts := [], laidByText := true, laidKinds := [.listed, .data], laidTests := true, laidLooks := .later }
def InvarTogetherCardSaid : Prop := Claim7.holds Tryz.pinned (.plain (OpenSpec.ofChange invarTogetherSpec)) invarTogetherCard

/-- THE TIED CARD OF 'baldriclaw18.InvarHolds'. -/
def invarHoldsCard : Claim7 := { stood := { row := invarHoldsRow, standIns := [], harness := (true, "e1d83377e7bc5629bf1562ed4cd27be8d64b52160e690022d2418aa094ccef66"), looks := false }, kinds := [], alts := [], laidByText := true, laidKinds := [.listed, .data], laidTests := true, laidLooks := .later }
def InvarHoldsCardSaid : Prop := Claim7.holds Tryz.pinned (.plain (OpenSpec.ofChange invarHoldsSpec)) invarHoldsCard

/-- THE TIED CARD OF 'baldriclaw18.InvarBounds'. -/
def invarBoundsCard : Claim7 := { stood := { row := invarBoundsRow, standIns := [], harness := (true, "e1d83377e7bc5629bf1562ed4cd27be8d64b52160e690022d2418aa094ccef66"), looks := false }, kinds := [], alts := [], laidByText := true, laidKinds := [.listed, .data], laidTests := true, laidLooks := .later }
def InvarBoundsCardSaid : Prop := Claim7.holds Tryz.pinned (.plain (OpenSpec.ofChange invarBoundsSpec)) invarBoundsCard

/-- THE SECOND FORM's CARD OF 'baldriclaw18.InvarTells'. -/
def invarTellsUptoCard : Claim7 := { stood := { row := invarTellsUptoRow, standIns := [], harness := (true, "e1d83377e7bc5629bf1562ed4cd27be8d64b52160e690022d2418aa094ccef66"), looks := false }, kinds := [], alts := [], laidByText := true, laidKinds := [.listed, .data], laidTests := true, laidLooks := .later }
def InvarTellsUptoCardSaid : Prop := Claim7.holds Tryz.pinned (.plain (OpenSpec.upto invarTellsSpec)) invarTellsUptoCard

/-- THE SECOND FORM's CARD OF 'baldriclaw18.InvarBases'. -/
def invarBasesUptoCard : Claim7 := { stood := { row := invarBasesUptoRow, standIns := [], harness := (true, "e1d83377e7bc5629bf1562ed4cd27be8d64b52160e690022d2418aa094ccef66"), looks := false }, kinds := [], alts := [], laidByText := true, laidKinds := [.listed, .data], laidTests := true, laidLooks := .later }
def InvarBasesUptoCardSaid : Prop := Claim7.holds Tryz.pinned (.plain (OpenSpec.upto invarBasesSpec)) invarBasesUptoCard

/-- THE SECOND FORM's CARD OF 'baldriclaw18.InvarFree'. -/
def invarFreeUptoCard : Claim7 := { stood := { row := invarFreeUptoRow, standIns := [], harness := (true, "e1d83377e7bc5629bf1562ed4cd27be8d64b52160e690022d2418aa094ccef66"), looks := false }, kinds := [], alts := [], laidByText := true, laidKinds := [.listed, .data], laidTests := true, laidLooks := .later }
def InvarFreeUptoCardSaid : Prop := Claim7.holds Tryz.pinned (.plain (OpenSpec.upto invarFreeSpec)) invarFreeUptoCard

/-- THE SECOND FORM's CARD OF 'baldriclaw18.InvarTogether'. -/
def invarTogetherUptoCard : Claim7 := { stood := { row := invarTogetherUptoRow, standIns := [], harness := (true, "e1d83377e7bc5629bf1562ed4cd27be8d64b52160e690022d2418aa094ccef66"), looks := false }, kinds := [], alts := [], laidByText := true, laidKinds := [.listed, .data], laidTests := true, laidLooks := .later }
def InvarTogetherUptoCardSaid : Prop := Claim7.holds Tryz.pinned (.plain (OpenSpec.upto invarTogetherSpec)) invarTogetherUptoCard

/-- THE SECOND FORM's CARD OF 'baldriclaw18.InvarHolds'. -/
def invarHoldsUptoCard : Claim7 := { stood := { row := invarHoldsUptoRow, standIns := [], harness := (true, "e1d83377e7bc5629bf1562ed4cd27be8d64b52160e690022d2418aa094ccef66"), looks := false }, kinds := [], alts := [], laidByText := true, laidKinds := [.listed, .data], laidTests := true, laidLooks := .later }
def InvarHoldsUptoCardSaid : Prop := Claim7.holds Tryz.pinned (.plain (OpenSpec.upto invarHoldsSpec)) invarHoldsUptoCard

/-- THE SECOND FORM's CARD OF 'baldriclaw18.InvarBounds'. -/
def invarBoundsUptoCard : Claim7 := { stood := { row := invarBoundsUptoRow, standIns := [], harness := (true, "e1d83377e7bc5629bf1562ed4cd27be8d64b52160e690022d2418aa094ccef66"), looks := false }, kinds := [], alts := [], laidByText := true, laidKinds := [.listed, .data], laidTests := true, laidLooks := .later }
def InvarBoundsUptoCardSaid : Prop := Claim7.holds Tryz.pinned (.plain (OpenSpec.upto invarBoundsSpec)) invarBoundsUptoCard
end Rows
end Go.Proofs.YtbfgchciebcbpaaGreatDoor
