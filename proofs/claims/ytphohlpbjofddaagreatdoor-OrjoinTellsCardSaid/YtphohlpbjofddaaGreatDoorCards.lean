/-
  DERIVED. GIVEN WITH THE SEED: THE CARDS: each row of YtphohlpbjofddaaGreatDoorRows.lean that lists a variable, with what it lists TIED to the program's text (the seventh form; the later family's looks); each row that meets fmt, with fmt's text TOLD by the authors' own Lean function (tested against real Go, not proved from fmt's source: count such statements apart). THE CARD IS WHAT COUNTS. Prove the row's statement (the work); the ties are given (YtphohlpbjofddaaGreatDoorTie.lean); close each card by the builder's one call (the guide's Derived/Test/ToyasCard.lean, 'card_holds'). Laid BY PROGRAM, IN A SANDBOX (cutbox-door.mjs). By AI agents, Wed Nov 11 2026. No macro, syntax, notation, axiom, sorry.
-/
import Derived.Test.YtphohlpbjofddaaGreatDoorRows
import GoSem.ClaimSeven
namespace Go.Proofs.YtphohlpbjofddaaGreatDoor
namespace Rows

/-- THE TIED CARD OF 'baldriclaw12.OrjoinTells'. -/
def orjoinTellsCard : Claim7 := { stood := { row := orjoinTellsRow, standIns := [], harness := (true, "002f84d5fda64e3b6dbf635b81a7be9608d324dc66bc549211f3d85f0ef82a3d"), looks := false }, kinds := [], alts := [], laidByText := true, laidKinds := [.listed, .data], laidTests := true, laidLooks := .later }
def OrjoinTellsCardSaid : Prop := Claim7.holds Tryz.pinned (.plain (OpenSpec.ofChange orjoinTellsSpec)) orjoinTellsCard

/-- THE TIED CARD OF 'baldriclaw12.OrjoinPlain'. -/
def orjoinPlainCard : Claim7 := { stood := { row := orjoinPlainRow, standIns := [], harness := (true, "002f84d5fda64e3b6dbf635b81a7be9608d324dc66bc549211f3d85f0ef82a3d"), looks := false }, kinds := [], alts := [], laidByText := true, laidKinds := [.listed, .data], laidTests := true, laidLooks := .later }
def OrjoinPlainCardSaid : Prop := Claim7.holds Tryz.pinned (.plain (OpenSpec.ofChange orjoinPlainSpec)) orjoinPlainCard

/-- THE TIED CARD OF 'baldriclaw12.OrjoinEmpty'. -/
def orjoinEmptyCard : Claim7 := { stood := { row := orjoinEmptyRow, standIns := [], harness := (true, "002f84d5fda64e3b6dbf635b81a7be9608d324dc66bc549211f3d85f0ef82a3d"), looks := false }, kinds := [], alts := [], laidByText := true, laidKinds := [.listed, .data], laidTests := true, laidLooks := .later }
def OrjoinEmptyCardSaid : Prop := Claim7.holds Tryz.pinned (.plain (OpenSpec.ofChange orjoinEmptySpec)) orjoinEmptyCard

/-- THE TIED CARD OF 'baldriclaw12.OrjoinGrows'. -/
def orjoinGrowsCard : Claim7 := { stood := { row := orjoinGrowsRow, standIns := [], harness := (true, "002f84d5fda64e3b6dbf635b81a7be9608d324dc66bc549211f3d85f0ef82a3d"), looks := false }, kinds := [], alts := [], laidByText := true, laidKinds := [.listed, .data], laidTests := true, laidLooks := .later }
def OrjoinGrowsCardSaid : Prop := Claim7.holds Tryz.pinned (.plain (OpenSpec.ofChange orjoinGrowsSpec)) orjoinGrowsCard

/-- THE TIED CARD OF 'baldriclaw12.OrjoinClosed'. -/
def orjoinClosedCard : Claim7 := { stood := { row := orjoinClosedRow, standIns := [], harness := (true, "002f84d5fda64e3b6dbf635b81a7be9608d324dc66bc549211f3d85f0ef82a3d"), looks := false }, kinds := [], alts := [], laidByText := true, laidKinds := [.listed, .data], laidTests := true, laidLooks := .later }
def OrjoinClosedCardSaid : Prop := Claim7.holds Tryz.pinned (.plain (OpenSpec.ofChange orjoinClosedSpec)) orjoinClosedCard

/-- THE SECOND FORM's CARD OF 'baldriclaw12.OrjoinTells'. -/
def orjoinTellsUptoCard : Claim7 := { stood := { row := orjoinTellsUptoRow, standIns := [], harness := (true, "002f84d5fda64e3b6dbf635b81a7be9608d324dc66bc549211f3d85f0ef82a3d"), looks := false }, kinds := [], alts := [], laidByText := true, laidKinds := [.listed, .data], laidTests := true, laidLooks := .later }
def OrjoinTellsUptoCardSaid : Prop := Claim7.holds Tryz.pinned (.plain (OpenSpec.upto orjoinTellsSpec)) orjoinTellsUptoCard

/-- THE SECOND FORM's CARD OF 'baldriclaw12.OrjoinPlain'. -/
def orjoinPlainUptoCard : Claim7 := { stood := { row := orjoinPlainUptoRow, standIns := [], harness := (true, "002f84d5fda64e3b6dbf635b81a7be9608d324dc66bc549211f3d85f0ef82a3d"), looks := false }, kinds := [], alts := [], laidByText := true, laidKinds := [.listed, .data], laidTests := true, laidLooks := .later }
def OrjoinPlainUptoCardSaid : Prop := Claim7.holds Tryz.pinned (.plain (OpenSpec.upto orjoinPlainSpec)) orjoinPlainUptoCard

/-- THE SECOND FORM's CARD OF 'baldriclaw12.OrjoinEmpty'. -/
def orjoinEmptyUptoCard : Claim7 := { stood := { row := orjoinEmptyUptoRow, standIns := [], harness := (true, "002f84d5fda64e3b6dbf635b81a7be9608d324dc66bc549211f3d85f0ef82a3d"), looks := false }, kinds := [], alts := [], laidByText := true, laidKinds := [.listed, .data], laidTests := true, laidLooks := .later }
def OrjoinEmptyUptoCardSaid : Prop := Claim7.holds Tryz.pinned (.plain (OpenSpec.upto orjoinEmptySpec)) orjoinEmptyUptoCard

/-- THE SECOND FORM's CARD OF 'baldriclaw12.OrjoinGrows'. -/
def orjoinGrowsUptoCard : Claim7 := { stood := { row := orjoinGrowsUptoRow, standIns := [], harness := (true, "002f84d5fda64e3b6dbf635b81a7be9608d324dc66bc549211f3d85f0ef82a3d"), looks := false }, kinds := [], alts := [], laidByText := true, laidKinds := [.listed, .data], laidTests := true, laidLooks := .later }
def OrjoinGrowsUptoCardSaid : Prop := Claim7.holds Tryz.pinned (.plain (OpenSpec.upto orjoinGrowsSpec)) orjoinGrowsUptoCard

/-- THE SECOND FORM's CARD OF 'baldriclaw12.OrjoinClosed'. -/
def orjoinClosedUptoCard : Claim7 := { stood := { row := orjoinClosedUptoRow, standIns := [], harness := (true, "002f84d5fda64e3b6dbf635b81a7be9608d324dc66bc549211f3d85f0ef82a3d"), looks := false }, kinds := [], alts := [], laidByText := true, laidKinds := [.listed, .data], laidTests := true, laidLooks := .later }
def OrjoinClosedUptoCardSaid : Prop := Claim7.holds Tryz.pinned (.plain (OpenSpec.upto orjoinClosedSpec)) orjoinClosedUptoCard
end Rows
end Go.Proofs.YtphohlpbjofddaaGreatDoor
