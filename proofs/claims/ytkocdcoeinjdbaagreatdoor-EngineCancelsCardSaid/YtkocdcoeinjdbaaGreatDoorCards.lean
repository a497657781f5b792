/-
  DERIVED. GIVEN WITH THE SEED: THE CARDS: each row of YtkocdcoeinjdbaaGreatDoorRows.lean that lists a variable, with what it lists TIED to the program's text (the seventh form; the later family's looks); each row that meets fmt, with fmt's text TOLD by the authors' own Lean function (tested against real Go, not proved from fmt's source: count such statements apart). THE CARD IS WHAT COUNTS. Prove the row's statement (the work); the ties are given (YtkocdcoeinjdbaaGreatDoorTie.lean); close each card by the builder's one call (the guide's Derived/Test/ToyasCard.lean, 'card_holds'). Laid BY PROGRAM, IN A SANDBOX (cutbox-door.mjs). By AI agents, Wed Nov 11 2026. No macro, syntax, notation, axiom, sorry.
-/
import Derived.Test.YtkocdcoeinjdbaaGreatDoorRows
import GoSem.ClaimSeven
namespace Go.Proofs.YtkocdcoeinjdbaaGreatDoor
namespace Rows

/-- THE TIED CARD OF 'baldriclaw24.EngineRuns'. -/
def engineRunsCard : Claim7 := { stood := { row := engineRunsRow, standIns := [], harness := (true, "1c1753074b2f12c08a2d8ed8b2bff1cdf48a3d6795104cecfb8d57c717a493a6"), looks := true }, kinds := [], alts := [], laidByText := true, laidKinds := [.listed, .data], laidTests := true, laidLooks := .later }
def EngineRunsCardSaid : Prop := Claim7.holds Tryz.pinned (.plain (OpenSpec.ofChange engineRunsSpec)) engineRunsCard

/-- THE TIED CARD OF 'baldriclaw24.EngineKeeps'. -/
def engineKeepsCard : Claim7 := { stood := { row := engineKeepsRow, standIns := [], harness := (true, "1c1753074b2f12c08a2d8ed8b2bff1cdf48a3d6795104cecfb8d57c717a493a6"), looks := true }, kinds := [], alts := [], laidByText := true, laidKinds := [.listed, .data], laidTests := true, laidLooks := .later }
def EngineKeepsCardSaid : Prop := Claim7.holds Tryz.pinned (.plain (OpenSpec.ofChange engineKeepsSpec)) engineKeepsCard

/-- THE TIED CARD OF 'baldriclaw24.EngineTicks'. -/
def engineTicksCard : Claim7 := { stood := { row := engineTicksRow, standIns := [], harness := (true, "1c1753074b2f12c08a2d8ed8b2bff1cdf48a3d6795104cecfb8d57c717a493a6"), looks := true }, kinds := [], alts := [], laidByText := true, laidKinds := [.listed, .data], laidTests := true, laidLooks := .later }
def EngineTicksCardSaid : Prop := Claim7.holds Tryz.pinned (.plain (OpenSpec.ofChange engineTicksSpec)) engineTicksCard

/-- THE TIED CARD OF 'baldriclaw24.EngineCancels'. -/
def engineCancelsCard : Claim7 := { stood := { row := engineCancelsRow, standIns := [], harness := (true, "1c1753074b2f12c08a2d8ed8b2bff1cdf48a3d6795104cecfb8d57c717a493a6"), looks := true }, kinds := [], alts := [], laidByText := true, laidKinds := [.listed, .data], laidTests := true, laidLooks := .later }
def EngineCancelsCardSaid : Prop := Claim7.holds Tryz.pinned (.plain (OpenSpec.ofChange engineCancelsSpec)) engineCancelsCard

/-- THE TIED CARD OF 'baldriclaw24.EngineWaits'. -/
def engineWaitsCard : Claim7 := { stood := { row := engineWaitsRow, standIns := [], harness := (true, "1c1753074b2f12c08a2d8ed8b2bff1cdf48a3d6795104cecfb8d57c717a493a6"), looks := true }, kinds := [], alts := [], laidByText := true, laidKinds := [.listed, .data], laidTests := true, laidLooks := .later }
def EngineWaitsCardSaid : Prop := Claim7.holds Tryz.pinned (.plain (OpenSpec.ofChange engineWaitsSpec)) engineWaitsCard

/-- THE SECOND FORM's CARD OF 'baldriclaw24.EngineRuns'. -/
def engineRunsUptoCard : Claim7 := { stood := { row := engineRunsUptoRow, standIns := [], harness := (true, "1c1753074b2f12c08a2d8ed8b2bff1cdf48a3d6795104cecfb8d57c717a493a6"), looks := true }, kinds := [], alts := [], laidByText := true, laidKinds := [.listed, .data], laidTests := true, laidLooks := .later }
def EngineRunsUptoCardSaid : Prop := Claim7.holds Tryz.pinned (.plain (OpenSpec.upto engineRunsSpec)) engineRunsUptoCard

/-- THE SECOND FORM's CARD OF 'baldriclaw24.EngineKeeps'. -/
def engineKeepsUptoCard : Claim7 := { stood := { row := engineKeepsUptoRow, standIns := [], harness := (true, "1c1753074b2f12c08a2d8ed8b2bff1cdf48a3d6795104cecfb8d57c717a493a6"), looks := true }, kinds := [], alts := [], laidByText := true, laidKinds := [.listed, .data], laidTests := true, laidLooks := .later }
def EngineKeepsUptoCardSaid : Prop := Claim7.holds Tryz.pinned (.plain (OpenSpec.upto engineKeepsSpec)) engineKeepsUptoCard

/-- THE SECOND FORM's CARD OF 'baldriclaw24.EngineTicks'. -/
def engineTicksUptoCard : Claim7 := { stood := { row := engineTicksUptoRow, standIns := [], harness := (true, "1c1753074b2f12c08a2d8ed8b2bff1cdf48a3d6795104cecfb8d57c717a493a6"), looks := true }, kinds := [], alts := [], laidByText := true, laidKinds := [.listed, .data], laidTests := true, laidLooks := .later }
def EngineTicksUptoCardSaid : Prop := Claim7.holds Tryz.pinned (.plain (OpenSpec.upto engineTicksSpec)) engineTicksUptoCard

/-- THE SECOND FORM's CARD OF 'baldriclaw24.EngineCancels'. -/
def engineCancelsUptoCard : Claim7 := { stood := { row := engineCancelsUptoRow, standIns := [], harness := (true, "1c1753074b2f12c08a2d8ed8b2bff1cdf48a3d6795104cecfb8d57c717a493a6"), looks := true }, kinds := [], alts := [], laidByText := true, laidKinds := [.listed, .data], laidTests := true, laidLooks := .later }
def EngineCancelsUptoCardSaid : Prop := Claim7.holds Tryz.pinned (.plain (OpenSpec.upto engineCancelsSpec)) engineCancelsUptoCard

/-- THE SECOND FORM's CARD OF 'baldriclaw24.EngineWaits'. -/
def engineWaitsUptoCard : Claim7 := { stood := { row := engineWaitsUptoRow, standIns := [], harness := (true, "1c1753074b2f12c08a2d8ed8b2bff1cdf48a3d6795104cecfb8d57c717a493a6"), looks := true }, kinds := [], alts := [], laidByText := true, laidKinds := [.listed, .data], laidTests := true, laidLooks := .later }
def EngineWaitsUptoCardSaid : Prop := Claim7.holds Tryz.pinned (.plain (OpenSpec.upto engineWaitsSpec)) engineWaitsUptoCard
end Rows
end Go.Proofs.YtkocdcoeinjdbaaGreatDoor
