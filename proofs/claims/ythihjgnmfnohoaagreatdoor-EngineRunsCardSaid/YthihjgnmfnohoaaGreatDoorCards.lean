/-
  DERIVED. GIVEN WITH THE SEED: THE CARDS: each row of YthihjgnmfnohoaaGreatDoorRows.lean that lists a variable, with what it lists TIED to the program's text (the seventh form; the later family's looks); each row that meets fmt, with fmt's text TOLD by the authors' own Lean function (tested against real Go, not proved from fmt's source: count such statements apart). THE CARD IS WHAT COUNTS. Prove the row's statement (the work); the ties are given (YthihjgnmfnohoaaGreatDoorTie.lean); close each card by the builder's one call (the guide's Derived/Test/ToyasCard.lean, 'card_holds'). Laid BY PROGRAM, IN A SANDBOX (cutbox-door.mjs). By AI agents, Wed Nov 11 2026. No macro, syntax, notation, axiom, sorry.
-/
import Derived.Test.YthihjgnmfnohoaaGreatDoorRows
import GoSem.ClaimSeven
namespace Go.Proofs.YthihjgnmfnohoaaGreatDoor
namespace Rows

/-- THE TIED CARD OF 'baldriclaw24.EngineRuns'. -/
def engineRunsCard : Claim7 := { stood := { row := engineRunsRow, standIns := [], harness := (true, "2e18fb9f5ea69b77bf07134270fd05792e56ec643d554afa51ce32626db2b48f"), looks := true }, kinds := [], alts := [], laidByText := true, laidKinds := [.listed, .data], laidTests := true, laidLooks := .later }
def EngineRunsCardSaid : Prop := Claim7.holds Tryz.pinned (.plain (OpenSpec.ofChange engineRunsSpec)) engineRunsCard

/-- THE SECOND FORM's CARD OF 'baldriclaw24.EngineRuns'. -/
def engineRunsUptoCard : Claim7 := { stood := { row := engineRunsUptoRow, standIns := [], harness := (true, "2e18fb9f5ea69b77bf07134270fd05792e56ec643d554afa51ce32626db2b48f"), looks := true }, kinds := [], alts := [], laidByText := true, laidKinds := [.listed, .data], laidTests := true, laidLooks := .later }
def EngineRunsUptoCardSaid : Prop := Claim7.holds Tryz.pinned (.plain (OpenSpec.upto engineRunsSpec)) engineRunsUptoCard
end Rows
end Go.Proofs.YthihjgnmfnohoaaGreatDoor
