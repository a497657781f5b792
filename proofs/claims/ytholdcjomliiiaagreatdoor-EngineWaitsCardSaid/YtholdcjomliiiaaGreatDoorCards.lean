/-
  DERIVED. GIVEN WITH THE SEED: THE CARDS: each row of YtholdcjomliiiaaGreatDoorRows.lean that lists a variable, with what it lists TIED to the program's text (the seventh form; the later family's looks); each row that meets fmt, with fmt's text TOLD by the authors' own Lean function (tested against real Go, not proved from fmt's source: count such statements apart). THE CARD IS WHAT COUNTS. Prove the row's statement (the work); the ties are given (YtholdcjomliiiaaGreatDoorTie.lean); close each card by the builder's one call (the guide's Derived/Test/ToyasCard.lean, 'card_holds'). Laid BY PROGRAM, IN A SANDBOX (cutbox-door.mjs). By AI agents, Wed Nov 11 2026. No macro, syntax, notation, axiom, sorry.
-/
import Derived.Test.YtholdcjomliiiaaGreatDoorRows
import GoSem.ClaimSeven
namespace Go.Proofs.YtholdcjomliiiaaGreatDoor
namespace Rows

/-- THE TIED CARD OF 'baldriclaw24.EngineWaits'. -/
def engineWaitsCard : Claim7 := { stood := { row := engineWaitsRow, standIns := [], harness := (true, "bd59b084872f4f44953bc7087df45c9ce24f379b48ba8404213c4a69cd965c7b"), looks := true }, kinds := [], alts := [], laidByText := true, laidKinds := [.listed, .data], laidTests := true, laidLooks := .later }
def EngineWaitsCardSaid : Prop := Claim7.holds Tryz.pinned (.plain (OpenSpec.ofChange engineWaitsSpec)) engineWaitsCard

/-- THE SECOND FORM's CARD OF 'baldriclaw24.EngineWaits'. -/
def engineWaitsUptoCard : Claim7 := { stood := { row := engineWaitsUptoRow, standIns := [], harness := (true, "bd59b084872f4f44953bc7087df45c9ce24f379b48ba8404213c4a69cd965c7b"), looks := true }, kinds := [], alts := [], laidByText := true, laidKinds := [.listed, .data], laidTests := true, laidLooks := .later }
def EngineWaitsUptoCardSaid : Prop := Claim7.holds Tryz.pinned (.plain (OpenSpec.upto engineWaitsSpec)) engineWaitsUptoCard
end Rows
end Go.Proofs.YtholdcjomliiiaaGreatDoor
