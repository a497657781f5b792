/-
  DERIVED. GIVEN WITH THE SEED: THE CARDS: each row of YtdogcfnkpfekmaaGreatDoorRows.lean that lists a variable, with what it lists TIED to the program's text (the seventh form; the later family's looks); each row that meets fmt, with fmt's text TOLD by the authors' own Lean function (tested against real Go, not proved from fmt's source: count such statements apart). THE CARD IS WHAT COUNTS. Prove the row's statement (the work); the ties are given (YtdogcfnkpfekmaaGreatDoorTie.lean); close each card by the builder's one call (the guide's Derived/Test/ToyasCard.lean, 'card_holds'). Laid BY PROGRAM, IN A SANDBOX (cutbox-door.mjs). By AI agents, Wed Nov 11 2026. No macro, syntax, notation, axiom, sorry.
-/
import Derived.Test.YtdogcfnkpfekmaaGreatDoorRows
import GoSem.ClaimSeven
namespace Go.Proofs.YtdogcfnkpfekmaaGreatDoor
namespace Rows

/-- THE TIED CARD OF 'baldriclaw17.SoundTells'. -/
def soundTellsCard : Claim7 := { stood := { row := soundTellsRow, standIns := [], harness := (true, "771ec4e614c6ba662463237d52e87425835a0e6bfd08e0c86a45a4253e497e8f"), looks := true }, kinds := [], alts := [], laidByText := true, laidKinds := [.listed, .data], laidTests := true, laidLooks := .later }
def SoundTellsCardSaid : Prop := Claim7.holds Tryz.pinned (.plain (OpenSpec.ofChange soundTellsSpec)) soundTellsCard

/-- THE TIED CARD OF 'baldriclaw17.SoundGrows'. -/
def soundGrowsCard : Claim7 := { stood := { row := soundGrowsRow, standIns := [], harness := (true, "771ec4e614c6ba662463237d52e87425835a0e6bfd08e0c86a45a4253e497e8f"), looks := true }, kinds := [], alts := [], laidByText := true, laidKinds := [.listed, .data], laidTests := true, laidLooks := .later }
def SoundGrowsCardSaid : Prop := Claim7.holds Tryz.pinned (.plain (OpenSpec.ofChange soundGrowsSpec)) soundGrowsCard

/-- THE TIED CARD OF 'baldriclaw17.SoundMeans'. -/
def soundMeansCard : Claim7 := { stood := { row := soundMeansRow, standIns := [], harness := (true, "771ec4e614c6ba662463237d52e87425835a0e6bfd08e0c86a45a4253e497e8f"), looks := true }, kinds := [], alts := [], laidByText := true, laidKinds := [.listed, .data], laidTests := true, laidLooks := .later }
def SoundMeansCardSaid : Prop := Claim7.holds Tryz.pinned (.plain (OpenSpec.ofChange soundMeansSpec)) soundMeansCard

/-- THE SECOND FORM's CARD OF 'baldriclaw17.SoundTells'. -/
def soundTellsUptoCard : Claim7 := { stood := { row := soundTellsUptoRow, standIns := [], harness := (true, "771ec4e614c6ba662463237d52e87425835a0e6bfd08e0c86a45a4253e497e8f"), looks := true }, kinds := [], alts := [], laidByText := true, laidKinds := [.listed, .data], laidTests := true, laidLooks := .later }
def SoundTellsUptoCardSaid : Prop := Claim7.holds Tryz.pinned (.plain (OpenSpec.upto soundTellsSpec)) soundTellsUptoCard

/-- THE SECOND FORM's CARD OF 'baldriclaw17.SoundGrows'. -/
def soundGrowsUptoCard : Claim7 := { stood := { row := soundGrowsUptoRow, standIns := [], harness := (true, "771ec4e614c6ba662463237d52e87425835a0e6bfd08e0c86a45a4253e497e8f"), looks := true }, kinds := [], alts := [], laidByText := true, laidKinds := [.listed, .data], laidTests := true, laidLooks := .later }
def SoundGrowsUptoCardSaid : Prop := Claim7.holds Tryz.pinned (.plain (OpenSpec.upto soundGrowsSpec)) soundGrowsUptoCard

/-- THE SECOND FORM's CARD OF 'baldriclaw17.SoundMeans'. -/
def soundMeansUptoCard : Claim7 := { stood := { row := soundMeansUptoRow, standIns := [], harness := (true, "771ec4e614c6ba662463237d52e87425835a0e6bfd08e0c86a45a4253e497e8f"), looks := true }, kinds := [], alts := [], laidByText := true, laidKinds := [.listed, .data], laidTests := true, laidLooks := .later }
def SoundMeansUptoCardSaid : Prop := Claim7.holds Tryz.pinned (.plain (OpenSpec.upto soundMeansSpec)) soundMeansUptoCard
end Rows
end Go.Proofs.YtdogcfnkpfekmaaGreatDoor
