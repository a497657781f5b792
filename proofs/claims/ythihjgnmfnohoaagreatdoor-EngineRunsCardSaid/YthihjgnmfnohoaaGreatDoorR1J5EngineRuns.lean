/- A part of the proof. -/
import Derived.Test.YthihjgnmfnohoaaGreatDoorR1J0EngineRuns
set_option linter.all false
noncomputable section
namespace Go.Proofs.YthihjgnmfnohoaaGreatDoor
open Go Go.RowKit Go.Vm Go.ChangeShapes Go.WideShapes Go.ChangeAt
namespace LawEngineRuns
theorem jp : false=jR.goesBy jP:=by kernel_rfl
end LawEngineRuns
end Go.Proofs.YthihjgnmfnohoaaGreatDoor
