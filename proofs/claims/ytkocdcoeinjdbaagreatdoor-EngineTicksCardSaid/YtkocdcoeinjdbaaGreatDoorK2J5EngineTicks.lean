/- A part of the proof. -/
import Derived.Test.YtkocdcoeinjdbaaGreatDoorK2J0EngineTicks
set_option linter.all false
noncomputable section
namespace Go.Proofs.YtkocdcoeinjdbaaGreatDoor
open Go Go.RowKit Go.Vm Go.ChangeShapes Go.WideShapes Go.ChangeAt
namespace LawEngineTicks
theorem jp : false=jR.goesBy jP:=by kernel_rfl
end LawEngineTicks
end Go.Proofs.YtkocdcoeinjdbaaGreatDoor
