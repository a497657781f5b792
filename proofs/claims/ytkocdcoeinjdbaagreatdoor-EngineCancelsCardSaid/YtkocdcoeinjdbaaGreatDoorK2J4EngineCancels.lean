/- A part of the proof. -/
import Derived.Test.YtkocdcoeinjdbaaGreatDoorK2J0EngineCancels
set_option linter.all false
noncomputable section
namespace Go.Proofs.YtkocdcoeinjdbaaGreatDoor
open Go Go.RowKit Go.Vm Go.ChangeShapes Go.WideShapes Go.ChangeAt
namespace LawEngineCancels
theorem jo : true=jP.looks []:=by kernel_rfl
end LawEngineCancels
end Go.Proofs.YtkocdcoeinjdbaaGreatDoor
