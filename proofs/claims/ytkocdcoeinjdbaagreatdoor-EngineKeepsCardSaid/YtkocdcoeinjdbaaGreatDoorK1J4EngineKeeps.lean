/- A part of the proof. -/
import Derived.Test.YtkocdcoeinjdbaaGreatDoorK1J0EngineKeeps
set_option linter.all false
noncomputable section
namespace Go.Proofs.YtkocdcoeinjdbaaGreatDoor
open Go Go.RowKit Go.Vm Go.ChangeShapes Go.WideShapes Go.ChangeAt
namespace LawEngineKeeps
theorem jo : true=jP.looks []:=by kernel_rfl
end LawEngineKeeps
end Go.Proofs.YtkocdcoeinjdbaaGreatDoor
