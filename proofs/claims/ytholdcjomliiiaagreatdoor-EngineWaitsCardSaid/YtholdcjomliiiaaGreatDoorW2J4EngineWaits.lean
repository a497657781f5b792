/- A part of the proof. -/
import Derived.Test.YtholdcjomliiiaaGreatDoorW2J0EngineWaits
set_option linter.all false
noncomputable section
namespace Go.Proofs.YtholdcjomliiiaaGreatDoor
open Go Go.RowKit Go.Vm Go.ChangeShapes Go.WideShapes Go.ChangeAt
namespace LawEngineWaits
theorem jo : true=jP.looks []:=by kernel_rfl
end LawEngineWaits
end Go.Proofs.YtholdcjomliiiaaGreatDoor
