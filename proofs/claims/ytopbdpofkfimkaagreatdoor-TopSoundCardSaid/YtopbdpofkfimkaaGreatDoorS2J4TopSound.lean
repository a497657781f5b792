/- A part of the proof. -/
import Derived.Test.YtopbdpofkfimkaaGreatDoorS2J0TopSound
set_option linter.all false
noncomputable section
namespace Go.Proofs.YtopbdpofkfimkaaGreatDoor
open Go Go.RowKit Go.Vm Go.ChangeShapes Go.WideShapes Go.ChangeAt
namespace LawTopSound
theorem jo : true=jP.looks []:=by kernel_rfl
end LawTopSound
end Go.Proofs.YtopbdpofkfimkaaGreatDoor
