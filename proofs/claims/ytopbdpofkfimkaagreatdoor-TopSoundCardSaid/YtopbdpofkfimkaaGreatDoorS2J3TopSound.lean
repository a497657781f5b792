/- A part of the proof. -/
import Derived.Test.YtopbdpofkfimkaaGreatDoorS2J0TopSound
set_option linter.all false
noncomputable section
namespace Go.Proofs.YtopbdpofkfimkaaGreatDoor
open Go Go.RowKit Go.Vm Go.ChangeShapes Go.WideShapes Go.ChangeAt
namespace LawTopSound
theorem jl : (jR.lifted==jP.liftsFinal)=true:=by kernel_rfl
theorem jm : (jP.make==some jR.make)=true:=by kernel_rfl
theorem jn : (jR.pinned==jR.pinnedBy)=true:=by kernel_rfl
end LawTopSound
end Go.Proofs.YtopbdpofkfimkaaGreatDoor
