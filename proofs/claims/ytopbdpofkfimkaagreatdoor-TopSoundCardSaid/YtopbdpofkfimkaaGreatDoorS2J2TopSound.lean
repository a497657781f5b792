/- A part of the proof. -/
import Derived.Test.YtopbdpofkfimkaaGreatDoorS2J0TopSound
set_option linter.all false
noncomputable section
namespace Go.Proofs.YtopbdpofkfimkaaGreatDoor
open Go Go.RowKit Go.Vm Go.ChangeShapes Go.WideShapes Go.ChangeAt
namespace LawTopSound
theorem jh : (jR.named==jP.varsNamed 3)=true:=by kernel_rfl
theorem ji : (jR.plainKeys==jP.plainKeys)=true:=by kernel_rfl
theorem jj : (jP.stopsHeard)=true:=by kernel_rfl
theorem jk : (jP.mayEnter)=true:=by kernel_rfl
end LawTopSound
end Go.Proofs.YtopbdpofkfimkaaGreatDoor
