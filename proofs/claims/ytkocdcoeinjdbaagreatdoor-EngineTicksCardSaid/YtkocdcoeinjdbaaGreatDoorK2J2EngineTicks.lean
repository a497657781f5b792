/- A part of the proof. -/
import Derived.Test.YtkocdcoeinjdbaaGreatDoorK2J0EngineTicks
set_option linter.all false
noncomputable section
namespace Go.Proofs.YtkocdcoeinjdbaaGreatDoor
open Go Go.RowKit Go.Vm Go.ChangeShapes Go.WideShapes Go.ChangeAt
namespace LawEngineTicks
theorem jh : (jR.named==jP.varsNamed 5)=true:=by kernel_rfl
theorem ji : (jR.plainKeys==jP.plainKeys)=true:=by kernel_rfl
theorem jj : (jP.stopsHeard)=true:=by kernel_rfl
theorem jk : (jP.mayEnter)=true:=by kernel_rfl
end LawEngineTicks
end Go.Proofs.YtkocdcoeinjdbaaGreatDoor
