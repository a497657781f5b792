/- A part of the proof. -/
import Derived.Test.YtkocdcoeinjdbaaGreatDoorK2J0EngineCancels
set_option linter.all false
noncomputable section
namespace Go.Proofs.YtkocdcoeinjdbaaGreatDoor
open Go Go.RowKit Go.Vm Go.ChangeShapes Go.WideShapes Go.ChangeAt
namespace LawEngineCancels
theorem jl : (jR.lifted==jP.liftsFinal)=true:=by kernel_rfl
theorem jm : (jP.make==some jR.make)=true:=by kernel_rfl
theorem jn : (jR.pinned==jR.pinnedBy)=true:=by kernel_rfl
end LawEngineCancels
end Go.Proofs.YtkocdcoeinjdbaaGreatDoor
