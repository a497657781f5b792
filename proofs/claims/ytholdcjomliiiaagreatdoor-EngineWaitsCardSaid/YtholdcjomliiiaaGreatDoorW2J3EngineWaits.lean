/- A part of the proof. -/
import Derived.Test.YtholdcjomliiiaaGreatDoorW2J0EngineWaits
set_option linter.all false
noncomputable section
namespace Go.Proofs.YtholdcjomliiiaaGreatDoor
open Go Go.RowKit Go.Vm Go.ChangeShapes Go.WideShapes Go.ChangeAt
namespace LawEngineWaits
theorem jl : (jR.lifted==jP.liftsFinal)=true:=by kernel_rfl
theorem jm : (jP.make==some jR.make)=true:=by kernel_rfl
theorem jn : (jR.pinned==jR.pinnedBy)=true:=by kernel_rfl
end LawEngineWaits
end Go.Proofs.YtholdcjomliiiaaGreatDoor
