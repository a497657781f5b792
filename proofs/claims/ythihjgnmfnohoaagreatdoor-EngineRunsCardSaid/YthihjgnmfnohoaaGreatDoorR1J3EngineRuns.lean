/- A part of the proof. -/
import Derived.Test.YthihjgnmfnohoaaGreatDoorR1J0EngineRuns
set_option linter.all false
noncomputable section
namespace Go.Proofs.YthihjgnmfnohoaaGreatDoor
open Go Go.RowKit Go.Vm Go.ChangeShapes Go.WideShapes Go.ChangeAt
namespace LawEngineRuns
theorem jl : (jR.lifted==jP.liftsFinal)=true:=by kernel_rfl
theorem jm : (jP.make==some jR.make)=true:=by kernel_rfl
theorem jn : (jR.pinned==jR.pinnedBy)=true:=by kernel_rfl
end LawEngineRuns
end Go.Proofs.YthihjgnmfnohoaaGreatDoor
