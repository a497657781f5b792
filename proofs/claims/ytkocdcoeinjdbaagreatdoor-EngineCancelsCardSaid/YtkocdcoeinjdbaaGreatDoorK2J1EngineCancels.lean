/- A part of the proof. -/
import Derived.Test.YtkocdcoeinjdbaaGreatDoorK2J0EngineCancels
set_option linter.all false
noncomputable section
namespace Go.Proofs.YtkocdcoeinjdbaaGreatDoor
open Go Go.RowKit Go.Vm Go.ChangeShapes Go.WideShapes Go.ChangeAt
namespace LawEngineCancels
theorem ja : (jR.wf (OpenSpec.ofChange jS))=true:=by kernel_rfl
theorem jb : (laidOutB jP)=true:=by kernel_rfl
theorem jc : (mapsRowed jP)=true:=by kernel_rfl
theorem jd : (namedTie jP jR.named jS.vars)=true:=by kernel_rfl
theorem je : (jR.inPlace==jP.inPlace 6)=true:=by kernel_rfl
theorem jf : (jR.unfollowed==jP.unfollowed 6)=true:=by kernel_rfl
theorem jg : (jR.recurses==jP.recurses 6)=true:=by kernel_rfl
end LawEngineCancels
end Go.Proofs.YtkocdcoeinjdbaaGreatDoor
