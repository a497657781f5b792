/- A part of the proof. -/
import Derived.Test.YtholdcjomliiiaaGreatDoorW2J0EngineWaits
set_option linter.all false
noncomputable section
namespace Go.Proofs.YtholdcjomliiiaaGreatDoor
open Go Go.RowKit Go.Vm Go.ChangeShapes Go.WideShapes Go.ChangeAt
namespace LawEngineWaits
theorem ja : (jR.wf (OpenSpec.ofChange jS))=true:=by kernel_rfl
theorem jb : (laidOutB jP)=true:=by kernel_rfl
theorem jc : (mapsRowed jP)=true:=by kernel_rfl
theorem jd : (namedTie jP jR.named jS.vars)=true:=by kernel_rfl
theorem je : (jR.inPlace==jP.inPlace 3)=true:=by kernel_rfl
theorem jf : (jR.unfollowed==jP.unfollowed 3)=true:=by kernel_rfl
theorem jg : (jR.recurses==jP.recurses 3)=true:=by kernel_rfl
end LawEngineWaits
end Go.Proofs.YtholdcjomliiiaaGreatDoor
