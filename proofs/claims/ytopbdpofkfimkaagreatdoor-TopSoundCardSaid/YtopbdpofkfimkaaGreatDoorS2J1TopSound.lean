/- A part of the proof. -/
import Derived.Test.YtopbdpofkfimkaaGreatDoorS2J0TopSound
set_option linter.all false
noncomputable section
namespace Go.Proofs.YtopbdpofkfimkaaGreatDoor
open Go Go.RowKit Go.Vm Go.ChangeShapes Go.WideShapes Go.ChangeAt
namespace LawTopSound
theorem ja : (jR.wf (OpenSpec.ofChange jS))=true:=by kernel_rfl
theorem jb : (laidOutB jP)=true:=by kernel_rfl
theorem jc : (mapsRowed jP)=true:=by kernel_rfl
theorem jd : (namedTie jP jR.named jS.vars)=true:=by kernel_rfl
theorem je : (jR.inPlace==jP.inPlace 3)=true:=by kernel_rfl
theorem jf : (jR.unfollowed==jP.unfollowed 3)=true:=by kernel_rfl
theorem jg : (jR.recurses==jP.recurses 3)=true:=by kernel_rfl
end LawTopSound
end Go.Proofs.YtopbdpofkfimkaaGreatDoor
