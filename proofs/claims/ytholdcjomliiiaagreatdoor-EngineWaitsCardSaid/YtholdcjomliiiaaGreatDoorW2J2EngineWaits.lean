/- A part of the proof. -/
import Derived.Test.YtholdcjomliiiaaGreatDoorW2J0EngineWaits
set_option linter.all false
noncomputable section
namespace Go.Proofs.YtholdcjomliiiaaGreatDoor
open Go Go.RowKit Go.Vm Go.ChangeShapes Go.WideShapes Go.ChangeAt
namespace LawEngineWaits
theorem jh : (jR.named==jP.varsNamed 3)=true:=by kernel_rfl
theorem ji : (jR.plainKeys==jP.plainKeys)=true:=by kernel_rfl
theorem jj : (jP.stopsHeard)=true:=by kernel_rfl
theorem jk : (jP.mayEnter)=true:=by kernel_rfl
end LawEngineWaits
end Go.Proofs.YtholdcjomliiiaaGreatDoor
