/- A part of the proof. -/
import Derived.Test.YtopbdpofkfimkaaGreatDoorS2J0TopSound
set_option linter.all false
noncomputable section
namespace Go.Proofs.YtopbdpofkfimkaaGreatDoor
open Go Go.RowKit Go.Vm Go.ChangeShapes Go.WideShapes Go.ChangeAt
namespace LawTopSound
theorem goes0{P:Program}(h:P.funcs.toList.any Func.goes=false)(f:FuncId):P.goes f=false:=by
 have h2:P.funcs.any Func.goes=false:=by rw [<-Array.any_toList];exact h
 unfold Program.goes
 rw [h2,Bool.and_false,Bool.or_false,List.any_eq_false]
 intro g _
 rw [List.any_eq_false] at h
 cases e:P.funcs[g]? with
 |none=>simp
 |some fn=>simpa using h fn (Array.mem_toList_iff.2 (Array.mem_of_getElem? e))
theorem goesBy0{P:Program}(c:OpenClaim)(h:P.funcs.toList.any Func.goes=false):false=c.goesBy P:=by
 unfold OpenClaim.goesBy Program.goesAt Program.goesFrom
 have h1:∀o:Option FuncId,o.any P.goes=false:=fun o=>by cases o with |none=>rfl |some f=>exact goes0 h f
 have h2:P.inits.toList.any P.goes=false:=by rw [List.any_eq_false];intro f _;rw [goes0 h f];simp
 rw [h1,h2]
 split<;>rfl
theorem jp : false=jR.goesBy jP:=goesBy0 _ (by kernel_rfl)
end LawTopSound
end Go.Proofs.YtopbdpofkfimkaaGreatDoor
