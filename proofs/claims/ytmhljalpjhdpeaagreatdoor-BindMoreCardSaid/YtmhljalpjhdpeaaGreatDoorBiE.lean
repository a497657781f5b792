/- A part of the proof; what it holds is told at each theorem. -/
import Derived.Test.YtmhljalpjhdpeaaGreatDoorBiC
set_option linter.unusedVariables false
set_option linter.unusedSimpArgs false
set_option linter.unusedSectionVars false
set_option linter.deprecated false
noncomputable section
namespace Go.Proofs
open Go Go.RowKit Go.Vm
theorem Qtv {n:TNet}{m:List (List (Int×Int))}{task:Int}{o:Qm}(h:QcN n)(hm:lenL (lenL fun _=>True) m)(ho:o∈Qba n m task):QpK n o:=by
 obtain⟨_,e,he,h1,h2,h3,_⟩:=QjX.1 ho
 have hem:e∈n.Tasks:=by
  unfold idx at he
  split at he
  ·exact List.mem_of_getElem? he
  ·cases he
 have hv:=(h.tk e hem).1
 have hl:=QtO h1
 have h4:=(Qq9 e.Join e.Ins.length).2.2 _ h2
 have h5:=(Qq9 e.Split e.Outs.length).2.2 _ h3
 have:(szB n e).length=e.Vars.length:=by simp [szB]
 exact⟨by omega,by omega,by omega⟩
theorem Quf {n:TNet}{m:List (List (Int×Int))}{o:Qm}(h:QcN n)(hm:lenL (lenL fun _=>True) m)(ho:o∈allL n m):QpK n o:=Qtv h hm (Qrw.1 ho)
end Go.Proofs
