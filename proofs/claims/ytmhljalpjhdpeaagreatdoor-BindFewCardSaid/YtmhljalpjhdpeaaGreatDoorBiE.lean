/- A part of the proof; what it holds is told at each theorem. -/
import Derived.Test.YtmhljalpjhdpeaaGreatDoorBiC
set_option linter.unusedVariables false
set_option linter.unusedSimpArgs false
set_option linter.unusedSectionVars false
set_option linter.deprecated false
noncomputable section
namespace Go.Proofs
open Go Go.RowKit Go.Vm
theorem QsW (a b:Ql)(h1:a.Vars.length≤maxLen)(h2:a.Ins.length≤maxLen)(h3:a.Outs.length≤maxLen):∃r,Qd0 a b=some r∧(r=true↔a=b):=by
 unfold Qd0 QjI
 have key:a=b↔a.Task=b.Task∧a.Vars=b.Vars∧a.Ins=b.Ins∧a.Outs=b.Outs:=by
  cases a;cases b;simp
 rw [key,Qmx _ _ h1,Qmx _ _ h2,Qmx _ _ h3]
 simp only [Option.bind_some]
 by_cases c1:a.Task=b.Task
 ·by_cases c2:a.Vars=b.Vars
  ·by_cases c3:a.Ins=b.Ins
   ·by_cases c4:a.Outs=b.Outs
    ·exact⟨true,by simp [c1,c2,c3,c4,Qch],by simp [c1,c2,c3,c4]⟩
    ·exact⟨false,by simp [c1,c2,c3,c4,Qch],by simp [c4]⟩
   ·exact⟨false,by simp [c1,c2,c3,Qch],by simp [c3]⟩
  ·exact⟨false,by simp [c1,c2,Qch],by simp [c2]⟩
 ·exact⟨false,by rw [show(a.Task==b.Task)=false by simpa using c1];rfl,by simp [c1]⟩
theorem QtU {n:TNet}{a b:Ql}(h:QnN n a):∃r,Qd0 a b=some r∧(r=true↔a=b):=by
 obtain⟨h1,h2,h3⟩:=h
 exact QsW a b (by unfold maxLen;omega) (by unfold maxLen;omega) (by unfold maxLen;omega)
theorem Qqk {n:TNet}{a:Ql}(h:QnN n a):Qd0 a a=some true:=by
 obtain⟨r,h1,h2⟩:=QtU (b:=a) h
 rw [h1,h2.2 rfl]
theorem Qrf {n:TNet}{m:List (List (Int×Int))}{task:Int}{o:Ql}(h:Qfo n)(hm:lenL (lenL fun _=>True) m)(ho:o∈Qag n m task):QnN n o:=by
 obtain⟨_,e,he,h1,h2,h3,_⟩:=Qlq.1 ho
 have hem:e∈n.Tasks:=by
  unfold idx at he
  split at he
  ·exact List.mem_of_getElem? he
  ·cases he
 have hv:=(h.tk e hem).1
 have hl:=QtL h1
 have h4:=(QsV e.Join e.Ins.length).2.2 _ h2
 have h5:=(QsV e.Split e.Outs.length).2.2 _ h3
 have:(szB n e).length=e.Vars.length:=by simp [szB]
 exact⟨by omega,by omega,by omega⟩
theorem Que {n:TNet}{m:List (List (Int×Int))}{o:Ql}(h:Qfo n)(hm:lenL (lenL fun _=>True) m)(ho:o∈allL n m):QnN n o:=Qrf h hm (QtT.1 ho)
end Go.Proofs
