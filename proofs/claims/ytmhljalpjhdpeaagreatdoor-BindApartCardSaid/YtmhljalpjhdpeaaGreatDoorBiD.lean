/- A part of the proof; what it holds is told at each theorem. -/
import Derived.Test.YtmhljalpjhdpeaaGreatDoorBiC
set_option linter.unusedVariables false
set_option linter.unusedSimpArgs false
set_option linter.unusedSectionVars false
set_option linter.deprecated false
noncomputable section
namespace Go.Proofs
open Go Go.RowKit Go.Vm
def ndB : List (List Int)→Bool
 | []=>true
 | x::l=>(l.all fun y=>!decide (x=y))&&ndB l
theorem Qt7 {l:List (List Int)}(h:ndB l=true):l.Pairwise (·≠·):=by
 induction l with
 | nil=>exact List.Pairwise.nil
 | cons x l ih=>
  simp only [ndB,Bool.and_eq_true,List.all_eq_true,Bool.not_eq_true',decide_eq_false_iff_not]at h
  exact List.pairwise_cons.2 ⟨h.1,ih h.2⟩
def chN (o:Option (List (List Int))):Bool:=match o with
 | some r=>ndB r
 | none=>false
theorem Qrn {kind arcs:Int}(h:chN (Q7 kind arcs)=true):(chC kind arcs).Pairwise (·≠·):=by
 unfold chC
 cases e:Q7 kind arcs with
 | none=>exact List.Pairwise.nil
 | some r=>rw [e]at h;exact Qt7 h
set_option maxRecDepth 100000 in
theorem Qs7 (kind arcs:Int):(chC kind arcs).Pairwise (·≠·):=by
 by_cases hg:((decide (arcs<0))||((decide (16<arcs))||((kind==3)&&(decide (4<arcs)))))=true
 ·have:Q7 kind arcs=some []:=by unfold Q7;rw [hg];rfl
  unfold chC;rw [this];exact List.Pairwise.nil
 ·simp only [Bool.or_eq_true,Bool.and_eq_true,decide_eq_true_eq,beq_iff_eq,not_or,not_and]at hg
  obtain⟨h0,h1,h2⟩:=hg
  by_cases e1:kind=1
  ·subst e1
   rcases near h0 h1 with rfl | rfl | rfl | rfl | rfl | rfl | rfl | rfl | rfl | rfl | rfl | rfl | rfl | rfl | rfl | rfl | rfl<;>exact Qrn (by kernel_rfl)
  ·by_cases e2:kind=2
   ·subst e2
    rcases near h0 h1 with rfl | rfl | rfl | rfl | rfl | rfl | rfl | rfl | rfl | rfl | rfl | rfl | rfl | rfl | rfl | rfl | rfl<;>exact Qrn (by kernel_rfl)
   ·by_cases e3:kind=3
    ·subst e3
     have h3:=h2 rfl
     have:arcs=0∨arcs=1∨arcs=2∨arcs=3∨arcs=4:=by omega
     rcases this with rfl | rfl | rfl | rfl | rfl<;>exact Qrn (by kernel_rfl)
    ·have:chC kind arcs=[]:=by
      have f1:(kind==1)=false:=by simpa using e1
      have f2:(kind==2)=false:=by simpa using e2
      have f3:(kind==3)=false:=by simpa using e3
      unfold chC Q7 QbX
      rw [f1,f2,f3]
      cases ((decide (arcs<0))||((decide (16<arcs))||(false&&(decide (4<arcs)))))<;>rfl
     rw [this];exact List.Pairwise.nil
theorem QtH (n:TNet)(m:List (List (Int×Int)))(task:Int){ins outs:List (List Int)}(p:List Int)(hi:ins.Pairwise (·≠·))(ho:outs.Pairwise (·≠·)):(QdZ n m task ins outs p).Pairwise (·≠·):=by
 unfold QdZ
 cases QaQ n m task p with
 | none=>exact List.Pairwise.nil
 | some x=>
  obtain⟨c,b⟩:=x
  simp only
  by_cases hc:c=0∧QM b=some 0
  ·rw [if_pos hc,List.pairwise_flatMap]
   refine⟨fun e _=>?_,hi.imp fun {x y} h o1 h1 o2 h2 e=>?_⟩
   ·split
    ·rw [List.pairwise_map]
     exact(ho.filter _).imp fun h e=>h (Ql.mk.inj e).2.2.2
    ·exact List.Pairwise.nil
   ·split at h1
    ·split at h2
     ·obtain⟨_,_,rfl⟩:=List.mem_map.1 h1
      obtain⟨_,_,e2⟩:=List.mem_map.1 h2
      rw [←e2]at e
      exact h (Ql.mk.inj e).2.2.1
     ·cases h2
    ·cases h1
  ·rw [if_neg hc];exact List.Pairwise.nil
theorem QtI (n:TNet)(m:List (List (Int×Int)))(task:Int):(QaT n m task).Pairwise (·≠·):=by
 unfold QaT
 cases idx n.Tasks task with
 | none=>exact List.Pairwise.nil
 | some t=>
  simp only
  rw [List.pairwise_flatMap]
  refine⟨fun p _=>QtH n m task p (Qs7 _ _) (Qs7 _ _),(Qtv _).imp fun {x y} h o1 h1 o2 h2 e=>?_⟩
  have e1:=(QnP.1 h1).2.1
  have e2:=(QnP.1 h2).2.1
  rw [e]at e1
  exact h (e1.symm.trans e2)
theorem Quu (n:TNet)(m:List (List (Int×Int))):(allL n m).Pairwise (·≠·):=by
 unfold allL
 rw [List.pairwise_flatMap]
 refine⟨fun k _=>QtI n m _,List.pairwise_lt_range.imp fun {x y} h o1 h1 o2 h2 e=>?_⟩
 have e1:=(QiP.1 h1).1
 have e2:=(QiP.1 h2).1
 rw [e]at e1
 omega
end Go.Proofs
