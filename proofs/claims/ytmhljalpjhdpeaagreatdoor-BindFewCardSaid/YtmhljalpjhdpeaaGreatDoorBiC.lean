/- A part of the proof; what it holds is told at each theorem. -/
import Derived.Test.YtmhljalpjhdpeaaGreatDoorBiB
import Derived.KernelRfl
set_option linter.unusedVariables false
set_option linter.unusedSimpArgs false
set_option linter.unusedSectionVars false
set_option linter.deprecated false
noncomputable section
namespace Go.Proofs
open Go Go.RowKit Go.Vm
theorem QsU {n:TNet}{m:List (List (Int×Int))}{task:Int}{ins outs:List (List Int)}{p:List Int}{o:Ql}:
  o∈Qfp n m task ins outs p↔o.Task=task∧o.Vars=p∧o.Ins∈ins∧o.Outs∈outs∧∃b,QbX n m task p=some (0,b)∧QU b=some 0∧QV b o.Ins=some 0∧QaF b o.Outs=some 0:=by
 unfold Qfp
 cases hb:QbX n m task p with
 | none=>simp
 | some x=>
  obtain⟨c,b⟩:=x
  simp only
  by_cases hc:c=0∧QU b=some 0
  ·rw [if_pos hc]
   obtain⟨rfl,hg⟩:=hc
   simp only [List.mem_flatMap]
   constructor
   ·rintro ⟨e,he,h⟩
    by_cases ht:QV b e=some 0
    ·rw [if_pos ht]at h
     obtain⟨r,hr,rfl⟩:=List.mem_map.1 h
     obtain⟨h1,h2⟩:=List.mem_filter.1 hr
     exact⟨rfl,rfl,he,h1,b,rfl,hg,ht,of_decide_eq_true h2⟩
    ·rw [if_neg ht]at h;cases h
   ·rintro ⟨h1,h2,h3,h4,b',h5,h6,h7,h8⟩
    cases h5
    refine⟨o.Ins,h3,?_⟩
    rw [if_pos h7]
    refine List.mem_map.2 ⟨o.Outs,List.mem_filter.2 ⟨h4,decide_eq_true h8⟩,?_⟩
    cases o
    simp only at h1 h2
    subst h1;subst h2;rfl
  ·rw [if_neg hc]
   constructor
   ·intro h;cases h
   ·rintro ⟨_,_,_,_,b',h5,h6,_⟩
    cases h5
    exact absurd ⟨rfl,h6⟩ hc
theorem Qlq {n:TNet}{m:List (List (Int×Int))}{task:Int}{o:Ql}:
  o∈Qag n m task↔o.Task=task∧∃e,idx n.Tasks task=some e∧inB (szB n e) o.Vars∧o.Ins∈chC e.Join e.Ins.length∧o.Outs∈chC e.Split e.Outs.length∧∃b,QbX n m task o.Vars=some (0,b)∧QU b=some 0∧QV b o.Ins=some 0∧QaF b o.Outs=some 0:=by
 unfold Qag
 cases he:idx n.Tasks task with
 | none=>simp
 | some e=>
  simp only [List.mem_flatMap,QsL,QsU,Option.some.injEq,exists_eq_left']
  constructor
  ·rintro ⟨p,h1,h2,rfl,h3,h4,h5⟩
   exact⟨h2,h1,h3,h4,h5⟩
  ·rintro ⟨h1,h2,h3,h4,h5⟩
   exact⟨o.Vars,h2,h1,rfl,h3,h4,h5⟩
theorem QtT {n:TNet}{m:List (List (Int×Int))}{o:Ql}:o∈allL n m↔o∈Qag n m o.Task:=by
 unfold allL
 simp only [List.mem_flatMap,List.mem_range]
 constructor
 ·rintro ⟨k,hk,h⟩
  have:=(Qlq.1 h).1
  rwa [this]
 ·intro h
  obtain⟨_,e,he,_⟩:=Qlq.1 h
  have h0:0≤o.Task:=by
   unfold idx at he
   split at he
   ·assumption
   ·cases he
  rw [QjK h0]at he
  have:=(List.getElem?_eq_some_iff.1 he).1
  exact⟨o.Task.toNat,this,by rwa [show((o.Task.toNat:Nat):Int)=o.Task by omega]⟩
theorem Qmx (a b:List Int)(ha:a.length≤maxLen):Qak a b=some (decide (a=b)):=by
 have key:TotP (Qak a b) fun r=>r=decide (a=b):=by
  unfold Qak
  refine TotP.bif (fun hc=>TotP.ok ?_) fun hc=>?_
  ·rw [decide_eq_false fun e=>by subst e;simp at hc]
  simp only [bne_eq_false_iff_eq]at hc
  have hc:a.length=b.length:=by omega
  refine TotP.bind (TotP.up a.length (fun st=>st) (fun st=>a.take st.toNat=b.take st.toNat) (Q:=fun q:Unit⊕Unit=>(q=.inl ()→a≠b)∧(q=.inr ()→a=b)) rfl rfl (fun i st hi hn hJ=>?_)) (fun q hq=>?_)
  ·replace hi:st=(i:Int):=hi
   subst hi
   replace hJ:a.take (i:Int).toNat=b.take (i:Int).toNat:=hJ
   rw [Int.toNat_natCast]at hJ
   show TotP (QaS a b i) _
   unfold QaS
   refine TotP.bif (fun hc2=>?_) (fun hc2=>TotP.ok (Qp ⟨fun e=>(by cases e),fun _=>?_⟩))
   ·simp only [decide_eq_true_eq]at hc2
    have i1:i<a.length:=by omega
    have i2:i<b.length:=by omega
    rw [Qci,List.getElem?_eq_getElem i1,Option.bind_some,Qci,List.getElem?_eq_getElem i2,Option.bind_some]
    refine TotP.bif (fun hc3=>TotP.ok (Qp ⟨fun _ e=>?_,fun e=>by cases e⟩)) fun hc3=>?_
    ·subst e;simp at hc3
    ·have hw:w64 ((i:Int)+1)=((i+1:Nat):Int):=Qz i1 ha
     refine TotP.ok (QD ⟨i1,hw,?_⟩)
     show a.take (w64 ((i:Int)+1)).toNat=b.take (w64 ((i:Int)+1)).toNat
     rw [hw,Int.toNat_natCast,List.take_add_one,List.take_add_one,hJ,List.getElem?_eq_getElem i1,List.getElem?_eq_getElem i2]
     simp only [bne_eq_false_iff_eq]at hc3
     rw [hc3]
   ·simp only [decide_eq_false_iff_not]at hc2
    rwa [List.take_of_length_le (by omega),List.take_of_length_le (by omega)]at hJ
  ·rcases q with q | q
   ·exact TotP.ok (decide_eq_false (hq.1 rfl)).symm
   ·exact TotP.ok (decide_eq_true (hq.2 rfl)).symm
 obtain⟨r,h1,h2⟩:=key
 rw [h1,h2]
theorem QsV (kind arcs:Int):QaY kind arcs=some (chC kind arcs)∧Qjr (chC kind arcs):=by
 obtain⟨r,h1,h2⟩:=QnM kind arcs
 unfold chC
 rw [h1]
 exact⟨rfl,h2⟩
end Go.Proofs
