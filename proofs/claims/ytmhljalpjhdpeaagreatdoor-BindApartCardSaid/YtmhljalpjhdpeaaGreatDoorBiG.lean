/- A part of the proof; what it holds is told at each theorem. -/
import Derived.Test.YtmhljalpjhdpeaaGreatDoorBiD
import Derived.Test.YtmhljalpjhdpeaaGreatDoorBiE
import Derived.Test.YtmhljalpjhdpeaaGreatDoorBiS
set_option linter.unusedVariables false
set_option linter.unusedSimpArgs false
set_option linter.unusedSectionVars false
set_option linter.deprecated false
noncomputable section
namespace Go.Proofs
open Go Go.RowKit Go.Vm
theorem Qst (n:TNet)(m:List (List (Int×Int)))(o:Ql)(hn:QH n)(hm0:lenL (lenL fun _=>True) m):QcN n m o=some true:=by
 unfold QcN
 rw [Qss,Option.bind_some]
 obtain⟨f,hf,hf2⟩:=Qur n m hn hm0
 rw [hf,Option.bind_some]
 cases hc:((!f)||((decide (20<(o.Vars.length:Int)))||((decide (20<(o.Ins.length:Int)))||(decide (20<(o.Outs.length:Int))))))with
 | true=>rfl
 | false=>
  simp only [cond_false]
  simp only [Bool.or_eq_false_iff,Bool.not_eq_false',decide_eq_false_iff_not]at hc
  obtain⟨h,hm,_⟩:=hf2 hc.1
  have hml:=hm.len h (by omega)
  have ho:QlZ n o:=⟨by omega,by omega,by omega⟩
  have hok:=fun o=>Quv (o:=o) h hml
  have hck:∀o∈allL n m,Qa8 n m o=some 0:=fun o ho=>(Qqr h hml (hok o ho)).2 (Qqc.1 ho)
  have hco:Qa8 n m o=some 0↔o∈allL n m:=by rw [Qqr h hml ho,Qqc]
  have hnd:=Quu n m
  rw [QtG n m 5000 h hml (by omega) (by omega) (.inl (by omega)),Option.bind_some]
  generalize allL n m=L at hok hck hco hnd ⊢
  cases hc2:decide ((400:Int)≤((L.take (5000:Int).toNat).length:Int))with
  | true=>rfl
  | false=>
   simp only [cond_false]
   simp only [decide_eq_false_iff_not,List.length_take]at hc2
   have e0:L.take (5000:Int).toNat=L:=List.take_of_length_le (by omega)
   rw [e0]
   have hll:L.length<400:=by omega
   have main:TotP (QG (fun st=>Qbl L n m o st.1 st.2) (false,(0:Int))) fun q:Unit⊕Bool=>∃b,q=.inr b∧(b=true↔o∈L):=by
    refine TotP.up L.length (fun st=>st.2) (fun st=>st.1=true↔o∈L.take st.2.toNat) rfl (by simp) (fun i st hi hn2 hJ=>?_)
    obtain⟨a,i'⟩:=st
    replace hi:i'=(i:Int):=hi
    subst hi
    replace hJ:a=true↔o∈L.take (i:Int).toNat:=hJ
    rw [Int.toNat_natCast]at hJ
    show TotP (Qbl L n m o a i) _
    unfold Qbl
    refine TotP.bif (fun hc3=>?_) (fun hc3=>TotP.ok (Qn ⟨a,rfl,?_⟩))
    ·simp only [decide_eq_true_eq]at hc3
     have i1:i<L.length:=by omega
     have hmem:=List.getElem_mem i1
     rw [QbG,List.getElem?_eq_getElem i1,Option.bind_some,hck _ hmem,Option.bind_some]
     simp only [show((0:Int) != 0)=false from rfl,cond_false]
     have tk:L.take (i+1)=L.take i++[L[i]]:=by rw [List.take_add_one,List.getElem?_eq_getElem i1];rfl
     refine TotP.bind (P:=fun b=>b=true↔o∈L.take (i+1)) ?_ fun b hb=>?_
     ·unfold QgB
      rw [tk,List.mem_append,List.mem_singleton]
      cases a with
      | true=>exact TotP.ok (by simp [hJ.1 rfl])
      | false=>
       simp only [cond_false]
       rw [QbG,List.getElem?_eq_getElem i1,Option.bind_some]
       obtain⟨r,hr,hr2⟩:=QrM (b:=o) (hok _ hmem)
       rw [hr,Option.bind_some]
       refine TotP.ok ?_
       rw [hr2]
       constructor
       ·intro e;exact .inr e.symm
       ·rintro (e | e)
        ·exact absurd (hJ.2 e) (by simp)
        ·exact e.symm
     ·unfold QcH
      have inner:TotP (QG (fun st=>Qbk i L st) 0) fun q:Unit⊕Unit=>q=.inr ():=by
       refine TotP.up i (fun st=>st) (fun _=>True) rfl trivial (fun k st hk hn3 _=>?_)
       replace hk:st=(k:Int):=hk
       subst hk
       show TotP (Qbk i L k) _
       unfold Qbk
       refine TotP.bif (fun hc4=>?_) (fun _=>TotP.ok (Qn rfl))
       simp only [decide_eq_true_eq]at hc4
       have k1:k<i:=by omega
       have k2:k<L.length:=by omega
       rw [QbG,List.getElem?_eq_getElem i1,Option.bind_some,QbG,List.getElem?_eq_getElem k2,Option.bind_some]
       obtain⟨r,hr,hr2⟩:=QrM (b:=L[k]) (hok _ hmem)
       rw [hr,Option.bind_some]
       have:r=false:=by
        cases r with
        | false=>rfl
        | true=>exact absurd (hr2.1 rfl).symm (List.pairwise_iff_getElem.1 hnd k i k2 i1 k1)
       subst this
       exact TotP.ok (QC ⟨k1,Qy k1 (by unfold maxLen;omega),trivial⟩)
      obtain⟨q,hq1,rfl⟩:=inner
      rw [hq1,Option.bind_some]
      show TotP (QcG b i) _
      unfold QcG
      have hw:w64 ((i:Int)+1)=((i+1:Nat):Int):=Qy i1 (by unfold maxLen;omega:L.length≤maxLen)
      refine TotP.ok (QC ⟨i1,hw,?_⟩)
      show b=true↔o∈L.take (w64 ((i:Int)+1)).toNat
      rw [hw,Int.toNat_natCast];exact hb
    ·simp only [decide_eq_false_iff_not]at hc3
     rwa [List.take_of_length_le (by omega)]at hJ
   obtain⟨q,hq1,b,rfl,hb⟩:=main
   rw [hq1,Option.bind_some]
   show Qcp true n m o b=some true
   unfold Qcp QgE
   simp only [cond_true]
   obtain⟨c,hcv,_⟩:=Qt6 n m o h hml ho
   rw [hcv]at hco
   rw [hcv,Option.bind_some,Option.bind_some]
   unfold QcI
   by_cases c0:c=0
   ·subst c0
    rw [hb.2 (hco.1 rfl)];rfl
   ·have:b=false:=by
     cases b with
     | false=>rfl
     | true=>exact absurd (Option.some.inj (hco.2 (hb.1 rfl))) c0
    rw [this,show(c==0)=false by simpa using c0];rfl
end Go.Proofs
