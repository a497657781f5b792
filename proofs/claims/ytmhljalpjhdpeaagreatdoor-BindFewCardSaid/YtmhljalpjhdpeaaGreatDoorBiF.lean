/- A part of the proof; what it holds is told at each theorem. -/
import Derived.Test.YtmhljalpjhdpeaaGreatDoorBiE
import Derived.Test.YtmhljalpjhdpeaaGreatDoorBiS
set_option linter.unusedVariables false
set_option linter.unusedSimpArgs false
set_option linter.unusedSectionVars false
set_option linter.deprecated false
noncomputable section
namespace Go.Proofs
open Go Go.RowKit Go.Vm
def preL (n:TNet)(m:List (List (Int×Int)))(k:Nat):List Ql:=(List.range k).flatMap fun (k:Nat)=>Qag n m (k:Int)
theorem Qtt (n:TNet)(m:List (List (Int×Int)))(most:Int)(hn:QH n)(hm0:lenL (lenL fun _=>True) m):Qdz n m most=some true:=by
 unfold Qdz
 rw [Qsg,Option.bind_some]
 obtain⟨f,hf,hf2⟩:=Qud n m hn hm0
 rw [hf,Option.bind_some]
 cases hc:((!f)||((decide (most<1))||(decide (50<most))))with
 | true=>rfl
 | false=>
  simp only [cond_false]
  simp only [Bool.or_eq_false_iff,Bool.not_eq_false',decide_eq_false_iff_not]at hc
  obtain⟨h,hm,_⟩:=hf2 hc.1
  have hml:=hm.len h (by omega)
  have hok:=fun o=>Que (o:=o) h hml
  rw [Qre n m 2000 h hml (by omega) (by omega) (.inl (by omega)),Option.bind_some,Qre n m most h hml (by omega) (by omega) (.inl (by omega)),Option.bind_some]
  have hpre:∀k,k≤n.Tasks.length→∃r,allL n m=preL n m k++r:=fun k hk=>Qrd _ _ k hk
  have hfull:preL n m n.Tasks.length=allL n m:=rfl
  generalize hL:allL n m=L at hok hpre hfull ⊢
  by_cases c:2000≤L.length
  ·have e1:decide ((2000:Int)≤((L.take (2000:Int).toNat).length:Int))=true:=decide_eq_true (by simp;omega)
   rw [e1];rfl
  ·have e0:L.take (2000:Int).toNat=L:=List.take_of_length_le (by simp;omega)
   rw [e0]
   have e1:decide ((2000:Int)≤(L.length:Int))=false:=decide_eq_false (by omega)
   have e2:(((L.take most.toNat).length:Int) != min2 most (L.length:Int))=false:=by
    simp only [bne_eq_false_iff_eq,List.length_take];unfold min2;split<;>omega
   rw [e1,e2]
   simp only [Bool.or_self,cond_false]
   have first:TotP (QF (fun st=>QbE (L.take most.toNat) L st) 0) fun q:Unit⊕Unit=>q=.inr ():=by
    refine TotP.up (L.take most.toNat).length (fun st=>st) (fun _=>True) rfl trivial (fun i st hi hn2 _=>?_)
    replace hi:st=(i:Int):=hi
    subst hi
    show TotP (QbE (L.take most.toNat) L i) _
    unfold QbE
    refine TotP.bif (fun hc2=>?_) (fun _=>TotP.ok (Qp rfl))
    simp only [decide_eq_true_eq]at hc2
    have i1:i<(L.take most.toNat).length:=by omega
    have i2:i<L.length:=by have:=List.length_take_le' most.toNat L;omega
    rw [Qci,List.getElem?_eq_getElem i1,Option.bind_some,Qci,List.getElem?_eq_getElem i2,Option.bind_some,List.getElem_take,Qqk (hok _ (List.getElem_mem i2)),Option.bind_some]
    exact TotP.ok (QD ⟨i1,Qz i1 (by unfold maxLen;have:=List.length_take_le' most.toNat L;omega),trivial⟩)
   obtain⟨q,hq1,rfl⟩:=first
   rw [hq1,Option.bind_some]
   show QcR n m L true=some true
   unfold QcR
   have second:TotP (QF (fun st=>QbG n m L st.1 st.2) ((0:Int),(0:Int))) fun q:Unit⊕Int=>q=.inr (L.length:Int):=by
    refine TotP.up n.Tasks.length (fun st=>st.2) (fun st=>st.1=((preL n m st.2.toNat).length:Int)) rfl rfl (fun k st hk hn2 hJ=>?_)
    obtain⟨a,k'⟩:=st
    replace hk:k'=(k:Int):=hk
    subst hk
    replace hJ:a=((preL n m (k:Int).toNat).length:Int):=hJ
    rw [Int.toNat_natCast]at hJ
    subst hJ
    show TotP (QbG n m L _ k) _
    unfold QbG
    refine TotP.bif (fun hc2=>?_) (fun hc2=>TotP.ok (Qp ?_))
    ·simp only [decide_eq_true_eq]at hc2
     have hk1:k<n.Tasks.length:=by omega
     obtain⟨r,hr⟩:=hpre (k+1) (by omega)
     have hsucc:preL n m (k+1)=preL n m k++Qag n m (k:Int):=by
      unfold preL
      rw [List.range_succ,List.flatMap_append,List.flatMap_singleton]
     rw [hsucc,List.append_assoc]at hr
     have hlen:(preL n m k).length+(Qag n m (k:Int)).length≤L.length:=by rw [hr];simp
     rw [QpL n m k 2000 h hml (.inl (by omega)),Option.bind_some]
     have e3:(Qag n m (k:Int)).take (2000:Int).toNat=Qag n m (k:Int):=List.take_of_length_le (by simp;omega)
     rw [e3]
     have hat:∀i,i<(Qag n m (k:Int)).length→L[(preL n m k).length+i]? = (Qag n m (k:Int))[i]? := fun i hi=>by
      rw [hr,List.getElem?_append_right (by omega),Nat.add_sub_cancel_left,List.getElem?_append_left hi]
     have htask:∀o∈Qag n m (k:Int),o.Task=(k:Int):=fun o ho=>(Qlq.1 ho).1
     have hmo:∀o∈Qag n m (k:Int),QnN n o:=fun o ho=>Qrf h hml ho
     generalize Qag n m (k:Int)=M at hr hlen hat htask hmo hsucc ⊢
     generalize preL n m k=P at hr hlen hat hsucc ⊢
     have inner:TotP (QF (fun st=>QbF M L k st.1 st.2) ((P.length:Int),(0:Int))) fun q:Unit⊕Int=>q=.inr ((P.length+M.length:Nat):Int):=by
      refine TotP.up M.length (fun st=>st.2) (fun st=>st.1=(P.length:Int)+st.2) rfl (by simp) (fun i st hi hn3 hK=>?_)
      obtain⟨a,i'⟩:=st
      replace hi:i'=(i:Int):=hi
      subst hi
      replace hK:a=(P.length:Int)+(i:Int):=hK
      subst hK
      show TotP (QbF M L k _ i) _
      unfold QbF
      refine TotP.bif (fun hc3=>?_) (fun hc3=>TotP.ok (Qp ?_))
      ·simp only [decide_eq_true_eq]at hc3
       have i1:i<M.length:=by omega
       have g3:Qfm L ((P.length:Int)+(i:Int)) M i k=some false:=by
        unfold Qfm
        rw [decide_eq_false (by omega),cond_false,show(P.length:Int)+(i:Int)=((P.length+i:Nat):Int) by omega,Qci,hat i i1,Qci,List.getElem?_eq_getElem i1]
        simp only [Option.bind_some]
        rw [Qqk (hmo _ (List.getElem_mem i1))]
        simp [htask _ (List.getElem_mem i1)]
       rw [g3,Option.bind_some]
       unfold Qdj
       have hw:w64 ((i:Int)+1)=((i+1:Nat):Int):=Qz i1 (by unfold maxLen;omega:M.length≤maxLen)
       have hw2:w64 ((P.length:Int)+(i:Int)+1)=(P.length:Int)+(i:Int)+1:=Qfn (by omega)
       refine TotP.ok (QD ⟨i1,hw,?_⟩)
       show w64 ((P.length:Int)+(i:Int)+1)=(P.length:Int)+w64 ((i:Int)+1)
       rw [hw,hw2];omega
      ·simp only [decide_eq_false_iff_not]at hc3
       rw [show(P.length:Int)+(i:Int)=((P.length+M.length:Nat):Int) by omega]
     obtain⟨q,hq1,rfl⟩:=inner
     rw [hq1,Option.bind_some]
     show TotP (Qdk k _) _
     unfold Qdk
     have hw:w64 ((k:Int)+1)=((k+1:Nat):Int):=Qz hk1 h.k.2.2.1.1
     refine TotP.ok (QD ⟨hk1,hw,?_⟩)
     show((P.length+M.length:Nat):Int)=((preL n m (w64 ((k:Int)+1)).toNat).length:Int)
     rw [hw,Int.toNat_natCast,hsucc,List.length_append]
    ·simp only [decide_eq_false_iff_not]at hc2
     rw [show k=n.Tasks.length by omega,hfull]
   obtain⟨q,hq1,rfl⟩:=second
   rw [hq1,Option.bind_some]
   show QcQ true L (L.length:Int)=some true
   unfold QcQ
   simp
end Go.Proofs
