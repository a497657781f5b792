/- A part of the proof; what it holds is told at each theorem. -/
import Derived.Test.YtmhljalpjhdpeaaGreatDoorT3
import Derived.Test.YtmhljalpjhdpeaaGreatDoorXPlT
import Derived.Test.YtmhljalpjhdpeaaGreatDoorXPlB
set_option linter.unusedVariables false
set_option linter.unusedSimpArgs false
set_option linter.unusedSectionVars false
set_option linter.deprecated false
noncomputable section
namespace Go.Proofs
open Go Go.RowKit Go.Vm
theorem QnK (b:List (Int×Int))(h:b.length≤maxLen):Qc3 b=some (rtF (-1) b):=by
 unfold Qc3
 have h1:=QsH (body:=fun st=>Qa0 b st.1 st.2) (l:=b) (ρ:=Unit⊕Unit) (fun i (t:Int)=>(t,(i:Int)))
  (fun i t x=>bif ((decide (x.1≤t))||((decide (x.2<1))||(decide (1048576<x.2))))then .inr (.inl ())else .inl x.1) (fun _=>.inr ())
  (fun i t x hi hx=>by
   show Qa0 b t i=_
   unfold Qa0
   rw [decide_eq_true (by omega:(i:Int)<b.length),cond_true,Qci,hx,Option.bind_some]
   cases ((decide (x.1≤t))||((decide (x.2<1))||(decide (1048576<x.2))))with
   | true=>rfl
   | false=>simp only [cond_false,Sum.elim_inl];rw [Qz hi h])
  (fun t=>by
   show Qa0 b t b.length=_
   unfold Qa0
   rw [decide_eq_false (by omega)];rfl) (-1) (s0:=(-1,0)) rfl
 rw [h1]
 have:∀(l:List (Int×Int)) (k:Nat) (t:Int),Qms (fun i t (x:Int×Int)=>(bif ((decide (x.1≤t))||((decide (x.2<1))||(decide (1048576<x.2))))then .inr (.inl ())else .inl x.1:Int⊕(Unit⊕Unit))) (fun _=>.inr ()) k t l=bif rtF t l then .inr ()else .inl ():=by
  intro l
  induction l with
  | nil=>intro k t;rfl
  | cons x l ih=>
   intro k t
   rw [Qms,rtF]
   cases ((decide (x.1≤t))||((decide (x.2<1))||(decide (1048576<x.2))))with
   | true=>rfl
   | false=>simp only [cond_false,Sum.elim_inl,Bool.not_false,Bool.true_and];exact ih _ _
 rw [this]
 cases rtF (-1) b<;>rfl
theorem QnL (b:List (Int×Int))(h:b.length≤maxLen):Qiv b=some (bif rtF (-1) b then .inr b else .inl ()):=by
 unfold Qiv
 rw [QnK b h,Option.bind_some]
 cases hr:rtF (-1) b with
 | false=>rfl
 | true=>
  simp only [Bool.not_true,cond_false,cond_true]
  have ha:=(Qie.1 hr).1
  obtain⟨r,h1,h2⟩:=Qrv (body:=fun st=>Qc4 b st.1 st.2) b.length (fun i s=>s=((i:Int),b.take i)) (fun r=>r=b)
   (fun i s hi hs=>by
    subst hs
    refine .inl ⟨(((i+1:Nat):Int),b.take (i+1)),?_,rfl⟩
    show Qc4 b i (b.take i)=_
    unfold Qc4
    rw [decide_eq_true (by omega:(i:Int)<b.length),cond_true,Qci,List.getElem?_eq_getElem hi,Option.bind_some,Qz hi h]
    have e:b.take (i+1)=b.take i++[b[i]]:=by rw [List.take_add_one,List.getElem?_eq_getElem hi];rfl
    rw [e,←Qti (by have:=(ha.sublist (List.take_sublist (i+1) b));rw [e]at this;exact this)])
   (fun s hs=>by
    subst hs
    refine⟨_,?_,rfl⟩
    show Qc4 b b.length (b.take b.length)=_
    unfold Qc4
    rw [decide_eq_false (by omega),List.take_length];rfl) (0,[]) rfl
  rw [h1,h2];rfl
theorem Qow (a b:List (Int×Int))(ha:a.length≤maxLen)(hb:b.length≤maxLen):QhM a b=some (bif rtF (-1) a then(bif rtF (-1) b then .inr (.inr (.inr (a,b)))else .inr (.inr (.inl a)))else(bif rtF (-1) b then .inr (.inl b)else .inl ())):=by
 unfold QhM
 rw [QnL a ha]
 cases rtF (-1) a with
 | true=>
  simp only [cond_true,Option.bind_some,Sum.elim_inr]
  unfold Qil
  rw [QnL b hb]
  cases rtF (-1) b<;>rfl
 | false=>
  simp only [cond_false,Option.bind_some,Sum.elim_inl]
  unfold Qik
  rw [QnL b hb]
  cases rtF (-1) b<;>rfl
theorem Qkb (m:List (Int×Int))(ha:Asc m)(h':m.length≤4294967296):QcX m=some (posL m):=by
 have h:m.length≤maxLen:=by unfold maxLen;omega
 unfold QcX Qbs QeK
 simp only [decide_eq_true h',Qr6 rfl,Option.bind_some,QsK ha]
 obtain⟨r,h1,h2⟩:=Qrv (body:=fun st=>QaE (m.map Prod.fst) m st.1 st.2) m.length (fun i s=>s=((i:Int),posL (m.take i))) (fun r=>r=posL m)
  (fun i s hi hs=>by
   subst hs
   refine .inl ⟨(((i+1:Nat):Int),posL (m.take (i+1))),?_,rfl⟩
   show QaE (m.map Prod.fst) m i (posL (m.take i))=_
   unfold QaE
   have e:m.take (i+1)=m.take i++[m[i]]:=by rw [List.take_add_one,List.getElem?_eq_getElem hi];rfl
   have ec:(mget m m[i].1).getD 0=m[i].2:=Qks ha.nd (List.getElem_mem hi)
   rw [decide_eq_true (by simp;omega),cond_true,Qci,List.getElem?_map,List.getElem?_eq_getElem hi,Option.map_some,Option.bind_some,ec]
   have hl:(posL (m.take i)).length≤i:=Nat.le_trans (List.length_filter_le _ _) (by simp;omega)
   cases hc:decide (0<m[i].2)with
   | true=>
    simp only [cond_true]
    rw [Qr7 (by simp;omega),Option.bind_some]
    unfold QbU
    rw [Qz hi h,e]
    unfold posL
    rw [List.filter_append,List.filter_cons,if_pos hc];rfl
   | false=>
    simp only [cond_false]
    unfold QbU
    rw [Qz hi h,e]
    unfold posL
    rw [List.filter_append,List.filter_cons,if_neg (by rw [hc];decide),List.filter_nil,List.append_nil])
  (fun s hs=>by
   subst hs
   refine⟨_,?_,rfl⟩
   show QaE (m.map Prod.fst) m m.length (posL (m.take m.length))=_
   unfold QaE
   rw [decide_eq_false (by simp),List.take_length];rfl) (0,[]) rfl
 rw [h1,h2];rfl
theorem Qto (m:List (Int×Int)):(posL m).length≤m.length:=List.length_filter_le _ _
theorem Qq7 (a b:List (Int×Int))(h:a.length+b.length≤4294967296):(¬(Rt a∧Rt b)∧Qgg a b=some ([],1))∨(Rt a∧Rt b∧(∃k,1048576<cntL a k+cntL b k)∧Qgg a b=some ([],2))∨
  (Rt a∧Rt b∧∃r,Qgg a b=some (r,0)∧Rt r∧(∀k,cntL r k=cntL a k+cntL b k)∧r.length≤a.length+b.length):=by
 unfold Qgg
 rw [Qow a b (by unfold maxLen;omega) (by unfold maxLen;omega),Option.bind_some]
 cases ra:rtF (-1) a with
 | false=>exact .inl ⟨fun hh=>(by rw [Qie.2 hh.1]at ra;cases ra),by cases rtF (-1) b<;>rfl⟩
 | true=>
  cases rb:rtF (-1) b with
  | false=>exact .inl ⟨fun hh=>(by rw [Qie.2 hh.2]at rb;cases rb),rfl⟩
  | true=>
   have hra:=Qie.1 ra
   have hrb:=Qie.1 rb
   simp only [cond_true,Sum.elim_inr]
   unfold Qi3
   have hw:∀p∈b,cntL a p.1+p.2=cntL a p.1+cntL b p.1:=fun p hp=>by rw [Qks hrb.1.nd hp]
   rcases Qr9 (g:=fun x v=>w64 (x+v)) (stop:=fun x=>decide (1048576<x)) (q:=some ()) (body:=fun st p=>Qel st p.1 p.2) (fun s p=>by
     show Qel s p.1 p.2=_
     unfold Qel
     rw [QjZ,if_pos rfl]
     unfold cntL
     simp only [Option.getD_some]
     cases decide (1048576<w64 ((mget s p.1).getD 0+p.2))<;>rfl) hra.1 hrb.1.nd with⟨⟨p,h1,h2⟩,h3⟩|⟨h1,s',h3,h4,h5,h6⟩
   ·refine .inr (.inl ⟨hra,hrb,⟨p.1,?_⟩,?_⟩)
    ·have:=hra.cnt p.1
     have:=hrb.cnt p.1
     have h2:=of_decide_eq_true h2
     rw [Qks hrb.1.nd h1]
     rw [Qks hrb.1.nd h1]at this
     rwa [Qfn (by omega)]at h2
    ·simp only [h3 () rfl];rfl
   ·have hk:∀k,cntL s' k=cntL a k+cntL b k∧cntL s' k≤1048576:=fun k=>by
     have ca:=hra.cnt k
     have cb:=hrb.cnt k
     have e:=h6 k
     unfold Qpw at e
     cases hm:mget b k with
     | none=>
      rw [hm]at e
      simp only at e
      have:cntL b k=0:=by unfold cntL;rw [hm];rfl
      have e2:cntL s' k=cntL a k:=by unfold cntL;rw [e]
      omega
     | some v=>
      rw [hm]at e
      simp only at e
      have e1:cntL b k=v:=by unfold cntL;rw [hm];rfl
      have e2:cntL s' k=w64 (cntL a k+v):=by unfold cntL;rw [e];rfl
      have h7:=h1 (k,v) ((QcF hrb.1.nd).1 hm)
      simp only [decide_eq_false_iff_not]at h7
      rw [Qfn (by omega)]at e2 h7
      omega
    refine .inr (.inr ⟨hra,hrb,posL s',?_,Quc h4 (fun k hk0=>⟨?_,(hk k).2⟩),fun k=>?_,Nat.le_trans (Qto s') h5⟩)
    ·simp only [h3,Option.bind_some,Sum.elim_inl]
     unfold Qi2
     rw [Qkb s' h4 (by omega)];rfl
    ·have:=(hk k).1
     have ca:=hra.cnt k
     have cb:=hrb.cnt k
     by_cases c:0<cntL a k
     ·exact hra.cnt_pos c
     ·exact hrb.cnt_pos (by omega)
    ·rw [Qtj h4,(hk k).1]
     have ca:=hra.cnt k
     have cb:=hrb.cnt k
     split<;>omega
theorem Qo3 (m m':List (Int×Int)):QcI m m'=some (!(m.any fun p=>decide (cntL m' p.1<p.2))):=by
 unfold QcI
 rw [Qsa (bad:=fun p=>decide (cntL m' p.1<p.2)) (q:=()) (fun p=>by
  show Qbl m' p.1 p.2=_
  unfold Qbl cntL
  cases decide ((mget m' p.1).getD 0<p.2)<;>rfl)]
 cases m.any fun p=>decide (cntL m' p.1<p.2)<;>rfl
theorem Qsc {a b:List (Int×Int)}(ha:Rt a)(hb:Rt b):(a.any fun p=>decide (cntL b p.1<p.2))=false↔∀k,cntL a k≤cntL b k:=by
 rw [←Bool.not_eq_true,List.any_eq_true]
 simp only [decide_eq_true_eq,not_exists,not_and]
 constructor
 ·intro h k
  have cb:=hb.cnt k
  cases e:mget a k with
  | none=>
   have:cntL a k=0:=by unfold cntL;rw [e];rfl
   omega
  | some v=>
   have h1:=h _ ((QcF ha.1.nd).1 e)
   have:cntL a k=v:=by unfold cntL;rw [e];rfl
   simp only at h1
   omega
 ·intro h p hp hlt
  have:=h p.1
  rw [Qks ha.1.nd hp]at this
  omega
theorem QpK (a b:List (Int×Int))(ha:a.length≤maxLen)(hb:b.length≤maxLen):∃r,Qhp a b=some r∧(r=true↔Rt a∧Rt b∧∀k,cntL a k≤cntL b k):=by
 unfold Qhp
 rw [Qow a b ha hb,Option.bind_some]
 cases ra:rtF (-1) a with
 | false=>exact⟨false,by cases rtF (-1) b<;>rfl,by simp;intro hh;rw [Qie.2 hh]at ra;cases ra⟩
 | true=>
  cases rb:rtF (-1) b with
  | false=>exact⟨false,rfl,by simp;intro _ hh;rw [Qie.2 hh]at rb;cases rb⟩
  | true=>
   have hra:=Qie.1 ra
   have hrb:=Qie.1 rb
   refine⟨!(a.any fun p=>decide (cntL b p.1<p.2)),?_,?_⟩
   ·simp only [cond_true,Sum.elim_inr]
    unfold Qg4
    rw [Qo3];rfl
   ·rw [Bool.not_eq_true',Qsc hra hrb]
    exact⟨fun h=>⟨hra,hrb,h⟩,fun h=>h.2.2⟩
theorem Qsd (t:Int):QkH [t]=some (bif decide (0≤t)then [(t,1)]else []):=by
 unfold QkH
 rw [QcT]
 show((Qco [t] 0 []).bind _).bind _=_
 unfold Qco
 rw [decide_eq_true (by simp),cond_true,show idx [t] 0=some t from rfl,Option.bind_some]
 unfold Qh7
 rw [show w64 (0+1)=1 from by decide]
 cases h:decide (0≤t)with
 | false=>
  simp only [cond_false,Option.bind_some,Sum.elim_inl]
  rw [QcT]
  show((Qco [t] 1 []).bind _).bind _=_
  unfold Qco
  rw [decide_eq_false (by simp)]
  simp only [cond_false,Option.bind_some,Sum.elim_inr]
  unfold Qh8
  rw [Qkb [] List.Pairwise.nil (by simp)];rfl
 | true=>
  simp only [cond_true,Option.bind_some,Sum.elim_inl]
  rw [QcT]
  show((Qco [t] 1 [(t,min2 (w64 (0+1)) 1048576)]).bind _).bind _=_
  unfold Qco
  rw [decide_eq_false (by simp)]
  simp only [cond_false,Option.bind_some,Sum.elim_inr]
  unfold Qh8
  rw [Qkb _ (List.pairwise_singleton _ _) (by simp [maxLen]),show min2 (w64 (0+1)) 1048576=1 from by decide];rfl
end Go.Proofs
