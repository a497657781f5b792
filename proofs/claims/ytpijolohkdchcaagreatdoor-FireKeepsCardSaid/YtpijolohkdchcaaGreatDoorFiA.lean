/- A part of the proof; what it holds is told at each theorem. -/
import Derived.Test.YtpijolohkdchcaaGreatDoorT3
import Derived.Test.YtpijolohkdchcaaGreatDoorXPlT
import Derived.Test.YtpijolohkdchcaaGreatDoorXPlB
set_option linter.unusedVariables false
set_option linter.unusedSimpArgs false
set_option linter.unusedSectionVars false
set_option linter.deprecated false
noncomputable section
namespace Go.Proofs
open Go Go.RowKit Go.Vm
theorem Qkj (b:List (Int×Int))(h:b.length≤maxLen):Qcg b=some (rtF (-1) b):=by
 unfold Qcg
 have h1:=QtY (body:=fun st=>Qa5 b st.1 st.2) (l:=b) (ρ:=Unit⊕Unit) (fun i (t:Int)=>(t,(i:Int)))
  (fun i t x=>bif ((decide (x.1≤t))||((decide (x.2<1))||(decide (1048576<x.2))))then .inr (.inl ())else .inl x.1) (fun _=>.inr ())
  (fun i t x hi hx=>by
   show Qa5 b t i=_
   unfold Qa5
   rw [decide_eq_true (by omega:(i:Int)<b.length),cond_true,Qbu,hx,Option.bind_some]
   cases ((decide (x.1≤t))||((decide (x.2<1))||(decide (1048576<x.2))))with
   | true=>rfl
   | false=>simp only [cond_false,Sum.elim_inl];rw [Qv hi h])
  (fun t=>by
   show Qa5 b t b.length=_
   unfold Qa5
   rw [decide_eq_false (by omega)];rfl) (-1) (s0:=(-1,0)) rfl
 rw [h1]
 have:∀(l:List (Int×Int)) (k:Nat) (t:Int),Qny (fun i t (x:Int×Int)=>(bif ((decide (x.1≤t))||((decide (x.2<1))||(decide (1048576<x.2))))then .inr (.inl ())else .inl x.1:Int⊕(Unit⊕Unit))) (fun _=>.inr ()) k t l=bif rtF t l then .inr ()else .inl ():=by
  intro l
  induction l with
  | nil=>intro k t;rfl
  | cons x l ih=>
   intro k t
   rw [Qny,rtF]
   cases ((decide (x.1≤t))||((decide (x.2<1))||(decide (1048576<x.2))))with
   | true=>rfl
   | false=>simp only [cond_false,Sum.elim_inl,Bool.not_false,Bool.true_and];exact ih _ _
 rw [this]
 cases rtF (-1) b<;>rfl
theorem Qmr (b:List (Int×Int))(h:b.length≤maxLen):Qh5 b=some (bif rtF (-1) b then .inr b else .inl ()):=by
 unfold Qh5
 rw [Qkj b h,Option.bind_some]
 cases hr:rtF (-1) b with
 | false=>rfl
 | true=>
  simp only [Bool.not_true,cond_false,cond_true]
  have ha:=(QdL.1 hr).1
  obtain⟨r,h1,h2⟩:=Qrb (body:=fun st=>Qdx b st.1 st.2) b.length (fun i s=>s=((i:Int),b.take i)) (fun r=>r=b)
   (fun i s hi hs=>by
    subst hs
    refine .inl ⟨(((i+1:Nat):Int),b.take (i+1)),?_,rfl⟩
    show Qdx b i (b.take i)=_
    unfold Qdx
    rw [decide_eq_true (by omega:(i:Int)<b.length),cond_true,Qbu,List.getElem?_eq_getElem hi,Option.bind_some,Qv hi h]
    have e:b.take (i+1)=b.take i++[b[i]]:=by rw [List.take_add_one,List.getElem?_eq_getElem hi];rfl
    rw [e,←Quz (by have:=(ha.sublist (List.take_sublist (i+1) b));rw [e]at this;exact this)])
   (fun s hs=>by
    subst hs
    refine⟨_,?_,rfl⟩
    show Qdx b b.length (b.take b.length)=_
    unfold Qdx
    rw [decide_eq_false (by omega),List.take_length];rfl) (0,[]) rfl
  rw [h1,h2];rfl
theorem QmH (a b:List (Int×Int))(ha:a.length≤maxLen)(hb:b.length≤maxLen):QgW a b=some (bif rtF (-1) a then(bif rtF (-1) b then .inr (.inr (.inr (a,b)))else .inr (.inr (.inl a)))else(bif rtF (-1) b then .inr (.inl b)else .inl ())):=by
 unfold QgW
 rw [Qmr a ha]
 cases rtF (-1) a with
 | true=>
  simp only [cond_true,Option.bind_some,Sum.elim_inr]
  unfold Qi2
  rw [Qmr b hb]
  cases rtF (-1) b<;>rfl
 | false=>
  simp only [cond_false,Option.bind_some,Sum.elim_inl]
  unfold Qi1
  rw [Qmr b hb]
  cases rtF (-1) b<;>rfl
theorem Qi9 (m:List (Int×Int))(ha:Asc m)(h':m.length≤4294967296):Qcv m=some (posL m):=by
 have h:m.length≤maxLen:=by unfold maxLen;omega
 unfold Qcv Qby Qfi
 simp only [decide_eq_true h',Qtm rfl,Option.bind_some,Qt2 ha]
 obtain⟨r,h1,h2⟩:=Qrb (body:=fun st=>QaG (m.map Prod.fst) m st.1 st.2) m.length (fun i s=>s=((i:Int),posL (m.take i))) (fun r=>r=posL m)
  (fun i s hi hs=>by
   subst hs
   refine .inl ⟨(((i+1:Nat):Int),posL (m.take (i+1))),?_,rfl⟩
   show QaG (m.map Prod.fst) m i (posL (m.take i))=_
   unfold QaG
   have e:m.take (i+1)=m.take i++[m[i]]:=by rw [List.take_add_one,List.getElem?_eq_getElem hi];rfl
   have ec:(mget m m[i].1).getD 0=m[i].2:=Qjv ha.nd (List.getElem_mem hi)
   rw [decide_eq_true (by simp;omega),cond_true,Qbu,List.getElem?_map,List.getElem?_eq_getElem hi,Option.map_some,Option.bind_some,ec]
   have hl:(posL (m.take i)).length≤i:=Nat.le_trans (List.length_filter_le _ _) (by simp;omega)
   cases hc:decide (0<m[i].2)with
   | true=>
    simp only [cond_true]
    rw [QqB (by simp;omega),Option.bind_some]
    unfold Qb9
    rw [Qv hi h,e]
    unfold posL
    rw [List.filter_append,List.filter_cons,if_pos hc];rfl
   | false=>
    simp only [cond_false]
    unfold Qb9
    rw [Qv hi h,e]
    unfold posL
    rw [List.filter_append,List.filter_cons,if_neg (by rw [hc];decide),List.filter_nil,List.append_nil])
  (fun s hs=>by
   subst hs
   refine⟨_,?_,rfl⟩
   show QaG (m.map Prod.fst) m m.length (posL (m.take m.length))=_
   unfold QaG
   rw [decide_eq_false (by simp),List.take_length];rfl) (0,[]) rfl
 rw [h1,h2];rfl
theorem Qsp (m:List (Int×Int)):(posL m).length≤m.length:=List.length_filter_le _ _
theorem Qig (a b:List (Int×Int))(h:a.length+b.length≤4294967296):(¬(Rt a∧Rt b)∧QaO a b=some ([],1))∨(Rt a∧Rt b∧(∃k,1048576<cntL a k+cntL b k)∧QaO a b=some ([],2))∨
  (Rt a∧Rt b∧∃r,QaO a b=some (r,0)∧Rt r∧(∀k,cntL r k=cntL a k+cntL b k)∧r.length≤a.length+b.length):=by
 unfold QaO
 rw [QmH a b (by unfold maxLen;omega) (by unfold maxLen;omega),Option.bind_some]
 cases ra:rtF (-1) a with
 | false=>exact .inl ⟨fun hh=>(by rw [QdL.2 hh.1]at ra;cases ra),by cases rtF (-1) b<;>rfl⟩
 | true=>
  cases rb:rtF (-1) b with
  | false=>exact .inl ⟨fun hh=>(by rw [QdL.2 hh.2]at rb;cases rb),rfl⟩
  | true=>
   have hra:=QdL.1 ra
   have hrb:=QdL.1 rb
   simp only [cond_true,Sum.elim_inr]
   unfold QjP
   have hw:∀p∈b,cntL a p.1+p.2=cntL a p.1+cntL b p.1:=fun p hp=>by rw [Qjv hrb.1.nd hp]
   rcases QqC (g:=fun x v=>w64 (x+v)) (stop:=fun x=>decide (1048576<x)) (q:=some ()) (body:=fun st p=>QeS st p.1 p.2) (fun s p=>by
     show QeS s p.1 p.2=_
     unfold QeS
     rw [QkU,if_pos rfl]
     unfold cntL
     simp only [Option.getD_some]
     cases decide (1048576<w64 ((mget s p.1).getD 0+p.2))<;>rfl) hra.1 hrb.1.nd with⟨⟨p,h1,h2⟩,h3⟩|⟨h1,s',h3,h4,h5,h6⟩
   ·refine .inr (.inl ⟨hra,hrb,⟨p.1,?_⟩,?_⟩)
    ·have:=hra.cnt p.1
     have:=hrb.cnt p.1
     have h2:=of_decide_eq_true h2
     rw [Qjv hrb.1.nd h1]
     rw [Qjv hrb.1.nd h1]at this
     rwa [QdK (by omega)]at h2
    ·simp only [h3 () rfl];rfl
   ·have hk:∀k,cntL s' k=cntL a k+cntL b k∧cntL s' k≤1048576:=fun k=>by
     have ca:=hra.cnt k
     have cb:=hrb.cnt k
     have e:=h6 k
     unfold Qo2 at e
     cases hm:mget b k with
     | none=>
      rw [hm]at e
      simp only at e
      have:cntL b k=0:=by unfold cntL;rw [hm];rfl
      have e2:cntL s' k=cntL a k:=by unfold cntL;rw [e]
      omega
     | some v=>
      rw [hm]at e
      simp only at e
      have e1:cntL b k=v:=by unfold cntL;rw [hm];rfl
      have e2:cntL s' k=w64 (cntL a k+v):=by unfold cntL;rw [e];rfl
      have h7:=h1 (k,v) ((Qb8 hrb.1.nd).1 hm)
      simp only [decide_eq_false_iff_not]at h7
      rw [QdK (by omega)]at e2 h7
      omega
    refine .inr (.inr ⟨hra,hrb,posL s',?_,Qt1 h4 (fun k hk0=>⟨?_,(hk k).2⟩),fun k=>?_,Nat.le_trans (Qsp s') h5⟩)
    ·simp only [h3,Option.bind_some,Sum.elim_inl]
     unfold QjO
     rw [Qi9 s' h4 (by omega)];rfl
    ·have:=(hk k).1
     have ca:=hra.cnt k
     have cb:=hrb.cnt k
     by_cases c:0<cntL a k
     ·exact hra.cnt_pos c
     ·exact hrb.cnt_pos (by omega)
    ·rw [Qsn h4,(hk k).1]
     have ca:=hra.cnt k
     have cb:=hrb.cnt k
     split<;>omega
theorem Ql4 (m m':List (Int×Int)):Qca m m'=some (!(m.any fun p=>decide (cntL m' p.1<p.2))):=by
 unfold Qca
 rw [Qto (bad:=fun p=>decide (cntL m' p.1<p.2)) (q:=()) (fun p=>by
  show Qbr m' p.1 p.2=_
  unfold Qbr cntL
  cases decide ((mget m' p.1).getD 0<p.2)<;>rfl)]
 cases m.any fun p=>decide (cntL m' p.1<p.2)<;>rfl
theorem QqQ {a b:List (Int×Int)}(ha:Rt a)(hb:Rt b):(a.any fun p=>decide (cntL b p.1<p.2))=false↔∀k,cntL a k≤cntL b k:=by
 rw [←Bool.not_eq_true,List.any_eq_true]
 simp only [decide_eq_true_eq,not_exists,not_and]
 constructor
 ·intro h k
  have cb:=hb.cnt k
  cases e:mget a k with
  | none=>
   have:cntL a k=0:=by unfold cntL;rw [e];rfl
   omega
  | some v=>
   have h1:=h _ ((Qb8 ha.1.nd).1 e)
   have:cntL a k=v:=by unfold cntL;rw [e];rfl
   simp only at h1
   omega
 ·intro h p hp hlt
  have:=h p.1
  rw [Qjv ha.1.nd hp]at this
  omega
theorem QqR (a b:List (Int×Int))(ha:a.length≤maxLen)(hb:b.length≤maxLen):∃r,Qh6 a b=some r∧(r=true↔Rt a∧Rt b∧∀k,cntL a k≤cntL b k):=by
 unfold Qh6
 rw [QmH a b ha hb,Option.bind_some]
 cases ra:rtF (-1) a with
 | false=>exact⟨false,by cases rtF (-1) b<;>rfl,by simp;intro hh;rw [QdL.2 hh]at ra;cases ra⟩
 | true=>
  cases rb:rtF (-1) b with
  | false=>exact⟨false,rfl,by simp;intro _ hh;rw [QdL.2 hh]at rb;cases rb⟩
  | true=>
   have hra:=QdL.1 ra
   have hrb:=QdL.1 rb
   refine⟨!(a.any fun p=>decide (cntL b p.1<p.2)),?_,?_⟩
   ·simp only [cond_true,Sum.elim_inr]
    unfold QhK
    rw [Ql4];rfl
   ·rw [Bool.not_eq_true',QqQ hra hrb]
    exact⟨fun h=>⟨hra,hrb,h⟩,fun h=>h.2.2⟩
theorem Qlc (a b:List (Int×Int))(h:a.length+b.length≤4294967296):(¬(Rt a∧Rt b)∧QaX a b=some ([],1))∨(Rt a∧Rt b∧(∃k,cntL a k<cntL b k)∧QaX a b=some ([],10))∨
  (Rt a∧Rt b∧(∀k,cntL b k≤cntL a k)∧∃r,QaX a b=some (r,0)∧Rt r∧(∀k,cntL r k=cntL a k-cntL b k)∧r.length≤a.length+b.length):=by
 unfold QaX
 rw [QmH a b (by unfold maxLen;omega) (by unfold maxLen;omega),Option.bind_some]
 cases ra:rtF (-1) a with
 | false=>exact .inl ⟨fun hh=>(by rw [QdL.2 hh.1]at ra;cases ra),by cases rtF (-1) b<;>rfl⟩
 | true=>
  cases rb:rtF (-1) b with
  | false=>exact .inl ⟨fun hh=>(by rw [QdL.2 hh.2]at rb;cases rb),rfl⟩
  | true=>
   have hra:=QdL.1 ra
   have hrb:=QdL.1 rb
   simp only [cond_true,Sum.elim_inr]
   unfold Qi4
   rw [Ql4,Option.bind_some]
   cases hw:b.any fun p=>decide (cntL a p.1<p.2)with
   | true=>
    refine .inr (.inl ⟨hra,hrb,?_,rfl⟩)
    obtain⟨p,h1,h2⟩:=List.any_eq_true.1 hw
    exact⟨p.1,by rw [Qjv hrb.1.nd h1];exact of_decide_eq_true h2⟩
   | false=>
    have hle:=(QqQ hrb hra).1 hw
    simp only [Bool.not_false,Bool.not_true,cond_false]
    rcases QqC (g:=fun x v=>w64 (x-v)) (stop:=fun _=>false) (q:=none) (body:=fun st p=>Qd5 st p.1 p.2) (fun s p=>by
      show Qd5 s p.1 p.2=_
      unfold Qd5 cntL
      rfl) hra.1 hrb.1.nd with⟨⟨p,h1,h2⟩,h3⟩|⟨h1,s',h3,h4,h5,h6⟩
    ·cases h2
    ·have hk:∀k,cntL s' k=cntL a k-cntL b k:=fun k=>by
      have ca:=hra.cnt k
      have cb:=hrb.cnt k
      have e:=h6 k
      unfold Qo2 at e
      cases hm:mget b k with
      | none=>
       rw [hm]at e
       simp only at e
       have:cntL b k=0:=by unfold cntL;rw [hm];rfl
       have e2:cntL s' k=cntL a k:=by unfold cntL;rw [e]
       omega
      | some v=>
       rw [hm]at e
       simp only at e
       have e1:cntL b k=v:=by unfold cntL;rw [hm];rfl
       have e2:cntL s' k=w64 (cntL a k-v):=by unfold cntL;rw [e];rfl
       rw [QdK (by omega)]at e2
       omega
     refine .inr (.inr ⟨hra,hrb,hle,posL s',?_,Qt1 h4 (fun k hk0=>?_),fun k=>?_,Nat.le_trans (Qsp s') h5⟩)
     ·simp only [h3,Option.bind_some,Sum.elim_inl]
      unfold Qi3
      rw [Qi9 s' h4 (by omega)];rfl
     ·have:=hk k
      have ca:=hra.cnt k
      have cb:=hrb.cnt k
      exact⟨hra.cnt_pos (by omega),by omega⟩
     ·rw [Qsn h4,hk k]
      have:=hle k
      split<;>omega
theorem Qtp (t:Int):QlJ [t]=some (bif decide (0≤t)then [(t,1)]else []):=by
 unfold QlJ
 rw [Qdl]
 show((QcQ [t] 0 []).bind _).bind _=_
 unfold QcQ
 rw [decide_eq_true (by simp),cond_true,show idx [t] 0=some t from rfl,Option.bind_some]
 unfold QiO
 rw [show w64 (0+1)=1 from by decide]
 cases h:decide (0≤t)with
 | false=>
  simp only [cond_false,Option.bind_some,Sum.elim_inl]
  rw [Qdl]
  show((QcQ [t] 1 []).bind _).bind _=_
  unfold QcQ
  rw [decide_eq_false (by simp)]
  simp only [cond_false,Option.bind_some,Sum.elim_inr]
  unfold QiP
  rw [Qi9 [] List.Pairwise.nil (by simp)];rfl
 | true=>
  simp only [cond_true,Option.bind_some,Sum.elim_inl]
  rw [Qdl]
  show((QcQ [t] 1 [(t,min2 (w64 (0+1)) 1048576)]).bind _).bind _=_
  unfold QcQ
  rw [decide_eq_false (by simp)]
  simp only [cond_false,Option.bind_some,Sum.elim_inr]
  unfold QiP
  rw [Qi9 _ (List.pairwise_singleton _ _) (by simp [maxLen]),show min2 (w64 (0+1)) 1048576=1 from by decide];rfl
end Go.Proofs
