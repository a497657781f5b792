/- A part of the proof; what it holds is told at each theorem. -/
import Derived.Test.YtmhljalpjhdpeaaGreatDoorBiB
import Derived.KernelRfl
set_option linter.unusedVariables false
set_option linter.unusedSimpArgs false
set_option linter.unusedSectionVars false
set_option linter.deprecated false
noncomputable section
namespace Go.Proofs
open Go Go.RowKit Go.Vm
theorem QsV {n:TNet}{m:List (List (Int×Int))}{task:Int}{ins outs:List (List Int)}{p:List Int}{o:Qm}:
  o∈Qfs n m task ins outs p↔o.Task=task∧o.Vars=p∧o.Ins∈ins∧o.Outs∈outs∧∃b,QaD n m task p=some (0,b)∧QM b=some 0∧QF b o.Ins=some 0∧QR b o.Outs=some 0:=by
 unfold Qfs
 cases hb:QaD n m task p with
 | none=>simp
 | some x=>
  obtain⟨c,b⟩:=x
  simp only
  by_cases hc:c=0∧QM b=some 0
  ·rw [if_pos hc]
   obtain⟨rfl,hg⟩:=hc
   simp only [List.mem_flatMap]
   constructor
   ·rintro ⟨e,he,h⟩
    by_cases ht:QF b e=some 0
    ·rw [if_pos ht]at h
     obtain⟨r,hr,rfl⟩:=List.mem_map.1 h
     obtain⟨h1,h2⟩:=List.mem_filter.1 hr
     exact⟨rfl,rfl,he,h1,b,rfl,hg,ht,of_decide_eq_true h2⟩
    ·rw [if_neg ht]at h;cases h
   ·rintro ⟨h1,h2,h3,h4,b',h5,h6,h7,h8⟩
    cases h5
    refine⟨o.Ins,h3,?_⟩
    rw [if_pos h7]
    refine List.mem_map.2 ⟨o.Outs,List.mem_filter.2 ⟨h4,decide_eq_true h8⟩,?_⟩
    cases o
    simp only at h1 h2
    subst h1;subst h2;rfl
  ·rw [if_neg hc]
   constructor
   ·intro h;cases h
   ·rintro ⟨_,_,_,_,b',h5,h6,_⟩
    cases h5
    exact absurd ⟨rfl,h6⟩ hc
theorem QjX {n:TNet}{m:List (List (Int×Int))}{task:Int}{o:Qm}:
  o∈Qba n m task↔o.Task=task∧∃e,idx n.Tasks task=some e∧inB (szB n e) o.Vars∧o.Ins∈chC e.Join e.Ins.length∧o.Outs∈chC e.Split e.Outs.length∧∃b,QaD n m task o.Vars=some (0,b)∧QM b=some 0∧QF b o.Ins=some 0∧QR b o.Outs=some 0:=by
 unfold Qba
 cases he:idx n.Tasks task with
 | none=>simp
 | some e=>
  simp only [List.mem_flatMap,QsL,QsV,Option.some.injEq,exists_eq_left']
  constructor
  ·rintro ⟨p,h1,h2,rfl,h3,h4,h5⟩
   exact⟨h2,h1,h3,h4,h5⟩
  ·rintro ⟨h1,h2,h3,h4,h5⟩
   exact⟨o.Vars,h2,h1,rfl,h3,h4,h5⟩
theorem Qrw {n:TNet}{m:List (List (Int×Int))}{o:Qm}:o∈allL n m↔o∈Qba n m o.Task:=by
 unfold allL
 simp only [List.mem_flatMap,List.mem_range]
 constructor
 ·rintro ⟨k,hk,h⟩
  have:=(QjX.1 h).1
  rwa [this]
 ·intro h
  obtain⟨_,e,he,_⟩:=QjX.1 h
  have h0:0≤o.Task:=by
   unfold idx at he
   split at he
   ·assumption
   ·cases he
  rw [QjH h0]at he
  have:=(List.getElem?_eq_some_iff.1 he).1
  exact⟨o.Task.toNat,this,by rwa [show((o.Task.toNat:Nat):Int)=o.Task by omega]⟩
theorem Qsb (a b:List Int)(ha:a.length≤maxLen):Qbs a b=some (decide (a=b)):=by
 have key:TotP (Qbs a b) fun r=>r=decide (a=b):=by
  unfold Qbs
  refine TotP.bif (fun hc=>TotP.ok ?_) fun hc=>?_
  ·rw [decide_eq_false fun e=>by subst e;simp at hc]
  simp only [bne_eq_false_iff_eq]at hc
  have hc:a.length=b.length:=by omega
  refine TotP.bind (TotP.up a.length (fun st=>st) (fun st=>a.take st.toNat=b.take st.toNat) (Q:=fun q:Unit⊕Unit=>(q=.inl ()→a≠b)∧(q=.inr ()→a=b)) rfl rfl (fun i st hi hn hJ=>?_)) (fun q hq=>?_)
  ·replace hi:st=(i:Int):=hi
   subst hi
   replace hJ:a.take (i:Int).toNat=b.take (i:Int).toNat:=hJ
   rw [Int.toNat_natCast]at hJ
   show TotP (QaU a b i) _
   unfold QaU
   refine TotP.bif (fun hc2=>?_) (fun hc2=>TotP.ok (Qn ⟨fun e=>(by cases e),fun _=>?_⟩))
   ·simp only [decide_eq_true_eq]at hc2
    have i1:i<a.length:=by omega
    have i2:i<b.length:=by omega
    rw [QaW,List.getElem?_eq_getElem i1,Option.bind_some,QaW,List.getElem?_eq_getElem i2,Option.bind_some]
    refine TotP.bif (fun hc3=>TotP.ok (Qn ⟨fun _ e=>?_,fun e=>by cases e⟩)) fun hc3=>?_
    ·subst e;simp at hc3
    ·have hw:w64 ((i:Int)+1)=((i+1:Nat):Int):=Qz i1 ha
     refine TotP.ok (QC ⟨i1,hw,?_⟩)
     show a.take (w64 ((i:Int)+1)).toNat=b.take (w64 ((i:Int)+1)).toNat
     rw [hw,Int.toNat_natCast,List.take_add_one,List.take_add_one,hJ,List.getElem?_eq_getElem i1,List.getElem?_eq_getElem i2]
     simp only [bne_eq_false_iff_eq]at hc3
     rw [hc3]
   ·simp only [decide_eq_false_iff_not]at hc2
    rwa [List.take_of_length_le (by omega),List.take_of_length_le (by omega)]at hJ
  ·rcases q with q | q
   ·exact TotP.ok (decide_eq_false (hq.1 rfl)).symm
   ·exact TotP.ok (decide_eq_true (hq.2 rfl)).symm
 obtain⟨r,h1,h2⟩:=key
 rw [h1,h2]
theorem Qq9 (kind arcs:Int):Qa1 kind arcs=some (chC kind arcs)∧Qjq (chC kind arcs):=by
 obtain⟨r,h1,h2⟩:=QnM kind arcs
 unfold chC
 rw [h1]
 exact⟨rfl,h2⟩
theorem QgV (kind arcs:Int)(row:List Int):QdH kind arcs row=some (decide (row∈chC kind arcs)):=by
 have key:TotP (QdH kind arcs row) fun r=>r=decide (row∈chC kind arcs):=by
  unfold QdH QbI QbH
  obtain⟨e,hx⟩:=Qq9 kind arcs
  rw [e,Option.bind_some]
  generalize chC kind arcs=x at hx
  have hl:=hx.1
  have key:TotP ((QI (fun st=>QW x row st) 0)) fun q:Int⊕Unit=>(∀k,q=.inl k→0≤k∧row∈x)∧(q=.inr ()→row ∉ x):=by
   refine TotP.up x.length (fun st=>st) (fun st=>row ∉ x.take st.toNat) rfl (by simp) (fun i st hi hn hJ=>?_)
   replace hi:st=(i:Int):=hi
   subst hi
   replace hJ:row ∉ x.take (i:Int).toNat:=hJ
   rw [Int.toNat_natCast]at hJ
   show TotP (QW x row i) _
   unfold QW Qhf
   refine TotP.bif (fun hc=>?_) (fun hc=>TotP.ok (Qn ⟨fun k e=>(by cases e),fun _=>?_⟩))
   ·simp only [decide_eq_true_eq]at hc
    have i1:i<x.length:=by omega
    have:=hx.2 _ (List.getElem_mem i1)
    rw [QaW,List.getElem?_eq_getElem i1,Option.bind_some,Qsb _ _ (by unfold maxLen;omega)]
    simp only [Option.bind_some]
    refine TotP.bif (fun hc2=>TotP.ok (Qn ⟨fun k e=>(by cases e;exact⟨by omega,by rw [←of_decide_eq_true hc2];exact List.getElem_mem i1⟩),fun e=>by cases e⟩)) fun hc2=>?_
    have hw:w64 ((i:Int)+1)=((i+1:Nat):Int):=Qz i1 (by unfold maxLen;omega:x.length≤maxLen)
    refine TotP.ok (QC ⟨i1,hw,?_⟩)
    show row ∉ x.take (w64 ((i:Int)+1)).toNat
    rw [hw,Int.toNat_natCast,List.take_add_one,List.getElem?_eq_getElem i1]
    simp only [Option.toList_some,List.mem_append,List.mem_singleton,not_or]
    exact⟨hJ,fun e=>of_decide_eq_false hc2 e.symm⟩
   ·simp only [decide_eq_false_iff_not]at hc
    rwa [List.take_of_length_le (by omega)]at hJ
  obtain⟨q,hq1,hq2⟩:=key
  rw [hq1]
  rcases q with q | q
  ·have:=hq2.1 q rfl
   refine TotP.ok ?_
   rw [decide_eq_true this.2]
   exact decide_eq_true this.1
  ·refine TotP.ok ?_
   rw [decide_eq_false (hq2.2 rfl)];rfl
 obtain⟨r,h1,h2⟩:=key
 rw [h1,h2]
theorem QsW (l:List Qy)(k m:Int)(hl:lenL Qbv l):TotP (Qcv l k m) fun r=>r.2=true→0≤m∧∃z,Qaw l k=some z∧m<z:=by
 unfold Qcv Qaw
 refine TotP.bind (QgP l k hl).self fun x hx=>?_
 obtain⟨hxe,hx⟩:=hx
 refine TotP.bind (P:=fun r=>r=false→x.1=true∧0≤m∧∃h:0≤k∧k<(x.2.sizes.length:Int),m<x.2.sizes[k.toNat]'(by omega)) ?_ fun r hr=>?_
 ·unfold Qe6
  refine TotP.bif (fun _=>TotP.ok fun h=>by cases h) fun hc=>?_
  have hc:x.1=true:=by simpa using hc
  have h:=hx.2 hc
  have hk:k.toNat<x.2.sizes.length:=by omega
  have ei:idx x.2.sizes k=some x.2.sizes[k.toNat]:=Qnv h.1.1 h.1.2
  refine TotP.bind (P:=fun y=>y=true→0≤m∧m<x.2.sizes[k.toNat]) ?_ fun y hy=>TotP.ok fun hf=>?_
  ·unfold QbK
   refine TotP.bind (P:=fun y=>y=true→0≤m∧m<x.2.sizes[k.toNat]) ?_ fun y hy=>TotP.ok hy
   unfold QcP
   refine TotP.bif (fun hc2=>?_) fun _=>TotP.ok fun h=>by cases h
   rw [h.2.1,ei,Option.bind_some]
   exact TotP.ok fun h=>⟨by simpa using hc2,by simpa using h⟩
  ·have:=hy (by simpa using hf)
   exact⟨hc,this.1,h.1,this.2⟩
 ·unfold Qci
  refine TotP.bif (fun _=>TotP.ok fun h=>by cases h) fun hc=>?_
  obtain⟨h1,h2,h3,h4⟩:=hr hc
  have h:=hx.2 h1
  have fin:0≤m∧∃z,((Qdb l k).bind fun x5=>bif (!x5.1)then some 0 else(idx x5.2.sizes k).bind fun e7=>some e7)=some z∧m<z:=⟨h2,x.2.sizes[k.toNat]'(by omega),by
   rw [hxe,Option.bind_some,h1]
   simp only [Bool.not_true,cond_false]
   rw [Qnv h3.1 h3.2];rfl,h4⟩
  refine TotP.bind (Qgf x.2 (by omega)) fun _ _=>?_
  refine TotP.bif (fun _=>?_) fun _=>TotP.ok fun _=>fin
  exact TotP.bind (Qgf x.2 (by omega)) fun _ _=>TotP.ok fun _=>fin
theorem Qud {l d:List Int}(h:d.length=l.length)(hk:∀(j:Nat) x s,d[j]? = some x→l[j]? = some s→0≤x∧x<s):inB l d:=by
 induction l generalizing d with
 | nil=>cases d with
  | nil=>trivial
  | cons x d=>simp at h
 | cons s r ih=>cases d with
  | nil=>simp at h
  | cons x d=>
   have:=hk 0 x s rfl rfl
   exact⟨this.1,.inr this.2,ih (by simpa using h) fun j y z h1 h2=>hk (j+1) y z (by simpa using h1) (by simpa using h2)⟩
theorem Que (n:TNet)(task:Int)(vars:List Int)(h:QcN n):TotP (Qd0 n task vars) fun r=>r.2=0→∃e,idx n.Tasks task=some e∧e∈n.Tasks∧inB (szB n e) vars∧∀s∈szB n e,0<s:=by
 unfold Qd0
 refine TotP.bif (fun _=>TotP.ok fun h=>by cases h) fun hc=>?_
 simp only [Bool.or_eq_false_iff,decide_eq_false_iff_not]at hc
 refine TotP.bind (TotP.idx (by omega) (by omega)).self fun e he=>?_
 have hv:=(h.tk e he.2).1
 have ke:=h.k.2.2.1.2 e he.2
 refine TotP.bif (fun _=>TotP.ok fun h=>by cases h) fun hl=>?_
 simp only [bne_eq_false_iff_eq]at hl
 have hl:vars.length=e.Vars.length:=by omega
 refine TotP.bind (TotP.chk (by simp only [Bool.and_eq_true,decide_eq_true_eq];omega)) fun _ _=>?_
 refine TotP.bind (TotP.up e.Vars.length (fun st=>st.1) (fun st=>st.2.length=e.Vars.length∧∀(j:Nat) x s,(j:Int)<st.1→vars[j]? = some x→(szB n e)[j]? = some s→0≤x∧x<s) (Q:=fun q:Unit⊕List Int=>∀out,q=.inr out→inB (szB n e) vars∧∀s∈szB n e,0<s) rfl ⟨by simp,fun j x s hj=>by simp at hj;omega⟩ (fun i st hi hn hJ=>?_)) (fun q hq=>?_)
 ·obtain⟨x,l⟩:=st
  replace hi:x=(i:Int):=hi
  subst hi
  obtain⟨hJ,hJ2⟩:l.length=e.Vars.length∧∀(j:Nat) x s,(j:Int)<(i:Int)→vars[j]? = some x→(szB n e)[j]? = some s→0≤x∧x<s:=hJ
  show TotP (QcJ e vars n i l) _
  unfold QcJ
  refine TotP.bif (fun hc=>?_) (fun hc=>TotP.ok (Qn fun out _=>?_))
  ·simp only [decide_eq_true_eq]at hc
   have i1:i<e.Vars.length:=by omega
   have i2:i<vars.length:=by omega
   rw [QaW,List.getElem?_eq_getElem i1,Option.bind_some,QaW,List.getElem?_eq_getElem i2,Option.bind_some]
   refine TotP.bind (QsW _ _ _ h.k.1) fun c hc3=>?_
   refine TotP.bif (fun _=>TotP.ok (Qn fun out e=>by cases e)) fun hc4=>?_
   obtain⟨h1,z,h2,h3⟩:=hc3 (by simpa using hc4)
   refine TotP.bind (TotP.idx (by omega) (by omega)) fun d _=>?_
   have hw:w64 ((i:Int)+1)=((i+1:Nat):Int):=Qz i1 (by unfold maxLen;omega:e.Vars.length≤maxLen)
   refine TotP.ok (QC ⟨i1,hw,by simpa using hJ,fun j x s hj hx hs=>?_⟩)
   replace hj:(j:Int)<w64 ((i:Int)+1):=hj
   rw [hw]at hj
   by_cases cj:j=i
   ·subst cj
    rw [List.getElem?_eq_getElem i2]at hx
    cases hx
    unfold szB at hs
    rw [List.getElem?_map,List.getElem?_eq_getElem i1,Option.map_some,h2]at hs
    cases hs
    exact⟨h1,h3⟩
   ·exact hJ2 j x s (by omega) hx hs
  ·simp only [decide_eq_false_iff_not]at hc
   have hb:∀(j:Nat) x s,vars[j]? = some x→(szB n e)[j]? = some s→0≤x∧x<s:=fun j x s hx hs=>hJ2 j x s (by have:=(List.getElem?_eq_some_iff.1 hx).1;omega) hx hs
   refine⟨Qud (by simp [szB,hl]) hb,fun s hs=>?_⟩
   obtain⟨j,hj,rfl⟩:=List.mem_iff_getElem.1 hs
   have hj2:j<vars.length:=by simp [szB]at hj;omega
   have:=hb j _ _ (List.getElem?_eq_getElem hj2) (List.getElem?_eq_getElem hj)
   omega
 ·rcases q with q | q
  ·exact TotP.ok fun h=>by cases h
  ·exact TotP.ok fun _=>⟨e,he.1,he.2,hq q rfl⟩
theorem Qmu {n:TNet}{m:List (List (Int×Int))}{task:Int}{vars:List Int}{b:Qw}(h:QcN n)(e:QaD n m task vars=some (0,b)):idx n.Tasks task=some b.task∧b.task∈n.Tasks∧b.net=n∧b.m=m∧(inB (szB n b.task) vars∧∀s∈szB n b.task,0<s)∧Qd0 n task vars=some (b.env,0):=by
 unfold QaD at e
 obtain⟨x,hx,e⟩:=Qb e
 obtain⟨x1,x2⟩:=x
 rcases bifE e with⟨c,e⟩|⟨c,e⟩
 ·simp only [Option.some.injEq,Prod.mk.injEq]at e
  simp only [e.1]at c;cases c
 simp only [bne_eq_false_iff_eq]at c
 subst c
 obtain⟨t,ht,h1,h2⟩:=Qp5 (Que n task vars h) hx rfl
 rw [ht,Option.bind_some]at e
 simp only [Option.some.injEq,Prod.mk.injEq,true_and]at e
 subst e
 exact⟨ht,h1,rfl,rfl,h2,hx⟩
theorem Qqj {n:TNet}{m:List (List (Int×Int))}{o:Qm}(h:QcN n)(hm:lenL (lenL fun _=>True) m)(ho:QpK n o):Qbl n m o=some 0↔o∈Qba n m o.Task:=by
 rw [QjX]
 constructor
 ·intro e
  unfold Qbl at e
  obtain⟨x,hx,e⟩:=Qb e
  obtain⟨c,b⟩:=x
  have k3:∀g,Qb3 (c,b) o g=some 0→g=0∧o.Ins∈chC b.task.Join b.task.Ins.length∧o.Outs∈chC b.task.Split b.task.Outs.length∧QF b o.Ins=some 0∧QR b o.Outs=some 0:=fun g e=>by
   unfold Qb3 at e
   rcases bifE e with⟨c2,e⟩|⟨c2,e⟩
   ·simp only [Option.some.injEq]at e;rw [e]at c2;cases c2
   simp only [bne_eq_false_iff_eq]at c2
   obtain⟨y,hy,e⟩:=Qb e
   unfold Qe8 at hy
   rw [QgV,Option.bind_some]at hy
   unfold QcA at e
   rcases bifE e with⟨_,e⟩|⟨c3,e⟩
   ·cases e
   subst c3
   rcases bifE hy with⟨_,hy⟩|⟨c4,hy⟩
   ·cases hy
   rw [QgV,Option.bind_some]at hy
   simp only [Bool.not_eq_false',decide_eq_true_eq]at c4
   simp only [Option.some.injEq,Bool.not_eq_false',decide_eq_true_eq]at hy
   obtain⟨z,hz,e⟩:=Qb e
   rcases bifE e with⟨c5,e⟩|⟨c5,e⟩
   ·simp only [Option.some.injEq]at e;rw [e]at c5;cases c5
   simp only [bne_eq_false_iff_eq]at c5
   subst c5
   obtain⟨w,hw,e⟩:=Qb e
   simp only [Option.some.injEq]at e
   subst e
   exact⟨c2,c4,hy,hz,hw⟩
  have fin:c=0→QM b=some 0→(o.Ins∈chC b.task.Join b.task.Ins.length∧o.Outs∈chC b.task.Split b.task.Outs.length∧QF b o.Ins=some 0∧QR b o.Outs=some 0)→o.Task=o.Task∧∃e,idx n.Tasks o.Task=some e∧inB (szB n e) o.Vars∧o.Ins∈chC e.Join e.Ins.length∧o.Outs∈chC e.Split e.Outs.length∧∃b,QaD n m o.Task o.Vars=some (0,b)∧QM b=some 0∧QF b o.Ins=some 0∧QR b o.Outs=some 0:=fun hc hg q=>by
   subst hc
   obtain⟨h1,_,_,_,h2,_⟩:=Qmu h hx
   exact⟨rfl,b.task,h1,h2.1,q.1,q.2.1,b,hx,hg,q.2.2.1,q.2.2.2⟩
  rcases bifE e with⟨c1,e⟩|⟨c1,e⟩
  ·simp only [beq_iff_eq]at c1
   obtain⟨g,hg,e⟩:=Qb e
   obtain⟨rfl,q⟩:=k3 g e
   exact fin c1 hg q
  ·have e1:=(k3 _ e).1
   simp only [beq_eq_false_iff_ne]at c1
   exact absurd e1 c1
 ·rintro ⟨_,e,he,h1,h2,h3,b,hb,hg,ht,hv⟩
  obtain⟨k1,k2,_⟩:=Qmu h hb
  rw [he]at k1;cases k1
  unfold Qbl
  rw [hb,Option.bind_some]
  simp only [show((0:Int)==0)=true from rfl,cond_true,hg,Option.bind_some]
  unfold Qb3
  simp only [show((0:Int) != 0)=false from rfl,cond_false]
  unfold Qe8
  rw [QgV,Option.bind_some,decide_eq_true h2]
  simp only [Bool.not_true,cond_false]
  rw [QgV,Option.bind_some,decide_eq_true h3,Option.bind_some]
  unfold QcA
  simp only [Bool.not_true,cond_false,ht,Option.bind_some,show((0:Int) != 0)=false from rfl,hv]
end Go.Proofs
