/- A part of the proof; what it holds is told at each theorem. -/
import Derived.Test.YtphohlpbjofddaaGreatDoorL1P2
import Derived.Test.YtphohlpbjofddaaGreatDoorL1P1
import Derived.Test.YtphohlpbjofddaaGreatDoorL1T3
import Derived.KernelRfl
set_option linter.unusedVariables false
set_option linter.unusedSimpArgs false
set_option linter.unusedSectionVars false
set_option linter.deprecated false
noncomputable section
namespace Go.Proofs
open Go Go.RowKit Go.Vm
def QgX (n:TNet)(w:Int)(x:List Bag)(o:Qk):Option (List Bag):=if o.Task=w then none else match Qea n x o with
 | some (y,c)=>if c=0 then some y else none
 | none=>none
def Qly (n:TNet)(w:Int)(x:List Bag):List (List Bag):=(allL n x).filterMap (QgX n w x)
theorem QvW {n:TNet}{w:Int}{x y:List Bag}{o:Qk}(h:QgX n w x o=some y):o.Task≠w∧Qea n x o=some (y,0):=by
 unfold QgX at h
 split at h
 ·cases h
 ·rename_i c
  refine⟨c,?_⟩
  cases e:Qea n x o with
  | none=>rw [e]at h;cases h
  | some r=>
   obtain⟨a,b⟩:=r
   rw [e]at h
   simp only at h
   split at h
   ·rename_i c2;cases h;rw [c2]
   ·cases h
theorem QvX {n:TNet}{w:Int}{x:List Bag}(h:QT n)(hg:Good n x):∀y∈Qly n w x,Good n y:=fun y hy=>by
 obtain⟨o,ho,he⟩:=List.mem_filterMap.1 hy
 exact Qud h hg (QrY h (hg.len h) ho) (QvW he).2
def FM (mm:List (ByteArray×Bool))(l:List (List Bag)):Prop:=∀k,(mget mm k).getD false=l.any fun y=>decide (Qcc y=k)
theorem FM.add {mm:List (ByteArray×Bool)}{l:List (List Bag)}(h:FM mm l)(x:List Bag):FM (mset ltS mm (Qcc x) true) (l++[x]):=fun k=>by
 rw [Qhw,List.any_append]
 by_cases c:k=Qcc x
 ·subst c
  rw [if_pos rfl]
  simp
 ·rw [if_neg c,h k]
  have:decide (Qcc x=k)=false:=decide_eq_false fun e=>c e.symm
  simp [this]
def QS (budget:Int):Nat:=(min2 (max2 0 budget) 4096).toNat
theorem Que (budget:Int):(QS budget:Int)=min2 (max2 0 budget) 4096∧QS budget≤4096:=by
 unfold QS min2 max2
 split<;>split<;>omega
def QiY (n:TNet)(w budget:Int)(m:List Bag):List (List Bag)×Bool:=if QS budget=0 then([],false)else Qhm Qcc (Qly n w) (QS budget) (QS budget+1) [m] 0
theorem Qu0 {n:TNet}{m:List Bag}(w budget:Int)(h:QT n)(hb:Bd n)(hg:Good n m):Qfd n m w budget=some (QiY n w budget m):=by
 have hm:=Que budget
 have hpl:=h.pl
 unfold Qfd QiY
 by_cases c0:QS budget=0
 ·rw [if_pos c0,show(min2 (max2 0 budget) 4096==0)=true by rw [←hm.1,c0];rfl];rfl
 rw [if_neg c0,show(min2 (max2 0 budget) 4096==0)=false by simp;omega]
 simp only [cond_false]
 have hm1:=hg.1.1
 rw [QtI h hg,Option.bind_some,QmY m (by omega) (fun b hb=>by have:=(hg.1.2 b hb).2;omega),Option.bind_some]
 generalize hR:Qhm Qcc (Qly n w) (QS budget) (QS budget+1) [m] 0=R
 have main:TotP (QC (fun st=>Qcm n w budget st.1 st.2.1 st.2.2) ((0:Int),(mset ltS ([]:(List (ByteArray×Bool))) (Qcc m) true),[m])) fun q:List (List Bag)⊕List (List Bag)=>(∀l,q=.inl l→R=(l,false))∧∀l,q=.inr l→R=(l,true):=by
  refine TotP.up (QS budget) (fun st=>st.1) (fun st=>FM st.2.1 st.2.2∧(∀x∈st.2.2,Good n x)∧st.2.2.length≤QS budget∧Qhm Qcc (Qly n w) (QS budget) (QS budget+1-st.1.toNat) st.2.2 st.1.toNat=R) rfl ⟨?_,?_,?_,hR⟩ (fun i st hi hn hJ=>?_)
  ·exact FM.add (mm:=[]) (l:=[]) (fun k=>rfl) m
  ·intro x hx;simp at hx;subst hx;exact hg
  ·show 1≤_;omega
  ·obtain⟨a,mm,l⟩:=st
   replace hi:a=(i:Int):=hi
   subst hi
   obtain⟨j1,j2,j3,j4⟩:FM mm l∧(∀x∈l,Good n x)∧l.length≤QS budget∧Qhm Qcc (Qly n w) (QS budget) (QS budget+1-(i:Int).toNat) l (i:Int).toNat=R:=hJ
   rw [Int.toNat_natCast,show QS budget+1-i=(QS budget-i)+1 by omega,Qhm]at j4
   show TotP (Qcm n w budget i mm l) _
   unfold Qcm
   refine TotP.bif (fun hc=>?_) (fun hc=>TotP.ok (Ql ⟨fun l' e=>(by cases e),fun l' e=>?_⟩))
   ·simp only [decide_eq_true_eq]at hc
    have i1:i<l.length:=by omega
    have hx:=List.getElem?_eq_getElem i1
    have hgx:=j2 _ (List.getElem_mem i1)
    rw [QX,hx,Option.bind_some]
    rw [hx]at j4
    simp only at j4
    generalize l[i]=x at hx hgx j4 ⊢
    have hal:=Qw9 x h hb
    rw [QoA n x 9223372036854775807 h (hgx.len h) (by omega) (by omega) (.inr (by omega)),Option.bind_some]
    have hxl:=hgx.len h
    have e0:(allL n x).take (9223372036854775807:Int).toNat=allL n x:=List.take_of_length_le (by omega)
    rw [e0]
    have hok:=fun o=>QrY (o:=o) h hxl
    have inner:TotP (QC (fun st=>Qcl (allL n x) w i n budget st.1 st.2.1 st.2.2) ((0:Int),mm,l)) fun q:List (List Bag)⊕(List (ByteArray×Bool)×List (List Bag))=>
      (∀o,q=.inl o→Qb4 Qcc (QS budget) l (Qly n w x)=.inl o)∧∀mm' o,q=.inr (mm',o)→Qb4 Qcc (QS budget) l (Qly n w x)=.inr o∧FM mm' o∧(∀x∈o,Good n x)∧o.length≤QS budget:=by
     generalize hT:Qb4 Qcc (QS budget) l (Qly n w x)=T
     have hT:Qb4 Qcc (QS budget) l ((allL n x).filterMap (QgX n w x))=T:=hT
     generalize allL n x=X at hT hal hok ⊢
     refine TotP.up X.length (fun st=>st.1) (fun st=>FM st.2.1 st.2.2∧(∀x∈st.2.2,Good n x)∧st.2.2.length≤QS budget∧st.2.2[i]? = some x∧Qb4 Qcc (QS budget) st.2.2 ((X.drop st.1.toNat).filterMap (QgX n w x))=T) rfl ⟨j1,j2,j3,hx,hT⟩ (fun k st hk hn2 hK=>?_)
     obtain⟨a,mm,l⟩:=st
     replace hk:a=(k:Int):=hk
     subst hk
     obtain⟨k1,k2,k3,k4,k5⟩:FM mm l∧(∀x∈l,Good n x)∧l.length≤QS budget∧l[i]? = some x∧Qb4 Qcc (QS budget) l ((X.drop (k:Int).toNat).filterMap (QgX n w x))=T:=hK
     rw [Int.toNat_natCast]at k5
     show TotP (Qcl X w i n budget k mm l) _
     unfold Qcl
     refine TotP.bif (fun hc2=>?_) (fun hc2=>TotP.ok (Ql ⟨fun o e=>(by cases e),fun mm' o e=>?_⟩))
     ·simp only [decide_eq_true_eq]at hc2
      have i2:k<X.length:=by omega
      have hw:w64 ((k:Int)+1)=((k+1:Nat):Int):=Qs i2 (by unfold maxLen;omega:X.length≤maxLen)
      have next:∀mm' l',FM mm' l'→(∀x∈l',Good n x)→l'.length≤QS budget→l'[i]? = some x→Qb4 Qcc (QS budget) l' ((X.drop (k+1)).filterMap (QgX n w x))=T→
        TotP (Qck k mm' l') fun o=>(∀s',o=.inl s'→k<X.length∧s'.1=((k+1:Nat):Int)∧FM s'.2.1 s'.2.2∧(∀x∈s'.2.2,Good n x)∧s'.2.2.length≤QS budget∧s'.2.2[i]? = some x∧Qb4 Qcc (QS budget) s'.2.2 ((X.drop s'.1.toNat).filterMap (QgX n w x))=T)∧
         ∀r:List (List Bag)⊕(List (ByteArray×Bool)×List (List Bag)),o=.inr r→(∀o,r=.inl o→T=.inl o)∧∀mm' o,r=.inr (mm',o)→T=.inr o∧FM mm' o∧(∀x∈o,Good n x)∧o.length≤QS budget:=fun mm' l' f1 f2 f3 f4 f5=>by
       unfold Qck
       refine TotP.ok (Qu (ix:=fun st:Int×List (ByteArray×Bool)×List (List Bag)=>st.1) (J:=fun st:Int×List (ByteArray×Bool)×List (List Bag)=>FM st.2.1 st.2.2∧(∀x∈st.2.2,Good n x)∧st.2.2.length≤QS budget∧st.2.2[i]? = some x∧Qb4 Qcc (QS budget) st.2.2 ((X.drop st.1.toNat).filterMap (QgX n w x))=T) ⟨i2,hw,f1,f2,f3,f4,?_⟩)
       show Qb4 Qcc (QS budget) l' ((X.drop (w64 ((k:Int)+1)).toNat).filterMap (QgX n w x))=T
       rw [hw,Int.toNat_natCast];exact f5
      rw [QX,List.getElem?_eq_getElem i2,Option.bind_some]
      rw [List.drop_eq_getElem_cons i2,List.filterMap_cons]at k5
      have hox:=hok _ (List.getElem_mem i2)
      generalize X[k]=o at k5 hox ⊢
      refine TotP.bif (fun hc3=>?_) fun hc3=>?_
      ·have:QgX n w x o=none:=by unfold QgX;rw [if_pos (by simpa using hc3)]
       rw [this]at k5
       exact next mm l k1 k2 k3 k4 k5
      simp only [beq_eq_false_iff_ne]at hc3
      rw [QX,k4,Option.bind_some]
      obtain⟨⟨y,c⟩,hD,_⟩:=t_Do n x o 1024 h hgx.1 (by omega) hox
      rw [hD,Option.bind_some]
      by_cases cc:c=0
      ·subst cc
       have hgy:=Qud h hgx hox hD
       have:QgX n w x o=some y:=by unfold QgX;rw [if_neg hc3,hD];rfl
       rw [this]at k5
       simp only at k5
       rw [Qb4]at k5
       unfold QgV
       simp only [show((0:Int) != 0)=false from rfl,cond_false]
       rw [QtI h hgy,Option.bind_some,k1 (Qcc y),Option.bind_some]
       unfold Qds
       refine TotP.bif (fun hh=>?_) fun hh=>?_
       ·rw [if_pos (show hasK Qcc l y=true from hh)]at k5
        exact next mm l k1 k2 k3 k4 k5
       ·rw [if_neg (by rw [show hasK Qcc l y=false from hh];decide)]at k5
        refine TotP.bif (fun hf=>?_) fun hf=>?_
        ·simp only [beq_iff_eq]at hf
         rw [if_pos (by omega)]at k5
         exact TotP.ok (Ql ⟨fun o e=>(by cases e;exact k5.symm),fun mm' o e=>by cases e⟩)
        ·simp only [beq_eq_false_iff_ne]at hf
         rw [if_neg (by omega)]at k5
         simp only
         rw [QtI h hgy,Option.bind_some]
         refine TotP.bind (TotP.chk (by simp;omega)) fun _ _=>?_
         refine next _ _ (k1.add y) (fun z hz=>?_) (by simp;omega) (by rw [List.getElem?_append_left ((List.getElem?_eq_some_iff.1 k4).1)];exact k4) k5
         rcases List.mem_append.1 hz with hz | hz
         ·exact k2 z hz
         ·simp at hz;subst hz;exact hgy
      ·have:QgX n w x o=none:=by unfold QgX;rw [if_neg hc3,hD];simp only;rw [if_neg cc]
       rw [this]at k5
       unfold QgV
       simp only [show(c != 0)=true by simpa using cc,cond_true,Option.bind_some]
       unfold Qds
       exact next mm l k1 k2 k3 k4 k5
     ·cases e
      simp only [decide_eq_false_iff_not]at hc2
      rw [List.drop_of_length_le (by omega),List.filterMap_nil,Qb4]at k5
      exact⟨k5.symm,k1,k2,k3⟩
    obtain⟨q,hq1,hq2,hq3⟩:=inner
    rw [hq1,Option.bind_some]
    rcases q with q | ⟨mm',o⟩
    ·have:=hq2 q rfl
     rw [this]at j4
     show TotP (QeI q) _
     unfold QeI
     exact TotP.ok (Ql ⟨fun l' e=>(by cases e;exact j4.symm),fun l' e=>by cases e⟩)
    ·obtain⟨f1,f2,f3,f4⟩:=hq3 mm' o rfl
     rw [f1]at j4
     simp only at j4
     show TotP (QeJ i mm' o) _
     unfold QeJ
     have hw:w64 ((i:Int)+1)=((i+1:Nat):Int):=Qs (by omega:i<QS budget) (by unfold maxLen;omega)
     refine TotP.ok (Qu ⟨by omega,hw,f2,f3,f4,?_⟩)
     show Qhm Qcc (Qly n w) (QS budget) (QS budget+1-(w64 ((i:Int)+1)).toNat) o (w64 ((i:Int)+1)).toNat=R
     rw [hw,Int.toNat_natCast,show QS budget+1-(i+1)=QS budget-i by omega]
     exact j4
   ·cases e
    simp only [decide_eq_false_iff_not]at hc
    rw [List.getElem?_eq_none (by omega)]at j4
    exact j4.symm
 obtain⟨q,hq1,hq2,hq3⟩:=main
 rw [hq1,Option.bind_some]
 rcases q with q | q
 ·rw [hq2 q rfl];rfl
 ·rw [hq3 q rfl];rfl
end Go.Proofs
noncomputable section
namespace Go.Proofs
open Go Go.RowKit Go.Vm
theorem QnW {l:List Int}{j:Nat}(h:j<l.length):l.toArray[j]! = l[j]:=by
 rw [getElem!_pos l.toArray j (by simpa using h)];simp
theorem QvY {l:List Int}{x:Int}(h:x∈QeZ l):x∈l:=by
 unfold QeZ Lib.compact Lib.compactUpTo at h
 obtain⟨j,hj,rfl⟩:=List.mem_map.1 h
 have:=List.mem_range.1 (List.mem_filter.1 hj).1
 rw [QnW this];exact List.getElem_mem this
theorem QvZ {l:List Int}(h:l.Pairwise (·≤·)):(QeZ l).Pairwise (·<·):=by
 have hp:=List.pairwise_iff_getElem.1 h
 unfold QeZ Lib.compact Lib.compactUpTo
 rw [List.pairwise_map,List.pairwise_filter,List.pairwise_iff_getElem]
 intro i j hi hj hij _ hk
 rw [List.length_range]at hi hj
 rw [List.getElem_range]at hk
 rw [List.getElem_range,List.getElem_range,QnW hi,QnW hj]
 unfold Lib.keeps at hk
 have hk:=of_decide_eq_true hk
 rcases hk with hk | hk
 ·omega
 ·have hj1:j-1<l.length:=by omega
  rw [QnW hj,QnW hj1]at hk
  have h1:=hp (j-1) j hj1 hj (by omega)
  by_cases c:i=j-1
  ·subst c;omega
  ·have h2:=hp i (j-1) hi hj1 (by omega)
   omega
theorem QwF (l:List Int):(QdU l).Pairwise (·≤·):=Qqz l
theorem Qv0 {l:List Int}{x:Int}:x∈QdU l↔x∈l:=by
 exact(Qoh l).mem_iff
def Bare (m:List Bag)(k:Int):Prop:=0≤k∧k<m.length∧m[k.toNat]? = some []
theorem Qu1 (n:TNet)(m:List Bag)(task:Int)(h:QT n):TotP (Qcb n m task) fun e=>(∀k∈e,Bare m k)∧e.Pairwise (·<·):=by
 unfold Qcb
 refine TotP.bif (fun _=>TotP.ok ⟨fun k h=>(by cases h),List.Pairwise.nil⟩) fun hc=>?_
 simp only [Bool.or_eq_false_iff,decide_eq_false_iff_not]at hc
 refine TotP.bind (TotP.idx (by omega) (by omega)) fun e he=>?_
 have hil:=(h.tk e he).2.1
 refine TotP.bind (TotP.up e.Ins.length (fun st=>st.1) (fun st=>(st.2.length:Int)≤st.1∧∀k∈st.2,Bare m k) (Q:=fun q:List Int=>q.length≤16∧∀k∈q,Bare m k) rfl ⟨by simp,fun k h=>by cases h⟩ (fun i st hi hn hJ=>?_)) (fun q hq=>?_)
 ·obtain⟨x,l⟩:=st
  replace hi:x=(i:Int):=hi
  subst hi
  obtain⟨j1,j2⟩:(l.length:Int)≤(i:Int)∧∀k∈l,Bare m k:=hJ
  show TotP (Qdt e m i l) _
  unfold Qdt
  refine TotP.bif (fun hc2=>?_) (fun hc2=>TotP.ok (Ql ⟨by omega,j2⟩))
  simp only [decide_eq_true_eq]at hc2
  have i1:i<e.Ins.length:=by omega
  have hw:w64 ((i:Int)+1)=((i+1:Nat):Int):=Qs i1 (by unfold maxLen;omega:e.Ins.length≤maxLen)
  rw [QX,List.getElem?_eq_getElem i1,Option.bind_some]
  refine TotP.bind (P:=fun y=>y=true→Bare m (e.Ins[i]).Place) ?_ fun y hy=>?_
  ·unfold Qju
   refine TotP.bif (fun c1=>?_) fun _=>TotP.ok fun h=>by cases h
   refine TotP.bif (fun c2=>?_) fun _=>TotP.ok fun h=>by cases h
   simp only [decide_eq_true_eq]at c1 c2
   have hk:(e.Ins[i]).Place.toNat<m.length:=by omega
   rw [Qjf c1,List.getElem?_eq_getElem hk,Option.bind_some]
   refine TotP.ok fun hz=>⟨c1,c2,?_⟩
   simp only [beq_iff_eq]at hz
   rw [List.getElem?_eq_getElem hk,List.length_eq_zero_iff.1 (show(m[(e.Ins[i]).Place.toNat]).length=0 by omega)]
  ·unfold QeL QeK
   refine TotP.bif (fun c1=>?_) fun _=>?_
   ·refine TotP.bind (TotP.chk (by simp;omega)) fun _ _=>?_
    refine TotP.ok (Qu ⟨i1,hw,by show((l++[_]).length:Int)≤w64 _;rw [hw];simp;omega,fun k hk=>?_⟩)
    rcases List.mem_append.1 hk with hk | hk
    ·exact j2 k hk
    ·simp at hk;subst hk;exact hy c1
   ·exact TotP.ok (Qu ⟨i1,hw,by show(l.length:Int)≤w64 _;rw [hw];omega,j2⟩)
 ·obtain⟨q1,q2⟩:=hq
  show TotP (QeM q) _
  unfold QeM
  rw [QtB _ (by omega),Option.bind_some]
  refine TotP.bind (TotP.chk (by simp [Qkq])) fun _ _=>?_
  unfold Qdh
  rw [QpY (by rw [Qkq];omega),Option.bind_some,Option.bind_some]
  exact TotP.ok ⟨fun k hk=>q2 k (Qv0.1 (QvY hk)),QvZ (QwF q)⟩
def QlJ (n:TNet)(m:List Bag)(task:Int):List Int:=(Qcb n m task).getD []
theorem QwG (n:TNet)(m:List Bag)(task:Int)(h:QT n):Qcb n m task=some (QlJ n m task)∧(∀k∈QlJ n m task,Bare m k)∧(QlJ n m task).Pairwise (·<·):=by
 obtain⟨e,h1,h2⟩:=Qu1 n m task h
 unfold QlJ
 rw [h1];exact⟨rfl,h2⟩
def hasT (e:List Int)(x:List Bag):Bool:=e.any fun k=>decide (0<(((x[k.toNat]?).getD []).length:Int))
theorem QxB (e:List Int)(x:List Bag)(he:e.length≤maxLen)(hk:∀k∈e,0≤k∧k<x.length):QaM e x=some (hasT e x):=by
 unfold QaM QbU
 obtain⟨q,h1,h2⟩:=(TotP.up (body:=fun st=>QZ e x st) e.length (fun st=>st) (fun st=>hasT (e.take st.toNat) x=false) (Q:=fun q:Int⊕Unit=>(∀j,q=.inl j→0≤j∧hasT e x=true)∧(q=.inr ()→hasT e x=false)) (s0:=(0:Int)) rfl rfl (fun i st hi hn hJ=>by
  replace hi:st=(i:Int):=hi
  subst hi
  replace hJ:hasT (e.take (i:Int).toNat) x=false:=hJ
  rw [Int.toNat_natCast]at hJ
  show TotP (QZ e x i) _
  unfold QZ QhL
  refine TotP.bif (fun hc=>?_) (fun hc=>TotP.ok (Ql ⟨fun j e=>(by cases e),fun _=>?_⟩))
  ·simp only [decide_eq_true_eq]at hc
   have i1:i<e.length:=by omega
   have hmem:=List.getElem_mem i1
   obtain⟨k1,k2⟩:=hk _ hmem
   have hkk:(e[i]).toNat<x.length:=by omega
   rw [QX,List.getElem?_eq_getElem i1,Option.bind_some,Qjf k1,List.getElem?_eq_getElem hkk]
   simp only [Option.bind_some]
   have hval:decide (0<(((x[(e[i]).toNat]?).getD []).length:Int))=decide (0<((x[(e[i]).toNat]).length:Int)):=by rw [List.getElem?_eq_getElem hkk];rfl
   refine TotP.bif (fun hc2=>TotP.ok (Ql ⟨fun j e'=>(by cases e';exact⟨by omega,List.any_eq_true.2 ⟨_,hmem,by rw [hval];exact hc2⟩⟩),fun e=>by cases e⟩)) fun hc2=>?_
   have hw:w64 ((i:Int)+1)=((i+1:Nat):Int):=Qs i1 he
   refine TotP.ok (Qu ⟨i1,hw,?_⟩)
   show hasT (e.take (w64 ((i:Int)+1)).toNat) x=false
   rw [hw,Int.toNat_natCast,List.take_add_one,List.getElem?_eq_getElem i1]
   unfold hasT at hJ ⊢
   rw [List.any_append,hJ]
   simp only [Option.toList_some,List.any_cons,List.any_nil,Bool.or_false,Bool.false_or]
   rw [hval];exact hc2
  ·simp only [decide_eq_false_iff_not]at hc
   rwa [List.take_of_length_le (by omega)]at hJ))
 rw [h1]
 rcases q with q | q
 ·have:=h2.1 q rfl
  rw [this.2]
  simp only [Option.bind_some,Sum.elim_inl]
  unfold Qby
  rw [Option.bind_some,decide_eq_true this.1]
 ·rw [h2.2 rfl];rfl
theorem Qu2 {n:TNet}{m:List Bag}(w budget:Int)(h:QT n)(hg:Good n m):(∀x∈(QiY n w budget m).1,Good n x)∧(QiY n w budget m).1.length≤QS budget∧Qmf Qcc (QiY n w budget m).1∧(0<QS budget→∃r,(QiY n w budget m).1=m::r):=by
 unfold QiY
 by_cases c0:QS budget=0
 ·rw [if_pos c0]
  exact⟨fun x h=>(by cases h),by simp,List.Pairwise.nil,fun h=>by omega⟩
 ·rw [if_neg c0]
  obtain⟨⟨r,hr⟩,h2,h3,h4⟩:=QvE (key:=Qcc) (succ:=Qly n w) (P:=Good n) (fun x hx=>QvX h hx) (most:=QS budget) (QS budget+1) (out:=[m]) (a:=0) (by simp;omega) (List.pairwise_singleton _ _) fun x hx=>by simp at hx;subst hx;exact hg
  exact⟨h4,h2,h3,fun _=>⟨r,hr⟩⟩
def Qu3 (n:TNet)(m:List Bag)(task budget:Int):Int:=if (QiY n task budget m).1.any (hasT (QlJ n m task))then 0 else if (QiY n task budget m).2 then 1 else 2
theorem QwH {n:TNet}{m:List Bag}(task budget:Int)(h:QT n)(hb:Bd n)(hg:Good n m):Qg8 n m task budget=some (Qu3 n m task budget):=by
 have hpl:=h.pl
 obtain⟨e1,e2,e3⟩:=QwG n m task h
 obtain⟨r1,r2,_,_⟩:=Qu2 task budget h hg
 have hmost:=(Que budget).2
 have hm1:=hg.1.1
 unfold Qg8 Qu3
 rw [e1,Option.bind_some,Qu0 task budget h hb hg,Option.bind_some]
 have hel:(QlJ n m task).length≤maxLen:=by
  unfold Qcb at e1
  have:∀(l:List Int) (a b:Int),l.Pairwise (·<·)→(∀k∈l,a≤k∧k<b)→(l.length:Int)≤max 0 (b-a):=by
   intro l
   induction l with
   | nil=>intro a b _ _;simp;omega
   | cons x l ih=>
    intro a b hp hk
    obtain⟨p1,p2⟩:=List.pairwise_cons.1 hp
    have h1:=hk x List.mem_cons_self
    have:=ih (x+1) b p2 fun k hk2=>⟨by have:=p1 k hk2;omega,(hk k (List.mem_cons_of_mem _ hk2)).2⟩
    simp only [List.length_cons];omega
  have:=this _ 0 (m.length:Int) e3 fun k hk=>⟨(e2 k hk).1,(e2 k hk).2.1⟩
  unfold maxLen;omega
 have hbk:∀x∈(QiY n task budget m).1,∀k∈QlJ n m task,0≤k∧k<x.length:=fun x hx k hk=>by
  have h1:=e2 k hk
  have h2:=(r1 x hx).1.1
  exact⟨h1.1,by have:=h1.2.1;omega⟩
 generalize QiY n task budget m=R at r1 r2 hbk ⊢
 generalize QlJ n m task=E at hel hbk ⊢
 obtain⟨q,h1,h2⟩:=(TotP.up (body:=fun st:List Int×Int=>Qcn R st.1 st.2) R.1.length (fun st=>st.2) (fun st=>st.1=E∧(R.1.take st.2.toNat).any (hasT E)=false) (Q:=fun q:Unit⊕Unit=>(q=.inl ()→R.1.any (hasT E)=true)∧(q=.inr ()→R.1.any (hasT E)=false)) (s0:=(E,(0:Int))) rfl ⟨rfl,rfl⟩ (fun i st hi hn hJ=>by
  obtain⟨a,x⟩:=st
  replace hi:x=(i:Int):=hi
  subst hi
  obtain⟨j1,j2⟩:a=E∧(R.1.take (i:Int).toNat).any (hasT E)=false:=hJ
  subst j1
  rw [Int.toNat_natCast]at j2
  show TotP (Qcn R a i) _
  unfold Qcn
  refine TotP.bif (fun hc=>?_) (fun hc=>TotP.ok (Ql ⟨fun e=>(by cases e),fun _=>?_⟩))
  ·simp only [decide_eq_true_eq]at hc
   have i1:i<R.1.length:=by omega
   have hmem:=List.getElem_mem i1
   rw [QX,List.getElem?_eq_getElem i1,Option.bind_some,QxB a _ hel (hbk _ hmem),Option.bind_some]
   refine TotP.bif (fun hc2=>TotP.ok (Ql ⟨fun _=>List.any_eq_true.2 ⟨_,hmem,hc2⟩,fun e=>by cases e⟩)) fun hc2=>?_
   have hw:w64 ((i:Int)+1)=((i+1:Nat):Int):=Qs i1 (by unfold maxLen;omega:R.1.length≤maxLen)
   refine TotP.ok (Qu ⟨i1,hw,rfl,?_⟩)
   show(R.1.take (w64 ((i:Int)+1)).toNat).any (hasT a)=false
   rw [hw,Int.toNat_natCast,List.take_add_one,List.getElem?_eq_getElem i1,List.any_append,j2]
   simpa using hc2
  ·simp only [decide_eq_false_iff_not]at hc
   rwa [List.take_of_length_le (by omega)]at j2))
 rw [h1,Option.bind_some]
 rcases q with q | q
 ·rw [h2.1 rfl];rfl
 ·rw [h2.2 rfl]
  show QeN R=_
  unfold QeN
  cases R.2<;>rfl
def QrZ (n:TNet)(m:List Bag)(o:Qk)(budget:Int):Int:=if QaE n m o=some 0 then(match idx n.Tasks o.Task with
 | some e=>if e.Join=3 then Qu3 n m o.Task budget else 1
 | none=>0)else 0
theorem Qr0 {n:TNet}{m:List Bag}{o:Qk}(h:QT n)(hm:lenL (lenL fun _=>True) m)(ho:Qhp n o)(hc:QaE n m o=some 0):∃e,idx n.Tasks o.Task=some e∧e∈n.Tasks:=by
 obtain⟨_,e,he,_,_,_,b,hb,_⟩:=Qkt.1 ((QpO h hm ho).1 hc)
 obtain⟨k1,k2,_⟩:=Qmh h hb
 rw [he]at k1;cases k1
 exact⟨_,he,k2⟩
theorem QwI {n:TNet}{m:List Bag}(o:Qk)(budget:Int)(h:QT n)(hb:Bd n)(hg:Good n m)(ho:Qhp n o):QcW n m o budget=some (QrZ n m o budget):=by
 unfold QcW QrZ
 obtain⟨c,hc,_⟩:=Qua n m o h (hg.len h) ho
 rw [hc,Option.bind_some]
 by_cases c0:c=0
 ·subst c0
  obtain⟨e,he,_⟩:=Qr0 h (hg.len h) ho hc
  rw [if_pos rfl,he]
  simp only [show((0:Int) != 0)=false from rfl,cond_false,Option.bind_some]
  by_cases cj:e.Join=3
  ·rw [if_pos cj,show(e.Join != 3)=false by simpa using cj,cond_false,QwH o.Task budget h hb hg];rfl
  ·rw [if_neg cj,show(e.Join != 3)=true by simpa using cj];rfl
 ·rw [if_neg (fun e=>c0 (Option.some.inj e)),show(c != 0)=true by simpa using c0];rfl
end Go.Proofs
noncomputable section
namespace Go.Proofs
open Go Go.RowKit Go.Vm
set_option maxRecDepth 100000 in
theorem Qu4 : QjY=some true:=by kernel_rfl
end Go.Proofs
noncomputable section
namespace Go.Proofs
open Go Go.RowKit Go.Vm
theorem QwJ (n:TNet)(m:List Bag)(budget:Int)(hn:QI n)(hm:lenL (lenL fun _=>True) m):TotP (QiT n m budget) fun r=>r=true→QT n∧Bd n∧Good n m∧budget≤12:=by
 unfold QiT
 refine TotP.bind (Qxv n m hn hm).self fun f hf=>?_
 obtain⟨hfe,hf⟩:=hf
 refine TotP.bind (P:=fun r=>r=true→QT n∧Bd n∧Good n m∧budget≤12) ?_ fun r hr=>?_
 ·unfold Qk5
  refine TotP.bif (fun c1=>?_) fun _=>TotP.ok fun h=>by cases h
  refine TotP.bif (fun c2=>?_) fun _=>TotP.ok fun h=>by cases h
  refine TotP.bif (fun c3=>?_) fun _=>TotP.ok fun h=>by cases h
  obtain⟨h,g1,g2⟩:=hf c1
  subst c1
  rw [QsV h g1 (by omega),Option.bind_some]
  exact TotP.ok fun _=>⟨h,Qxa n m h hfe,⟨g1,g2⟩,by simpa using c2⟩
 ·unfold Qgz
  exact TotP.ok hr
theorem Qv1 {n:TNet}{m:List Bag}(h:QT n)(hg:Good n m):∃k:Nat,Qh4 n m=some (k:Int):=by
 unfold Qh4
 rw [QoA n m 60 h (hg.len h) (by omega) (by omega) (.inl (by omega)),Option.bind_some]
 exact⟨_,rfl⟩
end Go.Proofs
noncomputable section
namespace Go.Proofs
open Go Go.RowKit Go.Vm
theorem Qt0 {n:TNet}{m:List Bag}{o:Qk}{e:Qr}{budget:Int}(hc:QaE n m o=some 0)(he:idx n.Tasks o.Task=some e)(hj:e.Join≠3):QrZ n m o budget=1:=by
 unfold QrZ
 rw [if_pos hc,he]
 simp only
 rw [if_neg hj]
theorem Qv2 {n:TNet}{m:List Bag}(budget:Int)(h:QT n)(hb:Bd n)(hg:Good n m):TotP (Qf9 n m budget 50) fun r=>r.1.length≤((allL n m).take 50).length∧(∀o∈r.1,o∈allL n m)∧((∀e∈n.Tasks,e.Join≠3)→r.2=true∧r.1.length=((allL n m).take 50).length):=by
 have hml:=hg.len h
 unfold Qf9
 rw [QoA n m 50 h hml (by omega) (by omega) (.inl (by omega)),Option.bind_some]
 have hmem:∀o∈(allL n m).take (50:Int).toNat,o∈allL n m:=fun o ho=>List.mem_of_mem_take ho
 show TotP _ fun r:List Qk×Bool=>r.1.length≤((allL n m).take (50:Int).toNat).length∧(∀o∈r.1,o∈allL n m)∧((∀e∈n.Tasks,e.Join≠3)→r.2=true∧r.1.length=((allL n m).take (50:Int).toNat).length)
 have hlen:((allL n m).take (50:Int).toNat).length≤50:=by rw [List.length_take];omega
 have hok:=fun o=>QrY (o:=o) h hml
 have hck:∀o∈allL n m,QaE n m o=some 0:=fun o ho=>(QpO h hml (hok o ho)).2 (Qsq.1 ho)
 generalize (allL n m).take (50:Int).toNat=X at hmem hlen ⊢
 refine TotP.bind (TotP.up X.length (fun st=>st.2.1) (fun st=>(st.2.2.1.length:Int)≤st.2.1∧(∀o∈st.2.2.1,o∈allL n m)∧((∀e∈n.Tasks,e.Join≠3)→st.1=true∧(st.2.2.1.length:Int)=st.2.1∧∀k v,mget st.2.2.2 k=some v→v=1)) (Q:=fun q:Bool×List Qk=>q.2.length≤X.length∧(∀o∈q.2,o∈allL n m)∧((∀e∈n.Tasks,e.Join≠3)→q.1=true∧q.2.length=X.length)) rfl ⟨by simp,fun o h=>(by cases h),fun _=>⟨rfl,by simp,fun k v e=>by simp [mget]at e⟩⟩ (fun i st hi hn hJ=>?_)) (fun q hq=>TotP.ok hq)
 obtain⟨known,x,l,mm⟩:=st
 replace hi:x=(i:Int):=hi
 subst hi
 obtain⟨j1,j2,j3⟩:(l.length:Int)≤(i:Int)∧(∀o∈l,o∈allL n m)∧((∀e∈n.Tasks,e.Join≠3)→known=true∧(l.length:Int)=(i:Int)∧∀k v,mget mm k=some v→v=1):=hJ
 show TotP (QdS X n m budget known i l mm) _
 unfold QdS
 refine TotP.bif (fun hc=>?_) (fun hc=>TotP.ok (Ql ?_))
 ·simp only [decide_eq_true_eq]at hc
  have i1:i<X.length:=by omega
  have hw:w64 ((i:Int)+1)=((i+1:Nat):Int):=Qs i1 (by unfold maxLen;omega:X.length≤maxLen)
  have ho:=hmem _ (List.getElem_mem i1)
  rw [QX,List.getElem?_eq_getElem i1,Option.bind_some]
  generalize X[i]=o at ho ⊢
  have k2:∀mm':List (Int×Int),((∀e∈n.Tasks,e.Join≠3)→mget mm' o.Task=some 1∧∀k v,mget mm' k=some v→v=1)→TotP (QdR o l i known mm') fun r=>(∀s',r=.inl s'→i<X.length∧s'.2.1=((i+1:Nat):Int)∧(s'.2.2.1.length:Int)≤s'.2.1∧(∀o∈s'.2.2.1,o∈allL n m)∧((∀e∈n.Tasks,e.Join≠3)→s'.1=true∧(s'.2.2.1.length:Int)=s'.2.1∧∀k v,mget s'.2.2.2 k=some v→v=1))∧∀q:Bool×List Qk,r=.inr q→q.2.length≤X.length∧(∀o∈q.2,o∈allL n m)∧((∀e∈n.Tasks,e.Join≠3)→q.1=true∧q.2.length=X.length):=fun mm' hm'=>by
   unfold QdR QdQ
   refine TotP.bif (fun c1=>?_) fun c1=>?_
   ·refine TotP.bind (TotP.chk (by simp;omega)) fun _ _=>?_
    refine TotP.ok (Qu (ix:=fun st:Bool×Int×List Qk×List (Int×Int)=>st.2.1) (J:=fun st:Bool×Int×List Qk×List (Int×Int)=>(st.2.2.1.length:Int)≤st.2.1∧(∀o∈st.2.2.1,o∈allL n m)∧((∀e∈n.Tasks,e.Join≠3)→st.1=true∧(st.2.2.1.length:Int)=st.2.1∧∀k v,mget st.2.2.2 k=some v→v=1)) ⟨i1,hw,?_,fun o' ho'=>?_,fun hp=>?_⟩)
    ·show((l++[o]).length:Int)≤w64 _;rw [hw];simp;omega
    ·rcases List.mem_append.1 ho' with ho' | ho'
     ·exact j2 o' ho'
     ·simp at ho';subst ho';exact ho
    ·obtain⟨p1,p2,p3⟩:=j3 hp
     exact⟨p1,by show((l++[o]).length:Int)=w64 _;rw [hw];simp;omega,(hm' hp).2⟩
   ·have hbad:¬∀e∈n.Tasks,e.Join≠3:=fun hp=>by
     rw [(hm' hp).1]at c1
     cases c1
    refine TotP.bif (fun c2=>?_) fun c2=>?_
    ·refine TotP.ok (Qu (ix:=fun st:Bool×Int×List Qk×List (Int×Int)=>st.2.1) (J:=fun st:Bool×Int×List Qk×List (Int×Int)=>(st.2.2.1.length:Int)≤st.2.1∧(∀o∈st.2.2.1,o∈allL n m)∧((∀e∈n.Tasks,e.Join≠3)→st.1=true∧(st.2.2.1.length:Int)=st.2.1∧∀k v,mget st.2.2.2 k=some v→v=1)) ⟨i1,hw,by show(l.length:Int)≤w64 _;rw [hw];omega,j2,fun hp=>absurd hp hbad⟩)
    ·refine TotP.ok (Qu (ix:=fun st:Bool×Int×List Qk×List (Int×Int)=>st.2.1) (J:=fun st:Bool×Int×List Qk×List (Int×Int)=>(st.2.2.1.length:Int)≤st.2.1∧(∀o∈st.2.2.1,o∈allL n m)∧((∀e∈n.Tasks,e.Join≠3)→st.1=true∧(st.2.2.1.length:Int)=st.2.1∧∀k v,mget st.2.2.2 k=some v→v=1)) ⟨i1,hw,by show(l.length:Int)≤w64 _;rw [hw];omega,j2,fun hp=>absurd hp hbad⟩)
  refine TotP.bif (fun c=>?_) fun c=>?_
  ·rw [QwI o budget h hb hg (hok o ho),Option.bind_some]
   refine k2 _ fun hp=>?_
   obtain⟨e,he,hem⟩:=Qr0 h hml (hok o ho) (hck o ho)
   rw [Qt0 (hck o ho) he (hp e hem)]
   refine⟨by rw [Qhw,if_pos rfl],fun k v e=>?_⟩
   rw [Qhw]at e
   split at e
   ·cases e;rfl
   ·exact(j3 hp).2.2 k v e
  ·refine k2 _ fun hp=>?_
   have h3:=(j3 hp).2.2
   cases e:mget mm o.Task with
   | none=>rw [e]at c;cases c
   | some v=>exact⟨by rw [h3 _ _ e],h3⟩
 ·simp only [decide_eq_false_iff_not]at hc
  exact⟨by show l.length≤_;omega,j2,fun hp=>⟨(j3 hp).1,by have:=(j3 hp).2.1;show l.length=_;omega⟩⟩
theorem Qu5 (n:TNet)(m:List Bag)(budget:Int)(hn:QI n)(hm0:lenL (lenL fun _=>True) m):Qcs n m budget=some true:=by
 unfold Qcs
 rw [Qu4,Option.bind_some]
 obtain⟨f,hf,hf2⟩:=QwJ n m budget hn hm0
 rw [hf,Option.bind_some]
 cases hc:(!f)with
 | true=>rfl
 | false=>
  simp only [cond_false]
  obtain⟨h,hb,hg,hbud⟩:=hf2 (by simpa using hc)
  have hml:=hg.len h
  have first:TotP (QC (fun st=>Qa2 n st.1 st.2) (false,(0:Int))) fun q:Bool=>q=false→∀e∈n.Tasks,e.Join≠3:=by
   refine TotP.up n.Tasks.length (fun st=>st.2) (fun st=>st.1=false→∀e∈n.Tasks.take st.2.toNat,e.Join≠3) rfl (fun _ e h=>by simp at h) (fun i st hi hn2 hJ=>?_)
   obtain⟨s,x⟩:=st
   replace hi:x=(i:Int):=hi
   subst hi
   replace hJ:s=false→∀e∈n.Tasks.take (i:Int).toNat,e.Join≠3:=hJ
   rw [Int.toNat_natCast]at hJ
   show TotP (Qa2 n s i) _
   unfold Qa2
   refine TotP.bif (fun hc2=>?_) (fun hc2=>TotP.ok (Ql fun hs=>?_))
   ·simp only [decide_eq_true_eq]at hc2
    have i1:i<n.Tasks.length:=by omega
    have hw:w64 ((i:Int)+1)=((i+1:Nat):Int):=Qs i1 h.k.2.2.1.1
    refine TotP.bind (P:=fun r=>r=false→∀e∈n.Tasks.take (i+1),e.Join≠3) ?_ fun r hr=>?_
    ·unfold QgK
     refine TotP.bif (fun _=>TotP.ok fun h=>by cases h) fun hs=>?_
     rw [QX,List.getElem?_eq_getElem i1,Option.bind_some]
     refine TotP.ok fun hj e he=>?_
     rw [List.take_add_one,List.getElem?_eq_getElem i1]at he
     rcases List.mem_append.1 he with he | he
     ·exact hJ hs e he
     ·simp at he;subst he;simpa using hj
    ·unfold Qcz
     refine TotP.ok (Qu ⟨i1,hw,?_⟩)
     show r=false→∀e∈n.Tasks.take (w64 ((i:Int)+1)).toNat,e.Join≠3
     rw [hw,Int.toNat_natCast];exact hr
   ·simp only [decide_eq_false_iff_not]at hc2
    rw [List.take_of_length_le (by omega)]at hJ
    exact hJ hs
  obtain⟨s,hs,hs2⟩:=first
  rw [hs,Option.bind_some]
  unfold Qd1
  obtain⟨k,hk⟩:=Qv1 h hg
  rw [hk,Option.bind_some]
  cases hc2:decide ((40:Int)≤(k:Int))with
  | true=>rfl
  | false=>
   simp only [cond_false]
   rw [QoA n m 50 h hml (by omega) (by omega) (.inl (by omega)),Option.bind_some]
   obtain⟨r,hr,r1,r2,r3⟩:=Qv2 budget h hb hg
   rw [hr,Option.bind_some]
   have hok:=fun o=>QrY (o:=o) h hml
   have hck:∀o∈allL n m,QaE n m o=some 0:=fun o ho=>(QpO h hml (hok o ho)).2 (Qsq.1 ho)
   have hlen:((allL n m).take 50).length≤50:=by rw [List.length_take];omega
   have main:TotP (QC (fun st=>Qa3 r n m st) 0) fun q:Unit⊕Unit=>q=.inr ():=by
    refine TotP.up r.1.length (fun st=>st) (fun _=>True) rfl trivial (fun i st hi hn2 _=>?_)
    replace hi:st=(i:Int):=hi
    subst hi
    show TotP (Qa3 r n m i) _
    unfold Qa3
    refine TotP.bif (fun hc3=>?_) (fun _=>TotP.ok (Ql rfl))
    simp only [decide_eq_true_eq]at hc3
    have i1:i<r.1.length:=by omega
    rw [QX,List.getElem?_eq_getElem i1,Option.bind_some,hck _ (r2 _ (List.getElem_mem i1)),Option.bind_some]
    exact TotP.ok (Qu ⟨i1,Qs i1 (by unfold maxLen;omega),trivial⟩)
   obtain⟨q,hq1,rfl⟩:=main
   rw [hq1,Option.bind_some]
   show QcA true r ((allL n m).take 50) s=some true
   unfold QcA
   rw [decide_eq_true (by omega)]
   cases s with
   | true=>rfl
   | false=>
    obtain⟨p1,p2⟩:=r3 (hs2 rfl)
    rw [p1,p2];simp
end Go.Proofs
