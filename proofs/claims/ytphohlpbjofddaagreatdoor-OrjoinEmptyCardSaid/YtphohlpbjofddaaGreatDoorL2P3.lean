/- A part of the proof; what it holds is told at each theorem. -/
import Derived.Test.YtphohlpbjofddaaGreatDoorL2P2
import Derived.Test.YtphohlpbjofddaaGreatDoorL2P1
import Derived.Test.YtphohlpbjofddaaGreatDoorL2T3
import Derived.KernelRfl
set_option linter.unusedVariables false
set_option linter.unusedSimpArgs false
set_option linter.unusedSectionVars false
set_option linter.deprecated false
noncomputable section
namespace Go.Proofs
open Go Go.RowKit Go.Vm
def QgV (n:TNet)(w:Int)(x:List Bag)(o:Qk):Option (List Bag):=if o.Task=w then none else match Qd8 n x o with
 | some (y,c)=>if c=0 then some y else none
 | none=>none
def Qlz (n:TNet)(w:Int)(x:List Bag):List (List Bag):=(allL n x).filterMap (QgV n w x)
theorem QvX {n:TNet}{w:Int}{x y:List Bag}{o:Qk}(h:QgV n w x o=some y):o.Task≠w∧Qd8 n x o=some (y,0):=by
 unfold QgV at h
 split at h
 ·cases h
 ·rename_i c
  refine⟨c,?_⟩
  cases e:Qd8 n x o with
  | none=>rw [e]at h;cases h
  | some r=>
   obtain⟨a,b⟩:=r
   rw [e]at h
   simp only at h
   split at h
   ·rename_i c2;cases h;rw [c2]
   ·cases h
theorem QvY {n:TNet}{w:Int}{x:List Bag}(h:QW n)(hg:Good n x):∀y∈Qlz n w x,Good n y:=fun y hy=>by
 obtain⟨o,ho,he⟩:=List.mem_filterMap.1 hy
 exact Que h hg (QvQ h (hg.len h) ho) (QvX he).2
def FM (mm:List (ByteArray×Bool))(l:List (List Bag)):Prop:=∀k,(mget mm k).getD false=l.any fun y=>decide (Qce y=k)
theorem FM.add {mm:List (ByteArray×Bool)}{l:List (List Bag)}(h:FM mm l)(x:List Bag):FM (mset ltS mm (Qce x) true) (l++[x]):=fun k=>by
 rw [Qkq,List.any_append]
 by_cases c:k=Qce x
 ·subst c
  rw [if_pos rfl]
  simp
 ·rw [if_neg c,h k]
  have:decide (Qce x=k)=false:=decide_eq_false fun e=>c e.symm
  simp [this]
def QS (budget:Int):Nat:=(min2 (max2 0 budget) 4096).toNat
theorem Quf (budget:Int):(QS budget:Int)=min2 (max2 0 budget) 4096∧QS budget≤4096:=by
 unfold QS min2 max2
 split<;>split<;>omega
def Qh6 (n:TNet)(w budget:Int)(m:List Bag):List (List Bag)×Bool:=if QS budget=0 then([],false)else Qhk Qce (Qlz n w) (QS budget) (QS budget+1) [m] 0
theorem Qu1 {n:TNet}{m:List Bag}(w budget:Int)(h:QW n)(hb:Bd n)(hg:Good n m):Qfb n m w budget=some (Qh6 n w budget m):=by
 have hm:=Quf budget
 have hpl:=h.pl
 unfold Qfb Qh6
 by_cases c0:QS budget=0
 ·rw [if_pos c0,show(min2 (max2 0 budget) 4096==0)=true by rw [←hm.1,c0];rfl];rfl
 rw [if_neg c0,show(min2 (max2 0 budget) 4096==0)=false by simp;omega]
 simp only [cond_false]
 have hm1:=hg.1.1
 rw [QtK h hg,Option.bind_some,QmY m (by omega) (fun b hb=>by have:=(hg.1.2 b hb).2;omega),Option.bind_some]
 generalize hR:Qhk Qce (Qlz n w) (QS budget) (QS budget+1) [m] 0=R
 have main:TotP (QC (fun st=>Qco n w budget st.1 st.2.1 st.2.2) ((0:Int),(mset ltS ([]:(List (ByteArray×Bool))) (Qce m) true),[m])) fun q:List (List Bag)⊕List (List Bag)=>(∀l,q=.inl l→R=(l,false))∧∀l,q=.inr l→R=(l,true):=by
  refine TotP.up (QS budget) (fun st=>st.1) (fun st=>FM st.2.1 st.2.2∧(∀x∈st.2.2,Good n x)∧st.2.2.length≤QS budget∧Qhk Qce (Qlz n w) (QS budget) (QS budget+1-st.1.toNat) st.2.2 st.1.toNat=R) rfl ⟨?_,?_,?_,hR⟩ (fun i st hi hn hJ=>?_)
  ·exact FM.add (mm:=[]) (l:=[]) (fun k=>rfl) m
  ·intro x hx;simp at hx;subst hx;exact hg
  ·show 1≤_;omega
  ·obtain⟨a,mm,l⟩:=st
   replace hi:a=(i:Int):=hi
   subst hi
   obtain⟨j1,j2,j3,j4⟩:FM mm l∧(∀x∈l,Good n x)∧l.length≤QS budget∧Qhk Qce (Qlz n w) (QS budget) (QS budget+1-(i:Int).toNat) l (i:Int).toNat=R:=hJ
   rw [Int.toNat_natCast,show QS budget+1-i=(QS budget-i)+1 by omega,Qhk]at j4
   show TotP (Qco n w budget i mm l) _
   unfold Qco
   refine TotP.bif (fun hc=>?_) (fun hc=>TotP.ok (Ql ⟨fun l' e=>(by cases e),fun l' e=>?_⟩))
   ·simp only [decide_eq_true_eq]at hc
    have i1:i<l.length:=by omega
    have hx:=List.getElem?_eq_getElem i1
    have hgx:=j2 _ (List.getElem_mem i1)
    rw [QY,hx,Option.bind_some]
    rw [hx]at j4
    simp only at j4
    generalize l[i]=x at hx hgx j4 ⊢
    have hal:=Qw9 x h hb
    rw [QtI n x 9223372036854775807 h (hgx.len h) (by omega) (by omega) (.inr (by omega)),Option.bind_some]
    have hxl:=hgx.len h
    have e0:(allL n x).take (9223372036854775807:Int).toNat=allL n x:=List.take_of_length_le (by omega)
    rw [e0]
    have hok:=fun o=>QvQ (o:=o) h hxl
    have inner:TotP (QC (fun st=>Qcn (allL n x) w i n budget st.1 st.2.1 st.2.2) ((0:Int),mm,l)) fun q:List (List Bag)⊕(List (ByteArray×Bool)×List (List Bag))=>
      (∀o,q=.inl o→Qb6 Qce (QS budget) l (Qlz n w x)=.inl o)∧∀mm' o,q=.inr (mm',o)→Qb6 Qce (QS budget) l (Qlz n w x)=.inr o∧FM mm' o∧(∀x∈o,Good n x)∧o.length≤QS budget:=by
     generalize hT:Qb6 Qce (QS budget) l (Qlz n w x)=T
     have hT:Qb6 Qce (QS budget) l ((allL n x).filterMap (QgV n w x))=T:=hT
     generalize allL n x=X at hT hal hok ⊢
     refine TotP.up X.length (fun st=>st.1) (fun st=>FM st.2.1 st.2.2∧(∀x∈st.2.2,Good n x)∧st.2.2.length≤QS budget∧st.2.2[i]? = some x∧Qb6 Qce (QS budget) st.2.2 ((X.drop st.1.toNat).filterMap (QgV n w x))=T) rfl ⟨j1,j2,j3,hx,hT⟩ (fun k st hk hn2 hK=>?_)
     obtain⟨a,mm,l⟩:=st
     replace hk:a=(k:Int):=hk
     subst hk
     obtain⟨k1,k2,k3,k4,k5⟩:FM mm l∧(∀x∈l,Good n x)∧l.length≤QS budget∧l[i]? = some x∧Qb6 Qce (QS budget) l ((X.drop (k:Int).toNat).filterMap (QgV n w x))=T:=hK
     rw [Int.toNat_natCast]at k5
     show TotP (Qcn X w i n budget k mm l) _
     unfold Qcn
     refine TotP.bif (fun hc2=>?_) (fun hc2=>TotP.ok (Ql ⟨fun o e=>(by cases e),fun mm' o e=>?_⟩))
     ·simp only [decide_eq_true_eq]at hc2
      have i2:k<X.length:=by omega
      have hw:w64 ((k:Int)+1)=((k+1:Nat):Int):=Qt i2 (by unfold maxLen;omega:X.length≤maxLen)
      have next:∀mm' l',FM mm' l'→(∀x∈l',Good n x)→l'.length≤QS budget→l'[i]? = some x→Qb6 Qce (QS budget) l' ((X.drop (k+1)).filterMap (QgV n w x))=T→
        TotP (Qcm k mm' l') fun o=>(∀s',o=.inl s'→k<X.length∧s'.1=((k+1:Nat):Int)∧FM s'.2.1 s'.2.2∧(∀x∈s'.2.2,Good n x)∧s'.2.2.length≤QS budget∧s'.2.2[i]? = some x∧Qb6 Qce (QS budget) s'.2.2 ((X.drop s'.1.toNat).filterMap (QgV n w x))=T)∧
         ∀r:List (List Bag)⊕(List (ByteArray×Bool)×List (List Bag)),o=.inr r→(∀o,r=.inl o→T=.inl o)∧∀mm' o,r=.inr (mm',o)→T=.inr o∧FM mm' o∧(∀x∈o,Good n x)∧o.length≤QS budget:=fun mm' l' f1 f2 f3 f4 f5=>by
       unfold Qcm
       refine TotP.ok (Qv (ix:=fun st:Int×List (ByteArray×Bool)×List (List Bag)=>st.1) (J:=fun st:Int×List (ByteArray×Bool)×List (List Bag)=>FM st.2.1 st.2.2∧(∀x∈st.2.2,Good n x)∧st.2.2.length≤QS budget∧st.2.2[i]? = some x∧Qb6 Qce (QS budget) st.2.2 ((X.drop st.1.toNat).filterMap (QgV n w x))=T) ⟨i2,hw,f1,f2,f3,f4,?_⟩)
       show Qb6 Qce (QS budget) l' ((X.drop (w64 ((k:Int)+1)).toNat).filterMap (QgV n w x))=T
       rw [hw,Int.toNat_natCast];exact f5
      rw [QY,List.getElem?_eq_getElem i2,Option.bind_some]
      rw [List.drop_eq_getElem_cons i2,List.filterMap_cons]at k5
      have hox:=hok _ (List.getElem_mem i2)
      generalize X[k]=o at k5 hox ⊢
      refine TotP.bif (fun hc3=>?_) fun hc3=>?_
      ·have:QgV n w x o=none:=by unfold QgV;rw [if_pos (by simpa using hc3)]
       rw [this]at k5
       exact next mm l k1 k2 k3 k4 k5
      simp only [beq_eq_false_iff_ne]at hc3
      rw [QY,k4,Option.bind_some]
      obtain⟨⟨y,c⟩,hD,_⟩:=t_Do n x o 1024 h hgx.1 (by omega) hox
      rw [hD,Option.bind_some]
      by_cases cc:c=0
      ·subst cc
       have hgy:=Que h hgx hox hD
       have:QgV n w x o=some y:=by unfold QgV;rw [if_neg hc3,hD];rfl
       rw [this]at k5
       simp only at k5
       rw [Qb6]at k5
       unfold QgU
       simp only [show((0:Int) != 0)=false from rfl,cond_false]
       rw [QtK h hgy,Option.bind_some,k1 (Qce y),Option.bind_some]
       unfold Qdr
       refine TotP.bif (fun hh=>?_) fun hh=>?_
       ·rw [if_pos (show hasK Qce l y=true from hh)]at k5
        exact next mm l k1 k2 k3 k4 k5
       ·rw [if_neg (by rw [show hasK Qce l y=false from hh];decide)]at k5
        refine TotP.bif (fun hf=>?_) fun hf=>?_
        ·simp only [beq_iff_eq]at hf
         rw [if_pos (by omega)]at k5
         exact TotP.ok (Ql ⟨fun o e=>(by cases e;exact k5.symm),fun mm' o e=>by cases e⟩)
        ·simp only [beq_eq_false_iff_ne]at hf
         rw [if_neg (by omega)]at k5
         simp only
         rw [QtK h hgy,Option.bind_some]
         refine TotP.bind (TotP.chk (by simp;omega)) fun _ _=>?_
         refine next _ _ (k1.add y) (fun z hz=>?_) (by simp;omega) (by rw [List.getElem?_append_left ((List.getElem?_eq_some_iff.1 k4).1)];exact k4) k5
         rcases List.mem_append.1 hz with hz | hz
         ·exact k2 z hz
         ·simp at hz;subst hz;exact hgy
      ·have:QgV n w x o=none:=by unfold QgV;rw [if_neg hc3,hD];simp only;rw [if_neg cc]
       rw [this]at k5
       unfold QgU
       simp only [show(c != 0)=true by simpa using cc,cond_true,Option.bind_some]
       unfold Qdr
       exact next mm l k1 k2 k3 k4 k5
     ·cases e
      simp only [decide_eq_false_iff_not]at hc2
      rw [List.drop_of_length_le (by omega),List.filterMap_nil,Qb6]at k5
      exact⟨k5.symm,k1,k2,k3⟩
    obtain⟨q,hq1,hq2,hq3⟩:=inner
    rw [hq1,Option.bind_some]
    rcases q with q | ⟨mm',o⟩
    ·have:=hq2 q rfl
     rw [this]at j4
     show TotP (QeG q) _
     unfold QeG
     exact TotP.ok (Ql ⟨fun l' e=>(by cases e;exact j4.symm),fun l' e=>by cases e⟩)
    ·obtain⟨f1,f2,f3,f4⟩:=hq3 mm' o rfl
     rw [f1]at j4
     simp only at j4
     show TotP (QeH i mm' o) _
     unfold QeH
     have hw:w64 ((i:Int)+1)=((i+1:Nat):Int):=Qt (by omega:i<QS budget) (by unfold maxLen;omega)
     refine TotP.ok (Qv ⟨by omega,hw,f2,f3,f4,?_⟩)
     show Qhk Qce (Qlz n w) (QS budget) (QS budget+1-(w64 ((i:Int)+1)).toNat) o (w64 ((i:Int)+1)).toNat=R
     rw [hw,Int.toNat_natCast,show QS budget+1-(i+1)=QS budget-i by omega]
     exact j4
   ·cases e
    simp only [decide_eq_false_iff_not]at hc
    rw [List.getElem?_eq_none (by omega)]at j4
    exact j4.symm
 obtain⟨q,hq1,hq2,hq3⟩:=main
 rw [hq1,Option.bind_some]
 rcases q with q | q
 ·rw [hq2 q rfl];rfl
 ·rw [hq3 q rfl];rfl
end Go.Proofs
noncomputable section
namespace Go.Proofs
open Go Go.RowKit Go.Vm
theorem QnW {l:List Int}{j:Nat}(h:j<l.length):l.toArray[j]! = l[j]:=by
 rw [getElem!_pos l.toArray j (by simpa using h)];simp
theorem QvZ {l:List Int}{x:Int}(h:x∈QeY l):x∈l:=by
 unfold QeY Lib.compact Lib.compactUpTo at h
 obtain⟨j,hj,rfl⟩:=List.mem_map.1 h
 have:=List.mem_range.1 (List.mem_filter.1 hj).1
 rw [QnW this];exact List.getElem_mem this
theorem Qv0 {l:List Int}(h:l.Pairwise (·≤·)):(QeY l).Pairwise (·<·):=by
 have hp:=List.pairwise_iff_getElem.1 h
 unfold QeY Lib.compact Lib.compactUpTo
 rw [List.pairwise_map,List.pairwise_filter,List.pairwise_iff_getElem]
 intro i j hi hj hij _ hk
 rw [List.length_range]at hi hj
 rw [List.getElem_range]at hk
 rw [List.getElem_range,List.getElem_range,QnW hi,QnW hj]
 unfold Lib.keeps at hk
 have hk:=of_decide_eq_true hk
 rcases hk with hk | hk
 ·omega
 ·have hj1:j-1<l.length:=by omega
  rw [QnW hj,QnW hj1]at hk
  have h1:=hp (j-1) j hj1 hj (by omega)
  by_cases c:i=j-1
  ·subst c;omega
  ·have h2:=hp i (j-1) hi hj1 (by omega)
   omega
theorem QwF (l:List Int):(QdP l).Pairwise (·≤·):=Qqx l
theorem Qv1 {l:List Int}{x:Int}:x∈QdP l↔x∈l:=by
 exact(Qoh l).mem_iff
def Bare (m:List Bag)(k:Int):Prop:=0≤k∧k<m.length∧m[k.toNat]? = some []
theorem Qu2 (n:TNet)(m:List Bag)(task:Int)(h:QW n):TotP (QbI n m task) fun e=>(∀k∈e,Bare m k)∧e.Pairwise (·<·):=by
 unfold QbI
 refine TotP.bif (fun _=>TotP.ok ⟨fun k h=>(by cases h),List.Pairwise.nil⟩) fun hc=>?_
 simp only [Bool.or_eq_false_iff,decide_eq_false_iff_not]at hc
 refine TotP.bind (TotP.idx (by omega) (by omega)) fun e he=>?_
 have hil:=(h.tk e he).2.1
 refine TotP.bind (TotP.up e.Ins.length (fun st=>st.1) (fun st=>(st.2.length:Int)≤st.1∧∀k∈st.2,Bare m k) (Q:=fun q:List Int=>q.length≤16∧∀k∈q,Bare m k) rfl ⟨by simp,fun k h=>by cases h⟩ (fun i st hi hn hJ=>?_)) (fun q hq=>?_)
 ·obtain⟨x,l⟩:=st
  replace hi:x=(i:Int):=hi
  subst hi
  obtain⟨j1,j2⟩:(l.length:Int)≤(i:Int)∧∀k∈l,Bare m k:=hJ
  show TotP (Qds e m i l) _
  unfold Qds
  refine TotP.bif (fun hc2=>?_) (fun hc2=>TotP.ok (Ql ⟨by omega,j2⟩))
  simp only [decide_eq_true_eq]at hc2
  have i1:i<e.Ins.length:=by omega
  have hw:w64 ((i:Int)+1)=((i+1:Nat):Int):=Qt i1 (by unfold maxLen;omega:e.Ins.length≤maxLen)
  rw [QY,List.getElem?_eq_getElem i1,Option.bind_some]
  refine TotP.bind (P:=fun y=>y=true→Bare m (e.Ins[i]).Place) ?_ fun y hy=>?_
  ·unfold Qjt
   refine TotP.bif (fun c1=>?_) fun _=>TotP.ok fun h=>by cases h
   refine TotP.bif (fun c2=>?_) fun _=>TotP.ok fun h=>by cases h
   simp only [decide_eq_true_eq]at c1 c2
   have hk:(e.Ins[i]).Place.toNat<m.length:=by omega
   rw [Qib c1,List.getElem?_eq_getElem hk,Option.bind_some]
   refine TotP.ok fun hz=>⟨c1,c2,?_⟩
   simp only [beq_iff_eq]at hz
   rw [List.getElem?_eq_getElem hk,List.length_eq_zero_iff.1 (show(m[(e.Ins[i]).Place.toNat]).length=0 by omega)]
  ·unfold QeJ QeI
   refine TotP.bif (fun c1=>?_) fun _=>?_
   ·refine TotP.bind (TotP.chk (by simp;omega)) fun _ _=>?_
    refine TotP.ok (Qv ⟨i1,hw,by show((l++[_]).length:Int)≤w64 _;rw [hw];simp;omega,fun k hk=>?_⟩)
    rcases List.mem_append.1 hk with hk | hk
    ·exact j2 k hk
    ·simp at hk;subst hk;exact hy c1
   ·exact TotP.ok (Qv ⟨i1,hw,by show(l.length:Int)≤w64 _;rw [hw];omega,j2⟩)
 ·obtain⟨q1,q2⟩:=hq
  show TotP (QeK q) _
  unfold QeK
  rw [QtC _ (by omega),Option.bind_some]
  refine TotP.bind (TotP.chk (by simp [Qkp])) fun _ _=>?_
  unfold Qdg
  rw [QpW (by rw [Qkp];omega),Option.bind_some,Option.bind_some]
  exact TotP.ok ⟨fun k hk=>q2 k (Qv1.1 (QvZ hk)),Qv0 (QwF q)⟩
def QiY (n:TNet)(m:List Bag)(task:Int):List Int:=(QbI n m task).getD []
theorem QtL (n:TNet)(m:List Bag)(task:Int)(h:QW n):QbI n m task=some (QiY n m task)∧(∀k∈QiY n m task,Bare m k)∧(QiY n m task).Pairwise (·<·):=by
 obtain⟨e,h1,h2⟩:=Qu2 n m task h
 unfold QiY
 rw [h1];exact⟨rfl,h2⟩
def hasT (e:List Int)(x:List Bag):Bool:=e.any fun k=>decide (0<(((x[k.toNat]?).getD []).length:Int))
theorem QxB (e:List Int)(x:List Bag)(he:e.length≤maxLen)(hk:∀k∈e,0≤k∧k<x.length):QaM e x=some (hasT e x):=by
 unfold QaM QbW
 obtain⟨q,h1,h2⟩:=(TotP.up (body:=fun st=>QZ e x st) e.length (fun st=>st) (fun st=>hasT (e.take st.toNat) x=false) (Q:=fun q:Int⊕Unit=>(∀j,q=.inl j→0≤j∧hasT e x=true)∧(q=.inr ()→hasT e x=false)) (s0:=(0:Int)) rfl rfl (fun i st hi hn hJ=>by
  replace hi:st=(i:Int):=hi
  subst hi
  replace hJ:hasT (e.take (i:Int).toNat) x=false:=hJ
  rw [Int.toNat_natCast]at hJ
  show TotP (QZ e x i) _
  unfold QZ QhH
  refine TotP.bif (fun hc=>?_) (fun hc=>TotP.ok (Ql ⟨fun j e=>(by cases e),fun _=>?_⟩))
  ·simp only [decide_eq_true_eq]at hc
   have i1:i<e.length:=by omega
   have hmem:=List.getElem_mem i1
   obtain⟨k1,k2⟩:=hk _ hmem
   have hkk:(e[i]).toNat<x.length:=by omega
   rw [QY,List.getElem?_eq_getElem i1,Option.bind_some,Qib k1,List.getElem?_eq_getElem hkk]
   simp only [Option.bind_some]
   have hval:decide (0<(((x[(e[i]).toNat]?).getD []).length:Int))=decide (0<((x[(e[i]).toNat]).length:Int)):=by rw [List.getElem?_eq_getElem hkk];rfl
   refine TotP.bif (fun hc2=>TotP.ok (Ql ⟨fun j e'=>(by cases e';exact⟨by omega,List.any_eq_true.2 ⟨_,hmem,by rw [hval];exact hc2⟩⟩),fun e=>by cases e⟩)) fun hc2=>?_
   have hw:w64 ((i:Int)+1)=((i+1:Nat):Int):=Qt i1 he
   refine TotP.ok (Qv ⟨i1,hw,?_⟩)
   show hasT (e.take (w64 ((i:Int)+1)).toNat) x=false
   rw [hw,Int.toNat_natCast,List.take_add_one,List.getElem?_eq_getElem i1]
   unfold hasT at hJ ⊢
   rw [List.any_append,hJ]
   simp only [Option.toList_some,List.any_cons,List.any_nil,Bool.or_false,Bool.false_or]
   rw [hval];exact hc2
  ·simp only [decide_eq_false_iff_not]at hc
   rwa [List.take_of_length_le (by omega)]at hJ))
 rw [h1]
 rcases q with q | q
 ·have:=h2.1 q rfl
  rw [this.2]
  simp only [Option.bind_some,Sum.elim_inl]
  unfold Qbz
  rw [Option.bind_some,decide_eq_true this.1]
 ·rw [h2.2 rfl];rfl
theorem Qu3 {n:TNet}{m:List Bag}(w budget:Int)(h:QW n)(hg:Good n m):(∀x∈(Qh6 n w budget m).1,Good n x)∧(Qh6 n w budget m).1.length≤QS budget∧Qmg Qce (Qh6 n w budget m).1∧(0<QS budget→∃r,(Qh6 n w budget m).1=m::r):=by
 unfold Qh6
 by_cases c0:QS budget=0
 ·rw [if_pos c0]
  exact⟨fun x h=>(by cases h),by simp,List.Pairwise.nil,fun h=>by omega⟩
 ·rw [if_neg c0]
  obtain⟨⟨r,hr⟩,h2,h3,h4⟩:=QvD (key:=Qce) (succ:=Qlz n w) (P:=Good n) (fun x hx=>QvY h hx) (most:=QS budget) (QS budget+1) (out:=[m]) (a:=0) (by simp;omega) (List.pairwise_singleton _ _) fun x hx=>by simp at hx;subst hx;exact hg
  exact⟨h4,h2,h3,fun _=>⟨r,hr⟩⟩
def Qs2 (n:TNet)(m:List Bag)(task budget:Int):Int:=if (Qh6 n task budget m).1.any (hasT (QiY n m task))then 0 else if (Qh6 n task budget m).2 then 1 else 2
theorem QwG {n:TNet}{m:List Bag}(task budget:Int)(h:QW n)(hb:Bd n)(hg:Good n m):Qg6 n m task budget=some (Qs2 n m task budget):=by
 have hpl:=h.pl
 obtain⟨e1,e2,e3⟩:=QtL n m task h
 obtain⟨r1,r2,_,_⟩:=Qu3 task budget h hg
 have hmost:=(Quf budget).2
 have hm1:=hg.1.1
 unfold Qg6 Qs2
 rw [e1,Option.bind_some,Qu1 task budget h hb hg,Option.bind_some]
 have hel:(QiY n m task).length≤maxLen:=by
  unfold QbI at e1
  have:∀(l:List Int) (a b:Int),l.Pairwise (·<·)→(∀k∈l,a≤k∧k<b)→(l.length:Int)≤max 0 (b-a):=by
   intro l
   induction l with
   | nil=>intro a b _ _;simp;omega
   | cons x l ih=>
    intro a b hp hk
    obtain⟨p1,p2⟩:=List.pairwise_cons.1 hp
    have h1:=hk x List.mem_cons_self
    have:=ih (x+1) b p2 fun k hk2=>⟨by have:=p1 k hk2;omega,(hk k (List.mem_cons_of_mem _ hk2)).2⟩
    simp only [List.length_cons];omega
  have:=this _ 0 (m.length:Int) e3 fun k hk=>⟨(e2 k hk).1,(e2 k hk).2.1⟩
  unfold maxLen;omega
 have hbk:∀x∈(Qh6 n task budget m).1,∀k∈QiY n m task,0≤k∧k<x.length:=fun x hx k hk=>by
  have h1:=e2 k hk
  have h2:=(r1 x hx).1.1
  exact⟨h1.1,by have:=h1.2.1;omega⟩
 generalize Qh6 n task budget m=R at r1 r2 hbk ⊢
 generalize QiY n m task=E at hel hbk ⊢
 obtain⟨q,h1,h2⟩:=(TotP.up (body:=fun st:List Int×Int=>Qcp R st.1 st.2) R.1.length (fun st=>st.2) (fun st=>st.1=E∧(R.1.take st.2.toNat).any (hasT E)=false) (Q:=fun q:Unit⊕Unit=>(q=.inl ()→R.1.any (hasT E)=true)∧(q=.inr ()→R.1.any (hasT E)=false)) (s0:=(E,(0:Int))) rfl ⟨rfl,rfl⟩ (fun i st hi hn hJ=>by
  obtain⟨a,x⟩:=st
  replace hi:x=(i:Int):=hi
  subst hi
  obtain⟨j1,j2⟩:a=E∧(R.1.take (i:Int).toNat).any (hasT E)=false:=hJ
  subst j1
  rw [Int.toNat_natCast]at j2
  show TotP (Qcp R a i) _
  unfold Qcp
  refine TotP.bif (fun hc=>?_) (fun hc=>TotP.ok (Ql ⟨fun e=>(by cases e),fun _=>?_⟩))
  ·simp only [decide_eq_true_eq]at hc
   have i1:i<R.1.length:=by omega
   have hmem:=List.getElem_mem i1
   rw [QY,List.getElem?_eq_getElem i1,Option.bind_some,QxB a _ hel (hbk _ hmem),Option.bind_some]
   refine TotP.bif (fun hc2=>TotP.ok (Ql ⟨fun _=>List.any_eq_true.2 ⟨_,hmem,hc2⟩,fun e=>by cases e⟩)) fun hc2=>?_
   have hw:w64 ((i:Int)+1)=((i+1:Nat):Int):=Qt i1 (by unfold maxLen;omega:R.1.length≤maxLen)
   refine TotP.ok (Qv ⟨i1,hw,rfl,?_⟩)
   show(R.1.take (w64 ((i:Int)+1)).toNat).any (hasT a)=false
   rw [hw,Int.toNat_natCast,List.take_add_one,List.getElem?_eq_getElem i1,List.any_append,j2]
   simpa using hc2
  ·simp only [decide_eq_false_iff_not]at hc
   rwa [List.take_of_length_le (by omega)]at j2))
 rw [h1,Option.bind_some]
 rcases q with q | q
 ·rw [h2.1 rfl];rfl
 ·rw [h2.2 rfl]
  show QeL R=_
  unfold QeL
  cases R.2<;>rfl
def Qla (n:TNet)(m:List Bag)(o:Qk)(budget:Int):Int:=if Qa3 n m o=some 0 then(match idx n.Tasks o.Task with
 | some e=>if e.Join=3 then Qs2 n m o.Task budget else 1
 | none=>0)else 0
theorem QrY {n:TNet}{m:List Bag}{o:Qk}(h:QW n)(hm:lenL (lenL fun _=>True) m)(ho:Qgz n o)(hc:Qa3 n m o=some 0):∃e,idx n.Tasks o.Task=some e∧e∈n.Tasks:=by
 obtain⟨_,e,he,_,_,_,b,hb,_⟩:=Qkt.1 ((QvP h hm ho).1 hc)
 obtain⟨k1,k2,_⟩:=Qmi h hb
 rw [he]at k1;cases k1
 exact⟨_,he,k2⟩
theorem QwH {n:TNet}{m:List Bag}(o:Qk)(budget:Int)(h:QW n)(hb:Bd n)(hg:Good n m)(ho:Qgz n o):Qcd n m o budget=some (Qla n m o budget):=by
 unfold Qcd Qla
 obtain⟨c,hc,_⟩:=Qso n m o h (hg.len h) ho
 rw [hc,Option.bind_some]
 by_cases c0:c=0
 ·subst c0
  obtain⟨e,he,_⟩:=QrY h (hg.len h) ho hc
  rw [if_pos rfl,he]
  simp only [show((0:Int) != 0)=false from rfl,cond_false,Option.bind_some]
  by_cases cj:e.Join=3
  ·rw [if_pos cj,show(e.Join != 3)=false by simpa using cj,cond_false,QwG o.Task budget h hb hg];rfl
  ·rw [if_neg cj,show(e.Join != 3)=true by simpa using cj];rfl
 ·rw [if_neg (fun e=>c0 (Option.some.inj e)),show(c != 0)=true by simpa using c0];rfl
end Go.Proofs
noncomputable section
namespace Go.Proofs
open Go Go.RowKit Go.Vm
set_option maxRecDepth 100000 in
theorem Qu4 : QjX=some true:=by kernel_rfl
end Go.Proofs
noncomputable section
namespace Go.Proofs
open Go Go.RowKit Go.Vm
theorem QwI (n:TNet)(m:List Bag)(budget:Int)(hn:QI n)(hm:lenL (lenL fun _=>True) m):TotP (QiT n m budget) fun r=>r=true→QW n∧Bd n∧Good n m∧budget≤12:=by
 unfold QiT
 refine TotP.bind (Qxv n m hn hm).self fun f hf=>?_
 obtain⟨hfe,hf⟩:=hf
 refine TotP.bind (P:=fun r=>r=true→QW n∧Bd n∧Good n m∧budget≤12) ?_ fun r hr=>?_
 ·unfold Qk5
  refine TotP.bif (fun c1=>?_) fun _=>TotP.ok fun h=>by cases h
  refine TotP.bif (fun c2=>?_) fun _=>TotP.ok fun h=>by cases h
  refine TotP.bif (fun c3=>?_) fun _=>TotP.ok fun h=>by cases h
  obtain⟨h,g1,g2⟩:=hf c1
  subst c1
  rw [QsT h g1 (by omega),Option.bind_some]
  exact TotP.ok fun _=>⟨h,Qxa n m h hfe,⟨g1,g2⟩,by simpa using c2⟩
 ·unfold Qgy
  exact TotP.ok hr
theorem Qv2 {n:TNet}{m:List Bag}(h:QW n)(hg:Good n m):∃k:Nat,Qh2 n m=some (k:Int):=by
 unfold Qh2
 rw [QtI n m 60 h (hg.len h) (by omega) (by omega) (.inl (by omega)),Option.bind_some]
 exact⟨_,rfl⟩
end Go.Proofs
noncomputable section
namespace Go.Proofs
open Go Go.RowKit Go.Vm
theorem Qv3 (n:TNet)(m:List Bag)(o:Qk)(budget:Int)(hn:QI n)(hm0:lenL (lenL fun _=>True) m):Qcu n m o budget=some true:=by
 unfold Qcu
 rw [Qu4,Option.bind_some]
 obtain⟨f,hf,hf2⟩:=QwI n m budget hn hm0
 rw [hf,Option.bind_some]
 cases hc:((!f)||((decide (budget<1))||((decide (20<(o.Vars.length:Int)))||((decide (20<(o.Ins.length:Int)))||((decide (20<(o.Outs.length:Int)))||((decide (o.Task<0))||(decide ((n.Tasks.length:Int)≤o.Task))))))))with
 | true=>rfl
 | false=>
  simp only [cond_false]
  simp only [Bool.or_eq_false_iff,Bool.not_eq_false',decide_eq_false_iff_not]at hc
  obtain⟨h,hb,hg,hbud⟩:=hf2 hc.1
  have ho:Qgz n o:=⟨by omega,by omega,by omega⟩
  have hml:=hg.len h
  have hpl:=h.pl
  have hm1:=hg.1.1
  obtain⟨k,hk⟩:=Qv2 h hg
  rw [hk,Option.bind_some]
  cases hc2:decide ((40:Int)≤(k:Int))with
  | true=>rfl
  | false=>
   simp only [cond_false]
   obtain⟨e1,e2,e3⟩:=QtL n m o.Task h
   rw [e1,Option.bind_some]
   have hready:=QwH o budget h hb hg ho
   have hrp:Qa3 n m o=some 0→∃e,idx n.Tasks o.Task=some e∧(e.Join≠3→Qla n m o budget=1)∧(QiY n m o.Task=[]→Qla n m o budget≠0):=fun hck=>by
    obtain⟨e,he,_⟩:=QrY h hml ho hck
    refine⟨e,he,fun hj=>?_,fun h0=>?_⟩
    ·unfold Qla
     rw [if_pos hck,he]
     simp only
     rw [if_neg hj]
    ·unfold Qla
     rw [if_pos hck,he]
     simp only
     split
     ·unfold Qs2
      rw [h0,show((Qh6 n o.Task budget m).1.any (hasT []))=false from List.any_eq_false.2 fun x _=>by simp [hasT]]
      split
      ·exact absurd ‹_› (by decide)
      ·split<;>decide
     ·decide
   have hlen:(QiY n m o.Task).length≤100:=by
    have key:∀(l:List Int) (a b:Int),l.Pairwise (·<·)→(∀k∈l,a≤k∧k<b)→(l.length:Int)≤max 0 (b-a):=by
     intro l
     induction l with
     | nil=>intro a b _ _;simp;omega
     | cons x l ih=>
      intro a b hp hk
      obtain⟨p1,p2⟩:=List.pairwise_cons.1 hp
      have h1:=hk x List.mem_cons_self
      have:=ih (x+1) b p2 fun k hk2=>⟨by have:=p1 k hk2;omega,(hk k (List.mem_cons_of_mem _ hk2)).2⟩
      simp only [List.length_cons];omega
    have:=key _ 0 (m.length:Int) e3 fun k hk=>⟨(e2 k hk).1,(e2 k hk).2.1⟩
    omega
   generalize QiY n m o.Task=E at e2 e3 hrp hlen ⊢
   have main:TotP (QC (fun st=>Qa4 E m st) 0) fun q:Unit⊕Unit=>q=.inr ():=by
    refine TotP.up E.length (fun st=>st) (fun _=>True) rfl trivial (fun i st hi hn2 _=>?_)
    replace hi:st=(i:Int):=hi
    subst hi
    show TotP (Qa4 E m i) _
    unfold Qa4
    refine TotP.bif (fun hc3=>?_) (fun _=>TotP.ok (Ql rfl))
    simp only [decide_eq_true_eq]at hc3
    have i1:i<E.length:=by omega
    obtain⟨b1,b2,b3⟩:=e2 _ (List.getElem_mem i1)
    have ei:idx E (i:Int)=some E[i]:=by rw [QY,List.getElem?_eq_getElem i1]
    have g1:QdW E i m=some false:=by
     unfold QdW
     rw [ei]
     simp only [Option.bind_some]
     rw [decide_eq_false (by omega),cond_false,decide_eq_false (by omega),cond_false,Qib b1,b3,Option.bind_some]
     simp only [List.length_nil]
     rw [show decide ((0:Int)<((0:Nat):Int))=false from rfl,cond_false]
     refine Eq.trans (b:=bif decide ((0:Int)<(i:Int))then some false else some false) ?_ (by cases decide ((0:Int)<(i:Int))<;>rfl)
     by_cases c:0<i
     ·have c1:i-1<E.length:=by omega
      have:=List.pairwise_iff_getElem.1 e3 (i-1) i c1 i1 (by omega)
      rw [decide_eq_true (by omega),cond_true,cond_true,Qck (by omega),show(i:Int)-1=((i-1:Nat):Int) by omega,QY,List.getElem?_eq_getElem c1,Option.bind_some,decide_eq_false (by omega)]
     ·rw [decide_eq_false (by omega)];rfl
    rw [g1,Option.bind_some]
    exact TotP.ok (Qv ⟨i1,Qt i1 (by unfold maxLen;omega),trivial⟩)
   obtain⟨q,hq1,rfl⟩:=main
   rw [hq1,Option.bind_some]
   show QcB n m o budget true E=some true
   unfold QcB
   obtain⟨c,hcv,_⟩:=Qso n m o h hml ho
   rw [hready,Option.bind_some,hcv,Option.bind_some]
   by_cases c0:c=0
   ·subst c0
    obtain⟨e,he,p1,p2⟩:=hrp hcv
    simp only [show((0:Int) != 0)=false from rfl,cond_false]
    generalize Qla n m o budget=r at p1 p2 ⊢
    have g5:QdY true E n o r=some true:=by
     unfold QdY
     rw [he]
     simp only [cond_true,Option.bind_some]
     have fin:(bif (e.Join==3)then some true else some (r==1))=some true:=by
      by_cases cj:e.Join=3
      ·rw [show(e.Join==3)=true by simpa using cj];rfl
      ·rw [show(e.Join==3)=false by simpa using cj,p1 cj];rfl
     rw [fin]
     by_cases cl:0<E.length
     ·rw [decide_eq_true (by omega)];rfl
     ·rw [decide_eq_false (by omega),cond_false,show(r != 0)=true by simpa using p2 (List.length_eq_zero_iff.1 (by omega))];rfl
    rw [g5];rfl
   ·rw [show(c != 0)=true by simpa using c0,cond_true]
    have:Qla n m o budget=0:=by
     unfold Qla
     rw [if_neg (by rw [hcv];exact fun e=>c0 (Option.some.inj e))]
    rw [this];rfl
end Go.Proofs
