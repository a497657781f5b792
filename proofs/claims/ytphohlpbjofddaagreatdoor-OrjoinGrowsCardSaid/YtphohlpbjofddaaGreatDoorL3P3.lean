/- A part of the proof; what it holds is told at each theorem. -/
import Derived.Test.YtphohlpbjofddaaGreatDoorL3P2
import Derived.Test.YtphohlpbjofddaaGreatDoorL3P1
import Derived.Test.YtphohlpbjofddaaGreatDoorL3T3
import Derived.KernelRfl
set_option linter.unusedVariables false
set_option linter.unusedSimpArgs false
set_option linter.unusedSectionVars false
set_option linter.deprecated false
noncomputable section
namespace Go.Proofs
open Go Go.RowKit Go.Vm
def Qha (n:TNet)(w:Int)(x:List Bag)(o:Qk):Option (List Bag):=if o.Task=w then none else match Qel n x o with
 | some (y,c)=>if c=0 then some y else none
 | none=>none
def QlP (n:TNet)(w:Int)(x:List Bag):List (List Bag):=(allL n x).filterMap (Qha n w x)
theorem Qwp {n:TNet}{w:Int}{x y:List Bag}{o:Qk}(h:Qha n w x o=some y):o.Task≠w∧Qel n x o=some (y,0):=by
 unfold Qha at h
 split at h
 ·cases h
 ·rename_i c
  refine⟨c,?_⟩
  cases e:Qel n x o with
  | none=>rw [e]at h;cases h
  | some r=>
   obtain⟨a,b⟩:=r
   rw [e]at h
   simp only at h
   split at h
   ·rename_i c2;cases h;rw [c2]
   ·cases h
theorem Qwq {n:TNet}{w:Int}{x:List Bag}(h:QX n)(hg:Good n x):∀y∈QlP n w x,Good n y:=fun y hy=>by
 obtain⟨o,ho,he⟩:=List.mem_filterMap.1 hy
 exact QuE h hg (Qwi h (hg.len h) ho) (Qwp he).2
def FM (mm:List (ByteArray×Bool))(l:List (List Bag)):Prop:=∀k,(mget mm k).getD false=l.any fun y=>decide (Qb4 y=k)
theorem FM.add {mm:List (ByteArray×Bool)}{l:List (List Bag)}(h:FM mm l)(x:List Bag):FM (mset ltS mm (Qb4 x) true) (l++[x]):=fun k=>by
 rw [QkE,List.any_append]
 by_cases c:k=Qb4 x
 ·subst c
  rw [if_pos rfl]
  simp
 ·rw [if_neg c,h k]
  have:decide (Qb4 x=k)=false:=decide_eq_false fun e=>c e.symm
  simp [this]
def QR (budget:Int):Nat:=(min2 (max2 0 budget) 4096).toNat
theorem QsK (budget:Int):(QR budget:Int)=min2 (max2 0 budget) 4096∧QR budget≤4096:=by
 unfold QR min2 max2
 split<;>split<;>omega
def QcK (n:TNet)(w budget:Int)(m:List Bag):List (List Bag)×Bool:=if QR budget=0 then([],false)else QbA Qb4 (QlP n w) (QR budget) (QR budget+1) [m] 0
theorem QoT {n:TNet}{m:List Bag}(w budget:Int)(h:QX n)(hb:Bd n)(hg:Good n m):Qc6 n m w budget=some (QcK n w budget m):=by
 have hm:=QsK budget
 have hpl:=h.pl
 unfold Qc6 QcK
 by_cases c0:QR budget=0
 ·rw [if_pos c0,show(min2 (max2 0 budget) 4096==0)=true by rw [←hm.1,c0];rfl];rfl
 rw [if_neg c0,show(min2 (max2 0 budget) 4096==0)=false by simp;omega]
 simp only [cond_false]
 have hm1:=hg.1.1
 rw [Qt8 h hg,Option.bind_some,Qnf m (by omega) (fun b hb=>by have:=(hg.1.2 b hb).2;omega),Option.bind_some]
 generalize hR:QbA Qb4 (QlP n w) (QR budget) (QR budget+1) [m] 0=R
 have main:TotP (QC (fun st=>Qcw n w budget st.1 st.2.1 st.2.2) ((0:Int),(mset ltS ([]:(List (ByteArray×Bool))) (Qb4 m) true),[m])) fun q:List (List Bag)⊕List (List Bag)=>(∀l,q=.inl l→R=(l,false))∧∀l,q=.inr l→R=(l,true):=by
  refine TotP.up (QR budget) (fun st=>st.1) (fun st=>FM st.2.1 st.2.2∧(∀x∈st.2.2,Good n x)∧st.2.2.length≤QR budget∧QbA Qb4 (QlP n w) (QR budget) (QR budget+1-st.1.toNat) st.2.2 st.1.toNat=R) rfl ⟨?_,?_,?_,hR⟩ (fun i st hi hn hJ=>?_)
  ·exact FM.add (mm:=[]) (l:=[]) (fun k=>rfl) m
  ·intro x hx;simp at hx;subst hx;exact hg
  ·show 1≤_;omega
  ·obtain⟨a,mm,l⟩:=st
   replace hi:a=(i:Int):=hi
   subst hi
   obtain⟨j1,j2,j3,j4⟩:FM mm l∧(∀x∈l,Good n x)∧l.length≤QR budget∧QbA Qb4 (QlP n w) (QR budget) (QR budget+1-(i:Int).toNat) l (i:Int).toNat=R:=hJ
   rw [Int.toNat_natCast,show QR budget+1-i=(QR budget-i)+1 by omega,QbA]at j4
   show TotP (Qcw n w budget i mm l) _
   unfold Qcw
   refine TotP.bif (fun hc=>?_) (fun hc=>TotP.ok (Ql ⟨fun l' e=>(by cases e),fun l' e=>?_⟩))
   ·simp only [decide_eq_true_eq]at hc
    have i1:i<l.length:=by omega
    have hx:=List.getElem?_eq_getElem i1
    have hgx:=j2 _ (List.getElem_mem i1)
    rw [QP,hx,Option.bind_some]
    rw [hx]at j4
    simp only at j4
    generalize l[i]=x at hx hgx j4 ⊢
    have hal:=QxA x h hb
    rw [Qt6 n x 9223372036854775807 h (hgx.len h) (by omega) (by omega) (.inr (by omega)),Option.bind_some]
    have hxl:=hgx.len h
    have e0:(allL n x).take (9223372036854775807:Int).toNat=allL n x:=List.take_of_length_le (by omega)
    rw [e0]
    have hok:=fun o=>Qwi (o:=o) h hxl
    have inner:TotP (QC (fun st=>Qcv (allL n x) w i n budget st.1 st.2.1 st.2.2) ((0:Int),mm,l)) fun q:List (List Bag)⊕(List (ByteArray×Bool)×List (List Bag))=>
      (∀o,q=.inl o→QaL Qb4 (QR budget) l (QlP n w x)=.inl o)∧∀mm' o,q=.inr (mm',o)→QaL Qb4 (QR budget) l (QlP n w x)=.inr o∧FM mm' o∧(∀x∈o,Good n x)∧o.length≤QR budget:=by
     generalize hT:QaL Qb4 (QR budget) l (QlP n w x)=T
     have hT:QaL Qb4 (QR budget) l ((allL n x).filterMap (Qha n w x))=T:=hT
     generalize allL n x=X at hT hal hok ⊢
     refine TotP.up X.length (fun st=>st.1) (fun st=>FM st.2.1 st.2.2∧(∀x∈st.2.2,Good n x)∧st.2.2.length≤QR budget∧st.2.2[i]? = some x∧QaL Qb4 (QR budget) st.2.2 ((X.drop st.1.toNat).filterMap (Qha n w x))=T) rfl ⟨j1,j2,j3,hx,hT⟩ (fun k st hk hn2 hK=>?_)
     obtain⟨a,mm,l⟩:=st
     replace hk:a=(k:Int):=hk
     subst hk
     obtain⟨k1,k2,k3,k4,k5⟩:FM mm l∧(∀x∈l,Good n x)∧l.length≤QR budget∧l[i]? = some x∧QaL Qb4 (QR budget) l ((X.drop (k:Int).toNat).filterMap (Qha n w x))=T:=hK
     rw [Int.toNat_natCast]at k5
     show TotP (Qcv X w i n budget k mm l) _
     unfold Qcv
     refine TotP.bif (fun hc2=>?_) (fun hc2=>TotP.ok (Ql ⟨fun o e=>(by cases e),fun mm' o e=>?_⟩))
     ·simp only [decide_eq_true_eq]at hc2
      have i2:k<X.length:=by omega
      have hw:w64 ((k:Int)+1)=((k+1:Nat):Int):=Qt i2 (by unfold maxLen;omega:X.length≤maxLen)
      have next:∀mm' l',FM mm' l'→(∀x∈l',Good n x)→l'.length≤QR budget→l'[i]? = some x→QaL Qb4 (QR budget) l' ((X.drop (k+1)).filterMap (Qha n w x))=T→
        TotP (Qcu k mm' l') fun o=>(∀s',o=.inl s'→k<X.length∧s'.1=((k+1:Nat):Int)∧FM s'.2.1 s'.2.2∧(∀x∈s'.2.2,Good n x)∧s'.2.2.length≤QR budget∧s'.2.2[i]? = some x∧QaL Qb4 (QR budget) s'.2.2 ((X.drop s'.1.toNat).filterMap (Qha n w x))=T)∧
         ∀r:List (List Bag)⊕(List (ByteArray×Bool)×List (List Bag)),o=.inr r→(∀o,r=.inl o→T=.inl o)∧∀mm' o,r=.inr (mm',o)→T=.inr o∧FM mm' o∧(∀x∈o,Good n x)∧o.length≤QR budget:=fun mm' l' f1 f2 f3 f4 f5=>by
       unfold Qcu
       refine TotP.ok (Qw (ix:=fun st:Int×List (ByteArray×Bool)×List (List Bag)=>st.1) (J:=fun st:Int×List (ByteArray×Bool)×List (List Bag)=>FM st.2.1 st.2.2∧(∀x∈st.2.2,Good n x)∧st.2.2.length≤QR budget∧st.2.2[i]? = some x∧QaL Qb4 (QR budget) st.2.2 ((X.drop st.1.toNat).filterMap (Qha n w x))=T) ⟨i2,hw,f1,f2,f3,f4,?_⟩)
       show QaL Qb4 (QR budget) l' ((X.drop (w64 ((k:Int)+1)).toNat).filterMap (Qha n w x))=T
       rw [hw,Int.toNat_natCast];exact f5
      rw [QP,List.getElem?_eq_getElem i2,Option.bind_some]
      rw [List.drop_eq_getElem_cons i2,List.filterMap_cons]at k5
      have hox:=hok _ (List.getElem_mem i2)
      generalize X[k]=o at k5 hox ⊢
      refine TotP.bif (fun hc3=>?_) fun hc3=>?_
      ·have:Qha n w x o=none:=by unfold Qha;rw [if_pos (by simpa using hc3)]
       rw [this]at k5
       exact next mm l k1 k2 k3 k4 k5
      simp only [beq_eq_false_iff_ne]at hc3
      rw [QP,k4,Option.bind_some]
      obtain⟨⟨y,c⟩,hD,_⟩:=t_Do n x o 1024 h hgx.1 (by omega) hox
      rw [hD,Option.bind_some]
      by_cases cc:c=0
      ·subst cc
       have hgy:=QuE h hgx hox hD
       have:Qha n w x o=some y:=by unfold Qha;rw [if_neg hc3,hD];rfl
       rw [this]at k5
       simp only at k5
       rw [QaL]at k5
       unfold Qg8
       simp only [show((0:Int) != 0)=false from rfl,cond_false]
       rw [Qt8 h hgy,Option.bind_some,k1 (Qb4 y),Option.bind_some]
       unfold QdF
       refine TotP.bif (fun hh=>?_) fun hh=>?_
       ·rw [if_pos (show hasK Qb4 l y=true from hh)]at k5
        exact next mm l k1 k2 k3 k4 k5
       ·rw [if_neg (by rw [show hasK Qb4 l y=false from hh];decide)]at k5
        refine TotP.bif (fun hf=>?_) fun hf=>?_
        ·simp only [beq_iff_eq]at hf
         rw [if_pos (by omega)]at k5
         exact TotP.ok (Ql ⟨fun o e=>(by cases e;exact k5.symm),fun mm' o e=>by cases e⟩)
        ·simp only [beq_eq_false_iff_ne]at hf
         rw [if_neg (by omega)]at k5
         simp only
         rw [Qt8 h hgy,Option.bind_some]
         refine TotP.bind (TotP.chk (by simp;omega)) fun _ _=>?_
         refine next _ _ (k1.add y) (fun z hz=>?_) (by simp;omega) (by rw [List.getElem?_append_left ((List.getElem?_eq_some_iff.1 k4).1)];exact k4) k5
         rcases List.mem_append.1 hz with hz | hz
         ·exact k2 z hz
         ·simp at hz;subst hz;exact hgy
      ·have:Qha n w x o=none:=by unfold Qha;rw [if_neg hc3,hD];simp only;rw [if_neg cc]
       rw [this]at k5
       unfold Qg8
       simp only [show(c != 0)=true by simpa using cc,cond_true,Option.bind_some]
       unfold QdF
       exact next mm l k1 k2 k3 k4 k5
     ·cases e
      simp only [decide_eq_false_iff_not]at hc2
      rw [List.drop_of_length_le (by omega),List.filterMap_nil,QaL]at k5
      exact⟨k5.symm,k1,k2,k3⟩
    obtain⟨q,hq1,hq2,hq3⟩:=inner
    rw [hq1,Option.bind_some]
    rcases q with q | ⟨mm',o⟩
    ·have:=hq2 q rfl
     rw [this]at j4
     show TotP (QeT q) _
     unfold QeT
     exact TotP.ok (Ql ⟨fun l' e=>(by cases e;exact j4.symm),fun l' e=>by cases e⟩)
    ·obtain⟨f1,f2,f3,f4⟩:=hq3 mm' o rfl
     rw [f1]at j4
     simp only at j4
     show TotP (QeU i mm' o) _
     unfold QeU
     have hw:w64 ((i:Int)+1)=((i+1:Nat):Int):=Qt (by omega:i<QR budget) (by unfold maxLen;omega)
     refine TotP.ok (Qw ⟨by omega,hw,f2,f3,f4,?_⟩)
     show QbA Qb4 (QlP n w) (QR budget) (QR budget+1-(w64 ((i:Int)+1)).toNat) o (w64 ((i:Int)+1)).toNat=R
     rw [hw,Int.toNat_natCast,show QR budget+1-(i+1)=QR budget-i by omega]
     exact j4
   ·cases e
    simp only [decide_eq_false_iff_not]at hc
    rw [List.getElem?_eq_none (by omega)]at j4
    exact j4.symm
 obtain⟨q,hq1,hq2,hq3⟩:=main
 rw [hq1,Option.bind_some]
 rcases q with q | q
 ·rw [hq2 q rfl];rfl
 ·rw [hq3 q rfl];rfl
end Go.Proofs
noncomputable section
namespace Go.Proofs
open Go Go.RowKit Go.Vm
theorem Qof {l:List Int}{j:Nat}(h:j<l.length):l.toArray[j]! = l[j]:=by
 rw [getElem!_pos l.toArray j (by simpa using h)];simp
theorem Qwr {l:List Int}{x:Int}(h:x∈Qe9 l):x∈l:=by
 unfold Qe9 Lib.compact Lib.compactUpTo at h
 obtain⟨j,hj,rfl⟩:=List.mem_map.1 h
 have:=List.mem_range.1 (List.mem_filter.1 hj).1
 rw [Qof this];exact List.getElem_mem this
theorem Qws {l:List Int}(h:l.Pairwise (·≤·)):(Qe9 l).Pairwise (·<·):=by
 have hp:=List.pairwise_iff_getElem.1 h
 unfold Qe9 Lib.compact Lib.compactUpTo
 rw [List.pairwise_map,List.pairwise_filter,List.pairwise_iff_getElem]
 intro i j hi hj hij _ hk
 rw [List.length_range]at hi hj
 rw [List.getElem_range]at hk
 rw [List.getElem_range,List.getElem_range,Qof hi,Qof hj]
 unfold Lib.keeps at hk
 have hk:=of_decide_eq_true hk
 rcases hk with hk | hk
 ·omega
 ·have hj1:j-1<l.length:=by omega
  rw [Qof hj,Qof hj1]at hk
  have h1:=hp (j-1) j hj1 hj (by omega)
  by_cases c:i=j-1
  ·subst c;omega
  ·have h2:=hp i (j-1) hi hj1 (by omega)
   omega
theorem Qw6 (l:List Int):(Qd5 l).Pairwise (·≤·):=QqR l
theorem Qwt {l:List Int}{x:Int}:x∈Qd5 l↔x∈l:=by
 exact(QoA l).mem_iff
def Bare (m:List Bag)(k:Int):Prop:=0≤k∧k<m.length∧m[k.toNat]? = some []
theorem Qvr (n:TNet)(m:List Bag)(task:Int)(h:QX n):TotP (Qcl n m task) fun e=>(∀k∈e,Bare m k)∧e.Pairwise (·<·):=by
 unfold Qcl
 refine TotP.bif (fun _=>TotP.ok ⟨fun k h=>(by cases h),List.Pairwise.nil⟩) fun hc=>?_
 simp only [Bool.or_eq_false_iff,decide_eq_false_iff_not]at hc
 refine TotP.bind (TotP.idx (by omega) (by omega)) fun e he=>?_
 have hil:=(h.tk e he).2.1
 refine TotP.bind (TotP.up e.Ins.length (fun st=>st.1) (fun st=>(st.2.length:Int)≤st.1∧∀k∈st.2,Bare m k) (Q:=fun q:List Int=>q.length≤16∧∀k∈q,Bare m k) rfl ⟨by simp,fun k h=>by cases h⟩ (fun i st hi hn hJ=>?_)) (fun q hq=>?_)
 ·obtain⟨x,l⟩:=st
  replace hi:x=(i:Int):=hi
  subst hi
  obtain⟨j1,j2⟩:(l.length:Int)≤(i:Int)∧∀k∈l,Bare m k:=hJ
  show TotP (QdG e m i l) _
  unfold QdG
  refine TotP.bif (fun hc2=>?_) (fun hc2=>TotP.ok (Ql ⟨by omega,j2⟩))
  simp only [decide_eq_true_eq]at hc2
  have i1:i<e.Ins.length:=by omega
  have hw:w64 ((i:Int)+1)=((i+1:Nat):Int):=Qt i1 (by unfold maxLen;omega:e.Ins.length≤maxLen)
  rw [QP,List.getElem?_eq_getElem i1,Option.bind_some]
  refine TotP.bind (P:=fun y=>y=true→Bare m (e.Ins[i]).Place) ?_ fun y hy=>?_
  ·unfold QjG
   refine TotP.bif (fun c1=>?_) fun _=>TotP.ok fun h=>by cases h
   refine TotP.bif (fun c2=>?_) fun _=>TotP.ok fun h=>by cases h
   simp only [decide_eq_true_eq]at c1 c2
   have hk:(e.Ins[i]).Place.toNat<m.length:=by omega
   rw [Qjr c1,List.getElem?_eq_getElem hk,Option.bind_some]
   refine TotP.ok fun hz=>⟨c1,c2,?_⟩
   simp only [beq_iff_eq]at hz
   rw [List.getElem?_eq_getElem hk,List.length_eq_zero_iff.1 (show(m[(e.Ins[i]).Place.toNat]).length=0 by omega)]
  ·unfold QeW QeV
   refine TotP.bif (fun c1=>?_) fun _=>?_
   ·refine TotP.bind (TotP.chk (by simp;omega)) fun _ _=>?_
    refine TotP.ok (Qw ⟨i1,hw,by show((l++[_]).length:Int)≤w64 _;rw [hw];simp;omega,fun k hk=>?_⟩)
    rcases List.mem_append.1 hk with hk | hk
    ·exact j2 k hk
    ·simp at hk;subst hk;exact hy c1
   ·exact TotP.ok (Qw ⟨i1,hw,by show(l.length:Int)≤w64 _;rw [hw];omega,j2⟩)
 ·obtain⟨q1,q2⟩:=hq
  show TotP (QeX q) _
  unfold QeX
  rw [Qt0 _ (by omega),Option.bind_some]
  refine TotP.bind (TotP.chk (by simp [QkD])) fun _ _=>?_
  unfold Qdt
  rw [Qqg (by rw [QkD];omega),Option.bind_some,Option.bind_some]
  exact TotP.ok ⟨fun k hk=>q2 k (Qwt.1 (Qwr hk)),Qws (Qw6 q)⟩
def Qlp (n:TNet)(m:List Bag)(task:Int):List Int:=(Qcl n m task).getD []
theorem Qw7 (n:TNet)(m:List Bag)(task:Int)(h:QX n):Qcl n m task=some (Qlp n m task)∧(∀k∈Qlp n m task,Bare m k)∧(Qlp n m task).Pairwise (·<·):=by
 obtain⟨e,h1,h2⟩:=Qvr n m task h
 unfold Qlp
 rw [h1];exact⟨rfl,h2⟩
def hasT (e:List Int)(x:List Bag):Bool:=e.any fun k=>decide (0<(((x[k.toNat]?).getD []).length:Int))
theorem Qx3 (e:List Int)(x:List Bag)(he:e.length≤maxLen)(hk:∀k∈e,0≤k∧k<x.length):QaS e x=some (hasT e x):=by
 unfold QaS Qb3
 obtain⟨q,h1,h2⟩:=(TotP.up (body:=fun st=>Q2 e x st) e.length (fun st=>st) (fun st=>hasT (e.take st.toNat) x=false) (Q:=fun q:Int⊕Unit=>(∀j,q=.inl j→0≤j∧hasT e x=true)∧(q=.inr ()→hasT e x=false)) (s0:=(0:Int)) rfl rfl (fun i st hi hn hJ=>by
  replace hi:st=(i:Int):=hi
  subst hi
  replace hJ:hasT (e.take (i:Int).toNat) x=false:=hJ
  rw [Int.toNat_natCast]at hJ
  show TotP (Q2 e x i) _
  unfold Q2 QhX
  refine TotP.bif (fun hc=>?_) (fun hc=>TotP.ok (Ql ⟨fun j e=>(by cases e),fun _=>?_⟩))
  ·simp only [decide_eq_true_eq]at hc
   have i1:i<e.length:=by omega
   have hmem:=List.getElem_mem i1
   obtain⟨k1,k2⟩:=hk _ hmem
   have hkk:(e[i]).toNat<x.length:=by omega
   rw [QP,List.getElem?_eq_getElem i1,Option.bind_some,Qjr k1,List.getElem?_eq_getElem hkk]
   simp only [Option.bind_some]
   have hval:decide (0<(((x[(e[i]).toNat]?).getD []).length:Int))=decide (0<((x[(e[i]).toNat]).length:Int)):=by rw [List.getElem?_eq_getElem hkk];rfl
   refine TotP.bif (fun hc2=>TotP.ok (Ql ⟨fun j e'=>(by cases e';exact⟨by omega,List.any_eq_true.2 ⟨_,hmem,by rw [hval];exact hc2⟩⟩),fun e=>by cases e⟩)) fun hc2=>?_
   have hw:w64 ((i:Int)+1)=((i+1:Nat):Int):=Qt i1 he
   refine TotP.ok (Qw ⟨i1,hw,?_⟩)
   show hasT (e.take (w64 ((i:Int)+1)).toNat) x=false
   rw [hw,Int.toNat_natCast,List.take_add_one,List.getElem?_eq_getElem i1]
   unfold hasT at hJ ⊢
   rw [List.any_append,hJ]
   simp only [Option.toList_some,List.any_cons,List.any_nil,Bool.or_false,Bool.false_or]
   rw [hval];exact hc2
  ·simp only [decide_eq_false_iff_not]at hc
   rwa [List.take_of_length_le (by omega)]at hJ))
 rw [h1]
 rcases q with q | q
 ·have:=h2.1 q rfl
  rw [this.2]
  simp only [Option.bind_some,Sum.elim_inl]
  unfold QbF
  rw [Option.bind_some,decide_eq_true this.1]
 ·rw [h2.2 rfl];rfl
theorem Qsj {n:TNet}{m:List Bag}(w budget:Int)(h:QX n)(hg:Good n m):(∀x∈(QcK n w budget m).1,Good n x)∧(QcK n w budget m).1.length≤QR budget∧Qmy Qb4 (QcK n w budget m).1∧(0<QR budget→∃r,(QcK n w budget m).1=m::r):=by
 unfold QcK
 by_cases c0:QR budget=0
 ·rw [if_pos c0]
  exact⟨fun x h=>(by cases h),by simp,List.Pairwise.nil,fun h=>by omega⟩
 ·rw [if_neg c0]
  obtain⟨⟨r,hr⟩,h2,h3,h4⟩:=Qv5 (key:=Qb4) (succ:=QlP n w) (P:=Good n) (fun x hx=>Qwq h hx) (most:=QR budget) (QR budget+1) (out:=[m]) (a:=0) (by simp;omega) (List.pairwise_singleton _ _) fun x hx=>by simp at hx;subst hx;exact hg
  exact⟨h4,h2,h3,fun _=>⟨r,hr⟩⟩
def Qtq (n:TNet)(m:List Bag)(task budget:Int):Int:=if (QcK n task budget m).1.any (hasT (Qlp n m task))then 0 else if (QcK n task budget m).2 then 1 else 2
theorem Qw8 {n:TNet}{m:List Bag}(task budget:Int)(h:QX n)(hb:Bd n)(hg:Good n m):Qhm n m task budget=some (Qtq n m task budget):=by
 have hpl:=h.pl
 obtain⟨e1,e2,e3⟩:=Qw7 n m task h
 obtain⟨r1,r2,_,_⟩:=Qsj task budget h hg
 have hmost:=(QsK budget).2
 have hm1:=hg.1.1
 unfold Qhm Qtq
 rw [e1,Option.bind_some,QoT task budget h hb hg,Option.bind_some]
 have hel:(Qlp n m task).length≤maxLen:=by
  unfold Qcl at e1
  have:∀(l:List Int) (a b:Int),l.Pairwise (·<·)→(∀k∈l,a≤k∧k<b)→(l.length:Int)≤max 0 (b-a):=by
   intro l
   induction l with
   | nil=>intro a b _ _;simp;omega
   | cons x l ih=>
    intro a b hp hk
    obtain⟨p1,p2⟩:=List.pairwise_cons.1 hp
    have h1:=hk x List.mem_cons_self
    have:=ih (x+1) b p2 fun k hk2=>⟨by have:=p1 k hk2;omega,(hk k (List.mem_cons_of_mem _ hk2)).2⟩
    simp only [List.length_cons];omega
  have:=this _ 0 (m.length:Int) e3 fun k hk=>⟨(e2 k hk).1,(e2 k hk).2.1⟩
  unfold maxLen;omega
 have hbk:∀x∈(QcK n task budget m).1,∀k∈Qlp n m task,0≤k∧k<x.length:=fun x hx k hk=>by
  have h1:=e2 k hk
  have h2:=(r1 x hx).1.1
  exact⟨h1.1,by have:=h1.2.1;omega⟩
 generalize QcK n task budget m=R at r1 r2 hbk ⊢
 generalize Qlp n m task=E at hel hbk ⊢
 obtain⟨q,h1,h2⟩:=(TotP.up (body:=fun st:List Int×Int=>Qcx R st.1 st.2) R.1.length (fun st=>st.2) (fun st=>st.1=E∧(R.1.take st.2.toNat).any (hasT E)=false) (Q:=fun q:Unit⊕Unit=>(q=.inl ()→R.1.any (hasT E)=true)∧(q=.inr ()→R.1.any (hasT E)=false)) (s0:=(E,(0:Int))) rfl ⟨rfl,rfl⟩ (fun i st hi hn hJ=>by
  obtain⟨a,x⟩:=st
  replace hi:x=(i:Int):=hi
  subst hi
  obtain⟨j1,j2⟩:a=E∧(R.1.take (i:Int).toNat).any (hasT E)=false:=hJ
  subst j1
  rw [Int.toNat_natCast]at j2
  show TotP (Qcx R a i) _
  unfold Qcx
  refine TotP.bif (fun hc=>?_) (fun hc=>TotP.ok (Ql ⟨fun e=>(by cases e),fun _=>?_⟩))
  ·simp only [decide_eq_true_eq]at hc
   have i1:i<R.1.length:=by omega
   have hmem:=List.getElem_mem i1
   rw [QP,List.getElem?_eq_getElem i1,Option.bind_some,Qx3 a _ hel (hbk _ hmem),Option.bind_some]
   refine TotP.bif (fun hc2=>TotP.ok (Ql ⟨fun _=>List.any_eq_true.2 ⟨_,hmem,hc2⟩,fun e=>by cases e⟩)) fun hc2=>?_
   have hw:w64 ((i:Int)+1)=((i+1:Nat):Int):=Qt i1 (by unfold maxLen;omega:R.1.length≤maxLen)
   refine TotP.ok (Qw ⟨i1,hw,rfl,?_⟩)
   show(R.1.take (w64 ((i:Int)+1)).toNat).any (hasT a)=false
   rw [hw,Int.toNat_natCast,List.take_add_one,List.getElem?_eq_getElem i1,List.any_append,j2]
   simpa using hc2
  ·simp only [decide_eq_false_iff_not]at hc
   rwa [List.take_of_length_le (by omega)]at j2))
 rw [h1,Option.bind_some]
 rcases q with q | q
 ·rw [h2.1 rfl];rfl
 ·rw [h2.2 rfl]
  show QeY R=_
  unfold QeY
  cases R.2<;>rfl
def Ql0 (n:TNet)(m:List Bag)(o:Qk)(budget:Int):Int:=if QbI n m o=some 0 then(match idx n.Tasks o.Task with
 | some e=>if e.Join=3 then Qtq n m o.Task budget else 1
 | none=>0)else 0
theorem Qvs {n:TNet}{m:List Bag}{o:Qk}(h:QX n)(hm:lenL (lenL fun _=>True) m)(ho:QgK n o)(hc:QbI n m o=some 0):∃e,idx n.Tasks o.Task=some e∧e∈n.Tasks:=by
 obtain⟨_,e,he,_,_,_,b,hb,_⟩:=QkH.1 ((Qwh h hm ho).1 hc)
 obtain⟨k1,k2,_⟩:=QmA h hb
 rw [he]at k1;cases k1
 exact⟨_,he,k2⟩
theorem Qt9 {n:TNet}{m:List Bag}(o:Qk)(budget:Int)(h:QX n)(hb:Bd n)(hg:Good n m)(ho:QgK n o):QbP n m o budget=some (Ql0 n m o budget):=by
 unfold QbP Ql0
 obtain⟨c,hc,_⟩:=QuB n m o h (hg.len h) ho
 rw [hc,Option.bind_some]
 by_cases c0:c=0
 ·subst c0
  obtain⟨e,he,_⟩:=Qvs h (hg.len h) ho hc
  rw [if_pos rfl,he]
  simp only [show((0:Int) != 0)=false from rfl,cond_false,Option.bind_some]
  by_cases cj:e.Join=3
  ·rw [if_pos cj,show(e.Join != 3)=false by simpa using cj,cond_false,Qw8 o.Task budget h hb hg];rfl
  ·rw [if_neg cj,show(e.Join != 3)=true by simpa using cj];rfl
 ·rw [if_neg (fun e=>c0 (Option.some.inj e)),show(c != 0)=true by simpa using c0];rfl
end Go.Proofs
noncomputable section
namespace Go.Proofs
open Go Go.RowKit Go.Vm
set_option maxRecDepth 100000 in
theorem Qvt : Qj9=some true:=by kernel_rfl
end Go.Proofs
noncomputable section
namespace Go.Proofs
open Go Go.RowKit Go.Vm
theorem Qw9 (n:TNet)(m:List Bag)(budget:Int)(hn:QK n)(hm:lenL (lenL fun _=>True) m):TotP (Qi6 n m budget) fun r=>r=true→QX n∧Bd n∧Good n m∧budget≤12:=by
 unfold Qi6
 refine TotP.bind (QxX n m hn hm).self fun f hf=>?_
 obtain⟨hfe,hf⟩:=hf
 refine TotP.bind (P:=fun r=>r=true→QX n∧Bd n∧Good n m∧budget≤12) ?_ fun r hr=>?_
 ·unfold Qlj
  refine TotP.bif (fun c1=>?_) fun _=>TotP.ok fun h=>by cases h
  refine TotP.bif (fun c2=>?_) fun _=>TotP.ok fun h=>by cases h
  refine TotP.bif (fun c3=>?_) fun _=>TotP.ok fun h=>by cases h
  obtain⟨h,g1,g2⟩:=hf c1
  subst c1
  rw [Qth h g1 (by omega),Option.bind_some]
  exact TotP.ok fun _=>⟨h,QxB n m h hfe,⟨g1,g2⟩,by simpa using c2⟩
 ·unfold QgJ
  exact TotP.ok hr
theorem Qwu {n:TNet}{m:List Bag}(h:QX n)(hg:Good n m):∃k:Nat,Qii n m=some (k:Int):=by
 unfold Qii
 rw [Qt6 n m 60 h (hg.len h) (by omega) (by omega) (.inl (by omega)),Option.bind_some]
 exact⟨_,rfl⟩
theorem Qvu (a b:Bag)(ha:a.length≤maxLen):∃r,Q5 a b=some r∧(r=true→a=b):=by
 have key:TotP (Q5 a b) fun r=>r=true→a=b:=by
  unfold Q5
  refine TotP.bif (fun hc=>TotP.ok fun h=>by cases h) fun hc=>?_
  simp only [bne_eq_false_iff_eq]at hc
  have hc:a.length=b.length:=by omega
  refine TotP.bind (TotP.up a.length (fun st=>st) (fun st=>a.take st.toNat=b.take st.toNat) (Q:=fun q:Unit⊕Unit=>q=.inr ()→a=b) rfl rfl (fun i st hi hn hJ=>?_)) (fun q hq=>?_)
  ·replace hi:st=(i:Int):=hi
   subst hi
   replace hJ:a.take (i:Int).toNat=b.take (i:Int).toNat:=hJ
   rw [Int.toNat_natCast]at hJ
   show TotP (QQ a b i) _
   unfold QQ
   refine TotP.bif (fun hc2=>?_) (fun hc2=>TotP.ok (Ql fun _=>?_))
   ·simp only [decide_eq_true_eq]at hc2
    have i1:i<a.length:=by omega
    have i2:i<b.length:=by omega
    rw [QP,List.getElem?_eq_getElem i1,Option.bind_some,QP,List.getElem?_eq_getElem i2,Option.bind_some]
    refine TotP.bif (fun hc3=>TotP.ok (Ql fun e=>by cases e)) fun hc3=>?_
    have hw:w64 ((i:Int)+1)=((i+1:Nat):Int):=Qt i1 ha
    refine TotP.ok (Qw ⟨i1,hw,?_⟩)
    show a.take (w64 ((i:Int)+1)).toNat=b.take (w64 ((i:Int)+1)).toNat
    rw [hw,Int.toNat_natCast,List.take_add_one,List.take_add_one,hJ,List.getElem?_eq_getElem i1,List.getElem?_eq_getElem i2]
    simp at hc3
    rw [Prod.ext hc3.1 hc3.2]
   ·simp only [decide_eq_false_iff_not]at hc2
    rwa [List.take_of_length_le (by omega),List.take_of_length_le (by omega)]at hJ
  ·rcases q with q | q
   ·exact TotP.ok fun h=>by cases h
   ·exact TotP.ok fun _=>hq rfl
 exact key
theorem QsL {n:TNet}{a b:List Bag}(h:QX n)(ha:Good n a)(hb:Good n b):∃r,Qdk a b=some r∧(r=true→a=b):=by
 have hpl:=h.pl
 have ha1:=ha.1.1
 have hb1:=hb.1.1
 have key:TotP (Qdk a b) fun r=>r=true→a=b:=by
  unfold Qdk QL
  refine TotP.bind (P:=fun r=>r=true→a=b) ?_ fun r hr=>TotP.ok hr
  rw [show((a.length:Int) != (b.length:Int))=false by simp;omega,cond_false]
  refine TotP.bind (TotP.up a.length (fun st=>st) (fun st=>a.take st.toNat=b.take st.toNat) (Q:=fun q:Unit⊕Unit=>q=.inr ()→a=b) rfl rfl (fun i st hi hn hJ=>?_)) (fun q hq=>?_)
  ·replace hi:st=(i:Int):=hi
   subst hi
   replace hJ:a.take (i:Int).toNat=b.take (i:Int).toNat:=hJ
   rw [Int.toNat_natCast]at hJ
   show TotP (Qu a b i) _
   unfold Qu
   refine TotP.bif (fun hc2=>?_) (fun hc2=>TotP.ok (Ql fun _=>?_))
   ·simp only [decide_eq_true_eq]at hc2
    have i1:i<a.length:=by omega
    have i2:i<b.length:=by omega
    have g1:=ha.1.2 _ (List.getElem_mem i1)
    have g2:=hb.1.2 _ (List.getElem_mem i2)
    rw [QP,List.getElem?_eq_getElem i1,Option.bind_some,QP,List.getElem?_eq_getElem i2,Option.bind_some]
    refine TotP.bind (P:=fun r=>r=true→a[i]=b[i]) ?_ fun r hr=>?_
    ·unfold Qjq Qkb
     rw [QhB _ (by unfold maxLen;omega),Qdy.2 g1.1,Option.bind_some,cond_true,QhB _ (by unfold maxLen;omega),Qdy.2 g2.1,Option.bind_some,cond_true]
     obtain⟨r,hr,hr2⟩:=Qvu a[i] b[i] (by unfold maxLen;omega)
     rw [hr]
     exact TotP.ok hr2
    ·refine TotP.bif (fun _=>TotP.ok (Ql fun e=>by cases e)) fun hc3=>?_
     have e:=hr (by simpa using hc3)
     have hw:w64 ((i:Int)+1)=((i+1:Nat):Int):=Qt i1 (by unfold maxLen;omega:a.length≤maxLen)
     refine TotP.ok (Qw ⟨i1,hw,?_⟩)
     show a.take (w64 ((i:Int)+1)).toNat=b.take (w64 ((i:Int)+1)).toNat
     rw [hw,Int.toNat_natCast,List.take_add_one,List.take_add_one,hJ,List.getElem?_eq_getElem i1,List.getElem?_eq_getElem i2,e]
   ·simp only [decide_eq_false_iff_not]at hc2
    rwa [List.take_of_length_le (by omega),List.take_of_length_le (by omega)]at hJ
  ·rcases q with q | q
   ·exact TotP.ok fun h=>by cases h
   ·exact TotP.ok fun _=>hq rfl
 exact key
end Go.Proofs
noncomputable section
namespace Go.Proofs
open Go Go.RowKit Go.Vm
theorem QxD {a b:Int}(h:a≤b):QR a≤QR b:=by
 unfold QR min2 max2
 repeat' split
 all_goals omega
theorem QqV {n:TNet}{m:List Bag}(w:Int){a b:Int}(hab:a≤b):(∃r,(QcK n w b m).1=(QcK n w a m).1++r)∧((QcK n w a m).2=true→QcK n w b m=QcK n w a m):=by
 have hm:=QxD hab
 unfold QcK
 by_cases c0:QR a=0
 ·rw [if_pos c0]
  exact⟨⟨_,(List.nil_append _).symm⟩,fun h=>by cases h⟩
 ·rw [if_neg c0,if_neg (by omega)]
  exact Qvf hm _ _ (by simp;omega) (by omega) (by omega)
theorem Qvv {n:TNet}{m:List Bag}(o:Qk){a b:Int}(hab:a≤b):Ql0 n m o a≠2→Ql0 n m o b=Ql0 n m o a:=by
 unfold Ql0
 split
 ·split
  ·split
   ·unfold Qtq
    obtain⟨⟨r,hr⟩,h2⟩:=QqV (n:=n) (m:=m) o.Task hab
    intro h
    cases c1:(QcK n o.Task a m).1.any (hasT (Qlp n m o.Task))with
    | true=>rw [hr,List.any_append,c1];rfl
    | false=>
     rw [c1]at h
     cases c2:(QcK n o.Task a m).2 with
     | true=>rw [h2 c2,c1,c2]
     | false=>rw [c2]at h;exact absurd rfl h
   ·intro _;rfl
  ·intro _;rfl
 ·intro _;rfl
theorem Qvw (n:TNet)(m:List Bag)(o:Qk)(budget more:Int)(hn:QK n)(hm0:lenL (lenL fun _=>True) m):QcC n m o budget more=some true:=by
 unfold QcC
 rw [Qvt,Option.bind_some]
 obtain⟨f,hf,hf2⟩:=Qw9 n m budget hn hm0
 rw [hf,Option.bind_some]
 cases hc:((!f)||((decide (more<0))||((decide (12<more))||((decide (budget<0))||((decide (20<(o.Vars.length:Int)))||((decide (20<(o.Ins.length:Int)))||(decide (20<(o.Outs.length:Int)))))))))with
 | true=>rfl
 | false=>
  simp only [cond_false]
  simp only [Bool.or_eq_false_iff,Bool.not_eq_false',decide_eq_false_iff_not]at hc
  obtain⟨h,hb,hg,hbud⟩:=hf2 hc.1
  have ho:QgK n o:=⟨by omega,by omega,by omega⟩
  obtain⟨k,hk⟩:=Qwu h hg
  rw [hk,Option.bind_some]
  cases hc2:decide ((40:Int)≤(k:Int))with
  | true=>rfl
  | false=>
   simp only [cond_false]
   have hw:w64 (budget+more)=budget+more:=Qcs (by omega)
   have hab:budget≤budget+more:=by omega
   rw [hw,Qt9 o budget h hb hg ho,Option.bind_some,Qt9 o (budget+more) h hb hg ho,Option.bind_some,QoT (-1) budget h hb hg,Option.bind_some,QoT (-1) (budget+more) h hb hg,Option.bind_some]
   obtain⟨⟨r,hr⟩,h2⟩:=QqV (n:=n) (m:=m) (-1) hab
   have hrd:=Qvv (n:=n) (m:=m) o hab
   obtain⟨g1,g2,g3,g4⟩:=Qsj (-1) budget h hg
   have hmost:(QR budget:Int)≤budget:=by
    have:=(QsK budget).1
    rw [this];unfold min2 max2;split<;>split<;>omega
   generalize Ql0 n m o budget=A at hrd ⊢
   generalize Ql0 n m o (budget+more)=B at hrd ⊢
   generalize hX:QcK n (-1) budget m=X at hr h2 g1 g2 g3 g4 ⊢
   generalize hY:QcK n (-1) (budget+more) m=Y at hr h2 ⊢
   have e1:decide ((Y.1.length:Int)<(X.1.length:Int))=false:=decide_eq_false (by rw [hr,List.length_append];omega)
   have e2:decide (budget<(X.1.length:Int))=false:=decide_eq_false (by omega)
   have e3:(bif X.2 then((!Y.2)||(((Y.1.length:Int) != (X.1.length:Int))||decide (budget<(X.1.length:Int))))else decide (budget<(X.1.length:Int)))=false:=by
    cases c:X.2 with
    | false=>exact e2
    | true=>
     have:=h2 c
     rw [e2,this,c];simp
   have e4:(A != 2)=true→(B != A)=false:=fun hA=>by
    rw [hrd (by simpa using hA)];simp
   have cond:(bif (A != 2)then((B != A)||((decide ((Y.1.length:Int)<(X.1.length:Int)))||(bif X.2 then((!Y.2)||(((Y.1.length:Int) != (X.1.length:Int))||decide (budget<(X.1.length:Int))))else decide (budget<(X.1.length:Int)))))else((decide ((Y.1.length:Int)<(X.1.length:Int)))||(bif X.2 then((!Y.2)||(((Y.1.length:Int) != (X.1.length:Int))||decide (budget<(X.1.length:Int))))else decide (budget<(X.1.length:Int)))))=false:=by
    rw [e1,e3]
    cases hA:(A != 2)with
    | false=>rfl
    | true=>rw [e4 hA];rfl
   rw [cond,cond_false]
   have hget:∀i (hi:i<X.1.length),Y.1[i]? = some X.1[i]:=fun i hi=>by
    rw [hr,List.getElem?_append_left hi,List.getElem?_eq_getElem hi]
   have main:TotP (QC (fun st=>Qa9 X Y st) 0) fun q:Unit⊕Unit=>q=.inr ():=by
    refine TotP.up X.1.length (fun st=>st) (fun _=>True) rfl trivial (fun i st hi hn2 _=>?_)
    replace hi:st=(i:Int):=hi
    subst hi
    show TotP (Qa9 X Y i) _
    unfold Qa9
    refine TotP.bif (fun hc3=>?_) (fun _=>TotP.ok (Ql rfl))
    simp only [decide_eq_true_eq]at hc3
    have i1:i<X.1.length:=by omega
    have hgi:=g1 _ (List.getElem_mem i1)
    rw [QP,List.getElem?_eq_getElem i1,Option.bind_some,QP,hget i i1,Option.bind_some,Qoe h hgi.1 (by omega),Option.bind_some]
    simp only [Bool.not_true,cond_false]
    have inner:TotP (QC (fun st=>Qa8 i X st) 0) fun q:Unit⊕Unit=>q=.inr ():=by
     refine TotP.up i (fun st=>st) (fun _=>True) rfl trivial (fun j st hj hn3 _=>?_)
     replace hj:st=(j:Int):=hj
     subst hj
     show TotP (Qa8 i X j) _
     unfold Qa8
     refine TotP.bif (fun hc4=>?_) (fun _=>TotP.ok (Ql rfl))
     simp only [decide_eq_true_eq]at hc4
     have j1:j<i:=by omega
     have j2:j<X.1.length:=by omega
     rw [QP,List.getElem?_eq_getElem i1,Option.bind_some,QP,List.getElem?_eq_getElem j2,Option.bind_some]
     obtain⟨s,hs,hs2⟩:=QsL h hgi (g1 _ (List.getElem_mem j2))
     rw [hs,Option.bind_some]
     have:s=false:=by
      cases s with
      | false=>rfl
      | true=>exact absurd (congrArg Qb4 (hs2 rfl)).symm (List.pairwise_iff_getElem.1 g3 j i j2 i1 j1)
     subst this
     exact TotP.ok (Qw ⟨j1,Qt j1 (by unfold maxLen;omega),trivial⟩)
    obtain⟨q,hq1,rfl⟩:=inner
    rw [hq1,Option.bind_some]
    exact TotP.ok (Qw ⟨i1,Qt i1 (by unfold maxLen;omega),trivial⟩)
   obtain⟨q,hq1,rfl⟩:=main
   rw [hq1,Option.bind_some]
   show QcJ true X m=some true
   unfold QcJ QgY
   simp only [cond_true]
   by_cases c0:X.1.length=0
   ·rw [show((X.1.length:Int)==0)=true by simp [List.length_eq_zero_iff.1 c0]];rfl
   ·rw [show((X.1.length:Int)==0)=false by simp;exact fun e=>c0 (by rw [e];rfl)]
    simp only [cond_false]
    obtain⟨r2,hr2⟩:=g4 (by omega)
    rw [hr2,show idx (m::r2) (0:Int)=some m from rfl,Option.bind_some,Qoe h hg.1 (by omega)];rfl
end Go.Proofs
