/- A part of the proof; what it holds is told at each theorem. -/
import Derived.Test.YtmhljalpjhdpeaaGreatDoorT3
import Derived.Test.YtmhljalpjhdpeaaGreatDoorXPlT
import Derived.KernelRfl
set_option linter.unusedVariables false
set_option linter.unusedSimpArgs false
set_option linter.unusedSectionVars false
set_option linter.deprecated false
noncomputable section
namespace Go.Proofs
open Go Go.RowKit Go.Vm
inductive Qcp : Qf→Prop where
 | mk (e:Qf):e.Kids.length≤maxLen→(∀k∈e.Kids,Qcp k)→Qcp e
theorem Qdq {e:Qf}(h:Qcp e):lenL Qcp e.Kids:=by
 cases h with
 | mk _ h1 h2=>exact⟨h1,h2⟩
theorem Qnw {e k:Qf}(h:k∈e.Kids):SizeOf.sizeOf k<SizeOf.sizeOf e:=by
 obtain⟨a,b,l⟩:=e
 have:=List.sizeOf_lt_of_mem h
 simp only [Qf.mk.sizeOf_spec]at *
 omega
theorem Qf.pos (e:Qf):0<SizeOf.sizeOf e:=by
 obtain⟨a,b,l⟩:=e
 simp only [Qf.mk.sizeOf_spec];omega
inductive POk (v:Int):Qf→Prop where
 | mk (e:Qf):(e.Kind=1∨e.Kind=2∨e.Kind=3∨e.Kind=4∨e.Kind=5∨e.Kind=6)→(e.Kind=2→0≤e.Num∧e.Num<v)→(e.Kind=3∨e.Kind=4→e.Kids.length=1)→(e.Kind=5→e.Kids.length=2)→(e.Kind=6→e.Kids.length=3)→(∀k∈e.Kids,POk v k)→POk v e
def Qbv (x:Qy):Prop:=QeT x.Name∧True∧True∧True∧(lenL QeT) x.Names∧True∧True
def Qb0 (x:QB):Prop:=QeT x.Name∧True∧(lenL (fun _=>True)) x.First
def QcZ (x:TVar):Prop:=QeT x.Name∧True
def QhB (x:TArc):Prop:=True∧Qcp x.Expr
def Qam (x:Qs):Prop:=QeT x.Name∧(lenL QcZ) x.Vars∧Qcp x.Guard∧True∧True∧(lenL QhB) x.Ins∧(lenL QhB) x.Outs∧(lenL (fun _=>True)) x.Cancel∧True∧True
def QJ (x:TNet):Prop:=(lenL Qbv) x.Colours∧(lenL Qb0) x.Places∧(lenL Qam) x.Tasks∧True∧True
def Qqr (x:Qaa):Prop:=(lenL Qbv) x.all∧(lenL (fun _=>True)) x.sizes∧True
theorem Qpw (v1:TNet)(h_v1:QJ v1):TotP (QgF v1) fun r=>True:=by
 unfold QgF
 exact TotP.okT
theorem QbG (l1:(List QB))(k2:Int)(h_l1:(lenL Qb0) l1):TotP (Qac l1 k2) fun r=>r=true→0≤k2∧k2<l1.length:=by
 unfold Qac
 exact TotP.ok (by first | (intro hr;first | (cases hr;done) | omega | ((try simp only [Bool.and_eq_true,Bool.or_eq_true,Bool.or_eq_false_iff,Bool.not_eq_true',Bool.not_eq_false',decide_eq_true_eq,decide_eq_false_iff_not,beq_iff_eq,bne_iff_ne,ne_eq,Bool.not_eq_true,Bool.not_eq_false,List.length_append,List.length_singleton,List.length_nil,List.length_drop,List.length_take,List.length_cons,QiI,QiJ,QhS]at *);omega)) | ((try simp only [Bool.and_eq_true,Bool.or_eq_true,Bool.or_eq_false_iff,Bool.not_eq_true',Bool.not_eq_false',decide_eq_true_eq,decide_eq_false_iff_not,beq_iff_eq,bne_iff_ne,ne_eq,Bool.not_eq_true,Bool.not_eq_false,List.length_append,List.length_singleton,List.length_nil,List.length_drop,List.length_take,List.length_cons,QiI,QiJ,QhS]at *);omega) | simp_all)
theorem Qpx (v1:TNet)(h_v1:QJ v1):TotP (QgG v1) fun r=>True:=by
 unfold QgG
 refine TotP.bind (P:=fun _=>True) ?_ (fun x_1 hv2=>?_)
 ·unfold QiC
  refine TotP.bind (QbG v1.Places v1.From (h_v1.2.1)) (fun x_3 hv4=>?_)
  refine TotP.bif (fun hc5=>?_) (fun hc5=>?_)
  ·refine TotP.bind (QbG v1.Places v1.To (h_v1.2.1)) (fun x_6 hv7=>?_)
   exact TotP.okT
  ·exact TotP.okT
 unfold Qex
 exact TotP.okT
theorem Qpy (v1:TNet)(h_v1:QJ v1):TotP (QgH v1) fun r=>True:=by
 unfold QgH
 exact TotP.okT
theorem Qpz (v1:TNet)(v2:Int)(v3:Int)(v4:Int)(h_v1:QJ v1):TotP (QgI v1 v2 v3 v4) fun r=>True:=by
 unfold QgI
 refine TotP.bind (Qpw v1 (h_v1)) (fun x_1 hv2=>?_)
 refine TotP.bif (fun hc3=>?_) (fun hc3=>?_)
 ·exact TotP.okT
 ·refine TotP.bind (Qpx v1 (h_v1)) (fun x_4 hv5=>?_)
  refine TotP.bif (fun hc6=>?_) (fun hc6=>?_)
  ·exact TotP.okT
  ·refine TotP.bind (Qpy v1 (h_v1)) (fun x_7 hv8=>?_)
   refine TotP.bif (fun hc9=>?_) (fun hc9=>?_)
   ·exact TotP.okT
   ·exact TotP.okT
theorem QpA (lo1:Int)(hi2:Int)  : TotP (QgC lo1 hi2) fun r=>True:=by
 unfold QgC
 refine TotP.bif (fun hc1=>?_) (fun hc1=>?_)
 ·exact TotP.okT
 ·exact TotP.okT
theorem Qkd (c1:Int)  : TotP (Qdt c1) fun r=>True:=by
 unfold Qdt
 exact TotP.okT
theorem Qjm (s1:ByteArray)(h_s1:QeT s1):TotP (QdF s1) fun r=>True:=by
 unfold QdF
 refine TotP.bind (P:=fun _=>True) ?_ (fun x_1 hv2=>?_)
 ·unfold Qis
  refine TotP.bif (fun hc3=>?_) (fun hc3=>?_)
  ·exact TotP.okT
  ·have hshc3:=QsI hc3
   refine TotP.bif (fun hc4=>?_) (fun hc4=>?_)
   ·exact TotP.okT
   ·refine TotP.bind (TotP.sidx (by omega) (by omega)) (fun c_5 hv6=>?_)
    refine TotP.bind (Qkd c_5 ) (fun x_7 hv8=>?_)
    exact TotP.okT
 unfold Qeo
 refine TotP.bif (fun hc9=>?_) (fun hc9=>?_)
 ·exact TotP.okT
 ·refine TotP.bind (TotP.up (s1.size) (fun st=>st) (fun _=>True) (Q:=fun q=>True) rfl trivial (fun i11 st hi12 hn13 hj14=>?_)) (fun q15 hq16=>?_)
  ·obtain⟨x_10,hst⟩:∃y,y=st:=⟨_,rfl⟩
   subst hst
   replace hi12:x_10=(i11:Int):=hi12
   show TotP (Qc1 s1 x_10) _
   unfold Qc1
   refine TotP.bif (fun hc17=>?_) (fun hc17=>?_)
   ·refine TotP.bind (TotP.sidx (by omega) (by simp_all)) (fun c_18 hv19=>?_)
    refine TotP.bind (P:=fun _=>True) ?_ (fun x_20 hv21=>?_)
    ·unfold Qit
     refine TotP.bind (Qkd c_18 ) (fun x_22 hv23=>?_)
     refine TotP.bif (fun hc24=>?_) (fun hc24=>?_)
     ·refine TotP.bif (fun hc25=>?_) (fun hc25=>?_)
      ·exact TotP.okT
      ·refine TotP.bif (fun hc26=>?_) (fun hc26=>?_)
       ·exact TotP.okT
       ·exact TotP.okT
     ·exact TotP.okT
    unfold Qel
    refine TotP.bif (fun hc27=>?_) (fun hc27=>?_)
    ·exact TotP.ok (Qn trivial)
    ·exact TotP.ok (QC ⟨(by simp_all),by subst hi12;exact Qz (by simp_all) h_s1,trivial⟩)
   ·exact TotP.ok (Qn trivial)
  rcases q15 with q15 | q15
  ·show TotP (Qem) _
   unfold Qem
   exact TotP.okT
  ·show TotP (Qen) _
   unfold Qen
   exact TotP.okT
theorem QoQ (l1:(List ByteArray))(h_l1:(lenL QeT) l1):TotP (QfT l1) fun r=>True:=by
 unfold QfT
 refine TotP.bind (TotP.up (l1.length) (fun st=>st.1) (fun _=>True) (Q:=fun q=>True) rfl trivial (fun i3 st hi4 hn5 hj6=>?_)) (fun q7 hq8=>?_)
 ·obtain⟨x_1,m_2⟩:=st
  replace hi4:x_1=(i3:Int):=hi4
  show TotP (QcG l1 x_1 m_2) _
  unfold QcG
  refine TotP.bif (fun hc9=>?_) (fun hc9=>?_)
  ·refine TotP.bind (TotP.idx (by omega) (by simp_all)) (fun e_10 hv11=>?_)
   refine TotP.bind (P:=fun _=>True) ?_ (fun x_12 hv13=>?_)
   ·unfold QhW
    refine TotP.bind (Qjm e_10 (((h_l1).2 e_10 hv11))) (fun x_14 hv15=>?_)
    refine TotP.bif (fun hc16=>?_) (fun hc16=>?_)
    ·exact TotP.okT
    ·exact TotP.okT
   unfold QdK
   refine TotP.bif (fun hc17=>?_) (fun hc17=>?_)
   ·exact TotP.ok (Qn trivial)
   ·exact TotP.ok (QC ⟨(by simp_all),by subst hi4;exact Qz (by simp_all) (h_l1).1,trivial⟩)
  ·exact TotP.ok (Qn trivial)
 rcases q7 with q7 | q7
 ·show TotP (QdL) _
  unfold QdL
  exact TotP.okT
 ·show TotP (QdM) _
  unfold QdM
  exact TotP.okT
theorem QpB (c1:Qy)(ahead2:(List Int))(h_c1:Qbv c1)(h_ahead2:(lenL (fun _=>True)) ahead2):TotP (QgD c1 ahead2) fun r=>True:=by
 unfold QgD
 refine TotP.bif (fun hc1=>?_) (fun hc1=>?_)
 ·refine TotP.bind (QpA c1.Lo c1.Hi ) (fun x_2 hv3=>?_)
  exact TotP.okT
 ·refine TotP.bif (fun hc4=>?_) (fun hc4=>?_)
  ·refine TotP.bind (QoQ c1.Names (h_c1.2.2.2.2.1)) (fun x_5 hv6=>?_)
   refine TotP.bif (fun hc7=>?_) (fun hc7=>?_)
   ·exact TotP.okT
   ·unfold QbJ
    exact TotP.okT
  ·refine TotP.bif (fun hc8=>?_) (fun hc8=>?_)
   ·refine TotP.bif (fun hc9=>?_) (fun hc9=>?_)
    ·refine TotP.bind (TotP.idx (by(try simp only [Bool.and_eq_true,Bool.or_eq_true,Bool.or_eq_false_iff,Bool.not_eq_true',Bool.not_eq_false',decide_eq_true_eq,decide_eq_false_iff_not,beq_iff_eq,bne_iff_ne,ne_eq,Bool.not_eq_true,Bool.not_eq_false,List.length_append,List.length_singleton,List.length_nil,List.length_drop,List.length_take,List.length_cons,QiI,QiJ,QhS]at *);omega) (by(try simp only [Bool.and_eq_true,Bool.or_eq_true,Bool.or_eq_false_iff,Bool.not_eq_true',Bool.not_eq_false',decide_eq_true_eq,decide_eq_false_iff_not,beq_iff_eq,bne_iff_ne,ne_eq,Bool.not_eq_true,Bool.not_eq_false,List.length_append,List.length_singleton,List.length_nil,List.length_drop,List.length_take,List.length_cons,QiI,QiJ,QhS]at *);omega)) (fun e_10 hv11=>?_)
     refine TotP.bind (TotP.idx (by(try simp only [Bool.and_eq_true,Bool.or_eq_true,Bool.or_eq_false_iff,Bool.not_eq_true',Bool.not_eq_false',decide_eq_true_eq,decide_eq_false_iff_not,beq_iff_eq,bne_iff_ne,ne_eq,Bool.not_eq_true,Bool.not_eq_false,List.length_append,List.length_singleton,List.length_nil,List.length_drop,List.length_take,List.length_cons,QiI,QiJ,QhS]at *);omega) (by(try simp only [Bool.and_eq_true,Bool.or_eq_true,Bool.or_eq_false_iff,Bool.not_eq_true',Bool.not_eq_false',decide_eq_true_eq,decide_eq_false_iff_not,beq_iff_eq,bne_iff_ne,ne_eq,Bool.not_eq_true,Bool.not_eq_false,List.length_append,List.length_singleton,List.length_nil,List.length_drop,List.length_take,List.length_cons,QiI,QiJ,QhS]at *);omega)) (fun e_12 hv13=>?_)
     exact TotP.okT
    ·unfold QbJ
     exact TotP.okT
   ·unfold QbJ
    exact TotP.okT
theorem QkY (l1:(List Qy))(h_l1:(lenL Qbv) l1):TotP (Qd6 l1) fun r=>((lenL (fun _=>True)) r.1∧True)∧(r.2=true→r.1.length=l1.length∧∀x∈r.1,1≤x∧x≤1024):=by
 unfold Qd6
 refine TotP.bif (fun hc=>TotP.ok ⟨⟨lenL.nil,trivial⟩,fun h=>by cases h⟩) (fun hc=>?_)
 have hl:l1.length≤32:=by simp only [decide_eq_false_iff_not]at hc;omega
 refine TotP.bind (TotP.up l1.length (fun st=>st.1) (fun st=>(st.2.2.length:Int)=st.1∧∀x∈st.2.2,1≤x∧x≤1024) (Q:=fun q=>∀l,q=.inr l→l.length=l1.length∧∀x∈l,1≤x∧x≤1024) rfl ⟨rfl,fun x h=>(by cases h)⟩ (fun i st hi hn hj=>?_)) (fun q hq=>?_)
 ·obtain⟨x,m,l⟩:=st
  replace hi:x=(i:Int):=hi
  replace hj:(l.length:Int)=x∧∀x∈l,1≤x∧x≤1024:=hj
  obtain⟨hj,hj2⟩:=hj
  show TotP (QcH l1 x m l) _
  unfold QcH
  refine TotP.bif (fun hc2=>?_) (fun hc2=>?_)
  ·simp only [decide_eq_true_eq]at hc2
   refine TotP.bind (TotP.idx (by omega) (by omega)) fun e he=>?_
   refine TotP.bind (QpB e l (h_l1.2 e he) ⟨by unfold maxLen;omega,fun _ _=>trivial⟩) fun y _=>?_
   refine TotP.bind (P:=fun z=>z=false→1≤y∧y≤1024) ?_ fun z hz=>?_
   ·unfold QhX
    refine TotP.bind (Qjm e.Name (h_l1.2 e he).1) fun z _=>?_
    refine TotP.bif (fun _=>TotP.ok (fun h=>by cases h)) fun _=>TotP.bif (fun _=>TotP.ok (fun h=>by cases h)) fun _=>TotP.bif (fun _=>TotP.ok (fun h=>by cases h)) fun h1=>TotP.ok fun h2=>?_
    simp only [decide_eq_false_iff_not]at h1 h2
    omega
   unfold QdN
   refine TotP.bif (fun _=>TotP.ok (Qn fun l h=>by cases h)) fun hz0=>?_
   refine TotP.bind (TotP.chk (by simp;omega)) fun _ _=>?_
   exact TotP.ok (QC ⟨by omega,by subst hi;exact Qz (by omega) (by unfold maxLen;omega:l1.length≤maxLen),by simp only [List.length_append,List.length_singleton];subst hi;rw [Qz (show i<l1.length by omega) (by unfold maxLen;omega)];omega,fun u hu=>by
    rcases List.mem_append.1 hu with hu | hu
    ·exact hj2 u hu
    ·simp at hu;subst hu;exact hz hz0⟩)
  ·simp only [decide_eq_false_iff_not]at hc2
   exact TotP.ok (Qn fun l' h=>by cases h;exact⟨by omega,hj2⟩)
 ·rcases q with q | q
  ·exact TotP.ok ⟨⟨lenL.nil,trivial⟩,fun h=>by cases h⟩
  ·have:=hq q rfl
   exact TotP.ok ⟨⟨⟨by show q.length≤maxLen;unfold maxLen;omega,fun _ _=>trivial⟩,trivial⟩,fun _=>this⟩
theorem QoR (l1:(List Qy))(h_l1:(lenL Qbv) l1):TotP (Qf0 l1) fun r=>True:=by
 unfold Qf0
 refine TotP.bind (QkY l1 (h_l1)) (fun x_1 hv2=>?_)
 exact TotP.okT
theorem QlP (v1:TNet)(v2:Int)(h_v1:QJ v1)(hp0:0≤v2)(hp1:v2<v1.Colours.length):TotP (QcR v1 v2) fun r=>True:=by
 have hl:=h_v1.1.1
 unfold maxLen at hl
 unfold QcR
 rw [Qgd (show -9223372036854775808≤v2+1∧v2+1≤9223372036854775807 by omega)]
 refine TotP.bind (TotP.chk (by simp only [Bool.and_eq_true,decide_eq_true_eq];omega)) fun _ _=>?_
 exact TotP.bind (QoR _ ((h_v1.1.drop _).take _)) fun x _=>TotP.okT
def QpC : List ByteArray:=(Qe1).getD []
set_option maxRecDepth 100000 in
theorem Qto : Qe1=some QpC:=by kernel_rfl
set_option maxRecDepth 100000 in
theorem Qrl : (decide (QpC.length≤1000)&&QpC.all fun s=>decide (s.size≤1000))=true:=by kernel_rfl
theorem QpD : TotP (Qe1) fun r=>lenL QeT r:=by
 have h:=Qrl
 rw [Bool.and_eq_true,decide_eq_true_iff,List.all_eq_true]at h
 refine⟨QpC,Qto,by unfold maxLen;omega,fun x hx=>?_⟩
 have:=h.2 x hx
 rw [decide_eq_true_iff]at this
 unfold QeT maxLen;omega
theorem Qjn (s1:(List ByteArray))(v2:ByteArray)(h_s1:(lenL QeT) s1)(h_v2:QeT v2):TotP (Qa7 s1 v2) fun r=>True:=by
 unfold Qa7
 refine TotP.bind (TotP.up (s1.length) (fun st=>st) (fun _=>True) (Q:=fun q=>True) rfl trivial (fun i2 st hi3 hn4 hj5=>?_)) (fun q6 hq7=>?_)
 ·obtain⟨x_1,hst⟩:∃y,y=st:=⟨_,rfl⟩
  subst hst
  replace hi3:x_1=(i2:Int):=hi3
  show TotP (Qal s1 v2 x_1) _
  unfold Qal
  refine TotP.bif (fun hc8=>?_) (fun hc8=>?_)
  ·refine TotP.bind (TotP.idx (by omega) (by simp_all)) (fun e_9 hv10=>?_)
   refine TotP.bif (fun hc11=>?_) (fun hc11=>?_)
   ·exact TotP.ok (Qn trivial)
   ·exact TotP.ok (QC ⟨(by simp_all),by subst hi3;exact Qz (by simp_all) (h_s1).1,trivial⟩)
  ·exact TotP.ok (Qn trivial)
 rcases q6 with q6 | q6
 ·show TotP (QaJ q6) _
  unfold QaJ
  exact TotP.okT
 ·show TotP (QaK) _
  unfold QaK
  exact TotP.okT
theorem Qii (s1:(List ByteArray))(v2:ByteArray)(h_s1:(lenL QeT) s1)(h_v2:QeT v2):TotP (QaL s1 v2) fun r=>True:=by
 unfold QaL
 refine TotP.bind (Qjn s1 v2 (h_s1) (h_v2)) (fun x_1 hv2=>?_)
 exact TotP.okT
theorem Qp0 (s1:ByteArray)(h_s1:QeT s1):TotP (Qhy s1) fun r=>True:=by
 unfold Qhy
 refine TotP.bind (QpD  ) (fun x_1 hv2=>?_)
 refine TotP.bind (Qii x_1 s1 (hv2) (h_s1)) (fun x_3 hv4=>?_)
 exact TotP.okT
theorem Qge (s1:ByteArray)(h_s1:QeT s1):TotP (QcB s1) fun r=>True:=by
 unfold QcB
 refine TotP.bind (P:=fun _=>True) ?_ (fun x_1 hv2=>?_)
 ·unfold Qjg
  refine TotP.bind (Qjm s1 (h_s1)) (fun x_3 hv4=>?_)
  refine TotP.bif (fun hc5=>?_) (fun hc5=>?_)
  ·refine TotP.bind (Qp0 s1 (h_s1)) (fun x_6 hv7=>?_)
   exact TotP.okT
  ·exact TotP.okT
 unfold Qfe
 exact TotP.okT
theorem Qk7 (s1:ByteArray)(h_s1:QeT s1):TotP (Qck s1) fun r=>True:=by
 unfold Qck
 refine TotP.bind (Qge s1 (h_s1)) (fun x_1 hv2=>?_)
 exact TotP.okT
theorem Qh3 (s1:(List ByteArray))(h_s1:(lenL QeT) s1):TotP (QaE s1) fun r=>True:=by
 unfold QaE
 refine TotP.bind (TotP.up (s1.length) (fun st=>st) (fun _=>True) (Q:=fun q=>True) rfl trivial (fun i2 st hi3 hn4 hj5=>?_)) (fun q6 hq7=>?_)
 ·obtain⟨x_1,hst⟩:∃y,y=st:=⟨_,rfl⟩
  subst hst
  replace hi3:x_1=(i2:Int):=hi3
  show TotP (Q1 s1 x_1) _
  unfold Q1
  refine TotP.bif (fun hc8=>?_) (fun hc8=>?_)
  ·refine TotP.bind (TotP.idx (by omega) (by simp_all)) (fun e_9 hv10=>?_)
   refine TotP.bind (Qk7 e_9 (((h_s1).2 e_9 hv10))) (fun x_11 hv12=>?_)
   refine TotP.bif (fun hc13=>?_) (fun hc13=>?_)
   ·exact TotP.ok (Qn trivial)
   ·exact TotP.ok (QC ⟨(by simp_all),by subst hi3;exact Qz (by simp_all) (h_s1).1,trivial⟩)
  ·exact TotP.ok (Qn trivial)
 rcases q6 with q6 | q6
 ·show TotP (Qaq q6) _
  unfold Qaq
  exact TotP.okT
 ·show TotP (Qar) _
  unfold Qar
  exact TotP.okT
theorem Qhj (s1:(List ByteArray))(h_s1:(lenL QeT) s1):TotP (Qas s1) fun r=>True:=by
 unfold Qas
 refine TotP.bind (Qh3 s1 (h_s1)) (fun x_1 hv2=>?_)
 exact TotP.okT
theorem QlQ (v1:Qy)(h_v1:Qbv v1):TotP (QcS v1) fun r=>True:=by
 unfold QcS
 refine TotP.bind (P:=fun _=>True) ?_ (fun x_1 hv2=>?_)
 ·unfold QfA
  refine TotP.bind (Qge v1.Name (h_v1.1)) (fun x_3 hv4=>?_)
  refine TotP.bif (fun hc5=>?_) (fun hc5=>?_)
  ·refine TotP.bif (fun hc6=>?_) (fun hc6=>?_)
   ·exact TotP.okT
   ·refine TotP.bind (Qhj v1.Names (h_v1.2.2.2.2.1)) (fun x_7 hv8=>?_)
    exact TotP.okT
  ·exact TotP.okT
 unfold Qb8
 exact TotP.okT
theorem Qnx (v1:TNet)(v2:Int)(v3:Int)(v4:Qy)(v5:Int)(h_v1:QJ v1)(h_v4:Qbv v4)(hp0:0≤v2)(hp1:v2<v1.Colours.length):TotP (Qey v1 v2 v3 v4 v5) fun r=>True:=by
 unfold Qey
 refine TotP.bind (QlP v1 v2 (h_v1) (by omega) (by omega)) (fun x_1 hv2=>?_)
 refine TotP.bif (fun hc3=>?_) (fun hc3=>?_)
 ·exact TotP.okT
 ·refine TotP.bind (QlQ v4 (h_v4)) (fun x_4 hv5=>?_)
  refine TotP.bif (fun hc6=>?_) (fun hc6=>?_)
  ·exact TotP.okT
  ·exact TotP.okT
theorem QmR (k1:Int)(c2:Qy)(v3:TNet)(h_c2:Qbv c2)(h_v3:QJ v3)(hp0:0≤k1)(hp1:k1<v3.Colours.length):TotP (QdS k1 c2 v3) fun r=>True:=by
 unfold QdS
 refine TotP.bind (Qnx v3 k1 8 c2 8 (h_v3) (h_c2) (by omega) (by omega)) (fun x_1 hv2=>?_)
 exact TotP.okT
theorem Qko (l1:(List Qy))(v2:TNet)(h_l1:(lenL Qbv) l1)(h_v2:QJ v2)(hp0:l1.length≤v2.Colours.length):TotP (QbU l1 v2) fun r=>True:=by
 unfold QbU
 refine TotP.bind (TotP.up (l1.length) (fun st=>st) (fun _=>True) (Q:=fun q=>True) rfl trivial (fun i2 st hi3 hn4 hj5=>?_)) (fun q6 hq7=>?_)
 ·obtain⟨x_1,hst⟩:∃y,y=st:=⟨_,rfl⟩
  subst hst
  replace hi3:x_1=(i2:Int):=hi3
  show TotP (QaN l1 v2 x_1) _
  unfold QaN
  refine TotP.bif (fun hc8=>?_) (fun hc8=>?_)
  ·refine TotP.bind (TotP.idx (by omega) (by simp_all)) (fun e_9 hv10=>?_)
   refine TotP.bind (QmR x_1 e_9 v2 (((h_l1).2 e_9 hv10)) (h_v2) (by omega) (by simp_all;omega)) (fun x_11 hv12=>?_)
   refine TotP.bif (fun hc13=>?_) (fun hc13=>?_)
   ·exact TotP.ok (Qn trivial)
   ·exact TotP.ok (QC ⟨(by simp_all),by subst hi3;exact Qz (by simp_all) (h_l1).1,trivial⟩)
  ·exact TotP.ok (Qn trivial)
 rcases q6 with q6 | q6
 ·show TotP (Qbn q6.1 q6.2) _
  unfold Qbn
  exact TotP.okT
 ·show TotP (Qbo) _
  unfold Qbo
  exact TotP.okT
theorem Qke (n1:TNet)(h_n1:QJ n1):TotP (QdA n1) fun r=>True:=by
 unfold QdA
 refine TotP.bind (Qko n1.Colours n1 (h_n1.1) (h_n1) (by omega)) (fun x_1 hv2=>?_)
 exact TotP.okT
theorem Qoe (v1:QB)(h_v1:Qb0 v1):TotP (Qfg v1) fun r=>True:=by
 unfold Qfg
 refine TotP.bind (Qge v1.Name (h_v1.1)) (fun x_1 hv2=>?_)
 exact TotP.okT
theorem Qof (p1:QB)(v2:QB)(h_p1:Qb0 p1)(h_v2:Qb0 v2):TotP (Qfh p1 v2) fun r=>True:=by
 unfold Qfh
 exact TotP.okT
theorem Qgz (s1:(List QB))(v2:QB)(h_s1:(lenL Qb0) s1)(h_v2:Qb0 v2):TotP (Qad s1 v2) fun r=>True:=by
 unfold Qad
 refine TotP.bind (TotP.up (s1.length) (fun st=>st) (fun _=>True) (Q:=fun q=>True) rfl trivial (fun i2 st hi3 hn4 hj5=>?_)) (fun q6 hq7=>?_)
 ·obtain⟨x_1,hst⟩:∃y,y=st:=⟨_,rfl⟩
  subst hst
  replace hi3:x_1=(i2:Int):=hi3
  show TotP (QQ s1 v2 x_1) _
  unfold QQ
  refine TotP.bif (fun hc8=>?_) (fun hc8=>?_)
  ·refine TotP.bind (TotP.idx (by omega) (by simp_all)) (fun e_9 hv10=>?_)
   refine TotP.bind (Qof e_9 v2 (((h_s1).2 e_9 hv10)) (h_v2)) (fun x_11 hv12=>?_)
   refine TotP.bif (fun hc13=>?_) (fun hc13=>?_)
   ·exact TotP.ok (Qn trivial)
   ·exact TotP.ok (QC ⟨(by simp_all),by subst hi3;exact Qz (by simp_all) (h_s1).1,trivial⟩)
  ·exact TotP.ok (Qn trivial)
 rcases q6 with q6 | q6
 ·show TotP (QY q6) _
  unfold QY
  exact TotP.okT
 ·show TotP (QZ) _
  unfold QZ
  exact TotP.okT
theorem QfD (s1:(List QB))(v2:QB)(h_s1:(lenL Qb0) s1)(h_v2:Qb0 v2):TotP (Q0 s1 v2) fun r=>True:=by
 unfold Q0
 refine TotP.bind (Qgz s1 v2 (h_s1) (h_v2)) (fun x_1 hv2=>?_)
 exact TotP.okT
theorem Qog (v1:TNet)(v2:Int)(v3:QB)(h_v1:QJ v1)(h_v3:Qb0 v3)(hp0:0≤v2)(hp1:v2<v1.Places.length):TotP (Qfi v1 v2 v3) fun r=>True:=by
 unfold Qfi
 refine TotP.bind (TotP.chk (by simp_all;omega)) (fun _ _=>?_)
 refine TotP.bind (QfD ((v1.Places.drop 0).take (v2.toNat-0)) v3 (((h_v1.2.1).drop _).take _) (h_v3)) (fun x_1 hv2=>?_)
 exact TotP.okT
theorem QgO (l1:(List Qy))(k2:Int)(h_l1:(lenL Qbv) l1):TotP (Qa8 l1 k2) fun r=>True:=by
 unfold Qa8
 exact TotP.okT
theorem Qoh (v1:TNet)(v2:QB)(h_v1:QJ v1)(h_v2:Qb0 v2):TotP (Qfj v1 v2) fun r=>True:=by
 unfold Qfj
 refine TotP.bind (QgO v1.Colours v2.Colour (h_v1.1)) (fun x_1 hv2=>?_)
 exact TotP.okT
theorem Qqs (b1:(List (Int×Int)))(h_b1:(lenL (fun _=>True)) b1):TotP (Qdc b1) fun r=>True:=by
 unfold Qdc
 refine TotP.bind (TotP.up (b1.length) (fun st=>st.2) (fun _=>True) (Q:=fun q=>True) rfl trivial (fun i3 st hi4 hn5 hj6=>?_)) (fun q7 hq8=>?_)
 ·obtain⟨last_1,x_2⟩:=st
  replace hi4:x_2=(i3:Int):=hi4
  show TotP (Qa3 b1 last_1 x_2) _
  unfold Qa3
  refine TotP.bif (fun hc9=>?_) (fun hc9=>?_)
  ·refine TotP.bind (TotP.idx (by omega) (by simp_all)) (fun e_10 hv11=>?_)
   refine TotP.bif (fun hc12=>?_) (fun hc12=>?_)
   ·exact TotP.ok (Qn trivial)
   ·exact TotP.ok (QC ⟨(by simp_all),by subst hi4;exact Qz (by simp_all) (h_b1).1,trivial⟩)
  ·exact TotP.ok (Qn trivial)
 rcases q7 with q7 | q7
 ·show TotP (QfW) _
  unfold QfW
  exact TotP.okT
 ·show TotP (QfX) _
  unfold QfX
  exact TotP.okT
theorem Qoi (v1:QB)(h_v1:Qb0 v1):TotP (Qfk v1) fun r=>True:=by
 unfold Qfk
 refine TotP.bind (Qqs v1.First (h_v1.2.2)) (fun x_1 hv2=>?_)
 exact TotP.okT
theorem QgP (l1:(List Qy))(k2:Int)(h_l1:(lenL Qbv) l1):TotP (Qdb l1 k2) fun r=>(True∧Qqr r.2)∧(r.1=true→(0≤k2∧k2<r.2.sizes.length)∧r.2.k=k2∧r.2.all.length=r.2.sizes.length∧∀x∈r.2.sizes,1≤x∧x≤1024):=by
 unfold Qdb
 refine TotP.bind (QkY l1 h_l1) fun x hx=>?_
 refine TotP.bif (fun _=>TotP.ok ⟨⟨trivial,lenL.nil,lenL.nil,trivial⟩,fun h=>by cases h⟩) fun hc=>?_
 simp only [Bool.or_eq_false_iff,Bool.not_eq_false',decide_eq_false_iff_not]at hc
 have:=hx.2 hc.1
 exact TotP.ok ⟨⟨trivial,h_l1,hx.1.1,trivial⟩,fun _=>⟨⟨by omega,by show k2<(x.1.length:Int);omega⟩,rfl,this.1.symm,this.2⟩⟩
theorem Qhh (l1:(List Qy))(k2:Int)(h_l1:(lenL Qbv) l1):TotP (Qaw l1 k2) fun r=>0≤r∧r≤1024:=by
 unfold Qaw
 refine TotP.bind (QgP l1 k2 h_l1) (fun x hx=>?_)
 refine TotP.bif (fun hc=>TotP.ok (by omega)) (fun hc=>?_)
 have h:=hx.2 (by simpa using hc)
 exact TotP.bind (TotP.idx (by omega) (by omega)) fun e he=>TotP.ok (by have:=h.2.2.2 e he;omega)
theorem QmS (row1:(Int×Int))(v2:Int)  : TotP (QdT row1 v2) fun r=>True:=by
 unfold QdT
 exact TotP.okT
theorem Qh4 (s1:(List (Int×Int)))(v2:Int)(h_s1:(lenL (fun _=>True)) s1):TotP (QaF s1 v2) fun r=>True:=by
 unfold QaF
 refine TotP.bind (TotP.up (s1.length) (fun st=>st) (fun _=>True) (Q:=fun q=>True) rfl trivial (fun i2 st hi3 hn4 hj5=>?_)) (fun q6 hq7=>?_)
 ·obtain⟨x_1,hst⟩:∃y,y=st:=⟨_,rfl⟩
  subst hst
  replace hi3:x_1=(i2:Int):=hi3
  show TotP (Q2 s1 v2 x_1) _
  unfold Q2
  refine TotP.bif (fun hc8=>?_) (fun hc8=>?_)
  ·refine TotP.bind (TotP.idx (by omega) (by simp_all)) (fun e_9 hv10=>?_)
   refine TotP.bind (QmS e_9 v2 ) (fun x_11 hv12=>?_)
   refine TotP.bif (fun hc13=>?_) (fun hc13=>?_)
   ·exact TotP.ok (Qn trivial)
   ·exact TotP.ok (QC ⟨(by simp_all),by subst hi3;exact Qz (by simp_all) (h_s1).1,trivial⟩)
  ·exact TotP.ok (Qn trivial)
 rcases q6 with q6 | q6
 ·show TotP (Qat q6) _
  unfold Qat
  exact TotP.okT
 ·show TotP (Qau) _
  unfold Qau
  exact TotP.okT
theorem Qhk (s1:(List (Int×Int)))(v2:Int)(h_s1:(lenL (fun _=>True)) s1):TotP (Qav s1 v2) fun r=>True:=by
 unfold Qav
 refine TotP.bind (Qh4 s1 v2 (h_s1)) (fun x_1 hv2=>?_)
 exact TotP.okT
theorem Qoj (v1:TNet)(v2:QB)(h_v1:QJ v1)(h_v2:Qb0 v2):TotP (Qfl v1 v2) fun r=>True:=by
 unfold Qfl
 refine TotP.bind (Qhh v1.Colours v2.Colour (h_v1.1)) (fun x_1 hv2=>?_)
 refine TotP.bind (Qhk v2.First x_1 (h_v2.2.2)) (fun x_3 hv4=>?_)
 exact TotP.okT
theorem Qny (v1:QB)(v2:Int)(v3:TNet)(v4:Int)(v5:Int)(v6:Int)(v7:Int)(v8:Int)(h_v1:Qb0 v1)(h_v3:QJ v3)(hp0:0≤v4)(hp1:v4<v3.Places.length):TotP (Qez v1 v2 v3 v4 v5 v6 v7 v8) fun r=>True:=by
 unfold Qez
 refine TotP.bind (Qoe v1 (h_v1)) (fun x_1 hv2=>?_)
 refine TotP.bif (fun hc3=>?_) (fun hc3=>?_)
 ·exact TotP.okT
 ·refine TotP.bind (Qog v3 v4 v1 (h_v3) (h_v1) (by omega) (by omega)) (fun x_4 hv5=>?_)
  refine TotP.bif (fun hc6=>?_) (fun hc6=>?_)
  ·exact TotP.okT
  ·refine TotP.bind (Qoh v3 v1 (h_v3) (h_v1)) (fun x_7 hv8=>?_)
   refine TotP.bif (fun hc9=>?_) (fun hc9=>?_)
   ·exact TotP.okT
   ·refine TotP.bind (Qoi v1 (h_v1)) (fun x_10 hv11=>?_)
    refine TotP.bif (fun hc12=>?_) (fun hc12=>?_)
    ·exact TotP.okT
    ·refine TotP.bind (Qoj v3 v1 (h_v3) (h_v1)) (fun x_13 hv14=>?_)
     refine TotP.bif (fun hc15=>?_) (fun hc15=>?_)
     ·exact TotP.okT
     ·exact TotP.okT
theorem QpE (n1:TNet)(k2:Int)(h_n1:QJ n1):TotP (QgJ n1 k2) fun r=>True:=by
 unfold QgJ
 refine TotP.bind (QbG n1.Places k2 (h_n1.2.1)) (fun x_1 hv2=>?_)
 refine TotP.bif (fun hc3=>?_) (fun hc3=>?_)
 ·exact TotP.okT
 ·refine TotP.bind (TotP.idx (by simp_all) (by simp_all)) (fun e_4 hv5=>?_)
  refine TotP.bind (Qny e_4 1 n1 k2 5 3 1 8 (((h_n1.2.1).2 e_4 hv5)) (h_n1) (by simp_all) (by simp_all)) (fun x_6 hv7=>?_)
  exact TotP.okT
theorem QpF (k1:Int)(p2:QB)(v3:TNet)(h_p2:Qb0 p2)(h_v3:QJ v3):TotP (QgK k1 p2 v3) fun r=>True:=by
 unfold QgK
 refine TotP.bind (QpE v3 k1 (h_v3)) (fun x_1 hv2=>?_)
 exact TotP.okT
theorem QkZ (l1:(List QB))(v2:TNet)(h_l1:(lenL Qb0) l1)(h_v2:QJ v2):TotP (Qb9 l1 v2) fun r=>True:=by
 unfold Qb9
 refine TotP.bind (TotP.up (l1.length) (fun st=>st) (fun _=>True) (Q:=fun q=>True) rfl trivial (fun i2 st hi3 hn4 hj5=>?_)) (fun q6 hq7=>?_)
 ·obtain⟨x_1,hst⟩:∃y,y=st:=⟨_,rfl⟩
  subst hst
  replace hi3:x_1=(i2:Int):=hi3
  show TotP (QaV l1 v2 x_1) _
  unfold QaV
  refine TotP.bif (fun hc8=>?_) (fun hc8=>?_)
  ·refine TotP.bind (TotP.idx (by omega) (by simp_all)) (fun e_9 hv10=>?_)
   refine TotP.bind (QpF x_1 e_9 v2 (((h_l1).2 e_9 hv10)) (h_v2)) (fun x_11 hv12=>?_)
   refine TotP.bif (fun hc13=>?_) (fun hc13=>?_)
   ·exact TotP.ok (Qn trivial)
   ·exact TotP.ok (QC ⟨(by simp_all),by subst hi3;exact Qz (by simp_all) (h_l1).1,trivial⟩)
  ·exact TotP.ok (Qn trivial)
 rcases q6 with q6 | q6
 ·show TotP (QbE q6.1 q6.2) _
  unfold QbE
  exact TotP.okT
 ·show TotP (QbF) _
  unfold QbF
  exact TotP.okT
theorem QhC (l1:(List Qs))(k2:Int)(h_l1:(lenL Qam) l1):TotP (Qbt l1 k2) fun r=>r=true→0≤k2∧k2<l1.length:=by
 unfold Qbt
 exact TotP.ok (by first | (intro hr;first | (cases hr;done) | omega | ((try simp only [Bool.and_eq_true,Bool.or_eq_true,Bool.or_eq_false_iff,Bool.not_eq_true',Bool.not_eq_false',decide_eq_true_eq,decide_eq_false_iff_not,beq_iff_eq,bne_iff_ne,ne_eq,Bool.not_eq_true,Bool.not_eq_false,List.length_append,List.length_singleton,List.length_nil,List.length_drop,List.length_take,List.length_cons,QiI,QiJ,QhS]at *);omega)) | ((try simp only [Bool.and_eq_true,Bool.or_eq_true,Bool.or_eq_false_iff,Bool.not_eq_true',Bool.not_eq_false',decide_eq_true_eq,decide_eq_false_iff_not,beq_iff_eq,bne_iff_ne,ne_eq,Bool.not_eq_true,Bool.not_eq_false,List.length_append,List.length_singleton,List.length_nil,List.length_drop,List.length_take,List.length_cons,QiI,QiJ,QhS]at *);omega) | simp_all)
theorem QpG (v1:Int)(v2:TNet)(v3:Qs)(h_v2:QJ v2)(h_v3:Qam v3):TotP (QgL v1 v2 v3) fun r=>True:=by
 unfold QgL
 exact TotP.okT
theorem Qnz (v1:Int)(v2:TNet)(v3:Qs)(v4:Int)(h_v2:QJ v2)(h_v3:Qam v3):TotP (QeA v1 v2 v3 v4) fun r=>True:=by
 unfold QeA
 exact TotP.okT
theorem QnA (v1:Int)(v2:TNet)(v3:Qs)(v4:Int)(h_v2:QJ v2)(h_v3:Qam v3):TotP (QeB v1 v2 v3 v4) fun r=>True:=by
 unfold QeB
 exact TotP.okT
theorem QnB (v1:Int)(v2:TNet)(v3:Qs)(h_v2:QJ v2)(h_v3:Qam v3):TotP (QeC v1 v2 v3) fun r=>True:=by
 unfold QeC
 exact TotP.okT
theorem QoS (v1:Qs)(h_v1:Qam v1):TotP (Qf1 v1) fun r=>True:=by
 unfold Qf1
 refine TotP.bind (Qge v1.Name (h_v1.1)) (fun x_1 hv2=>?_)
 exact TotP.okT
theorem QoT (p1:Qs)(v2:Qs)(h_p1:Qam p1)(h_v2:Qam v2):TotP (Qf2 p1 v2) fun r=>True:=by
 unfold Qf2
 exact TotP.okT
theorem Qg6 (s1:(List Qs))(v2:Qs)(h_s1:(lenL Qam) s1)(h_v2:Qam v2):TotP (Qan s1 v2) fun r=>True:=by
 unfold Qan
 refine TotP.bind (TotP.up (s1.length) (fun st=>st) (fun _=>True) (Q:=fun q=>True) rfl trivial (fun i2 st hi3 hn4 hj5=>?_)) (fun q6 hq7=>?_)
 ·obtain⟨x_1,hst⟩:∃y,y=st:=⟨_,rfl⟩
  subst hst
  replace hi3:x_1=(i2:Int):=hi3
  show TotP (QT s1 v2 x_1) _
  unfold QT
  refine TotP.bif (fun hc8=>?_) (fun hc8=>?_)
  ·refine TotP.bind (TotP.idx (by omega) (by simp_all)) (fun e_9 hv10=>?_)
   refine TotP.bind (QoT e_9 v2 (((h_s1).2 e_9 hv10)) (h_v2)) (fun x_11 hv12=>?_)
   refine TotP.bif (fun hc13=>?_) (fun hc13=>?_)
   ·exact TotP.ok (Qn trivial)
   ·exact TotP.ok (QC ⟨(by simp_all),by subst hi3;exact Qz (by simp_all) (h_s1).1,trivial⟩)
  ·exact TotP.ok (Qn trivial)
 rcases q6 with q6 | q6
 ·show TotP (Q7 q6) _
  unfold Q7
  exact TotP.okT
 ·show TotP (Q8) _
  unfold Q8
  exact TotP.okT
theorem Qgh (s1:(List Qs))(v2:Qs)(h_s1:(lenL Qam) s1)(h_v2:Qam v2):TotP (Q9 s1 v2) fun r=>True:=by
 unfold Q9
 refine TotP.bind (Qg6 s1 v2 (h_s1) (h_v2)) (fun x_1 hv2=>?_)
 exact TotP.okT
theorem QoU (v1:TNet)(v2:Int)(v3:Qs)(h_v1:QJ v1)(h_v3:Qam v3)(hp0:0≤v2)(hp1:v2<v1.Tasks.length):TotP (Qf4 v1 v2 v3) fun r=>True:=by
 unfold Qf4
 refine TotP.bind (TotP.chk (by simp_all;omega)) (fun _ _=>?_)
 refine TotP.bind (Qgh ((v1.Tasks.drop 0).take (v2.toNat-0)) v3 (((h_v1.2.2.1).drop _).take _) (h_v3)) (fun x_1 hv2=>?_)
 exact TotP.okT
theorem QoV (v1:Int)(v2:Qs)(h_v2:Qam v2):TotP (Qeg v1 v2) fun r=>True:=by
 unfold Qeg
 exact TotP.okT
theorem Qk8 (v1:TVar)(h_v1:QcZ v1):TotP (Qcl v1) fun r=>True:=by
 unfold Qcl
 refine TotP.bind (Qge v1.Name (h_v1.1)) (fun x_1 hv2=>?_)
 exact TotP.okT
theorem Qk9 (p1:TVar)(v2:TVar)(h_p1:QcZ p1)(h_v2:QcZ v2):TotP (Qcm p1 v2) fun r=>True:=by
 unfold Qcm
 exact TotP.okT
theorem QhD (s1:(List TVar))(v2:TVar)(h_s1:(lenL QcZ) s1)(h_v2:QcZ v2):TotP (Qay s1 v2) fun r=>True:=by
 unfold Qay
 refine TotP.bind (TotP.up (s1.length) (fun st=>st) (fun _=>True) (Q:=fun q=>True) rfl trivial (fun i2 st hi3 hn4 hj5=>?_)) (fun q6 hq7=>?_)
 ·obtain⟨x_1,hst⟩:∃y,y=st:=⟨_,rfl⟩
  subst hst
  replace hi3:x_1=(i2:Int):=hi3
  show TotP (QV s1 v2 x_1) _
  unfold QV
  refine TotP.bif (fun hc8=>?_) (fun hc8=>?_)
  ·refine TotP.bind (TotP.idx (by omega) (by simp_all)) (fun e_9 hv10=>?_)
   refine TotP.bind (Qk9 e_9 v2 (((h_s1).2 e_9 hv10)) (h_v2)) (fun x_11 hv12=>?_)
   refine TotP.bif (fun hc13=>?_) (fun hc13=>?_)
   ·exact TotP.ok (Qn trivial)
   ·exact TotP.ok (QC ⟨(by simp_all),by subst hi3;exact Qz (by simp_all) (h_s1).1,trivial⟩)
  ·exact TotP.ok (Qn trivial)
 rcases q6 with q6 | q6
 ·show TotP (Qaf q6) _
  unfold Qaf
  exact TotP.okT
 ·show TotP (Qag) _
  unfold Qag
  exact TotP.okT
theorem QgQ (s1:(List TVar))(v2:TVar)(h_s1:(lenL QcZ) s1)(h_v2:QcZ v2):TotP (Qah s1 v2) fun r=>True:=by
 unfold Qah
 refine TotP.bind (QhD s1 v2 (h_s1) (h_v2)) (fun x_1 hv2=>?_)
 exact TotP.okT
theorem Qla (v1:(List TVar))(v2:Int)(v3:TVar)(h_v1:(lenL QcZ) v1)(h_v3:QcZ v3)(hp0:0≤v2)(hp1:v2<v1.length):TotP (Qcn v1 v2 v3) fun r=>True:=by
 unfold Qcn
 refine TotP.bind (TotP.chk (by simp_all;omega)) (fun _ _=>?_)
 refine TotP.bind (QgQ ((v1.drop 0).take (v2.toNat-0)) v3 (((h_v1).drop _).take _) (h_v3)) (fun x_1 hv2=>?_)
 exact TotP.okT
theorem Qlb (v1:TNet)(v2:TVar)(h_v1:QJ v1)(h_v2:QcZ v2):TotP (Qco v1 v2) fun r=>True:=by
 unfold Qco
 refine TotP.bind (QgO v1.Colours v2.Colour (h_v1.1)) (fun x_1 hv2=>?_)
 exact TotP.okT
theorem QnC (v1:TVar)(v2:Int)(v3:(List TVar))(v4:Int)(v5:Int)(v6:TNet)(v7:Int)(h_v1:QcZ v1)(h_v3:(lenL QcZ) v3)(h_v6:QJ v6)(hp0:0≤v4)(hp1:v4<v3.length):TotP (QeD v1 v2 v3 v4 v5 v6 v7) fun r=>True:=by
 unfold QeD
 refine TotP.bind (Qk8 v1 (h_v1)) (fun x_1 hv2=>?_)
 refine TotP.bif (fun hc3=>?_) (fun hc3=>?_)
 ·exact TotP.okT
 ·refine TotP.bind (Qla v3 v4 v1 (h_v3) (h_v1) (by omega) (by omega)) (fun x_4 hv5=>?_)
  refine TotP.bif (fun hc6=>?_) (fun hc6=>?_)
  ·exact TotP.okT
  ·refine TotP.bind (Qlb v6 v1 (h_v6) (h_v1)) (fun x_7 hv8=>?_)
   refine TotP.bif (fun hc9=>?_) (fun hc9=>?_)
   ·exact TotP.okT
   ·exact TotP.okT
theorem QlR (k1:Int)(v2:TVar)(v3:(List TVar))(v4:TNet)(h_v2:QcZ v2)(h_v3:(lenL QcZ) v3)(h_v4:QJ v4)(hp0:0≤k1)(hp1:k1<v3.length):TotP (QcT k1 v2 v3 v4) fun r=>True:=by
 unfold QcT
 refine TotP.bind (QnC v2 1 v3 k1 5 v4 3 (h_v2) (h_v3) (h_v4) (by omega) (by omega)) (fun x_1 hv2=>?_)
 exact TotP.okT
theorem QlD (l1:(List TVar))(v2:(List TVar))(v3:TNet)(h_l1:(lenL QcZ) l1)(h_v2:(lenL QcZ) v2)(h_v3:QJ v3)(hp0:l1.length≤v2.length):TotP (QcC l1 v2 v3) fun r=>True:=by
 unfold QcC
 refine TotP.bind (TotP.up (l1.length) (fun st=>st) (fun _=>True) (Q:=fun q=>True) rfl trivial (fun i2 st hi3 hn4 hj5=>?_)) (fun q6 hq7=>?_)
 ·obtain⟨x_1,hst⟩:∃y,y=st:=⟨_,rfl⟩
  subst hst
  replace hi3:x_1=(i2:Int):=hi3
  show TotP (Qbe l1 v2 v3 x_1) _
  unfold Qbe
  refine TotP.bif (fun hc8=>?_) (fun hc8=>?_)
  ·refine TotP.bind (TotP.idx (by omega) (by simp_all)) (fun e_9 hv10=>?_)
   refine TotP.bind (QlR x_1 e_9 v2 v3 (((h_l1).2 e_9 hv10)) (h_v2) (h_v3) (by omega) (by simp_all;omega)) (fun x_11 hv12=>?_)
   refine TotP.bif (fun hc13=>?_) (fun hc13=>?_)
   ·exact TotP.ok (Qn trivial)
   ·exact TotP.ok (QC ⟨(by simp_all),by subst hi3;exact Qz (by simp_all) (h_l1).1,trivial⟩)
  ·exact TotP.ok (Qn trivial)
 rcases q6 with q6 | q6
 ·show TotP (QbV q6.1 q6.2) _
  unfold QbV
  exact TotP.okT
 ·show TotP (QbW) _
  unfold QbW
  exact TotP.okT
theorem QmT (n1:TNet)(l2:(List TVar))(h_n1:QJ n1)(h_l2:(lenL QcZ) l2):TotP (QdU n1 l2) fun r=>True:=by
 unfold QdU
 refine TotP.bind (QlD l2 l2 n1 (h_l2) (h_l2) (h_n1) (by omega)) (fun x_1 hv2=>?_)
 exact TotP.okT
theorem QoW (v1:TNet)(v2:Qs)(h_v1:QJ v1)(h_v2:Qam v2):TotP (Qf5 v1 v2) fun r=>True:=by
 unfold Qf5
 refine TotP.bind (QmT v1 v2.Vars (h_v1) (h_v2.2.1)) (fun x_1 hv2=>?_)
 exact TotP.okT
theorem Qok (v1:TNet)(v2:Qs)(v3:Int)(h_v1:QJ v1)(h_v2:Qam v2):TotP (Qfm v1 v2 v3) fun r=>True:=by
 unfold Qfm
 refine TotP.bind (QoW v1 v2 (h_v1) (h_v2)) (fun x_1 hv2=>?_)
 exact TotP.okT
theorem Qln (n1:TNet)(k2:Int)(h_n1:QJ n1):TotP (Qe2 n1 k2) fun r=>True:=by
 unfold Qe2
 refine TotP.bind (QhC n1.Tasks k2 (h_n1.2.2.1)) (fun x_1 hv2=>?_)
 refine TotP.bif (fun hc3=>?_) (fun hc3=>?_)
 ·exact TotP.okT
 ·refine TotP.bind (TotP.idx (by simp_all) (by simp_all)) (fun e_4 hv5=>?_)
  refine TotP.bind (TotP.up (e_4.Vars.length) (fun st=>st.2) (fun _=>True) (Q:=fun q=>True) rfl trivial (fun i8 st hi9 hn10 hj11=>?_)) (fun q12 hq13=>?_)
  ·obtain⟨out_6,x_7⟩:=st
   replace hi9:x_7=(i8:Int):=hi9
   show TotP (Qc6 e_4 n1 out_6 x_7) _
   unfold Qc6
   refine TotP.bif (fun hc14=>?_) (fun hc14=>?_)
   ·refine TotP.bind (TotP.idx (by omega) (by simp_all)) (fun e_15 hv16=>?_)
    refine TotP.bind (Qhh n1.Colours e_15.Colour (h_n1.1)) (fun x_17 hv18=>?_)
    refine TotP.bif (fun hc19=>?_) (fun hc19=>?_)
    ·exact TotP.ok (Qn trivial)
    ·exact TotP.ok (QC ⟨(by simp_all),by subst hi9;exact Qz (by simp_all) (((h_n1.2.2.1).2 e_4 hv5).2.1).1,trivial⟩)
   ·exact TotP.ok (Qn trivial)
  rcases q12 with q12 | q12
  ·show TotP (QeE) _
   unfold QeE
   exact TotP.okT
  ·show TotP (QeF q12) _
   unfold QeF
   exact TotP.okT
theorem QoX (v1:TNet)(v2:Int)(h_v1:QJ v1):TotP (Qf6 v1 v2) fun r=>True:=by
 unfold Qf6
 refine TotP.bind (Qln v1 v2 (h_v1)) (fun x_1 hv2=>?_)
 exact TotP.okT
theorem Qqt (kind1:Int):TotP (Qh8 kind1) fun r=>0≤r→(kind1=1∨kind1=2∨kind1=3∨kind1=4∨kind1=5∨kind1=6)∧(kind1=3∨kind1=4→r=1)∧(kind1=5→r=2)∧(kind1=6→r=3):=by
 unfold Qh8
 refine TotP.bif (fun hc=>?_) (fun hc=>?_)
 ·unfold Qd9;rw [hc]
  simp only [beq_iff_eq]at hc
  exact TotP.ok (by omega)
 ·simp only [beq_eq_false_iff_ne]at hc
  unfold Qd9
  refine TotP.bif (fun hc=>TotP.ok (by simp only [beq_iff_eq]at hc;omega)) (fun hc2=>?_)
  simp only [beq_eq_false_iff_ne]at hc2
  refine TotP.bif (fun hc3=>?_) (fun hc3=>?_)
  ·unfold Qd8;rw [hc3]
   simp only [beq_iff_eq]at hc3
   exact TotP.ok (by omega)
  ·simp only [beq_eq_false_iff_ne]at hc3
   unfold Qd8
   refine TotP.bif (fun hc=>TotP.ok (by simp only [beq_iff_eq]at hc;omega)) (fun hc4=>?_)
   simp only [beq_eq_false_iff_ne]at hc4
   refine TotP.bif (fun hc=>TotP.ok (by simp only [beq_iff_eq]at hc;omega)) (fun hc5=>?_)
   simp only [beq_eq_false_iff_ne]at hc5
   exact TotP.bif (fun hc=>TotP.ok (by simp only [beq_iff_eq]at hc;omega)) (fun hc6=>TotP.ok (by omega))
theorem Qp1 (op1:Int)  : TotP (Qhq op1) fun r=>True:=by
 unfold Qhq
 exact TotP.okT
theorem QjI (rec_:Qf→Int→Option Bool)(s1:List Qf)(v2:Int)(h1:s1.length≤maxLen)(h:∀k∈s1,TotP (rec_ k v2) fun r=>r=true→POk v2 k):TotP (Q6 rec_ s1 v2) fun r=>r=false→∀k∈s1,POk v2 k:=by
 unfold Q6 QaQ
 refine TotP.bind (P:=fun x=>x<0→∀k∈s1,POk v2 k) ?_ fun x hx=>TotP.ok fun h=>hx (by simp only [decide_eq_false_iff_not]at h;omega)
 refine TotP.bind (TotP.up s1.length (fun st=>st) (fun st=>∀(j:Nat) k,(j:Int)<st→s1[j]? = some k→POk v2 k) (Q:=fun q=>(∀x,q=.inl x→0≤x)∧(q=.inr ()→∀k∈s1,POk v2 k)) rfl (fun j k hj=>by omega) (fun i st hi hn hj=>?_)) (fun q hq=>?_)
 ·show TotP (QS s1 rec_ v2 st) _
  unfold QS QhL
  refine TotP.bif (fun hc=>?_) (fun hc=>TotP.ok (Qn ⟨fun x h=>(by cases h),fun _ k hk=>by
   obtain⟨j,hj1,hj2⟩:=List.mem_iff_getElem.1 hk
   simp only [decide_eq_false_iff_not]at hc
   exact hj j k (by omega) (by rw [List.getElem?_eq_getElem hj1,hj2])⟩))
  simp only [decide_eq_true_eq]at hc
  rw [QjH (by omega)]
  have hlt:st.toNat<s1.length:=by omega
  rw [List.getElem?_eq_getElem hlt]
  refine TotP.bind (P:=fun k=>k=s1[st.toNat]) (TotP.ok rfl) fun k hk=>?_
  subst hk
  refine TotP.bind (P:=fun r=>r=false→POk v2 s1[st.toNat]) (TotP.bind (h _ (List.getElem_mem hlt)) fun x hx=>TotP.ok fun h=>hx (by simpa using h)) fun x hx=>?_
  refine TotP.bif (fun _=>TotP.ok (Qn ⟨fun x h=>(by cases h;omega),fun h=>(by cases h)⟩)) fun hxf=>TotP.ok (QC ⟨by omega,by rw [hi];exact Qz (by omega) h1,?_⟩)
  rw [hi,Qz (show i<s1.length by omega) h1]
  intro j k hj' hk
  by_cases c:j=i
  ·subst c
   have e:st.toNat=j:=by omega
   have:=hx hxf
   rw [List.getElem?_eq_getElem (by omega)]at hk
   cases hk
   simpa only [e] using this
  ·exact hj j k (by omega) hk
 ·rcases q with q | q
  ·exact TotP.ok fun h=>absurd (hq.1 q rfl) (by omega)
  ·exact TotP.ok fun _=>hq.2 rfl
theorem Qk0 : ∀(n:Nat) (e:Qf) (v:Int),Qcp e→SizeOf.sizeOf e≤n→TotP (Qc3 n e v) fun r=>r=true→POk v e
 | 0,e,_,_,h=>absurd e.pos (by omega)
 | n+1,e,v,he,h=>by
  unfold Qc3 QhM
  refine TotP.bind (Qqt e.Kind) fun x hx=>?_
  refine TotP.bif (fun _=>TotP.ok fun h=>by cases h) fun h1=>TotP.bif (fun _=>TotP.ok fun h=>by cases h) fun h2=>?_
  refine TotP.bind (P:=fun _=>True) ?_ fun y _=>?_
  ·unfold QiU
   exact TotP.bif (fun _=>TotP.bind (Qp1 e.Num) fun x _=>TotP.okT) fun _=>TotP.okT
  ·unfold Qe7
   refine TotP.bif (fun _=>TotP.ok fun h=>by cases h) fun _=>?_
   refine TotP.bind (QjI (Qc3 n) e.Kids v (Qdq he).1 fun k hk=>Qk0 n k v ((Qdq he).2 k hk) (by have:=Qnw hk;omega)) fun x hx2=>TotP.ok fun hx3=>?_
   simp only [bne_eq_false_iff_eq]at h1
   have h3:=hx (by omega)
   simp only [Bool.and_eq_false_iff,Bool.or_eq_false_iff,decide_eq_false_iff_not,beq_eq_false_iff_ne]at h2
   exact .mk e h3.1 (fun hk=>by omega) (fun hk=>by have:=h3.2.1 hk;omega) (fun hk=>by have:=h3.2.2.1 hk;omega) (fun hk=>by have:=h3.2.2.2 hk;omega) (hx2 (by simpa using hx3))
theorem Qp2 (e1:Qf)(vars2:Int)(h_e1:Qcp e1):TotP (QkC e1 vars2) fun r=>r=true→POk vars2 e1:=Qk0 _ e1 vars2 h_e1 (Nat.le_refl _)
theorem Qk1 : ∀(n:Nat) (e:Qf),Qcp e→SizeOf.sizeOf e≤n→TotP (Qc2 n e) fun _=>True
 | 0,e,_,h=>absurd e.pos (by omega)
 | n+1,e,he,h=>by
  unfold Qc2 QhJ
  refine TotP.bind (TotP.up e.Kids.length (fun st=>st.2) (fun _=>True) (Q:=fun _=>True) rfl trivial (fun i st hi hn _=>?_)) (fun q _=>?_)
  ·obtain⟨a,x⟩:=st
   replace hi:x=(i:Int):=hi
   show TotP (Qdu e (Qc2 n) a x) _
   unfold Qdu
   refine TotP.bif (fun hc=>?_) (fun hc=>?_)
   ·simp only [decide_eq_true_eq]at hc
    refine TotP.bind (TotP.idx (by omega) (by omega)) fun k hk=>?_
    have:=Qnw hk
    refine TotP.bind (Qk1 n k ((Qdq he).2 k hk) (by omega)) fun d _=>?_
    exact TotP.ok (QC ⟨by omega,by subst hi;exact Qz (by omega) (Qdq he).1,trivial⟩)
   ·exact TotP.ok (Qn trivial)
  ·unfold Qhb
   exact TotP.okT
theorem Qp3 (e1:Qf)(h_e1:Qcp e1):TotP (QkA e1) fun _=>True:=Qk1 _ e1 h_e1 (Nat.le_refl _)
theorem Qlo : ∀(n:Nat) (e:Qf),Qcp e→SizeOf.sizeOf e≤n→TotP (QdG n e) fun _=>True
 | 0,e,_,h=>absurd e.pos (by omega)
 | n+1,e,he,h=>by
  unfold QdG Qil
  refine TotP.bind (TotP.up e.Kids.length (fun st=>st.2) (fun _=>True) (Q:=fun _=>True) rfl trivial (fun i st hi hn _=>?_)) (fun q _=>?_)
  ·obtain⟨a,x⟩:=st
   replace hi:x=(i:Int):=hi
   show TotP (Qd7 e (QdG n) a x) _
   unfold Qd7
   refine TotP.bif (fun hc=>?_) (fun hc=>?_)
   ·simp only [decide_eq_true_eq]at hc
    refine TotP.bind (TotP.idx (by omega) (by omega)) fun k hk=>?_
    have:=Qnw hk
    refine TotP.bind (Qlo n k ((Qdq he).2 k hk) (by omega)) fun d _=>?_
    exact TotP.ok (QC ⟨by omega,by subst hi;exact Qz (by omega) (Qdq he).1,trivial⟩)
   ·exact TotP.ok (Qn trivial)
  ·unfold QhK
   exact TotP.okT
theorem Qqu (e1:Qf)(h_e1:Qcp e1):TotP (Qls e1) fun _=>True:=Qlo _ e1 h_e1 (Nat.le_refl _)
theorem QjJ (e1:Qf)(vars2:Int)(h_e1:Qcp e1):TotP (Qep e1 vars2) fun r=>r=true→POk vars2 e1:=by
 unfold Qep
 refine TotP.bind (P:=fun r=>r=true→POk vars2 e1) ?_ (fun x hx=>TotP.ok hx)
 unfold QiV
 refine TotP.bind (Qp3 e1 h_e1) (fun x _=>?_)
 refine TotP.bif (fun _=>?_) (fun _=>TotP.ok fun h=>by cases h)
 refine TotP.bind (Qqu e1 h_e1) (fun x _=>?_)
 refine TotP.bif (fun _=>?_) (fun _=>TotP.ok fun h=>by cases h)
 exact TotP.bind (Qp2 e1 vars2 h_e1) (fun x hx=>TotP.ok hx)
theorem QoY (v1:Qs)(v2:Int)(h_v1:Qam v1):TotP (Qf7 v1 v2) fun r=>True:=by
 unfold Qf7
 refine TotP.bind (P:=fun _=>True) ?_ (fun x_1 hv2=>?_)
 ·unfold Qh2
  refine TotP.bind (QjJ v1.Guard v2 (h_v1.2.2.1)) (fun x_3 hv4=>?_)
  refine TotP.bif (fun hc5=>?_) (fun hc5=>?_)
  ·refine TotP.bif (fun hc6=>?_) (fun hc6=>?_)
   ·exact TotP.okT
   ·exact TotP.okT
  ·exact TotP.okT
 unfold QdV
 exact TotP.okT
theorem QnD (v1:TNet)(v2:TArc)(h_v1:QJ v1)(h_v2:QhB v2):TotP (QeG v1 v2) fun r=>True:=by
 unfold QeG
 refine TotP.bind (QbG v1.Places v2.Place (h_v1.2.1)) (fun x_1 hv2=>?_)
 exact TotP.okT
theorem QnE (v1:TArc)(v2:Int)(h_v1:QhB v1):TotP (QeH v1 v2) fun r=>True:=by
 unfold QeH
 refine TotP.bind (QjJ v1.Expr v2 (h_v1.2)) (fun x_1 hv2=>?_)
 exact TotP.okT
theorem QnF (v1:TNet)(v2:TArc)(v3:Int)(v4:Int)(v5:Int)(h_v1:QJ v1)(h_v2:QhB v2):TotP (QeI v1 v2 v3 v4 v5) fun r=>True:=by
 unfold QeI
 refine TotP.bind (QnD v1 v2 (h_v1) (h_v2)) (fun x_1 hv2=>?_)
 refine TotP.bif (fun hc3=>?_) (fun hc3=>?_)
 ·exact TotP.okT
 ·refine TotP.bind (QnE v2 v4 (h_v2)) (fun x_4 hv5=>?_)
  refine TotP.bif (fun hc6=>?_) (fun hc6=>?_)
  ·exact TotP.okT
  ·exact TotP.okT
theorem QoZ (p1:Int)(a2:TArc)(v3:TNet)(v4:Int)(h_a2:QhB a2)(h_v3:QJ v3):TotP (Qf8 p1 a2 v3 v4) fun r=>True:=by
 unfold Qf8
 refine TotP.bind (QnF v3 a2 3 v4 1 (h_v3) (h_a2)) (fun x_1 hv2=>?_)
 exact TotP.okT
theorem QlE (l1:(List TArc))(v2:TNet)(v3:Int)(h_l1:(lenL QhB) l1)(h_v2:QJ v2):TotP (QcD l1 v2 v3) fun r=>True:=by
 unfold QcD
 refine TotP.bind (TotP.up (l1.length) (fun st=>st) (fun _=>True) (Q:=fun q=>True) rfl trivial (fun i2 st hi3 hn4 hj5=>?_)) (fun q6 hq7=>?_)
 ·obtain⟨x_1,hst⟩:∃y,y=st:=⟨_,rfl⟩
  subst hst
  replace hi3:x_1=(i2:Int):=hi3
  show TotP (Qbf l1 v2 v3 x_1) _
  unfold Qbf
  refine TotP.bif (fun hc8=>?_) (fun hc8=>?_)
  ·refine TotP.bind (TotP.idx (by omega) (by simp_all)) (fun e_9 hv10=>?_)
   refine TotP.bind (QoZ x_1 e_9 v2 v3 (((h_l1).2 e_9 hv10)) (h_v2)) (fun x_11 hv12=>?_)
   refine TotP.bif (fun hc13=>?_) (fun hc13=>?_)
   ·exact TotP.ok (Qn trivial)
   ·exact TotP.ok (QC ⟨(by simp_all),by subst hi3;exact Qz (by simp_all) (h_l1).1,trivial⟩)
  ·exact TotP.ok (Qn trivial)
 rcases q6 with q6 | q6
 ·show TotP (QbX q6.1 q6.2) _
  unfold QbX
  exact TotP.okT
 ·show TotP (QbY) _
  unfold QbY
  exact TotP.okT
theorem QlS (n1:TNet)(l2:(List TArc))(vars3:Int)(h_n1:QJ n1)(h_l2:(lenL QhB) l2):TotP (Qf9 n1 l2 vars3) fun r=>True:=by
 unfold Qf9
 refine TotP.bind (QlE l2 n1 vars3 (h_l2) (h_n1)) (fun x_1 hv2=>?_)
 exact TotP.okT
theorem Qo0 (v1:TNet)(v2:Qs)(v3:Int)(h_v1:QJ v1)(h_v2:Qam v2):TotP (Qga v1 v2 v3) fun r=>True:=by
 unfold Qga
 refine TotP.bind (QlS v1 v2.Ins v3 (h_v1) (h_v2.2.2.2.2.2.1)) (fun x_1 hv2=>?_)
 exact TotP.okT
theorem Qmr (v1:TNet)(v2:Qs)(v3:Int)(v4:Int)(h_v1:QJ v1)(h_v2:Qam v2):TotP (Qdn v1 v2 v3 v4) fun r=>True:=by
 unfold Qdn
 refine TotP.bind (Qo0 v1 v2 v3 (h_v1) (h_v2)) (fun x_1 hv2=>?_)
 exact TotP.okT
theorem Qo1 (v1:TNet)(v2:Qs)(v3:Int)(h_v1:QJ v1)(h_v2:Qam v2):TotP (Qgb v1 v2 v3) fun r=>True:=by
 unfold Qgb
 refine TotP.bind (QlS v1 v2.Outs v3 (h_v1) (h_v2.2.2.2.2.2.2.1)) (fun x_1 hv2=>?_)
 exact TotP.okT
theorem Qms (v1:TNet)(v2:Qs)(v3:Int)(v4:Int)(h_v1:QJ v1)(h_v2:Qam v2):TotP (Qdo v1 v2 v3 v4) fun r=>True:=by
 unfold Qdo
 refine TotP.bind (Qo1 v1 v2 v3 (h_v1) (h_v2)) (fun x_1 hv2=>?_)
 exact TotP.okT
theorem QlT (v1:TNet)(v2:Int)(h_v1:QJ v1):TotP (QcU v1 v2) fun r=>True:=by
 unfold QcU
 refine TotP.bind (QbG v1.Places v2 (h_v1.2.1)) (fun x_1 hv2=>?_)
 exact TotP.okT
theorem Qk2 (s1:(List Int))(v2:Int)(h_s1:(lenL (fun _=>True)) s1):TotP (Qb7 s1 v2) fun r=>True:=by
 unfold Qb7
 refine TotP.bind (TotP.up (s1.length) (fun st=>st) (fun _=>True) (Q:=fun q=>True) rfl trivial (fun i2 st hi3 hn4 hj5=>?_)) (fun q6 hq7=>?_)
 ·obtain⟨x_1,hst⟩:∃y,y=st:=⟨_,rfl⟩
  subst hst
  replace hi3:x_1=(i2:Int):=hi3
  show TotP (QaT s1 v2 x_1) _
  unfold QaT
  refine TotP.bif (fun hc8=>?_) (fun hc8=>?_)
  ·refine TotP.bind (TotP.idx (by omega) (by simp_all)) (fun e_9 hv10=>?_)
   refine TotP.bif (fun hc11=>?_) (fun hc11=>?_)
   ·exact TotP.ok (Qn trivial)
   ·exact TotP.ok (QC ⟨(by simp_all),by subst hi3;exact Qz (by simp_all) (h_s1).1,trivial⟩)
  ·exact TotP.ok (Qn trivial)
 rcases q6 with q6 | q6
 ·show TotP (QbC q6) _
  unfold QbC
  exact TotP.okT
 ·show TotP (QbD) _
  unfold QbD
  exact TotP.okT
theorem Qgm (s1:(List Int))(v2:Int)(h_s1:(lenL (fun _=>True)) s1):TotP (Qaz s1 v2) fun r=>True:=by
 unfold Qaz
 refine TotP.bind (Qk2 s1 v2 (h_s1)) (fun x_1 hv2=>?_)
 exact TotP.okT
theorem QlU (v1:(List Int))(v2:Int)(v3:Int)(h_v1:(lenL (fun _=>True)) v1)(hp0:0≤v2)(hp1:v2<v1.length):TotP (QcV v1 v2 v3) fun r=>True:=by
 unfold QcV
 refine TotP.bind (TotP.chk (by simp_all;omega)) (fun _ _=>?_)
 refine TotP.bind (Qgm ((v1.drop 0).take (v2.toNat-0)) v3 (((h_v1).drop _).take _)) (fun x_1 hv2=>?_)
 exact TotP.okT
theorem QnG (v1:TNet)(v2:Int)(v3:Int)(v4:(List Int))(v5:Int)(v6:Int)(h_v1:QJ v1)(h_v4:(lenL (fun _=>True)) v4)(hp0:0≤v5)(hp1:v5<v4.length):TotP (QeJ v1 v2 v3 v4 v5 v6) fun r=>True:=by
 unfold QeJ
 refine TotP.bind (QlT v1 v2 (h_v1)) (fun x_1 hv2=>?_)
 refine TotP.bif (fun hc3=>?_) (fun hc3=>?_)
 ·exact TotP.okT
 ·refine TotP.bind (QlU v4 v5 v2 (h_v4) (by omega) (by omega)) (fun x_4 hv5=>?_)
  refine TotP.bif (fun hc6=>?_) (fun hc6=>?_)
  ·exact TotP.okT
  ·exact TotP.okT
theorem QmU (k1:Int)(place2:Int)(v3:TNet)(v4:(List Int))(h_v3:QJ v3)(h_v4:(lenL (fun _=>True)) v4)(hp0:0≤k1)(hp1:k1<v4.length):TotP (QdW k1 place2 v3 v4) fun r=>True:=by
 unfold QdW
 refine TotP.bind (QnG v3 place2 3 v4 k1 5 (h_v3) (h_v4) (by omega) (by omega)) (fun x_1 hv2=>?_)
 exact TotP.okT
theorem QnH (l1:(List Int))(v2:TNet)(v3:(List Int))(h_l1:(lenL (fun _=>True)) l1)(h_v2:QJ v2)(h_v3:(lenL (fun _=>True)) v3)(hp0:l1.length≤v3.length):TotP (QeK l1 v2 v3) fun r=>True:=by
 unfold QeK
 refine TotP.bind (TotP.up (l1.length) (fun st=>st) (fun _=>True) (Q:=fun q=>True) rfl trivial (fun i2 st hi3 hn4 hj5=>?_)) (fun q6 hq7=>?_)
 ·obtain⟨x_1,hst⟩:∃y,y=st:=⟨_,rfl⟩
  subst hst
  replace hi3:x_1=(i2:Int):=hi3
  show TotP (Qb5 l1 v2 v3 x_1) _
  unfold Qb5
  refine TotP.bif (fun hc8=>?_) (fun hc8=>?_)
  ·refine TotP.bind (TotP.idx (by omega) (by simp_all)) (fun e_9 hv10=>?_)
   refine TotP.bind (QmU x_1 e_9 v2 v3 (h_v2) (h_v3) (by omega) (by simp_all;omega)) (fun x_11 hv12=>?_)
   refine TotP.bif (fun hc13=>?_) (fun hc13=>?_)
   ·exact TotP.ok (Qn trivial)
   ·exact TotP.ok (QC ⟨(by simp_all),by subst hi3;exact Qz (by simp_all) (h_l1).1,trivial⟩)
  ·exact TotP.ok (Qn trivial)
 rcases q6 with q6 | q6
 ·show TotP (QcW q6.1 q6.2) _
  unfold QcW
  exact TotP.okT
 ·show TotP (QcX) _
  unfold QcX
  exact TotP.okT
theorem Qol (n1:TNet)(l2:(List Int))(h_n1:QJ n1)(h_l2:(lenL (fun _=>True)) l2):TotP (Qfn n1 l2) fun r=>True:=by
 unfold Qfn
 refine TotP.bind (QnH l2 n1 l2 (h_l2) (h_n1) (h_l2) (by omega)) (fun x_1 hv2=>?_)
 exact TotP.okT
theorem Qom (v1:TNet)(v2:Qs)(h_v1:QJ v1)(h_v2:Qam v2):TotP (Qfo v1 v2) fun r=>True:=by
 unfold Qfo
 refine TotP.bind (Qol v1 v2.Cancel (h_v1) (h_v2.2.2.2.2.2.2.2.1)) (fun x_1 hv2=>?_)
 exact TotP.okT
theorem Qmt (v1:TNet)(v2:Qs)(v3:Int)(h_v1:QJ v1)(h_v2:Qam v2):TotP (Qdp v1 v2 v3) fun r=>True:=by
 unfold Qdp
 refine TotP.bind (Qom v1 v2 (h_v1) (h_v2)) (fun x_1 hv2=>?_)
 exact TotP.okT
theorem Qkf (k1:Int)(l2:(List TArc))(h_l2:(lenL QhB) l2):TotP (QdB k1 l2) fun r=>True:=by
 unfold QdB
 exact TotP.okT
theorem QpH (t1:Qs)(h_t1:Qam t1):TotP (QgN t1) fun r=>True:=by
 unfold QgN
 refine TotP.bind (P:=fun _=>True) ?_ (fun x_1 hv2=>?_)
 ·unfold QiE
  refine TotP.bind (Qkf t1.Join t1.Ins (h_t1.2.2.2.2.2.1)) (fun x_3 hv4=>?_)
  refine TotP.bif (fun hc5=>?_) (fun hc5=>?_)
  ·refine TotP.bind (Qkf t1.Split t1.Outs (h_t1.2.2.2.2.2.2.1)) (fun x_6 hv7=>?_)
   refine TotP.bif (fun hc8=>?_) (fun hc8=>?_)
   ·refine TotP.bif (fun hc9=>?_) (fun hc9=>?_)
    ·refine TotP.bif (fun hc10=>?_) (fun hc10=>?_)
     ·exact TotP.okT
     ·exact TotP.okT
    ·exact TotP.okT
   ·exact TotP.okT
  ·exact TotP.okT
 unfold QeL
 exact TotP.okT
theorem Qon (v1:Qs)(h_v1:Qam v1):TotP (Qfp v1) fun r=>True:=by
 unfold Qfp
 refine TotP.bind (QpH v1 (h_v1)) (fun x_1 hv2=>?_)
 exact TotP.okT
theorem QnI (v1:Qs)(v2:Int)(v3:TNet)(v4:Int)(v5:Int)(v6:Int)(v7:Int)(v8:Int)(v9:Int)(v10:Int)(v11:Int)(v12:Int)(v13:Int)(v14:Int)(v15:Int)(h_v1:Qam v1)(h_v3:QJ v3)(hp0:0≤v4)(hp1:v4<v3.Tasks.length):TotP (Qc7 v1 v2 v3 v4 v5 v6 v7 v8 v9 v10 v11 v12 v13 v14 v15) fun r=>True:=by
 unfold Qc7
 refine TotP.bind (QoS v1 (h_v1)) (fun x_1 hv2=>?_)
 refine TotP.bif (fun hc3=>?_) (fun hc3=>?_)
 ·exact TotP.okT
 ·refine TotP.bind (QoU v3 v4 v1 (h_v3) (h_v1) (by omega) (by omega)) (fun x_4 hv5=>?_)
  refine TotP.bif (fun hc6=>?_) (fun hc6=>?_)
  ·exact TotP.okT
  ·refine TotP.bind (QoV v6 v1 (h_v1)) (fun x_7 hv8=>?_)
   refine TotP.bif (fun hc9=>?_) (fun hc9=>?_)
   ·exact TotP.okT
   ·refine TotP.bind (Qok v3 v1 v8 (h_v3) (h_v1)) (fun x_10 hv11=>?_)
    refine TotP.bif (fun hc12=>?_) (fun hc12=>?_)
    ·exact TotP.okT
    ·refine TotP.bind (QoX v3 v4 (h_v3)) (fun x_13 hv14=>?_)
     refine TotP.bif (fun hc15=>?_) (fun hc15=>?_)
     ·exact TotP.okT
     ·refine TotP.bind (QoY v1 v6 (h_v1)) (fun x_16 hv17=>?_)
      refine TotP.bif (fun hc18=>?_) (fun hc18=>?_)
      ·exact TotP.okT
      ·refine TotP.bind (Qmr v3 v1 v6 x_10.2 (h_v3) (h_v1)) (fun x_19 hv20=>?_)
       refine TotP.bif (fun hc21=>?_) (fun hc21=>?_)
       ·exact TotP.okT
       ·refine TotP.bind (Qms v3 v1 v6 x_19.2 (h_v3) (h_v1)) (fun x_22 hv23=>?_)
        refine TotP.bif (fun hc24=>?_) (fun hc24=>?_)
        ·exact TotP.okT
        ·refine TotP.bind (Qmt v3 v1 x_22.2 (h_v3) (h_v1)) (fun x_25 hv26=>?_)
         refine TotP.bif (fun hc27=>?_) (fun hc27=>?_)
         ·exact TotP.okT
         ·refine TotP.bind (Qon v1 (h_v1)) (fun x_28 hv29=>?_)
          refine TotP.bif (fun hc30=>?_) (fun hc30=>?_)
          ·exact TotP.okT
          ·exact TotP.okT
theorem QlV (n1:TNet)(k2:Int)(h_n1:QJ n1):TotP (QbN n1 k2) fun r=>True:=by
 unfold QbN
 refine TotP.bind (QhC n1.Tasks k2 (h_n1.2.2.1)) (fun x_1 hv2=>?_)
 refine TotP.bif (fun hc3=>?_) (fun hc3=>?_)
 ·exact TotP.okT
 ·refine TotP.bind (Qke n1 (h_n1)) (fun x_4 hv5=>?_)
  refine TotP.bif (fun hc6=>?_) (fun hc6=>?_)
  ·exact TotP.okT
  ·refine TotP.bind (TotP.idx (by simp_all) (by simp_all)) (fun e_7 hv8=>?_)
   refine TotP.bind (TotP.idx (by simp_all) (by simp_all)) (fun e_9 hv10=>?_)
   refine TotP.bind (QpG 0 n1 e_7 (h_n1) (((h_n1.2.2.1).2 e_7 hv8))) (fun x_11 hv12=>?_)
   refine TotP.bind (Qnz 0 n1 e_7 (e_9.Vars.length:Int) (h_n1) (((h_n1.2.2.1).2 e_7 hv8))) (fun x_13 hv14=>?_)
   refine TotP.bind (QnA 0 n1 e_7 (e_9.Vars.length:Int) (h_n1) (((h_n1.2.2.1).2 e_7 hv8))) (fun x_15 hv16=>?_)
   refine TotP.bind (QnB 0 n1 e_7 (h_n1) (((h_n1.2.2.1).2 e_7 hv8))) (fun x_17 hv18=>?_)
   refine TotP.bind (QnI e_7 1 n1 k2 5 (e_9.Vars.length:Int) 2 0 (-1) 2 1 (-1) (-1) (-1) 11 (((h_n1.2.2.1).2 e_7 hv8)) (h_n1) (by simp_all) (by simp_all)) (fun x_19 hv20=>?_)
   refine TotP.bif (fun hc21=>?_) (fun hc21=>?_)
   ·exact TotP.okT
   ·exact TotP.okT
theorem QpI (k1:Int)(p2:Qs)(v3:TNet)(h_p2:Qam p2)(h_v3:QJ v3):TotP (Qe3 k1 p2 v3) fun r=>True:=by
 unfold Qe3
 refine TotP.bind (QlV v3 k1 (h_v3)) (fun x_1 hv2=>?_)
 exact TotP.okT
theorem Qlc (l1:(List Qs))(v2:TNet)(h_l1:(lenL Qam) l1)(h_v2:QJ v2):TotP (Qa9 l1 v2) fun r=>True:=by
 unfold Qa9
 refine TotP.bind (TotP.up (l1.length) (fun st=>st) (fun _=>True) (Q:=fun q=>True) rfl trivial (fun i2 st hi3 hn4 hj5=>?_)) (fun q6 hq7=>?_)
 ·obtain⟨x_1,hst⟩:∃y,y=st:=⟨_,rfl⟩
  subst hst
  replace hi3:x_1=(i2:Int):=hi3
  show TotP (Qao l1 v2 x_1) _
  unfold Qao
  refine TotP.bif (fun hc8=>?_) (fun hc8=>?_)
  ·refine TotP.bind (TotP.idx (by omega) (by simp_all)) (fun e_9 hv10=>?_)
   refine TotP.bind (QpI x_1 e_9 v2 (((h_l1).2 e_9 hv10)) (h_v2)) (fun x_11 hv12=>?_)
   refine TotP.bif (fun hc13=>?_) (fun hc13=>?_)
   ·exact TotP.ok (Qn trivial)
   ·exact TotP.ok (QC ⟨(by simp_all),by subst hi3;exact Qz (by simp_all) (h_l1).1,trivial⟩)
  ·exact TotP.ok (Qn trivial)
 rcases q6 with q6 | q6
 ·show TotP (QbO q6.1 q6.2) _
  unfold QbO
  exact TotP.okT
 ·show TotP (QbP) _
  unfold QbP
  exact TotP.okT
theorem Qqv (n1:TNet)(h_n1:QJ n1):TotP (QfC n1) fun r=>True:=by
 unfold QfC
 refine TotP.bind (Qpz n1 2 3 1 (h_n1)) (fun x_1 hv2=>?_)
 refine TotP.bif (fun hc3=>?_) (fun hc3=>?_)
 ·exact TotP.okT
 ·refine TotP.bind (Qke n1 (h_n1)) (fun x_4 hv5=>?_)
  refine TotP.bif (fun hc6=>?_) (fun hc6=>?_)
  ·exact TotP.okT
  ·refine TotP.bind (QkZ n1.Places n1 (h_n1.2.1) (h_n1)) (fun x_7 hv8=>?_)
   refine TotP.bif (fun hc9=>?_) (fun hc9=>?_)
   ·exact TotP.okT
   ·refine TotP.bind (Qlc n1.Tasks n1 (h_n1.2.2.1) (h_n1)) (fun x_10 hv11=>?_)
    refine TotP.bif (fun hc12=>?_) (fun hc12=>?_)
    ·exact TotP.okT
    ·exact TotP.okT
theorem Qq3 (a1:Int)(b2:Int)  : TotP (QiX a1 b2) fun r=>True:=by
 unfold QiX
 refine TotP.bif (fun hc1=>?_) (fun hc1=>?_)
 ·exact TotP.okT
 ·exact TotP.okT
theorem QmV (a1:Int)(b2:Int)  : TotP (QdO a1 b2) fun r=>True:=by
 unfold QdO
 refine TotP.bif (fun hc1=>?_) (fun hc1=>?_)
 ·exact TotP.okT
 ·exact TotP.okT
theorem QmB (a1:Int)  : TotP (QgS a1) fun r=>True:=by
 unfold QgS
 refine TotP.bif (fun hc1=>?_) (fun hc1=>?_)
 ·exact TotP.okT
 ·exact TotP.okT
theorem QmW (p1:Int)(y2:Int)  : TotP (QdP p1 y2) fun r=>True:=by
 unfold QdP
 exact TotP.okT
theorem Qo2 (a1:Int)(b2:Int)  : TotP (QfV a1 b2) fun r=>True:=by
 unfold QfV
 refine TotP.bind (QmB a1 ) (fun x_1 hv2=>?_)
 refine TotP.bind (QmB b2 ) (fun x_3 hv4=>?_)
 refine TotP.bind (QmW x_1 x_3 ) (fun x_5 hv6=>?_)
 refine TotP.bif (fun hc7=>?_) (fun hc7=>?_)
 ·unfold QcI
  refine TotP.bif (fun hc8=>?_) (fun hc8=>?_)
  ·exact TotP.okT
  ·exact TotP.okT
 ·unfold QcI
  refine TotP.bif (fun hc9=>?_) (fun hc9=>?_)
  ·exact TotP.okT
  ·exact TotP.okT
theorem Qkg (a1:Int)(b2:Int)  : TotP (Qdv a1 b2) fun r=>True:=by
 unfold Qdv
 refine TotP.bif (fun hc1=>?_) (fun hc1=>?_)
 ·exact TotP.okT
 ·refine TotP.bif (fun hc2=>?_) (fun hc2=>?_)
  ·exact TotP.okT
  ·refine TotP.bind (TotP.chk (by simp_all)) (fun _ _=>?_)
   refine TotP.bind (TotP.chk (by simp_all)) (fun _ _=>?_)
   exact TotP.okT
theorem Qdr (is1:Bool)  : TotP (Qcb is1) fun r=>True:=by
 unfold Qcb
 refine TotP.bif (fun hc1=>?_) (fun hc1=>?_)
 ·exact TotP.okT
 ·exact TotP.okT
theorem Qij (op1:Int)(a2:Int)(b3:Int)  : TotP (Qgk op1 a2 b3) fun r=>True:=by
 unfold Qgk
 refine TotP.bif (fun hc1=>?_) (fun hc1=>?_)
 ·refine TotP.bind (Qq3 a2 b3 ) (fun x_2 hv3=>?_)
  exact TotP.okT
 ·refine TotP.bif (fun hc4=>?_) (fun hc4=>?_)
  ·refine TotP.bind (QmV a2 b3 ) (fun x_5 hv6=>?_)
   exact TotP.okT
  ·refine TotP.bif (fun hc7=>?_) (fun hc7=>?_)
   ·refine TotP.bind (Qo2 a2 b3 ) (fun x_8 hv9=>?_)
    exact TotP.okT
   ·refine TotP.bif (fun hc10=>?_) (fun hc10=>?_)
    ·refine TotP.bind (Qkg a2 b3 ) (fun x_11 hv12=>?_)
     exact TotP.okT
    ·refine TotP.bif (fun hc13=>?_) (fun hc13=>?_)
     ·refine TotP.bind (Qkg a2 b3 ) (fun x_14 hv15=>?_)
      exact TotP.okT
     ·refine TotP.bif (fun hc16=>?_) (fun hc16=>?_)
      ·refine TotP.bind (Qdr (a2==b3) ) (fun x_17 hv18=>?_)
       exact TotP.okT
      ·refine TotP.bif (fun hc19=>?_) (fun hc19=>?_)
       ·refine TotP.bind (Qdr (a2 != b3) ) (fun x_20 hv21=>?_)
        exact TotP.okT
       ·refine TotP.bif (fun hc22=>?_) (fun hc22=>?_)
        ·refine TotP.bind (Qdr (decide (a2<b3)) ) (fun x_23 hv24=>?_)
         exact TotP.okT
        ·refine TotP.bif (fun hc25=>?_) (fun hc25=>?_)
         ·refine TotP.bind (Qdr (decide (a2≤b3)) ) (fun x_26 hv27=>?_)
          exact TotP.okT
         ·refine TotP.bif (fun hc28=>?_) (fun hc28=>?_)
          ·refine TotP.bind (P:=fun _=>True) ?_ (fun v_29 hv30=>?_)
           ·unfold QkD
            refine TotP.bif (fun hc31=>?_) (fun hc31=>?_)
            ·refine TotP.bind (Qdr (b3 != 0) ) (fun x_32 hv33=>?_)
             exact TotP.okT
            ·refine TotP.bind (Qdr false ) (fun x_34 hv35=>?_)
             exact TotP.okT
           unfold Qhr
           exact TotP.okT
          ·refine TotP.bif (fun hc36=>?_) (fun hc36=>?_)
           ·refine TotP.bind (P:=fun _=>True) ?_ (fun v_37 hv38=>?_)
            ·unfold QkE
             refine TotP.bif (fun hc39=>?_) (fun hc39=>?_)
             ·refine TotP.bind (Qdr true ) (fun x_40 hv41=>?_)
              exact TotP.okT
             ·refine TotP.bind (Qdr (b3 != 0) ) (fun x_42 hv43=>?_)
              exact TotP.okT
            unfold Qhs
            exact TotP.okT
           ·exact TotP.okT
theorem QnJ (a1:Int)  : TotP (QiZ a1) fun r=>True:=by
 unfold QiZ
 refine TotP.bind (Qij 2 0 a1 ) (fun x_1 hv2=>?_)
 exact TotP.okT
end Go.Proofs
