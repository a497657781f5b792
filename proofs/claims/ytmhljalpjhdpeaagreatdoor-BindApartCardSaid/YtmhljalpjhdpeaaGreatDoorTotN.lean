/- A part of the proof; what it holds is told at each theorem. -/
import Derived.Test.YtmhljalpjhdpeaaGreatDoorT3
import Derived.Test.YtmhljalpjhdpeaaGreatDoorXPlT
import Derived.KernelRfl
set_option linter.unusedVariables false
set_option linter.unusedSimpArgs false
set_option linter.unusedSectionVars false
set_option linter.deprecated false
noncomputable section
namespace Go.Proofs
open Go Go.RowKit Go.Vm
inductive Qcq : Qf→Prop where
 | mk (e:Qf):e.Kids.length≤maxLen→(∀k∈e.Kids,Qcq k)→Qcq e
theorem Qdt {e:Qf}(h:Qcq e):lenL Qcq e.Kids:=by
 cases h with
 | mk _ h1 h2=>exact⟨h1,h2⟩
theorem Qnz {e k:Qf}(h:k∈e.Kids):SizeOf.sizeOf k<SizeOf.sizeOf e:=by
 obtain⟨a,b,l⟩:=e
 have:=List.sizeOf_lt_of_mem h
 simp only [Qf.mk.sizeOf_spec]at *
 omega
theorem Qf.pos (e:Qf):0<SizeOf.sizeOf e:=by
 obtain⟨a,b,l⟩:=e
 simp only [Qf.mk.sizeOf_spec];omega
inductive POk (v:Int):Qf→Prop where
 | mk (e:Qf):(e.Kind=1∨e.Kind=2∨e.Kind=3∨e.Kind=4∨e.Kind=5∨e.Kind=6)→(e.Kind=2→0≤e.Num∧e.Num<v)→(e.Kind=3∨e.Kind=4→e.Kids.length=1)→(e.Kind=5→e.Kids.length=2)→(e.Kind=6→e.Kids.length=3)→(∀k∈e.Kids,POk v k)→POk v e
def Qbv (x:Qv):Prop:=QeT x.Name∧True∧True∧True∧(lenL QeT) x.Names∧True∧True
def QbZ (x:QB):Prop:=QeT x.Name∧True∧(lenL (fun _=>True)) x.First
def Qc2 (x:TVar):Prop:=QeT x.Name∧True
def QhF (x:TArc):Prop:=True∧Qcq x.Expr
def Qap (x:Qr):Prop:=QeT x.Name∧(lenL Qc2) x.Vars∧Qcq x.Guard∧True∧True∧(lenL QhF) x.Ins∧(lenL QhF) x.Outs∧(lenL (fun _=>True)) x.Cancel∧True∧True
def QH (x:TNet):Prop:=(lenL Qbv) x.Colours∧(lenL QbZ) x.Places∧(lenL Qap) x.Tasks∧True∧True
def Qqz (x:Qac):Prop:=(lenL Qbv) x.all∧(lenL (fun _=>True)) x.sizes∧True
theorem QpA (v1:TNet)(h_v1:QH v1):TotP (QgM v1) fun r=>True:=by
 unfold QgM
 exact TotP.okT
theorem QbF (l1:(List QB))(k2:Int)(h_l1:(lenL QbZ) l1):TotP (Qae l1 k2) fun r=>r=true→0≤k2∧k2<l1.length:=by
 unfold Qae
 exact TotP.ok (by first | (intro hr;first | (cases hr;done) | omega | ((try simp only [Bool.and_eq_true,Bool.or_eq_true,Bool.or_eq_false_iff,Bool.not_eq_true',Bool.not_eq_false',decide_eq_true_eq,decide_eq_false_iff_not,beq_iff_eq,bne_iff_ne,ne_eq,Bool.not_eq_true,Bool.not_eq_false,List.length_append,List.length_singleton,List.length_nil,List.length_drop,List.length_take,List.length_cons,QiN,QiO,QhV]at *);omega)) | ((try simp only [Bool.and_eq_true,Bool.or_eq_true,Bool.or_eq_false_iff,Bool.not_eq_true',Bool.not_eq_false',decide_eq_true_eq,decide_eq_false_iff_not,beq_iff_eq,bne_iff_ne,ne_eq,Bool.not_eq_true,Bool.not_eq_false,List.length_append,List.length_singleton,List.length_nil,List.length_drop,List.length_take,List.length_cons,QiN,QiO,QhV]at *);omega) | simp_all)
theorem QpB (v1:TNet)(h_v1:QH v1):TotP (QgN v1) fun r=>True:=by
 unfold QgN
 refine TotP.bind (P:=fun _=>True) ?_ (fun x_1 hv2=>?_)
 ·unfold QiG
  refine TotP.bind (QbF v1.Places v1.From (h_v1.2.1)) (fun x_3 hv4=>?_)
  refine TotP.bif (fun hc5=>?_) (fun hc5=>?_)
  ·refine TotP.bind (QbF v1.Places v1.To (h_v1.2.1)) (fun x_6 hv7=>?_)
   exact TotP.okT
  ·exact TotP.okT
 unfold Qez
 exact TotP.okT
theorem QpC (v1:TNet)(h_v1:QH v1):TotP (QgO v1) fun r=>True:=by
 unfold QgO
 exact TotP.okT
theorem QpD (v1:TNet)(v2:Int)(v3:Int)(v4:Int)(h_v1:QH v1):TotP (QgP v1 v2 v3 v4) fun r=>True:=by
 unfold QgP
 refine TotP.bind (QpA v1 (h_v1)) (fun x_1 hv2=>?_)
 refine TotP.bif (fun hc3=>?_) (fun hc3=>?_)
 ·exact TotP.okT
 ·refine TotP.bind (QpB v1 (h_v1)) (fun x_4 hv5=>?_)
  refine TotP.bif (fun hc6=>?_) (fun hc6=>?_)
  ·exact TotP.okT
  ·refine TotP.bind (QpC v1 (h_v1)) (fun x_7 hv8=>?_)
   refine TotP.bif (fun hc9=>?_) (fun hc9=>?_)
   ·exact TotP.okT
   ·exact TotP.okT
theorem QpE (lo1:Int)(hi2:Int)  : TotP (QgJ lo1 hi2) fun r=>True:=by
 unfold QgJ
 refine TotP.bif (fun hc1=>?_) (fun hc1=>?_)
 ·exact TotP.okT
 ·exact TotP.okT
theorem Qkg (c1:Int)  : TotP (Qdw c1) fun r=>True:=by
 unfold Qdw
 exact TotP.okT
theorem Qjq (s1:ByteArray)(h_s1:QeT s1):TotP (QdI s1) fun r=>True:=by
 unfold QdI
 refine TotP.bind (P:=fun _=>True) ?_ (fun x_1 hv2=>?_)
 ·unfold Qiw
  refine TotP.bif (fun hc3=>?_) (fun hc3=>?_)
  ·exact TotP.okT
  ·have hshc3:=QsV hc3
   refine TotP.bif (fun hc4=>?_) (fun hc4=>?_)
   ·exact TotP.okT
   ·refine TotP.bind (TotP.sidx (by omega) (by omega)) (fun c_5 hv6=>?_)
    refine TotP.bind (Qkg c_5 ) (fun x_7 hv8=>?_)
    exact TotP.okT
 unfold Qeq
 refine TotP.bif (fun hc9=>?_) (fun hc9=>?_)
 ·exact TotP.okT
 ·refine TotP.bind (TotP.up (s1.size) (fun st=>st) (fun _=>True) (Q:=fun q=>True) rfl trivial (fun i11 st hi12 hn13 hj14=>?_)) (fun q15 hq16=>?_)
  ·obtain⟨x_10,hst⟩:∃y,y=st:=⟨_,rfl⟩
   subst hst
   replace hi12:x_10=(i11:Int):=hi12
   show TotP (Qc4 s1 x_10) _
   unfold Qc4
   refine TotP.bif (fun hc17=>?_) (fun hc17=>?_)
   ·refine TotP.bind (TotP.sidx (by omega) (by simp_all)) (fun c_18 hv19=>?_)
    refine TotP.bind (P:=fun _=>True) ?_ (fun x_20 hv21=>?_)
    ·unfold Qix
     refine TotP.bind (Qkg c_18 ) (fun x_22 hv23=>?_)
     refine TotP.bif (fun hc24=>?_) (fun hc24=>?_)
     ·refine TotP.bif (fun hc25=>?_) (fun hc25=>?_)
      ·exact TotP.okT
      ·refine TotP.bif (fun hc26=>?_) (fun hc26=>?_)
       ·exact TotP.okT
       ·exact TotP.okT
     ·exact TotP.okT
    unfold Qen
    refine TotP.bif (fun hc27=>?_) (fun hc27=>?_)
    ·exact TotP.ok (Qn trivial)
    ·exact TotP.ok (QC ⟨(by simp_all),by subst hi12;exact Qy (by simp_all) h_s1,trivial⟩)
   ·exact TotP.ok (Qn trivial)
  rcases q15 with q15 | q15
  ·show TotP (Qeo) _
   unfold Qeo
   exact TotP.okT
  ·show TotP (Qep) _
   unfold Qep
   exact TotP.okT
theorem QoS (l1:(List ByteArray))(h_l1:(lenL QeT) l1):TotP (QfV l1) fun r=>True:=by
 unfold QfV
 refine TotP.bind (TotP.up (l1.length) (fun st=>st.1) (fun _=>True) (Q:=fun q=>True) rfl trivial (fun i3 st hi4 hn5 hj6=>?_)) (fun q7 hq8=>?_)
 ·obtain⟨x_1,m_2⟩:=st
  replace hi4:x_1=(i3:Int):=hi4
  show TotP (QcK l1 x_1 m_2) _
  unfold QcK
  refine TotP.bif (fun hc9=>?_) (fun hc9=>?_)
  ·refine TotP.bind (TotP.idx (by omega) (by simp_all)) (fun e_10 hv11=>?_)
   refine TotP.bind (P:=fun _=>True) ?_ (fun x_12 hv13=>?_)
   ·unfold QhZ
    refine TotP.bind (Qjq e_10 (((h_l1).2 e_10 hv11))) (fun x_14 hv15=>?_)
    refine TotP.bif (fun hc16=>?_) (fun hc16=>?_)
    ·exact TotP.okT
    ·exact TotP.okT
   unfold QdM
   refine TotP.bif (fun hc17=>?_) (fun hc17=>?_)
   ·exact TotP.ok (Qn trivial)
   ·exact TotP.ok (QC ⟨(by simp_all),by subst hi4;exact Qy (by simp_all) (h_l1).1,trivial⟩)
  ·exact TotP.ok (Qn trivial)
 rcases q7 with q7 | q7
 ·show TotP (QdN) _
  unfold QdN
  exact TotP.okT
 ·show TotP (QdO) _
  unfold QdO
  exact TotP.okT
theorem QpF (c1:Qv)(ahead2:(List Int))(h_c1:Qbv c1)(h_ahead2:(lenL (fun _=>True)) ahead2):TotP (QgK c1 ahead2) fun r=>True:=by
 unfold QgK
 refine TotP.bif (fun hc1=>?_) (fun hc1=>?_)
 ·refine TotP.bind (QpE c1.Lo c1.Hi ) (fun x_2 hv3=>?_)
  exact TotP.okT
 ·refine TotP.bif (fun hc4=>?_) (fun hc4=>?_)
  ·refine TotP.bind (QoS c1.Names (h_c1.2.2.2.2.1)) (fun x_5 hv6=>?_)
   refine TotP.bif (fun hc7=>?_) (fun hc7=>?_)
   ·exact TotP.okT
   ·unfold QbH
    exact TotP.okT
  ·refine TotP.bif (fun hc8=>?_) (fun hc8=>?_)
   ·refine TotP.bif (fun hc9=>?_) (fun hc9=>?_)
    ·refine TotP.bind (TotP.idx (by(try simp only [Bool.and_eq_true,Bool.or_eq_true,Bool.or_eq_false_iff,Bool.not_eq_true',Bool.not_eq_false',decide_eq_true_eq,decide_eq_false_iff_not,beq_iff_eq,bne_iff_ne,ne_eq,Bool.not_eq_true,Bool.not_eq_false,List.length_append,List.length_singleton,List.length_nil,List.length_drop,List.length_take,List.length_cons,QiN,QiO,QhV]at *);omega) (by(try simp only [Bool.and_eq_true,Bool.or_eq_true,Bool.or_eq_false_iff,Bool.not_eq_true',Bool.not_eq_false',decide_eq_true_eq,decide_eq_false_iff_not,beq_iff_eq,bne_iff_ne,ne_eq,Bool.not_eq_true,Bool.not_eq_false,List.length_append,List.length_singleton,List.length_nil,List.length_drop,List.length_take,List.length_cons,QiN,QiO,QhV]at *);omega)) (fun e_10 hv11=>?_)
     refine TotP.bind (TotP.idx (by(try simp only [Bool.and_eq_true,Bool.or_eq_true,Bool.or_eq_false_iff,Bool.not_eq_true',Bool.not_eq_false',decide_eq_true_eq,decide_eq_false_iff_not,beq_iff_eq,bne_iff_ne,ne_eq,Bool.not_eq_true,Bool.not_eq_false,List.length_append,List.length_singleton,List.length_nil,List.length_drop,List.length_take,List.length_cons,QiN,QiO,QhV]at *);omega) (by(try simp only [Bool.and_eq_true,Bool.or_eq_true,Bool.or_eq_false_iff,Bool.not_eq_true',Bool.not_eq_false',decide_eq_true_eq,decide_eq_false_iff_not,beq_iff_eq,bne_iff_ne,ne_eq,Bool.not_eq_true,Bool.not_eq_false,List.length_append,List.length_singleton,List.length_nil,List.length_drop,List.length_take,List.length_cons,QiN,QiO,QhV]at *);omega)) (fun e_12 hv13=>?_)
     exact TotP.okT
    ·unfold QbH
     exact TotP.okT
   ·unfold QbH
    exact TotP.okT
theorem Qk1 (l1:(List Qv))(h_l1:(lenL Qbv) l1):TotP (Qd8 l1) fun r=>((lenL (fun _=>True)) r.1∧True)∧(r.2=true→r.1.length=l1.length∧∀x∈r.1,1≤x∧x≤1024):=by
 unfold Qd8
 refine TotP.bif (fun hc=>TotP.ok ⟨⟨lenL.nil,trivial⟩,fun h=>by cases h⟩) (fun hc=>?_)
 have hl:l1.length≤32:=by simp only [decide_eq_false_iff_not]at hc;omega
 refine TotP.bind (TotP.up l1.length (fun st=>st.1) (fun st=>(st.2.2.length:Int)=st.1∧∀x∈st.2.2,1≤x∧x≤1024) (Q:=fun q=>∀l,q=.inr l→l.length=l1.length∧∀x∈l,1≤x∧x≤1024) rfl ⟨rfl,fun x h=>(by cases h)⟩ (fun i st hi hn hj=>?_)) (fun q hq=>?_)
 ·obtain⟨x,m,l⟩:=st
  replace hi:x=(i:Int):=hi
  replace hj:(l.length:Int)=x∧∀x∈l,1≤x∧x≤1024:=hj
  obtain⟨hj,hj2⟩:=hj
  show TotP (QcL l1 x m l) _
  unfold QcL
  refine TotP.bif (fun hc2=>?_) (fun hc2=>?_)
  ·simp only [decide_eq_true_eq]at hc2
   refine TotP.bind (TotP.idx (by omega) (by omega)) fun e he=>?_
   refine TotP.bind (QpF e l (h_l1.2 e he) ⟨by unfold maxLen;omega,fun _ _=>trivial⟩) fun y _=>?_
   refine TotP.bind (P:=fun z=>z=false→1≤y∧y≤1024) ?_ fun z hz=>?_
   ·unfold Qh0
    refine TotP.bind (Qjq e.Name (h_l1.2 e he).1) fun z _=>?_
    refine TotP.bif (fun _=>TotP.ok (fun h=>by cases h)) fun _=>TotP.bif (fun _=>TotP.ok (fun h=>by cases h)) fun _=>TotP.bif (fun _=>TotP.ok (fun h=>by cases h)) fun h1=>TotP.ok fun h2=>?_
    simp only [decide_eq_false_iff_not]at h1 h2
    omega
   unfold QdP
   refine TotP.bif (fun _=>TotP.ok (Qn fun l h=>by cases h)) fun hz0=>?_
   refine TotP.bind (TotP.chk (by simp;omega)) fun _ _=>?_
   exact TotP.ok (QC ⟨by omega,by subst hi;exact Qy (by omega) (by unfold maxLen;omega:l1.length≤maxLen),by simp only [List.length_append,List.length_singleton];subst hi;rw [Qy (show i<l1.length by omega) (by unfold maxLen;omega)];omega,fun u hu=>by
    rcases List.mem_append.1 hu with hu | hu
    ·exact hj2 u hu
    ·simp at hu;subst hu;exact hz hz0⟩)
  ·simp only [decide_eq_false_iff_not]at hc2
   exact TotP.ok (Qn fun l' h=>by cases h;exact⟨by omega,hj2⟩)
 ·rcases q with q | q
  ·exact TotP.ok ⟨⟨lenL.nil,trivial⟩,fun h=>by cases h⟩
  ·have:=hq q rfl
   exact TotP.ok ⟨⟨⟨by show q.length≤maxLen;unfold maxLen;omega,fun _ _=>trivial⟩,trivial⟩,fun _=>this⟩
theorem QoT (l1:(List Qv))(h_l1:(lenL Qbv) l1):TotP (Qf2 l1) fun r=>True:=by
 unfold Qf2
 refine TotP.bind (Qk1 l1 (h_l1)) (fun x_1 hv2=>?_)
 exact TotP.okT
theorem QlS (v1:TNet)(v2:Int)(h_v1:QH v1)(hp0:0≤v2)(hp1:v2<v1.Colours.length):TotP (QcV v1 v2) fun r=>True:=by
 have hl:=h_v1.1.1
 unfold maxLen at hl
 unfold QcV
 rw [Qge (show -9223372036854775808≤v2+1∧v2+1≤9223372036854775807 by omega)]
 refine TotP.bind (TotP.chk (by simp only [Bool.and_eq_true,decide_eq_true_eq];omega)) fun _ _=>?_
 exact TotP.bind (QoT _ ((h_v1.1.drop _).take _)) fun x _=>TotP.okT
def QpG : List ByteArray:=(Qe3).getD []
set_option maxRecDepth 100000 in
theorem Qtz : Qe3=some QpG:=by kernel_rfl
set_option maxRecDepth 100000 in
theorem Qrz : (decide (QpG.length≤1000)&&QpG.all fun s=>decide (s.size≤1000))=true:=by kernel_rfl
theorem QpH : TotP (Qe3) fun r=>lenL QeT r:=by
 have h:=Qrz
 rw [Bool.and_eq_true,decide_eq_true_iff,List.all_eq_true]at h
 refine⟨QpG,Qtz,by unfold maxLen;omega,fun x hx=>?_⟩
 have:=h.2 x hx
 rw [decide_eq_true_iff]at this
 unfold QeT maxLen;omega
theorem Qjr (s1:(List ByteArray))(v2:ByteArray)(h_s1:(lenL QeT) s1)(h_v2:QeT v2):TotP (Qa9 s1 v2) fun r=>True:=by
 unfold Qa9
 refine TotP.bind (TotP.up (s1.length) (fun st=>st) (fun _=>True) (Q:=fun q=>True) rfl trivial (fun i2 st hi3 hn4 hj5=>?_)) (fun q6 hq7=>?_)
 ·obtain⟨x_1,hst⟩:∃y,y=st:=⟨_,rfl⟩
  subst hst
  replace hi3:x_1=(i2:Int):=hi3
  show TotP (Qao s1 v2 x_1) _
  unfold Qao
  refine TotP.bif (fun hc8=>?_) (fun hc8=>?_)
  ·refine TotP.bind (TotP.idx (by omega) (by simp_all)) (fun e_9 hv10=>?_)
   refine TotP.bif (fun hc11=>?_) (fun hc11=>?_)
   ·exact TotP.ok (Qn trivial)
   ·exact TotP.ok (QC ⟨(by simp_all),by subst hi3;exact Qy (by simp_all) (h_s1).1,trivial⟩)
  ·exact TotP.ok (Qn trivial)
 rcases q6 with q6 | q6
 ·show TotP (QaK q6) _
  unfold QaK
  exact TotP.okT
 ·show TotP (QaL) _
  unfold QaL
  exact TotP.okT
theorem Qil (s1:(List ByteArray))(v2:ByteArray)(h_s1:(lenL QeT) s1)(h_v2:QeT v2):TotP (QaM s1 v2) fun r=>True:=by
 unfold QaM
 refine TotP.bind (Qjr s1 v2 (h_s1) (h_v2)) (fun x_1 hv2=>?_)
 exact TotP.okT
theorem Qp6 (s1:ByteArray)(h_s1:QeT s1):TotP (QhB s1) fun r=>True:=by
 unfold QhB
 refine TotP.bind (QpH  ) (fun x_1 hv2=>?_)
 refine TotP.bind (Qil x_1 s1 (hv2) (h_s1)) (fun x_3 hv4=>?_)
 exact TotP.okT
theorem Qgf (s1:ByteArray)(h_s1:QeT s1):TotP (QcD s1) fun r=>True:=by
 unfold QcD
 refine TotP.bind (P:=fun _=>True) ?_ (fun x_1 hv2=>?_)
 ·unfold Qjk
  refine TotP.bind (Qjq s1 (h_s1)) (fun x_3 hv4=>?_)
  refine TotP.bif (fun hc5=>?_) (fun hc5=>?_)
  ·refine TotP.bind (Qp6 s1 (h_s1)) (fun x_6 hv7=>?_)
   exact TotP.okT
  ·exact TotP.okT
 unfold Qff
 exact TotP.okT
theorem Qk9 (s1:ByteArray)(h_s1:QeT s1):TotP (Qcj s1) fun r=>True:=by
 unfold Qcj
 refine TotP.bind (Qgf s1 (h_s1)) (fun x_1 hv2=>?_)
 exact TotP.okT
theorem Qh6 (s1:(List ByteArray))(h_s1:(lenL QeT) s1):TotP (QaF s1) fun r=>True:=by
 unfold QaF
 refine TotP.bind (TotP.up (s1.length) (fun st=>st) (fun _=>True) (Q:=fun q=>True) rfl trivial (fun i2 st hi3 hn4 hj5=>?_)) (fun q6 hq7=>?_)
 ·obtain⟨x_1,hst⟩:∃y,y=st:=⟨_,rfl⟩
  subst hst
  replace hi3:x_1=(i2:Int):=hi3
  show TotP (Q2 s1 x_1) _
  unfold Q2
  refine TotP.bif (fun hc8=>?_) (fun hc8=>?_)
  ·refine TotP.bind (TotP.idx (by omega) (by simp_all)) (fun e_9 hv10=>?_)
   refine TotP.bind (Qk9 e_9 (((h_s1).2 e_9 hv10))) (fun x_11 hv12=>?_)
   refine TotP.bif (fun hc13=>?_) (fun hc13=>?_)
   ·exact TotP.ok (Qn trivial)
   ·exact TotP.ok (QC ⟨(by simp_all),by subst hi3;exact Qy (by simp_all) (h_s1).1,trivial⟩)
  ·exact TotP.ok (Qn trivial)
 rcases q6 with q6 | q6
 ·show TotP (Qat q6) _
  unfold Qat
  exact TotP.okT
 ·show TotP (Qau) _
  unfold Qau
  exact TotP.okT
theorem Qhm (s1:(List ByteArray))(h_s1:(lenL QeT) s1):TotP (Qav s1) fun r=>True:=by
 unfold Qav
 refine TotP.bind (Qh6 s1 (h_s1)) (fun x_1 hv2=>?_)
 exact TotP.okT
theorem QlT (v1:Qv)(h_v1:Qbv v1):TotP (QcW v1) fun r=>True:=by
 unfold QcW
 refine TotP.bind (P:=fun _=>True) ?_ (fun x_1 hv2=>?_)
 ·unfold QfB
  refine TotP.bind (Qgf v1.Name (h_v1.1)) (fun x_3 hv4=>?_)
  refine TotP.bif (fun hc5=>?_) (fun hc5=>?_)
  ·refine TotP.bif (fun hc6=>?_) (fun hc6=>?_)
   ·exact TotP.okT
   ·refine TotP.bind (Qhm v1.Names (h_v1.2.2.2.2.1)) (fun x_7 hv8=>?_)
    exact TotP.okT
  ·exact TotP.okT
 unfold Qb7
 exact TotP.okT
theorem QnA (v1:TNet)(v2:Int)(v3:Int)(v4:Qv)(v5:Int)(h_v1:QH v1)(h_v4:Qbv v4)(hp0:0≤v2)(hp1:v2<v1.Colours.length):TotP (QeA v1 v2 v3 v4 v5) fun r=>True:=by
 unfold QeA
 refine TotP.bind (QlS v1 v2 (h_v1) (by omega) (by omega)) (fun x_1 hv2=>?_)
 refine TotP.bif (fun hc3=>?_) (fun hc3=>?_)
 ·exact TotP.okT
 ·refine TotP.bind (QlT v4 (h_v4)) (fun x_4 hv5=>?_)
  refine TotP.bif (fun hc6=>?_) (fun hc6=>?_)
  ·exact TotP.okT
  ·exact TotP.okT
theorem QmV (k1:Int)(c2:Qv)(v3:TNet)(h_c2:Qbv c2)(h_v3:QH v3)(hp0:0≤k1)(hp1:k1<v3.Colours.length):TotP (QdU k1 c2 v3) fun r=>True:=by
 unfold QdU
 refine TotP.bind (QnA v3 k1 8 c2 8 (h_v3) (h_c2) (by omega) (by omega)) (fun x_1 hv2=>?_)
 exact TotP.okT
theorem Qkq (l1:(List Qv))(v2:TNet)(h_l1:(lenL Qbv) l1)(h_v2:QH v2)(hp0:l1.length≤v2.Colours.length):TotP (QbS l1 v2) fun r=>True:=by
 unfold QbS
 refine TotP.bind (TotP.up (l1.length) (fun st=>st) (fun _=>True) (Q:=fun q=>True) rfl trivial (fun i2 st hi3 hn4 hj5=>?_)) (fun q6 hq7=>?_)
 ·obtain⟨x_1,hst⟩:∃y,y=st:=⟨_,rfl⟩
  subst hst
  replace hi3:x_1=(i2:Int):=hi3
  show TotP (QaN l1 v2 x_1) _
  unfold QaN
  refine TotP.bif (fun hc8=>?_) (fun hc8=>?_)
  ·refine TotP.bind (TotP.idx (by omega) (by simp_all)) (fun e_9 hv10=>?_)
   refine TotP.bind (QmV x_1 e_9 v2 (((h_l1).2 e_9 hv10)) (h_v2) (by omega) (by simp_all;omega)) (fun x_11 hv12=>?_)
   refine TotP.bif (fun hc13=>?_) (fun hc13=>?_)
   ·exact TotP.ok (Qn trivial)
   ·exact TotP.ok (QC ⟨(by simp_all),by subst hi3;exact Qy (by simp_all) (h_l1).1,trivial⟩)
  ·exact TotP.ok (Qn trivial)
 rcases q6 with q6 | q6
 ·show TotP (Qbp q6.1 q6.2) _
  unfold Qbp
  exact TotP.okT
 ·show TotP (Qbq) _
  unfold Qbq
  exact TotP.okT
theorem Qkh (n1:TNet)(h_n1:QH n1):TotP (QdD n1) fun r=>True:=by
 unfold QdD
 refine TotP.bind (Qkq n1.Colours n1 (h_n1.1) (h_n1) (by omega)) (fun x_1 hv2=>?_)
 exact TotP.okT
theorem Qog (v1:QB)(h_v1:QbZ v1):TotP (Qfh v1) fun r=>True:=by
 unfold Qfh
 refine TotP.bind (Qgf v1.Name (h_v1.1)) (fun x_1 hv2=>?_)
 exact TotP.okT
theorem Qoh (p1:QB)(v2:QB)(h_p1:QbZ p1)(h_v2:QbZ v2):TotP (Qfi p1 v2) fun r=>True:=by
 unfold Qfi
 exact TotP.okT
theorem QgF (s1:(List QB))(v2:QB)(h_s1:(lenL QbZ) s1)(h_v2:QbZ v2):TotP (Qaf s1 v2) fun r=>True:=by
 unfold Qaf
 refine TotP.bind (TotP.up (s1.length) (fun st=>st) (fun _=>True) (Q:=fun q=>True) rfl trivial (fun i2 st hi3 hn4 hj5=>?_)) (fun q6 hq7=>?_)
 ·obtain⟨x_1,hst⟩:∃y,y=st:=⟨_,rfl⟩
  subst hst
  replace hi3:x_1=(i2:Int):=hi3
  show TotP (QR s1 v2 x_1) _
  unfold QR
  refine TotP.bif (fun hc8=>?_) (fun hc8=>?_)
  ·refine TotP.bind (TotP.idx (by omega) (by simp_all)) (fun e_9 hv10=>?_)
   refine TotP.bind (Qoh e_9 v2 (((h_s1).2 e_9 hv10)) (h_v2)) (fun x_11 hv12=>?_)
   refine TotP.bif (fun hc13=>?_) (fun hc13=>?_)
   ·exact TotP.ok (Qn trivial)
   ·exact TotP.ok (QC ⟨(by simp_all),by subst hi3;exact Qy (by simp_all) (h_s1).1,trivial⟩)
  ·exact TotP.ok (Qn trivial)
 rcases q6 with q6 | q6
 ·show TotP (QZ q6) _
  unfold QZ
  exact TotP.okT
 ·show TotP (Q0) _
  unfold Q0
  exact TotP.okT
theorem QfF (s1:(List QB))(v2:QB)(h_s1:(lenL QbZ) s1)(h_v2:QbZ v2):TotP (Q1 s1 v2) fun r=>True:=by
 unfold Q1
 refine TotP.bind (QgF s1 v2 (h_s1) (h_v2)) (fun x_1 hv2=>?_)
 exact TotP.okT
theorem Qoi (v1:TNet)(v2:Int)(v3:QB)(h_v1:QH v1)(h_v3:QbZ v3)(hp0:0≤v2)(hp1:v2<v1.Places.length):TotP (Qfj v1 v2 v3) fun r=>True:=by
 unfold Qfj
 refine TotP.bind (TotP.chk (by simp_all;omega)) (fun _ _=>?_)
 refine TotP.bind (QfF ((v1.Places.drop 0).take (v2.toNat-0)) v3 (((h_v1.2.1).drop _).take _) (h_v3)) (fun x_1 hv2=>?_)
 exact TotP.okT
theorem QgV (l1:(List Qv))(k2:Int)(h_l1:(lenL Qbv) l1):TotP (Qba l1 k2) fun r=>True:=by
 unfold Qba
 exact TotP.okT
theorem Qoj (v1:TNet)(v2:QB)(h_v1:QH v1)(h_v2:QbZ v2):TotP (Qfk v1 v2) fun r=>True:=by
 unfold Qfk
 refine TotP.bind (QgV v1.Colours v2.Colour (h_v1.1)) (fun x_1 hv2=>?_)
 exact TotP.okT
theorem QqA (b1:(List (Int×Int)))(h_b1:(lenL (fun _=>True)) b1):TotP (Qde b1) fun r=>True:=by
 unfold Qde
 refine TotP.bind (TotP.up (b1.length) (fun st=>st.2) (fun _=>True) (Q:=fun q=>True) rfl trivial (fun i3 st hi4 hn5 hj6=>?_)) (fun q7 hq8=>?_)
 ·obtain⟨last_1,x_2⟩:=st
  replace hi4:x_2=(i3:Int):=hi4
  show TotP (Qa4 b1 last_1 x_2) _
  unfold Qa4
  refine TotP.bif (fun hc9=>?_) (fun hc9=>?_)
  ·refine TotP.bind (TotP.idx (by omega) (by simp_all)) (fun e_10 hv11=>?_)
   refine TotP.bif (fun hc12=>?_) (fun hc12=>?_)
   ·exact TotP.ok (Qn trivial)
   ·exact TotP.ok (QC ⟨(by simp_all),by subst hi4;exact Qy (by simp_all) (h_b1).1,trivial⟩)
  ·exact TotP.ok (Qn trivial)
 rcases q7 with q7 | q7
 ·show TotP (QfY) _
  unfold QfY
  exact TotP.okT
 ·show TotP (QfZ) _
  unfold QfZ
  exact TotP.okT
theorem Qok (v1:QB)(h_v1:QbZ v1):TotP (Qfl v1) fun r=>True:=by
 unfold Qfl
 refine TotP.bind (QqA v1.First (h_v1.2.2)) (fun x_1 hv2=>?_)
 exact TotP.okT
theorem QgW (l1:(List Qv))(k2:Int)(h_l1:(lenL Qbv) l1):TotP (Qdd l1 k2) fun r=>(True∧Qqz r.2)∧(r.1=true→(0≤k2∧k2<r.2.sizes.length)∧r.2.k=k2∧r.2.all.length=r.2.sizes.length∧∀x∈r.2.sizes,1≤x∧x≤1024):=by
 unfold Qdd
 refine TotP.bind (Qk1 l1 h_l1) fun x hx=>?_
 refine TotP.bif (fun _=>TotP.ok ⟨⟨trivial,lenL.nil,lenL.nil,trivial⟩,fun h=>by cases h⟩) fun hc=>?_
 simp only [Bool.or_eq_false_iff,Bool.not_eq_false',decide_eq_false_iff_not]at hc
 have:=hx.2 hc.1
 exact TotP.ok ⟨⟨trivial,h_l1,hx.1.1,trivial⟩,fun _=>⟨⟨by omega,by show k2<(x.1.length:Int);omega⟩,rfl,this.1.symm,this.2⟩⟩
theorem Qhk (l1:(List Qv))(k2:Int)(h_l1:(lenL Qbv) l1):TotP (Qaz l1 k2) fun r=>0≤r∧r≤1024:=by
 unfold Qaz
 refine TotP.bind (QgW l1 k2 h_l1) (fun x hx=>?_)
 refine TotP.bif (fun hc=>TotP.ok (by omega)) (fun hc=>?_)
 have h:=hx.2 (by simpa using hc)
 exact TotP.bind (TotP.idx (by omega) (by omega)) fun e he=>TotP.ok (by have:=h.2.2.2 e he;omega)
theorem QmW (row1:(Int×Int))(v2:Int)  : TotP (QdV row1 v2) fun r=>True:=by
 unfold QdV
 exact TotP.okT
theorem Qh7 (s1:(List (Int×Int)))(v2:Int)(h_s1:(lenL (fun _=>True)) s1):TotP (QaG s1 v2) fun r=>True:=by
 unfold QaG
 refine TotP.bind (TotP.up (s1.length) (fun st=>st) (fun _=>True) (Q:=fun q=>True) rfl trivial (fun i2 st hi3 hn4 hj5=>?_)) (fun q6 hq7=>?_)
 ·obtain⟨x_1,hst⟩:∃y,y=st:=⟨_,rfl⟩
  subst hst
  replace hi3:x_1=(i2:Int):=hi3
  show TotP (Q3 s1 v2 x_1) _
  unfold Q3
  refine TotP.bif (fun hc8=>?_) (fun hc8=>?_)
  ·refine TotP.bind (TotP.idx (by omega) (by simp_all)) (fun e_9 hv10=>?_)
   refine TotP.bind (QmW e_9 v2 ) (fun x_11 hv12=>?_)
   refine TotP.bif (fun hc13=>?_) (fun hc13=>?_)
   ·exact TotP.ok (Qn trivial)
   ·exact TotP.ok (QC ⟨(by simp_all),by subst hi3;exact Qy (by simp_all) (h_s1).1,trivial⟩)
  ·exact TotP.ok (Qn trivial)
 rcases q6 with q6 | q6
 ·show TotP (Qaw q6) _
  unfold Qaw
  exact TotP.okT
 ·show TotP (Qax) _
  unfold Qax
  exact TotP.okT
theorem Qhn (s1:(List (Int×Int)))(v2:Int)(h_s1:(lenL (fun _=>True)) s1):TotP (Qay s1 v2) fun r=>True:=by
 unfold Qay
 refine TotP.bind (Qh7 s1 v2 (h_s1)) (fun x_1 hv2=>?_)
 exact TotP.okT
theorem Qol (v1:TNet)(v2:QB)(h_v1:QH v1)(h_v2:QbZ v2):TotP (Qfm v1 v2) fun r=>True:=by
 unfold Qfm
 refine TotP.bind (Qhk v1.Colours v2.Colour (h_v1.1)) (fun x_1 hv2=>?_)
 refine TotP.bind (Qhn v2.First x_1 (h_v2.2.2)) (fun x_3 hv4=>?_)
 exact TotP.okT
theorem QnB (v1:QB)(v2:Int)(v3:TNet)(v4:Int)(v5:Int)(v6:Int)(v7:Int)(v8:Int)(h_v1:QbZ v1)(h_v3:QH v3)(hp0:0≤v4)(hp1:v4<v3.Places.length):TotP (QeB v1 v2 v3 v4 v5 v6 v7 v8) fun r=>True:=by
 unfold QeB
 refine TotP.bind (Qog v1 (h_v1)) (fun x_1 hv2=>?_)
 refine TotP.bif (fun hc3=>?_) (fun hc3=>?_)
 ·exact TotP.okT
 ·refine TotP.bind (Qoi v3 v4 v1 (h_v3) (h_v1) (by omega) (by omega)) (fun x_4 hv5=>?_)
  refine TotP.bif (fun hc6=>?_) (fun hc6=>?_)
  ·exact TotP.okT
  ·refine TotP.bind (Qoj v3 v1 (h_v3) (h_v1)) (fun x_7 hv8=>?_)
   refine TotP.bif (fun hc9=>?_) (fun hc9=>?_)
   ·exact TotP.okT
   ·refine TotP.bind (Qok v1 (h_v1)) (fun x_10 hv11=>?_)
    refine TotP.bif (fun hc12=>?_) (fun hc12=>?_)
    ·exact TotP.okT
    ·refine TotP.bind (Qol v3 v1 (h_v3) (h_v1)) (fun x_13 hv14=>?_)
     refine TotP.bif (fun hc15=>?_) (fun hc15=>?_)
     ·exact TotP.okT
     ·exact TotP.okT
theorem QpI (n1:TNet)(k2:Int)(h_n1:QH n1):TotP (QgQ n1 k2) fun r=>True:=by
 unfold QgQ
 refine TotP.bind (QbF n1.Places k2 (h_n1.2.1)) (fun x_1 hv2=>?_)
 refine TotP.bif (fun hc3=>?_) (fun hc3=>?_)
 ·exact TotP.okT
 ·refine TotP.bind (TotP.idx (by simp_all) (by simp_all)) (fun e_4 hv5=>?_)
  refine TotP.bind (QnB e_4 1 n1 k2 5 3 1 8 (((h_n1.2.1).2 e_4 hv5)) (h_n1) (by simp_all) (by simp_all)) (fun x_6 hv7=>?_)
  exact TotP.okT
theorem QpJ (k1:Int)(p2:QB)(v3:TNet)(h_p2:QbZ p2)(h_v3:QH v3):TotP (QgR k1 p2 v3) fun r=>True:=by
 unfold QgR
 refine TotP.bind (QpI v3 k1 (h_v3)) (fun x_1 hv2=>?_)
 exact TotP.okT
theorem Qk2 (l1:(List QB))(v2:TNet)(h_l1:(lenL QbZ) l1)(h_v2:QH v2):TotP (Qb8 l1 v2) fun r=>True:=by
 unfold Qb8
 refine TotP.bind (TotP.up (l1.length) (fun st=>st) (fun _=>True) (Q:=fun q=>True) rfl trivial (fun i2 st hi3 hn4 hj5=>?_)) (fun q6 hq7=>?_)
 ·obtain⟨x_1,hst⟩:∃y,y=st:=⟨_,rfl⟩
  subst hst
  replace hi3:x_1=(i2:Int):=hi3
  show TotP (QaW l1 v2 x_1) _
  unfold QaW
  refine TotP.bif (fun hc8=>?_) (fun hc8=>?_)
  ·refine TotP.bind (TotP.idx (by omega) (by simp_all)) (fun e_9 hv10=>?_)
   refine TotP.bind (QpJ x_1 e_9 v2 (((h_l1).2 e_9 hv10)) (h_v2)) (fun x_11 hv12=>?_)
   refine TotP.bif (fun hc13=>?_) (fun hc13=>?_)
   ·exact TotP.ok (Qn trivial)
   ·exact TotP.ok (QC ⟨(by simp_all),by subst hi3;exact Qy (by simp_all) (h_l1).1,trivial⟩)
  ·exact TotP.ok (Qn trivial)
 rcases q6 with q6 | q6
 ·show TotP (QbD q6.1 q6.2) _
  unfold QbD
  exact TotP.okT
 ·show TotP (QbE) _
  unfold QbE
  exact TotP.okT
theorem QhG (l1:(List Qr))(k2:Int)(h_l1:(lenL Qap) l1):TotP (Qbt l1 k2) fun r=>r=true→0≤k2∧k2<l1.length:=by
 unfold Qbt
 exact TotP.ok (by first | (intro hr;first | (cases hr;done) | omega | ((try simp only [Bool.and_eq_true,Bool.or_eq_true,Bool.or_eq_false_iff,Bool.not_eq_true',Bool.not_eq_false',decide_eq_true_eq,decide_eq_false_iff_not,beq_iff_eq,bne_iff_ne,ne_eq,Bool.not_eq_true,Bool.not_eq_false,List.length_append,List.length_singleton,List.length_nil,List.length_drop,List.length_take,List.length_cons,QiN,QiO,QhV]at *);omega)) | ((try simp only [Bool.and_eq_true,Bool.or_eq_true,Bool.or_eq_false_iff,Bool.not_eq_true',Bool.not_eq_false',decide_eq_true_eq,decide_eq_false_iff_not,beq_iff_eq,bne_iff_ne,ne_eq,Bool.not_eq_true,Bool.not_eq_false,List.length_append,List.length_singleton,List.length_nil,List.length_drop,List.length_take,List.length_cons,QiN,QiO,QhV]at *);omega) | simp_all)
theorem QpK (v1:Int)(v2:TNet)(v3:Qr)(h_v2:QH v2)(h_v3:Qap v3):TotP (QgS v1 v2 v3) fun r=>True:=by
 unfold QgS
 exact TotP.okT
theorem QnC (v1:Int)(v2:TNet)(v3:Qr)(v4:Int)(h_v2:QH v2)(h_v3:Qap v3):TotP (QeC v1 v2 v3 v4) fun r=>True:=by
 unfold QeC
 exact TotP.okT
theorem QnD (v1:Int)(v2:TNet)(v3:Qr)(v4:Int)(h_v2:QH v2)(h_v3:Qap v3):TotP (QeD v1 v2 v3 v4) fun r=>True:=by
 unfold QeD
 exact TotP.okT
theorem QnE (v1:Int)(v2:TNet)(v3:Qr)(h_v2:QH v2)(h_v3:Qap v3):TotP (QeE v1 v2 v3) fun r=>True:=by
 unfold QeE
 exact TotP.okT
theorem QoU (v1:Qr)(h_v1:Qap v1):TotP (Qf3 v1) fun r=>True:=by
 unfold Qf3
 refine TotP.bind (Qgf v1.Name (h_v1.1)) (fun x_1 hv2=>?_)
 exact TotP.okT
theorem QoV (p1:Qr)(v2:Qr)(h_p1:Qap p1)(h_v2:Qap v2):TotP (Qf4 p1 v2) fun r=>True:=by
 unfold Qf4
 exact TotP.okT
theorem Qg9 (s1:(List Qr))(v2:Qr)(h_s1:(lenL Qap) s1)(h_v2:Qap v2):TotP (Qaq s1 v2) fun r=>True:=by
 unfold Qaq
 refine TotP.bind (TotP.up (s1.length) (fun st=>st) (fun _=>True) (Q:=fun q=>True) rfl trivial (fun i2 st hi3 hn4 hj5=>?_)) (fun q6 hq7=>?_)
 ·obtain⟨x_1,hst⟩:∃y,y=st:=⟨_,rfl⟩
  subst hst
  replace hi3:x_1=(i2:Int):=hi3
  show TotP (QT s1 v2 x_1) _
  unfold QT
  refine TotP.bif (fun hc8=>?_) (fun hc8=>?_)
  ·refine TotP.bind (TotP.idx (by omega) (by simp_all)) (fun e_9 hv10=>?_)
   refine TotP.bind (QoV e_9 v2 (((h_s1).2 e_9 hv10)) (h_v2)) (fun x_11 hv12=>?_)
   refine TotP.bif (fun hc13=>?_) (fun hc13=>?_)
   ·exact TotP.ok (Qn trivial)
   ·exact TotP.ok (QC ⟨(by simp_all),by subst hi3;exact Qy (by simp_all) (h_s1).1,trivial⟩)
  ·exact TotP.ok (Qn trivial)
 rcases q6 with q6 | q6
 ·show TotP (Q9 q6) _
  unfold Q9
  exact TotP.okT
 ·show TotP (Qaa) _
  unfold Qaa
  exact TotP.okT
theorem Qgi (s1:(List Qr))(v2:Qr)(h_s1:(lenL Qap) s1)(h_v2:Qap v2):TotP (Qab s1 v2) fun r=>True:=by
 unfold Qab
 refine TotP.bind (Qg9 s1 v2 (h_s1) (h_v2)) (fun x_1 hv2=>?_)
 exact TotP.okT
theorem QoW (v1:TNet)(v2:Int)(v3:Qr)(h_v1:QH v1)(h_v3:Qap v3)(hp0:0≤v2)(hp1:v2<v1.Tasks.length):TotP (Qf6 v1 v2 v3) fun r=>True:=by
 unfold Qf6
 refine TotP.bind (TotP.chk (by simp_all;omega)) (fun _ _=>?_)
 refine TotP.bind (Qgi ((v1.Tasks.drop 0).take (v2.toNat-0)) v3 (((h_v1.2.2.1).drop _).take _) (h_v3)) (fun x_1 hv2=>?_)
 exact TotP.okT
theorem QoX (v1:Int)(v2:Qr)(h_v2:Qap v2):TotP (Qei v1 v2) fun r=>True:=by
 unfold Qei
 exact TotP.okT
theorem Qla (v1:TVar)(h_v1:Qc2 v1):TotP (Qck v1) fun r=>True:=by
 unfold Qck
 refine TotP.bind (Qgf v1.Name (h_v1.1)) (fun x_1 hv2=>?_)
 exact TotP.okT
theorem Qlb (p1:TVar)(v2:TVar)(h_p1:Qc2 p1)(h_v2:Qc2 v2):TotP (Qcl p1 v2) fun r=>True:=by
 unfold Qcl
 exact TotP.okT
theorem QhH (s1:(List TVar))(v2:TVar)(h_s1:(lenL Qc2) s1)(h_v2:Qc2 v2):TotP (QaB s1 v2) fun r=>True:=by
 unfold QaB
 refine TotP.bind (TotP.up (s1.length) (fun st=>st) (fun _=>True) (Q:=fun q=>True) rfl trivial (fun i2 st hi3 hn4 hj5=>?_)) (fun q6 hq7=>?_)
 ·obtain⟨x_1,hst⟩:∃y,y=st:=⟨_,rfl⟩
  subst hst
  replace hi3:x_1=(i2:Int):=hi3
  show TotP (QW s1 v2 x_1) _
  unfold QW
  refine TotP.bif (fun hc8=>?_) (fun hc8=>?_)
  ·refine TotP.bind (TotP.idx (by omega) (by simp_all)) (fun e_9 hv10=>?_)
   refine TotP.bind (Qlb e_9 v2 (((h_s1).2 e_9 hv10)) (h_v2)) (fun x_11 hv12=>?_)
   refine TotP.bif (fun hc13=>?_) (fun hc13=>?_)
   ·exact TotP.ok (Qn trivial)
   ·exact TotP.ok (QC ⟨(by simp_all),by subst hi3;exact Qy (by simp_all) (h_s1).1,trivial⟩)
  ·exact TotP.ok (Qn trivial)
 rcases q6 with q6 | q6
 ·show TotP (Qai q6) _
  unfold Qai
  exact TotP.okT
 ·show TotP (Qaj) _
  unfold Qaj
  exact TotP.okT
theorem QgX (s1:(List TVar))(v2:TVar)(h_s1:(lenL Qc2) s1)(h_v2:Qc2 v2):TotP (Qak s1 v2) fun r=>True:=by
 unfold Qak
 refine TotP.bind (QhH s1 v2 (h_s1) (h_v2)) (fun x_1 hv2=>?_)
 exact TotP.okT
theorem Qlc (v1:(List TVar))(v2:Int)(v3:TVar)(h_v1:(lenL Qc2) v1)(h_v3:Qc2 v3)(hp0:0≤v2)(hp1:v2<v1.length):TotP (Qcm v1 v2 v3) fun r=>True:=by
 unfold Qcm
 refine TotP.bind (TotP.chk (by simp_all;omega)) (fun _ _=>?_)
 refine TotP.bind (QgX ((v1.drop 0).take (v2.toNat-0)) v3 (((h_v1).drop _).take _) (h_v3)) (fun x_1 hv2=>?_)
 exact TotP.okT
theorem Qld (v1:TNet)(v2:TVar)(h_v1:QH v1)(h_v2:Qc2 v2):TotP (Qcn v1 v2) fun r=>True:=by
 unfold Qcn
 refine TotP.bind (QgV v1.Colours v2.Colour (h_v1.1)) (fun x_1 hv2=>?_)
 exact TotP.okT
theorem QnF (v1:TVar)(v2:Int)(v3:(List TVar))(v4:Int)(v5:Int)(v6:TNet)(v7:Int)(h_v1:Qc2 v1)(h_v3:(lenL Qc2) v3)(h_v6:QH v6)(hp0:0≤v4)(hp1:v4<v3.length):TotP (QeF v1 v2 v3 v4 v5 v6 v7) fun r=>True:=by
 unfold QeF
 refine TotP.bind (Qla v1 (h_v1)) (fun x_1 hv2=>?_)
 refine TotP.bif (fun hc3=>?_) (fun hc3=>?_)
 ·exact TotP.okT
 ·refine TotP.bind (Qlc v3 v4 v1 (h_v3) (h_v1) (by omega) (by omega)) (fun x_4 hv5=>?_)
  refine TotP.bif (fun hc6=>?_) (fun hc6=>?_)
  ·exact TotP.okT
  ·refine TotP.bind (Qld v6 v1 (h_v6) (h_v1)) (fun x_7 hv8=>?_)
   refine TotP.bif (fun hc9=>?_) (fun hc9=>?_)
   ·exact TotP.okT
   ·exact TotP.okT
theorem QlU (k1:Int)(v2:TVar)(v3:(List TVar))(v4:TNet)(h_v2:Qc2 v2)(h_v3:(lenL Qc2) v3)(h_v4:QH v4)(hp0:0≤k1)(hp1:k1<v3.length):TotP (QcX k1 v2 v3 v4) fun r=>True:=by
 unfold QcX
 refine TotP.bind (QnF v2 1 v3 k1 5 v4 3 (h_v2) (h_v3) (h_v4) (by omega) (by omega)) (fun x_1 hv2=>?_)
 exact TotP.okT
theorem QlF (l1:(List TVar))(v2:(List TVar))(v3:TNet)(h_l1:(lenL Qc2) l1)(h_v2:(lenL Qc2) v2)(h_v3:QH v3)(hp0:l1.length≤v2.length):TotP (QcE l1 v2 v3) fun r=>True:=by
 unfold QcE
 refine TotP.bind (TotP.up (l1.length) (fun st=>st) (fun _=>True) (Q:=fun q=>True) rfl trivial (fun i2 st hi3 hn4 hj5=>?_)) (fun q6 hq7=>?_)
 ·obtain⟨x_1,hst⟩:∃y,y=st:=⟨_,rfl⟩
  subst hst
  replace hi3:x_1=(i2:Int):=hi3
  show TotP (Qbf l1 v2 v3 x_1) _
  unfold Qbf
  refine TotP.bif (fun hc8=>?_) (fun hc8=>?_)
  ·refine TotP.bind (TotP.idx (by omega) (by simp_all)) (fun e_9 hv10=>?_)
   refine TotP.bind (QlU x_1 e_9 v2 v3 (((h_l1).2 e_9 hv10)) (h_v2) (h_v3) (by omega) (by simp_all;omega)) (fun x_11 hv12=>?_)
   refine TotP.bif (fun hc13=>?_) (fun hc13=>?_)
   ·exact TotP.ok (Qn trivial)
   ·exact TotP.ok (QC ⟨(by simp_all),by subst hi3;exact Qy (by simp_all) (h_l1).1,trivial⟩)
  ·exact TotP.ok (Qn trivial)
 rcases q6 with q6 | q6
 ·show TotP (QbT q6.1 q6.2) _
  unfold QbT
  exact TotP.okT
 ·show TotP (QbU) _
  unfold QbU
  exact TotP.okT
theorem QmX (n1:TNet)(l2:(List TVar))(h_n1:QH n1)(h_l2:(lenL Qc2) l2):TotP (QdW n1 l2) fun r=>True:=by
 unfold QdW
 refine TotP.bind (QlF l2 l2 n1 (h_l2) (h_l2) (h_n1) (by omega)) (fun x_1 hv2=>?_)
 exact TotP.okT
theorem QoY (v1:TNet)(v2:Qr)(h_v1:QH v1)(h_v2:Qap v2):TotP (Qf7 v1 v2) fun r=>True:=by
 unfold Qf7
 refine TotP.bind (QmX v1 v2.Vars (h_v1) (h_v2.2.1)) (fun x_1 hv2=>?_)
 exact TotP.okT
theorem Qom (v1:TNet)(v2:Qr)(v3:Int)(h_v1:QH v1)(h_v2:Qap v2):TotP (Qfn v1 v2 v3) fun r=>True:=by
 unfold Qfn
 refine TotP.bind (QoY v1 v2 (h_v1) (h_v2)) (fun x_1 hv2=>?_)
 exact TotP.okT
theorem Qlo (n1:TNet)(k2:Int)(h_n1:QH n1):TotP (Qe4 n1 k2) fun r=>True:=by
 unfold Qe4
 refine TotP.bind (QhG n1.Tasks k2 (h_n1.2.2.1)) (fun x_1 hv2=>?_)
 refine TotP.bif (fun hc3=>?_) (fun hc3=>?_)
 ·exact TotP.okT
 ·refine TotP.bind (TotP.idx (by simp_all) (by simp_all)) (fun e_4 hv5=>?_)
  refine TotP.bind (TotP.up (e_4.Vars.length) (fun st=>st.2) (fun _=>True) (Q:=fun q=>True) rfl trivial (fun i8 st hi9 hn10 hj11=>?_)) (fun q12 hq13=>?_)
  ·obtain⟨out_6,x_7⟩:=st
   replace hi9:x_7=(i8:Int):=hi9
   show TotP (Qc9 e_4 n1 out_6 x_7) _
   unfold Qc9
   refine TotP.bif (fun hc14=>?_) (fun hc14=>?_)
   ·refine TotP.bind (TotP.idx (by omega) (by simp_all)) (fun e_15 hv16=>?_)
    refine TotP.bind (Qhk n1.Colours e_15.Colour (h_n1.1)) (fun x_17 hv18=>?_)
    refine TotP.bif (fun hc19=>?_) (fun hc19=>?_)
    ·exact TotP.ok (Qn trivial)
    ·exact TotP.ok (QC ⟨(by simp_all),by subst hi9;exact Qy (by simp_all) (((h_n1.2.2.1).2 e_4 hv5).2.1).1,trivial⟩)
   ·exact TotP.ok (Qn trivial)
  rcases q12 with q12 | q12
  ·show TotP (QeG) _
   unfold QeG
   exact TotP.okT
  ·show TotP (QeH q12) _
   unfold QeH
   exact TotP.okT
theorem QoZ (v1:TNet)(v2:Int)(h_v1:QH v1):TotP (Qf8 v1 v2) fun r=>True:=by
 unfold Qf8
 refine TotP.bind (Qlo v1 v2 (h_v1)) (fun x_1 hv2=>?_)
 exact TotP.okT
theorem QqB (kind1:Int):TotP (Qib kind1) fun r=>0≤r→(kind1=1∨kind1=2∨kind1=3∨kind1=4∨kind1=5∨kind1=6)∧(kind1=3∨kind1=4→r=1)∧(kind1=5→r=2)∧(kind1=6→r=3):=by
 unfold Qib
 refine TotP.bif (fun hc=>?_) (fun hc=>?_)
 ·unfold Qeb;rw [hc]
  simp only [beq_iff_eq]at hc
  exact TotP.ok (by omega)
 ·simp only [beq_eq_false_iff_ne]at hc
  unfold Qeb
  refine TotP.bif (fun hc=>TotP.ok (by simp only [beq_iff_eq]at hc;omega)) (fun hc2=>?_)
  simp only [beq_eq_false_iff_ne]at hc2
  refine TotP.bif (fun hc3=>?_) (fun hc3=>?_)
  ·unfold Qea;rw [hc3]
   simp only [beq_iff_eq]at hc3
   exact TotP.ok (by omega)
  ·simp only [beq_eq_false_iff_ne]at hc3
   unfold Qea
   refine TotP.bif (fun hc=>TotP.ok (by simp only [beq_iff_eq]at hc;omega)) (fun hc4=>?_)
   simp only [beq_eq_false_iff_ne]at hc4
   refine TotP.bif (fun hc=>TotP.ok (by simp only [beq_iff_eq]at hc;omega)) (fun hc5=>?_)
   simp only [beq_eq_false_iff_ne]at hc5
   exact TotP.bif (fun hc=>TotP.ok (by simp only [beq_iff_eq]at hc;omega)) (fun hc6=>TotP.ok (by omega))
theorem Qp7 (op1:Int)  : TotP (Qht op1) fun r=>True:=by
 unfold Qht
 exact TotP.okT
theorem QjL (rec_:Qf→Int→Option Bool)(s1:List Qf)(v2:Int)(h1:s1.length≤maxLen)(h:∀k∈s1,TotP (rec_ k v2) fun r=>r=true→POk v2 k):TotP (Q8 rec_ s1 v2) fun r=>r=false→∀k∈s1,POk v2 k:=by
 unfold Q8 QaR
 refine TotP.bind (P:=fun x=>x<0→∀k∈s1,POk v2 k) ?_ fun x hx=>TotP.ok fun h=>hx (by simp only [decide_eq_false_iff_not]at h;omega)
 refine TotP.bind (TotP.up s1.length (fun st=>st) (fun st=>∀(j:Nat) k,(j:Int)<st→s1[j]? = some k→POk v2 k) (Q:=fun q=>(∀x,q=.inl x→0≤x)∧(q=.inr ()→∀k∈s1,POk v2 k)) rfl (fun j k hj=>by omega) (fun i st hi hn hj=>?_)) (fun q hq=>?_)
 ·show TotP (QS s1 rec_ v2 st) _
  unfold QS QhO
  refine TotP.bif (fun hc=>?_) (fun hc=>TotP.ok (Qn ⟨fun x h=>(by cases h),fun _ k hk=>by
   obtain⟨j,hj1,hj2⟩:=List.mem_iff_getElem.1 hk
   simp only [decide_eq_false_iff_not]at hc
   exact hj j k (by omega) (by rw [List.getElem?_eq_getElem hj1,hj2])⟩))
  simp only [decide_eq_true_eq]at hc
  rw [QjK (by omega)]
  have hlt:st.toNat<s1.length:=by omega
  rw [List.getElem?_eq_getElem hlt]
  refine TotP.bind (P:=fun k=>k=s1[st.toNat]) (TotP.ok rfl) fun k hk=>?_
  subst hk
  refine TotP.bind (P:=fun r=>r=false→POk v2 s1[st.toNat]) (TotP.bind (h _ (List.getElem_mem hlt)) fun x hx=>TotP.ok fun h=>hx (by simpa using h)) fun x hx=>?_
  refine TotP.bif (fun _=>TotP.ok (Qn ⟨fun x h=>(by cases h;omega),fun h=>(by cases h)⟩)) fun hxf=>TotP.ok (QC ⟨by omega,by rw [hi];exact Qy (by omega) h1,?_⟩)
  rw [hi,Qy (show i<s1.length by omega) h1]
  intro j k hj' hk
  by_cases c:j=i
  ·subst c
   have e:st.toNat=j:=by omega
   have:=hx hxf
   rw [List.getElem?_eq_getElem (by omega)]at hk
   cases hk
   simpa only [e] using this
  ·exact hj j k (by omega) hk
 ·rcases q with q | q
  ·exact TotP.ok fun h=>absurd (hq.1 q rfl) (by omega)
  ·exact TotP.ok fun _=>hq.2 rfl
theorem Qk3 : ∀(n:Nat) (e:Qf) (v:Int),Qcq e→SizeOf.sizeOf e≤n→TotP (Qc6 n e v) fun r=>r=true→POk v e
 | 0,e,_,_,h=>absurd e.pos (by omega)
 | n+1,e,v,he,h=>by
  unfold Qc6 QhP
  refine TotP.bind (QqB e.Kind) fun x hx=>?_
  refine TotP.bif (fun _=>TotP.ok fun h=>by cases h) fun h1=>TotP.bif (fun _=>TotP.ok fun h=>by cases h) fun h2=>?_
  refine TotP.bind (P:=fun _=>True) ?_ fun y _=>?_
  ·unfold QiZ
   exact TotP.bif (fun _=>TotP.bind (Qp7 e.Num) fun x _=>TotP.okT) fun _=>TotP.okT
  ·unfold Qe7
   refine TotP.bif (fun _=>TotP.ok fun h=>by cases h) fun _=>?_
   refine TotP.bind (QjL (Qc6 n) e.Kids v (Qdt he).1 fun k hk=>Qk3 n k v ((Qdt he).2 k hk) (by have:=Qnz hk;omega)) fun x hx2=>TotP.ok fun hx3=>?_
   simp only [bne_eq_false_iff_eq]at h1
   have h3:=hx (by omega)
   simp only [Bool.and_eq_false_iff,Bool.or_eq_false_iff,decide_eq_false_iff_not,beq_eq_false_iff_ne]at h2
   exact .mk e h3.1 (fun hk=>by omega) (fun hk=>by have:=h3.2.1 hk;omega) (fun hk=>by have:=h3.2.2.1 hk;omega) (fun hk=>by have:=h3.2.2.2 hk;omega) (hx2 (by simpa using hx3))
theorem Qp8 (e1:Qf)(vars2:Int)(h_e1:Qcq e1):TotP (QkF e1 vars2) fun r=>r=true→POk vars2 e1:=Qk3 _ e1 vars2 h_e1 (Nat.le_refl _)
theorem Qk4 : ∀(n:Nat) (e:Qf),Qcq e→SizeOf.sizeOf e≤n→TotP (Qc5 n e) fun _=>True
 | 0,e,_,h=>absurd e.pos (by omega)
 | n+1,e,he,h=>by
  unfold Qc5 QhM
  refine TotP.bind (TotP.up e.Kids.length (fun st=>st.2) (fun _=>True) (Q:=fun _=>True) rfl trivial (fun i st hi hn _=>?_)) (fun q _=>?_)
  ·obtain⟨a,x⟩:=st
   replace hi:x=(i:Int):=hi
   show TotP (Qdx e (Qc5 n) a x) _
   unfold Qdx
   refine TotP.bif (fun hc=>?_) (fun hc=>?_)
   ·simp only [decide_eq_true_eq]at hc
    refine TotP.bind (TotP.idx (by omega) (by omega)) fun k hk=>?_
    have:=Qnz hk
    refine TotP.bind (Qk4 n k ((Qdt he).2 k hk) (by omega)) fun d _=>?_
    exact TotP.ok (QC ⟨by omega,by subst hi;exact Qy (by omega) (Qdt he).1,trivial⟩)
   ·exact TotP.ok (Qn trivial)
  ·unfold Qhe
   exact TotP.okT
theorem Qp9 (e1:Qf)(h_e1:Qcq e1):TotP (QkD e1) fun _=>True:=Qk4 _ e1 h_e1 (Nat.le_refl _)
theorem Qlp : ∀(n:Nat) (e:Qf),Qcq e→SizeOf.sizeOf e≤n→TotP (QdJ n e) fun _=>True
 | 0,e,_,h=>absurd e.pos (by omega)
 | n+1,e,he,h=>by
  unfold QdJ Qip
  refine TotP.bind (TotP.up e.Kids.length (fun st=>st.2) (fun _=>True) (Q:=fun _=>True) rfl trivial (fun i st hi hn _=>?_)) (fun q _=>?_)
  ·obtain⟨a,x⟩:=st
   replace hi:x=(i:Int):=hi
   show TotP (Qd9 e (QdJ n) a x) _
   unfold Qd9
   refine TotP.bif (fun hc=>?_) (fun hc=>?_)
   ·simp only [decide_eq_true_eq]at hc
    refine TotP.bind (TotP.idx (by omega) (by omega)) fun k hk=>?_
    have:=Qnz hk
    refine TotP.bind (Qlp n k ((Qdt he).2 k hk) (by omega)) fun d _=>?_
    exact TotP.ok (QC ⟨by omega,by subst hi;exact Qy (by omega) (Qdt he).1,trivial⟩)
   ·exact TotP.ok (Qn trivial)
  ·unfold QhN
   exact TotP.okT
theorem QqC (e1:Qf)(h_e1:Qcq e1):TotP (Qlu e1) fun _=>True:=Qlp _ e1 h_e1 (Nat.le_refl _)
theorem QjM (e1:Qf)(vars2:Int)(h_e1:Qcq e1):TotP (Qer e1 vars2) fun r=>r=true→POk vars2 e1:=by
 unfold Qer
 refine TotP.bind (P:=fun r=>r=true→POk vars2 e1) ?_ (fun x hx=>TotP.ok hx)
 unfold Qi0
 refine TotP.bind (Qp9 e1 h_e1) (fun x _=>?_)
 refine TotP.bif (fun _=>?_) (fun _=>TotP.ok fun h=>by cases h)
 refine TotP.bind (QqC e1 h_e1) (fun x _=>?_)
 refine TotP.bif (fun _=>?_) (fun _=>TotP.ok fun h=>by cases h)
 exact TotP.bind (Qp8 e1 vars2 h_e1) (fun x hx=>TotP.ok hx)
theorem Qo0 (v1:Qr)(v2:Int)(h_v1:Qap v1):TotP (Qf9 v1 v2) fun r=>True:=by
 unfold Qf9
 refine TotP.bind (P:=fun _=>True) ?_ (fun x_1 hv2=>?_)
 ·unfold Qh5
  refine TotP.bind (QjM v1.Guard v2 (h_v1.2.2.1)) (fun x_3 hv4=>?_)
  refine TotP.bif (fun hc5=>?_) (fun hc5=>?_)
  ·refine TotP.bif (fun hc6=>?_) (fun hc6=>?_)
   ·exact TotP.okT
   ·exact TotP.okT
  ·exact TotP.okT
 unfold QdX
 exact TotP.okT
theorem QnG (v1:TNet)(v2:TArc)(h_v1:QH v1)(h_v2:QhF v2):TotP (QeI v1 v2) fun r=>True:=by
 unfold QeI
 refine TotP.bind (QbF v1.Places v2.Place (h_v1.2.1)) (fun x_1 hv2=>?_)
 exact TotP.okT
theorem QnH (v1:TArc)(v2:Int)(h_v1:QhF v1):TotP (QeJ v1 v2) fun r=>True:=by
 unfold QeJ
 refine TotP.bind (QjM v1.Expr v2 (h_v1.2)) (fun x_1 hv2=>?_)
 exact TotP.okT
theorem QnI (v1:TNet)(v2:TArc)(v3:Int)(v4:Int)(v5:Int)(h_v1:QH v1)(h_v2:QhF v2):TotP (QeK v1 v2 v3 v4 v5) fun r=>True:=by
 unfold QeK
 refine TotP.bind (QnG v1 v2 (h_v1) (h_v2)) (fun x_1 hv2=>?_)
 refine TotP.bif (fun hc3=>?_) (fun hc3=>?_)
 ·exact TotP.okT
 ·refine TotP.bind (QnH v2 v4 (h_v2)) (fun x_4 hv5=>?_)
  refine TotP.bif (fun hc6=>?_) (fun hc6=>?_)
  ·exact TotP.okT
  ·exact TotP.okT
theorem Qo1 (p1:Int)(a2:TArc)(v3:TNet)(v4:Int)(h_a2:QhF a2)(h_v3:QH v3):TotP (Qga p1 a2 v3 v4) fun r=>True:=by
 unfold Qga
 refine TotP.bind (QnI v3 a2 3 v4 1 (h_v3) (h_a2)) (fun x_1 hv2=>?_)
 exact TotP.okT
theorem QlG (l1:(List TArc))(v2:TNet)(v3:Int)(h_l1:(lenL QhF) l1)(h_v2:QH v2):TotP (QcF l1 v2 v3) fun r=>True:=by
 unfold QcF
 refine TotP.bind (TotP.up (l1.length) (fun st=>st) (fun _=>True) (Q:=fun q=>True) rfl trivial (fun i2 st hi3 hn4 hj5=>?_)) (fun q6 hq7=>?_)
 ·obtain⟨x_1,hst⟩:∃y,y=st:=⟨_,rfl⟩
  subst hst
  replace hi3:x_1=(i2:Int):=hi3
  show TotP (Qbg l1 v2 v3 x_1) _
  unfold Qbg
  refine TotP.bif (fun hc8=>?_) (fun hc8=>?_)
  ·refine TotP.bind (TotP.idx (by omega) (by simp_all)) (fun e_9 hv10=>?_)
   refine TotP.bind (Qo1 x_1 e_9 v2 v3 (((h_l1).2 e_9 hv10)) (h_v2)) (fun x_11 hv12=>?_)
   refine TotP.bif (fun hc13=>?_) (fun hc13=>?_)
   ·exact TotP.ok (Qn trivial)
   ·exact TotP.ok (QC ⟨(by simp_all),by subst hi3;exact Qy (by simp_all) (h_l1).1,trivial⟩)
  ·exact TotP.ok (Qn trivial)
 rcases q6 with q6 | q6
 ·show TotP (QbV q6.1 q6.2) _
  unfold QbV
  exact TotP.okT
 ·show TotP (QbW) _
  unfold QbW
  exact TotP.okT
theorem QlV (n1:TNet)(l2:(List TArc))(vars3:Int)(h_n1:QH n1)(h_l2:(lenL QhF) l2):TotP (Qgb n1 l2 vars3) fun r=>True:=by
 unfold Qgb
 refine TotP.bind (QlG l2 n1 vars3 (h_l2) (h_n1)) (fun x_1 hv2=>?_)
 exact TotP.okT
theorem Qo2 (v1:TNet)(v2:Qr)(v3:Int)(h_v1:QH v1)(h_v2:Qap v2):TotP (Qgc v1 v2 v3) fun r=>True:=by
 unfold Qgc
 refine TotP.bind (QlV v1 v2.Ins v3 (h_v1) (h_v2.2.2.2.2.2.1)) (fun x_1 hv2=>?_)
 exact TotP.okT
theorem Qmx (v1:TNet)(v2:Qr)(v3:Int)(v4:Int)(h_v1:QH v1)(h_v2:Qap v2):TotP (Qdq v1 v2 v3 v4) fun r=>True:=by
 unfold Qdq
 refine TotP.bind (Qo2 v1 v2 v3 (h_v1) (h_v2)) (fun x_1 hv2=>?_)
 exact TotP.okT
theorem Qo3 (v1:TNet)(v2:Qr)(v3:Int)(h_v1:QH v1)(h_v2:Qap v2):TotP (Qgd v1 v2 v3) fun r=>True:=by
 unfold Qgd
 refine TotP.bind (QlV v1 v2.Outs v3 (h_v1) (h_v2.2.2.2.2.2.2.1)) (fun x_1 hv2=>?_)
 exact TotP.okT
theorem Qmy (v1:TNet)(v2:Qr)(v3:Int)(v4:Int)(h_v1:QH v1)(h_v2:Qap v2):TotP (Qdr v1 v2 v3 v4) fun r=>True:=by
 unfold Qdr
 refine TotP.bind (Qo3 v1 v2 v3 (h_v1) (h_v2)) (fun x_1 hv2=>?_)
 exact TotP.okT
theorem QlW (v1:TNet)(v2:Int)(h_v1:QH v1):TotP (QcY v1 v2) fun r=>True:=by
 unfold QcY
 refine TotP.bind (QbF v1.Places v2 (h_v1.2.1)) (fun x_1 hv2=>?_)
 exact TotP.okT
theorem Qk5 (s1:(List Int))(v2:Int)(h_s1:(lenL (fun _=>True)) s1):TotP (Qb4 s1 v2) fun r=>True:=by
 unfold Qb4
 refine TotP.bind (TotP.up (s1.length) (fun st=>st) (fun _=>True) (Q:=fun q=>True) rfl trivial (fun i2 st hi3 hn4 hj5=>?_)) (fun q6 hq7=>?_)
 ·obtain⟨x_1,hst⟩:∃y,y=st:=⟨_,rfl⟩
  subst hst
  replace hi3:x_1=(i2:Int):=hi3
  show TotP (QaV s1 v2 x_1) _
  unfold QaV
  refine TotP.bif (fun hc8=>?_) (fun hc8=>?_)
  ·refine TotP.bind (TotP.idx (by omega) (by simp_all)) (fun e_9 hv10=>?_)
   refine TotP.bif (fun hc11=>?_) (fun hc11=>?_)
   ·exact TotP.ok (Qn trivial)
   ·exact TotP.ok (QC ⟨(by simp_all),by subst hi3;exact Qy (by simp_all) (h_s1).1,trivial⟩)
  ·exact TotP.ok (Qn trivial)
 rcases q6 with q6 | q6
 ·show TotP (QbA q6) _
  unfold QbA
  exact TotP.okT
 ·show TotP (QbB) _
  unfold QbB
  exact TotP.okT
theorem Qgo (s1:(List Int))(v2:Int)(h_s1:(lenL (fun _=>True)) s1):TotP (QaC s1 v2) fun r=>True:=by
 unfold QaC
 refine TotP.bind (Qk5 s1 v2 (h_s1)) (fun x_1 hv2=>?_)
 exact TotP.okT
theorem QlX (v1:(List Int))(v2:Int)(v3:Int)(h_v1:(lenL (fun _=>True)) v1)(hp0:0≤v2)(hp1:v2<v1.length):TotP (QcZ v1 v2 v3) fun r=>True:=by
 unfold QcZ
 refine TotP.bind (TotP.chk (by simp_all;omega)) (fun _ _=>?_)
 refine TotP.bind (Qgo ((v1.drop 0).take (v2.toNat-0)) v3 (((h_v1).drop _).take _)) (fun x_1 hv2=>?_)
 exact TotP.okT
theorem QnJ (v1:TNet)(v2:Int)(v3:Int)(v4:(List Int))(v5:Int)(v6:Int)(h_v1:QH v1)(h_v4:(lenL (fun _=>True)) v4)(hp0:0≤v5)(hp1:v5<v4.length):TotP (QeL v1 v2 v3 v4 v5 v6) fun r=>True:=by
 unfold QeL
 refine TotP.bind (QlW v1 v2 (h_v1)) (fun x_1 hv2=>?_)
 refine TotP.bif (fun hc3=>?_) (fun hc3=>?_)
 ·exact TotP.okT
 ·refine TotP.bind (QlX v4 v5 v2 (h_v4) (by omega) (by omega)) (fun x_4 hv5=>?_)
  refine TotP.bif (fun hc6=>?_) (fun hc6=>?_)
  ·exact TotP.okT
  ·exact TotP.okT
theorem QmY (k1:Int)(place2:Int)(v3:TNet)(v4:(List Int))(h_v3:QH v3)(h_v4:(lenL (fun _=>True)) v4)(hp0:0≤k1)(hp1:k1<v4.length):TotP (QdY k1 place2 v3 v4) fun r=>True:=by
 unfold QdY
 refine TotP.bind (QnJ v3 place2 3 v4 k1 5 (h_v3) (h_v4) (by omega) (by omega)) (fun x_1 hv2=>?_)
 exact TotP.okT
theorem QnK (l1:(List Int))(v2:TNet)(v3:(List Int))(h_l1:(lenL (fun _=>True)) l1)(h_v2:QH v2)(h_v3:(lenL (fun _=>True)) v3)(hp0:l1.length≤v3.length):TotP (QeM l1 v2 v3) fun r=>True:=by
 unfold QeM
 refine TotP.bind (TotP.up (l1.length) (fun st=>st) (fun _=>True) (Q:=fun q=>True) rfl trivial (fun i2 st hi3 hn4 hj5=>?_)) (fun q6 hq7=>?_)
 ·obtain⟨x_1,hst⟩:∃y,y=st:=⟨_,rfl⟩
  subst hst
  replace hi3:x_1=(i2:Int):=hi3
  show TotP (Qb2 l1 v2 v3 x_1) _
  unfold Qb2
  refine TotP.bif (fun hc8=>?_) (fun hc8=>?_)
  ·refine TotP.bind (TotP.idx (by omega) (by simp_all)) (fun e_9 hv10=>?_)
   refine TotP.bind (QmY x_1 e_9 v2 v3 (h_v2) (h_v3) (by omega) (by simp_all;omega)) (fun x_11 hv12=>?_)
   refine TotP.bif (fun hc13=>?_) (fun hc13=>?_)
   ·exact TotP.ok (Qn trivial)
   ·exact TotP.ok (QC ⟨(by simp_all),by subst hi3;exact Qy (by simp_all) (h_l1).1,trivial⟩)
  ·exact TotP.ok (Qn trivial)
 rcases q6 with q6 | q6
 ·show TotP (Qc0 q6.1 q6.2) _
  unfold Qc0
  exact TotP.okT
 ·show TotP (Qc1) _
  unfold Qc1
  exact TotP.okT
theorem Qon (n1:TNet)(l2:(List Int))(h_n1:QH n1)(h_l2:(lenL (fun _=>True)) l2):TotP (Qfo n1 l2) fun r=>True:=by
 unfold Qfo
 refine TotP.bind (QnK l2 n1 l2 (h_l2) (h_n1) (h_l2) (by omega)) (fun x_1 hv2=>?_)
 exact TotP.okT
theorem Qoo (v1:TNet)(v2:Qr)(h_v1:QH v1)(h_v2:Qap v2):TotP (Qfp v1 v2) fun r=>True:=by
 unfold Qfp
 refine TotP.bind (Qon v1 v2.Cancel (h_v1) (h_v2.2.2.2.2.2.2.2.1)) (fun x_1 hv2=>?_)
 exact TotP.okT
theorem Qmz (v1:TNet)(v2:Qr)(v3:Int)(h_v1:QH v1)(h_v2:Qap v2):TotP (Qds v1 v2 v3) fun r=>True:=by
 unfold Qds
 refine TotP.bind (Qoo v1 v2 (h_v1) (h_v2)) (fun x_1 hv2=>?_)
 exact TotP.okT
theorem Qki (k1:Int)(l2:(List TArc))(h_l2:(lenL QhF) l2):TotP (QdE k1 l2) fun r=>True:=by
 unfold QdE
 exact TotP.okT
theorem QpL (t1:Qr)(h_t1:Qap t1):TotP (QgU t1) fun r=>True:=by
 unfold QgU
 refine TotP.bind (P:=fun _=>True) ?_ (fun x_1 hv2=>?_)
 ·unfold QiI
  refine TotP.bind (Qki t1.Join t1.Ins (h_t1.2.2.2.2.2.1)) (fun x_3 hv4=>?_)
  refine TotP.bif (fun hc5=>?_) (fun hc5=>?_)
  ·refine TotP.bind (Qki t1.Split t1.Outs (h_t1.2.2.2.2.2.2.1)) (fun x_6 hv7=>?_)
   refine TotP.bif (fun hc8=>?_) (fun hc8=>?_)
   ·refine TotP.bif (fun hc9=>?_) (fun hc9=>?_)
    ·refine TotP.bif (fun hc10=>?_) (fun hc10=>?_)
     ·exact TotP.okT
     ·exact TotP.okT
    ·exact TotP.okT
   ·exact TotP.okT
  ·exact TotP.okT
 unfold QeN
 exact TotP.okT
theorem Qop (v1:Qr)(h_v1:Qap v1):TotP (Qfq v1) fun r=>True:=by
 unfold Qfq
 refine TotP.bind (QpL v1 (h_v1)) (fun x_1 hv2=>?_)
 exact TotP.okT
theorem QnL (v1:Qr)(v2:Int)(v3:TNet)(v4:Int)(v5:Int)(v6:Int)(v7:Int)(v8:Int)(v9:Int)(v10:Int)(v11:Int)(v12:Int)(v13:Int)(v14:Int)(v15:Int)(h_v1:Qap v1)(h_v3:QH v3)(hp0:0≤v4)(hp1:v4<v3.Tasks.length):TotP (Qda v1 v2 v3 v4 v5 v6 v7 v8 v9 v10 v11 v12 v13 v14 v15) fun r=>True:=by
 unfold Qda
 refine TotP.bind (QoU v1 (h_v1)) (fun x_1 hv2=>?_)
 refine TotP.bif (fun hc3=>?_) (fun hc3=>?_)
 ·exact TotP.okT
 ·refine TotP.bind (QoW v3 v4 v1 (h_v3) (h_v1) (by omega) (by omega)) (fun x_4 hv5=>?_)
  refine TotP.bif (fun hc6=>?_) (fun hc6=>?_)
  ·exact TotP.okT
  ·refine TotP.bind (QoX v6 v1 (h_v1)) (fun x_7 hv8=>?_)
   refine TotP.bif (fun hc9=>?_) (fun hc9=>?_)
   ·exact TotP.okT
   ·refine TotP.bind (Qom v3 v1 v8 (h_v3) (h_v1)) (fun x_10 hv11=>?_)
    refine TotP.bif (fun hc12=>?_) (fun hc12=>?_)
    ·exact TotP.okT
    ·refine TotP.bind (QoZ v3 v4 (h_v3)) (fun x_13 hv14=>?_)
     refine TotP.bif (fun hc15=>?_) (fun hc15=>?_)
     ·exact TotP.okT
     ·refine TotP.bind (Qo0 v1 v6 (h_v1)) (fun x_16 hv17=>?_)
      refine TotP.bif (fun hc18=>?_) (fun hc18=>?_)
      ·exact TotP.okT
      ·refine TotP.bind (Qmx v3 v1 v6 x_10.2 (h_v3) (h_v1)) (fun x_19 hv20=>?_)
       refine TotP.bif (fun hc21=>?_) (fun hc21=>?_)
       ·exact TotP.okT
       ·refine TotP.bind (Qmy v3 v1 v6 x_19.2 (h_v3) (h_v1)) (fun x_22 hv23=>?_)
        refine TotP.bif (fun hc24=>?_) (fun hc24=>?_)
        ·exact TotP.okT
        ·refine TotP.bind (Qmz v3 v1 x_22.2 (h_v3) (h_v1)) (fun x_25 hv26=>?_)
         refine TotP.bif (fun hc27=>?_) (fun hc27=>?_)
         ·exact TotP.okT
         ·refine TotP.bind (Qop v1 (h_v1)) (fun x_28 hv29=>?_)
          refine TotP.bif (fun hc30=>?_) (fun hc30=>?_)
          ·exact TotP.okT
          ·exact TotP.okT
theorem QlY (n1:TNet)(k2:Int)(h_n1:QH n1):TotP (QbL n1 k2) fun r=>True:=by
 unfold QbL
 refine TotP.bind (QhG n1.Tasks k2 (h_n1.2.2.1)) (fun x_1 hv2=>?_)
 refine TotP.bif (fun hc3=>?_) (fun hc3=>?_)
 ·exact TotP.okT
 ·refine TotP.bind (Qkh n1 (h_n1)) (fun x_4 hv5=>?_)
  refine TotP.bif (fun hc6=>?_) (fun hc6=>?_)
  ·exact TotP.okT
  ·refine TotP.bind (TotP.idx (by simp_all) (by simp_all)) (fun e_7 hv8=>?_)
   refine TotP.bind (TotP.idx (by simp_all) (by simp_all)) (fun e_9 hv10=>?_)
   refine TotP.bind (QpK 0 n1 e_7 (h_n1) (((h_n1.2.2.1).2 e_7 hv8))) (fun x_11 hv12=>?_)
   refine TotP.bind (QnC 0 n1 e_7 (e_9.Vars.length:Int) (h_n1) (((h_n1.2.2.1).2 e_7 hv8))) (fun x_13 hv14=>?_)
   refine TotP.bind (QnD 0 n1 e_7 (e_9.Vars.length:Int) (h_n1) (((h_n1.2.2.1).2 e_7 hv8))) (fun x_15 hv16=>?_)
   refine TotP.bind (QnE 0 n1 e_7 (h_n1) (((h_n1.2.2.1).2 e_7 hv8))) (fun x_17 hv18=>?_)
   refine TotP.bind (QnL e_7 1 n1 k2 5 (e_9.Vars.length:Int) 2 0 (-1) 2 1 (-1) (-1) (-1) 11 (((h_n1.2.2.1).2 e_7 hv8)) (h_n1) (by simp_all) (by simp_all)) (fun x_19 hv20=>?_)
   refine TotP.bif (fun hc21=>?_) (fun hc21=>?_)
   ·exact TotP.okT
   ·exact TotP.okT
theorem QpM (k1:Int)(p2:Qr)(v3:TNet)(h_p2:Qap p2)(h_v3:QH v3):TotP (Qe5 k1 p2 v3) fun r=>True:=by
 unfold Qe5
 refine TotP.bind (QlY v3 k1 (h_v3)) (fun x_1 hv2=>?_)
 exact TotP.okT
theorem Qle (l1:(List Qr))(v2:TNet)(h_l1:(lenL Qap) l1)(h_v2:QH v2):TotP (Qbb l1 v2) fun r=>True:=by
 unfold Qbb
 refine TotP.bind (TotP.up (l1.length) (fun st=>st) (fun _=>True) (Q:=fun q=>True) rfl trivial (fun i2 st hi3 hn4 hj5=>?_)) (fun q6 hq7=>?_)
 ·obtain⟨x_1,hst⟩:∃y,y=st:=⟨_,rfl⟩
  subst hst
  replace hi3:x_1=(i2:Int):=hi3
  show TotP (Qar l1 v2 x_1) _
  unfold Qar
  refine TotP.bif (fun hc8=>?_) (fun hc8=>?_)
  ·refine TotP.bind (TotP.idx (by omega) (by simp_all)) (fun e_9 hv10=>?_)
   refine TotP.bind (QpM x_1 e_9 v2 (((h_l1).2 e_9 hv10)) (h_v2)) (fun x_11 hv12=>?_)
   refine TotP.bif (fun hc13=>?_) (fun hc13=>?_)
   ·exact TotP.ok (Qn trivial)
   ·exact TotP.ok (QC ⟨(by simp_all),by subst hi3;exact Qy (by simp_all) (h_l1).1,trivial⟩)
  ·exact TotP.ok (Qn trivial)
 rcases q6 with q6 | q6
 ·show TotP (QbM q6.1 q6.2) _
  unfold QbM
  exact TotP.okT
 ·show TotP (QbN) _
  unfold QbN
  exact TotP.okT
theorem QqD (n1:TNet)(h_n1:QH n1):TotP (QfD n1) fun r=>True:=by
 unfold QfD
 refine TotP.bind (QpD n1 2 3 1 (h_n1)) (fun x_1 hv2=>?_)
 refine TotP.bif (fun hc3=>?_) (fun hc3=>?_)
 ·exact TotP.okT
 ·refine TotP.bind (Qkh n1 (h_n1)) (fun x_4 hv5=>?_)
  refine TotP.bif (fun hc6=>?_) (fun hc6=>?_)
  ·exact TotP.okT
  ·refine TotP.bind (Qk2 n1.Places n1 (h_n1.2.1) (h_n1)) (fun x_7 hv8=>?_)
   refine TotP.bif (fun hc9=>?_) (fun hc9=>?_)
   ·exact TotP.okT
   ·refine TotP.bind (Qle n1.Tasks n1 (h_n1.2.2.1) (h_n1)) (fun x_10 hv11=>?_)
    refine TotP.bif (fun hc12=>?_) (fun hc12=>?_)
    ·exact TotP.okT
    ·exact TotP.okT
theorem Qre (a1:Int)(b2:Int)  : TotP (Qi2 a1 b2) fun r=>True:=by
 unfold Qi2
 refine TotP.bif (fun hc1=>?_) (fun hc1=>?_)
 ·exact TotP.okT
 ·exact TotP.okT
theorem QmZ (a1:Int)(b2:Int)  : TotP (QdQ a1 b2) fun r=>True:=by
 unfold QdQ
 refine TotP.bif (fun hc1=>?_) (fun hc1=>?_)
 ·exact TotP.okT
 ·exact TotP.okT
theorem QmG (a1:Int)  : TotP (QgZ a1) fun r=>True:=by
 unfold QgZ
 refine TotP.bif (fun hc1=>?_) (fun hc1=>?_)
 ·exact TotP.okT
 ·exact TotP.okT
theorem Qm0 (p1:Int)(y2:Int)  : TotP (QdR p1 y2) fun r=>True:=by
 unfold QdR
 exact TotP.okT
theorem Qo4 (a1:Int)(b2:Int)  : TotP (QfX a1 b2) fun r=>True:=by
 unfold QfX
 refine TotP.bind (QmG a1 ) (fun x_1 hv2=>?_)
 refine TotP.bind (QmG b2 ) (fun x_3 hv4=>?_)
 refine TotP.bind (Qm0 x_1 x_3 ) (fun x_5 hv6=>?_)
 refine TotP.bif (fun hc7=>?_) (fun hc7=>?_)
 ·unfold QcM
  refine TotP.bif (fun hc8=>?_) (fun hc8=>?_)
  ·exact TotP.okT
  ·exact TotP.okT
 ·unfold QcM
  refine TotP.bif (fun hc9=>?_) (fun hc9=>?_)
  ·exact TotP.okT
  ·exact TotP.okT
theorem Qkj (a1:Int)(b2:Int)  : TotP (Qdy a1 b2) fun r=>True:=by
 unfold Qdy
 refine TotP.bif (fun hc1=>?_) (fun hc1=>?_)
 ·exact TotP.okT
 ·refine TotP.bif (fun hc2=>?_) (fun hc2=>?_)
  ·exact TotP.okT
  ·refine TotP.bind (TotP.chk (by simp_all)) (fun _ _=>?_)
   refine TotP.bind (TotP.chk (by simp_all)) (fun _ _=>?_)
   exact TotP.okT
theorem Qdu (is1:Bool)  : TotP (Qca is1) fun r=>True:=by
 unfold Qca
 refine TotP.bif (fun hc1=>?_) (fun hc1=>?_)
 ·exact TotP.okT
 ·exact TotP.okT
theorem Qim (op1:Int)(a2:Int)(b3:Int)  : TotP (Qgl op1 a2 b3) fun r=>True:=by
 unfold Qgl
 refine TotP.bif (fun hc1=>?_) (fun hc1=>?_)
 ·refine TotP.bind (Qre a2 b3 ) (fun x_2 hv3=>?_)
  exact TotP.okT
 ·refine TotP.bif (fun hc4=>?_) (fun hc4=>?_)
  ·refine TotP.bind (QmZ a2 b3 ) (fun x_5 hv6=>?_)
   exact TotP.okT
  ·refine TotP.bif (fun hc7=>?_) (fun hc7=>?_)
   ·refine TotP.bind (Qo4 a2 b3 ) (fun x_8 hv9=>?_)
    exact TotP.okT
   ·refine TotP.bif (fun hc10=>?_) (fun hc10=>?_)
    ·refine TotP.bind (Qkj a2 b3 ) (fun x_11 hv12=>?_)
     exact TotP.okT
    ·refine TotP.bif (fun hc13=>?_) (fun hc13=>?_)
     ·refine TotP.bind (Qkj a2 b3 ) (fun x_14 hv15=>?_)
      exact TotP.okT
     ·refine TotP.bif (fun hc16=>?_) (fun hc16=>?_)
      ·refine TotP.bind (Qdu (a2==b3) ) (fun x_17 hv18=>?_)
       exact TotP.okT
      ·refine TotP.bif (fun hc19=>?_) (fun hc19=>?_)
       ·refine TotP.bind (Qdu (a2 != b3) ) (fun x_20 hv21=>?_)
        exact TotP.okT
       ·refine TotP.bif (fun hc22=>?_) (fun hc22=>?_)
        ·refine TotP.bind (Qdu (decide (a2<b3)) ) (fun x_23 hv24=>?_)
         exact TotP.okT
        ·refine TotP.bif (fun hc25=>?_) (fun hc25=>?_)
         ·refine TotP.bind (Qdu (decide (a2≤b3)) ) (fun x_26 hv27=>?_)
          exact TotP.okT
         ·refine TotP.bif (fun hc28=>?_) (fun hc28=>?_)
          ·refine TotP.bind (P:=fun _=>True) ?_ (fun v_29 hv30=>?_)
           ·unfold QkG
            refine TotP.bif (fun hc31=>?_) (fun hc31=>?_)
            ·refine TotP.bind (Qdu (b3 != 0) ) (fun x_32 hv33=>?_)
             exact TotP.okT
            ·refine TotP.bind (Qdu false ) (fun x_34 hv35=>?_)
             exact TotP.okT
           unfold Qhu
           exact TotP.okT
          ·refine TotP.bif (fun hc36=>?_) (fun hc36=>?_)
           ·refine TotP.bind (P:=fun _=>True) ?_ (fun v_37 hv38=>?_)
            ·unfold QkH
             refine TotP.bif (fun hc39=>?_) (fun hc39=>?_)
             ·refine TotP.bind (Qdu true ) (fun x_40 hv41=>?_)
              exact TotP.okT
             ·refine TotP.bind (Qdu (b3 != 0) ) (fun x_42 hv43=>?_)
              exact TotP.okT
            unfold Qhv
            exact TotP.okT
           ·exact TotP.okT
theorem QnM (a1:Int)  : TotP (Qi4 a1) fun r=>True:=by
 unfold Qi4
 refine TotP.bind (Qim 2 0 a1 ) (fun x_1 hv2=>?_)
 exact TotP.okT
end Go.Proofs
