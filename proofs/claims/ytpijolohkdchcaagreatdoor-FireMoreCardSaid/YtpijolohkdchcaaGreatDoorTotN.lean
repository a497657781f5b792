/- A part of the proof; what it holds is told at each theorem. -/
import Derived.Test.YtpijolohkdchcaaGreatDoorT3
import Derived.Test.YtpijolohkdchcaaGreatDoorXPlT
import Derived.KernelRfl
set_option linter.unusedVariables false
set_option linter.unusedSimpArgs false
set_option linter.unusedSectionVars false
set_option linter.deprecated false
noncomputable section
namespace Go.Proofs
open Go Go.RowKit Go.Vm
inductive Qcx : Qh→Prop where
 | mk (e:Qh):e.Kids.length≤maxLen→(∀k∈e.Kids,Qcx k)→Qcx e
theorem Qdw {e:Qh}(h:Qcx e):lenL Qcx e.Kids:=by
 cases h with
 | mk _ h1 h2=>exact⟨h1,h2⟩
theorem Qog {e k:Qh}(h:k∈e.Kids):SizeOf.sizeOf k<SizeOf.sizeOf e:=by
 obtain⟨a,b,l⟩:=e
 have:=List.sizeOf_lt_of_mem h
 simp only [Qh.mk.sizeOf_spec]at *
 omega
theorem Qh.pos (e:Qh):0<SizeOf.sizeOf e:=by
 obtain⟨a,b,l⟩:=e
 simp only [Qh.mk.sizeOf_spec];omega
inductive POk (v:Int):Qh→Prop where
 | mk (e:Qh):(e.Kind=1∨e.Kind=2∨e.Kind=3∨e.Kind=4∨e.Kind=5∨e.Kind=6)→(e.Kind=2→0≤e.Num∧e.Num<v)→(e.Kind=3∨e.Kind=4→e.Kids.length=1)→(e.Kind=5→e.Kids.length=2)→(e.Kind=6→e.Kids.length=3)→(∀k∈e.Kids,POk v k)→POk v e
def QbK (x:Qz):Prop:=Qe8 x.Name∧True∧True∧True∧(lenL Qe8) x.Names∧True∧True
def QbV (x:QB):Prop:=Qe8 x.Name∧True∧(lenL (fun _=>True)) x.First
def Qc7 (x:TVar):Prop:=Qe8 x.Name∧True
def QhW (x:TArc):Prop:=True∧Qcx x.Expr
def Qal (x:Qr):Prop:=Qe8 x.Name∧(lenL Qc7) x.Vars∧Qcx x.Guard∧True∧True∧(lenL QhW) x.Ins∧(lenL QhW) x.Outs∧(lenL (fun _=>True)) x.Cancel∧True∧True
def QH (x:TNet):Prop:=(lenL QbK) x.Colours∧(lenL QbV) x.Places∧(lenL Qal) x.Tasks∧True∧True
def Qro (x:Qab):Prop:=(lenL QbK) x.all∧(lenL (fun _=>True)) x.sizes∧True
theorem Qql (v1:TNet)(h_v1:QH v1):TotP (QgU v1) fun r=>True:=by
 unfold QgU
 exact TotP.okT
theorem Qbz (l1:(List QB))(k2:Int)(h_l1:(lenL QbV) l1):TotP (Qac l1 k2) fun r=>r=true→0≤k2∧k2<l1.length:=by
 unfold Qac
 exact TotP.ok (by first | (intro hr;first | (cases hr;done) | omega | ((try simp only [Bool.and_eq_true,Bool.or_eq_true,Bool.or_eq_false_iff,Bool.not_eq_true',Bool.not_eq_false',decide_eq_true_eq,decide_eq_false_iff_not,beq_iff_eq,bne_iff_ne,ne_eq,Bool.not_eq_true,Bool.not_eq_false,List.length_append,List.length_singleton,List.length_nil,List.length_drop,List.length_take,List.length_cons,Qje,Qjf,Qic]at *);omega)) | ((try simp only [Bool.and_eq_true,Bool.or_eq_true,Bool.or_eq_false_iff,Bool.not_eq_true',Bool.not_eq_false',decide_eq_true_eq,decide_eq_false_iff_not,beq_iff_eq,bne_iff_ne,ne_eq,Bool.not_eq_true,Bool.not_eq_false,List.length_append,List.length_singleton,List.length_nil,List.length_drop,List.length_take,List.length_cons,Qje,Qjf,Qic]at *);omega) | simp_all)
theorem Qqm (v1:TNet)(h_v1:QH v1):TotP (QgV v1) fun r=>True:=by
 unfold QgV
 refine TotP.bind (P:=fun _=>True) ?_ (fun x_1 hv2=>?_)
 ·unfold Qi7
  refine TotP.bind (Qbz v1.Places v1.From (h_v1.2.1)) (fun x_3 hv4=>?_)
  refine TotP.bif (fun hc5=>?_) (fun hc5=>?_)
  ·refine TotP.bind (Qbz v1.Places v1.To (h_v1.2.1)) (fun x_6 hv7=>?_)
   exact TotP.okT
  ·exact TotP.okT
 unfold QeJ
 exact TotP.okT
theorem Qqn (v1:TNet)(h_v1:QH v1):TotP (QgW v1) fun r=>True:=by
 unfold QgW
 exact TotP.okT
theorem Qqo (v1:TNet)(v2:Int)(v3:Int)(v4:Int)(h_v1:QH v1):TotP (QgX v1 v2 v3 v4) fun r=>True:=by
 unfold QgX
 refine TotP.bind (Qql v1 (h_v1)) (fun x_1 hv2=>?_)
 refine TotP.bif (fun hc3=>?_) (fun hc3=>?_)
 ·exact TotP.okT
 ·refine TotP.bind (Qqm v1 (h_v1)) (fun x_4 hv5=>?_)
  refine TotP.bif (fun hc6=>?_) (fun hc6=>?_)
  ·exact TotP.okT
  ·refine TotP.bind (Qqn v1 (h_v1)) (fun x_7 hv8=>?_)
   refine TotP.bif (fun hc9=>?_) (fun hc9=>?_)
   ·exact TotP.okT
   ·exact TotP.okT
theorem Qqp (lo1:Int)(hi2:Int)  : TotP (QgR lo1 hi2) fun r=>True:=by
 unfold QgR
 refine TotP.bif (fun hc1=>?_) (fun hc1=>?_)
 ·exact TotP.okT
 ·exact TotP.okT
theorem QkV (c1:Int)  : TotP (QdA c1) fun r=>True:=by
 unfold QdA
 exact TotP.okT
theorem QjX (s1:ByteArray)(h_s1:Qe8 s1):TotP (QdN s1) fun r=>True:=by
 unfold QdN
 refine TotP.bind (P:=fun _=>True) ?_ (fun x_1 hv2=>?_)
 ·unfold QiW
  refine TotP.bif (fun hc3=>?_) (fun hc3=>?_)
  ·exact TotP.okT
  ·have hshc3:=QtD hc3
   refine TotP.bif (fun hc4=>?_) (fun hc4=>?_)
   ·exact TotP.okT
   ·refine TotP.bind (TotP.sidx (by omega) (by omega)) (fun c_5 hv6=>?_)
    refine TotP.bind (QkV c_5 ) (fun x_7 hv8=>?_)
    exact TotP.okT
 unfold Qez
 refine TotP.bif (fun hc9=>?_) (fun hc9=>?_)
 ·exact TotP.okT
 ·refine TotP.bind (TotP.up (s1.size) (fun st=>st) (fun _=>True) (Q:=fun q=>True) rfl trivial (fun i11 st hi12 hn13 hj14=>?_)) (fun q15 hq16=>?_)
  ·obtain⟨x_10,hst⟩:∃y,y=st:=⟨_,rfl⟩
   subst hst
   replace hi12:x_10=(i11:Int):=hi12
   show TotP (Qc8 s1 x_10) _
   unfold Qc8
   refine TotP.bif (fun hc17=>?_) (fun hc17=>?_)
   ·refine TotP.bind (TotP.sidx (by omega) (by simp_all)) (fun c_18 hv19=>?_)
    refine TotP.bind (P:=fun _=>True) ?_ (fun x_20 hv21=>?_)
    ·unfold QiX
     refine TotP.bind (QkV c_18 ) (fun x_22 hv23=>?_)
     refine TotP.bif (fun hc24=>?_) (fun hc24=>?_)
     ·refine TotP.bif (fun hc25=>?_) (fun hc25=>?_)
      ·exact TotP.okT
      ·refine TotP.bif (fun hc26=>?_) (fun hc26=>?_)
       ·exact TotP.okT
       ·exact TotP.okT
     ·exact TotP.okT
    unfold Qew
    refine TotP.bif (fun hc27=>?_) (fun hc27=>?_)
    ·exact TotP.ok (Qn trivial)
    ·exact TotP.ok (QD ⟨(by simp_all),by subst hi12;exact Qy (by simp_all) h_s1,trivial⟩)
   ·exact TotP.ok (Qn trivial)
  rcases q15 with q15 | q15
  ·show TotP (Qex) _
   unfold Qex
   exact TotP.okT
  ·show TotP (Qey) _
   unfold Qey
   exact TotP.okT
theorem QpC (l1:(List ByteArray))(h_l1:(lenL Qe8) l1):TotP (Qf5 l1) fun r=>True:=by
 unfold Qf5
 refine TotP.bind (TotP.up (l1.length) (fun st=>st.1) (fun _=>True) (Q:=fun q=>True) rfl trivial (fun i3 st hi4 hn5 hj6=>?_)) (fun q7 hq8=>?_)
 ·obtain⟨x_1,m_2⟩:=st
  replace hi4:x_1=(i3:Int):=hi4
  show TotP (QcQ l1 x_1 m_2) _
  unfold QcQ
  refine TotP.bif (fun hc9=>?_) (fun hc9=>?_)
  ·refine TotP.bind (TotP.idx (by omega) (by simp_all)) (fun e_10 hv11=>?_)
   refine TotP.bind (P:=fun _=>True) ?_ (fun x_12 hv13=>?_)
   ·unfold Qid
    refine TotP.bind (QjX e_10 (((h_l1).2 e_10 hv11))) (fun x_14 hv15=>?_)
    refine TotP.bif (fun hc16=>?_) (fun hc16=>?_)
    ·exact TotP.okT
    ·exact TotP.okT
   unfold QdS
   refine TotP.bif (fun hc17=>?_) (fun hc17=>?_)
   ·exact TotP.ok (Qn trivial)
   ·exact TotP.ok (QD ⟨(by simp_all),by subst hi4;exact Qy (by simp_all) (h_l1).1,trivial⟩)
  ·exact TotP.ok (Qn trivial)
 rcases q7 with q7 | q7
 ·show TotP (QdT) _
  unfold QdT
  exact TotP.okT
 ·show TotP (QdU) _
  unfold QdU
  exact TotP.okT
theorem Qqq (c1:Qz)(ahead2:(List Int))(h_c1:QbK c1)(h_ahead2:(lenL (fun _=>True)) ahead2):TotP (QgS c1 ahead2) fun r=>True:=by
 unfold QgS
 refine TotP.bif (fun hc1=>?_) (fun hc1=>?_)
 ·refine TotP.bind (Qqp c1.Lo c1.Hi ) (fun x_2 hv3=>?_)
  exact TotP.okT
 ·refine TotP.bif (fun hc4=>?_) (fun hc4=>?_)
  ·refine TotP.bind (QpC c1.Names (h_c1.2.2.2.2.1)) (fun x_5 hv6=>?_)
   refine TotP.bif (fun hc7=>?_) (fun hc7=>?_)
   ·exact TotP.okT
   ·unfold QbD
    exact TotP.okT
  ·refine TotP.bif (fun hc8=>?_) (fun hc8=>?_)
   ·refine TotP.bif (fun hc9=>?_) (fun hc9=>?_)
    ·refine TotP.bind (TotP.idx (by(try simp only [Bool.and_eq_true,Bool.or_eq_true,Bool.or_eq_false_iff,Bool.not_eq_true',Bool.not_eq_false',decide_eq_true_eq,decide_eq_false_iff_not,beq_iff_eq,bne_iff_ne,ne_eq,Bool.not_eq_true,Bool.not_eq_false,List.length_append,List.length_singleton,List.length_nil,List.length_drop,List.length_take,List.length_cons,Qje,Qjf,Qic]at *);omega) (by(try simp only [Bool.and_eq_true,Bool.or_eq_true,Bool.or_eq_false_iff,Bool.not_eq_true',Bool.not_eq_false',decide_eq_true_eq,decide_eq_false_iff_not,beq_iff_eq,bne_iff_ne,ne_eq,Bool.not_eq_true,Bool.not_eq_false,List.length_append,List.length_singleton,List.length_nil,List.length_drop,List.length_take,List.length_cons,Qje,Qjf,Qic]at *);omega)) (fun e_10 hv11=>?_)
     refine TotP.bind (TotP.idx (by(try simp only [Bool.and_eq_true,Bool.or_eq_true,Bool.or_eq_false_iff,Bool.not_eq_true',Bool.not_eq_false',decide_eq_true_eq,decide_eq_false_iff_not,beq_iff_eq,bne_iff_ne,ne_eq,Bool.not_eq_true,Bool.not_eq_false,List.length_append,List.length_singleton,List.length_nil,List.length_drop,List.length_take,List.length_cons,Qje,Qjf,Qic]at *);omega) (by(try simp only [Bool.and_eq_true,Bool.or_eq_true,Bool.or_eq_false_iff,Bool.not_eq_true',Bool.not_eq_false',decide_eq_true_eq,decide_eq_false_iff_not,beq_iff_eq,bne_iff_ne,ne_eq,Bool.not_eq_true,Bool.not_eq_false,List.length_append,List.length_singleton,List.length_nil,List.length_drop,List.length_take,List.length_cons,Qje,Qjf,Qic]at *);omega)) (fun e_12 hv13=>?_)
     exact TotP.okT
    ·unfold QbD
     exact TotP.okT
   ·unfold QbD
    exact TotP.okT
theorem QlF (l1:(List Qz))(h_l1:(lenL QbK) l1):TotP (Qeg l1) fun r=>((lenL (fun _=>True)) r.1∧True)∧(r.2=true→r.1.length=l1.length∧∀x∈r.1,1≤x∧x≤1024):=by
 unfold Qeg
 refine TotP.bif (fun hc=>TotP.ok ⟨⟨lenL.nil,trivial⟩,fun h=>by cases h⟩) (fun hc=>?_)
 have hl:l1.length≤32:=by simp only [decide_eq_false_iff_not]at hc;omega
 refine TotP.bind (TotP.up l1.length (fun st=>st.1) (fun st=>(st.2.2.length:Int)=st.1∧∀x∈st.2.2,1≤x∧x≤1024) (Q:=fun q=>∀l,q=.inr l→l.length=l1.length∧∀x∈l,1≤x∧x≤1024) rfl ⟨rfl,fun x h=>(by cases h)⟩ (fun i st hi hn hj=>?_)) (fun q hq=>?_)
 ·obtain⟨x,m,l⟩:=st
  replace hi:x=(i:Int):=hi
  replace hj:(l.length:Int)=x∧∀x∈l,1≤x∧x≤1024:=hj
  obtain⟨hj,hj2⟩:=hj
  show TotP (QcR l1 x m l) _
  unfold QcR
  refine TotP.bif (fun hc2=>?_) (fun hc2=>?_)
  ·simp only [decide_eq_true_eq]at hc2
   refine TotP.bind (TotP.idx (by omega) (by omega)) fun e he=>?_
   refine TotP.bind (Qqq e l (h_l1.2 e he) ⟨by unfold maxLen;omega,fun _ _=>trivial⟩) fun y _=>?_
   refine TotP.bind (P:=fun z=>z=false→1≤y∧y≤1024) ?_ fun z hz=>?_
   ·unfold Qie
    refine TotP.bind (QjX e.Name (h_l1.2 e he).1) fun z _=>?_
    refine TotP.bif (fun _=>TotP.ok (fun h=>by cases h)) fun _=>TotP.bif (fun _=>TotP.ok (fun h=>by cases h)) fun _=>TotP.bif (fun _=>TotP.ok (fun h=>by cases h)) fun h1=>TotP.ok fun h2=>?_
    simp only [decide_eq_false_iff_not]at h1 h2
    omega
   unfold QdV
   refine TotP.bif (fun _=>TotP.ok (Qn fun l h=>by cases h)) fun hz0=>?_
   refine TotP.bind (TotP.chk (by simp;omega)) fun _ _=>?_
   exact TotP.ok (QD ⟨by omega,by subst hi;exact Qy (by omega) (by unfold maxLen;omega:l1.length≤maxLen),by simp only [List.length_append,List.length_singleton];subst hi;rw [Qy (show i<l1.length by omega) (by unfold maxLen;omega)];omega,fun u hu=>by
    rcases List.mem_append.1 hu with hu | hu
    ·exact hj2 u hu
    ·simp at hu;subst hu;exact hz hz0⟩)
  ·simp only [decide_eq_false_iff_not]at hc2
   exact TotP.ok (Qn fun l' h=>by cases h;exact⟨by omega,hj2⟩)
 ·rcases q with q | q
  ·exact TotP.ok ⟨⟨lenL.nil,trivial⟩,fun h=>by cases h⟩
  ·have:=hq q rfl
   exact TotP.ok ⟨⟨⟨by show q.length≤maxLen;unfold maxLen;omega,fun _ _=>trivial⟩,trivial⟩,fun _=>this⟩
theorem QpD (l1:(List Qz))(h_l1:(lenL QbK) l1):TotP (Qgg l1) fun r=>True:=by
 unfold Qgg
 refine TotP.bind (QlF l1 (h_l1)) (fun x_1 hv2=>?_)
 exact TotP.okT
theorem QmD (v1:TNet)(v2:Int)(h_v1:QH v1)(hp0:0≤v2)(hp1:v2<v1.Colours.length):TotP (QcZ v1 v2) fun r=>True:=by
 have hl:=h_v1.1.1
 unfold maxLen at hl
 unfold QcZ
 rw [QmC (show -9223372036854775808≤v2+1∧v2+1≤9223372036854775807 by omega)]
 refine TotP.bind (TotP.chk (by simp only [Bool.and_eq_true,decide_eq_true_eq];omega)) fun _ _=>?_
 exact TotP.bind (QpD _ ((h_v1.1.drop _).take _)) fun x _=>TotP.okT
def Qqr : List ByteArray:=(Qfh).getD []
set_option maxRecDepth 100000 in
theorem Que : Qfh=some Qqr:=by kernel_rfl
set_option maxRecDepth 100000 in
theorem Qsq : (decide (Qqr.length≤1000)&&Qqr.all fun s=>decide (s.size≤1000))=true:=by kernel_rfl
theorem Qqs : TotP (Qfh) fun r=>lenL Qe8 r:=by
 have h:=Qsq
 rw [Bool.and_eq_true,decide_eq_true_iff,List.all_eq_true]at h
 refine⟨Qqr,Que,by unfold maxLen;omega,fun x hx=>?_⟩
 have:=h.2 x hx
 rw [decide_eq_true_iff]at this
 unfold Qe8 maxLen;omega
theorem QjY (s1:(List ByteArray))(v2:ByteArray)(h_s1:(lenL Qe8) s1)(h_v2:Qe8 v2):TotP (Qa4 s1 v2) fun r=>True:=by
 unfold Qa4
 refine TotP.bind (TotP.up (s1.length) (fun st=>st) (fun _=>True) (Q:=fun q=>True) rfl trivial (fun i2 st hi3 hn4 hj5=>?_)) (fun q6 hq7=>?_)
 ·obtain⟨x_1,hst⟩:∃y,y=st:=⟨_,rfl⟩
  subst hst
  replace hi3:x_1=(i2:Int):=hi3
  show TotP (Qak s1 v2 x_1) _
  unfold Qak
  refine TotP.bif (fun hc8=>?_) (fun hc8=>?_)
  ·refine TotP.bind (TotP.idx (by omega) (by simp_all)) (fun e_9 hv10=>?_)
   refine TotP.bif (fun hc11=>?_) (fun hc11=>?_)
   ·exact TotP.ok (Qn trivial)
   ·exact TotP.ok (QD ⟨(by simp_all),by subst hi3;exact Qy (by simp_all) (h_s1).1,trivial⟩)
  ·exact TotP.ok (Qn trivial)
 rcases q6 with q6 | q6
 ·show TotP (QaG q6) _
  unfold QaG
  exact TotP.okT
 ·show TotP (QaH) _
  unfold QaH
  exact TotP.okT
theorem QiF (s1:(List ByteArray))(v2:ByteArray)(h_s1:(lenL Qe8) s1)(h_v2:Qe8 v2):TotP (QaI s1 v2) fun r=>True:=by
 unfold QaI
 refine TotP.bind (QjY s1 v2 (h_s1) (h_v2)) (fun x_1 hv2=>?_)
 exact TotP.okT
theorem QqU (s1:ByteArray)(h_s1:Qe8 s1):TotP (QhU s1) fun r=>True:=by
 unfold QhU
 refine TotP.bind (Qqs  ) (fun x_1 hv2=>?_)
 refine TotP.bind (QiF x_1 s1 (hv2) (h_s1)) (fun x_3 hv4=>?_)
 exact TotP.okT
theorem Qgt (s1:ByteArray)(h_s1:Qe8 s1):TotP (QcN s1) fun r=>True:=by
 unfold QcN
 refine TotP.bind (P:=fun _=>True) ?_ (fun x_1 hv2=>?_)
 ·unfold QjR
  refine TotP.bind (QjX s1 (h_s1)) (fun x_3 hv4=>?_)
  refine TotP.bif (fun hc5=>?_) (fun hc5=>?_)
  ·refine TotP.bind (QqU s1 (h_s1)) (fun x_6 hv7=>?_)
   exact TotP.okT
  ·exact TotP.okT
 unfold Qft
 exact TotP.okT
theorem QlQ (s1:ByteArray)(h_s1:Qe8 s1):TotP (Qcs s1) fun r=>True:=by
 unfold Qcs
 refine TotP.bind (Qgt s1 (h_s1)) (fun x_1 hv2=>?_)
 exact TotP.okT
theorem Qip (s1:(List ByteArray))(h_s1:(lenL Qe8) s1):TotP (QaB s1) fun r=>True:=by
 unfold QaB
 refine TotP.bind (TotP.up (s1.length) (fun st=>st) (fun _=>True) (Q:=fun q=>True) rfl trivial (fun i2 st hi3 hn4 hj5=>?_)) (fun q6 hq7=>?_)
 ·obtain⟨x_1,hst⟩:∃y,y=st:=⟨_,rfl⟩
  subst hst
  replace hi3:x_1=(i2:Int):=hi3
  show TotP (Q2 s1 x_1) _
  unfold Q2
  refine TotP.bif (fun hc8=>?_) (fun hc8=>?_)
  ·refine TotP.bind (TotP.idx (by omega) (by simp_all)) (fun e_9 hv10=>?_)
   refine TotP.bind (QlQ e_9 (((h_s1).2 e_9 hv10))) (fun x_11 hv12=>?_)
   refine TotP.bif (fun hc13=>?_) (fun hc13=>?_)
   ·exact TotP.ok (Qn trivial)
   ·exact TotP.ok (QD ⟨(by simp_all),by subst hi3;exact Qy (by simp_all) (h_s1).1,trivial⟩)
  ·exact TotP.ok (Qn trivial)
 rcases q6 with q6 | q6
 ·show TotP (Qaq q6) _
  unfold Qaq
  exact TotP.okT
 ·show TotP (Qar) _
  unfold Qar
  exact TotP.okT
theorem QhD (s1:(List ByteArray))(h_s1:(lenL Qe8) s1):TotP (Qas s1) fun r=>True:=by
 unfold Qas
 refine TotP.bind (Qip s1 (h_s1)) (fun x_1 hv2=>?_)
 exact TotP.okT
theorem QmE (v1:Qz)(h_v1:QbK v1):TotP (Qc0 v1) fun r=>True:=by
 unfold Qc0
 refine TotP.bind (P:=fun _=>True) ?_ (fun x_1 hv2=>?_)
 ·unfold QfP
  refine TotP.bind (Qgt v1.Name (h_v1.1)) (fun x_3 hv4=>?_)
  refine TotP.bif (fun hc5=>?_) (fun hc5=>?_)
  ·refine TotP.bif (fun hc6=>?_) (fun hc6=>?_)
   ·exact TotP.okT
   ·refine TotP.bind (QhD v1.Names (h_v1.2.2.2.2.1)) (fun x_7 hv8=>?_)
    exact TotP.okT
  ·exact TotP.okT
 unfold Qcb
 exact TotP.okT
theorem Qoh (v1:TNet)(v2:Int)(v3:Int)(v4:Qz)(v5:Int)(h_v1:QH v1)(h_v4:QbK v4)(hp0:0≤v2)(hp1:v2<v1.Colours.length):TotP (QeK v1 v2 v3 v4 v5) fun r=>True:=by
 unfold QeK
 refine TotP.bind (QmD v1 v2 (h_v1) (by omega) (by omega)) (fun x_1 hv2=>?_)
 refine TotP.bif (fun hc3=>?_) (fun hc3=>?_)
 ·exact TotP.okT
 ·refine TotP.bind (QmE v4 (h_v4)) (fun x_4 hv5=>?_)
  refine TotP.bif (fun hc6=>?_) (fun hc6=>?_)
  ·exact TotP.okT
  ·exact TotP.okT
theorem QnE (k1:Int)(c2:Qz)(v3:TNet)(h_c2:QbK c2)(h_v3:QH v3)(hp0:0≤k1)(hp1:k1<v3.Colours.length):TotP (QdZ k1 c2 v3) fun r=>True:=by
 unfold QdZ
 refine TotP.bind (Qoh v3 k1 8 c2 8 (h_v3) (h_c2) (by omega) (by omega)) (fun x_1 hv2=>?_)
 exact TotP.okT
theorem Qk5 (l1:(List Qz))(v2:TNet)(h_l1:(lenL QbK) l1)(h_v2:QH v2)(hp0:l1.length≤v2.Colours.length):TotP (QbP l1 v2) fun r=>True:=by
 unfold QbP
 refine TotP.bind (TotP.up (l1.length) (fun st=>st) (fun _=>True) (Q:=fun q=>True) rfl trivial (fun i2 st hi3 hn4 hj5=>?_)) (fun q6 hq7=>?_)
 ·obtain⟨x_1,hst⟩:∃y,y=st:=⟨_,rfl⟩
  subst hst
  replace hi3:x_1=(i2:Int):=hi3
  show TotP (QaJ l1 v2 x_1) _
  unfold QaJ
  refine TotP.bif (fun hc8=>?_) (fun hc8=>?_)
  ·refine TotP.bind (TotP.idx (by omega) (by simp_all)) (fun e_9 hv10=>?_)
   refine TotP.bind (QnE x_1 e_9 v2 (((h_l1).2 e_9 hv10)) (h_v2) (by omega) (by simp_all;omega)) (fun x_11 hv12=>?_)
   refine TotP.bif (fun hc13=>?_) (fun hc13=>?_)
   ·exact TotP.ok (Qn trivial)
   ·exact TotP.ok (QD ⟨(by simp_all),by subst hi3;exact Qy (by simp_all) (h_l1).1,trivial⟩)
  ·exact TotP.ok (Qn trivial)
 rcases q6 with q6 | q6
 ·show TotP (Qbk q6.1 q6.2) _
  unfold Qbk
  exact TotP.okT
 ·show TotP (Qbl) _
  unfold Qbl
  exact TotP.okT
theorem QkW (n1:TNet)(h_n1:QH n1):TotP (QdI n1) fun r=>True:=by
 unfold QdI
 refine TotP.bind (Qk5 n1.Colours n1 (h_n1.1) (h_n1) (by omega)) (fun x_1 hv2=>?_)
 exact TotP.okT
theorem Qo0 (v1:QB)(h_v1:QbV v1):TotP (Qfv v1) fun r=>True:=by
 unfold Qfv
 refine TotP.bind (Qgt v1.Name (h_v1.1)) (fun x_1 hv2=>?_)
 exact TotP.okT
theorem Qo1 (p1:QB)(v2:QB)(h_p1:QbV p1)(h_v2:QbV v2):TotP (Qfw p1 v2) fun r=>True:=by
 unfold Qfw
 exact TotP.okT
theorem QgO (s1:(List QB))(v2:QB)(h_s1:(lenL QbV) s1)(h_v2:QbV v2):TotP (Qad s1 v2) fun r=>True:=by
 unfold Qad
 refine TotP.bind (TotP.up (s1.length) (fun st=>st) (fun _=>True) (Q:=fun q=>True) rfl trivial (fun i2 st hi3 hn4 hj5=>?_)) (fun q6 hq7=>?_)
 ·obtain⟨x_1,hst⟩:∃y,y=st:=⟨_,rfl⟩
  subst hst
  replace hi3:x_1=(i2:Int):=hi3
  show TotP (QQ s1 v2 x_1) _
  unfold QQ
  refine TotP.bif (fun hc8=>?_) (fun hc8=>?_)
  ·refine TotP.bind (TotP.idx (by omega) (by simp_all)) (fun e_9 hv10=>?_)
   refine TotP.bind (Qo1 e_9 v2 (((h_s1).2 e_9 hv10)) (h_v2)) (fun x_11 hv12=>?_)
   refine TotP.bif (fun hc13=>?_) (fun hc13=>?_)
   ·exact TotP.ok (Qn trivial)
   ·exact TotP.ok (QD ⟨(by simp_all),by subst hi3;exact Qy (by simp_all) (h_s1).1,trivial⟩)
  ·exact TotP.ok (Qn trivial)
 rcases q6 with q6 | q6
 ·show TotP (QZ q6) _
  unfold QZ
  exact TotP.okT
 ·show TotP (Q0) _
  unfold Q0
  exact TotP.okT
theorem QfS (s1:(List QB))(v2:QB)(h_s1:(lenL QbV) s1)(h_v2:QbV v2):TotP (Q1 s1 v2) fun r=>True:=by
 unfold Q1
 refine TotP.bind (QgO s1 v2 (h_s1) (h_v2)) (fun x_1 hv2=>?_)
 exact TotP.okT
theorem Qo2 (v1:TNet)(v2:Int)(v3:QB)(h_v1:QH v1)(h_v3:QbV v3)(hp0:0≤v2)(hp1:v2<v1.Places.length):TotP (Qfx v1 v2 v3) fun r=>True:=by
 unfold Qfx
 refine TotP.bind (TotP.chk (by simp_all;omega)) (fun _ _=>?_)
 refine TotP.bind (QfS ((v1.Places.drop 0).take (v2.toNat-0)) v3 (((h_v1.2.1).drop _).take _) (h_v3)) (fun x_1 hv2=>?_)
 exact TotP.okT
theorem Qg3 (l1:(List Qz))(k2:Int)(h_l1:(lenL QbK) l1):TotP (Qa5 l1 k2) fun r=>True:=by
 unfold Qa5
 exact TotP.okT
theorem Qo3 (v1:TNet)(v2:QB)(h_v1:QH v1)(h_v2:QbV v2):TotP (Qfy v1 v2) fun r=>True:=by
 unfold Qfy
 refine TotP.bind (Qg3 v1.Colours v2.Colour (h_v1.1)) (fun x_1 hv2=>?_)
 exact TotP.okT
theorem Qrp (b1:(List (Int×Int)))(h_b1:(lenL (fun _=>True)) b1):TotP (Qb5 b1) fun r=>True:=by
 unfold Qb5
 refine TotP.bind (TotP.up (b1.length) (fun st=>st.2) (fun _=>True) (Q:=fun q=>True) rfl trivial (fun i3 st hi4 hn5 hj6=>?_)) (fun q7 hq8=>?_)
 ·obtain⟨last_1,x_2⟩:=st
  replace hi4:x_2=(i3:Int):=hi4
  show TotP (Qa2 b1 last_1 x_2) _
  unfold Qa2
  refine TotP.bif (fun hc9=>?_) (fun hc9=>?_)
  ·refine TotP.bind (TotP.idx (by omega) (by simp_all)) (fun e_10 hv11=>?_)
   refine TotP.bif (fun hc12=>?_) (fun hc12=>?_)
   ·exact TotP.ok (Qn trivial)
   ·exact TotP.ok (QD ⟨(by simp_all),by subst hi4;exact Qy (by simp_all) (h_b1).1,trivial⟩)
  ·exact TotP.ok (Qn trivial)
 rcases q7 with q7 | q7
 ·show TotP (Qf8) _
  unfold Qf8
  exact TotP.okT
 ·show TotP (Qf9) _
  unfold Qf9
  exact TotP.okT
theorem Qo4 (v1:QB)(h_v1:QbV v1):TotP (Qfz v1) fun r=>True:=by
 unfold Qfz
 refine TotP.bind (Qrp v1.First (h_v1.2.2)) (fun x_1 hv2=>?_)
 exact TotP.okT
theorem QiR (l1:(List Qz))(k2:Int)(h_l1:(lenL QbK) l1):TotP (Qef l1 k2) fun r=>(True∧Qro r.2)∧(r.1=true→(0≤k2∧k2<r.2.sizes.length)∧r.2.k=k2∧r.2.all.length=r.2.sizes.length∧∀x∈r.2.sizes,1≤x∧x≤1024):=by
 unfold Qef
 refine TotP.bind (QlF l1 h_l1) fun x hx=>?_
 refine TotP.bif (fun _=>TotP.ok ⟨⟨trivial,lenL.nil,lenL.nil,trivial⟩,fun h=>by cases h⟩) fun hc=>?_
 simp only [Bool.or_eq_false_iff,Bool.not_eq_false',decide_eq_false_iff_not]at hc
 have:=hx.2 hc.1
 exact TotP.ok ⟨⟨trivial,h_l1,hx.1.1,trivial⟩,fun _=>⟨⟨by omega,by show k2<(x.1.length:Int);omega⟩,rfl,this.1.symm,this.2⟩⟩
theorem QjZ (l1:(List Qz))(k2:Int)(h_l1:(lenL QbK) l1):TotP (QaX l1 k2) fun r=>0≤r∧r≤1024:=by
 unfold QaX
 refine TotP.bind (QiR l1 k2 h_l1) (fun x hx=>?_)
 refine TotP.bif (fun hc=>TotP.ok (by omega)) (fun hc=>?_)
 have h:=hx.2 (by simpa using hc)
 exact TotP.bind (TotP.idx (by omega) (by omega)) fun e he=>TotP.ok (by have:=h.2.2.2 e he;omega)
theorem QnF (row1:(Int×Int))(v2:Int)  : TotP (Qd0 row1 v2) fun r=>True:=by
 unfold Qd0
 exact TotP.okT
theorem Qiq (s1:(List (Int×Int)))(v2:Int)(h_s1:(lenL (fun _=>True)) s1):TotP (QaC s1 v2) fun r=>True:=by
 unfold QaC
 refine TotP.bind (TotP.up (s1.length) (fun st=>st) (fun _=>True) (Q:=fun q=>True) rfl trivial (fun i2 st hi3 hn4 hj5=>?_)) (fun q6 hq7=>?_)
 ·obtain⟨x_1,hst⟩:∃y,y=st:=⟨_,rfl⟩
  subst hst
  replace hi3:x_1=(i2:Int):=hi3
  show TotP (Q3 s1 v2 x_1) _
  unfold Q3
  refine TotP.bif (fun hc8=>?_) (fun hc8=>?_)
  ·refine TotP.bind (TotP.idx (by omega) (by simp_all)) (fun e_9 hv10=>?_)
   refine TotP.bind (QnF e_9 v2 ) (fun x_11 hv12=>?_)
   refine TotP.bif (fun hc13=>?_) (fun hc13=>?_)
   ·exact TotP.ok (Qn trivial)
   ·exact TotP.ok (QD ⟨(by simp_all),by subst hi3;exact Qy (by simp_all) (h_s1).1,trivial⟩)
  ·exact TotP.ok (Qn trivial)
 rcases q6 with q6 | q6
 ·show TotP (Qat q6) _
  unfold Qat
  exact TotP.okT
 ·show TotP (Qau) _
  unfold Qau
  exact TotP.okT
theorem QhE (s1:(List (Int×Int)))(v2:Int)(h_s1:(lenL (fun _=>True)) s1):TotP (Qav s1 v2) fun r=>True:=by
 unfold Qav
 refine TotP.bind (Qiq s1 v2 (h_s1)) (fun x_1 hv2=>?_)
 exact TotP.okT
theorem Qo5 (v1:TNet)(v2:QB)(h_v1:QH v1)(h_v2:QbV v2):TotP (QfA v1 v2) fun r=>True:=by
 unfold QfA
 refine TotP.bind (QjZ v1.Colours v2.Colour (h_v1.1)) (fun x_1 hv2=>?_)
 refine TotP.bind (QhE v2.First x_1 (h_v2.2.2)) (fun x_3 hv4=>?_)
 exact TotP.okT
theorem Qoi (v1:QB)(v2:Int)(v3:TNet)(v4:Int)(v5:Int)(v6:Int)(v7:Int)(v8:Int)(h_v1:QbV v1)(h_v3:QH v3)(hp0:0≤v4)(hp1:v4<v3.Places.length):TotP (QeL v1 v2 v3 v4 v5 v6 v7 v8) fun r=>True:=by
 unfold QeL
 refine TotP.bind (Qo0 v1 (h_v1)) (fun x_1 hv2=>?_)
 refine TotP.bif (fun hc3=>?_) (fun hc3=>?_)
 ·exact TotP.okT
 ·refine TotP.bind (Qo2 v3 v4 v1 (h_v3) (h_v1) (by omega) (by omega)) (fun x_4 hv5=>?_)
  refine TotP.bif (fun hc6=>?_) (fun hc6=>?_)
  ·exact TotP.okT
  ·refine TotP.bind (Qo3 v3 v1 (h_v3) (h_v1)) (fun x_7 hv8=>?_)
   refine TotP.bif (fun hc9=>?_) (fun hc9=>?_)
   ·exact TotP.okT
   ·refine TotP.bind (Qo4 v1 (h_v1)) (fun x_10 hv11=>?_)
    refine TotP.bif (fun hc12=>?_) (fun hc12=>?_)
    ·exact TotP.okT
    ·refine TotP.bind (Qo5 v3 v1 (h_v3) (h_v1)) (fun x_13 hv14=>?_)
     refine TotP.bif (fun hc15=>?_) (fun hc15=>?_)
     ·exact TotP.okT
     ·exact TotP.okT
theorem Qqt (n1:TNet)(k2:Int)(h_n1:QH n1):TotP (QgY n1 k2) fun r=>True:=by
 unfold QgY
 refine TotP.bind (Qbz n1.Places k2 (h_n1.2.1)) (fun x_1 hv2=>?_)
 refine TotP.bif (fun hc3=>?_) (fun hc3=>?_)
 ·exact TotP.okT
 ·refine TotP.bind (TotP.idx (by simp_all) (by simp_all)) (fun e_4 hv5=>?_)
  refine TotP.bind (Qoi e_4 1 n1 k2 5 3 1 8 (((h_n1.2.1).2 e_4 hv5)) (h_n1) (by simp_all) (by simp_all)) (fun x_6 hv7=>?_)
  exact TotP.okT
theorem Qqu (k1:Int)(p2:QB)(v3:TNet)(h_p2:QbV p2)(h_v3:QH v3):TotP (QgZ k1 p2 v3) fun r=>True:=by
 unfold QgZ
 refine TotP.bind (Qqt v3 k1 (h_v3)) (fun x_1 hv2=>?_)
 exact TotP.okT
theorem QlG (l1:(List QB))(v2:TNet)(h_l1:(lenL QbV) l1)(h_v2:QH v2):TotP (Qcc l1 v2) fun r=>True:=by
 unfold Qcc
 refine TotP.bind (TotP.up (l1.length) (fun st=>st) (fun _=>True) (Q:=fun q=>True) rfl trivial (fun i2 st hi3 hn4 hj5=>?_)) (fun q6 hq7=>?_)
 ·obtain⟨x_1,hst⟩:∃y,y=st:=⟨_,rfl⟩
  subst hst
  replace hi3:x_1=(i2:Int):=hi3
  show TotP (QaR l1 v2 x_1) _
  unfold QaR
  refine TotP.bif (fun hc8=>?_) (fun hc8=>?_)
  ·refine TotP.bind (TotP.idx (by omega) (by simp_all)) (fun e_9 hv10=>?_)
   refine TotP.bind (Qqu x_1 e_9 v2 (((h_l1).2 e_9 hv10)) (h_v2)) (fun x_11 hv12=>?_)
   refine TotP.bif (fun hc13=>?_) (fun hc13=>?_)
   ·exact TotP.ok (Qn trivial)
   ·exact TotP.ok (QD ⟨(by simp_all),by subst hi3;exact Qy (by simp_all) (h_l1).1,trivial⟩)
  ·exact TotP.ok (Qn trivial)
 rcases q6 with q6 | q6
 ·show TotP (Qbx q6.1 q6.2) _
  unfold Qbx
  exact TotP.okT
 ·show TotP (Qby) _
  unfold Qby
  exact TotP.okT
theorem QhX (l1:(List Qr))(k2:Int)(h_l1:(lenL Qal) l1):TotP (Qbo l1 k2) fun r=>r=true→0≤k2∧k2<l1.length:=by
 unfold Qbo
 exact TotP.ok (by first | (intro hr;first | (cases hr;done) | omega | ((try simp only [Bool.and_eq_true,Bool.or_eq_true,Bool.or_eq_false_iff,Bool.not_eq_true',Bool.not_eq_false',decide_eq_true_eq,decide_eq_false_iff_not,beq_iff_eq,bne_iff_ne,ne_eq,Bool.not_eq_true,Bool.not_eq_false,List.length_append,List.length_singleton,List.length_nil,List.length_drop,List.length_take,List.length_cons,Qje,Qjf,Qic]at *);omega)) | ((try simp only [Bool.and_eq_true,Bool.or_eq_true,Bool.or_eq_false_iff,Bool.not_eq_true',Bool.not_eq_false',decide_eq_true_eq,decide_eq_false_iff_not,beq_iff_eq,bne_iff_ne,ne_eq,Bool.not_eq_true,Bool.not_eq_false,List.length_append,List.length_singleton,List.length_nil,List.length_drop,List.length_take,List.length_cons,Qje,Qjf,Qic]at *);omega) | simp_all)
theorem Qqv (v1:Int)(v2:TNet)(v3:Qr)(h_v2:QH v2)(h_v3:Qal v3):TotP (Qg0 v1 v2 v3) fun r=>True:=by
 unfold Qg0
 exact TotP.okT
theorem Qoj (v1:Int)(v2:TNet)(v3:Qr)(v4:Int)(h_v2:QH v2)(h_v3:Qal v3):TotP (QeM v1 v2 v3 v4) fun r=>True:=by
 unfold QeM
 exact TotP.okT
theorem Qok (v1:Int)(v2:TNet)(v3:Qr)(v4:Int)(h_v2:QH v2)(h_v3:Qal v3):TotP (QeN v1 v2 v3 v4) fun r=>True:=by
 unfold QeN
 exact TotP.okT
theorem Qol (v1:Int)(v2:TNet)(v3:Qr)(h_v2:QH v2)(h_v3:Qal v3):TotP (QeO v1 v2 v3) fun r=>True:=by
 unfold QeO
 exact TotP.okT
theorem QpE (v1:Qr)(h_v1:Qal v1):TotP (Qgh v1) fun r=>True:=by
 unfold Qgh
 refine TotP.bind (Qgt v1.Name (h_v1.1)) (fun x_1 hv2=>?_)
 exact TotP.okT
theorem QpF (p1:Qr)(v2:Qr)(h_p1:Qal p1)(h_v2:Qal v2):TotP (Qgi p1 v2) fun r=>True:=by
 unfold Qgi
 exact TotP.okT
theorem Qho (s1:(List Qr))(v2:Qr)(h_s1:(lenL Qal) s1)(h_v2:Qal v2):TotP (Qam s1 v2) fun r=>True:=by
 unfold Qam
 refine TotP.bind (TotP.up (s1.length) (fun st=>st) (fun _=>True) (Q:=fun q=>True) rfl trivial (fun i2 st hi3 hn4 hj5=>?_)) (fun q6 hq7=>?_)
 ·obtain⟨x_1,hst⟩:∃y,y=st:=⟨_,rfl⟩
  subst hst
  replace hi3:x_1=(i2:Int):=hi3
  show TotP (QS s1 v2 x_1) _
  unfold QS
  refine TotP.bif (fun hc8=>?_) (fun hc8=>?_)
  ·refine TotP.bind (TotP.idx (by omega) (by simp_all)) (fun e_9 hv10=>?_)
   refine TotP.bind (QpF e_9 v2 (((h_s1).2 e_9 hv10)) (h_v2)) (fun x_11 hv12=>?_)
   refine TotP.bif (fun hc13=>?_) (fun hc13=>?_)
   ·exact TotP.ok (Qn trivial)
   ·exact TotP.ok (QD ⟨(by simp_all),by subst hi3;exact Qy (by simp_all) (h_s1).1,trivial⟩)
  ·exact TotP.ok (Qn trivial)
 rcases q6 with q6 | q6
 ·show TotP (Q8 q6) _
  unfold Q8
  exact TotP.okT
 ·show TotP (Q9) _
  unfold Q9
  exact TotP.okT
theorem Qgv (s1:(List Qr))(v2:Qr)(h_s1:(lenL Qal) s1)(h_v2:Qal v2):TotP (Qaa s1 v2) fun r=>True:=by
 unfold Qaa
 refine TotP.bind (Qho s1 v2 (h_s1) (h_v2)) (fun x_1 hv2=>?_)
 exact TotP.okT
theorem QpG (v1:TNet)(v2:Int)(v3:Qr)(h_v1:QH v1)(h_v3:Qal v3)(hp0:0≤v2)(hp1:v2<v1.Tasks.length):TotP (Qgk v1 v2 v3) fun r=>True:=by
 unfold Qgk
 refine TotP.bind (TotP.chk (by simp_all;omega)) (fun _ _=>?_)
 refine TotP.bind (Qgv ((v1.Tasks.drop 0).take (v2.toNat-0)) v3 (((h_v1.2.2.1).drop _).take _) (h_v3)) (fun x_1 hv2=>?_)
 exact TotP.okT
theorem QpH (v1:Int)(v2:Qr)(h_v2:Qal v2):TotP (Qeq v1 v2) fun r=>True:=by
 unfold Qeq
 exact TotP.okT
theorem QlR (v1:TVar)(h_v1:Qc7 v1):TotP (Qct v1) fun r=>True:=by
 unfold Qct
 refine TotP.bind (Qgt v1.Name (h_v1.1)) (fun x_1 hv2=>?_)
 exact TotP.okT
theorem QlS (p1:TVar)(v2:TVar)(h_p1:Qc7 p1)(h_v2:Qc7 v2):TotP (Qcu p1 v2) fun r=>True:=by
 unfold Qcu
 exact TotP.okT
theorem QhY (s1:(List TVar))(v2:TVar)(h_s1:(lenL Qc7) s1)(h_v2:Qc7 v2):TotP (Qax s1 v2) fun r=>True:=by
 unfold Qax
 refine TotP.bind (TotP.up (s1.length) (fun st=>st) (fun _=>True) (Q:=fun q=>True) rfl trivial (fun i2 st hi3 hn4 hj5=>?_)) (fun q6 hq7=>?_)
 ·obtain⟨x_1,hst⟩:∃y,y=st:=⟨_,rfl⟩
  subst hst
  replace hi3:x_1=(i2:Int):=hi3
  show TotP (QU s1 v2 x_1) _
  unfold QU
  refine TotP.bif (fun hc8=>?_) (fun hc8=>?_)
  ·refine TotP.bind (TotP.idx (by omega) (by simp_all)) (fun e_9 hv10=>?_)
   refine TotP.bind (QlS e_9 v2 (((h_s1).2 e_9 hv10)) (h_v2)) (fun x_11 hv12=>?_)
   refine TotP.bif (fun hc13=>?_) (fun hc13=>?_)
   ·exact TotP.ok (Qn trivial)
   ·exact TotP.ok (QD ⟨(by simp_all),by subst hi3;exact Qy (by simp_all) (h_s1).1,trivial⟩)
  ·exact TotP.ok (Qn trivial)
 rcases q6 with q6 | q6
 ·show TotP (Qae q6) _
  unfold Qae
  exact TotP.okT
 ·show TotP (Qaf) _
  unfold Qaf
  exact TotP.okT
theorem Qg4 (s1:(List TVar))(v2:TVar)(h_s1:(lenL Qc7) s1)(h_v2:Qc7 v2):TotP (Qag s1 v2) fun r=>True:=by
 unfold Qag
 refine TotP.bind (QhY s1 v2 (h_s1) (h_v2)) (fun x_1 hv2=>?_)
 exact TotP.okT
theorem QlT (v1:(List TVar))(v2:Int)(v3:TVar)(h_v1:(lenL Qc7) v1)(h_v3:Qc7 v3)(hp0:0≤v2)(hp1:v2<v1.length):TotP (Qcv v1 v2 v3) fun r=>True:=by
 unfold Qcv
 refine TotP.bind (TotP.chk (by simp_all;omega)) (fun _ _=>?_)
 refine TotP.bind (Qg4 ((v1.drop 0).take (v2.toNat-0)) v3 (((h_v1).drop _).take _) (h_v3)) (fun x_1 hv2=>?_)
 exact TotP.okT
theorem QlU (v1:TNet)(v2:TVar)(h_v1:QH v1)(h_v2:Qc7 v2):TotP (Qcw v1 v2) fun r=>True:=by
 unfold Qcw
 refine TotP.bind (Qg3 v1.Colours v2.Colour (h_v1.1)) (fun x_1 hv2=>?_)
 exact TotP.okT
theorem Qom (v1:TVar)(v2:Int)(v3:(List TVar))(v4:Int)(v5:Int)(v6:TNet)(v7:Int)(h_v1:Qc7 v1)(h_v3:(lenL Qc7) v3)(h_v6:QH v6)(hp0:0≤v4)(hp1:v4<v3.length):TotP (QeP v1 v2 v3 v4 v5 v6 v7) fun r=>True:=by
 unfold QeP
 refine TotP.bind (QlR v1 (h_v1)) (fun x_1 hv2=>?_)
 refine TotP.bif (fun hc3=>?_) (fun hc3=>?_)
 ·exact TotP.okT
 ·refine TotP.bind (QlT v3 v4 v1 (h_v3) (h_v1) (by omega) (by omega)) (fun x_4 hv5=>?_)
  refine TotP.bif (fun hc6=>?_) (fun hc6=>?_)
  ·exact TotP.okT
  ·refine TotP.bind (QlU v6 v1 (h_v6) (h_v1)) (fun x_7 hv8=>?_)
   refine TotP.bif (fun hc9=>?_) (fun hc9=>?_)
   ·exact TotP.okT
   ·exact TotP.okT
theorem QmF (k1:Int)(v2:TVar)(v3:(List TVar))(v4:TNet)(h_v2:Qc7 v2)(h_v3:(lenL Qc7) v3)(h_v4:QH v4)(hp0:0≤k1)(hp1:k1<v3.length):TotP (Qc1 k1 v2 v3 v4) fun r=>True:=by
 unfold Qc1
 refine TotP.bind (Qom v2 1 v3 k1 5 v4 3 (h_v2) (h_v3) (h_v4) (by omega) (by omega)) (fun x_1 hv2=>?_)
 exact TotP.okT
theorem Qmn (l1:(List TVar))(v2:(List TVar))(v3:TNet)(h_l1:(lenL Qc7) l1)(h_v2:(lenL Qc7) v2)(h_v3:QH v3)(hp0:l1.length≤v2.length):TotP (QcO l1 v2 v3) fun r=>True:=by
 unfold QcO
 refine TotP.bind (TotP.up (l1.length) (fun st=>st) (fun _=>True) (Q:=fun q=>True) rfl trivial (fun i2 st hi3 hn4 hj5=>?_)) (fun q6 hq7=>?_)
 ·obtain⟨x_1,hst⟩:∃y,y=st:=⟨_,rfl⟩
  subst hst
  replace hi3:x_1=(i2:Int):=hi3
  show TotP (Qbc l1 v2 v3 x_1) _
  unfold Qbc
  refine TotP.bif (fun hc8=>?_) (fun hc8=>?_)
  ·refine TotP.bind (TotP.idx (by omega) (by simp_all)) (fun e_9 hv10=>?_)
   refine TotP.bind (QmF x_1 e_9 v2 v3 (((h_l1).2 e_9 hv10)) (h_v2) (h_v3) (by omega) (by simp_all;omega)) (fun x_11 hv12=>?_)
   refine TotP.bif (fun hc13=>?_) (fun hc13=>?_)
   ·exact TotP.ok (Qn trivial)
   ·exact TotP.ok (QD ⟨(by simp_all),by subst hi3;exact Qy (by simp_all) (h_l1).1,trivial⟩)
  ·exact TotP.ok (Qn trivial)
 rcases q6 with q6 | q6
 ·show TotP (QbQ q6.1 q6.2) _
  unfold QbQ
  exact TotP.okT
 ·show TotP (QbR) _
  unfold QbR
  exact TotP.okT
theorem QnG (n1:TNet)(l2:(List TVar))(h_n1:QH n1)(h_l2:(lenL Qc7) l2):TotP (Qd1 n1 l2) fun r=>True:=by
 unfold Qd1
 refine TotP.bind (Qmn l2 l2 n1 (h_l2) (h_l2) (h_n1) (by omega)) (fun x_1 hv2=>?_)
 exact TotP.okT
theorem QpI (v1:TNet)(v2:Qr)(h_v1:QH v1)(h_v2:Qal v2):TotP (Qgl v1 v2) fun r=>True:=by
 unfold Qgl
 refine TotP.bind (QnG v1 v2.Vars (h_v1) (h_v2.2.1)) (fun x_1 hv2=>?_)
 exact TotP.okT
theorem Qo6 (v1:TNet)(v2:Qr)(v3:Int)(h_v1:QH v1)(h_v2:Qal v2):TotP (QfB v1 v2 v3) fun r=>True:=by
 unfold QfB
 refine TotP.bind (QpI v1 v2 (h_v1) (h_v2)) (fun x_1 hv2=>?_)
 exact TotP.okT
theorem Ql6 (n1:TNet)(k2:Int)(h_n1:QH n1):TotP (Qfi n1 k2) fun r=>True:=by
 unfold Qfi
 refine TotP.bind (QhX n1.Tasks k2 (h_n1.2.2.1)) (fun x_1 hv2=>?_)
 refine TotP.bif (fun hc3=>?_) (fun hc3=>?_)
 ·exact TotP.okT
 ·refine TotP.bind (TotP.idx (by simp_all) (by simp_all)) (fun e_4 hv5=>?_)
  refine TotP.bind (TotP.up (e_4.Vars.length) (fun st=>st.2) (fun _=>True) (Q:=fun q=>True) rfl trivial (fun i8 st hi9 hn10 hj11=>?_)) (fun q12 hq13=>?_)
  ·obtain⟨out_6,x_7⟩:=st
   replace hi9:x_7=(i8:Int):=hi9
   show TotP (Qdd e_4 n1 out_6 x_7) _
   unfold Qdd
   refine TotP.bif (fun hc14=>?_) (fun hc14=>?_)
   ·refine TotP.bind (TotP.idx (by omega) (by simp_all)) (fun e_15 hv16=>?_)
    refine TotP.bind (QjZ n1.Colours e_15.Colour (h_n1.1)) (fun x_17 hv18=>?_)
    refine TotP.bif (fun hc19=>?_) (fun hc19=>?_)
    ·exact TotP.ok (Qn trivial)
    ·exact TotP.ok (QD ⟨(by simp_all),by subst hi9;exact Qy (by simp_all) (((h_n1.2.2.1).2 e_4 hv5).2.1).1,trivial⟩)
   ·exact TotP.ok (Qn trivial)
  rcases q12 with q12 | q12
  ·show TotP (QeQ) _
   unfold QeQ
   exact TotP.okT
  ·show TotP (QeR q12) _
   unfold QeR
   exact TotP.okT
theorem QpJ (v1:TNet)(v2:Int)(h_v1:QH v1):TotP (Qgm v1 v2) fun r=>True:=by
 unfold Qgm
 refine TotP.bind (Ql6 v1 v2 (h_v1)) (fun x_1 hv2=>?_)
 exact TotP.okT
theorem Qrq (kind1:Int):TotP (Qiv kind1) fun r=>0≤r→(kind1=1∨kind1=2∨kind1=3∨kind1=4∨kind1=5∨kind1=6)∧(kind1=3∨kind1=4→r=1)∧(kind1=5→r=2)∧(kind1=6→r=3):=by
 unfold Qiv
 refine TotP.bif (fun hc=>?_) (fun hc=>?_)
 ·unfold Qej;rw [hc]
  simp only [beq_iff_eq]at hc
  exact TotP.ok (by omega)
 ·simp only [beq_eq_false_iff_ne]at hc
  unfold Qej
  refine TotP.bif (fun hc=>TotP.ok (by simp only [beq_iff_eq]at hc;omega)) (fun hc2=>?_)
  simp only [beq_eq_false_iff_ne]at hc2
  refine TotP.bif (fun hc3=>?_) (fun hc3=>?_)
  ·unfold Qei;rw [hc3]
   simp only [beq_iff_eq]at hc3
   exact TotP.ok (by omega)
  ·simp only [beq_eq_false_iff_ne]at hc3
   unfold Qei
   refine TotP.bif (fun hc=>TotP.ok (by simp only [beq_iff_eq]at hc;omega)) (fun hc4=>?_)
   simp only [beq_eq_false_iff_ne]at hc4
   refine TotP.bif (fun hc=>TotP.ok (by simp only [beq_iff_eq]at hc;omega)) (fun hc5=>?_)
   simp only [beq_eq_false_iff_ne]at hc5
   exact TotP.bif (fun hc=>TotP.ok (by simp only [beq_iff_eq]at hc;omega)) (fun hc6=>TotP.ok (by omega))
theorem QqV (op1:Int)  : TotP (QhK op1) fun r=>True:=by
 unfold QhK
 exact TotP.okT
theorem Qkk (rec_:Qh→Int→Option Bool)(s1:List Qh)(v2:Int)(h1:s1.length≤maxLen)(h:∀k∈s1,TotP (rec_ k v2) fun r=>r=true→POk v2 k):TotP (Q7 rec_ s1 v2) fun r=>r=false→∀k∈s1,POk v2 k:=by
 unfold Q7 QaL
 refine TotP.bind (P:=fun x=>x<0→∀k∈s1,POk v2 k) ?_ fun x hx=>TotP.ok fun h=>hx (by simp only [decide_eq_false_iff_not]at h;omega)
 refine TotP.bind (TotP.up s1.length (fun st=>st) (fun st=>∀(j:Nat) k,(j:Int)<st→s1[j]? = some k→POk v2 k) (Q:=fun q=>(∀x,q=.inl x→0≤x)∧(q=.inr ()→∀k∈s1,POk v2 k)) rfl (fun j k hj=>by omega) (fun i st hi hn hj=>?_)) (fun q hq=>?_)
 ·show TotP (QR s1 rec_ v2 st) _
  unfold QR Qh5
  refine TotP.bif (fun hc=>?_) (fun hc=>TotP.ok (Qn ⟨fun x h=>(by cases h),fun _ k hk=>by
   obtain⟨j,hj1,hj2⟩:=List.mem_iff_getElem.1 hk
   simp only [decide_eq_false_iff_not]at hc
   exact hj j k (by omega) (by rw [List.getElem?_eq_getElem hj1,hj2])⟩))
  simp only [decide_eq_true_eq]at hc
  rw [QqS (by omega)]
  have hlt:st.toNat<s1.length:=by omega
  rw [List.getElem?_eq_getElem hlt]
  refine TotP.bind (P:=fun k=>k=s1[st.toNat]) (TotP.ok rfl) fun k hk=>?_
  subst hk
  refine TotP.bind (P:=fun r=>r=false→POk v2 s1[st.toNat]) (TotP.bind (h _ (List.getElem_mem hlt)) fun x hx=>TotP.ok fun h=>hx (by simpa using h)) fun x hx=>?_
  refine TotP.bif (fun _=>TotP.ok (Qn ⟨fun x h=>(by cases h;omega),fun h=>(by cases h)⟩)) fun hxf=>TotP.ok (QD ⟨by omega,by rw [hi];exact Qy (by omega) h1,?_⟩)
  rw [hi,Qy (show i<s1.length by omega) h1]
  intro j k hj' hk
  by_cases c:j=i
  ·subst c
   have e:st.toNat=j:=by omega
   have:=hx hxf
   rw [List.getElem?_eq_getElem (by omega)]at hk
   cases hk
   simpa only [e] using this
  ·exact hj j k (by omega) hk
 ·rcases q with q | q
  ·exact TotP.ok fun h=>absurd (hq.1 q rfl) (by omega)
  ·exact TotP.ok fun _=>hq.2 rfl
theorem QlH : ∀(n:Nat) (e:Qh) (v:Int),Qcx e→SizeOf.sizeOf e≤n→TotP (Qda n e v) fun r=>r=true→POk v e
 | 0,e,_,_,h=>absurd e.pos (by omega)
 | n+1,e,v,he,h=>by
  unfold Qda Qh6
  refine TotP.bind (Qrq e.Kind) fun x hx=>?_
  refine TotP.bif (fun _=>TotP.ok fun h=>by cases h) fun h1=>TotP.bif (fun _=>TotP.ok fun h=>by cases h) fun h2=>?_
  refine TotP.bind (P:=fun _=>True) ?_ fun y _=>?_
  ·unfold Qjq
   exact TotP.bif (fun _=>TotP.bind (QqV e.Num) fun x _=>TotP.okT) fun _=>TotP.okT
  ·unfold Qfn
   refine TotP.bif (fun _=>TotP.ok fun h=>by cases h) fun _=>?_
   refine TotP.bind (Qkk (Qda n) e.Kids v (Qdw he).1 fun k hk=>QlH n k v ((Qdw he).2 k hk) (by have:=Qog hk;omega)) fun x hx2=>TotP.ok fun hx3=>?_
   simp only [bne_eq_false_iff_eq]at h1
   have h3:=hx (by omega)
   simp only [Bool.and_eq_false_iff,Bool.or_eq_false_iff,decide_eq_false_iff_not,beq_eq_false_iff_ne]at h2
   exact .mk e h3.1 (fun hk=>by omega) (fun hk=>by have:=h3.2.1 hk;omega) (fun hk=>by have:=h3.2.2.1 hk;omega) (fun hk=>by have:=h3.2.2.2 hk;omega) (hx2 (by simpa using hx3))
theorem QqW (e1:Qh)(vars2:Int)(h_e1:Qcx e1):TotP (Qlj e1 vars2) fun r=>r=true→POk vars2 e1:=QlH _ e1 vars2 h_e1 (Nat.le_refl _)
theorem QlI : ∀(n:Nat) (e:Qh),Qcx e→SizeOf.sizeOf e≤n→TotP (Qc9 n e) fun _=>True
 | 0,e,_,h=>absurd e.pos (by omega)
 | n+1,e,he,h=>by
  unfold Qc9 Qh3
  refine TotP.bind (TotP.up e.Kids.length (fun st=>st.2) (fun _=>True) (Q:=fun _=>True) rfl trivial (fun i st hi hn _=>?_)) (fun q _=>?_)
  ·obtain⟨a,x⟩:=st
   replace hi:x=(i:Int):=hi
   show TotP (QdB e (Qc9 n) a x) _
   unfold QdB
   refine TotP.bif (fun hc=>?_) (fun hc=>?_)
   ·simp only [decide_eq_true_eq]at hc
    refine TotP.bind (TotP.idx (by omega) (by omega)) fun k hk=>?_
    have:=Qog hk
    refine TotP.bind (QlI n k ((Qdw he).2 k hk) (by omega)) fun d _=>?_
    exact TotP.ok (QD ⟨by omega,by subst hi;exact Qy (by omega) (Qdw he).1,trivial⟩)
   ·exact TotP.ok (Qn trivial)
  ·unfold Qht
   exact TotP.okT
theorem QqX (e1:Qh)(h_e1:Qcx e1):TotP (Qlh e1) fun _=>True:=QlI _ e1 h_e1 (Nat.le_refl _)
theorem Ql7 : ∀(n:Nat) (e:Qh),Qcx e→SizeOf.sizeOf e≤n→TotP (QdO n e) fun _=>True
 | 0,e,_,h=>absurd e.pos (by omega)
 | n+1,e,he,h=>by
  unfold QdO QiH
  refine TotP.bind (TotP.up e.Kids.length (fun st=>st.2) (fun _=>True) (Q:=fun _=>True) rfl trivial (fun i st hi hn _=>?_)) (fun q _=>?_)
  ·obtain⟨a,x⟩:=st
   replace hi:x=(i:Int):=hi
   show TotP (Qeh e (QdO n) a x) _
   unfold Qeh
   refine TotP.bif (fun hc=>?_) (fun hc=>?_)
   ·simp only [decide_eq_true_eq]at hc
    refine TotP.bind (TotP.idx (by omega) (by omega)) fun k hk=>?_
    have:=Qog hk
    refine TotP.bind (Ql7 n k ((Qdw he).2 k hk) (by omega)) fun d _=>?_
    exact TotP.ok (QD ⟨by omega,by subst hi;exact Qy (by omega) (Qdw he).1,trivial⟩)
   ·exact TotP.ok (Qn trivial)
  ·unfold Qh4
   exact TotP.okT
theorem Qrr (e1:Qh)(h_e1:Qcx e1):TotP (Qmc e1) fun _=>True:=Ql7 _ e1 h_e1 (Nat.le_refl _)
theorem Qkl (e1:Qh)(vars2:Int)(h_e1:Qcx e1):TotP (QeB e1 vars2) fun r=>r=true→POk vars2 e1:=by
 unfold QeB
 refine TotP.bind (P:=fun r=>r=true→POk vars2 e1) ?_ (fun x hx=>TotP.ok hx)
 unfold Qjr
 refine TotP.bind (QqX e1 h_e1) (fun x _=>?_)
 refine TotP.bif (fun _=>?_) (fun _=>TotP.ok fun h=>by cases h)
 refine TotP.bind (Qrr e1 h_e1) (fun x _=>?_)
 refine TotP.bif (fun _=>?_) (fun _=>TotP.ok fun h=>by cases h)
 exact TotP.bind (QqW e1 vars2 h_e1) (fun x hx=>TotP.ok hx)
theorem QpK (v1:Qr)(v2:Int)(h_v1:Qal v1):TotP (Qgn v1 v2) fun r=>True:=by
 unfold Qgn
 refine TotP.bind (P:=fun _=>True) ?_ (fun x_1 hv2=>?_)
 ·unfold Qio
  refine TotP.bind (Qkl v1.Guard v2 (h_v1.2.2.1)) (fun x_3 hv4=>?_)
  refine TotP.bif (fun hc5=>?_) (fun hc5=>?_)
  ·refine TotP.bif (fun hc6=>?_) (fun hc6=>?_)
   ·exact TotP.okT
   ·exact TotP.okT
  ·exact TotP.okT
 unfold Qd2
 exact TotP.okT
theorem Qon (v1:TNet)(v2:TArc)(h_v1:QH v1)(h_v2:QhW v2):TotP (QeS v1 v2) fun r=>True:=by
 unfold QeS
 refine TotP.bind (Qbz v1.Places v2.Place (h_v1.2.1)) (fun x_1 hv2=>?_)
 exact TotP.okT
theorem Qoo (v1:TArc)(v2:Int)(h_v1:QhW v1):TotP (QeT v1 v2) fun r=>True:=by
 unfold QeT
 refine TotP.bind (Qkl v1.Expr v2 (h_v1.2)) (fun x_1 hv2=>?_)
 exact TotP.okT
theorem Qop (v1:TNet)(v2:TArc)(v3:Int)(v4:Int)(v5:Int)(h_v1:QH v1)(h_v2:QhW v2):TotP (QeU v1 v2 v3 v4 v5) fun r=>True:=by
 unfold QeU
 refine TotP.bind (Qon v1 v2 (h_v1) (h_v2)) (fun x_1 hv2=>?_)
 refine TotP.bif (fun hc3=>?_) (fun hc3=>?_)
 ·exact TotP.okT
 ·refine TotP.bind (Qoo v2 v4 (h_v2)) (fun x_4 hv5=>?_)
  refine TotP.bif (fun hc6=>?_) (fun hc6=>?_)
  ·exact TotP.okT
  ·exact TotP.okT
theorem QpL (p1:Int)(a2:TArc)(v3:TNet)(v4:Int)(h_a2:QhW a2)(h_v3:QH v3):TotP (Qgo p1 a2 v3 v4) fun r=>True:=by
 unfold Qgo
 refine TotP.bind (Qop v3 a2 3 v4 1 (h_v3) (h_a2)) (fun x_1 hv2=>?_)
 exact TotP.okT
theorem Qmo (l1:(List TArc))(v2:TNet)(v3:Int)(h_l1:(lenL QhW) l1)(h_v2:QH v2):TotP (QcP l1 v2 v3) fun r=>True:=by
 unfold QcP
 refine TotP.bind (TotP.up (l1.length) (fun st=>st) (fun _=>True) (Q:=fun q=>True) rfl trivial (fun i2 st hi3 hn4 hj5=>?_)) (fun q6 hq7=>?_)
 ·obtain⟨x_1,hst⟩:∃y,y=st:=⟨_,rfl⟩
  subst hst
  replace hi3:x_1=(i2:Int):=hi3
  show TotP (Qbd l1 v2 v3 x_1) _
  unfold Qbd
  refine TotP.bif (fun hc8=>?_) (fun hc8=>?_)
  ·refine TotP.bind (TotP.idx (by omega) (by simp_all)) (fun e_9 hv10=>?_)
   refine TotP.bind (QpL x_1 e_9 v2 v3 (((h_l1).2 e_9 hv10)) (h_v2)) (fun x_11 hv12=>?_)
   refine TotP.bif (fun hc13=>?_) (fun hc13=>?_)
   ·exact TotP.ok (Qn trivial)
   ·exact TotP.ok (QD ⟨(by simp_all),by subst hi3;exact Qy (by simp_all) (h_l1).1,trivial⟩)
  ·exact TotP.ok (Qn trivial)
 rcases q6 with q6 | q6
 ·show TotP (QbS q6.1 q6.2) _
  unfold QbS
  exact TotP.okT
 ·show TotP (QbT) _
  unfold QbT
  exact TotP.okT
theorem QmG (n1:TNet)(l2:(List TArc))(vars3:Int)(h_n1:QH n1)(h_l2:(lenL QhW) l2):TotP (Qgp n1 l2 vars3) fun r=>True:=by
 unfold Qgp
 refine TotP.bind (Qmo l2 n1 vars3 (h_l2) (h_n1)) (fun x_1 hv2=>?_)
 exact TotP.okT
theorem QpM (v1:TNet)(v2:Qr)(v3:Int)(h_v1:QH v1)(h_v2:Qal v2):TotP (Qgq v1 v2 v3) fun r=>True:=by
 unfold Qgq
 refine TotP.bind (QmG v1 v2.Ins v3 (h_v1) (h_v2.2.2.2.2.2.1)) (fun x_1 hv2=>?_)
 exact TotP.okT
theorem Qnh (v1:TNet)(v2:Qr)(v3:Int)(v4:Int)(h_v1:QH v1)(h_v2:Qal v2):TotP (Qdt v1 v2 v3 v4) fun r=>True:=by
 unfold Qdt
 refine TotP.bind (QpM v1 v2 v3 (h_v1) (h_v2)) (fun x_1 hv2=>?_)
 exact TotP.okT
theorem QpN (v1:TNet)(v2:Qr)(v3:Int)(h_v1:QH v1)(h_v2:Qal v2):TotP (Qgr v1 v2 v3) fun r=>True:=by
 unfold Qgr
 refine TotP.bind (QmG v1 v2.Outs v3 (h_v1) (h_v2.2.2.2.2.2.2.1)) (fun x_1 hv2=>?_)
 exact TotP.okT
theorem Qni (v1:TNet)(v2:Qr)(v3:Int)(v4:Int)(h_v1:QH v1)(h_v2:Qal v2):TotP (Qdu v1 v2 v3 v4) fun r=>True:=by
 unfold Qdu
 refine TotP.bind (QpN v1 v2 v3 (h_v1) (h_v2)) (fun x_1 hv2=>?_)
 exact TotP.okT
theorem QmH (v1:TNet)(v2:Int)(h_v1:QH v1):TotP (Qc2 v1 v2) fun r=>True:=by
 unfold Qc2
 refine TotP.bind (Qbz v1.Places v2 (h_v1.2.1)) (fun x_1 hv2=>?_)
 exact TotP.okT
theorem QlJ (s1:(List Int))(v2:Int)(h_s1:(lenL (fun _=>True)) s1):TotP (Qb6 s1 v2) fun r=>True:=by
 unfold Qb6
 refine TotP.bind (TotP.up (s1.length) (fun st=>st) (fun _=>True) (Q:=fun q=>True) rfl trivial (fun i2 st hi3 hn4 hj5=>?_)) (fun q6 hq7=>?_)
 ·obtain⟨x_1,hst⟩:∃y,y=st:=⟨_,rfl⟩
  subst hst
  replace hi3:x_1=(i2:Int):=hi3
  show TotP (QaQ s1 v2 x_1) _
  unfold QaQ
  refine TotP.bif (fun hc8=>?_) (fun hc8=>?_)
  ·refine TotP.bind (TotP.idx (by omega) (by simp_all)) (fun e_9 hv10=>?_)
   refine TotP.bif (fun hc11=>?_) (fun hc11=>?_)
   ·exact TotP.ok (Qn trivial)
   ·exact TotP.ok (QD ⟨(by simp_all),by subst hi3;exact Qy (by simp_all) (h_s1).1,trivial⟩)
  ·exact TotP.ok (Qn trivial)
 rcases q6 with q6 | q6
 ·show TotP (Qbu q6) _
  unfold Qbu
  exact TotP.okT
 ·show TotP (Qbv) _
  unfold Qbv
  exact TotP.okT
theorem QgA (s1:(List Int))(v2:Int)(h_s1:(lenL (fun _=>True)) s1):TotP (Qaz s1 v2) fun r=>True:=by
 unfold Qaz
 refine TotP.bind (QlJ s1 v2 (h_s1)) (fun x_1 hv2=>?_)
 exact TotP.okT
theorem QmI (v1:(List Int))(v2:Int)(v3:Int)(h_v1:(lenL (fun _=>True)) v1)(hp0:0≤v2)(hp1:v2<v1.length):TotP (Qc3 v1 v2 v3) fun r=>True:=by
 unfold Qc3
 refine TotP.bind (TotP.chk (by simp_all;omega)) (fun _ _=>?_)
 refine TotP.bind (QgA ((v1.drop 0).take (v2.toNat-0)) v3 (((h_v1).drop _).take _)) (fun x_1 hv2=>?_)
 exact TotP.okT
theorem Qoq (v1:TNet)(v2:Int)(v3:Int)(v4:(List Int))(v5:Int)(v6:Int)(h_v1:QH v1)(h_v4:(lenL (fun _=>True)) v4)(hp0:0≤v5)(hp1:v5<v4.length):TotP (QeV v1 v2 v3 v4 v5 v6) fun r=>True:=by
 unfold QeV
 refine TotP.bind (QmH v1 v2 (h_v1)) (fun x_1 hv2=>?_)
 refine TotP.bif (fun hc3=>?_) (fun hc3=>?_)
 ·exact TotP.okT
 ·refine TotP.bind (QmI v4 v5 v2 (h_v4) (by omega) (by omega)) (fun x_4 hv5=>?_)
  refine TotP.bif (fun hc6=>?_) (fun hc6=>?_)
  ·exact TotP.okT
  ·exact TotP.okT
theorem QnH (k1:Int)(place2:Int)(v3:TNet)(v4:(List Int))(h_v3:QH v3)(h_v4:(lenL (fun _=>True)) v4)(hp0:0≤k1)(hp1:k1<v4.length):TotP (Qd3 k1 place2 v3 v4) fun r=>True:=by
 unfold Qd3
 refine TotP.bind (Qoq v3 place2 3 v4 k1 5 (h_v3) (h_v4) (by omega) (by omega)) (fun x_1 hv2=>?_)
 exact TotP.okT
theorem Qor (l1:(List Int))(v2:TNet)(v3:(List Int))(h_l1:(lenL (fun _=>True)) l1)(h_v2:QH v2)(h_v3:(lenL (fun _=>True)) v3)(hp0:l1.length≤v3.length):TotP (QeW l1 v2 v3) fun r=>True:=by
 unfold QeW
 refine TotP.bind (TotP.up (l1.length) (fun st=>st) (fun _=>True) (Q:=fun q=>True) rfl trivial (fun i2 st hi3 hn4 hj5=>?_)) (fun q6 hq7=>?_)
 ·obtain⟨x_1,hst⟩:∃y,y=st:=⟨_,rfl⟩
  subst hst
  replace hi3:x_1=(i2:Int):=hi3
  show TotP (Qb1 l1 v2 v3 x_1) _
  unfold Qb1
  refine TotP.bif (fun hc8=>?_) (fun hc8=>?_)
  ·refine TotP.bind (TotP.idx (by omega) (by simp_all)) (fun e_9 hv10=>?_)
   refine TotP.bind (QnH x_1 e_9 v2 v3 (h_v2) (h_v3) (by omega) (by simp_all;omega)) (fun x_11 hv12=>?_)
   refine TotP.bif (fun hc13=>?_) (fun hc13=>?_)
   ·exact TotP.ok (Qn trivial)
   ·exact TotP.ok (QD ⟨(by simp_all),by subst hi3;exact Qy (by simp_all) (h_l1).1,trivial⟩)
  ·exact TotP.ok (Qn trivial)
 rcases q6 with q6 | q6
 ·show TotP (Qc4 q6.1 q6.2) _
  unfold Qc4
  exact TotP.okT
 ·show TotP (Qc5) _
  unfold Qc5
  exact TotP.okT
theorem Qo7 (n1:TNet)(l2:(List Int))(h_n1:QH n1)(h_l2:(lenL (fun _=>True)) l2):TotP (QfC n1 l2) fun r=>True:=by
 unfold QfC
 refine TotP.bind (Qor l2 n1 l2 (h_l2) (h_n1) (h_l2) (by omega)) (fun x_1 hv2=>?_)
 exact TotP.okT
theorem Qo8 (v1:TNet)(v2:Qr)(h_v1:QH v1)(h_v2:Qal v2):TotP (QfD v1 v2) fun r=>True:=by
 unfold QfD
 refine TotP.bind (Qo7 v1 v2.Cancel (h_v1) (h_v2.2.2.2.2.2.2.2.1)) (fun x_1 hv2=>?_)
 exact TotP.okT
theorem Qnj (v1:TNet)(v2:Qr)(v3:Int)(h_v1:QH v1)(h_v2:Qal v2):TotP (Qdv v1 v2 v3) fun r=>True:=by
 unfold Qdv
 refine TotP.bind (Qo8 v1 v2 (h_v1) (h_v2)) (fun x_1 hv2=>?_)
 exact TotP.okT
theorem QkX (k1:Int)(l2:(List TArc))(h_l2:(lenL QhW) l2):TotP (QdJ k1 l2) fun r=>True:=by
 unfold QdJ
 exact TotP.okT
theorem Qqw (t1:Qr)(h_t1:Qal t1):TotP (Qg2 t1) fun r=>True:=by
 unfold Qg2
 refine TotP.bind (P:=fun _=>True) ?_ (fun x_1 hv2=>?_)
 ·unfold Qi9
  refine TotP.bind (QkX t1.Join t1.Ins (h_t1.2.2.2.2.2.1)) (fun x_3 hv4=>?_)
  refine TotP.bif (fun hc5=>?_) (fun hc5=>?_)
  ·refine TotP.bind (QkX t1.Split t1.Outs (h_t1.2.2.2.2.2.2.1)) (fun x_6 hv7=>?_)
   refine TotP.bif (fun hc8=>?_) (fun hc8=>?_)
   ·refine TotP.bif (fun hc9=>?_) (fun hc9=>?_)
    ·refine TotP.bif (fun hc10=>?_) (fun hc10=>?_)
     ·exact TotP.okT
     ·exact TotP.okT
    ·exact TotP.okT
   ·exact TotP.okT
  ·exact TotP.okT
 unfold QeX
 exact TotP.okT
theorem Qo9 (v1:Qr)(h_v1:Qal v1):TotP (QfE v1) fun r=>True:=by
 unfold QfE
 refine TotP.bind (Qqw v1 (h_v1)) (fun x_1 hv2=>?_)
 exact TotP.okT
theorem Qos (v1:Qr)(v2:Int)(v3:TNet)(v4:Int)(v5:Int)(v6:Int)(v7:Int)(v8:Int)(v9:Int)(v10:Int)(v11:Int)(v12:Int)(v13:Int)(v14:Int)(v15:Int)(h_v1:Qal v1)(h_v3:QH v3)(hp0:0≤v4)(hp1:v4<v3.Tasks.length):TotP (Qde v1 v2 v3 v4 v5 v6 v7 v8 v9 v10 v11 v12 v13 v14 v15) fun r=>True:=by
 unfold Qde
 refine TotP.bind (QpE v1 (h_v1)) (fun x_1 hv2=>?_)
 refine TotP.bif (fun hc3=>?_) (fun hc3=>?_)
 ·exact TotP.okT
 ·refine TotP.bind (QpG v3 v4 v1 (h_v3) (h_v1) (by omega) (by omega)) (fun x_4 hv5=>?_)
  refine TotP.bif (fun hc6=>?_) (fun hc6=>?_)
  ·exact TotP.okT
  ·refine TotP.bind (QpH v6 v1 (h_v1)) (fun x_7 hv8=>?_)
   refine TotP.bif (fun hc9=>?_) (fun hc9=>?_)
   ·exact TotP.okT
   ·refine TotP.bind (Qo6 v3 v1 v8 (h_v3) (h_v1)) (fun x_10 hv11=>?_)
    refine TotP.bif (fun hc12=>?_) (fun hc12=>?_)
    ·exact TotP.okT
    ·refine TotP.bind (QpJ v3 v4 (h_v3)) (fun x_13 hv14=>?_)
     refine TotP.bif (fun hc15=>?_) (fun hc15=>?_)
     ·exact TotP.okT
     ·refine TotP.bind (QpK v1 v6 (h_v1)) (fun x_16 hv17=>?_)
      refine TotP.bif (fun hc18=>?_) (fun hc18=>?_)
      ·exact TotP.okT
      ·refine TotP.bind (Qnh v3 v1 v6 x_10.2 (h_v3) (h_v1)) (fun x_19 hv20=>?_)
       refine TotP.bif (fun hc21=>?_) (fun hc21=>?_)
       ·exact TotP.okT
       ·refine TotP.bind (Qni v3 v1 v6 x_19.2 (h_v3) (h_v1)) (fun x_22 hv23=>?_)
        refine TotP.bif (fun hc24=>?_) (fun hc24=>?_)
        ·exact TotP.okT
        ·refine TotP.bind (Qnj v3 v1 x_22.2 (h_v3) (h_v1)) (fun x_25 hv26=>?_)
         refine TotP.bif (fun hc27=>?_) (fun hc27=>?_)
         ·exact TotP.okT
         ·refine TotP.bind (Qo9 v1 (h_v1)) (fun x_28 hv29=>?_)
          refine TotP.bif (fun hc30=>?_) (fun hc30=>?_)
          ·exact TotP.okT
          ·exact TotP.okT
theorem QmJ (n1:TNet)(k2:Int)(h_n1:QH n1):TotP (QbH n1 k2) fun r=>True:=by
 unfold QbH
 refine TotP.bind (QhX n1.Tasks k2 (h_n1.2.2.1)) (fun x_1 hv2=>?_)
 refine TotP.bif (fun hc3=>?_) (fun hc3=>?_)
 ·exact TotP.okT
 ·refine TotP.bind (QkW n1 (h_n1)) (fun x_4 hv5=>?_)
  refine TotP.bif (fun hc6=>?_) (fun hc6=>?_)
  ·exact TotP.okT
  ·refine TotP.bind (TotP.idx (by simp_all) (by simp_all)) (fun e_7 hv8=>?_)
   refine TotP.bind (TotP.idx (by simp_all) (by simp_all)) (fun e_9 hv10=>?_)
   refine TotP.bind (Qqv 0 n1 e_7 (h_n1) (((h_n1.2.2.1).2 e_7 hv8))) (fun x_11 hv12=>?_)
   refine TotP.bind (Qoj 0 n1 e_7 (e_9.Vars.length:Int) (h_n1) (((h_n1.2.2.1).2 e_7 hv8))) (fun x_13 hv14=>?_)
   refine TotP.bind (Qok 0 n1 e_7 (e_9.Vars.length:Int) (h_n1) (((h_n1.2.2.1).2 e_7 hv8))) (fun x_15 hv16=>?_)
   refine TotP.bind (Qol 0 n1 e_7 (h_n1) (((h_n1.2.2.1).2 e_7 hv8))) (fun x_17 hv18=>?_)
   refine TotP.bind (Qos e_7 1 n1 k2 5 (e_9.Vars.length:Int) 2 0 (-1) 2 1 (-1) (-1) (-1) 11 (((h_n1.2.2.1).2 e_7 hv8)) (h_n1) (by simp_all) (by simp_all)) (fun x_19 hv20=>?_)
   refine TotP.bif (fun hc21=>?_) (fun hc21=>?_)
   ·exact TotP.okT
   ·exact TotP.okT
theorem Qqx (k1:Int)(p2:Qr)(v3:TNet)(h_p2:Qal p2)(h_v3:QH v3):TotP (Qfj k1 p2 v3) fun r=>True:=by
 unfold Qfj
 refine TotP.bind (QmJ v3 k1 (h_v3)) (fun x_1 hv2=>?_)
 exact TotP.okT
theorem QlV (l1:(List Qr))(v2:TNet)(h_l1:(lenL Qal) l1)(h_v2:QH v2):TotP (Qa6 l1 v2) fun r=>True:=by
 unfold Qa6
 refine TotP.bind (TotP.up (l1.length) (fun st=>st) (fun _=>True) (Q:=fun q=>True) rfl trivial (fun i2 st hi3 hn4 hj5=>?_)) (fun q6 hq7=>?_)
 ·obtain⟨x_1,hst⟩:∃y,y=st:=⟨_,rfl⟩
  subst hst
  replace hi3:x_1=(i2:Int):=hi3
  show TotP (Qan l1 v2 x_1) _
  unfold Qan
  refine TotP.bif (fun hc8=>?_) (fun hc8=>?_)
  ·refine TotP.bind (TotP.idx (by omega) (by simp_all)) (fun e_9 hv10=>?_)
   refine TotP.bind (Qqx x_1 e_9 v2 (((h_l1).2 e_9 hv10)) (h_v2)) (fun x_11 hv12=>?_)
   refine TotP.bif (fun hc13=>?_) (fun hc13=>?_)
   ·exact TotP.ok (Qn trivial)
   ·exact TotP.ok (QD ⟨(by simp_all),by subst hi3;exact Qy (by simp_all) (h_l1).1,trivial⟩)
  ·exact TotP.ok (Qn trivial)
 rcases q6 with q6 | q6
 ·show TotP (QbI q6.1 q6.2) _
  unfold QbI
  exact TotP.okT
 ·show TotP (QbJ) _
  unfold QbJ
  exact TotP.okT
theorem Qrs (n1:TNet)(h_n1:QH n1):TotP (QfR n1) fun r=>True:=by
 unfold QfR
 refine TotP.bind (Qqo n1 2 3 1 (h_n1)) (fun x_1 hv2=>?_)
 refine TotP.bif (fun hc3=>?_) (fun hc3=>?_)
 ·exact TotP.okT
 ·refine TotP.bind (QkW n1 (h_n1)) (fun x_4 hv5=>?_)
  refine TotP.bif (fun hc6=>?_) (fun hc6=>?_)
  ·exact TotP.okT
  ·refine TotP.bind (QlG n1.Places n1 (h_n1.2.1) (h_n1)) (fun x_7 hv8=>?_)
   refine TotP.bif (fun hc9=>?_) (fun hc9=>?_)
   ·exact TotP.okT
   ·refine TotP.bind (QlV n1.Tasks n1 (h_n1.2.2.1) (h_n1)) (fun x_10 hv11=>?_)
    refine TotP.bif (fun hc12=>?_) (fun hc12=>?_)
    ·exact TotP.okT
    ·exact TotP.okT
theorem Qr5 (a1:Int)(b2:Int)  : TotP (Qjt a1 b2) fun r=>True:=by
 unfold Qjt
 refine TotP.bif (fun hc1=>?_) (fun hc1=>?_)
 ·exact TotP.okT
 ·exact TotP.okT
theorem QnI (a1:Int)(b2:Int)  : TotP (QdW a1 b2) fun r=>True:=by
 unfold QdW
 refine TotP.bif (fun hc1=>?_) (fun hc1=>?_)
 ·exact TotP.okT
 ·exact TotP.okT
theorem Qno (a1:Int)  : TotP (Qg6 a1) fun r=>True:=by
 unfold Qg6
 refine TotP.bif (fun hc1=>?_) (fun hc1=>?_)
 ·exact TotP.okT
 ·exact TotP.okT
theorem QnJ (p1:Int)(y2:Int)  : TotP (QdX p1 y2) fun r=>True:=by
 unfold QdX
 exact TotP.okT
theorem QpO (a1:Int)(b2:Int)  : TotP (Qf7 a1 b2) fun r=>True:=by
 unfold Qf7
 refine TotP.bind (Qno a1 ) (fun x_1 hv2=>?_)
 refine TotP.bind (Qno b2 ) (fun x_3 hv4=>?_)
 refine TotP.bind (QnJ x_1 x_3 ) (fun x_5 hv6=>?_)
 refine TotP.bif (fun hc7=>?_) (fun hc7=>?_)
 ·unfold QcS
  refine TotP.bif (fun hc8=>?_) (fun hc8=>?_)
  ·exact TotP.okT
  ·exact TotP.okT
 ·unfold QcS
  refine TotP.bif (fun hc9=>?_) (fun hc9=>?_)
  ·exact TotP.okT
  ·exact TotP.okT
theorem QkY (a1:Int)(b2:Int)  : TotP (QdC a1 b2) fun r=>True:=by
 unfold QdC
 refine TotP.bif (fun hc1=>?_) (fun hc1=>?_)
 ·exact TotP.okT
 ·refine TotP.bif (fun hc2=>?_) (fun hc2=>?_)
  ·exact TotP.okT
  ·refine TotP.bind (TotP.chk (by simp_all)) (fun _ _=>?_)
   refine TotP.bind (TotP.chk (by simp_all)) (fun _ _=>?_)
   exact TotP.okT
theorem Qdx (is1:Bool)  : TotP (Qce is1) fun r=>True:=by
 unfold Qce
 refine TotP.bif (fun hc1=>?_) (fun hc1=>?_)
 ·exact TotP.okT
 ·exact TotP.okT
theorem QiG (op1:Int)(a2:Int)(b3:Int)  : TotP (Qgy op1 a2 b3) fun r=>True:=by
 unfold Qgy
 refine TotP.bif (fun hc1=>?_) (fun hc1=>?_)
 ·refine TotP.bind (Qr5 a2 b3 ) (fun x_2 hv3=>?_)
  exact TotP.okT
 ·refine TotP.bif (fun hc4=>?_) (fun hc4=>?_)
  ·refine TotP.bind (QnI a2 b3 ) (fun x_5 hv6=>?_)
   exact TotP.okT
  ·refine TotP.bif (fun hc7=>?_) (fun hc7=>?_)
   ·refine TotP.bind (QpO a2 b3 ) (fun x_8 hv9=>?_)
    exact TotP.okT
   ·refine TotP.bif (fun hc10=>?_) (fun hc10=>?_)
    ·refine TotP.bind (QkY a2 b3 ) (fun x_11 hv12=>?_)
     exact TotP.okT
    ·refine TotP.bif (fun hc13=>?_) (fun hc13=>?_)
     ·refine TotP.bind (QkY a2 b3 ) (fun x_14 hv15=>?_)
      exact TotP.okT
     ·refine TotP.bif (fun hc16=>?_) (fun hc16=>?_)
      ·refine TotP.bind (Qdx (a2==b3) ) (fun x_17 hv18=>?_)
       exact TotP.okT
      ·refine TotP.bif (fun hc19=>?_) (fun hc19=>?_)
       ·refine TotP.bind (Qdx (a2 != b3) ) (fun x_20 hv21=>?_)
        exact TotP.okT
       ·refine TotP.bif (fun hc22=>?_) (fun hc22=>?_)
        ·refine TotP.bind (Qdx (decide (a2<b3)) ) (fun x_23 hv24=>?_)
         exact TotP.okT
        ·refine TotP.bif (fun hc25=>?_) (fun hc25=>?_)
         ·refine TotP.bind (Qdx (decide (a2≤b3)) ) (fun x_26 hv27=>?_)
          exact TotP.okT
         ·refine TotP.bif (fun hc28=>?_) (fun hc28=>?_)
          ·refine TotP.bind (P:=fun _=>True) ?_ (fun v_29 hv30=>?_)
           ·unfold Qlk
            refine TotP.bif (fun hc31=>?_) (fun hc31=>?_)
            ·refine TotP.bind (Qdx (b3 != 0) ) (fun x_32 hv33=>?_)
             exact TotP.okT
            ·refine TotP.bind (Qdx false ) (fun x_34 hv35=>?_)
             exact TotP.okT
           unfold QhL
           exact TotP.okT
          ·refine TotP.bif (fun hc36=>?_) (fun hc36=>?_)
           ·refine TotP.bind (P:=fun _=>True) ?_ (fun v_37 hv38=>?_)
            ·unfold Qll
             refine TotP.bif (fun hc39=>?_) (fun hc39=>?_)
             ·refine TotP.bind (Qdx true ) (fun x_40 hv41=>?_)
              exact TotP.okT
             ·refine TotP.bind (Qdx (b3 != 0) ) (fun x_42 hv43=>?_)
              exact TotP.okT
            unfold QhM
            exact TotP.okT
           ·exact TotP.okT
theorem Qot (a1:Int)  : TotP (Qjv a1) fun r=>True:=by
 unfold Qjv
 refine TotP.bind (QiG 2 0 a1 ) (fun x_1 hv2=>?_)
 exact TotP.okT
end Go.Proofs
