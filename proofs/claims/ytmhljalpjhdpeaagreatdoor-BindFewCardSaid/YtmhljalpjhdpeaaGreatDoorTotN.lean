/- A part of the proof; what it holds is told at each theorem. -/
import Derived.Test.YtmhljalpjhdpeaaGreatDoorT3
import Derived.Test.YtmhljalpjhdpeaaGreatDoorXPlT
import Derived.KernelRfl
set_option linter.unusedVariables false
set_option linter.unusedSimpArgs false
set_option linter.unusedSectionVars false
set_option linter.deprecated false
noncomputable section
namespace Go.Proofs
open Go Go.RowKit Go.Vm
inductive Qcj : Qf→Prop where
 | mk (e:Qf):e.Kids.length≤maxLen→(∀k∈e.Kids,Qcj k)→Qcj e
theorem Qdl {e:Qf}(h:Qcj e):lenL Qcj e.Kids:=by
 cases h with
 | mk _ h1 h2=>exact⟨h1,h2⟩
theorem Qnw {e k:Qf}(h:k∈e.Kids):SizeOf.sizeOf k<SizeOf.sizeOf e:=by
 obtain⟨a,b,l⟩:=e
 have:=List.sizeOf_lt_of_mem h
 simp only [Qf.mk.sizeOf_spec]at *
 omega
theorem Qf.pos (e:Qf):0<SizeOf.sizeOf e:=by
 obtain⟨a,b,l⟩:=e
 simp only [Qf.mk.sizeOf_spec];omega
inductive POk (v:Int):Qf→Prop where
 | mk (e:Qf):(e.Kind=1∨e.Kind=2∨e.Kind=3∨e.Kind=4∨e.Kind=5∨e.Kind=6)→(e.Kind=2→0≤e.Num∧e.Num<v)→(e.Kind=3∨e.Kind=4→e.Kids.length=1)→(e.Kind=5→e.Kids.length=2)→(e.Kind=6→e.Kids.length=3)→(∀k∈e.Kids,POk v k)→POk v e
def QbH (x:Qw):Prop:=QeM x.Name∧True∧True∧True∧(lenL QeM) x.Names∧True∧True
def QbS (x:QB):Prop:=QeM x.Name∧True∧(lenL (fun _=>True)) x.First
def QcS (x:TVar):Prop:=QeM x.Name∧True
def Qhy (x:TArc):Prop:=True∧Qcj x.Expr
def Qam (x:Qr):Prop:=QeM x.Name∧(lenL QcS) x.Vars∧Qcj x.Guard∧True∧True∧(lenL Qhy) x.Ins∧(lenL Qhy) x.Outs∧(lenL (fun _=>True)) x.Cancel∧True∧True
def QH (x:TNet):Prop:=(lenL QbH) x.Colours∧(lenL QbS) x.Places∧(lenL Qam) x.Tasks∧True∧True
def Qqs (x:Q8):Prop:=(lenL QbH) x.all∧(lenL (fun _=>True)) x.sizes∧True
theorem Qpx (v1:TNet)(h_v1:QH v1):TotP (QgB v1) fun r=>True:=by
 unfold QgB
 exact TotP.okT
theorem Qbx (l1:(List QB))(k2:Int)(h_l1:(lenL QbS) l1):TotP (Qaa l1 k2) fun r=>r=true→0≤k2∧k2<l1.length:=by
 unfold Qaa
 exact TotP.ok (by first | (intro hr;first | (cases hr;done) | omega | ((try simp only [Bool.and_eq_true,Bool.or_eq_true,Bool.or_eq_false_iff,Bool.not_eq_true',Bool.not_eq_false',decide_eq_true_eq,decide_eq_false_iff_not,beq_iff_eq,bne_iff_ne,ne_eq,Bool.not_eq_true,Bool.not_eq_false,List.length_append,List.length_singleton,List.length_nil,List.length_drop,List.length_take,List.length_cons,QiJ,QiK,QhP]at *);omega)) | ((try simp only [Bool.and_eq_true,Bool.or_eq_true,Bool.or_eq_false_iff,Bool.not_eq_true',Bool.not_eq_false',decide_eq_true_eq,decide_eq_false_iff_not,beq_iff_eq,bne_iff_ne,ne_eq,Bool.not_eq_true,Bool.not_eq_false,List.length_append,List.length_singleton,List.length_nil,List.length_drop,List.length_take,List.length_cons,QiJ,QiK,QhP]at *);omega) | simp_all)
theorem Qpy (v1:TNet)(h_v1:QH v1):TotP (QgC v1) fun r=>True:=by
 unfold QgC
 refine TotP.bind (P:=fun _=>True) ?_ (fun x_1 hv2=>?_)
 ·unfold QiC
  refine TotP.bind (Qbx v1.Places v1.From (h_v1.2.1)) (fun x_3 hv4=>?_)
  refine TotP.bif (fun hc5=>?_) (fun hc5=>?_)
  ·refine TotP.bind (Qbx v1.Places v1.To (h_v1.2.1)) (fun x_6 hv7=>?_)
   exact TotP.okT
  ·exact TotP.okT
 unfold Qer
 exact TotP.okT
theorem Qpz (v1:TNet)(h_v1:QH v1):TotP (QgD v1) fun r=>True:=by
 unfold QgD
 exact TotP.okT
theorem QpA (v1:TNet)(v2:Int)(v3:Int)(v4:Int)(h_v1:QH v1):TotP (QgE v1 v2 v3 v4) fun r=>True:=by
 unfold QgE
 refine TotP.bind (Qpx v1 (h_v1)) (fun x_1 hv2=>?_)
 refine TotP.bif (fun hc3=>?_) (fun hc3=>?_)
 ·exact TotP.okT
 ·refine TotP.bind (Qpy v1 (h_v1)) (fun x_4 hv5=>?_)
  refine TotP.bif (fun hc6=>?_) (fun hc6=>?_)
  ·exact TotP.okT
  ·refine TotP.bind (Qpz v1 (h_v1)) (fun x_7 hv8=>?_)
   refine TotP.bif (fun hc9=>?_) (fun hc9=>?_)
   ·exact TotP.okT
   ·exact TotP.okT
theorem QpB (lo1:Int)(hi2:Int)  : TotP (Qgy lo1 hi2) fun r=>True:=by
 unfold Qgy
 refine TotP.bif (fun hc1=>?_) (fun hc1=>?_)
 ·exact TotP.okT
 ·exact TotP.okT
theorem Qkg (c1:Int)  : TotP (Qdo c1) fun r=>True:=by
 unfold Qdo
 exact TotP.okT
theorem Qjo (s1:ByteArray)(h_s1:QeM s1):TotP (QdB s1) fun r=>True:=by
 unfold QdB
 refine TotP.bind (P:=fun _=>True) ?_ (fun x_1 hv2=>?_)
 ·unfold Qis
  refine TotP.bif (fun hc3=>?_) (fun hc3=>?_)
  ·exact TotP.okT
  ·have hshc3:=QsI hc3
   refine TotP.bif (fun hc4=>?_) (fun hc4=>?_)
   ·exact TotP.okT
   ·refine TotP.bind (TotP.sidx (by omega) (by omega)) (fun c_5 hv6=>?_)
    refine TotP.bind (Qkg c_5 ) (fun x_7 hv8=>?_)
    exact TotP.okT
 unfold Qej
 refine TotP.bif (fun hc9=>?_) (fun hc9=>?_)
 ·exact TotP.okT
 ·refine TotP.bind (TotP.up (s1.size) (fun st=>st) (fun _=>True) (Q:=fun q=>True) rfl trivial (fun i11 st hi12 hn13 hj14=>?_)) (fun q15 hq16=>?_)
  ·obtain⟨x_10,hst⟩:∃y,y=st:=⟨_,rfl⟩
   subst hst
   replace hi12:x_10=(i11:Int):=hi12
   show TotP (QcU s1 x_10) _
   unfold QcU
   refine TotP.bif (fun hc17=>?_) (fun hc17=>?_)
   ·refine TotP.bind (TotP.sidx (by omega) (by simp_all)) (fun c_18 hv19=>?_)
    refine TotP.bind (P:=fun _=>True) ?_ (fun x_20 hv21=>?_)
    ·unfold Qit
     refine TotP.bind (Qkg c_18 ) (fun x_22 hv23=>?_)
     refine TotP.bif (fun hc24=>?_) (fun hc24=>?_)
     ·refine TotP.bif (fun hc25=>?_) (fun hc25=>?_)
      ·exact TotP.okT
      ·refine TotP.bif (fun hc26=>?_) (fun hc26=>?_)
       ·exact TotP.okT
       ·exact TotP.okT
     ·exact TotP.okT
    unfold Qeg
    refine TotP.bif (fun hc27=>?_) (fun hc27=>?_)
    ·exact TotP.ok (Qp trivial)
    ·exact TotP.ok (QD ⟨(by simp_all),by subst hi12;exact Qz (by simp_all) h_s1,trivial⟩)
   ·exact TotP.ok (Qp trivial)
  rcases q15 with q15 | q15
  ·show TotP (Qeh) _
   unfold Qeh
   exact TotP.okT
  ·show TotP (Qei) _
   unfold Qei
   exact TotP.okT
theorem QoQ (l1:(List ByteArray))(h_l1:(lenL QeM) l1):TotP (QfR l1) fun r=>True:=by
 unfold QfR
 refine TotP.bind (TotP.up (l1.length) (fun st=>st.1) (fun _=>True) (Q:=fun q=>True) rfl trivial (fun i3 st hi4 hn5 hj6=>?_)) (fun q7 hq8=>?_)
 ·obtain⟨x_1,m_2⟩:=st
  replace hi4:x_1=(i3:Int):=hi4
  show TotP (Qcz l1 x_1 m_2) _
  unfold Qcz
  refine TotP.bif (fun hc9=>?_) (fun hc9=>?_)
  ·refine TotP.bind (TotP.idx (by omega) (by simp_all)) (fun e_10 hv11=>?_)
   refine TotP.bind (P:=fun _=>True) ?_ (fun x_12 hv13=>?_)
   ·unfold QhT
    refine TotP.bind (Qjo e_10 (((h_l1).2 e_10 hv11))) (fun x_14 hv15=>?_)
    refine TotP.bif (fun hc16=>?_) (fun hc16=>?_)
    ·exact TotP.okT
    ·exact TotP.okT
   unfold QdF
   refine TotP.bif (fun hc17=>?_) (fun hc17=>?_)
   ·exact TotP.ok (Qp trivial)
   ·exact TotP.ok (QD ⟨(by simp_all),by subst hi4;exact Qz (by simp_all) (h_l1).1,trivial⟩)
  ·exact TotP.ok (Qp trivial)
 rcases q7 with q7 | q7
 ·show TotP (QdG) _
  unfold QdG
  exact TotP.okT
 ·show TotP (QdH) _
  unfold QdH
  exact TotP.okT
theorem QpC (c1:Qw)(ahead2:(List Int))(h_c1:QbH c1)(h_ahead2:(lenL (fun _=>True)) ahead2):TotP (Qgz c1 ahead2) fun r=>True:=by
 unfold Qgz
 refine TotP.bif (fun hc1=>?_) (fun hc1=>?_)
 ·refine TotP.bind (QpB c1.Lo c1.Hi ) (fun x_2 hv3=>?_)
  exact TotP.okT
 ·refine TotP.bif (fun hc4=>?_) (fun hc4=>?_)
  ·refine TotP.bind (QoQ c1.Names (h_c1.2.2.2.2.1)) (fun x_5 hv6=>?_)
   refine TotP.bif (fun hc7=>?_) (fun hc7=>?_)
   ·exact TotP.okT
   ·unfold Qby
    exact TotP.okT
  ·refine TotP.bif (fun hc8=>?_) (fun hc8=>?_)
   ·refine TotP.bif (fun hc9=>?_) (fun hc9=>?_)
    ·refine TotP.bind (TotP.idx (by(try simp only [Bool.and_eq_true,Bool.or_eq_true,Bool.or_eq_false_iff,Bool.not_eq_true',Bool.not_eq_false',decide_eq_true_eq,decide_eq_false_iff_not,beq_iff_eq,bne_iff_ne,ne_eq,Bool.not_eq_true,Bool.not_eq_false,List.length_append,List.length_singleton,List.length_nil,List.length_drop,List.length_take,List.length_cons,QiJ,QiK,QhP]at *);omega) (by(try simp only [Bool.and_eq_true,Bool.or_eq_true,Bool.or_eq_false_iff,Bool.not_eq_true',Bool.not_eq_false',decide_eq_true_eq,decide_eq_false_iff_not,beq_iff_eq,bne_iff_ne,ne_eq,Bool.not_eq_true,Bool.not_eq_false,List.length_append,List.length_singleton,List.length_nil,List.length_drop,List.length_take,List.length_cons,QiJ,QiK,QhP]at *);omega)) (fun e_10 hv11=>?_)
     refine TotP.bind (TotP.idx (by(try simp only [Bool.and_eq_true,Bool.or_eq_true,Bool.or_eq_false_iff,Bool.not_eq_true',Bool.not_eq_false',decide_eq_true_eq,decide_eq_false_iff_not,beq_iff_eq,bne_iff_ne,ne_eq,Bool.not_eq_true,Bool.not_eq_false,List.length_append,List.length_singleton,List.length_nil,List.length_drop,List.length_take,List.length_cons,QiJ,QiK,QhP]at *);omega) (by(try simp only [Bool.and_eq_true,Bool.or_eq_true,Bool.or_eq_false_iff,Bool.not_eq_true',Bool.not_eq_false',decide_eq_true_eq,decide_eq_false_iff_not,beq_iff_eq,bne_iff_ne,ne_eq,Bool.not_eq_true,Bool.not_eq_false,List.length_append,List.length_singleton,List.length_nil,List.length_drop,List.length_take,List.length_cons,QiJ,QiK,QhP]at *);omega)) (fun e_12 hv13=>?_)
     exact TotP.okT
    ·unfold Qby
     exact TotP.okT
   ·unfold Qby
    exact TotP.okT
theorem Qk0 (l1:(List Qw))(h_l1:(lenL QbH) l1):TotP (Qd1 l1) fun r=>((lenL (fun _=>True)) r.1∧True)∧(r.2=true→r.1.length=l1.length∧∀x∈r.1,1≤x∧x≤1024):=by
 unfold Qd1
 refine TotP.bif (fun hc=>TotP.ok ⟨⟨lenL.nil,trivial⟩,fun h=>by cases h⟩) (fun hc=>?_)
 have hl:l1.length≤32:=by simp only [decide_eq_false_iff_not]at hc;omega
 refine TotP.bind (TotP.up l1.length (fun st=>st.1) (fun st=>(st.2.2.length:Int)=st.1∧∀x∈st.2.2,1≤x∧x≤1024) (Q:=fun q=>∀l,q=.inr l→l.length=l1.length∧∀x∈l,1≤x∧x≤1024) rfl ⟨rfl,fun x h=>(by cases h)⟩ (fun i st hi hn hj=>?_)) (fun q hq=>?_)
 ·obtain⟨x,m,l⟩:=st
  replace hi:x=(i:Int):=hi
  replace hj:(l.length:Int)=x∧∀x∈l,1≤x∧x≤1024:=hj
  obtain⟨hj,hj2⟩:=hj
  show TotP (QcA l1 x m l) _
  unfold QcA
  refine TotP.bif (fun hc2=>?_) (fun hc2=>?_)
  ·simp only [decide_eq_true_eq]at hc2
   refine TotP.bind (TotP.idx (by omega) (by omega)) fun e he=>?_
   refine TotP.bind (QpC e l (h_l1.2 e he) ⟨by unfold maxLen;omega,fun _ _=>trivial⟩) fun y _=>?_
   refine TotP.bind (P:=fun z=>z=false→1≤y∧y≤1024) ?_ fun z hz=>?_
   ·unfold QhU
    refine TotP.bind (Qjo e.Name (h_l1.2 e he).1) fun z _=>?_
    refine TotP.bif (fun _=>TotP.ok (fun h=>by cases h)) fun _=>TotP.bif (fun _=>TotP.ok (fun h=>by cases h)) fun _=>TotP.bif (fun _=>TotP.ok (fun h=>by cases h)) fun h1=>TotP.ok fun h2=>?_
    simp only [decide_eq_false_iff_not]at h1 h2
    omega
   unfold QdI
   refine TotP.bif (fun _=>TotP.ok (Qp fun l h=>by cases h)) fun hz0=>?_
   refine TotP.bind (TotP.chk (by simp;omega)) fun _ _=>?_
   exact TotP.ok (QD ⟨by omega,by subst hi;exact Qz (by omega) (by unfold maxLen;omega:l1.length≤maxLen),by simp only [List.length_append,List.length_singleton];subst hi;rw [Qz (show i<l1.length by omega) (by unfold maxLen;omega)];omega,fun u hu=>by
    rcases List.mem_append.1 hu with hu | hu
    ·exact hj2 u hu
    ·simp at hu;subst hu;exact hz hz0⟩)
  ·simp only [decide_eq_false_iff_not]at hc2
   exact TotP.ok (Qp fun l' h=>by cases h;exact⟨by omega,hj2⟩)
 ·rcases q with q | q
  ·exact TotP.ok ⟨⟨lenL.nil,trivial⟩,fun h=>by cases h⟩
  ·have:=hq q rfl
   exact TotP.ok ⟨⟨⟨by show q.length≤maxLen;unfold maxLen;omega,fun _ _=>trivial⟩,trivial⟩,fun _=>this⟩
theorem QoR (l1:(List Qw))(h_l1:(lenL QbH) l1):TotP (QfY l1) fun r=>True:=by
 unfold QfY
 refine TotP.bind (Qk0 l1 (h_l1)) (fun x_1 hv2=>?_)
 exact TotP.okT
theorem QlR (v1:TNet)(v2:Int)(h_v1:QH v1)(hp0:0≤v2)(hp1:v2<v1.Colours.length):TotP (QcJ v1 v2) fun r=>True:=by
 have hl:=h_v1.1.1
 unfold maxLen at hl
 unfold QcJ
 rw [Qfn (show -9223372036854775808≤v2+1∧v2+1≤9223372036854775807 by omega)]
 refine TotP.bind (TotP.chk (by simp only [Bool.and_eq_true,decide_eq_true_eq];omega)) fun _ _=>?_
 exact TotP.bind (QoR _ ((h_v1.1.drop _).take _)) fun x _=>TotP.okT
def QpD : List ByteArray:=(QeX).getD []
set_option maxRecDepth 100000 in
theorem Qtn : QeX=some QpD:=by kernel_rfl
set_option maxRecDepth 100000 in
theorem Qrr : (decide (QpD.length≤1000)&&QpD.all fun s=>decide (s.size≤1000))=true:=by kernel_rfl
theorem QpE : TotP (QeX) fun r=>lenL QeM r:=by
 have h:=Qrr
 rw [Bool.and_eq_true,decide_eq_true_iff,List.all_eq_true]at h
 refine⟨QpD,Qtn,by unfold maxLen;omega,fun x hx=>?_⟩
 have:=h.2 x hx
 rw [decide_eq_true_iff]at this
 unfold QeM maxLen;omega
theorem Qjp (s1:(List ByteArray))(v2:ByteArray)(h_s1:(lenL QeM) s1)(h_v2:QeM v2):TotP (Qa4 s1 v2) fun r=>True:=by
 unfold Qa4
 refine TotP.bind (TotP.up (s1.length) (fun st=>st) (fun _=>True) (Q:=fun q=>True) rfl trivial (fun i2 st hi3 hn4 hj5=>?_)) (fun q6 hq7=>?_)
 ·obtain⟨x_1,hst⟩:∃y,y=st:=⟨_,rfl⟩
  subst hst
  replace hi3:x_1=(i2:Int):=hi3
  show TotP (Qal s1 v2 x_1) _
  unfold Qal
  refine TotP.bif (fun hc8=>?_) (fun hc8=>?_)
  ·refine TotP.bind (TotP.idx (by omega) (by simp_all)) (fun e_9 hv10=>?_)
   refine TotP.bif (fun hc11=>?_) (fun hc11=>?_)
   ·exact TotP.ok (Qp trivial)
   ·exact TotP.ok (QD ⟨(by simp_all),by subst hi3;exact Qz (by simp_all) (h_s1).1,trivial⟩)
  ·exact TotP.ok (Qp trivial)
 rcases q6 with q6 | q6
 ·show TotP (QaH q6) _
  unfold QaH
  exact TotP.okT
 ·show TotP (QaI) _
  unfold QaI
  exact TotP.okT
theorem Qif (s1:(List ByteArray))(v2:ByteArray)(h_s1:(lenL QeM) s1)(h_v2:QeM v2):TotP (QaJ s1 v2) fun r=>True:=by
 unfold QaJ
 refine TotP.bind (Qjp s1 v2 (h_s1) (h_v2)) (fun x_1 hv2=>?_)
 exact TotP.okT
theorem Qp2 (s1:ByteArray)(h_s1:QeM s1):TotP (Qhr s1) fun r=>True:=by
 unfold Qhr
 refine TotP.bind (QpE  ) (fun x_1 hv2=>?_)
 refine TotP.bind (Qif x_1 s1 (hv2) (h_s1)) (fun x_3 hv4=>?_)
 exact TotP.okT
theorem Qga (s1:ByteArray)(h_s1:QeM s1):TotP (Qcu s1) fun r=>True:=by
 unfold Qcu
 refine TotP.bind (P:=fun _=>True) ?_ (fun x_1 hv2=>?_)
 ·unfold Qji
  refine TotP.bind (Qjo s1 (h_s1)) (fun x_3 hv4=>?_)
  refine TotP.bif (fun hc5=>?_) (fun hc5=>?_)
  ·refine TotP.bind (Qp2 s1 (h_s1)) (fun x_6 hv7=>?_)
   exact TotP.okT
  ·exact TotP.okT
 unfold Qe8
 exact TotP.okT
theorem Qk8 (s1:ByteArray)(h_s1:QeM s1):TotP (Qcc s1) fun r=>True:=by
 unfold Qcc
 refine TotP.bind (Qga s1 (h_s1)) (fun x_1 hv2=>?_)
 exact TotP.okT
theorem Qh0 (s1:(List ByteArray))(h_s1:(lenL QeM) s1):TotP (QaB s1) fun r=>True:=by
 unfold QaB
 refine TotP.bind (TotP.up (s1.length) (fun st=>st) (fun _=>True) (Q:=fun q=>True) rfl trivial (fun i2 st hi3 hn4 hj5=>?_)) (fun q6 hq7=>?_)
 ·obtain⟨x_1,hst⟩:∃y,y=st:=⟨_,rfl⟩
  subst hst
  replace hi3:x_1=(i2:Int):=hi3
  show TotP (QZ s1 x_1) _
  unfold QZ
  refine TotP.bif (fun hc8=>?_) (fun hc8=>?_)
  ·refine TotP.bind (TotP.idx (by omega) (by simp_all)) (fun e_9 hv10=>?_)
   refine TotP.bind (Qk8 e_9 (((h_s1).2 e_9 hv10))) (fun x_11 hv12=>?_)
   refine TotP.bif (fun hc13=>?_) (fun hc13=>?_)
   ·exact TotP.ok (Qp trivial)
   ·exact TotP.ok (QD ⟨(by simp_all),by subst hi3;exact Qz (by simp_all) (h_s1).1,trivial⟩)
  ·exact TotP.ok (Qp trivial)
 rcases q6 with q6 | q6
 ·show TotP (Qaq q6) _
  unfold Qaq
  exact TotP.okT
 ·show TotP (Qar) _
  unfold Qar
  exact TotP.okT
theorem Qhb (s1:(List ByteArray))(h_s1:(lenL QeM) s1):TotP (Qas s1) fun r=>True:=by
 unfold Qas
 refine TotP.bind (Qh0 s1 (h_s1)) (fun x_1 hv2=>?_)
 exact TotP.okT
theorem QlS (v1:Qw)(h_v1:QbH v1):TotP (QcK v1) fun r=>True:=by
 unfold QcK
 refine TotP.bind (P:=fun _=>True) ?_ (fun x_1 hv2=>?_)
 ·unfold Qfy
  refine TotP.bind (Qga v1.Name (h_v1.1)) (fun x_3 hv4=>?_)
  refine TotP.bif (fun hc5=>?_) (fun hc5=>?_)
  ·refine TotP.bif (fun hc6=>?_) (fun hc6=>?_)
   ·exact TotP.okT
   ·refine TotP.bind (Qhb v1.Names (h_v1.2.2.2.2.1)) (fun x_7 hv8=>?_)
    exact TotP.okT
  ·exact TotP.okT
 unfold Qb1
 exact TotP.okT
theorem Qnx (v1:TNet)(v2:Int)(v3:Int)(v4:Qw)(v5:Int)(h_v1:QH v1)(h_v4:QbH v4)(hp0:0≤v2)(hp1:v2<v1.Colours.length):TotP (Qes v1 v2 v3 v4 v5) fun r=>True:=by
 unfold Qes
 refine TotP.bind (QlR v1 v2 (h_v1) (by omega) (by omega)) (fun x_1 hv2=>?_)
 refine TotP.bif (fun hc3=>?_) (fun hc3=>?_)
 ·exact TotP.okT
 ·refine TotP.bind (QlS v4 (h_v4)) (fun x_4 hv5=>?_)
  refine TotP.bif (fun hc6=>?_) (fun hc6=>?_)
  ·exact TotP.okT
  ·exact TotP.okT
theorem QmS (k1:Int)(c2:Qw)(v3:TNet)(h_c2:QbH c2)(h_v3:QH v3)(hp0:0≤k1)(hp1:k1<v3.Colours.length):TotP (QdN k1 c2 v3) fun r=>True:=by
 unfold QdN
 refine TotP.bind (Qnx v3 k1 8 c2 8 (h_v3) (h_c2) (by omega) (by omega)) (fun x_1 hv2=>?_)
 exact TotP.okT
theorem Qkq (l1:(List Qw))(v2:TNet)(h_l1:(lenL QbH) l1)(h_v2:QH v2)(hp0:l1.length≤v2.Colours.length):TotP (QbM l1 v2) fun r=>True:=by
 unfold QbM
 refine TotP.bind (TotP.up (l1.length) (fun st=>st) (fun _=>True) (Q:=fun q=>True) rfl trivial (fun i2 st hi3 hn4 hj5=>?_)) (fun q6 hq7=>?_)
 ·obtain⟨x_1,hst⟩:∃y,y=st:=⟨_,rfl⟩
  subst hst
  replace hi3:x_1=(i2:Int):=hi3
  show TotP (QaL l1 v2 x_1) _
  unfold QaL
  refine TotP.bif (fun hc8=>?_) (fun hc8=>?_)
  ·refine TotP.bind (TotP.idx (by omega) (by simp_all)) (fun e_9 hv10=>?_)
   refine TotP.bind (QmS x_1 e_9 v2 (((h_l1).2 e_9 hv10)) (h_v2) (by omega) (by simp_all;omega)) (fun x_11 hv12=>?_)
   refine TotP.bif (fun hc13=>?_) (fun hc13=>?_)
   ·exact TotP.ok (Qp trivial)
   ·exact TotP.ok (QD ⟨(by simp_all),by subst hi3;exact Qz (by simp_all) (h_l1).1,trivial⟩)
  ·exact TotP.ok (Qp trivial)
 rcases q6 with q6 | q6
 ·show TotP (Qbj q6.1 q6.2) _
  unfold Qbj
  exact TotP.okT
 ·show TotP (Qbk) _
  unfold Qbk
  exact TotP.okT
theorem Qkh (n1:TNet)(h_n1:QH n1):TotP (Qdv n1) fun r=>True:=by
 unfold Qdv
 refine TotP.bind (Qkq n1.Colours n1 (h_n1.1) (h_n1) (by omega)) (fun x_1 hv2=>?_)
 exact TotP.okT
theorem Qoe (v1:QB)(h_v1:QbS v1):TotP (Qfa v1) fun r=>True:=by
 unfold Qfa
 refine TotP.bind (Qga v1.Name (h_v1.1)) (fun x_1 hv2=>?_)
 exact TotP.okT
theorem Qof (p1:QB)(v2:QB)(h_p1:QbS p1)(h_v2:QbS v2):TotP (Qfb p1 v2) fun r=>True:=by
 unfold Qfb
 exact TotP.okT
theorem Qgu (s1:(List QB))(v2:QB)(h_s1:(lenL QbS) s1)(h_v2:QbS v2):TotP (Qab s1 v2) fun r=>True:=by
 unfold Qab
 refine TotP.bind (TotP.up (s1.length) (fun st=>st) (fun _=>True) (Q:=fun q=>True) rfl trivial (fun i2 st hi3 hn4 hj5=>?_)) (fun q6 hq7=>?_)
 ·obtain⟨x_1,hst⟩:∃y,y=st:=⟨_,rfl⟩
  subst hst
  replace hi3:x_1=(i2:Int):=hi3
  show TotP (QO s1 v2 x_1) _
  unfold QO
  refine TotP.bif (fun hc8=>?_) (fun hc8=>?_)
  ·refine TotP.bind (TotP.idx (by omega) (by simp_all)) (fun e_9 hv10=>?_)
   refine TotP.bind (Qof e_9 v2 (((h_s1).2 e_9 hv10)) (h_v2)) (fun x_11 hv12=>?_)
   refine TotP.bif (fun hc13=>?_) (fun hc13=>?_)
   ·exact TotP.ok (Qp trivial)
   ·exact TotP.ok (QD ⟨(by simp_all),by subst hi3;exact Qz (by simp_all) (h_s1).1,trivial⟩)
  ·exact TotP.ok (Qp trivial)
 rcases q6 with q6 | q6
 ·show TotP (QW q6) _
  unfold QW
  exact TotP.okT
 ·show TotP (QX) _
  unfold QX
  exact TotP.okT
theorem QfB (s1:(List QB))(v2:QB)(h_s1:(lenL QbS) s1)(h_v2:QbS v2):TotP (QY s1 v2) fun r=>True:=by
 unfold QY
 refine TotP.bind (Qgu s1 v2 (h_s1) (h_v2)) (fun x_1 hv2=>?_)
 exact TotP.okT
theorem Qog (v1:TNet)(v2:Int)(v3:QB)(h_v1:QH v1)(h_v3:QbS v3)(hp0:0≤v2)(hp1:v2<v1.Places.length):TotP (Qfc v1 v2 v3) fun r=>True:=by
 unfold Qfc
 refine TotP.bind (TotP.chk (by simp_all;omega)) (fun _ _=>?_)
 refine TotP.bind (QfB ((v1.Places.drop 0).take (v2.toNat-0)) v3 (((h_v1.2.1).drop _).take _) (h_v3)) (fun x_1 hv2=>?_)
 exact TotP.okT
theorem QgK (l1:(List Qw))(k2:Int)(h_l1:(lenL QbH) l1):TotP (Qa5 l1 k2) fun r=>True:=by
 unfold Qa5
 exact TotP.okT
theorem Qoh (v1:TNet)(v2:QB)(h_v1:QH v1)(h_v2:QbS v2):TotP (Qfd v1 v2) fun r=>True:=by
 unfold Qfd
 refine TotP.bind (QgK v1.Colours v2.Colour (h_v1.1)) (fun x_1 hv2=>?_)
 exact TotP.okT
theorem Qqt (b1:(List (Int×Int)))(h_b1:(lenL (fun _=>True)) b1):TotP (Qc3 b1) fun r=>True:=by
 unfold Qc3
 refine TotP.bind (TotP.up (b1.length) (fun st=>st.2) (fun _=>True) (Q:=fun q=>True) rfl trivial (fun i3 st hi4 hn5 hj6=>?_)) (fun q7 hq8=>?_)
 ·obtain⟨last_1,x_2⟩:=st
  replace hi4:x_2=(i3:Int):=hi4
  show TotP (Qa0 b1 last_1 x_2) _
  unfold Qa0
  refine TotP.bif (fun hc9=>?_) (fun hc9=>?_)
  ·refine TotP.bind (TotP.idx (by omega) (by simp_all)) (fun e_10 hv11=>?_)
   refine TotP.bif (fun hc12=>?_) (fun hc12=>?_)
   ·exact TotP.ok (Qp trivial)
   ·exact TotP.ok (QD ⟨(by simp_all),by subst hi4;exact Qz (by simp_all) (h_b1).1,trivial⟩)
  ·exact TotP.ok (Qp trivial)
 rcases q7 with q7 | q7
 ·show TotP (QfU) _
  unfold QfU
  exact TotP.okT
 ·show TotP (QfV) _
  unfold QfV
  exact TotP.okT
theorem Qoi (v1:QB)(h_v1:QbS v1):TotP (Qfe v1) fun r=>True:=by
 unfold Qfe
 refine TotP.bind (Qqt v1.First (h_v1.2.2)) (fun x_1 hv2=>?_)
 exact TotP.okT
theorem Qip (l1:(List Qw))(k2:Int)(h_l1:(lenL QbH) l1):TotP (QdZ l1 k2) fun r=>(True∧Qqs r.2)∧(r.1=true→(0≤k2∧k2<r.2.sizes.length)∧r.2.k=k2∧r.2.all.length=r.2.sizes.length∧∀x∈r.2.sizes,1≤x∧x≤1024):=by
 unfold QdZ
 refine TotP.bind (Qk0 l1 h_l1) fun x hx=>?_
 refine TotP.bif (fun _=>TotP.ok ⟨⟨trivial,lenL.nil,lenL.nil,trivial⟩,fun h=>by cases h⟩) fun hc=>?_
 simp only [Bool.or_eq_false_iff,Bool.not_eq_false',decide_eq_false_iff_not]at hc
 have:=hx.2 hc.1
 exact TotP.ok ⟨⟨trivial,h_l1,hx.1.1,trivial⟩,fun _=>⟨⟨by omega,by show k2<(x.1.length:Int);omega⟩,rfl,this.1.symm,this.2⟩⟩
theorem Qg9 (l1:(List Qw))(k2:Int)(h_l1:(lenL QbH) l1):TotP (QaK l1 k2) fun r=>0≤r∧r≤1024:=by
 unfold QaK
 refine TotP.bind (Qip l1 k2 h_l1) (fun x hx=>?_)
 refine TotP.bif (fun hc=>TotP.ok (by omega)) (fun hc=>?_)
 have h:=hx.2 (by simpa using hc)
 exact TotP.bind (TotP.idx (by omega) (by omega)) fun e he=>TotP.ok (by have:=h.2.2.2 e he;omega)
theorem QmT (row1:(Int×Int))(v2:Int)  : TotP (QdO row1 v2) fun r=>True:=by
 unfold QdO
 exact TotP.okT
theorem Qh1 (s1:(List (Int×Int)))(v2:Int)(h_s1:(lenL (fun _=>True)) s1):TotP (QaC s1 v2) fun r=>True:=by
 unfold QaC
 refine TotP.bind (TotP.up (s1.length) (fun st=>st) (fun _=>True) (Q:=fun q=>True) rfl trivial (fun i2 st hi3 hn4 hj5=>?_)) (fun q6 hq7=>?_)
 ·obtain⟨x_1,hst⟩:∃y,y=st:=⟨_,rfl⟩
  subst hst
  replace hi3:x_1=(i2:Int):=hi3
  show TotP (Q0 s1 v2 x_1) _
  unfold Q0
  refine TotP.bif (fun hc8=>?_) (fun hc8=>?_)
  ·refine TotP.bind (TotP.idx (by omega) (by simp_all)) (fun e_9 hv10=>?_)
   refine TotP.bind (QmT e_9 v2 ) (fun x_11 hv12=>?_)
   refine TotP.bif (fun hc13=>?_) (fun hc13=>?_)
   ·exact TotP.ok (Qp trivial)
   ·exact TotP.ok (QD ⟨(by simp_all),by subst hi3;exact Qz (by simp_all) (h_s1).1,trivial⟩)
  ·exact TotP.ok (Qp trivial)
 rcases q6 with q6 | q6
 ·show TotP (Qat q6) _
  unfold Qat
  exact TotP.okT
 ·show TotP (Qau) _
  unfold Qau
  exact TotP.okT
theorem Qhc (s1:(List (Int×Int)))(v2:Int)(h_s1:(lenL (fun _=>True)) s1):TotP (Qav s1 v2) fun r=>True:=by
 unfold Qav
 refine TotP.bind (Qh1 s1 v2 (h_s1)) (fun x_1 hv2=>?_)
 exact TotP.okT
theorem Qoj (v1:TNet)(v2:QB)(h_v1:QH v1)(h_v2:QbS v2):TotP (Qff v1 v2) fun r=>True:=by
 unfold Qff
 refine TotP.bind (Qg9 v1.Colours v2.Colour (h_v1.1)) (fun x_1 hv2=>?_)
 refine TotP.bind (Qhc v2.First x_1 (h_v2.2.2)) (fun x_3 hv4=>?_)
 exact TotP.okT
theorem Qny (v1:QB)(v2:Int)(v3:TNet)(v4:Int)(v5:Int)(v6:Int)(v7:Int)(v8:Int)(h_v1:QbS v1)(h_v3:QH v3)(hp0:0≤v4)(hp1:v4<v3.Places.length):TotP (Qet v1 v2 v3 v4 v5 v6 v7 v8) fun r=>True:=by
 unfold Qet
 refine TotP.bind (Qoe v1 (h_v1)) (fun x_1 hv2=>?_)
 refine TotP.bif (fun hc3=>?_) (fun hc3=>?_)
 ·exact TotP.okT
 ·refine TotP.bind (Qog v3 v4 v1 (h_v3) (h_v1) (by omega) (by omega)) (fun x_4 hv5=>?_)
  refine TotP.bif (fun hc6=>?_) (fun hc6=>?_)
  ·exact TotP.okT
  ·refine TotP.bind (Qoh v3 v1 (h_v3) (h_v1)) (fun x_7 hv8=>?_)
   refine TotP.bif (fun hc9=>?_) (fun hc9=>?_)
   ·exact TotP.okT
   ·refine TotP.bind (Qoi v1 (h_v1)) (fun x_10 hv11=>?_)
    refine TotP.bif (fun hc12=>?_) (fun hc12=>?_)
    ·exact TotP.okT
    ·refine TotP.bind (Qoj v3 v1 (h_v3) (h_v1)) (fun x_13 hv14=>?_)
     refine TotP.bif (fun hc15=>?_) (fun hc15=>?_)
     ·exact TotP.okT
     ·exact TotP.okT
theorem QpF (n1:TNet)(k2:Int)(h_n1:QH n1):TotP (QgF n1 k2) fun r=>True:=by
 unfold QgF
 refine TotP.bind (Qbx n1.Places k2 (h_n1.2.1)) (fun x_1 hv2=>?_)
 refine TotP.bif (fun hc3=>?_) (fun hc3=>?_)
 ·exact TotP.okT
 ·refine TotP.bind (TotP.idx (by simp_all) (by simp_all)) (fun e_4 hv5=>?_)
  refine TotP.bind (Qny e_4 1 n1 k2 5 3 1 8 (((h_n1.2.1).2 e_4 hv5)) (h_n1) (by simp_all) (by simp_all)) (fun x_6 hv7=>?_)
  exact TotP.okT
theorem QpG (k1:Int)(p2:QB)(v3:TNet)(h_p2:QbS p2)(h_v3:QH v3):TotP (QgG k1 p2 v3) fun r=>True:=by
 unfold QgG
 refine TotP.bind (QpF v3 k1 (h_v3)) (fun x_1 hv2=>?_)
 exact TotP.okT
theorem Qk1 (l1:(List QB))(v2:TNet)(h_l1:(lenL QbS) l1)(h_v2:QH v2):TotP (Qb2 l1 v2) fun r=>True:=by
 unfold Qb2
 refine TotP.bind (TotP.up (l1.length) (fun st=>st) (fun _=>True) (Q:=fun q=>True) rfl trivial (fun i2 st hi3 hn4 hj5=>?_)) (fun q6 hq7=>?_)
 ·obtain⟨x_1,hst⟩:∃y,y=st:=⟨_,rfl⟩
  subst hst
  replace hi3:x_1=(i2:Int):=hi3
  show TotP (QaT l1 v2 x_1) _
  unfold QaT
  refine TotP.bif (fun hc8=>?_) (fun hc8=>?_)
  ·refine TotP.bind (TotP.idx (by omega) (by simp_all)) (fun e_9 hv10=>?_)
   refine TotP.bind (QpG x_1 e_9 v2 (((h_l1).2 e_9 hv10)) (h_v2)) (fun x_11 hv12=>?_)
   refine TotP.bif (fun hc13=>?_) (fun hc13=>?_)
   ·exact TotP.ok (Qp trivial)
   ·exact TotP.ok (QD ⟨(by simp_all),by subst hi3;exact Qz (by simp_all) (h_l1).1,trivial⟩)
  ·exact TotP.ok (Qp trivial)
 rcases q6 with q6 | q6
 ·show TotP (Qbv q6.1 q6.2) _
  unfold Qbv
  exact TotP.okT
 ·show TotP (Qbw) _
  unfold Qbw
  exact TotP.okT
theorem Qhz (l1:(List Qr))(k2:Int)(h_l1:(lenL Qam) l1):TotP (Qbn l1 k2) fun r=>r=true→0≤k2∧k2<l1.length:=by
 unfold Qbn
 exact TotP.ok (by first | (intro hr;first | (cases hr;done) | omega | ((try simp only [Bool.and_eq_true,Bool.or_eq_true,Bool.or_eq_false_iff,Bool.not_eq_true',Bool.not_eq_false',decide_eq_true_eq,decide_eq_false_iff_not,beq_iff_eq,bne_iff_ne,ne_eq,Bool.not_eq_true,Bool.not_eq_false,List.length_append,List.length_singleton,List.length_nil,List.length_drop,List.length_take,List.length_cons,QiJ,QiK,QhP]at *);omega)) | ((try simp only [Bool.and_eq_true,Bool.or_eq_true,Bool.or_eq_false_iff,Bool.not_eq_true',Bool.not_eq_false',decide_eq_true_eq,decide_eq_false_iff_not,beq_iff_eq,bne_iff_ne,ne_eq,Bool.not_eq_true,Bool.not_eq_false,List.length_append,List.length_singleton,List.length_nil,List.length_drop,List.length_take,List.length_cons,QiJ,QiK,QhP]at *);omega) | simp_all)
theorem QpH (v1:Int)(v2:TNet)(v3:Qr)(h_v2:QH v2)(h_v3:Qam v3):TotP (QgH v1 v2 v3) fun r=>True:=by
 unfold QgH
 exact TotP.okT
theorem Qnz (v1:Int)(v2:TNet)(v3:Qr)(v4:Int)(h_v2:QH v2)(h_v3:Qam v3):TotP (Qeu v1 v2 v3 v4) fun r=>True:=by
 unfold Qeu
 exact TotP.okT
theorem QnA (v1:Int)(v2:TNet)(v3:Qr)(v4:Int)(h_v2:QH v2)(h_v3:Qam v3):TotP (Qev v1 v2 v3 v4) fun r=>True:=by
 unfold Qev
 exact TotP.okT
theorem QnB (v1:Int)(v2:TNet)(v3:Qr)(h_v2:QH v2)(h_v3:Qam v3):TotP (Qew v1 v2 v3) fun r=>True:=by
 unfold Qew
 exact TotP.okT
theorem QoS (v1:Qr)(h_v1:Qam v1):TotP (QfZ v1) fun r=>True:=by
 unfold QfZ
 refine TotP.bind (Qga v1.Name (h_v1.1)) (fun x_1 hv2=>?_)
 exact TotP.okT
theorem QoT (p1:Qr)(v2:Qr)(h_p1:Qam p1)(h_v2:Qam v2):TotP (Qf0 p1 v2) fun r=>True:=by
 unfold Qf0
 exact TotP.okT
theorem QgX (s1:(List Qr))(v2:Qr)(h_s1:(lenL Qam) s1)(h_v2:Qam v2):TotP (Qan s1 v2) fun r=>True:=by
 unfold Qan
 refine TotP.bind (TotP.up (s1.length) (fun st=>st) (fun _=>True) (Q:=fun q=>True) rfl trivial (fun i2 st hi3 hn4 hj5=>?_)) (fun q6 hq7=>?_)
 ·obtain⟨x_1,hst⟩:∃y,y=st:=⟨_,rfl⟩
  subst hst
  replace hi3:x_1=(i2:Int):=hi3
  show TotP (QQ s1 v2 x_1) _
  unfold QQ
  refine TotP.bif (fun hc8=>?_) (fun hc8=>?_)
  ·refine TotP.bind (TotP.idx (by omega) (by simp_all)) (fun e_9 hv10=>?_)
   refine TotP.bind (QoT e_9 v2 (((h_s1).2 e_9 hv10)) (h_v2)) (fun x_11 hv12=>?_)
   refine TotP.bif (fun hc13=>?_) (fun hc13=>?_)
   ·exact TotP.ok (Qp trivial)
   ·exact TotP.ok (QD ⟨(by simp_all),by subst hi3;exact Qz (by simp_all) (h_s1).1,trivial⟩)
  ·exact TotP.ok (Qp trivial)
 rcases q6 with q6 | q6
 ·show TotP (Q5 q6) _
  unfold Q5
  exact TotP.okT
 ·show TotP (Q6) _
  unfold Q6
  exact TotP.okT
theorem Qgc (s1:(List Qr))(v2:Qr)(h_s1:(lenL Qam) s1)(h_v2:Qam v2):TotP (Q7 s1 v2) fun r=>True:=by
 unfold Q7
 refine TotP.bind (QgX s1 v2 (h_s1) (h_v2)) (fun x_1 hv2=>?_)
 exact TotP.okT
theorem QoU (v1:TNet)(v2:Int)(v3:Qr)(h_v1:QH v1)(h_v3:Qam v3)(hp0:0≤v2)(hp1:v2<v1.Tasks.length):TotP (Qf2 v1 v2 v3) fun r=>True:=by
 unfold Qf2
 refine TotP.bind (TotP.chk (by simp_all;omega)) (fun _ _=>?_)
 refine TotP.bind (Qgc ((v1.Tasks.drop 0).take (v2.toNat-0)) v3 (((h_v1.2.2.1).drop _).take _) (h_v3)) (fun x_1 hv2=>?_)
 exact TotP.okT
theorem QoV (v1:Int)(v2:Qr)(h_v2:Qam v2):TotP (Qeb v1 v2) fun r=>True:=by
 unfold Qeb
 exact TotP.okT
theorem Qk9 (v1:TVar)(h_v1:QcS v1):TotP (Qcd v1) fun r=>True:=by
 unfold Qcd
 refine TotP.bind (Qga v1.Name (h_v1.1)) (fun x_1 hv2=>?_)
 exact TotP.okT
theorem Qla (p1:TVar)(v2:TVar)(h_p1:QcS p1)(h_v2:QcS v2):TotP (Qce p1 v2) fun r=>True:=by
 unfold Qce
 exact TotP.okT
theorem QhA (s1:(List TVar))(v2:TVar)(h_s1:(lenL QcS) s1)(h_v2:QcS v2):TotP (Qax s1 v2) fun r=>True:=by
 unfold Qax
 refine TotP.bind (TotP.up (s1.length) (fun st=>st) (fun _=>True) (Q:=fun q=>True) rfl trivial (fun i2 st hi3 hn4 hj5=>?_)) (fun q6 hq7=>?_)
 ·obtain⟨x_1,hst⟩:∃y,y=st:=⟨_,rfl⟩
  subst hst
  replace hi3:x_1=(i2:Int):=hi3
  show TotP (QS s1 v2 x_1) _
  unfold QS
  refine TotP.bif (fun hc8=>?_) (fun hc8=>?_)
  ·refine TotP.bind (TotP.idx (by omega) (by simp_all)) (fun e_9 hv10=>?_)
   refine TotP.bind (Qla e_9 v2 (((h_s1).2 e_9 hv10)) (h_v2)) (fun x_11 hv12=>?_)
   refine TotP.bif (fun hc13=>?_) (fun hc13=>?_)
   ·exact TotP.ok (Qp trivial)
   ·exact TotP.ok (QD ⟨(by simp_all),by subst hi3;exact Qz (by simp_all) (h_s1).1,trivial⟩)
  ·exact TotP.ok (Qp trivial)
 rcases q6 with q6 | q6
 ·show TotP (Qad q6) _
  unfold Qad
  exact TotP.okT
 ·show TotP (Qae) _
  unfold Qae
  exact TotP.okT
theorem QgL (s1:(List TVar))(v2:TVar)(h_s1:(lenL QcS) s1)(h_v2:QcS v2):TotP (Qaf s1 v2) fun r=>True:=by
 unfold Qaf
 refine TotP.bind (QhA s1 v2 (h_s1) (h_v2)) (fun x_1 hv2=>?_)
 exact TotP.okT
theorem Qlb (v1:(List TVar))(v2:Int)(v3:TVar)(h_v1:(lenL QcS) v1)(h_v3:QcS v3)(hp0:0≤v2)(hp1:v2<v1.length):TotP (Qcf v1 v2 v3) fun r=>True:=by
 unfold Qcf
 refine TotP.bind (TotP.chk (by simp_all;omega)) (fun _ _=>?_)
 refine TotP.bind (QgL ((v1.drop 0).take (v2.toNat-0)) v3 (((h_v1).drop _).take _) (h_v3)) (fun x_1 hv2=>?_)
 exact TotP.okT
theorem Qlc (v1:TNet)(v2:TVar)(h_v1:QH v1)(h_v2:QcS v2):TotP (Qcg v1 v2) fun r=>True:=by
 unfold Qcg
 refine TotP.bind (QgK v1.Colours v2.Colour (h_v1.1)) (fun x_1 hv2=>?_)
 exact TotP.okT
theorem QnC (v1:TVar)(v2:Int)(v3:(List TVar))(v4:Int)(v5:Int)(v6:TNet)(v7:Int)(h_v1:QcS v1)(h_v3:(lenL QcS) v3)(h_v6:QH v6)(hp0:0≤v4)(hp1:v4<v3.length):TotP (Qex v1 v2 v3 v4 v5 v6 v7) fun r=>True:=by
 unfold Qex
 refine TotP.bind (Qk9 v1 (h_v1)) (fun x_1 hv2=>?_)
 refine TotP.bif (fun hc3=>?_) (fun hc3=>?_)
 ·exact TotP.okT
 ·refine TotP.bind (Qlb v3 v4 v1 (h_v3) (h_v1) (by omega) (by omega)) (fun x_4 hv5=>?_)
  refine TotP.bif (fun hc6=>?_) (fun hc6=>?_)
  ·exact TotP.okT
  ·refine TotP.bind (Qlc v6 v1 (h_v6) (h_v1)) (fun x_7 hv8=>?_)
   refine TotP.bif (fun hc9=>?_) (fun hc9=>?_)
   ·exact TotP.okT
   ·exact TotP.okT
theorem QlT (k1:Int)(v2:TVar)(v3:(List TVar))(v4:TNet)(h_v2:QcS v2)(h_v3:(lenL QcS) v3)(h_v4:QH v4)(hp0:0≤k1)(hp1:k1<v3.length):TotP (QcL k1 v2 v3 v4) fun r=>True:=by
 unfold QcL
 refine TotP.bind (QnC v2 1 v3 k1 5 v4 3 (h_v2) (h_v3) (h_v4) (by omega) (by omega)) (fun x_1 hv2=>?_)
 exact TotP.okT
theorem QlF (l1:(List TVar))(v2:(List TVar))(v3:TNet)(h_l1:(lenL QcS) l1)(h_v2:(lenL QcS) v2)(h_v3:QH v3)(hp0:l1.length≤v2.length):TotP (Qcv l1 v2 v3) fun r=>True:=by
 unfold Qcv
 refine TotP.bind (TotP.up (l1.length) (fun st=>st) (fun _=>True) (Q:=fun q=>True) rfl trivial (fun i2 st hi3 hn4 hj5=>?_)) (fun q6 hq7=>?_)
 ·obtain⟨x_1,hst⟩:∃y,y=st:=⟨_,rfl⟩
  subst hst
  replace hi3:x_1=(i2:Int):=hi3
  show TotP (Qba l1 v2 v3 x_1) _
  unfold Qba
  refine TotP.bif (fun hc8=>?_) (fun hc8=>?_)
  ·refine TotP.bind (TotP.idx (by omega) (by simp_all)) (fun e_9 hv10=>?_)
   refine TotP.bind (QlT x_1 e_9 v2 v3 (((h_l1).2 e_9 hv10)) (h_v2) (h_v3) (by omega) (by simp_all;omega)) (fun x_11 hv12=>?_)
   refine TotP.bif (fun hc13=>?_) (fun hc13=>?_)
   ·exact TotP.ok (Qp trivial)
   ·exact TotP.ok (QD ⟨(by simp_all),by subst hi3;exact Qz (by simp_all) (h_l1).1,trivial⟩)
  ·exact TotP.ok (Qp trivial)
 rcases q6 with q6 | q6
 ·show TotP (QbN q6.1 q6.2) _
  unfold QbN
  exact TotP.okT
 ·show TotP (QbO) _
  unfold QbO
  exact TotP.okT
theorem QmU (n1:TNet)(l2:(List TVar))(h_n1:QH n1)(h_l2:(lenL QcS) l2):TotP (QdP n1 l2) fun r=>True:=by
 unfold QdP
 refine TotP.bind (QlF l2 l2 n1 (h_l2) (h_l2) (h_n1) (by omega)) (fun x_1 hv2=>?_)
 exact TotP.okT
theorem QoW (v1:TNet)(v2:Qr)(h_v1:QH v1)(h_v2:Qam v2):TotP (Qf3 v1 v2) fun r=>True:=by
 unfold Qf3
 refine TotP.bind (QmU v1 v2.Vars (h_v1) (h_v2.2.1)) (fun x_1 hv2=>?_)
 exact TotP.okT
theorem Qok (v1:TNet)(v2:Qr)(v3:Int)(h_v1:QH v1)(h_v2:Qam v2):TotP (Qfg v1 v2 v3) fun r=>True:=by
 unfold Qfg
 refine TotP.bind (QoW v1 v2 (h_v1) (h_v2)) (fun x_1 hv2=>?_)
 exact TotP.okT
theorem Qlo (n1:TNet)(k2:Int)(h_n1:QH n1):TotP (QeY n1 k2) fun r=>True:=by
 unfold QeY
 refine TotP.bind (Qhz n1.Tasks k2 (h_n1.2.2.1)) (fun x_1 hv2=>?_)
 refine TotP.bif (fun hc3=>?_) (fun hc3=>?_)
 ·exact TotP.okT
 ·refine TotP.bind (TotP.idx (by simp_all) (by simp_all)) (fun e_4 hv5=>?_)
  refine TotP.bind (TotP.up (e_4.Vars.length) (fun st=>st.2) (fun _=>True) (Q:=fun q=>True) rfl trivial (fun i8 st hi9 hn10 hj11=>?_)) (fun q12 hq13=>?_)
  ·obtain⟨out_6,x_7⟩:=st
   replace hi9:x_7=(i8:Int):=hi9
   show TotP (QcZ e_4 n1 out_6 x_7) _
   unfold QcZ
   refine TotP.bif (fun hc14=>?_) (fun hc14=>?_)
   ·refine TotP.bind (TotP.idx (by omega) (by simp_all)) (fun e_15 hv16=>?_)
    refine TotP.bind (Qg9 n1.Colours e_15.Colour (h_n1.1)) (fun x_17 hv18=>?_)
    refine TotP.bif (fun hc19=>?_) (fun hc19=>?_)
    ·exact TotP.ok (Qp trivial)
    ·exact TotP.ok (QD ⟨(by simp_all),by subst hi9;exact Qz (by simp_all) (((h_n1.2.2.1).2 e_4 hv5).2.1).1,trivial⟩)
   ·exact TotP.ok (Qp trivial)
  rcases q12 with q12 | q12
  ·show TotP (Qey) _
   unfold Qey
   exact TotP.okT
  ·show TotP (Qez q12) _
   unfold Qez
   exact TotP.okT
theorem QoX (v1:TNet)(v2:Int)(h_v1:QH v1):TotP (Qf4 v1 v2) fun r=>True:=by
 unfold Qf4
 refine TotP.bind (Qlo v1 v2 (h_v1)) (fun x_1 hv2=>?_)
 exact TotP.okT
theorem Qqu (kind1:Int):TotP (Qh5 kind1) fun r=>0≤r→(kind1=1∨kind1=2∨kind1=3∨kind1=4∨kind1=5∨kind1=6)∧(kind1=3∨kind1=4→r=1)∧(kind1=5→r=2)∧(kind1=6→r=3):=by
 unfold Qh5
 refine TotP.bif (fun hc=>?_) (fun hc=>?_)
 ·unfold Qd4;rw [hc]
  simp only [beq_iff_eq]at hc
  exact TotP.ok (by omega)
 ·simp only [beq_eq_false_iff_ne]at hc
  unfold Qd4
  refine TotP.bif (fun hc=>TotP.ok (by simp only [beq_iff_eq]at hc;omega)) (fun hc2=>?_)
  simp only [beq_eq_false_iff_ne]at hc2
  refine TotP.bif (fun hc3=>?_) (fun hc3=>?_)
  ·unfold Qd3;rw [hc3]
   simp only [beq_iff_eq]at hc3
   exact TotP.ok (by omega)
  ·simp only [beq_eq_false_iff_ne]at hc3
   unfold Qd3
   refine TotP.bif (fun hc=>TotP.ok (by simp only [beq_iff_eq]at hc;omega)) (fun hc4=>?_)
   simp only [beq_eq_false_iff_ne]at hc4
   refine TotP.bif (fun hc=>TotP.ok (by simp only [beq_iff_eq]at hc;omega)) (fun hc5=>?_)
   simp only [beq_eq_false_iff_ne]at hc5
   exact TotP.bif (fun hc=>TotP.ok (by simp only [beq_iff_eq]at hc;omega)) (fun hc6=>TotP.ok (by omega))
theorem Qp3 (op1:Int)  : TotP (Qhj op1) fun r=>True:=by
 unfold Qhj
 exact TotP.okT
theorem QjL (rec_:Qf→Int→Option Bool)(s1:List Qf)(v2:Int)(h1:s1.length≤maxLen)(h:∀k∈s1,TotP (rec_ k v2) fun r=>r=true→POk v2 k):TotP (Q4 rec_ s1 v2) fun r=>r=false→∀k∈s1,POk v2 k:=by
 unfold Q4 QaO
 refine TotP.bind (P:=fun x=>x<0→∀k∈s1,POk v2 k) ?_ fun x hx=>TotP.ok fun h=>hx (by simp only [decide_eq_false_iff_not]at h;omega)
 refine TotP.bind (TotP.up s1.length (fun st=>st) (fun st=>∀(j:Nat) k,(j:Int)<st→s1[j]? = some k→POk v2 k) (Q:=fun q=>(∀x,q=.inl x→0≤x)∧(q=.inr ()→∀k∈s1,POk v2 k)) rfl (fun j k hj=>by omega) (fun i st hi hn hj=>?_)) (fun q hq=>?_)
 ·show TotP (QP s1 rec_ v2 st) _
  unfold QP QhI
  refine TotP.bif (fun hc=>?_) (fun hc=>TotP.ok (Qp ⟨fun x h=>(by cases h),fun _ k hk=>by
   obtain⟨j,hj1,hj2⟩:=List.mem_iff_getElem.1 hk
   simp only [decide_eq_false_iff_not]at hc
   exact hj j k (by omega) (by rw [List.getElem?_eq_getElem hj1,hj2])⟩))
  simp only [decide_eq_true_eq]at hc
  rw [QjK (by omega)]
  have hlt:st.toNat<s1.length:=by omega
  rw [List.getElem?_eq_getElem hlt]
  refine TotP.bind (P:=fun k=>k=s1[st.toNat]) (TotP.ok rfl) fun k hk=>?_
  subst hk
  refine TotP.bind (P:=fun r=>r=false→POk v2 s1[st.toNat]) (TotP.bind (h _ (List.getElem_mem hlt)) fun x hx=>TotP.ok fun h=>hx (by simpa using h)) fun x hx=>?_
  refine TotP.bif (fun _=>TotP.ok (Qp ⟨fun x h=>(by cases h;omega),fun h=>(by cases h)⟩)) fun hxf=>TotP.ok (QD ⟨by omega,by rw [hi];exact Qz (by omega) h1,?_⟩)
  rw [hi,Qz (show i<s1.length by omega) h1]
  intro j k hj' hk
  by_cases c:j=i
  ·subst c
   have e:st.toNat=j:=by omega
   have:=hx hxf
   rw [List.getElem?_eq_getElem (by omega)]at hk
   cases hk
   simpa only [e] using this
  ·exact hj j k (by omega) hk
 ·rcases q with q | q
  ·exact TotP.ok fun h=>absurd (hq.1 q rfl) (by omega)
  ·exact TotP.ok fun _=>hq.2 rfl
theorem Qk2 : ∀(n:Nat) (e:Qf) (v:Int),Qcj e→SizeOf.sizeOf e≤n→TotP (QcW n e v) fun r=>r=true→POk v e
 | 0,e,_,_,h=>absurd e.pos (by omega)
 | n+1,e,v,he,h=>by
  unfold QcW QhJ
  refine TotP.bind (Qqu e.Kind) fun x hx=>?_
  refine TotP.bif (fun _=>TotP.ok fun h=>by cases h) fun h1=>TotP.bif (fun _=>TotP.ok fun h=>by cases h) fun h2=>?_
  refine TotP.bind (P:=fun _=>True) ?_ fun y _=>?_
  ·unfold QiU
   exact TotP.bif (fun _=>TotP.bind (Qp3 e.Num) fun x _=>TotP.okT) fun _=>TotP.okT
  ·unfold Qe1
   refine TotP.bif (fun _=>TotP.ok fun h=>by cases h) fun _=>?_
   refine TotP.bind (QjL (QcW n) e.Kids v (Qdl he).1 fun k hk=>Qk2 n k v ((Qdl he).2 k hk) (by have:=Qnw hk;omega)) fun x hx2=>TotP.ok fun hx3=>?_
   simp only [bne_eq_false_iff_eq]at h1
   have h3:=hx (by omega)
   simp only [Bool.and_eq_false_iff,Bool.or_eq_false_iff,decide_eq_false_iff_not,beq_eq_false_iff_ne]at h2
   exact .mk e h3.1 (fun hk=>by omega) (fun hk=>by have:=h3.2.1 hk;omega) (fun hk=>by have:=h3.2.2.1 hk;omega) (fun hk=>by have:=h3.2.2.2 hk;omega) (hx2 (by simpa using hx3))
theorem Qp4 (e1:Qf)(vars2:Int)(h_e1:Qcj e1):TotP (QkE e1 vars2) fun r=>r=true→POk vars2 e1:=Qk2 _ e1 vars2 h_e1 (Nat.le_refl _)
theorem Qk3 : ∀(n:Nat) (e:Qf),Qcj e→SizeOf.sizeOf e≤n→TotP (QcV n e) fun _=>True
 | 0,e,_,h=>absurd e.pos (by omega)
 | n+1,e,he,h=>by
  unfold QcV QhG
  refine TotP.bind (TotP.up e.Kids.length (fun st=>st.2) (fun _=>True) (Q:=fun _=>True) rfl trivial (fun i st hi hn _=>?_)) (fun q _=>?_)
  ·obtain⟨a,x⟩:=st
   replace hi:x=(i:Int):=hi
   show TotP (Qdp e (QcV n) a x) _
   unfold Qdp
   refine TotP.bif (fun hc=>?_) (fun hc=>?_)
   ·simp only [decide_eq_true_eq]at hc
    refine TotP.bind (TotP.idx (by omega) (by omega)) fun k hk=>?_
    have:=Qnw hk
    refine TotP.bind (Qk3 n k ((Qdl he).2 k hk) (by omega)) fun d _=>?_
    exact TotP.ok (QD ⟨by omega,by subst hi;exact Qz (by omega) (Qdl he).1,trivial⟩)
   ·exact TotP.ok (Qp trivial)
  ·unfold Qg2
   exact TotP.okT
theorem Qp5 (e1:Qf)(h_e1:Qcj e1):TotP (QkC e1) fun _=>True:=Qk3 _ e1 h_e1 (Nat.le_refl _)
theorem Qlp : ∀(n:Nat) (e:Qf),Qcj e→SizeOf.sizeOf e≤n→TotP (QdC n e) fun _=>True
 | 0,e,_,h=>absurd e.pos (by omega)
 | n+1,e,he,h=>by
  unfold QdC Qij
  refine TotP.bind (TotP.up e.Kids.length (fun st=>st.2) (fun _=>True) (Q:=fun _=>True) rfl trivial (fun i st hi hn _=>?_)) (fun q _=>?_)
  ·obtain⟨a,x⟩:=st
   replace hi:x=(i:Int):=hi
   show TotP (Qd2 e (QdC n) a x) _
   unfold Qd2
   refine TotP.bif (fun hc=>?_) (fun hc=>?_)
   ·simp only [decide_eq_true_eq]at hc
    refine TotP.bind (TotP.idx (by omega) (by omega)) fun k hk=>?_
    have:=Qnw hk
    refine TotP.bind (Qlp n k ((Qdl he).2 k hk) (by omega)) fun d _=>?_
    exact TotP.ok (QD ⟨by omega,by subst hi;exact Qz (by omega) (Qdl he).1,trivial⟩)
   ·exact TotP.ok (Qp trivial)
  ·unfold QhH
   exact TotP.okT
theorem Qqv (e1:Qf)(h_e1:Qcj e1):TotP (Qlu e1) fun _=>True:=Qlp _ e1 h_e1 (Nat.le_refl _)
theorem QjM (e1:Qf)(vars2:Int)(h_e1:Qcj e1):TotP (Qek e1 vars2) fun r=>r=true→POk vars2 e1:=by
 unfold Qek
 refine TotP.bind (P:=fun r=>r=true→POk vars2 e1) ?_ (fun x hx=>TotP.ok hx)
 unfold QiV
 refine TotP.bind (Qp5 e1 h_e1) (fun x _=>?_)
 refine TotP.bif (fun _=>?_) (fun _=>TotP.ok fun h=>by cases h)
 refine TotP.bind (Qqv e1 h_e1) (fun x _=>?_)
 refine TotP.bif (fun _=>?_) (fun _=>TotP.ok fun h=>by cases h)
 exact TotP.bind (Qp4 e1 vars2 h_e1) (fun x hx=>TotP.ok hx)
theorem QoY (v1:Qr)(v2:Int)(h_v1:Qam v1):TotP (Qf5 v1 v2) fun r=>True:=by
 unfold Qf5
 refine TotP.bind (P:=fun _=>True) ?_ (fun x_1 hv2=>?_)
 ·unfold QhZ
  refine TotP.bind (QjM v1.Guard v2 (h_v1.2.2.1)) (fun x_3 hv4=>?_)
  refine TotP.bif (fun hc5=>?_) (fun hc5=>?_)
  ·refine TotP.bif (fun hc6=>?_) (fun hc6=>?_)
   ·exact TotP.okT
   ·exact TotP.okT
  ·exact TotP.okT
 unfold QdQ
 exact TotP.okT
theorem QnD (v1:TNet)(v2:TArc)(h_v1:QH v1)(h_v2:Qhy v2):TotP (QeA v1 v2) fun r=>True:=by
 unfold QeA
 refine TotP.bind (Qbx v1.Places v2.Place (h_v1.2.1)) (fun x_1 hv2=>?_)
 exact TotP.okT
theorem QnE (v1:TArc)(v2:Int)(h_v1:Qhy v1):TotP (QeB v1 v2) fun r=>True:=by
 unfold QeB
 refine TotP.bind (QjM v1.Expr v2 (h_v1.2)) (fun x_1 hv2=>?_)
 exact TotP.okT
theorem QnF (v1:TNet)(v2:TArc)(v3:Int)(v4:Int)(v5:Int)(h_v1:QH v1)(h_v2:Qhy v2):TotP (QeC v1 v2 v3 v4 v5) fun r=>True:=by
 unfold QeC
 refine TotP.bind (QnD v1 v2 (h_v1) (h_v2)) (fun x_1 hv2=>?_)
 refine TotP.bif (fun hc3=>?_) (fun hc3=>?_)
 ·exact TotP.okT
 ·refine TotP.bind (QnE v2 v4 (h_v2)) (fun x_4 hv5=>?_)
  refine TotP.bif (fun hc6=>?_) (fun hc6=>?_)
  ·exact TotP.okT
  ·exact TotP.okT
theorem QoZ (p1:Int)(a2:TArc)(v3:TNet)(v4:Int)(h_a2:Qhy a2)(h_v3:QH v3):TotP (Qf6 p1 a2 v3 v4) fun r=>True:=by
 unfold Qf6
 refine TotP.bind (QnF v3 a2 3 v4 1 (h_v3) (h_a2)) (fun x_1 hv2=>?_)
 exact TotP.okT
theorem QlG (l1:(List TArc))(v2:TNet)(v3:Int)(h_l1:(lenL Qhy) l1)(h_v2:QH v2):TotP (Qcw l1 v2 v3) fun r=>True:=by
 unfold Qcw
 refine TotP.bind (TotP.up (l1.length) (fun st=>st) (fun _=>True) (Q:=fun q=>True) rfl trivial (fun i2 st hi3 hn4 hj5=>?_)) (fun q6 hq7=>?_)
 ·obtain⟨x_1,hst⟩:∃y,y=st:=⟨_,rfl⟩
  subst hst
  replace hi3:x_1=(i2:Int):=hi3
  show TotP (Qbb l1 v2 v3 x_1) _
  unfold Qbb
  refine TotP.bif (fun hc8=>?_) (fun hc8=>?_)
  ·refine TotP.bind (TotP.idx (by omega) (by simp_all)) (fun e_9 hv10=>?_)
   refine TotP.bind (QoZ x_1 e_9 v2 v3 (((h_l1).2 e_9 hv10)) (h_v2)) (fun x_11 hv12=>?_)
   refine TotP.bif (fun hc13=>?_) (fun hc13=>?_)
   ·exact TotP.ok (Qp trivial)
   ·exact TotP.ok (QD ⟨(by simp_all),by subst hi3;exact Qz (by simp_all) (h_l1).1,trivial⟩)
  ·exact TotP.ok (Qp trivial)
 rcases q6 with q6 | q6
 ·show TotP (QbP q6.1 q6.2) _
  unfold QbP
  exact TotP.okT
 ·show TotP (QbQ) _
  unfold QbQ
  exact TotP.okT
theorem QlU (n1:TNet)(l2:(List TArc))(vars3:Int)(h_n1:QH n1)(h_l2:(lenL Qhy) l2):TotP (Qf7 n1 l2 vars3) fun r=>True:=by
 unfold Qf7
 refine TotP.bind (QlG l2 n1 vars3 (h_l2) (h_n1)) (fun x_1 hv2=>?_)
 exact TotP.okT
theorem Qo0 (v1:TNet)(v2:Qr)(v3:Int)(h_v1:QH v1)(h_v2:Qam v2):TotP (Qf8 v1 v2 v3) fun r=>True:=by
 unfold Qf8
 refine TotP.bind (QlU v1 v2.Ins v3 (h_v1) (h_v2.2.2.2.2.2.1)) (fun x_1 hv2=>?_)
 exact TotP.okT
theorem Qmu (v1:TNet)(v2:Qr)(v3:Int)(v4:Int)(h_v1:QH v1)(h_v2:Qam v2):TotP (Qdg v1 v2 v3 v4) fun r=>True:=by
 unfold Qdg
 refine TotP.bind (Qo0 v1 v2 v3 (h_v1) (h_v2)) (fun x_1 hv2=>?_)
 exact TotP.okT
theorem Qo1 (v1:TNet)(v2:Qr)(v3:Int)(h_v1:QH v1)(h_v2:Qam v2):TotP (Qf9 v1 v2 v3) fun r=>True:=by
 unfold Qf9
 refine TotP.bind (QlU v1 v2.Outs v3 (h_v1) (h_v2.2.2.2.2.2.2.1)) (fun x_1 hv2=>?_)
 exact TotP.okT
theorem Qmv (v1:TNet)(v2:Qr)(v3:Int)(v4:Int)(h_v1:QH v1)(h_v2:Qam v2):TotP (Qdh v1 v2 v3 v4) fun r=>True:=by
 unfold Qdh
 refine TotP.bind (Qo1 v1 v2 v3 (h_v1) (h_v2)) (fun x_1 hv2=>?_)
 exact TotP.okT
theorem QlV (v1:TNet)(v2:Int)(h_v1:QH v1):TotP (QcM v1 v2) fun r=>True:=by
 unfold QcM
 refine TotP.bind (Qbx v1.Places v2 (h_v1.2.1)) (fun x_1 hv2=>?_)
 exact TotP.okT
theorem Qk4 (s1:(List Int))(v2:Int)(h_s1:(lenL (fun _=>True)) s1):TotP (QbY s1 v2) fun r=>True:=by
 unfold QbY
 refine TotP.bind (TotP.up (s1.length) (fun st=>st) (fun _=>True) (Q:=fun q=>True) rfl trivial (fun i2 st hi3 hn4 hj5=>?_)) (fun q6 hq7=>?_)
 ·obtain⟨x_1,hst⟩:∃y,y=st:=⟨_,rfl⟩
  subst hst
  replace hi3:x_1=(i2:Int):=hi3
  show TotP (QaR s1 v2 x_1) _
  unfold QaR
  refine TotP.bif (fun hc8=>?_) (fun hc8=>?_)
  ·refine TotP.bind (TotP.idx (by omega) (by simp_all)) (fun e_9 hv10=>?_)
   refine TotP.bif (fun hc11=>?_) (fun hc11=>?_)
   ·exact TotP.ok (Qp trivial)
   ·exact TotP.ok (QD ⟨(by simp_all),by subst hi3;exact Qz (by simp_all) (h_s1).1,trivial⟩)
  ·exact TotP.ok (Qp trivial)
 rcases q6 with q6 | q6
 ·show TotP (Qbt q6) _
  unfold Qbt
  exact TotP.okT
 ·show TotP (Qbu) _
  unfold Qbu
  exact TotP.okT
theorem Qgi (s1:(List Int))(v2:Int)(h_s1:(lenL (fun _=>True)) s1):TotP (Qay s1 v2) fun r=>True:=by
 unfold Qay
 refine TotP.bind (Qk4 s1 v2 (h_s1)) (fun x_1 hv2=>?_)
 exact TotP.okT
theorem QlW (v1:(List Int))(v2:Int)(v3:Int)(h_v1:(lenL (fun _=>True)) v1)(hp0:0≤v2)(hp1:v2<v1.length):TotP (QcN v1 v2 v3) fun r=>True:=by
 unfold QcN
 refine TotP.bind (TotP.chk (by simp_all;omega)) (fun _ _=>?_)
 refine TotP.bind (Qgi ((v1.drop 0).take (v2.toNat-0)) v3 (((h_v1).drop _).take _)) (fun x_1 hv2=>?_)
 exact TotP.okT
theorem QnG (v1:TNet)(v2:Int)(v3:Int)(v4:(List Int))(v5:Int)(v6:Int)(h_v1:QH v1)(h_v4:(lenL (fun _=>True)) v4)(hp0:0≤v5)(hp1:v5<v4.length):TotP (QeD v1 v2 v3 v4 v5 v6) fun r=>True:=by
 unfold QeD
 refine TotP.bind (QlV v1 v2 (h_v1)) (fun x_1 hv2=>?_)
 refine TotP.bif (fun hc3=>?_) (fun hc3=>?_)
 ·exact TotP.okT
 ·refine TotP.bind (QlW v4 v5 v2 (h_v4) (by omega) (by omega)) (fun x_4 hv5=>?_)
  refine TotP.bif (fun hc6=>?_) (fun hc6=>?_)
  ·exact TotP.okT
  ·exact TotP.okT
theorem QmV (k1:Int)(place2:Int)(v3:TNet)(v4:(List Int))(h_v3:QH v3)(h_v4:(lenL (fun _=>True)) v4)(hp0:0≤k1)(hp1:k1<v4.length):TotP (QdR k1 place2 v3 v4) fun r=>True:=by
 unfold QdR
 refine TotP.bind (QnG v3 place2 3 v4 k1 5 (h_v3) (h_v4) (by omega) (by omega)) (fun x_1 hv2=>?_)
 exact TotP.okT
theorem QnH (l1:(List Int))(v2:TNet)(v3:(List Int))(h_l1:(lenL (fun _=>True)) l1)(h_v2:QH v2)(h_v3:(lenL (fun _=>True)) v3)(hp0:l1.length≤v3.length):TotP (QeE l1 v2 v3) fun r=>True:=by
 unfold QeE
 refine TotP.bind (TotP.up (l1.length) (fun st=>st) (fun _=>True) (Q:=fun q=>True) rfl trivial (fun i2 st hi3 hn4 hj5=>?_)) (fun q6 hq7=>?_)
 ·obtain⟨x_1,hst⟩:∃y,y=st:=⟨_,rfl⟩
  subst hst
  replace hi3:x_1=(i2:Int):=hi3
  show TotP (QbV l1 v2 v3 x_1) _
  unfold QbV
  refine TotP.bif (fun hc8=>?_) (fun hc8=>?_)
  ·refine TotP.bind (TotP.idx (by omega) (by simp_all)) (fun e_9 hv10=>?_)
   refine TotP.bind (QmV x_1 e_9 v2 v3 (h_v2) (h_v3) (by omega) (by simp_all;omega)) (fun x_11 hv12=>?_)
   refine TotP.bif (fun hc13=>?_) (fun hc13=>?_)
   ·exact TotP.ok (Qp trivial)
   ·exact TotP.ok (QD ⟨(by simp_all),by subst hi3;exact Qz (by simp_all) (h_l1).1,trivial⟩)
  ·exact TotP.ok (Qp trivial)
 rcases q6 with q6 | q6
 ·show TotP (QcO q6.1 q6.2) _
  unfold QcO
  exact TotP.okT
 ·show TotP (QcP) _
  unfold QcP
  exact TotP.okT
theorem Qol (n1:TNet)(l2:(List Int))(h_n1:QH n1)(h_l2:(lenL (fun _=>True)) l2):TotP (Qfh n1 l2) fun r=>True:=by
 unfold Qfh
 refine TotP.bind (QnH l2 n1 l2 (h_l2) (h_n1) (h_l2) (by omega)) (fun x_1 hv2=>?_)
 exact TotP.okT
theorem Qom (v1:TNet)(v2:Qr)(h_v1:QH v1)(h_v2:Qam v2):TotP (Qfi v1 v2) fun r=>True:=by
 unfold Qfi
 refine TotP.bind (Qol v1 v2.Cancel (h_v1) (h_v2.2.2.2.2.2.2.2.1)) (fun x_1 hv2=>?_)
 exact TotP.okT
theorem Qmw (v1:TNet)(v2:Qr)(v3:Int)(h_v1:QH v1)(h_v2:Qam v2):TotP (Qdi v1 v2 v3) fun r=>True:=by
 unfold Qdi
 refine TotP.bind (Qom v1 v2 (h_v1) (h_v2)) (fun x_1 hv2=>?_)
 exact TotP.okT
theorem Qki (k1:Int)(l2:(List TArc))(h_l2:(lenL Qhy) l2):TotP (Qdw k1 l2) fun r=>True:=by
 unfold Qdw
 exact TotP.okT
theorem QpI (t1:Qr)(h_t1:Qam t1):TotP (QgJ t1) fun r=>True:=by
 unfold QgJ
 refine TotP.bind (P:=fun _=>True) ?_ (fun x_1 hv2=>?_)
 ·unfold QiE
  refine TotP.bind (Qki t1.Join t1.Ins (h_t1.2.2.2.2.2.1)) (fun x_3 hv4=>?_)
  refine TotP.bif (fun hc5=>?_) (fun hc5=>?_)
  ·refine TotP.bind (Qki t1.Split t1.Outs (h_t1.2.2.2.2.2.2.1)) (fun x_6 hv7=>?_)
   refine TotP.bif (fun hc8=>?_) (fun hc8=>?_)
   ·refine TotP.bif (fun hc9=>?_) (fun hc9=>?_)
    ·refine TotP.bif (fun hc10=>?_) (fun hc10=>?_)
     ·exact TotP.okT
     ·exact TotP.okT
    ·exact TotP.okT
   ·exact TotP.okT
  ·exact TotP.okT
 unfold QeF
 exact TotP.okT
theorem Qon (v1:Qr)(h_v1:Qam v1):TotP (Qfj v1) fun r=>True:=by
 unfold Qfj
 refine TotP.bind (QpI v1 (h_v1)) (fun x_1 hv2=>?_)
 exact TotP.okT
theorem QnI (v1:Qr)(v2:Int)(v3:TNet)(v4:Int)(v5:Int)(v6:Int)(v7:Int)(v8:Int)(v9:Int)(v10:Int)(v11:Int)(v12:Int)(v13:Int)(v14:Int)(v15:Int)(h_v1:Qam v1)(h_v3:QH v3)(hp0:0≤v4)(hp1:v4<v3.Tasks.length):TotP (Qc0 v1 v2 v3 v4 v5 v6 v7 v8 v9 v10 v11 v12 v13 v14 v15) fun r=>True:=by
 unfold Qc0
 refine TotP.bind (QoS v1 (h_v1)) (fun x_1 hv2=>?_)
 refine TotP.bif (fun hc3=>?_) (fun hc3=>?_)
 ·exact TotP.okT
 ·refine TotP.bind (QoU v3 v4 v1 (h_v3) (h_v1) (by omega) (by omega)) (fun x_4 hv5=>?_)
  refine TotP.bif (fun hc6=>?_) (fun hc6=>?_)
  ·exact TotP.okT
  ·refine TotP.bind (QoV v6 v1 (h_v1)) (fun x_7 hv8=>?_)
   refine TotP.bif (fun hc9=>?_) (fun hc9=>?_)
   ·exact TotP.okT
   ·refine TotP.bind (Qok v3 v1 v8 (h_v3) (h_v1)) (fun x_10 hv11=>?_)
    refine TotP.bif (fun hc12=>?_) (fun hc12=>?_)
    ·exact TotP.okT
    ·refine TotP.bind (QoX v3 v4 (h_v3)) (fun x_13 hv14=>?_)
     refine TotP.bif (fun hc15=>?_) (fun hc15=>?_)
     ·exact TotP.okT
     ·refine TotP.bind (QoY v1 v6 (h_v1)) (fun x_16 hv17=>?_)
      refine TotP.bif (fun hc18=>?_) (fun hc18=>?_)
      ·exact TotP.okT
      ·refine TotP.bind (Qmu v3 v1 v6 x_10.2 (h_v3) (h_v1)) (fun x_19 hv20=>?_)
       refine TotP.bif (fun hc21=>?_) (fun hc21=>?_)
       ·exact TotP.okT
       ·refine TotP.bind (Qmv v3 v1 v6 x_19.2 (h_v3) (h_v1)) (fun x_22 hv23=>?_)
        refine TotP.bif (fun hc24=>?_) (fun hc24=>?_)
        ·exact TotP.okT
        ·refine TotP.bind (Qmw v3 v1 x_22.2 (h_v3) (h_v1)) (fun x_25 hv26=>?_)
         refine TotP.bif (fun hc27=>?_) (fun hc27=>?_)
         ·exact TotP.okT
         ·refine TotP.bind (Qon v1 (h_v1)) (fun x_28 hv29=>?_)
          refine TotP.bif (fun hc30=>?_) (fun hc30=>?_)
          ·exact TotP.okT
          ·exact TotP.okT
theorem QlX (n1:TNet)(k2:Int)(h_n1:QH n1):TotP (QbB n1 k2) fun r=>True:=by
 unfold QbB
 refine TotP.bind (Qhz n1.Tasks k2 (h_n1.2.2.1)) (fun x_1 hv2=>?_)
 refine TotP.bif (fun hc3=>?_) (fun hc3=>?_)
 ·exact TotP.okT
 ·refine TotP.bind (Qkh n1 (h_n1)) (fun x_4 hv5=>?_)
  refine TotP.bif (fun hc6=>?_) (fun hc6=>?_)
  ·exact TotP.okT
  ·refine TotP.bind (TotP.idx (by simp_all) (by simp_all)) (fun e_7 hv8=>?_)
   refine TotP.bind (TotP.idx (by simp_all) (by simp_all)) (fun e_9 hv10=>?_)
   refine TotP.bind (QpH 0 n1 e_7 (h_n1) (((h_n1.2.2.1).2 e_7 hv8))) (fun x_11 hv12=>?_)
   refine TotP.bind (Qnz 0 n1 e_7 (e_9.Vars.length:Int) (h_n1) (((h_n1.2.2.1).2 e_7 hv8))) (fun x_13 hv14=>?_)
   refine TotP.bind (QnA 0 n1 e_7 (e_9.Vars.length:Int) (h_n1) (((h_n1.2.2.1).2 e_7 hv8))) (fun x_15 hv16=>?_)
   refine TotP.bind (QnB 0 n1 e_7 (h_n1) (((h_n1.2.2.1).2 e_7 hv8))) (fun x_17 hv18=>?_)
   refine TotP.bind (QnI e_7 1 n1 k2 5 (e_9.Vars.length:Int) 2 0 (-1) 2 1 (-1) (-1) (-1) 11 (((h_n1.2.2.1).2 e_7 hv8)) (h_n1) (by simp_all) (by simp_all)) (fun x_19 hv20=>?_)
   refine TotP.bif (fun hc21=>?_) (fun hc21=>?_)
   ·exact TotP.okT
   ·exact TotP.okT
theorem QpJ (k1:Int)(p2:Qr)(v3:TNet)(h_p2:Qam p2)(h_v3:QH v3):TotP (QeZ k1 p2 v3) fun r=>True:=by
 unfold QeZ
 refine TotP.bind (QlX v3 k1 (h_v3)) (fun x_1 hv2=>?_)
 exact TotP.okT
theorem Qld (l1:(List Qr))(v2:TNet)(h_l1:(lenL Qam) l1)(h_v2:QH v2):TotP (Qa6 l1 v2) fun r=>True:=by
 unfold Qa6
 refine TotP.bind (TotP.up (l1.length) (fun st=>st) (fun _=>True) (Q:=fun q=>True) rfl trivial (fun i2 st hi3 hn4 hj5=>?_)) (fun q6 hq7=>?_)
 ·obtain⟨x_1,hst⟩:∃y,y=st:=⟨_,rfl⟩
  subst hst
  replace hi3:x_1=(i2:Int):=hi3
  show TotP (Qao l1 v2 x_1) _
  unfold Qao
  refine TotP.bif (fun hc8=>?_) (fun hc8=>?_)
  ·refine TotP.bind (TotP.idx (by omega) (by simp_all)) (fun e_9 hv10=>?_)
   refine TotP.bind (QpJ x_1 e_9 v2 (((h_l1).2 e_9 hv10)) (h_v2)) (fun x_11 hv12=>?_)
   refine TotP.bif (fun hc13=>?_) (fun hc13=>?_)
   ·exact TotP.ok (Qp trivial)
   ·exact TotP.ok (QD ⟨(by simp_all),by subst hi3;exact Qz (by simp_all) (h_l1).1,trivial⟩)
  ·exact TotP.ok (Qp trivial)
 rcases q6 with q6 | q6
 ·show TotP (QbC q6.1 q6.2) _
  unfold QbC
  exact TotP.okT
 ·show TotP (QbD) _
  unfold QbD
  exact TotP.okT
theorem Qqw (n1:TNet)(h_n1:QH n1):TotP (QfA n1) fun r=>True:=by
 unfold QfA
 refine TotP.bind (QpA n1 2 3 1 (h_n1)) (fun x_1 hv2=>?_)
 refine TotP.bif (fun hc3=>?_) (fun hc3=>?_)
 ·exact TotP.okT
 ·refine TotP.bind (Qkh n1 (h_n1)) (fun x_4 hv5=>?_)
  refine TotP.bif (fun hc6=>?_) (fun hc6=>?_)
  ·exact TotP.okT
  ·refine TotP.bind (Qk1 n1.Places n1 (h_n1.2.1) (h_n1)) (fun x_7 hv8=>?_)
   refine TotP.bif (fun hc9=>?_) (fun hc9=>?_)
   ·exact TotP.okT
   ·refine TotP.bind (Qld n1.Tasks n1 (h_n1.2.2.1) (h_n1)) (fun x_10 hv11=>?_)
    refine TotP.bif (fun hc12=>?_) (fun hc12=>?_)
    ·exact TotP.okT
    ·exact TotP.okT
theorem Qq6 (a1:Int)(b2:Int)  : TotP (QiX a1 b2) fun r=>True:=by
 unfold QiX
 refine TotP.bif (fun hc1=>?_) (fun hc1=>?_)
 ·exact TotP.okT
 ·exact TotP.okT
theorem QmW (a1:Int)(b2:Int)  : TotP (QdJ a1 b2) fun r=>True:=by
 unfold QdJ
 refine TotP.bif (fun hc1=>?_) (fun hc1=>?_)
 ·exact TotP.okT
 ·exact TotP.okT
theorem QmD (a1:Int)  : TotP (QgN a1) fun r=>True:=by
 unfold QgN
 refine TotP.bif (fun hc1=>?_) (fun hc1=>?_)
 ·exact TotP.okT
 ·exact TotP.okT
theorem QmX (p1:Int)(y2:Int)  : TotP (QdK p1 y2) fun r=>True:=by
 unfold QdK
 exact TotP.okT
theorem Qo2 (a1:Int)(b2:Int)  : TotP (QfT a1 b2) fun r=>True:=by
 unfold QfT
 refine TotP.bind (QmD a1 ) (fun x_1 hv2=>?_)
 refine TotP.bind (QmD b2 ) (fun x_3 hv4=>?_)
 refine TotP.bind (QmX x_1 x_3 ) (fun x_5 hv6=>?_)
 refine TotP.bif (fun hc7=>?_) (fun hc7=>?_)
 ·unfold QcB
  refine TotP.bif (fun hc8=>?_) (fun hc8=>?_)
  ·exact TotP.okT
  ·exact TotP.okT
 ·unfold QcB
  refine TotP.bif (fun hc9=>?_) (fun hc9=>?_)
  ·exact TotP.okT
  ·exact TotP.okT
theorem Qkj (a1:Int)(b2:Int)  : TotP (Qdq a1 b2) fun r=>True:=by
 unfold Qdq
 refine TotP.bif (fun hc1=>?_) (fun hc1=>?_)
 ·exact TotP.okT
 ·refine TotP.bif (fun hc2=>?_) (fun hc2=>?_)
  ·exact TotP.okT
  ·refine TotP.bind (TotP.chk (by simp_all)) (fun _ _=>?_)
   refine TotP.bind (TotP.chk (by simp_all)) (fun _ _=>?_)
   exact TotP.okT
theorem Qdm (is1:Bool)  : TotP (Qb4 is1) fun r=>True:=by
 unfold Qb4
 refine TotP.bif (fun hc1=>?_) (fun hc1=>?_)
 ·exact TotP.okT
 ·exact TotP.okT
theorem Qig (op1:Int)(a2:Int)(b3:Int)  : TotP (Qgf op1 a2 b3) fun r=>True:=by
 unfold Qgf
 refine TotP.bif (fun hc1=>?_) (fun hc1=>?_)
 ·refine TotP.bind (Qq6 a2 b3 ) (fun x_2 hv3=>?_)
  exact TotP.okT
 ·refine TotP.bif (fun hc4=>?_) (fun hc4=>?_)
  ·refine TotP.bind (QmW a2 b3 ) (fun x_5 hv6=>?_)
   exact TotP.okT
  ·refine TotP.bif (fun hc7=>?_) (fun hc7=>?_)
   ·refine TotP.bind (Qo2 a2 b3 ) (fun x_8 hv9=>?_)
    exact TotP.okT
   ·refine TotP.bif (fun hc10=>?_) (fun hc10=>?_)
    ·refine TotP.bind (Qkj a2 b3 ) (fun x_11 hv12=>?_)
     exact TotP.okT
    ·refine TotP.bif (fun hc13=>?_) (fun hc13=>?_)
     ·refine TotP.bind (Qkj a2 b3 ) (fun x_14 hv15=>?_)
      exact TotP.okT
     ·refine TotP.bif (fun hc16=>?_) (fun hc16=>?_)
      ·refine TotP.bind (Qdm (a2==b3) ) (fun x_17 hv18=>?_)
       exact TotP.okT
      ·refine TotP.bif (fun hc19=>?_) (fun hc19=>?_)
       ·refine TotP.bind (Qdm (a2 != b3) ) (fun x_20 hv21=>?_)
        exact TotP.okT
       ·refine TotP.bif (fun hc22=>?_) (fun hc22=>?_)
        ·refine TotP.bind (Qdm (decide (a2<b3)) ) (fun x_23 hv24=>?_)
         exact TotP.okT
        ·refine TotP.bif (fun hc25=>?_) (fun hc25=>?_)
         ·refine TotP.bind (Qdm (decide (a2≤b3)) ) (fun x_26 hv27=>?_)
          exact TotP.okT
         ·refine TotP.bif (fun hc28=>?_) (fun hc28=>?_)
          ·refine TotP.bind (P:=fun _=>True) ?_ (fun v_29 hv30=>?_)
           ·unfold QkF
            refine TotP.bif (fun hc31=>?_) (fun hc31=>?_)
            ·refine TotP.bind (Qdm (b3 != 0) ) (fun x_32 hv33=>?_)
             exact TotP.okT
            ·refine TotP.bind (Qdm false ) (fun x_34 hv35=>?_)
             exact TotP.okT
           unfold Qhk
           exact TotP.okT
          ·refine TotP.bif (fun hc36=>?_) (fun hc36=>?_)
           ·refine TotP.bind (P:=fun _=>True) ?_ (fun v_37 hv38=>?_)
            ·unfold QkG
             refine TotP.bif (fun hc39=>?_) (fun hc39=>?_)
             ·refine TotP.bind (Qdm true ) (fun x_40 hv41=>?_)
              exact TotP.okT
             ·refine TotP.bind (Qdm (b3 != 0) ) (fun x_42 hv43=>?_)
              exact TotP.okT
            unfold Qhl
            exact TotP.okT
           ·exact TotP.okT
theorem QnJ (a1:Int)  : TotP (QiZ a1) fun r=>True:=by
 unfold QiZ
 refine TotP.bind (Qig 2 0 a1 ) (fun x_1 hv2=>?_)
 exact TotP.okT
end Go.Proofs
