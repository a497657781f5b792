/- A part of the proof; what it holds is told at each theorem. -/
import Derived.Test.YtpijolohkdchcaaGreatDoorT3
import Derived.Test.YtpijolohkdchcaaGreatDoorXPlT
import Derived.KernelRfl
set_option linter.unusedVariables false
set_option linter.unusedSimpArgs false
set_option linter.unusedSectionVars false
set_option linter.deprecated false
noncomputable section
namespace Go.Proofs
open Go Go.RowKit Go.Vm
inductive QcK : Qf→Prop where
 | mk (e:Qf):e.Kids.length≤maxLen→(∀k∈e.Kids,QcK k)→QcK e
theorem QdM {e:Qf}(h:QcK e):lenL QcK e.Kids:=by
 cases h with
 | mk _ h1 h2=>exact⟨h1,h2⟩
theorem QoD {e k:Qf}(h:k∈e.Kids):SizeOf.sizeOf k<SizeOf.sizeOf e:=by
 obtain⟨a,b,l⟩:=e
 have:=List.sizeOf_lt_of_mem h
 simp only [Qf.mk.sizeOf_spec]at *
 omega
theorem Qf.pos (e:Qf):0<SizeOf.sizeOf e:=by
 obtain⟨a,b,l⟩:=e
 simp only [Qf.mk.sizeOf_spec];omega
inductive POk (v:Int):Qf→Prop where
 | mk (e:Qf):(e.Kind=1∨e.Kind=2∨e.Kind=3∨e.Kind=4∨e.Kind=5∨e.Kind=6)→(e.Kind=2→0≤e.Num∧e.Num<v)→(e.Kind=3∨e.Kind=4→e.Kids.length=1)→(e.Kind=5→e.Kids.length=2)→(e.Kind=6→e.Kids.length=3)→(∀k∈e.Kids,POk v k)→POk v e
def QbU (x:Qy):Prop:=Qfk x.Name∧True∧True∧True∧(lenL Qfk) x.Names∧True∧True
def Qb6 (x:QA):Prop:=Qfk x.Name∧True∧(lenL (fun _=>True)) x.First
def Qdk (x:TVar):Prop:=Qfk x.Name∧True
def Qid (x:TArc):Prop:=True∧QcK x.Expr
def Qam (x:Qr):Prop:=Qfk x.Name∧(lenL Qdk) x.Vars∧QcK x.Guard∧True∧True∧(lenL Qid) x.Ins∧(lenL Qid) x.Outs∧(lenL (fun _=>True)) x.Cancel∧True∧True
def QH (x:TNet):Prop:=(lenL QbU) x.Colours∧(lenL Qb6) x.Places∧(lenL Qam) x.Tasks∧True∧True
def QrJ (x:Qaa):Prop:=(lenL QbU) x.all∧(lenL (fun _=>True)) x.sizes∧True
theorem QqD (v1:TNet)(h_v1:QH v1):TotP (Qhd v1) fun r=>True:=by
 unfold Qhd
 exact TotP.okT
theorem QbF (l1:(List QA))(k2:Int)(h_l1:(lenL Qb6) l1):TotP (Qac l1 k2) fun r=>r=true→0≤k2∧k2<l1.length:=by
 unfold Qac
 exact TotP.ok (by first | (intro hr;first | (cases hr;done) | omega | ((try simp only [Bool.and_eq_true,Bool.or_eq_true,Bool.or_eq_false_iff,Bool.not_eq_true',Bool.not_eq_false',decide_eq_true_eq,decide_eq_false_iff_not,beq_iff_eq,bne_iff_ne,ne_eq,Bool.not_eq_true,Bool.not_eq_false,List.length_append,List.length_singleton,List.length_nil,List.length_drop,List.length_take,List.length_cons,Qjt,Qju,Qiv]at *);omega)) | ((try simp only [Bool.and_eq_true,Bool.or_eq_true,Bool.or_eq_false_iff,Bool.not_eq_true',Bool.not_eq_false',decide_eq_true_eq,decide_eq_false_iff_not,beq_iff_eq,bne_iff_ne,ne_eq,Bool.not_eq_true,Bool.not_eq_false,List.length_append,List.length_singleton,List.length_nil,List.length_drop,List.length_take,List.length_cons,Qjt,Qju,Qiv]at *);omega) | simp_all)
theorem QqE (v1:TNet)(h_v1:QH v1):TotP (Qhe v1) fun r=>True:=by
 unfold Qhe
 refine TotP.bind (P:=fun _=>True) ?_ (fun x_1 hv2=>?_)
 ·unfold Qjm
  refine TotP.bind (QbF v1.Places v1.From (h_v1.2.1)) (fun x_3 hv4=>?_)
  refine TotP.bif (fun hc5=>?_) (fun hc5=>?_)
  ·refine TotP.bind (QbF v1.Places v1.To (h_v1.2.1)) (fun x_6 hv7=>?_)
   exact TotP.okT
  ·exact TotP.okT
 unfold QeZ
 exact TotP.okT
theorem QqF (v1:TNet)(h_v1:QH v1):TotP (Qhf v1) fun r=>True:=by
 unfold Qhf
 exact TotP.okT
theorem QqG (v1:TNet)(v2:Int)(v3:Int)(v4:Int)(h_v1:QH v1):TotP (Qhg v1 v2 v3 v4) fun r=>True:=by
 unfold Qhg
 refine TotP.bind (QqD v1 (h_v1)) (fun x_1 hv2=>?_)
 refine TotP.bif (fun hc3=>?_) (fun hc3=>?_)
 ·exact TotP.okT
 ·refine TotP.bind (QqE v1 (h_v1)) (fun x_4 hv5=>?_)
  refine TotP.bif (fun hc6=>?_) (fun hc6=>?_)
  ·exact TotP.okT
  ·refine TotP.bind (QqF v1 (h_v1)) (fun x_7 hv8=>?_)
   refine TotP.bif (fun hc9=>?_) (fun hc9=>?_)
   ·exact TotP.okT
   ·exact TotP.okT
theorem QqH (lo1:Int)(hi2:Int)  : TotP (Qha lo1 hi2) fun r=>True:=by
 unfold Qha
 refine TotP.bif (fun hc1=>?_) (fun hc1=>?_)
 ·exact TotP.okT
 ·exact TotP.okT
theorem Qli (c1:Int)  : TotP (QdP c1) fun r=>True:=by
 unfold QdP
 exact TotP.okT
theorem Qkh (s1:ByteArray)(h_s1:Qfk s1):TotP (Qd3 s1) fun r=>True:=by
 unfold Qd3
 refine TotP.bind (P:=fun _=>True) ?_ (fun x_1 hv2=>?_)
 ·unfold Qjc
  refine TotP.bif (fun hc3=>?_) (fun hc3=>?_)
  ·exact TotP.okT
  ·have hshc3:=QtZ hc3
   refine TotP.bif (fun hc4=>?_) (fun hc4=>?_)
   ·exact TotP.okT
   ·refine TotP.bind (TotP.sidx (by omega) (by omega)) (fun c_5 hv6=>?_)
    refine TotP.bind (Qli c_5 ) (fun x_7 hv8=>?_)
    exact TotP.okT
 unfold QeQ
 refine TotP.bif (fun hc9=>?_) (fun hc9=>?_)
 ·exact TotP.okT
 ·refine TotP.bind (TotP.up (s1.size) (fun st=>st) (fun _=>True) (Q:=fun q=>True) rfl trivial (fun i11 st hi12 hn13 hj14=>?_)) (fun q15 hq16=>?_)
  ·obtain⟨x_10,hst⟩:∃y,y=st:=⟨_,rfl⟩
   subst hst
   replace hi12:x_10=(i11:Int):=hi12
   show TotP (Qdn s1 x_10) _
   unfold Qdn
   refine TotP.bif (fun hc17=>?_) (fun hc17=>?_)
   ·refine TotP.bind (TotP.sidx (by omega) (by simp_all)) (fun c_18 hv19=>?_)
    refine TotP.bind (P:=fun _=>True) ?_ (fun x_20 hv21=>?_)
    ·unfold Qjd
     refine TotP.bind (Qli c_18 ) (fun x_22 hv23=>?_)
     refine TotP.bif (fun hc24=>?_) (fun hc24=>?_)
     ·refine TotP.bif (fun hc25=>?_) (fun hc25=>?_)
      ·exact TotP.okT
      ·refine TotP.bif (fun hc26=>?_) (fun hc26=>?_)
       ·exact TotP.okT
       ·exact TotP.okT
     ·exact TotP.okT
    unfold QeN
    refine TotP.bif (fun hc27=>?_) (fun hc27=>?_)
    ·exact TotP.ok (Qm trivial)
    ·exact TotP.ok (Qz ⟨(by simp_all),by subst hi12;exact Qv (by simp_all) h_s1,trivial⟩)
   ·exact TotP.ok (Qm trivial)
  rcases q15 with q15 | q15
  ·show TotP (QeO) _
   unfold QeO
   exact TotP.okT
  ·show TotP (QeP) _
   unfold QeP
   exact TotP.okT
theorem QpX (l1:(List ByteArray))(h_l1:(lenL Qfk) l1):TotP (Qgm l1) fun r=>True:=by
 unfold Qgm
 refine TotP.bind (TotP.up (l1.length) (fun st=>st.1) (fun _=>True) (Q:=fun q=>True) rfl trivial (fun i3 st hi4 hn5 hj6=>?_)) (fun q7 hq8=>?_)
 ·obtain⟨x_1,m_2⟩:=st
  replace hi4:x_1=(i3:Int):=hi4
  show TotP (Qc3 l1 x_1 m_2) _
  unfold Qc3
  refine TotP.bif (fun hc9=>?_) (fun hc9=>?_)
  ·refine TotP.bind (TotP.idx (by omega) (by simp_all)) (fun e_10 hv11=>?_)
   refine TotP.bind (P:=fun _=>True) ?_ (fun x_12 hv13=>?_)
   ·unfold Qiw
    refine TotP.bind (Qkh e_10 (((h_l1).2 e_10 hv11))) (fun x_14 hv15=>?_)
    refine TotP.bif (fun hc16=>?_) (fun hc16=>?_)
    ·exact TotP.okT
    ·exact TotP.okT
   unfold Qd8
   refine TotP.bif (fun hc17=>?_) (fun hc17=>?_)
   ·exact TotP.ok (Qm trivial)
   ·exact TotP.ok (Qz ⟨(by simp_all),by subst hi4;exact Qv (by simp_all) (h_l1).1,trivial⟩)
  ·exact TotP.ok (Qm trivial)
 rcases q7 with q7 | q7
 ·show TotP (Qd9) _
  unfold Qd9
  exact TotP.okT
 ·show TotP (Qea) _
  unfold Qea
  exact TotP.okT
theorem QqI (c1:Qy)(ahead2:(List Int))(h_c1:QbU c1)(h_ahead2:(lenL (fun _=>True)) ahead2):TotP (Qhb c1 ahead2) fun r=>True:=by
 unfold Qhb
 refine TotP.bif (fun hc1=>?_) (fun hc1=>?_)
 ·refine TotP.bind (QqH c1.Lo c1.Hi ) (fun x_2 hv3=>?_)
  exact TotP.okT
 ·refine TotP.bif (fun hc4=>?_) (fun hc4=>?_)
  ·refine TotP.bind (QpX c1.Names (h_c1.2.2.2.2.1)) (fun x_5 hv6=>?_)
   refine TotP.bif (fun hc7=>?_) (fun hc7=>?_)
   ·exact TotP.okT
   ·unfold QbK
    exact TotP.okT
  ·refine TotP.bif (fun hc8=>?_) (fun hc8=>?_)
   ·refine TotP.bif (fun hc9=>?_) (fun hc9=>?_)
    ·refine TotP.bind (TotP.idx (by(try simp only [Bool.and_eq_true,Bool.or_eq_true,Bool.or_eq_false_iff,Bool.not_eq_true',Bool.not_eq_false',decide_eq_true_eq,decide_eq_false_iff_not,beq_iff_eq,bne_iff_ne,ne_eq,Bool.not_eq_true,Bool.not_eq_false,List.length_append,List.length_singleton,List.length_nil,List.length_drop,List.length_take,List.length_cons,Qjt,Qju,Qiv]at *);omega) (by(try simp only [Bool.and_eq_true,Bool.or_eq_true,Bool.or_eq_false_iff,Bool.not_eq_true',Bool.not_eq_false',decide_eq_true_eq,decide_eq_false_iff_not,beq_iff_eq,bne_iff_ne,ne_eq,Bool.not_eq_true,Bool.not_eq_false,List.length_append,List.length_singleton,List.length_nil,List.length_drop,List.length_take,List.length_cons,Qjt,Qju,Qiv]at *);omega)) (fun e_10 hv11=>?_)
     refine TotP.bind (TotP.idx (by(try simp only [Bool.and_eq_true,Bool.or_eq_true,Bool.or_eq_false_iff,Bool.not_eq_true',Bool.not_eq_false',decide_eq_true_eq,decide_eq_false_iff_not,beq_iff_eq,bne_iff_ne,ne_eq,Bool.not_eq_true,Bool.not_eq_false,List.length_append,List.length_singleton,List.length_nil,List.length_drop,List.length_take,List.length_cons,Qjt,Qju,Qiv]at *);omega) (by(try simp only [Bool.and_eq_true,Bool.or_eq_true,Bool.or_eq_false_iff,Bool.not_eq_true',Bool.not_eq_false',decide_eq_true_eq,decide_eq_false_iff_not,beq_iff_eq,bne_iff_ne,ne_eq,Bool.not_eq_true,Bool.not_eq_false,List.length_append,List.length_singleton,List.length_nil,List.length_drop,List.length_take,List.length_cons,Qjt,Qju,Qiv]at *);omega)) (fun e_12 hv13=>?_)
     exact TotP.okT
    ·unfold QbK
     exact TotP.okT
   ·unfold QbK
    exact TotP.okT
theorem QlZ (l1:(List Qy))(h_l1:(lenL QbU) l1):TotP (Qex l1) fun r=>((lenL (fun _=>True)) r.1∧True)∧(r.2=true→r.1.length=l1.length∧∀x∈r.1,1≤x∧x≤1024):=by
 unfold Qex
 refine TotP.bif (fun hc=>TotP.ok ⟨⟨lenL.nil,trivial⟩,fun h=>by cases h⟩) (fun hc=>?_)
 have hl:l1.length≤32:=by simp only [decide_eq_false_iff_not]at hc;omega
 refine TotP.bind (TotP.up l1.length (fun st=>st.1) (fun st=>(st.2.2.length:Int)=st.1∧∀x∈st.2.2,1≤x∧x≤1024) (Q:=fun q=>∀l,q=.inr l→l.length=l1.length∧∀x∈l,1≤x∧x≤1024) rfl ⟨rfl,fun x h=>(by cases h)⟩ (fun i st hi hn hj=>?_)) (fun q hq=>?_)
 ·obtain⟨x,m,l⟩:=st
  replace hi:x=(i:Int):=hi
  replace hj:(l.length:Int)=x∧∀x∈l,1≤x∧x≤1024:=hj
  obtain⟨hj,hj2⟩:=hj
  show TotP (Qc4 l1 x m l) _
  unfold Qc4
  refine TotP.bif (fun hc2=>?_) (fun hc2=>?_)
  ·simp only [decide_eq_true_eq]at hc2
   refine TotP.bind (TotP.idx (by omega) (by omega)) fun e he=>?_
   refine TotP.bind (QqI e l (h_l1.2 e he) ⟨by unfold maxLen;omega,fun _ _=>trivial⟩) fun y _=>?_
   refine TotP.bind (P:=fun z=>z=false→1≤y∧y≤1024) ?_ fun z hz=>?_
   ·unfold Qix
    refine TotP.bind (Qkh e.Name (h_l1.2 e he).1) fun z _=>?_
    refine TotP.bif (fun _=>TotP.ok (fun h=>by cases h)) fun _=>TotP.bif (fun _=>TotP.ok (fun h=>by cases h)) fun _=>TotP.bif (fun _=>TotP.ok (fun h=>by cases h)) fun h1=>TotP.ok fun h2=>?_
    simp only [decide_eq_false_iff_not]at h1 h2
    omega
   unfold Qeb
   refine TotP.bif (fun _=>TotP.ok (Qm fun l h=>by cases h)) fun hz0=>?_
   refine TotP.bind (TotP.chk (by simp;omega)) fun _ _=>?_
   exact TotP.ok (Qz ⟨by omega,by subst hi;exact Qv (by omega) (by unfold maxLen;omega:l1.length≤maxLen),by simp only [List.length_append,List.length_singleton];subst hi;rw [Qv (show i<l1.length by omega) (by unfold maxLen;omega)];omega,fun u hu=>by
    rcases List.mem_append.1 hu with hu | hu
    ·exact hj2 u hu
    ·simp at hu;subst hu;exact hz hz0⟩)
  ·simp only [decide_eq_false_iff_not]at hc2
   exact TotP.ok (Qm fun l' h=>by cases h;exact⟨by omega,hj2⟩)
 ·rcases q with q | q
  ·exact TotP.ok ⟨⟨lenL.nil,trivial⟩,fun h=>by cases h⟩
  ·have:=hq q rfl
   exact TotP.ok ⟨⟨⟨by show q.length≤maxLen;unfold maxLen;omega,fun _ _=>trivial⟩,trivial⟩,fun _=>this⟩
theorem QpY (l1:(List Qy))(h_l1:(lenL QbU) l1):TotP (Qgx l1) fun r=>True:=by
 unfold Qgx
 refine TotP.bind (QlZ l1 (h_l1)) (fun x_1 hv2=>?_)
 exact TotP.okT
theorem QmV (v1:TNet)(v2:Int)(h_v1:QH v1)(hp0:0≤v2)(hp1:v2<v1.Colours.length):TotP (Qdd v1 v2) fun r=>True:=by
 have hl:=h_v1.1.1
 unfold maxLen at hl
 unfold Qdd
 rw [QdK (show -9223372036854775808≤v2+1∧v2+1≤9223372036854775807 by omega)]
 refine TotP.bind (TotP.chk (by simp only [Bool.and_eq_true,decide_eq_true_eq];omega)) fun _ _=>?_
 exact TotP.bind (QpY _ ((h_v1.1.drop _).take _)) fun x _=>TotP.okT
def QqJ : List ByteArray:=(Qfv).getD []
set_option maxRecDepth 100000 in
theorem QuA : Qfv=some QqJ:=by kernel_rfl
set_option maxRecDepth 100000 in
theorem QsJ : (decide (QqJ.length≤1000)&&QqJ.all fun s=>decide (s.size≤1000))=true:=by kernel_rfl
theorem QqK : TotP (Qfv) fun r=>lenL Qfk r:=by
 have h:=QsJ
 rw [Bool.and_eq_true,decide_eq_true_iff,List.all_eq_true]at h
 refine⟨QqJ,QuA,by unfold maxLen;omega,fun x hx=>?_⟩
 have:=h.2 x hx
 rw [decide_eq_true_iff]at this
 unfold Qfk maxLen;omega
theorem Qki (s1:(List ByteArray))(v2:ByteArray)(h_s1:(lenL Qfk) s1)(h_v2:Qfk v2):TotP (Qba s1 v2) fun r=>True:=by
 unfold Qba
 refine TotP.bind (TotP.up (s1.length) (fun st=>st) (fun _=>True) (Q:=fun q=>True) rfl trivial (fun i2 st hi3 hn4 hj5=>?_)) (fun q6 hq7=>?_)
 ·obtain⟨x_1,hst⟩:∃y,y=st:=⟨_,rfl⟩
  subst hst
  replace hi3:x_1=(i2:Int):=hi3
  show TotP (Qal s1 v2 x_1) _
  unfold Qal
  refine TotP.bif (fun hc8=>?_) (fun hc8=>?_)
  ·refine TotP.bind (TotP.idx (by omega) (by simp_all)) (fun e_9 hv10=>?_)
   refine TotP.bif (fun hc11=>?_) (fun hc11=>?_)
   ·exact TotP.ok (Qm trivial)
   ·exact TotP.ok (Qz ⟨(by simp_all),by subst hi3;exact Qv (by simp_all) (h_s1).1,trivial⟩)
  ·exact TotP.ok (Qm trivial)
 rcases q6 with q6 | q6
 ·show TotP (QaI q6) _
  unfold QaI
  exact TotP.okT
 ·show TotP (QaJ) _
  unfold QaJ
  exact TotP.okT
theorem QiX (s1:(List ByteArray))(v2:ByteArray)(h_s1:(lenL Qfk) s1)(h_v2:Qfk v2):TotP (QaK s1 v2) fun r=>True:=by
 unfold QaK
 refine TotP.bind (Qki s1 v2 (h_s1) (h_v2)) (fun x_1 hv2=>?_)
 exact TotP.okT
theorem Qre (s1:ByteArray)(h_s1:Qfk s1):TotP (Qib s1) fun r=>True:=by
 unfold Qib
 refine TotP.bind (QqK  ) (fun x_1 hv2=>?_)
 refine TotP.bind (QiX x_1 s1 (hv2) (h_s1)) (fun x_3 hv4=>?_)
 exact TotP.okT
theorem QgK (s1:ByteArray)(h_s1:Qfk s1):TotP (QcX s1) fun r=>True:=by
 unfold QcX
 refine TotP.bind (P:=fun _=>True) ?_ (fun x_1 hv2=>?_)
 ·unfold Qj8
  refine TotP.bind (Qkh s1 (h_s1)) (fun x_3 hv4=>?_)
  refine TotP.bif (fun hc5=>?_) (fun hc5=>?_)
  ·refine TotP.bind (Qre s1 (h_s1)) (fun x_6 hv7=>?_)
   exact TotP.okT
  ·exact TotP.okT
 unfold QfI
 exact TotP.okT
theorem Qma (s1:ByteArray)(h_s1:Qfk s1):TotP (QcE s1) fun r=>True:=by
 unfold QcE
 refine TotP.bind (QgK s1 (h_s1)) (fun x_1 hv2=>?_)
 exact TotP.okT
theorem QiH (s1:(List ByteArray))(h_s1:(lenL Qfk) s1):TotP (QaD s1) fun r=>True:=by
 unfold QaD
 refine TotP.bind (TotP.up (s1.length) (fun st=>st) (fun _=>True) (Q:=fun q=>True) rfl trivial (fun i2 st hi3 hn4 hj5=>?_)) (fun q6 hq7=>?_)
 ·obtain⟨x_1,hst⟩:∃y,y=st:=⟨_,rfl⟩
  subst hst
  replace hi3:x_1=(i2:Int):=hi3
  show TotP (Q2 s1 x_1) _
  unfold Q2
  refine TotP.bif (fun hc8=>?_) (fun hc8=>?_)
  ·refine TotP.bind (TotP.idx (by omega) (by simp_all)) (fun e_9 hv10=>?_)
   refine TotP.bind (Qma e_9 (((h_s1).2 e_9 hv10))) (fun x_11 hv12=>?_)
   refine TotP.bif (fun hc13=>?_) (fun hc13=>?_)
   ·exact TotP.ok (Qm trivial)
   ·exact TotP.ok (Qz ⟨(by simp_all),by subst hi3;exact Qv (by simp_all) (h_s1).1,trivial⟩)
  ·exact TotP.ok (Qm trivial)
 rcases q6 with q6 | q6
 ·show TotP (Qar q6) _
  unfold Qar
  exact TotP.okT
 ·show TotP (Qas) _
  unfold Qas
  exact TotP.okT
theorem QhR (s1:(List ByteArray))(h_s1:(lenL Qfk) s1):TotP (Qat s1) fun r=>True:=by
 unfold Qat
 refine TotP.bind (QiH s1 (h_s1)) (fun x_1 hv2=>?_)
 exact TotP.okT
theorem QmW (v1:Qy)(h_v1:QbU v1):TotP (Qde v1) fun r=>True:=by
 unfold Qde
 refine TotP.bind (P:=fun _=>True) ?_ (fun x_1 hv2=>?_)
 ·unfold Qf6
  refine TotP.bind (QgK v1.Name (h_v1.1)) (fun x_3 hv4=>?_)
  refine TotP.bif (fun hc5=>?_) (fun hc5=>?_)
  ·refine TotP.bif (fun hc6=>?_) (fun hc6=>?_)
   ·exact TotP.okT
   ·refine TotP.bind (QhR v1.Names (h_v1.2.2.2.2.1)) (fun x_7 hv8=>?_)
    exact TotP.okT
  ·exact TotP.okT
 unfold Qcl
 exact TotP.okT
theorem QoE (v1:TNet)(v2:Int)(v3:Int)(v4:Qy)(v5:Int)(h_v1:QH v1)(h_v4:QbU v4)(hp0:0≤v2)(hp1:v2<v1.Colours.length):TotP (Qe0 v1 v2 v3 v4 v5) fun r=>True:=by
 unfold Qe0
 refine TotP.bind (QmV v1 v2 (h_v1) (by omega) (by omega)) (fun x_1 hv2=>?_)
 refine TotP.bif (fun hc3=>?_) (fun hc3=>?_)
 ·exact TotP.okT
 ·refine TotP.bind (QmW v4 (h_v4)) (fun x_4 hv5=>?_)
  refine TotP.bif (fun hc6=>?_) (fun hc6=>?_)
  ·exact TotP.okT
  ·exact TotP.okT
theorem Qn0 (k1:Int)(c2:Qy)(v3:TNet)(h_c2:QbU c2)(h_v3:QH v3)(hp0:0≤k1)(hp1:k1<v3.Colours.length):TotP (Qeg k1 c2 v3) fun r=>True:=by
 unfold Qeg
 refine TotP.bind (QoE v3 k1 8 c2 8 (h_v3) (h_c2) (by omega) (by omega)) (fun x_1 hv2=>?_)
 exact TotP.okT
theorem Qls (l1:(List Qy))(v2:TNet)(h_l1:(lenL QbU) l1)(h_v2:QH v2)(hp0:l1.length≤v2.Colours.length):TotP (Qb0 l1 v2) fun r=>True:=by
 unfold Qb0
 refine TotP.bind (TotP.up (l1.length) (fun st=>st) (fun _=>True) (Q:=fun q=>True) rfl trivial (fun i2 st hi3 hn4 hj5=>?_)) (fun q6 hq7=>?_)
 ·obtain⟨x_1,hst⟩:∃y,y=st:=⟨_,rfl⟩
  subst hst
  replace hi3:x_1=(i2:Int):=hi3
  show TotP (QaL l1 v2 x_1) _
  unfold QaL
  refine TotP.bif (fun hc8=>?_) (fun hc8=>?_)
  ·refine TotP.bind (TotP.idx (by omega) (by simp_all)) (fun e_9 hv10=>?_)
   refine TotP.bind (Qn0 x_1 e_9 v2 (((h_l1).2 e_9 hv10)) (h_v2) (by omega) (by simp_all;omega)) (fun x_11 hv12=>?_)
   refine TotP.bif (fun hc13=>?_) (fun hc13=>?_)
   ·exact TotP.ok (Qm trivial)
   ·exact TotP.ok (Qz ⟨(by simp_all),by subst hi3;exact Qv (by simp_all) (h_l1).1,trivial⟩)
  ·exact TotP.ok (Qm trivial)
 rcases q6 with q6 | q6
 ·show TotP (Qbp q6.1 q6.2) _
  unfold Qbp
  exact TotP.okT
 ·show TotP (Qbq) _
  unfold Qbq
  exact TotP.okT
theorem Qlj (n1:TNet)(h_n1:QH n1):TotP (QdY n1) fun r=>True:=by
 unfold QdY
 refine TotP.bind (Qls n1.Colours n1 (h_n1.1) (h_n1) (by omega)) (fun x_1 hv2=>?_)
 exact TotP.okT
theorem Qpl (v1:QA)(h_v1:Qb6 v1):TotP (QfK v1) fun r=>True:=by
 unfold QfK
 refine TotP.bind (QgK v1.Name (h_v1.1)) (fun x_1 hv2=>?_)
 exact TotP.okT
theorem Qpm (p1:QA)(v2:QA)(h_p1:Qb6 p1)(h_v2:Qb6 v2):TotP (QfL p1 v2) fun r=>True:=by
 unfold QfL
 exact TotP.okT
theorem Qg6 (s1:(List QA))(v2:QA)(h_s1:(lenL Qb6) s1)(h_v2:Qb6 v2):TotP (Qad s1 v2) fun r=>True:=by
 unfold Qad
 refine TotP.bind (TotP.up (s1.length) (fun st=>st) (fun _=>True) (Q:=fun q=>True) rfl trivial (fun i2 st hi3 hn4 hj5=>?_)) (fun q6 hq7=>?_)
 ·obtain⟨x_1,hst⟩:∃y,y=st:=⟨_,rfl⟩
  subst hst
  replace hi3:x_1=(i2:Int):=hi3
  show TotP (QP s1 v2 x_1) _
  unfold QP
  refine TotP.bif (fun hc8=>?_) (fun hc8=>?_)
  ·refine TotP.bind (TotP.idx (by omega) (by simp_all)) (fun e_9 hv10=>?_)
   refine TotP.bind (Qpm e_9 v2 (((h_s1).2 e_9 hv10)) (h_v2)) (fun x_11 hv12=>?_)
   refine TotP.bif (fun hc13=>?_) (fun hc13=>?_)
   ·exact TotP.ok (Qm trivial)
   ·exact TotP.ok (Qz ⟨(by simp_all),by subst hi3;exact Qv (by simp_all) (h_s1).1,trivial⟩)
  ·exact TotP.ok (Qm trivial)
 rcases q6 with q6 | q6
 ·show TotP (QZ q6) _
  unfold QZ
  exact TotP.okT
 ·show TotP (Q0) _
  unfold Q0
  exact TotP.okT
theorem Qf9 (s1:(List QA))(v2:QA)(h_s1:(lenL Qb6) s1)(h_v2:Qb6 v2):TotP (Q1 s1 v2) fun r=>True:=by
 unfold Q1
 refine TotP.bind (Qg6 s1 v2 (h_s1) (h_v2)) (fun x_1 hv2=>?_)
 exact TotP.okT
theorem Qpn (v1:TNet)(v2:Int)(v3:QA)(h_v1:QH v1)(h_v3:Qb6 v3)(hp0:0≤v2)(hp1:v2<v1.Places.length):TotP (QfM v1 v2 v3) fun r=>True:=by
 unfold QfM
 refine TotP.bind (TotP.chk (by simp_all;omega)) (fun _ _=>?_)
 refine TotP.bind (Qf9 ((v1.Places.drop 0).take (v2.toNat-0)) v3 (((h_v1.2.1).drop _).take _) (h_v3)) (fun x_1 hv2=>?_)
 exact TotP.okT
theorem Qhm (l1:(List Qy))(k2:Int)(h_l1:(lenL QbU) l1):TotP (Qbb l1 k2) fun r=>True:=by
 unfold Qbb
 exact TotP.okT
theorem Qpo (v1:TNet)(v2:QA)(h_v1:QH v1)(h_v2:Qb6 v2):TotP (QfN v1 v2) fun r=>True:=by
 unfold QfN
 refine TotP.bind (Qhm v1.Colours v2.Colour (h_v1.1)) (fun x_1 hv2=>?_)
 exact TotP.okT
theorem QrK (b1:(List (Int×Int)))(h_b1:(lenL (fun _=>True)) b1):TotP (Qcg b1) fun r=>True:=by
 unfold Qcg
 refine TotP.bind (TotP.up (b1.length) (fun st=>st.2) (fun _=>True) (Q:=fun q=>True) rfl trivial (fun i3 st hi4 hn5 hj6=>?_)) (fun q7 hq8=>?_)
 ·obtain⟨last_1,x_2⟩:=st
  replace hi4:x_2=(i3:Int):=hi4
  show TotP (Qa5 b1 last_1 x_2) _
  unfold Qa5
  refine TotP.bif (fun hc9=>?_) (fun hc9=>?_)
  ·refine TotP.bind (TotP.idx (by omega) (by simp_all)) (fun e_10 hv11=>?_)
   refine TotP.bif (fun hc12=>?_) (fun hc12=>?_)
   ·exact TotP.ok (Qm trivial)
   ·exact TotP.ok (Qz ⟨(by simp_all),by subst hi4;exact Qv (by simp_all) (h_b1).1,trivial⟩)
  ·exact TotP.ok (Qm trivial)
 rcases q7 with q7 | q7
 ·show TotP (Qgq) _
  unfold Qgq
  exact TotP.okT
 ·show TotP (Qgr) _
  unfold Qgr
  exact TotP.okT
theorem Qpp (v1:QA)(h_v1:Qb6 v1):TotP (QfO v1) fun r=>True:=by
 unfold QfO
 refine TotP.bind (QrK v1.First (h_v1.2.2)) (fun x_1 hv2=>?_)
 exact TotP.okT
theorem Qi8 (l1:(List Qy))(k2:Int)(h_l1:(lenL QbU) l1):TotP (Qeu l1 k2) fun r=>(True∧QrJ r.2)∧(r.1=true→(0≤k2∧k2<r.2.sizes.length)∧r.2.k=k2∧r.2.all.length=r.2.sizes.length∧∀x∈r.2.sizes,1≤x∧x≤1024):=by
 unfold Qeu
 refine TotP.bind (QlZ l1 h_l1) fun x hx=>?_
 refine TotP.bif (fun _=>TotP.ok ⟨⟨trivial,lenL.nil,lenL.nil,trivial⟩,fun h=>by cases h⟩) fun hc=>?_
 simp only [Bool.or_eq_false_iff,Bool.not_eq_false',decide_eq_false_iff_not]at hc
 have:=hx.2 hc.1
 exact TotP.ok ⟨⟨trivial,h_l1,hx.1.1,trivial⟩,fun _=>⟨⟨by omega,by show k2<(x.1.length:Int);omega⟩,rfl,this.1.symm,this.2⟩⟩
theorem QfV (l1:(List Qy))(k2:Int)(h_l1:(lenL QbU) l1):TotP (Qa1 l1 k2) fun r=>0≤r∧r≤1024:=by
 unfold Qa1
 refine TotP.bind (Qi8 l1 k2 h_l1) (fun x hx=>?_)
 refine TotP.bif (fun hc=>TotP.ok (by omega)) (fun hc=>?_)
 have h:=hx.2 (by simpa using hc)
 exact TotP.bind (TotP.idx (by omega) (by omega)) fun e he=>TotP.ok (by have:=h.2.2.2 e he;omega)
theorem Qn1 (row1:(Int×Int))(v2:Int)  : TotP (Qeh row1 v2) fun r=>True:=by
 unfold Qeh
 exact TotP.okT
theorem QiI (s1:(List (Int×Int)))(v2:Int)(h_s1:(lenL (fun _=>True)) s1):TotP (QaE s1 v2) fun r=>True:=by
 unfold QaE
 refine TotP.bind (TotP.up (s1.length) (fun st=>st) (fun _=>True) (Q:=fun q=>True) rfl trivial (fun i2 st hi3 hn4 hj5=>?_)) (fun q6 hq7=>?_)
 ·obtain⟨x_1,hst⟩:∃y,y=st:=⟨_,rfl⟩
  subst hst
  replace hi3:x_1=(i2:Int):=hi3
  show TotP (Q3 s1 v2 x_1) _
  unfold Q3
  refine TotP.bif (fun hc8=>?_) (fun hc8=>?_)
  ·refine TotP.bind (TotP.idx (by omega) (by simp_all)) (fun e_9 hv10=>?_)
   refine TotP.bind (Qn1 e_9 v2 ) (fun x_11 hv12=>?_)
   refine TotP.bif (fun hc13=>?_) (fun hc13=>?_)
   ·exact TotP.ok (Qm trivial)
   ·exact TotP.ok (Qz ⟨(by simp_all),by subst hi3;exact Qv (by simp_all) (h_s1).1,trivial⟩)
  ·exact TotP.ok (Qm trivial)
 rcases q6 with q6 | q6
 ·show TotP (Qau q6) _
  unfold Qau
  exact TotP.okT
 ·show TotP (Qav) _
  unfold Qav
  exact TotP.okT
theorem QhS (s1:(List (Int×Int)))(v2:Int)(h_s1:(lenL (fun _=>True)) s1):TotP (Qaw s1 v2) fun r=>True:=by
 unfold Qaw
 refine TotP.bind (QiI s1 v2 (h_s1)) (fun x_1 hv2=>?_)
 exact TotP.okT
theorem Qpq (v1:TNet)(v2:QA)(h_v1:QH v1)(h_v2:Qb6 v2):TotP (QfP v1 v2) fun r=>True:=by
 unfold QfP
 refine TotP.bind (QfV v1.Colours v2.Colour (h_v1.1)) (fun x_1 hv2=>?_)
 refine TotP.bind (QhS v2.First x_1 (h_v2.2.2)) (fun x_3 hv4=>?_)
 exact TotP.okT
theorem QoF (v1:QA)(v2:Int)(v3:TNet)(v4:Int)(v5:Int)(v6:Int)(v7:Int)(v8:Int)(h_v1:Qb6 v1)(h_v3:QH v3)(hp0:0≤v4)(hp1:v4<v3.Places.length):TotP (Qe1 v1 v2 v3 v4 v5 v6 v7 v8) fun r=>True:=by
 unfold Qe1
 refine TotP.bind (Qpl v1 (h_v1)) (fun x_1 hv2=>?_)
 refine TotP.bif (fun hc3=>?_) (fun hc3=>?_)
 ·exact TotP.okT
 ·refine TotP.bind (Qpn v3 v4 v1 (h_v3) (h_v1) (by omega) (by omega)) (fun x_4 hv5=>?_)
  refine TotP.bif (fun hc6=>?_) (fun hc6=>?_)
  ·exact TotP.okT
  ·refine TotP.bind (Qpo v3 v1 (h_v3) (h_v1)) (fun x_7 hv8=>?_)
   refine TotP.bif (fun hc9=>?_) (fun hc9=>?_)
   ·exact TotP.okT
   ·refine TotP.bind (Qpp v1 (h_v1)) (fun x_10 hv11=>?_)
    refine TotP.bif (fun hc12=>?_) (fun hc12=>?_)
    ·exact TotP.okT
    ·refine TotP.bind (Qpq v3 v1 (h_v3) (h_v1)) (fun x_13 hv14=>?_)
     refine TotP.bif (fun hc15=>?_) (fun hc15=>?_)
     ·exact TotP.okT
     ·exact TotP.okT
theorem QqL (n1:TNet)(k2:Int)(h_n1:QH n1):TotP (Qhh n1 k2) fun r=>True:=by
 unfold Qhh
 refine TotP.bind (QbF n1.Places k2 (h_n1.2.1)) (fun x_1 hv2=>?_)
 refine TotP.bif (fun hc3=>?_) (fun hc3=>?_)
 ·exact TotP.okT
 ·refine TotP.bind (TotP.idx (by simp_all) (by simp_all)) (fun e_4 hv5=>?_)
  refine TotP.bind (QoF e_4 1 n1 k2 5 3 1 8 (((h_n1.2.1).2 e_4 hv5)) (h_n1) (by simp_all) (by simp_all)) (fun x_6 hv7=>?_)
  exact TotP.okT
theorem QqM (k1:Int)(p2:QA)(v3:TNet)(h_p2:Qb6 p2)(h_v3:QH v3):TotP (Qhi k1 p2 v3) fun r=>True:=by
 unfold Qhi
 refine TotP.bind (QqL v3 k1 (h_v3)) (fun x_1 hv2=>?_)
 exact TotP.okT
theorem Ql0 (l1:(List QA))(v2:TNet)(h_l1:(lenL Qb6) l1)(h_v2:QH v2):TotP (Qcm l1 v2) fun r=>True:=by
 unfold Qcm
 refine TotP.bind (TotP.up (l1.length) (fun st=>st) (fun _=>True) (Q:=fun q=>True) rfl trivial (fun i2 st hi3 hn4 hj5=>?_)) (fun q6 hq7=>?_)
 ·obtain⟨x_1,hst⟩:∃y,y=st:=⟨_,rfl⟩
  subst hst
  replace hi3:x_1=(i2:Int):=hi3
  show TotP (QaT l1 v2 x_1) _
  unfold QaT
  refine TotP.bif (fun hc8=>?_) (fun hc8=>?_)
  ·refine TotP.bind (TotP.idx (by omega) (by simp_all)) (fun e_9 hv10=>?_)
   refine TotP.bind (QqM x_1 e_9 v2 (((h_l1).2 e_9 hv10)) (h_v2)) (fun x_11 hv12=>?_)
   refine TotP.bif (fun hc13=>?_) (fun hc13=>?_)
   ·exact TotP.ok (Qm trivial)
   ·exact TotP.ok (Qz ⟨(by simp_all),by subst hi3;exact Qv (by simp_all) (h_l1).1,trivial⟩)
  ·exact TotP.ok (Qm trivial)
 rcases q6 with q6 | q6
 ·show TotP (QbC q6.1 q6.2) _
  unfold QbC
  exact TotP.okT
 ·show TotP (QbD) _
  unfold QbD
  exact TotP.okT
theorem Qie (l1:(List Qr))(k2:Int)(h_l1:(lenL Qam) l1):TotP (Qbt l1 k2) fun r=>r=true→0≤k2∧k2<l1.length:=by
 unfold Qbt
 exact TotP.ok (by first | (intro hr;first | (cases hr;done) | omega | ((try simp only [Bool.and_eq_true,Bool.or_eq_true,Bool.or_eq_false_iff,Bool.not_eq_true',Bool.not_eq_false',decide_eq_true_eq,decide_eq_false_iff_not,beq_iff_eq,bne_iff_ne,ne_eq,Bool.not_eq_true,Bool.not_eq_false,List.length_append,List.length_singleton,List.length_nil,List.length_drop,List.length_take,List.length_cons,Qjt,Qju,Qiv]at *);omega)) | ((try simp only [Bool.and_eq_true,Bool.or_eq_true,Bool.or_eq_false_iff,Bool.not_eq_true',Bool.not_eq_false',decide_eq_true_eq,decide_eq_false_iff_not,beq_iff_eq,bne_iff_ne,ne_eq,Bool.not_eq_true,Bool.not_eq_false,List.length_append,List.length_singleton,List.length_nil,List.length_drop,List.length_take,List.length_cons,Qjt,Qju,Qiv]at *);omega) | simp_all)
theorem QqN (v1:Int)(v2:TNet)(v3:Qr)(h_v2:QH v2)(h_v3:Qam v3):TotP (Qhj v1 v2 v3) fun r=>True:=by
 unfold Qhj
 exact TotP.okT
theorem QoG (v1:Int)(v2:TNet)(v3:Qr)(v4:Int)(h_v2:QH v2)(h_v3:Qam v3):TotP (Qe2 v1 v2 v3 v4) fun r=>True:=by
 unfold Qe2
 exact TotP.okT
theorem QoH (v1:Int)(v2:TNet)(v3:Qr)(v4:Int)(h_v2:QH v2)(h_v3:Qam v3):TotP (Qe3 v1 v2 v3 v4) fun r=>True:=by
 unfold Qe3
 exact TotP.okT
theorem QoI (v1:Int)(v2:TNet)(v3:Qr)(h_v2:QH v2)(h_v3:Qam v3):TotP (Qe4 v1 v2 v3) fun r=>True:=by
 unfold Qe4
 exact TotP.okT
theorem QpZ (v1:Qr)(h_v1:Qam v1):TotP (Qgy v1) fun r=>True:=by
 unfold Qgy
 refine TotP.bind (QgK v1.Name (h_v1.1)) (fun x_1 hv2=>?_)
 exact TotP.okT
theorem Qp0 (p1:Qr)(v2:Qr)(h_p1:Qam p1)(h_v2:Qam v2):TotP (Qgz p1 v2) fun r=>True:=by
 unfold Qgz
 exact TotP.okT
theorem QhC (s1:(List Qr))(v2:Qr)(h_s1:(lenL Qam) s1)(h_v2:Qam v2):TotP (Qan s1 v2) fun r=>True:=by
 unfold Qan
 refine TotP.bind (TotP.up (s1.length) (fun st=>st) (fun _=>True) (Q:=fun q=>True) rfl trivial (fun i2 st hi3 hn4 hj5=>?_)) (fun q6 hq7=>?_)
 ·obtain⟨x_1,hst⟩:∃y,y=st:=⟨_,rfl⟩
  subst hst
  replace hi3:x_1=(i2:Int):=hi3
  show TotP (QR s1 v2 x_1) _
  unfold QR
  refine TotP.bif (fun hc8=>?_) (fun hc8=>?_)
  ·refine TotP.bind (TotP.idx (by omega) (by simp_all)) (fun e_9 hv10=>?_)
   refine TotP.bind (Qp0 e_9 v2 (((h_s1).2 e_9 hv10)) (h_v2)) (fun x_11 hv12=>?_)
   refine TotP.bif (fun hc13=>?_) (fun hc13=>?_)
   ·exact TotP.ok (Qm trivial)
   ·exact TotP.ok (Qz ⟨(by simp_all),by subst hi3;exact Qv (by simp_all) (h_s1).1,trivial⟩)
  ·exact TotP.ok (Qm trivial)
 rcases q6 with q6 | q6
 ·show TotP (Q7 q6) _
  unfold Q7
  exact TotP.okT
 ·show TotP (Q8) _
  unfold Q8
  exact TotP.okT
theorem QgM (s1:(List Qr))(v2:Qr)(h_s1:(lenL Qam) s1)(h_v2:Qam v2):TotP (Q9 s1 v2) fun r=>True:=by
 unfold Q9
 refine TotP.bind (QhC s1 v2 (h_s1) (h_v2)) (fun x_1 hv2=>?_)
 exact TotP.okT
theorem Qp1 (v1:TNet)(v2:Int)(v3:Qr)(h_v1:QH v1)(h_v3:Qam v3)(hp0:0≤v2)(hp1:v2<v1.Tasks.length):TotP (QgB v1 v2 v3) fun r=>True:=by
 unfold QgB
 refine TotP.bind (TotP.chk (by simp_all;omega)) (fun _ _=>?_)
 refine TotP.bind (QgM ((v1.Tasks.drop 0).take (v2.toNat-0)) v3 (((h_v1.2.2.1).drop _).take _) (h_v3)) (fun x_1 hv2=>?_)
 exact TotP.okT
theorem Qp2 (v1:Int)(v2:Qr)(h_v2:Qam v2):TotP (QeH v1 v2) fun r=>True:=by
 unfold QeH
 exact TotP.okT
theorem Qmb (v1:TVar)(h_v1:Qdk v1):TotP (QcF v1) fun r=>True:=by
 unfold QcF
 refine TotP.bind (QgK v1.Name (h_v1.1)) (fun x_1 hv2=>?_)
 exact TotP.okT
theorem Qmc (p1:TVar)(v2:TVar)(h_p1:Qdk p1)(h_v2:Qdk v2):TotP (QcG p1 v2) fun r=>True:=by
 unfold QcG
 exact TotP.okT
theorem Qif (s1:(List TVar))(v2:TVar)(h_s1:(lenL Qdk) s1)(h_v2:Qdk v2):TotP (Qay s1 v2) fun r=>True:=by
 unfold Qay
 refine TotP.bind (TotP.up (s1.length) (fun st=>st) (fun _=>True) (Q:=fun q=>True) rfl trivial (fun i2 st hi3 hn4 hj5=>?_)) (fun q6 hq7=>?_)
 ·obtain⟨x_1,hst⟩:∃y,y=st:=⟨_,rfl⟩
  subst hst
  replace hi3:x_1=(i2:Int):=hi3
  show TotP (QU s1 v2 x_1) _
  unfold QU
  refine TotP.bif (fun hc8=>?_) (fun hc8=>?_)
  ·refine TotP.bind (TotP.idx (by omega) (by simp_all)) (fun e_9 hv10=>?_)
   refine TotP.bind (Qmc e_9 v2 (((h_s1).2 e_9 hv10)) (h_v2)) (fun x_11 hv12=>?_)
   refine TotP.bif (fun hc13=>?_) (fun hc13=>?_)
   ·exact TotP.ok (Qm trivial)
   ·exact TotP.ok (Qz ⟨(by simp_all),by subst hi3;exact Qv (by simp_all) (h_s1).1,trivial⟩)
  ·exact TotP.ok (Qm trivial)
 rcases q6 with q6 | q6
 ·show TotP (Qaf q6) _
  unfold Qaf
  exact TotP.okT
 ·show TotP (Qag) _
  unfold Qag
  exact TotP.okT
theorem Qhn (s1:(List TVar))(v2:TVar)(h_s1:(lenL Qdk) s1)(h_v2:Qdk v2):TotP (Qah s1 v2) fun r=>True:=by
 unfold Qah
 refine TotP.bind (Qif s1 v2 (h_s1) (h_v2)) (fun x_1 hv2=>?_)
 exact TotP.okT
theorem Qmd (v1:(List TVar))(v2:Int)(v3:TVar)(h_v1:(lenL Qdk) v1)(h_v3:Qdk v3)(hp0:0≤v2)(hp1:v2<v1.length):TotP (QcH v1 v2 v3) fun r=>True:=by
 unfold QcH
 refine TotP.bind (TotP.chk (by simp_all;omega)) (fun _ _=>?_)
 refine TotP.bind (Qhn ((v1.drop 0).take (v2.toNat-0)) v3 (((h_v1).drop _).take _) (h_v3)) (fun x_1 hv2=>?_)
 exact TotP.okT
theorem Qme (v1:TNet)(v2:TVar)(h_v1:QH v1)(h_v2:Qdk v2):TotP (QcI v1 v2) fun r=>True:=by
 unfold QcI
 refine TotP.bind (Qhm v1.Colours v2.Colour (h_v1.1)) (fun x_1 hv2=>?_)
 exact TotP.okT
theorem QoJ (v1:TVar)(v2:Int)(v3:(List TVar))(v4:Int)(v5:Int)(v6:TNet)(v7:Int)(h_v1:Qdk v1)(h_v3:(lenL Qdk) v3)(h_v6:QH v6)(hp0:0≤v4)(hp1:v4<v3.length):TotP (Qe5 v1 v2 v3 v4 v5 v6 v7) fun r=>True:=by
 unfold Qe5
 refine TotP.bind (Qmb v1 (h_v1)) (fun x_1 hv2=>?_)
 refine TotP.bif (fun hc3=>?_) (fun hc3=>?_)
 ·exact TotP.okT
 ·refine TotP.bind (Qmd v3 v4 v1 (h_v3) (h_v1) (by omega) (by omega)) (fun x_4 hv5=>?_)
  refine TotP.bif (fun hc6=>?_) (fun hc6=>?_)
  ·exact TotP.okT
  ·refine TotP.bind (Qme v6 v1 (h_v6) (h_v1)) (fun x_7 hv8=>?_)
   refine TotP.bif (fun hc9=>?_) (fun hc9=>?_)
   ·exact TotP.okT
   ·exact TotP.okT
theorem QmX (k1:Int)(v2:TVar)(v3:(List TVar))(v4:TNet)(h_v2:Qdk v2)(h_v3:(lenL Qdk) v3)(h_v4:QH v4)(hp0:0≤k1)(hp1:k1<v3.length):TotP (Qdf k1 v2 v3 v4) fun r=>True:=by
 unfold Qdf
 refine TotP.bind (QoJ v2 1 v3 k1 5 v4 3 (h_v2) (h_v3) (h_v4) (by omega) (by omega)) (fun x_1 hv2=>?_)
 exact TotP.okT
theorem QmF (l1:(List TVar))(v2:(List TVar))(v3:TNet)(h_l1:(lenL Qdk) l1)(h_v2:(lenL Qdk) v2)(h_v3:QH v3)(hp0:l1.length≤v2.length):TotP (QcY l1 v2 v3) fun r=>True:=by
 unfold QcY
 refine TotP.bind (TotP.up (l1.length) (fun st=>st) (fun _=>True) (Q:=fun q=>True) rfl trivial (fun i2 st hi3 hn4 hj5=>?_)) (fun q6 hq7=>?_)
 ·obtain⟨x_1,hst⟩:∃y,y=st:=⟨_,rfl⟩
  subst hst
  replace hi3:x_1=(i2:Int):=hi3
  show TotP (Qbg l1 v2 v3 x_1) _
  unfold Qbg
  refine TotP.bif (fun hc8=>?_) (fun hc8=>?_)
  ·refine TotP.bind (TotP.idx (by omega) (by simp_all)) (fun e_9 hv10=>?_)
   refine TotP.bind (QmX x_1 e_9 v2 v3 (((h_l1).2 e_9 hv10)) (h_v2) (h_v3) (by omega) (by simp_all;omega)) (fun x_11 hv12=>?_)
   refine TotP.bif (fun hc13=>?_) (fun hc13=>?_)
   ·exact TotP.ok (Qm trivial)
   ·exact TotP.ok (Qz ⟨(by simp_all),by subst hi3;exact Qv (by simp_all) (h_l1).1,trivial⟩)
  ·exact TotP.ok (Qm trivial)
 rcases q6 with q6 | q6
 ·show TotP (Qb1 q6.1 q6.2) _
  unfold Qb1
  exact TotP.okT
 ·show TotP (Qb2) _
  unfold Qb2
  exact TotP.okT
theorem Qn2 (n1:TNet)(l2:(List TVar))(h_n1:QH n1)(h_l2:(lenL Qdk) l2):TotP (Qei n1 l2) fun r=>True:=by
 unfold Qei
 refine TotP.bind (QmF l2 l2 n1 (h_l2) (h_l2) (h_n1) (by omega)) (fun x_1 hv2=>?_)
 exact TotP.okT
theorem Qp3 (v1:TNet)(v2:Qr)(h_v1:QH v1)(h_v2:Qam v2):TotP (QgC v1 v2) fun r=>True:=by
 unfold QgC
 refine TotP.bind (Qn2 v1 v2.Vars (h_v1) (h_v2.2.1)) (fun x_1 hv2=>?_)
 exact TotP.okT
theorem Qpr (v1:TNet)(v2:Qr)(v3:Int)(h_v1:QH v1)(h_v2:Qam v2):TotP (QfQ v1 v2 v3) fun r=>True:=by
 unfold QfQ
 refine TotP.bind (Qp3 v1 v2 (h_v1) (h_v2)) (fun x_1 hv2=>?_)
 exact TotP.okT
theorem Qmp (n1:TNet)(k2:Int)(h_n1:QH n1):TotP (Qfw n1 k2) fun r=>True:=by
 unfold Qfw
 refine TotP.bind (Qie n1.Tasks k2 (h_n1.2.2.1)) (fun x_1 hv2=>?_)
 refine TotP.bif (fun hc3=>?_) (fun hc3=>?_)
 ·exact TotP.okT
 ·refine TotP.bind (TotP.idx (by simp_all) (by simp_all)) (fun e_4 hv5=>?_)
  refine TotP.bind (TotP.up (e_4.Vars.length) (fun st=>st.2) (fun _=>True) (Q:=fun q=>True) rfl trivial (fun i8 st hi9 hn10 hj11=>?_)) (fun q12 hq13=>?_)
  ·obtain⟨out_6,x_7⟩:=st
   replace hi9:x_7=(i8:Int):=hi9
   show TotP (Qdt e_4 n1 out_6 x_7) _
   unfold Qdt
   refine TotP.bif (fun hc14=>?_) (fun hc14=>?_)
   ·refine TotP.bind (TotP.idx (by omega) (by simp_all)) (fun e_15 hv16=>?_)
    refine TotP.bind (QfV n1.Colours e_15.Colour (h_n1.1)) (fun x_17 hv18=>?_)
    refine TotP.bif (fun hc19=>?_) (fun hc19=>?_)
    ·exact TotP.ok (Qm trivial)
    ·exact TotP.ok (Qz ⟨(by simp_all),by subst hi9;exact Qv (by simp_all) (((h_n1.2.2.1).2 e_4 hv5).2.1).1,trivial⟩)
   ·exact TotP.ok (Qm trivial)
  rcases q12 with q12 | q12
  ·show TotP (Qe6) _
   unfold Qe6
   exact TotP.okT
  ·show TotP (Qe7 q12) _
   unfold Qe7
   exact TotP.okT
theorem Qp4 (v1:TNet)(v2:Int)(h_v1:QH v1):TotP (QgD v1 v2) fun r=>True:=by
 unfold QgD
 refine TotP.bind (Qmp v1 v2 (h_v1)) (fun x_1 hv2=>?_)
 exact TotP.okT
theorem QrL (kind1:Int):TotP (QiM kind1) fun r=>0≤r→(kind1=1∨kind1=2∨kind1=3∨kind1=4∨kind1=5∨kind1=6)∧(kind1=3∨kind1=4→r=1)∧(kind1=5→r=2)∧(kind1=6→r=3):=by
 unfold QiM
 refine TotP.bif (fun hc=>?_) (fun hc=>?_)
 ·unfold QeA;rw [hc]
  simp only [beq_iff_eq]at hc
  exact TotP.ok (by omega)
 ·simp only [beq_eq_false_iff_ne]at hc
  unfold QeA
  refine TotP.bif (fun hc=>TotP.ok (by simp only [beq_iff_eq]at hc;omega)) (fun hc2=>?_)
  simp only [beq_eq_false_iff_ne]at hc2
  refine TotP.bif (fun hc3=>?_) (fun hc3=>?_)
  ·unfold Qez;rw [hc3]
   simp only [beq_iff_eq]at hc3
   exact TotP.ok (by omega)
  ·simp only [beq_eq_false_iff_ne]at hc3
   unfold Qez
   refine TotP.bif (fun hc=>TotP.ok (by simp only [beq_iff_eq]at hc;omega)) (fun hc4=>?_)
   simp only [beq_eq_false_iff_ne]at hc4
   refine TotP.bif (fun hc=>TotP.ok (by simp only [beq_iff_eq]at hc;omega)) (fun hc5=>?_)
   simp only [beq_eq_false_iff_ne]at hc5
   exact TotP.bif (fun hc=>TotP.ok (by simp only [beq_iff_eq]at hc;omega)) (fun hc6=>TotP.ok (by omega))
theorem Qrf (op1:Int)  : TotP (QhY op1) fun r=>True:=by
 unfold QhY
 exact TotP.okT
theorem QkH (rec_:Qf→Int→Option Bool)(s1:List Qf)(v2:Int)(h1:s1.length≤maxLen)(h:∀k∈s1,TotP (rec_ k v2) fun r=>r=true→POk v2 k):TotP (Q6 rec_ s1 v2) fun r=>r=false→∀k∈s1,POk v2 k:=by
 unfold Q6 QaN
 refine TotP.bind (P:=fun x=>x<0→∀k∈s1,POk v2 k) ?_ fun x hx=>TotP.ok fun h=>hx (by simp only [decide_eq_false_iff_not]at h;omega)
 refine TotP.bind (TotP.up s1.length (fun st=>st) (fun st=>∀(j:Nat) k,(j:Int)<st→s1[j]? = some k→POk v2 k) (Q:=fun q=>(∀x,q=.inl x→0≤x)∧(q=.inr ()→∀k∈s1,POk v2 k)) rfl (fun j k hj=>by omega) (fun i st hi hn hj=>?_)) (fun q hq=>?_)
 ·show TotP (QQ s1 rec_ v2 st) _
  unfold QQ Qio
  refine TotP.bif (fun hc=>?_) (fun hc=>TotP.ok (Qm ⟨fun x h=>(by cases h),fun _ k hk=>by
   obtain⟨j,hj1,hj2⟩:=List.mem_iff_getElem.1 hk
   simp only [decide_eq_false_iff_not]at hc
   exact hj j k (by omega) (by rw [List.getElem?_eq_getElem hj1,hj2])⟩))
  simp only [decide_eq_true_eq]at hc
  rw [QmU (by omega)]
  have hlt:st.toNat<s1.length:=by omega
  rw [List.getElem?_eq_getElem hlt]
  refine TotP.bind (P:=fun k=>k=s1[st.toNat]) (TotP.ok rfl) fun k hk=>?_
  subst hk
  refine TotP.bind (P:=fun r=>r=false→POk v2 s1[st.toNat]) (TotP.bind (h _ (List.getElem_mem hlt)) fun x hx=>TotP.ok fun h=>hx (by simpa using h)) fun x hx=>?_
  refine TotP.bif (fun _=>TotP.ok (Qm ⟨fun x h=>(by cases h;omega),fun h=>(by cases h)⟩)) fun hxf=>TotP.ok (Qz ⟨by omega,by rw [hi];exact Qv (by omega) h1,?_⟩)
  rw [hi,Qv (show i<s1.length by omega) h1]
  intro j k hj' hk
  by_cases c:j=i
  ·subst c
   have e:st.toNat=j:=by omega
   have:=hx hxf
   rw [List.getElem?_eq_getElem (by omega)]at hk
   cases hk
   simpa only [e] using this
  ·exact hj j k (by omega) hk
 ·rcases q with q | q
  ·exact TotP.ok fun h=>absurd (hq.1 q rfl) (by omega)
  ·exact TotP.ok fun _=>hq.2 rfl
theorem Ql1 : ∀(n:Nat) (e:Qf) (v:Int),QcK e→SizeOf.sizeOf e≤n→TotP (Qdp n e v) fun r=>r=true→POk v e
 | 0,e,_,_,h=>absurd e.pos (by omega)
 | n+1,e,v,he,h=>by
  unfold Qdp Qip
  refine TotP.bind (QrL e.Kind) fun x hx=>?_
  refine TotP.bif (fun _=>TotP.ok fun h=>by cases h) fun h1=>TotP.bif (fun _=>TotP.ok fun h=>by cases h) fun h2=>?_
  refine TotP.bind (P:=fun _=>True) ?_ fun y _=>?_
  ·unfold QjG
   exact TotP.bif (fun _=>TotP.bind (Qrf e.Num) fun x _=>TotP.okT) fun _=>TotP.okT
  ·unfold QfB
   refine TotP.bif (fun _=>TotP.ok fun h=>by cases h) fun _=>?_
   refine TotP.bind (QkH (Qdp n) e.Kids v (QdM he).1 fun k hk=>Ql1 n k v ((QdM he).2 k hk) (by have:=QoD hk;omega)) fun x hx2=>TotP.ok fun hx3=>?_
   simp only [bne_eq_false_iff_eq]at h1
   have h3:=hx (by omega)
   simp only [Bool.and_eq_false_iff,Bool.or_eq_false_iff,decide_eq_false_iff_not,beq_eq_false_iff_ne]at h2
   exact .mk e h3.1 (fun hk=>by omega) (fun hk=>by have:=h3.2.1 hk;omega) (fun hk=>by have:=h3.2.2.1 hk;omega) (fun hk=>by have:=h3.2.2.2 hk;omega) (hx2 (by simpa using hx3))
theorem Qrg (e1:Qf)(vars2:Int)(h_e1:QcK e1):TotP (QlF e1 vars2) fun r=>r=true→POk vars2 e1:=Ql1 _ e1 vars2 h_e1 (Nat.le_refl _)
theorem Ql2 : ∀(n:Nat) (e:Qf),QcK e→SizeOf.sizeOf e≤n→TotP (Qdo n e) fun _=>True
 | 0,e,_,h=>absurd e.pos (by omega)
 | n+1,e,he,h=>by
  unfold Qdo Qim
  refine TotP.bind (TotP.up e.Kids.length (fun st=>st.2) (fun _=>True) (Q:=fun _=>True) rfl trivial (fun i st hi hn _=>?_)) (fun q _=>?_)
  ·obtain⟨a,x⟩:=st
   replace hi:x=(i:Int):=hi
   show TotP (QdQ e (Qdo n) a x) _
   unfold QdQ
   refine TotP.bif (fun hc=>?_) (fun hc=>?_)
   ·simp only [decide_eq_true_eq]at hc
    refine TotP.bind (TotP.idx (by omega) (by omega)) fun k hk=>?_
    have:=QoD hk
    refine TotP.bind (Ql2 n k ((QdM he).2 k hk) (by omega)) fun d _=>?_
    exact TotP.ok (Qz ⟨by omega,by subst hi;exact Qv (by omega) (QdM he).1,trivial⟩)
   ·exact TotP.ok (Qm trivial)
  ·unfold QhH
   exact TotP.okT
theorem Qrh (e1:Qf)(h_e1:QcK e1):TotP (QlD e1) fun _=>True:=Ql2 _ e1 h_e1 (Nat.le_refl _)
theorem Qmq : ∀(n:Nat) (e:Qf),QcK e→SizeOf.sizeOf e≤n→TotP (Qd4 n e) fun _=>True
 | 0,e,_,h=>absurd e.pos (by omega)
 | n+1,e,he,h=>by
  unfold Qd4 Qi0
  refine TotP.bind (TotP.up e.Kids.length (fun st=>st.2) (fun _=>True) (Q:=fun _=>True) rfl trivial (fun i st hi hn _=>?_)) (fun q _=>?_)
  ·obtain⟨a,x⟩:=st
   replace hi:x=(i:Int):=hi
   show TotP (Qey e (Qd4 n) a x) _
   unfold Qey
   refine TotP.bif (fun hc=>?_) (fun hc=>?_)
   ·simp only [decide_eq_true_eq]at hc
    refine TotP.bind (TotP.idx (by omega) (by omega)) fun k hk=>?_
    have:=QoD hk
    refine TotP.bind (Qmq n k ((QdM he).2 k hk) (by omega)) fun d _=>?_
    exact TotP.ok (Qz ⟨by omega,by subst hi;exact Qv (by omega) (QdM he).1,trivial⟩)
   ·exact TotP.ok (Qm trivial)
  ·unfold Qin
   exact TotP.okT
theorem QrM (e1:Qf)(h_e1:QcK e1):TotP (Qmv e1) fun _=>True:=Qmq _ e1 h_e1 (Nat.le_refl _)
theorem QkI (e1:Qf)(vars2:Int)(h_e1:QcK e1):TotP (QeR e1 vars2) fun r=>r=true→POk vars2 e1:=by
 unfold QeR
 refine TotP.bind (P:=fun r=>r=true→POk vars2 e1) ?_ (fun x hx=>TotP.ok hx)
 unfold QjH
 refine TotP.bind (Qrh e1 h_e1) (fun x _=>?_)
 refine TotP.bif (fun _=>?_) (fun _=>TotP.ok fun h=>by cases h)
 refine TotP.bind (QrM e1 h_e1) (fun x _=>?_)
 refine TotP.bif (fun _=>?_) (fun _=>TotP.ok fun h=>by cases h)
 exact TotP.bind (Qrg e1 vars2 h_e1) (fun x hx=>TotP.ok hx)
theorem Qp5 (v1:Qr)(v2:Int)(h_v1:Qam v1):TotP (QgE v1 v2) fun r=>True:=by
 unfold QgE
 refine TotP.bind (P:=fun _=>True) ?_ (fun x_1 hv2=>?_)
 ·unfold QiG
  refine TotP.bind (QkI v1.Guard v2 (h_v1.2.2.1)) (fun x_3 hv4=>?_)
  refine TotP.bif (fun hc5=>?_) (fun hc5=>?_)
  ·refine TotP.bif (fun hc6=>?_) (fun hc6=>?_)
   ·exact TotP.okT
   ·exact TotP.okT
  ·exact TotP.okT
 unfold Qej
 exact TotP.okT
theorem QoK (v1:TNet)(v2:TArc)(h_v1:QH v1)(h_v2:Qid v2):TotP (Qe8 v1 v2) fun r=>True:=by
 unfold Qe8
 refine TotP.bind (QbF v1.Places v2.Place (h_v1.2.1)) (fun x_1 hv2=>?_)
 exact TotP.okT
theorem QoL (v1:TArc)(v2:Int)(h_v1:Qid v1):TotP (Qe9 v1 v2) fun r=>True:=by
 unfold Qe9
 refine TotP.bind (QkI v1.Expr v2 (h_v1.2)) (fun x_1 hv2=>?_)
 exact TotP.okT
theorem QoM (v1:TNet)(v2:TArc)(v3:Int)(v4:Int)(v5:Int)(h_v1:QH v1)(h_v2:Qid v2):TotP (Qfa v1 v2 v3 v4 v5) fun r=>True:=by
 unfold Qfa
 refine TotP.bind (QoK v1 v2 (h_v1) (h_v2)) (fun x_1 hv2=>?_)
 refine TotP.bif (fun hc3=>?_) (fun hc3=>?_)
 ·exact TotP.okT
 ·refine TotP.bind (QoL v2 v4 (h_v2)) (fun x_4 hv5=>?_)
  refine TotP.bif (fun hc6=>?_) (fun hc6=>?_)
  ·exact TotP.okT
  ·exact TotP.okT
theorem Qp6 (p1:Int)(a2:TArc)(v3:TNet)(v4:Int)(h_a2:Qid a2)(h_v3:QH v3):TotP (QgF p1 a2 v3 v4) fun r=>True:=by
 unfold QgF
 refine TotP.bind (QoM v3 a2 3 v4 1 (h_v3) (h_a2)) (fun x_1 hv2=>?_)
 exact TotP.okT
theorem QmG (l1:(List TArc))(v2:TNet)(v3:Int)(h_l1:(lenL Qid) l1)(h_v2:QH v2):TotP (QcZ l1 v2 v3) fun r=>True:=by
 unfold QcZ
 refine TotP.bind (TotP.up (l1.length) (fun st=>st) (fun _=>True) (Q:=fun q=>True) rfl trivial (fun i2 st hi3 hn4 hj5=>?_)) (fun q6 hq7=>?_)
 ·obtain⟨x_1,hst⟩:∃y,y=st:=⟨_,rfl⟩
  subst hst
  replace hi3:x_1=(i2:Int):=hi3
  show TotP (Qbh l1 v2 v3 x_1) _
  unfold Qbh
  refine TotP.bif (fun hc8=>?_) (fun hc8=>?_)
  ·refine TotP.bind (TotP.idx (by omega) (by simp_all)) (fun e_9 hv10=>?_)
   refine TotP.bind (Qp6 x_1 e_9 v2 v3 (((h_l1).2 e_9 hv10)) (h_v2)) (fun x_11 hv12=>?_)
   refine TotP.bif (fun hc13=>?_) (fun hc13=>?_)
   ·exact TotP.ok (Qm trivial)
   ·exact TotP.ok (Qz ⟨(by simp_all),by subst hi3;exact Qv (by simp_all) (h_l1).1,trivial⟩)
  ·exact TotP.ok (Qm trivial)
 rcases q6 with q6 | q6
 ·show TotP (Qb3 q6.1 q6.2) _
  unfold Qb3
  exact TotP.okT
 ·show TotP (Qb4) _
  unfold Qb4
  exact TotP.okT
theorem QmY (n1:TNet)(l2:(List TArc))(vars3:Int)(h_n1:QH n1)(h_l2:(lenL Qid) l2):TotP (QgG n1 l2 vars3) fun r=>True:=by
 unfold QgG
 refine TotP.bind (QmG l2 n1 vars3 (h_l2) (h_n1)) (fun x_1 hv2=>?_)
 exact TotP.okT
theorem Qp7 (v1:TNet)(v2:Qr)(v3:Int)(h_v1:QH v1)(h_v2:Qam v2):TotP (QgH v1 v2 v3) fun r=>True:=by
 unfold QgH
 refine TotP.bind (QmY v1 v2.Ins v3 (h_v1) (h_v2.2.2.2.2.2.1)) (fun x_1 hv2=>?_)
 exact TotP.okT
theorem QnA (v1:TNet)(v2:Qr)(v3:Int)(v4:Int)(h_v1:QH v1)(h_v2:Qam v2):TotP (QdH v1 v2 v3 v4) fun r=>True:=by
 unfold QdH
 refine TotP.bind (Qp7 v1 v2 v3 (h_v1) (h_v2)) (fun x_1 hv2=>?_)
 exact TotP.okT
theorem Qp8 (v1:TNet)(v2:Qr)(v3:Int)(h_v1:QH v1)(h_v2:Qam v2):TotP (QgI v1 v2 v3) fun r=>True:=by
 unfold QgI
 refine TotP.bind (QmY v1 v2.Outs v3 (h_v1) (h_v2.2.2.2.2.2.2.1)) (fun x_1 hv2=>?_)
 exact TotP.okT
theorem QnB (v1:TNet)(v2:Qr)(v3:Int)(v4:Int)(h_v1:QH v1)(h_v2:Qam v2):TotP (QdI v1 v2 v3 v4) fun r=>True:=by
 unfold QdI
 refine TotP.bind (Qp8 v1 v2 v3 (h_v1) (h_v2)) (fun x_1 hv2=>?_)
 exact TotP.okT
theorem QmZ (v1:TNet)(v2:Int)(h_v1:QH v1):TotP (Qdg v1 v2) fun r=>True:=by
 unfold Qdg
 refine TotP.bind (QbF v1.Places v2 (h_v1.2.1)) (fun x_1 hv2=>?_)
 exact TotP.okT
theorem Ql3 (s1:(List Int))(v2:Int)(h_s1:(lenL (fun _=>True)) s1):TotP (Qch s1 v2) fun r=>True:=by
 unfold Qch
 refine TotP.bind (TotP.up (s1.length) (fun st=>st) (fun _=>True) (Q:=fun q=>True) rfl trivial (fun i2 st hi3 hn4 hj5=>?_)) (fun q6 hq7=>?_)
 ·obtain⟨x_1,hst⟩:∃y,y=st:=⟨_,rfl⟩
  subst hst
  replace hi3:x_1=(i2:Int):=hi3
  show TotP (QaS s1 v2 x_1) _
  unfold QaS
  refine TotP.bif (fun hc8=>?_) (fun hc8=>?_)
  ·refine TotP.bind (TotP.idx (by omega) (by simp_all)) (fun e_9 hv10=>?_)
   refine TotP.bif (fun hc11=>?_) (fun hc11=>?_)
   ·exact TotP.ok (Qm trivial)
   ·exact TotP.ok (Qz ⟨(by simp_all),by subst hi3;exact Qv (by simp_all) (h_s1).1,trivial⟩)
  ·exact TotP.ok (Qm trivial)
 rcases q6 with q6 | q6
 ·show TotP (Qbz q6) _
  unfold Qbz
  exact TotP.okT
 ·show TotP (QbA) _
  unfold QbA
  exact TotP.okT
theorem QgR (s1:(List Int))(v2:Int)(h_s1:(lenL (fun _=>True)) s1):TotP (QaA s1 v2) fun r=>True:=by
 unfold QaA
 refine TotP.bind (Ql3 s1 v2 (h_s1)) (fun x_1 hv2=>?_)
 exact TotP.okT
theorem Qm0 (v1:(List Int))(v2:Int)(v3:Int)(h_v1:(lenL (fun _=>True)) v1)(hp0:0≤v2)(hp1:v2<v1.length):TotP (Qdh v1 v2 v3) fun r=>True:=by
 unfold Qdh
 refine TotP.bind (TotP.chk (by simp_all;omega)) (fun _ _=>?_)
 refine TotP.bind (QgR ((v1.drop 0).take (v2.toNat-0)) v3 (((h_v1).drop _).take _)) (fun x_1 hv2=>?_)
 exact TotP.okT
theorem QoN (v1:TNet)(v2:Int)(v3:Int)(v4:(List Int))(v5:Int)(v6:Int)(h_v1:QH v1)(h_v4:(lenL (fun _=>True)) v4)(hp0:0≤v5)(hp1:v5<v4.length):TotP (Qfb v1 v2 v3 v4 v5 v6) fun r=>True:=by
 unfold Qfb
 refine TotP.bind (QmZ v1 v2 (h_v1)) (fun x_1 hv2=>?_)
 refine TotP.bif (fun hc3=>?_) (fun hc3=>?_)
 ·exact TotP.okT
 ·refine TotP.bind (Qm0 v4 v5 v2 (h_v4) (by omega) (by omega)) (fun x_4 hv5=>?_)
  refine TotP.bif (fun hc6=>?_) (fun hc6=>?_)
  ·exact TotP.okT
  ·exact TotP.okT
theorem Qn3 (k1:Int)(place2:Int)(v3:TNet)(v4:(List Int))(h_v3:QH v3)(h_v4:(lenL (fun _=>True)) v4)(hp0:0≤k1)(hp1:k1<v4.length):TotP (Qek k1 place2 v3 v4) fun r=>True:=by
 unfold Qek
 refine TotP.bind (QoN v3 place2 3 v4 k1 5 (h_v3) (h_v4) (by omega) (by omega)) (fun x_1 hv2=>?_)
 exact TotP.okT
theorem QoO (l1:(List Int))(v2:TNet)(v3:(List Int))(h_l1:(lenL (fun _=>True)) l1)(h_v2:QH v2)(h_v3:(lenL (fun _=>True)) v3)(hp0:l1.length≤v3.length):TotP (Qfc l1 v2 v3) fun r=>True:=by
 unfold Qfc
 refine TotP.bind (TotP.up (l1.length) (fun st=>st) (fun _=>True) (Q:=fun q=>True) rfl trivial (fun i2 st hi3 hn4 hj5=>?_)) (fun q6 hq7=>?_)
 ·obtain⟨x_1,hst⟩:∃y,y=st:=⟨_,rfl⟩
  subst hst
  replace hi3:x_1=(i2:Int):=hi3
  show TotP (Qcd l1 v2 v3 x_1) _
  unfold Qcd
  refine TotP.bif (fun hc8=>?_) (fun hc8=>?_)
  ·refine TotP.bind (TotP.idx (by omega) (by simp_all)) (fun e_9 hv10=>?_)
   refine TotP.bind (Qn3 x_1 e_9 v2 v3 (h_v2) (h_v3) (by omega) (by simp_all;omega)) (fun x_11 hv12=>?_)
   refine TotP.bif (fun hc13=>?_) (fun hc13=>?_)
   ·exact TotP.ok (Qm trivial)
   ·exact TotP.ok (Qz ⟨(by simp_all),by subst hi3;exact Qv (by simp_all) (h_l1).1,trivial⟩)
  ·exact TotP.ok (Qm trivial)
 rcases q6 with q6 | q6
 ·show TotP (Qdi q6.1 q6.2) _
  unfold Qdi
  exact TotP.okT
 ·show TotP (Qdj) _
  unfold Qdj
  exact TotP.okT
theorem Qps (n1:TNet)(l2:(List Int))(h_n1:QH n1)(h_l2:(lenL (fun _=>True)) l2):TotP (QfR n1 l2) fun r=>True:=by
 unfold QfR
 refine TotP.bind (QoO l2 n1 l2 (h_l2) (h_n1) (h_l2) (by omega)) (fun x_1 hv2=>?_)
 exact TotP.okT
theorem Qpt (v1:TNet)(v2:Qr)(h_v1:QH v1)(h_v2:Qam v2):TotP (QfS v1 v2) fun r=>True:=by
 unfold QfS
 refine TotP.bind (Qps v1 v2.Cancel (h_v1) (h_v2.2.2.2.2.2.2.2.1)) (fun x_1 hv2=>?_)
 exact TotP.okT
theorem QnC (v1:TNet)(v2:Qr)(v3:Int)(h_v1:QH v1)(h_v2:Qam v2):TotP (QdJ v1 v2 v3) fun r=>True:=by
 unfold QdJ
 refine TotP.bind (Qpt v1 v2 (h_v1) (h_v2)) (fun x_1 hv2=>?_)
 exact TotP.okT
theorem Qlk (k1:Int)(l2:(List TArc))(h_l2:(lenL Qid) l2):TotP (QdZ k1 l2) fun r=>True:=by
 unfold QdZ
 exact TotP.okT
theorem QqO (t1:Qr)(h_t1:Qam t1):TotP (Qhl t1) fun r=>True:=by
 unfold Qhl
 refine TotP.bind (P:=fun _=>True) ?_ (fun x_1 hv2=>?_)
 ·unfold Qjo
  refine TotP.bind (Qlk t1.Join t1.Ins (h_t1.2.2.2.2.2.1)) (fun x_3 hv4=>?_)
  refine TotP.bif (fun hc5=>?_) (fun hc5=>?_)
  ·refine TotP.bind (Qlk t1.Split t1.Outs (h_t1.2.2.2.2.2.2.1)) (fun x_6 hv7=>?_)
   refine TotP.bif (fun hc8=>?_) (fun hc8=>?_)
   ·refine TotP.bif (fun hc9=>?_) (fun hc9=>?_)
    ·refine TotP.bif (fun hc10=>?_) (fun hc10=>?_)
     ·exact TotP.okT
     ·exact TotP.okT
    ·exact TotP.okT
   ·exact TotP.okT
  ·exact TotP.okT
 unfold Qfd
 exact TotP.okT
theorem Qpu (v1:Qr)(h_v1:Qam v1):TotP (QfT v1) fun r=>True:=by
 unfold QfT
 refine TotP.bind (QqO v1 (h_v1)) (fun x_1 hv2=>?_)
 exact TotP.okT
theorem QoP (v1:Qr)(v2:Int)(v3:TNet)(v4:Int)(v5:Int)(v6:Int)(v7:Int)(v8:Int)(v9:Int)(v10:Int)(v11:Int)(v12:Int)(v13:Int)(v14:Int)(v15:Int)(h_v1:Qam v1)(h_v3:QH v3)(hp0:0≤v4)(hp1:v4<v3.Tasks.length):TotP (Qdu v1 v2 v3 v4 v5 v6 v7 v8 v9 v10 v11 v12 v13 v14 v15) fun r=>True:=by
 unfold Qdu
 refine TotP.bind (QpZ v1 (h_v1)) (fun x_1 hv2=>?_)
 refine TotP.bif (fun hc3=>?_) (fun hc3=>?_)
 ·exact TotP.okT
 ·refine TotP.bind (Qp1 v3 v4 v1 (h_v3) (h_v1) (by omega) (by omega)) (fun x_4 hv5=>?_)
  refine TotP.bif (fun hc6=>?_) (fun hc6=>?_)
  ·exact TotP.okT
  ·refine TotP.bind (Qp2 v6 v1 (h_v1)) (fun x_7 hv8=>?_)
   refine TotP.bif (fun hc9=>?_) (fun hc9=>?_)
   ·exact TotP.okT
   ·refine TotP.bind (Qpr v3 v1 v8 (h_v3) (h_v1)) (fun x_10 hv11=>?_)
    refine TotP.bif (fun hc12=>?_) (fun hc12=>?_)
    ·exact TotP.okT
    ·refine TotP.bind (Qp4 v3 v4 (h_v3)) (fun x_13 hv14=>?_)
     refine TotP.bif (fun hc15=>?_) (fun hc15=>?_)
     ·exact TotP.okT
     ·refine TotP.bind (Qp5 v1 v6 (h_v1)) (fun x_16 hv17=>?_)
      refine TotP.bif (fun hc18=>?_) (fun hc18=>?_)
      ·exact TotP.okT
      ·refine TotP.bind (QnA v3 v1 v6 x_10.2 (h_v3) (h_v1)) (fun x_19 hv20=>?_)
       refine TotP.bif (fun hc21=>?_) (fun hc21=>?_)
       ·exact TotP.okT
       ·refine TotP.bind (QnB v3 v1 v6 x_19.2 (h_v3) (h_v1)) (fun x_22 hv23=>?_)
        refine TotP.bif (fun hc24=>?_) (fun hc24=>?_)
        ·exact TotP.okT
        ·refine TotP.bind (QnC v3 v1 x_22.2 (h_v3) (h_v1)) (fun x_25 hv26=>?_)
         refine TotP.bif (fun hc27=>?_) (fun hc27=>?_)
         ·exact TotP.okT
         ·refine TotP.bind (Qpu v1 (h_v1)) (fun x_28 hv29=>?_)
          refine TotP.bif (fun hc30=>?_) (fun hc30=>?_)
          ·exact TotP.okT
          ·exact TotP.okT
theorem Qm1 (n1:TNet)(k2:Int)(h_n1:QH n1):TotP (QbQ n1 k2) fun r=>True:=by
 unfold QbQ
 refine TotP.bind (Qie n1.Tasks k2 (h_n1.2.2.1)) (fun x_1 hv2=>?_)
 refine TotP.bif (fun hc3=>?_) (fun hc3=>?_)
 ·exact TotP.okT
 ·refine TotP.bind (Qlj n1 (h_n1)) (fun x_4 hv5=>?_)
  refine TotP.bif (fun hc6=>?_) (fun hc6=>?_)
  ·exact TotP.okT
  ·refine TotP.bind (TotP.idx (by simp_all) (by simp_all)) (fun e_7 hv8=>?_)
   refine TotP.bind (TotP.idx (by simp_all) (by simp_all)) (fun e_9 hv10=>?_)
   refine TotP.bind (QqN 0 n1 e_7 (h_n1) (((h_n1.2.2.1).2 e_7 hv8))) (fun x_11 hv12=>?_)
   refine TotP.bind (QoG 0 n1 e_7 (e_9.Vars.length:Int) (h_n1) (((h_n1.2.2.1).2 e_7 hv8))) (fun x_13 hv14=>?_)
   refine TotP.bind (QoH 0 n1 e_7 (e_9.Vars.length:Int) (h_n1) (((h_n1.2.2.1).2 e_7 hv8))) (fun x_15 hv16=>?_)
   refine TotP.bind (QoI 0 n1 e_7 (h_n1) (((h_n1.2.2.1).2 e_7 hv8))) (fun x_17 hv18=>?_)
   refine TotP.bind (QoP e_7 1 n1 k2 5 (e_9.Vars.length:Int) 2 0 (-1) 2 1 (-1) (-1) (-1) 11 (((h_n1.2.2.1).2 e_7 hv8)) (h_n1) (by simp_all) (by simp_all)) (fun x_19 hv20=>?_)
   refine TotP.bif (fun hc21=>?_) (fun hc21=>?_)
   ·exact TotP.okT
   ·exact TotP.okT
theorem QqP (k1:Int)(p2:Qr)(v3:TNet)(h_p2:Qam p2)(h_v3:QH v3):TotP (Qfx k1 p2 v3) fun r=>True:=by
 unfold Qfx
 refine TotP.bind (Qm1 v3 k1 (h_v3)) (fun x_1 hv2=>?_)
 exact TotP.okT
theorem Qmf (l1:(List Qr))(v2:TNet)(h_l1:(lenL Qam) l1)(h_v2:QH v2):TotP (Qbc l1 v2) fun r=>True:=by
 unfold Qbc
 refine TotP.bind (TotP.up (l1.length) (fun st=>st) (fun _=>True) (Q:=fun q=>True) rfl trivial (fun i2 st hi3 hn4 hj5=>?_)) (fun q6 hq7=>?_)
 ·obtain⟨x_1,hst⟩:∃y,y=st:=⟨_,rfl⟩
  subst hst
  replace hi3:x_1=(i2:Int):=hi3
  show TotP (Qao l1 v2 x_1) _
  unfold Qao
  refine TotP.bif (fun hc8=>?_) (fun hc8=>?_)
  ·refine TotP.bind (TotP.idx (by omega) (by simp_all)) (fun e_9 hv10=>?_)
   refine TotP.bind (QqP x_1 e_9 v2 (((h_l1).2 e_9 hv10)) (h_v2)) (fun x_11 hv12=>?_)
   refine TotP.bif (fun hc13=>?_) (fun hc13=>?_)
   ·exact TotP.ok (Qm trivial)
   ·exact TotP.ok (Qz ⟨(by simp_all),by subst hi3;exact Qv (by simp_all) (h_l1).1,trivial⟩)
  ·exact TotP.ok (Qm trivial)
 rcases q6 with q6 | q6
 ·show TotP (QbR q6.1 q6.2) _
  unfold QbR
  exact TotP.okT
 ·show TotP (QbS) _
  unfold QbS
  exact TotP.okT
theorem QrN (n1:TNet)(h_n1:QH n1):TotP (Qf8 n1) fun r=>True:=by
 unfold Qf8
 refine TotP.bind (QqG n1 2 3 1 (h_n1)) (fun x_1 hv2=>?_)
 refine TotP.bif (fun hc3=>?_) (fun hc3=>?_)
 ·exact TotP.okT
 ·refine TotP.bind (Qlj n1 (h_n1)) (fun x_4 hv5=>?_)
  refine TotP.bif (fun hc6=>?_) (fun hc6=>?_)
  ·exact TotP.okT
  ·refine TotP.bind (Ql0 n1.Places n1 (h_n1.2.1) (h_n1)) (fun x_7 hv8=>?_)
   refine TotP.bif (fun hc9=>?_) (fun hc9=>?_)
   ·exact TotP.okT
   ·refine TotP.bind (Qmf n1.Tasks n1 (h_n1.2.2.1) (h_n1)) (fun x_10 hv11=>?_)
    refine TotP.bif (fun hc12=>?_) (fun hc12=>?_)
    ·exact TotP.okT
    ·exact TotP.okT
theorem Qso (a1:Int)(b2:Int)  : TotP (QjJ a1 b2) fun r=>True:=by
 unfold QjJ
 refine TotP.bif (fun hc1=>?_) (fun hc1=>?_)
 ·exact TotP.okT
 ·exact TotP.okT
theorem Qn4 (a1:Int)(b2:Int)  : TotP (Qec a1 b2) fun r=>True:=by
 unfold Qec
 refine TotP.bif (fun hc1=>?_) (fun hc1=>?_)
 ·exact TotP.okT
 ·exact TotP.okT
theorem QnK (a1:Int)  : TotP (Qhp a1) fun r=>True:=by
 unfold Qhp
 refine TotP.bif (fun hc1=>?_) (fun hc1=>?_)
 ·exact TotP.okT
 ·exact TotP.okT
theorem Qn5 (p1:Int)(y2:Int)  : TotP (Qed p1 y2) fun r=>True:=by
 unfold Qed
 exact TotP.okT
theorem Qp9 (a1:Int)(b2:Int)  : TotP (Qgp a1 b2) fun r=>True:=by
 unfold Qgp
 refine TotP.bind (QnK a1 ) (fun x_1 hv2=>?_)
 refine TotP.bind (QnK b2 ) (fun x_3 hv4=>?_)
 refine TotP.bind (Qn5 x_1 x_3 ) (fun x_5 hv6=>?_)
 refine TotP.bif (fun hc7=>?_) (fun hc7=>?_)
 ·unfold Qc5
  refine TotP.bif (fun hc8=>?_) (fun hc8=>?_)
  ·exact TotP.okT
  ·exact TotP.okT
 ·unfold Qc5
  refine TotP.bif (fun hc9=>?_) (fun hc9=>?_)
  ·exact TotP.okT
  ·exact TotP.okT
theorem Qll (a1:Int)(b2:Int)  : TotP (QdR a1 b2) fun r=>True:=by
 unfold QdR
 refine TotP.bif (fun hc1=>?_) (fun hc1=>?_)
 ·exact TotP.okT
 ·refine TotP.bif (fun hc2=>?_) (fun hc2=>?_)
  ·exact TotP.okT
  ·refine TotP.bind (TotP.chk (by simp_all)) (fun _ _=>?_)
   refine TotP.bind (TotP.chk (by simp_all)) (fun _ _=>?_)
   exact TotP.okT
theorem QdN (is1:Bool)  : TotP (Qcp is1) fun r=>True:=by
 unfold Qcp
 refine TotP.bif (fun hc1=>?_) (fun hc1=>?_)
 ·exact TotP.okT
 ·exact TotP.okT
theorem QiY (op1:Int)(a2:Int)(b3:Int)  : TotP (QgP op1 a2 b3) fun r=>True:=by
 unfold QgP
 refine TotP.bif (fun hc1=>?_) (fun hc1=>?_)
 ·refine TotP.bind (Qso a2 b3 ) (fun x_2 hv3=>?_)
  exact TotP.okT
 ·refine TotP.bif (fun hc4=>?_) (fun hc4=>?_)
  ·refine TotP.bind (Qn4 a2 b3 ) (fun x_5 hv6=>?_)
   exact TotP.okT
  ·refine TotP.bif (fun hc7=>?_) (fun hc7=>?_)
   ·refine TotP.bind (Qp9 a2 b3 ) (fun x_8 hv9=>?_)
    exact TotP.okT
   ·refine TotP.bif (fun hc10=>?_) (fun hc10=>?_)
    ·refine TotP.bind (Qll a2 b3 ) (fun x_11 hv12=>?_)
     exact TotP.okT
    ·refine TotP.bif (fun hc13=>?_) (fun hc13=>?_)
     ·refine TotP.bind (Qll a2 b3 ) (fun x_14 hv15=>?_)
      exact TotP.okT
     ·refine TotP.bif (fun hc16=>?_) (fun hc16=>?_)
      ·refine TotP.bind (QdN (a2==b3) ) (fun x_17 hv18=>?_)
       exact TotP.okT
      ·refine TotP.bif (fun hc19=>?_) (fun hc19=>?_)
       ·refine TotP.bind (QdN (a2 != b3) ) (fun x_20 hv21=>?_)
        exact TotP.okT
       ·refine TotP.bif (fun hc22=>?_) (fun hc22=>?_)
        ·refine TotP.bind (QdN (decide (a2<b3)) ) (fun x_23 hv24=>?_)
         exact TotP.okT
        ·refine TotP.bif (fun hc25=>?_) (fun hc25=>?_)
         ·refine TotP.bind (QdN (decide (a2≤b3)) ) (fun x_26 hv27=>?_)
          exact TotP.okT
         ·refine TotP.bif (fun hc28=>?_) (fun hc28=>?_)
          ·refine TotP.bind (P:=fun _=>True) ?_ (fun v_29 hv30=>?_)
           ·unfold QlG
            refine TotP.bif (fun hc31=>?_) (fun hc31=>?_)
            ·refine TotP.bind (QdN (b3 != 0) ) (fun x_32 hv33=>?_)
             exact TotP.okT
            ·refine TotP.bind (QdN false ) (fun x_34 hv35=>?_)
             exact TotP.okT
           unfold QhZ
           exact TotP.okT
          ·refine TotP.bif (fun hc36=>?_) (fun hc36=>?_)
           ·refine TotP.bind (P:=fun _=>True) ?_ (fun v_37 hv38=>?_)
            ·unfold QlH
             refine TotP.bif (fun hc39=>?_) (fun hc39=>?_)
             ·refine TotP.bind (QdN true ) (fun x_40 hv41=>?_)
              exact TotP.okT
             ·refine TotP.bind (QdN (b3 != 0) ) (fun x_42 hv43=>?_)
              exact TotP.okT
            unfold Qh0
            exact TotP.okT
           ·exact TotP.okT
theorem QoQ (a1:Int)  : TotP (QjL a1) fun r=>True:=by
 unfold QjL
 refine TotP.bind (QiY 2 0 a1 ) (fun x_1 hv2=>?_)
 exact TotP.okT
end Go.Proofs
