/- A part of the proof; what it holds is told at each theorem. -/
import Derived.Test.YtpijolohkdchcaaGreatDoorFiE
set_option linter.unusedVariables false
set_option linter.unusedSimpArgs false
set_option linter.unusedSectionVars false
set_option linter.deprecated false
noncomputable section
namespace Go.Proofs
open Go Go.RowKit Go.Vm
theorem Qov (m:List (List (Int×Int)))(h:m.length≤4294967296)(hb:∀b∈m,b.length≤4294967296):Qg9 m=some m:=by
 unfold Qg9 QaV
 rw [Qqi (by simpa using h)]
 simp only [Option.bind_some,List.nil_append]
 obtain⟨r,h1,h2⟩:=(TotP.up (body:=fun st=>Qdc m st.1 st.2) m.length (fun st=>st.1) (fun st=>st.2=m) (Q:=fun q=>q=m) (s0:=(0,m)) rfl rfl (fun i st hi hn hJ=>by
  obtain⟨x,l⟩:=st
  replace hi:x=(i:Int):=hi
  replace hJ:l=m:=hJ
  subst hJ
  show TotP (Qdc l x l) _
  unfold Qdc
  refine TotP.bif (fun hc=>?_) (fun _=>TotP.ok (Qn rfl))
  simp only [decide_eq_true_eq]at hc
  have hlt:i<l.length:=by omega
  rw [hi,QbB,List.getElem?_eq_getElem hlt,Option.bind_some]
  unfold QbO
  rw [Qqi (by simpa using hb _ (List.getElem_mem hlt))]
  simp only [Option.bind_some,List.nil_append]
  exact TotP.ok (QD ⟨hlt,Qy hlt (by unfold maxLen;omega),by simp⟩)))
 rw [h1,h2];rfl
theorem Quj (n:TNet)(a b:List (List (Int×Int)))(c d:Nat)(h:QcY n)(ha:MOk n c a)(hb:MOk n d b)(hcd:c+d≤1000000):TotP (Qci a b) fun r=>r.2=0→MOk n (c+d) r.1:=by
 have hpl:=h.pl
 have ha1:=ha.1
 have hb1:=hb.1
 have hmin:min2 (a.length:Int) (b.length:Int)=(n.Places.length:Int):=by unfold min2;split<;>omega
 unfold Qci
 rw [hmin]
 refine TotP.bind (TotP.chk (by simp only [Bool.and_eq_true,decide_eq_true_eq];omega)) fun _ _=>?_
 refine TotP.bind (TotP.up n.Places.length (fun st=>st.1) (fun st=>st.2.length=n.Places.length∧∀b∈st.2,Rt b∧b.length≤c+d) (Q:=fun q:Int⊕List (List (Int×Int))=>(∀x,q=.inl x→x≠0)∧∀m,q=.inr m→MOk n (c+d) m) rfl ⟨by simp,fun b hb=>?_⟩ (fun i st hi hn hJ=>?_)) (fun q hq=>?_)
 ·have:=List.eq_of_mem_replicate hb
  subst this
  exact⟨Rt.nil,by simp⟩
 ·obtain⟨x,m⟩:=st
  replace hi:x=(i:Int):=hi
  obtain⟨hJ1,hJ2⟩:m.length=n.Places.length∧∀b∈m,Rt b∧b.length≤c+d:=hJ
  show TotP (QbG a b x m) _
  unfold QbG
  rw [hmin]
  refine TotP.bif (fun hc=>?_) (fun hc=>TotP.ok (Qn ⟨fun x e=>(by cases e),fun m' e=>(by cases e;exact⟨hJ1,hJ2⟩)⟩))
  simp only [decide_eq_true_eq,List.length_replicate]at hc
  refine TotP.bind (TotP.idx (by omega) (by omega)) fun u hu=>?_
  refine TotP.bind (TotP.idx (by omega) (by omega)) fun v hv=>?_
  have hu2:=ha.2 u hu
  have hv2:=hb.2 v hv
  have key:∃s,QaM u v=some s∧(s.2=0→Rt s.1∧s.1.length≤c+d):=by
   rcases QiT u v (by omega)with⟨_,e⟩|⟨_,_,_,e⟩|⟨_,_,_,r,e,h1,_,h2⟩
   ·exact⟨_,e,fun h=>by cases h⟩
   ·exact⟨_,e,fun h=>by cases h⟩
   ·exact⟨_,e,fun _=>⟨h1,by show r.length≤_;omega⟩⟩
  obtain⟨s,es,hs⟩:=key
  rw [es,Option.bind_some]
  refine TotP.bind (TotP.idx (by omega) (by omega)) fun _ _=>?_
  refine TotP.bif (fun hc5=>TotP.ok (Qn ⟨fun x e=>(by cases e;simpa using hc5),fun m' e=>(by cases e)⟩)) fun hc5=>?_
  have hs:=hs (by simpa using hc5)
  refine TotP.ok (QD ⟨by omega,by subst hi;exact Qy (by omega) (by unfold maxLen;omega:n.Places.length≤maxLen),by simpa using hJ1,fun b hb'=>?_⟩)
  rcases QoH hb' with rfl | hb'
  ·exact hs
  ·exact hJ2 b hb'
 ·rcases q with q | q
  ·exact TotP.ok fun h=>absurd h (hq.1 q rfl)
  ·exact TotP.ok fun _=>hq.2 q rfl
theorem QtQ (n:TNet)(a b:List (List (Int×Int)))(c d:Nat)(h:QcY n)(ha:MOk n c a)(hb:MOk n d b)(hcd:c+d≤1000000):TotP (QaN a b) fun r=>r.2=0→MOk n (c+d) r.1:=by
 have hpl:=h.pl
 have ha1:=ha.1
 have hb1:=hb.1
 have hmin:min2 (a.length:Int) (b.length:Int)=(n.Places.length:Int):=by unfold min2;split<;>omega
 unfold QaN
 rw [hmin]
 refine TotP.bind (TotP.chk (by simp only [Bool.and_eq_true,decide_eq_true_eq];omega)) fun _ _=>?_
 refine TotP.bind (TotP.up n.Places.length (fun st=>st.1) (fun st=>st.2.length=n.Places.length∧∀b∈st.2,Rt b∧b.length≤c+d) (Q:=fun q:Int⊕List (List (Int×Int))=>(∀x,q=.inl x→x≠0)∧∀m,q=.inr m→MOk n (c+d) m) rfl ⟨by simp,fun b hb=>?_⟩ (fun i st hi hn hJ=>?_)) (fun q hq=>?_)
 ·have:=List.eq_of_mem_replicate hb
  subst this
  exact⟨Rt.nil,by simp⟩
 ·obtain⟨x,m⟩:=st
  replace hi:x=(i:Int):=hi
  obtain⟨hJ1,hJ2⟩:m.length=n.Places.length∧∀b∈m,Rt b∧b.length≤c+d:=hJ
  show TotP (QaT a b x m) _
  unfold QaT
  rw [hmin]
  refine TotP.bif (fun hc=>?_) (fun hc=>TotP.ok (Qn ⟨fun x e=>(by cases e),fun m' e=>(by cases e;exact⟨hJ1,hJ2⟩)⟩))
  simp only [decide_eq_true_eq,List.length_replicate]at hc
  refine TotP.bind (TotP.idx (by omega) (by omega)) fun u hu=>?_
  refine TotP.bind (TotP.idx (by omega) (by omega)) fun v hv=>?_
  have hu2:=ha.2 u hu
  have hv2:=hb.2 v hv
  have key:∃s,QM u v=some s∧(s.2=0→Rt s.1∧s.1.length≤c+d):=by
   rcases Qdy u v (by omega)with⟨_,e⟩|⟨_,_,_,e⟩|⟨_,_,r,e,h1,_,h2⟩
   ·exact⟨_,e,fun h=>by cases h⟩
   ·exact⟨_,e,fun h=>by cases h⟩
   ·exact⟨_,e,fun _=>⟨h1,by show r.length≤_;omega⟩⟩
  obtain⟨s,es,hs⟩:=key
  rw [es,Option.bind_some]
  refine TotP.bind (TotP.idx (by omega) (by omega)) fun _ _=>?_
  refine TotP.bif (fun hc5=>TotP.ok (Qn ⟨fun x e=>(by cases e;simpa using hc5),fun m' e=>(by cases e)⟩)) fun hc5=>?_
  have hs:=hs (by simpa using hc5)
  refine TotP.ok (QD ⟨by omega,by subst hi;exact Qy (by omega) (by unfold maxLen;omega:n.Places.length≤maxLen),by simpa using hJ1,fun b hb'=>?_⟩)
  rcases QoH hb' with rfl | hb'
  ·exact hs
  ·exact hJ2 b hb'
 ·rcases q with q | q
  ·exact TotP.ok fun h=>absurd h (hq.1 q rfl)
  ·exact TotP.ok fun _=>hq.2 q rfl
theorem Qsc (n:TNet)(m:List (List (Int×Int)))(o:Qk)(c:Nat)(h:QcY n)(hm:MOk n c m)(hc:c≤900000)(ho:Qkz n o):TotP (QbL n m o) fun r=>r.2=0→MOk n (c+20) r.1:=by
 unfold QbL
 refine TotP.bind (QuJ n m o h (hm.len h (by omega)) ho) fun x _=>?_
 refine TotP.bif (fun hc=>TotP.ok fun h=>absurd h (by simpa using hc)) fun _=>?_
 refine TotP.bind (Qsv n o h ho) fun y hy=>?_
 refine TotP.bif (fun hc=>TotP.ok fun h=>absurd h (by simpa using hc)) fun hc2=>?_
 exact TotP.bind (Quj n m y.1 c 20 h hm (hy (by simpa using hc2)).1 (by omega)) fun z hz=>TotP.ok hz
theorem Qu7 (n:TNet)(m:List (List (Int×Int)))(o:Qk)(c:Nat)(h:QcY n)(hm:MOk n c m)(hc:c≤900000)(ho:Qkz n o):TotP (QcD n m o) fun r=>r.2=0→MOk n (c+20) r.1:=by
 have hpl:=h.pl
 have hm1:=hm.1
 unfold QcD
 refine TotP.bind (Qsw n o h ho) fun y hy=>?_
 refine TotP.bif (fun hc=>TotP.ok fun h=>absurd h (by simpa using hc)) fun hc2=>?_
 obtain⟨⟨hy,_⟩,h1,h2⟩:=hy (by simpa using hc2)
 rw [Qov m (by omega) (fun b hb=>by have:=(hm.2 b hb).2;omega),Option.bind_some]
 refine TotP.bind (TotP.idx h1 h2) fun e he=>?_
 have hcl:=(h.tk e he).2.2.2
 refine TotP.bind (TotP.up e.Cancel.length (fun st=>st.1) (fun st=>MOk n c st.2) (Q:=fun q=>MOk n c q) rfl hm (fun i st hi hn hJ=>?_)) (fun q hq=>?_)
 ·obtain⟨x,l⟩:=st
  replace hi:x=(i:Int):=hi
  replace hJ:MOk n c l:=hJ
  show TotP (Qcr e x l) _
  unfold Qcr
  refine TotP.bif (fun hc=>?_) (fun _=>TotP.ok (Qn hJ))
  simp only [decide_eq_true_eq]at hc
  refine TotP.bind (TotP.idx (by omega) (by omega)) fun k _=>?_
  have next:∀l,MOk n c l→TotP (Qek x l) fun o=>(∀s',o=.inl s'→i<e.Cancel.length∧s'.1=((i+1:Nat):Int)∧MOk n c s'.2)∧∀r:List (List (Int×Int)),o=.inr r→MOk n c r:=fun l hl=>by
   unfold Qek
   exact TotP.ok (QD (ix:=fun st:Int×List (List (Int×Int))=>st.1) (J:=fun st:Int×List (List (Int×Int))=>MOk n c st.2) ⟨by omega,by subst hi;exact Qy (by omega) (by unfold maxLen;omega:e.Cancel.length≤maxLen),hl⟩)
  refine TotP.bif (fun hc3=>?_) fun _=>next l hJ
  simp only [Bool.and_eq_true,decide_eq_true_eq]at hc3
  refine TotP.bind (TotP.idx hc3.1 hc3.2) fun _ _=>?_
  refine next _ ⟨by simpa using hJ.1,fun b hb=>?_⟩
  rcases QoH hb with rfl | hb
  ·exact⟨Rt.nil,by simp⟩
  ·exact hJ.2 b hb
 ·show TotP (Qgc y q) _
  unfold Qgc
  exact TotP.bind (QtQ n q y.1 c 20 h hq hy (by omega)) fun z hz=>TotP.ok hz
theorem t_Do (n:TNet)(m:List (List (Int×Int)))(o:Qk)(c:Nat)(h:QcY n)(hm:MOk n c m)(hc:c≤800000)(ho:Qkz n o):TotP (Qbb n m o) fun r=>r.2=0→MOk n (c+40) r.1:=by
 unfold Qbb
 refine TotP.bind (Qsc n m o c h hm (by omega) ho) fun x hx=>?_
 refine TotP.bif (fun hc=>TotP.ok fun h=>absurd h (by simpa using hc)) fun hc2=>?_
 exact TotP.bind (Qu7 n x.1 o (c+20) h (hx (by simpa using hc2)) (by omega) ho) fun z hz=>TotP.ok hz
theorem Qs7 (b:List (Int×Int))(h:b.length≤maxLen):Qa3 b b=some true:=by
 unfold Qa3
 rw [show((b.length:Int) != (b.length:Int))=false by simp,cond_false]
 obtain⟨r,h1,h2⟩:=(TotP.up (body:=fun st=>QY b b st) b.length (fun st=>st) (fun _=>True) (Q:=fun q:Unit⊕Unit=>q=.inr ()) (s0:=(0:Int)) rfl trivial (fun i st hi hn hJ=>by
  show TotP (QY b b st) _
  unfold QY
  refine TotP.bif (fun hc=>?_) (fun _=>TotP.ok (Qn rfl))
  simp only [decide_eq_true_eq]at hc
  rw [hi,QbB,List.getElem?_eq_getElem (by omega),Option.bind_some,Option.bind_some]
  rw [show(!(((b[i]'(by omega)).1==(b[i]'(by omega)).1)&&((b[i]'(by omega)).2==(b[i]'(by omega)).2)))=false by simp,cond_false]
  exact TotP.ok (QD ⟨by omega,Qy (by omega) h,trivial⟩)))
 rw [h1,h2];rfl
theorem Qrt (b:List (Int×Int))(hr:Rt b)(h:b.length≤maxLen):QjN b b=some true:=by
 unfold QjN QkP
 rw [QlK b h,QeZ.2 hr]
 simp only [Option.bind_some,cond_true]
 rw [Qs7 b h];rfl
theorem QqZ {n:TNet}(h:QcY n){c:Nat}{m:List (List (Int×Int))}(hm:MOk n c m)(hc:c≤1000000):Qha m m=some true:=by
 have hpl:=h.pl
 have hm1:=hm.1
 unfold Qha QN
 rw [show((m.length:Int) != (m.length:Int))=false by simp,cond_false]
 obtain⟨r,h1,h2⟩:=(TotP.up (body:=fun st=>Qx m m st) m.length (fun st=>st) (fun _=>True) (Q:=fun q:Unit⊕Unit=>q=.inr ()) (s0:=(0:Int)) rfl trivial (fun i st hi hn hJ=>by
  show TotP (Qx m m st) _
  unfold Qx
  refine TotP.bif (fun hc=>?_) (fun _=>TotP.ok (Qn rfl))
  simp only [decide_eq_true_eq]at hc
  have hlt:i<m.length:=by omega
  have hb:=hm.2 _ (List.getElem_mem hlt)
  rw [hi,QbB,List.getElem?_eq_getElem hlt,Option.bind_some,Option.bind_some,Qrt _ hb.1 (by unfold maxLen;omega),Option.bind_some]
  exact TotP.ok (QD ⟨hlt,Qy hlt (by unfold maxLen;omega),trivial⟩)))
 rw [h1,h2];rfl
end Go.Proofs
