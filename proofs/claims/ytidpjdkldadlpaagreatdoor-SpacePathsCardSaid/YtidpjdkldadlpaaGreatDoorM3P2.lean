/- A part of the proof; what it holds is told at each theorem. -/
import Derived.Test.YtidpjdkldadlpaaGreatDoorM3P1
import Derived.KernelRfl
import Derived.Test.YtidpjdkldadlpaaGreatDoorM3T3
import Derived.Test.YtidpjdkldadlpaaGreatDoorM3P1
import Derived.Test.YtidpjdkldadlpaaGreatDoorM3P1
set_option linter.unusedVariables false
set_option linter.unusedSimpArgs false
set_option linter.unusedSectionVars false
set_option linter.deprecated false
noncomputable section
namespace Go.Proofs
open Go Go.RowKit Go.Vm
structure BOk (n:Qj) (m:List (List (Int×Int))) (b:QV):Prop where
 net:b.net=n
 mm:b.m=m
 task:b.task∈n.Tasks
theorem QzS (n:Qj)(m:List (List (Int×Int)))(task:Int)(vars:List Int)(h:Q0 n):Qg (QbR n m task vars) fun r=>r.1=0→BOk n m r.2:=by
 unfold QbR
 refine T0 (QAE n task vars h) fun x hx=>?_
 refine T1 (fun hc=>T2 fun h=>absurd h (by simpa using hc)) fun hc=>?_
 have:=hx (by simpa using hc)
 exact T0 (T4 this.1 this.2) fun e he=>T2 fun _=>⟨rfl,rfl,he⟩
theorem Qx2 (n:Qj)(m:List (List (Int×Int)))(b:QV)(h:Q0 n)(hb:BOk n m b):Qg (Qal b) fun _=>True:=by
 unfold Qal
 refine T0 (QBO _ _ (h.k.2.2.1.2 _ hb.task).2.2.1) fun x _=>?_
 exact T1 (fun _=>T3) fun _=>T1 (fun _=>T3) fun _=>T3
theorem QxD (n:Qj)(m:List (List (Int×Int)))(b:QV)(outs:List Int)(h:Q0 n)(hb:BOk n m b)(ho:outs.length≤1000):Qg (QaA b outs) fun _=>True:=by
 unfold QaA
 rw [hb.net]
 exact T0 (Qp2 n _ outs _ h (h.k.2.2.1.2 _ hb.task).2.2.2.2.2.2.1 ho) fun x _=>T3
theorem QAF (l:List Int)(x:Int)(h:l.length≤maxLen):Qg (Qbv l x) fun _=>True:=Qif l x ⟨h,fun _ _=>trivial⟩
theorem Qn1 (l:List Int)(h:l.length≤4294967296):QaI l=some l:=by
 unfold QaI
 rw [QmW (by simpa using h)];rfl
theorem Qzc (l:List Int)(h:l.length≤4294967296):Qbc l=some (QeC l):=by
 unfold Qbc
 rw [QmW (by omega)];rfl
theorem QzT (n:Qj)(m:List (List (Int×Int)))(b:QV)(ins:List Int)(h:Q0 n)(hb:BOk n m b)(hm:QP (QP fun _=>True) m)(hi:ins.length≤100):Qg (Qai b ins) fun _=>True:=by
 have ki:=(h.k.2.2.1.2 _ hb.task).2.2.2.2.2.1
 have kl:=(h.tk _ hb.task).2.1
 unfold Qai
 rw [hb.net,hb.mm]
 refine T0 (Qp2 n _ ins _ h ki (by omega)) fun x hx=>?_
 refine T1 (fun _=>T3) fun hc=>?_
 have hx:=hx (by simpa using hc)
 refine T0 (Qzb _ _ (hx.1.len h (by omega)) hm) fun y _=>?_
 refine T1 (fun _=>T3) fun _=>T1 (fun _=>T3) fun _=>?_
 refine T0 (Qg.up b.task.Ins.length (fun st=>st) (fun _=>True) (Q:=fun _=>True) rfl trivial (fun i st hi hn _=>?_)) (fun q _=>?_)
 ·show Qg (QeH b ins st) _
  unfold QeH
  refine T1 (fun hc=>?_) (fun _=>T2 (Qn trivial))
  simp only [QD]at hc
  have step:Qg (QeF st) fun o=>(∀s',o=.inl s'→i<b.task.Ins.length∧s'=((i+1:Nat):Int)∧True)∧∀r:Unit⊕Unit,o=.inr r→True:=
   T2 (QF (ix:=fun st=>st) (J:=fun _=>True) (Q:=fun _=>True) ⟨by omega,by rw [hi];exact Qz (by omega) ki.1,trivial⟩)
  refine T0 (QAF ins st (by unfold maxLen;omega)) fun z _=>?_
  refine T1 (fun _=>step) fun _=>?_
  rw [Qn1 ins (by omega),Ql]
  refine T0 (T5 (by simp;omega)) fun _ _=>?_
  rw [Qzc _ (by simp;omega),Ql]
  refine T0 (T5 (by simp [Qma])) fun _ _=>?_
  rw [hb.net]
  refine T0 (Qp2 n _ _ _ h ki (by rw [Qma];simp;omega)) fun u hu=>?_
  refine T0 (P:=fun _=>True) ?_ fun v _=>?_
  ·unfold Qlw
   rw [hb.mm]
   refine T1 (fun hc2=>?_) fun _=>T3
   have hu:=hu (by simpa using hc2)
   refine T0 (Qzb _ _ (hu.1.len h (by rw [Qma];simp;omega)) hm) fun _ _=>T3
  unfold QeG
  exact T1 (fun _=>T2 (Qn trivial)) fun _=>step
 rcases q with q | q
 ·exact T3
 exact T3
def Qm1 (r:List (List Int)):Prop:=r.length≤16∧∀row∈r,row.length≤16
def chB (o:Option (List (List Int))):Bool:=match o with
 | some r=>decide (r.length≤16)&&r.all fun row=>decide (row.length≤16)
 | none=>false
theorem Qzd {o:Option (List (List Int))}(h:chB o=true):Qg o Qm1:=by
 cases o with
 | none=>cases h
 | some r=>
  simp only [chB,QE,QD,Qah]at h
  exact T2 h
theorem near {arcs:Int}(h0:¬arcs<0)(h1:¬16<arcs):arcs=0∨arcs=1∨arcs=2∨arcs=3∨arcs=4∨arcs=5∨arcs=6∨arcs=7∨arcs=8∨arcs=9∨arcs=10∨arcs=11∨arcs=12∨arcs=13∨arcs=14∨arcs=15∨arcs=16:=by omega
set_option maxRecDepth 100000 in
theorem QqZ (kind arcs:Int):Qg (Qcg kind arcs) Qm1:=by
 by_cases hg:((decide (arcs<0))||((decide (16<arcs))||((kind==3)&&(decide (4<arcs)))))=true
 ·unfold Qcg
  rw [hg]
  exact T2 ⟨by simp,fun r h=>by cases h⟩
 simp only [Qdt,QE,QD,beq_iff_eq,not_or,not_and]at hg
 obtain⟨h0,h1,h2⟩:=hg
 by_cases e1:kind=1
 ·subst e1
  rcases near h0 h1 with rfl | rfl | rfl | rfl | rfl | rfl | rfl | rfl | rfl | rfl | rfl | rfl | rfl | rfl | rfl | rfl | rfl<;>exact Qzd (by kernel_rfl)
 by_cases e2:kind=2
 ·subst e2
  rcases near h0 h1 with rfl | rfl | rfl | rfl | rfl | rfl | rfl | rfl | rfl | rfl | rfl | rfl | rfl | rfl | rfl | rfl | rfl<;>exact Qzd (by kernel_rfl)
 by_cases e3:kind=3
 ·subst e3
  have h3:=h2 rfl
  have:arcs=0∨arcs=1∨arcs=2∨arcs=3∨arcs=4:=by omega
  rcases this with rfl | rfl | rfl | rfl | rfl<;>exact Qzd (by kernel_rfl)
 have f1:(kind==1)=false:=by simpa using e1
 have f2:(kind==2)=false:=by simpa using e2
 have f3:(kind==3)=false:=by simpa using e3
 unfold Qcg Qfk
 rw [f1,f2,f3]
 exact T1 (fun _=>T2 ⟨by simp,fun r h=>by cases h⟩) fun _=>T2 ⟨by simp,fun r h=>by cases h⟩
theorem QDM (a b:List Int)(ha:a.length≤maxLen):Qg (Qbs a b) fun _=>True:=by
 unfold Qbs
 refine T1 (fun _=>T3) fun hc=>?_
 simp only [bne_eq_false_iff_eq]at hc
 refine T0 (Qg.up a.length (fun st=>st) (fun _=>True) (Q:=fun _=>True) rfl trivial (fun i st hi hn hJ=>?_)) (fun q _=>?_)
 ·show Qg (Qbw a b st) _
  unfold Qbw
  refine T1 (fun hc=>?_) (fun _=>T2 (Qn trivial))
  simp only [QD]at hc
  refine T0 (T4 (by omega) (by omega)) fun x hx=>?_
  refine T0 (T4 (by omega) (by omega)) fun y hy=>?_
  exact T1 (fun _=>T2 (Qn trivial)) fun _=>T2 (QF ⟨by omega,by rw [hi];exact Qz (by omega) ha,trivial⟩)
 rcases q with q | q
 ·exact T3
 exact T3
theorem Qze (kind arcs:Int)(row:List Int):Qg (Qd4 kind arcs row) fun _=>True:=by
 unfold Qd4 Qcz Qcy
 refine T0 (QqZ kind arcs) fun x hx=>?_
 refine T0 (P:=fun _=>True) ?_ fun _ _=>T3
 refine T0 (P:=fun _=>True) ?_ fun _ _=>T3
 have hl:=hx.1
 refine T0 (Qg.up x.length (fun st=>st) (fun _=>True) (Q:=fun _=>True) rfl trivial (fun i st hi hn hJ=>?_)) (fun q _=>?_)
 ·show Qg (Qao x row st) _
  unfold Qao Qjv
  refine T1 (fun hc=>?_) (fun _=>T2 (Qn trivial))
  simp only [QD]at hc
  refine T0 (T4 (by omega) (by omega)) fun e he=>?_
  have:=hx.2 e he
  refine T0 (T0 (QDM e row (by unfold maxLen;omega)) fun _ _=>T3) fun _ _=>?_
  exact T1 (fun _=>T2 (Qn trivial)) fun _=>T2 (QF ⟨by omega,by rw [hi];exact Qz (by omega) (by unfold maxLen;omega:x.length≤maxLen),trivial⟩)
 rcases q with q | q
 ·exact T3
 exact T3
def Qct (n:Qj)(o:Qm):Prop:=o.Vars.length≤20∧o.Ins.length≤20∧o.Outs.length≤20
theorem QzU (n:Qj)(m:List (List (Int×Int)))(o:Qm)(h:Q0 n)(hm:QP (QP fun _=>True) m)(ho:Qct n o):Qg (QcG n m o) fun _=>True:=by
 unfold QcG
 refine T0 (QzS n m o.Task o.Vars h) fun x hx=>?_
 have k3:∀e,(e=0→x.1=0)→Qg (QcW x o e) fun _=>True:=fun e he=>by
  unfold QcW
  refine T1 (fun _=>T3) fun hc=>?_
  have hb:=hx (he (by simpa using hc))
  refine T0 (P:=fun _=>True) ?_ fun y _=>?_
  ·unfold Qjw
   refine T0 (Qze _ _ _) fun z _=>?_
   exact T1 (fun _=>T3) fun _=>T0 (Qze _ _ _) fun _ _=>T3
  unfold Qe5
  refine T1 (fun _=>T3) fun _=>?_
  refine T0 (QzT n m x.2 o.Ins h hb hm (by have:=ho.2.1;omega)) fun z _=>?_
  refine T1 (fun _=>T3) fun _=>?_
  exact T0 (QxD n m x.2 o.Outs h hb (by have:=ho.2.2;omega)) fun _ _=>T3
 refine T1 (fun hc=>?_) fun hc=>k3 _ fun h=>h
 have hc:x.1=0:=by simpa using hc
 exact T0 (Qx2 n m x.2 h (hx hc)) fun e _=>k3 e fun _=>hc
theorem QzV (n:Qj)(o:Qm)(h:Q0 n)(ho:Qct n o):Qg (Qkf n o) fun r=>r.2=0→MOk n 20 r.1∧Low n r.1:=by
 unfold Qkf
 refine T0 (QAE n o.Task o.Vars h) fun x hx=>?_
 refine T1 (fun hc=>T2 fun h=>absurd h (by simpa using hc)) fun hc=>?_
 have:=hx (by simpa using hc)
 refine T0 (T4 this.1 this.2) fun e he=>?_
 have hl:=ho.2.1
 exact T0 (Qp2 n _ _ _ h (h.k.2.2.1.2 _ he).2.2.2.2.2.1 (by omega)) fun y hy=>T2 fun h0=>⟨(hy h0).1.mono hl,(hy h0).2⟩
theorem QzW (n:Qj)(o:Qm)(h:Q0 n)(ho:Qct n o):Qg (QmP n o) fun r=>r.2=0→(MOk n 20 r.1∧Low n r.1)∧0≤o.Task∧o.Task<n.Tasks.length:=by
 unfold QmP
 refine T0 (QAE n o.Task o.Vars h) fun x hx=>?_
 refine T1 (fun hc=>T2 fun h=>absurd h (by simpa using hc)) fun hc=>?_
 have:=hx (by simpa using hc)
 refine T0 (T4 this.1 this.2) fun e he=>?_
 have hl:=ho.2.2
 exact T0 (Qp2 n _ _ _ h (h.k.2.2.1.2 _ he).2.2.2.2.2.2.1 (by omega)) fun y hy=>T2 fun h0=>⟨⟨(hy h0).1.mono hl,(hy h0).2⟩,this⟩
end Go.Proofs
noncomputable section
namespace Go.Proofs
open Go Go.RowKit Go.Vm
theorem QBP {σ ρ:Type}{body:σ→Option (σ⊕ρ)}(mu:σ→Nat)(J:σ→Prop){Q:ρ→Prop}{s0:σ}(hJ:J s0)
  (step:∀s,J s→Qg (body s) fun o=>(∀s',o=.inl s'→mu s'<mu s∧J s')∧∀r,o=.inr r→Q r):Qg (QJ body s0) Q:=by
 have key:∀k s,mu s≤k→J s→Qg (QJ body s) Q:=by
  intro k
  induction k with
  | zero=>
   intro s hk hj
   obtain⟨o,ho,h1,h2⟩:=step s hj
   cases o with
   | inl s'=>have:=(h1 s' rfl).1;omega
   | inr r=>exact⟨r,by rw [Qdf,ho];rfl,h2 r rfl⟩
  | succ k ih=>
   intro s hk hj
   obtain⟨o,ho,h1,h2⟩:=step s hj
   cases o with
   | inl s'=>
    obtain⟨h3,h4⟩:=h1 s' rfl
    obtain⟨r,h5,h6⟩:=ih s' (by omega) h4
    exact⟨r,by rw [Qdf,ho];exact h5,h6⟩
   | inr r=>exact⟨r,by rw [Qdf,ho];rfl,h2 r rfl⟩
 exact key _ s0 (QbT _) hJ
theorem Qzf {l:List Int}{k:Nat}(hk:k<l.length)(Z:List Int)(x:Int):(l.take (k+1)++Z).set k x=l.take k++x::Z:=by
 have e:l.take (k+1)=l.take k++[l[k]]:=by rw [QgH,QB hk];rfl
 rw [e,Qdu,List.set_append,if_neg (by simp;omega)]
 have:k-(l.take k).length=0:=by simp;omega
 rw [this];rfl
end Go.Proofs
noncomputable section
namespace Go.Proofs
open Go Go.RowKit Go.Vm
theorem Qko (m:List (List (Int×Int)))(h:m.length≤4294967296)(hb:∀b∈m,b.length≤4294967296):Qg5 m=some m:=by
 unfold Qg5 QbI
 rw [QmW (by simpa using h)]
 simp only [Ql,Qqj]
 obtain⟨r,h1,h2⟩:=(Qg.up (body:=fun st=>QhK m st.1 st.2) m.length (fun st=>st.1) (fun st=>st.2=m) (Q:=fun q=>q=m) (s0:=(0,m)) rfl rfl (fun i st hi hn hJ=>by
  obtain⟨x,l⟩:=st
  replace hi:x=(i:Int):=hi
  replace hJ:l=m:=hJ
  subst hJ
  show Qg (QhK l x l) _
  unfold QhK
  refine T1 (fun hc=>?_) (fun _=>T2 (Qn rfl))
  simp only [QD]at hc
  have hlt:i<l.length:=by omega
  rw [hi,Q4,QB hlt,Ql]
  unfold QaZ
  rw [QmW (by simpa using hb _ (Qay hlt))]
  simp only [Ql,Qqj]
  exact T2 (QF ⟨hlt,Qz hlt (by unfold maxLen;omega),by simp⟩)))
 rw [h1,h2];rfl
theorem QCV (n:Qj)(a b:List (List (Int×Int)))(c d:Nat)(h:Q0 n)(ha:MOk n c a)(hb:MOk n d b)(hcd:c+d≤1000000):Qg (Qfh a b) fun r=>r.2=0→MOk n (c+d) r.1:=by
 have hpl:=h.pl
 have ha1:=ha.1
 have hb1:=hb.1
 have hmin:min2 (a.length:Int) (b.length:Int)=(n.Places.length:Int):=by unfold min2;split<;>omega
 unfold Qfh
 rw [hmin]
 refine T0 (T5 (by simp only [QE,QD];omega)) fun _ _=>?_
 refine T0 (Qg.up n.Places.length (fun st=>st.1) (fun st=>st.2.length=n.Places.length∧∀b∈st.2,Rt b∧b.length≤c+d) (Q:=fun q:Int⊕List (List (Int×Int))=>(∀x,q=.inl x→x≠0)∧∀m,q=.inr m→MOk n (c+d) m) rfl ⟨by simp,fun b hb=>?_⟩ (fun i st hi hn hJ=>?_)) (fun q hq=>?_)
 ·have:=Qr1 hb
  subst this
  exact⟨Rt.nil,by simp⟩
 ·obtain⟨x,m⟩:=st
  replace hi:x=(i:Int):=hi
  obtain⟨hJ1,hJ2⟩:m.length=n.Places.length∧∀b∈m,Rt b∧b.length≤c+d:=hJ
  show Qg (Qet a b x m) _
  unfold Qet
  rw [hmin]
  refine T1 (fun hc=>?_) (fun hc=>T2 (Qn ⟨fun x e=>(by cases e),fun m' e=>(by cases e;exact⟨hJ1,hJ2⟩)⟩))
  simp only [QD,Qr3]at hc
  refine T0 (T4 (by omega) (by omega)) fun u hu=>?_
  refine T0 (T4 (by omega) (by omega)) fun v hv=>?_
  have hu2:=ha.2 u hu
  have hv2:=hb.2 v hv
  have key:∃s,Qb2 u v=some s∧(s.2=0→Rt s.1∧s.1.length≤c+d):=by
   rcases Qog u v (by omega)with⟨_,e⟩|⟨_,_,_,e⟩|⟨_,_,_,r,e,h1,_,h2⟩
   ·exact⟨_,e,fun h=>by cases h⟩
   ·exact⟨_,e,fun h=>by cases h⟩
   exact⟨_,e,fun _=>⟨h1,by show r.length≤_;omega⟩⟩
  obtain⟨s,es,hs⟩:=key
  rw [es,Ql]
  refine T0 (T4 (by omega) (by omega)) fun _ _=>?_
  refine T1 (fun hc5=>T2 (Qn ⟨fun x e=>(by cases e;simpa using hc5),fun m' e=>(by cases e)⟩)) fun hc5=>?_
  have hs:=hs (by simpa using hc5)
  refine T2 (QF ⟨by omega,by subst hi;exact Qz (by omega) (by unfold maxLen;omega:n.Places.length≤maxLen),by simpa using hJ1,fun b hb'=>?_⟩)
  rcases QrX hb' with rfl | hb'
  ·exact hs
  exact hJ2 b hb'
 rcases q with q | q
 ·exact T2 fun h=>absurd h (hq.1 q rfl)
 exact T2 fun _=>hq.2 q rfl
theorem QBQ (n:Qj)(a b:List (List (Int×Int)))(c d:Nat)(h:Q0 n)(ha:MOk n c a)(hb:MOk n d b)(hcd:c+d≤1000000):Qg (Qeu a b) fun r=>r.2=0→MOk n (c+d) r.1:=by
 have hpl:=h.pl
 have ha1:=ha.1
 have hb1:=hb.1
 have hmin:min2 (a.length:Int) (b.length:Int)=(n.Places.length:Int):=by unfold min2;split<;>omega
 unfold Qeu
 rw [hmin]
 refine T0 (T5 (by simp only [QE,QD];omega)) fun _ _=>?_
 refine T0 (Qg.up n.Places.length (fun st=>st.1) (fun st=>st.2.length=n.Places.length∧∀b∈st.2,Rt b∧b.length≤c+d) (Q:=fun q:Int⊕List (List (Int×Int))=>(∀x,q=.inl x→x≠0)∧∀m,q=.inr m→MOk n (c+d) m) rfl ⟨by simp,fun b hb=>?_⟩ (fun i st hi hn hJ=>?_)) (fun q hq=>?_)
 ·have:=Qr1 hb
  subst this
  exact⟨Rt.nil,by simp⟩
 ·obtain⟨x,m⟩:=st
  replace hi:x=(i:Int):=hi
  obtain⟨hJ1,hJ2⟩:m.length=n.Places.length∧∀b∈m,Rt b∧b.length≤c+d:=hJ
  show Qg (Qc3 a b x m) _
  unfold Qc3
  rw [hmin]
  refine T1 (fun hc=>?_) (fun hc=>T2 (Qn ⟨fun x e=>(by cases e),fun m' e=>(by cases e;exact⟨hJ1,hJ2⟩)⟩))
  simp only [QD,Qr3]at hc
  refine T0 (T4 (by omega) (by omega)) fun u hu=>?_
  refine T0 (T4 (by omega) (by omega)) fun v hv=>?_
  have hu2:=ha.2 u hu
  have hv2:=hb.2 v hv
  have key:∃s,QbF u v=some s∧(s.2=0→Rt s.1∧s.1.length≤c+d):=by
   rcases Qkn u v (by omega)with⟨_,e⟩|⟨_,_,_,e⟩|⟨_,_,r,e,h1,_,h2⟩
   ·exact⟨_,e,fun h=>by cases h⟩
   ·exact⟨_,e,fun h=>by cases h⟩
   exact⟨_,e,fun _=>⟨h1,by show r.length≤_;omega⟩⟩
  obtain⟨s,es,hs⟩:=key
  rw [es,Ql]
  refine T0 (T4 (by omega) (by omega)) fun _ _=>?_
  refine T1 (fun hc5=>T2 (Qn ⟨fun x e=>(by cases e;simpa using hc5),fun m' e=>(by cases e)⟩)) fun hc5=>?_
  have hs:=hs (by simpa using hc5)
  refine T2 (QF ⟨by omega,by subst hi;exact Qz (by omega) (by unfold maxLen;omega:n.Places.length≤maxLen),by simpa using hJ1,fun b hb'=>?_⟩)
  rcases QrX hb' with rfl | hb'
  ·exact hs
  exact hJ2 b hb'
 rcases q with q | q
 ·exact T2 fun h=>absurd h (hq.1 q rfl)
 exact T2 fun _=>hq.2 q rfl
theorem QBR (n:Qj)(m:List (List (Int×Int)))(o:Qm)(c:Nat)(h:Q0 n)(hm:MOk n c m)(hc:c≤900000)(ho:Qct n o):Qg (Qg7 n m o) fun r=>r.2=0→MOk n (c+20) r.1:=by
 unfold Qg7
 refine T0 (QzU n m o h (hm.len h (by omega)) ho) fun x _=>?_
 refine T1 (fun hc=>T2 fun h=>absurd h (by simpa using hc)) fun _=>?_
 refine T0 (QzV n o h ho) fun y hy=>?_
 refine T1 (fun hc=>T2 fun h=>absurd h (by simpa using hc)) fun hc2=>?_
 exact T0 (QCV n m y.1 c 20 h hm (hy (by simpa using hc2)).1 (by omega)) fun z hz=>T2 hz
theorem QEt (n:Qj)(m:List (List (Int×Int)))(o:Qm)(c:Nat)(h:Q0 n)(hm:MOk n c m)(hc:c≤900000)(ho:Qct n o):Qg (Qg8 n m o) fun r=>r.2=0→MOk n (c+20) r.1:=by
 have hpl:=h.pl
 have hm1:=hm.1
 unfold Qg8
 refine T0 (QzW n o h ho) fun y hy=>?_
 refine T1 (fun hc=>T2 fun h=>absurd h (by simpa using hc)) fun hc2=>?_
 obtain⟨⟨hy,_⟩,h1,h2⟩:=hy (by simpa using hc2)
 rw [Qko m (by omega) (fun b hb=>by have:=(hm.2 b hb).2;omega),Ql]
 refine T0 (T4 h1 h2) fun e he=>?_
 have hcl:=(h.tk e he).2.2.2
 refine T0 (Qg.up e.Cancel.length (fun st=>st.1) (fun st=>MOk n c st.2) (Q:=fun q=>MOk n c q) rfl hm (fun i st hi hn hJ=>?_)) (fun q hq=>?_)
 ·obtain⟨x,l⟩:=st
  replace hi:x=(i:Int):=hi
  replace hJ:MOk n c l:=hJ
  show Qg (QfR e x l) _
  unfold QfR
  refine T1 (fun hc=>?_) (fun _=>T2 (Qn hJ))
  simp only [QD]at hc
  refine T0 (T4 (by omega) (by omega)) fun k _=>?_
  have next:∀l,MOk n c l→Qg (Qev x l) fun o=>(∀s',o=.inl s'→i<e.Cancel.length∧s'.1=((i+1:Nat):Int)∧MOk n c s'.2)∧∀r:List (List (Int×Int)),o=.inr r→MOk n c r:=fun l hl=>by
   unfold Qev
   exact T2 (QF (ix:=fun st:Int×List (List (Int×Int))=>st.1) (J:=fun st:Int×List (List (Int×Int))=>MOk n c st.2) ⟨by omega,by subst hi;exact Qz (by omega) (by unfold maxLen;omega:e.Cancel.length≤maxLen),hl⟩)
  refine T1 (fun hc3=>?_) fun _=>next l hJ
  simp only [QE,QD]at hc3
  refine T0 (T4 hc3.1 hc3.2) fun _ _=>?_
  refine next _ ⟨by simpa using hJ.1,fun b hb=>?_⟩
  rcases QrX hb with rfl | hb
  ·exact⟨Rt.nil,by simp⟩
  exact hJ.2 b hb
 show Qg (QfS y q) _
 unfold QfS
 exact T0 (QBQ n q y.1 c 20 h hq hy (by omega)) fun z hz=>T2 hz
theorem QAG (n:Qj)(m:List (List (Int×Int)))(o:Qm)(c:Nat)(h:Q0 n)(hm:MOk n c m)(hc:c≤800000)(ho:Qct n o):Qg (Qas n m o) fun r=>r.2=0→MOk n (c+40) r.1:=by
 unfold Qas
 refine T0 (QBR n m o c h hm (by omega) ho) fun x hx=>?_
 refine T1 (fun hc=>T2 fun h=>absurd h (by simpa using hc)) fun hc2=>?_
 exact T0 (QEt n x.1 o (c+20) h (hx (by simpa using hc2)) (by omega) ho) fun z hz=>T2 hz
def Qm2 (n:Qj):List (List (Int×Int))→List Qm→Option (List (List (Int×Int)))
 | m,[]=>some m
 | m,o::l=>(Qas n m o).bind fun x=>bif x.2==0 then Qm2 n x.1 l else none
theorem QAH {n:Qj}{m x:List (List (Int×Int))}{o:Qm}{l:List Qm}(h:Qm2 n m (o::l)=some x):∃y,Qas n m o=some (y,0)∧Qm2 n y l=some x:=by
 rw [Qm2]at h
 obtain⟨r,hr,h⟩:=Qb h
 obtain⟨a,b⟩:=r
 rcases Qt h with⟨c,h⟩|⟨_,h⟩
 ·simp only [beq_iff_eq]at c
  subst c
  exact⟨a,hr,h⟩
 cases h
theorem QEu {n:Qj}(h:Q0 n){l:List Qm}{c:Nat}{m x:List (List (Int×Int))}(hm:MOk n c m)(hc:c≤1000000)(hl:l.length≤4294967296)(e:Qm2 n m l=some x):QoY n m l=some (x,(l.length:Int)):=by
 have hpl:=h.pl
 have hm1:=hm.1
 unfold QoY
 rw [Qko m (by omega) (fun b hb=>by have:=(hm.2 b hb).2;omega),Ql]
 obtain⟨r,h1,h2⟩:=QrO (body:=fun st=>Qfj l n st.1 st.2) l.length (fun i s=>s.2=(i:Int)∧Qm2 n s.1 (l.drop i)=some x) (fun r=>r=.inr x)
  (fun i s hi hs=>by
   obtain⟨a,j⟩:=s
   obtain⟨rfl,hs⟩:j=(i:Int)∧Qm2 n a (l.drop i)=some x:=hs
   rw [Qnx hi]at hs
   obtain⟨y,g1,g2⟩:=QAH hs
   refine .inl ⟨(y,((i+1:Nat):Int)),?_,rfl,g2⟩
   show Qfj l n a i=_
   unfold Qfj
   rw [QbW (by omega:(i:Int)<l.length),cond_true,Q4,QB hi,Ql,g1,Ql]
   show some (Sum.inl (y,w64 ((i:Int)+1)))=_
   rw [Qz hi (by unfold maxLen;omega)])
  (fun s hs=>by
   obtain⟨a,j⟩:=s
   obtain⟨rfl,hs⟩:j=(l.length:Int)∧Qm2 n a (l.drop l.length)=some x:=hs
   rw [List.drop_length]at hs
   cases hs
   refine⟨_,?_,rfl⟩
   show Qfj l n _ l.length=_
   unfold Qfj
   rw [Qei (by omega)];rfl) (m,0) ⟨rfl,by rw [List.drop_zero];exact e⟩
 rw [h1,h2];rfl
theorem QAI (b:List (Int×Int))(h:b.length≤maxLen):QcQ b b=some true:=by
 unfold QcQ
 rw [show((b.length:Int) != (b.length:Int))=false by simp,cond_false]
 obtain⟨r,h1,h2⟩:=(Qg.up (body:=fun st=>Qbe b b st) b.length (fun st=>st) (fun _=>True) (Q:=fun q:Unit⊕Unit=>q=.inr ()) (s0:=(0:Int)) rfl trivial (fun i st hi hn hJ=>by
  show Qg (Qbe b b st) _
  unfold Qbe
  refine T1 (fun hc=>?_) (fun _=>T2 (Qn rfl))
  simp only [QD]at hc
  rw [hi,Q4,QB (by omega),Ql,Ql]
  rw [show(!(((b[i]'(by omega)).1==(b[i]'(by omega)).1)&&((b[i]'(by omega)).2==(b[i]'(by omega)).2)))=false by simp,cond_false]
  exact T2 (QF ⟨by omega,Qz (by omega) h,trivial⟩)))
 rw [h1,h2];rfl
theorem Qyl (b:List (Int×Int))(hr:Rt b)(h:b.length≤maxLen):QoW b b=some true:=by
 unfold QoW Qs5
 rw [Qm0 b h,QeT.2 hr]
 simp only [Ql,cond_true]
 rw [QAI b h];rfl
theorem QxE {n:Qj}(h:Q0 n){c:Nat}{m:List (List (Int×Int))}(hm:MOk n c m)(hc:c≤1000000):Qi4 m m=some true:=by
 have hpl:=h.pl
 have hm1:=hm.1
 unfold Qi4 Qar
 rw [show((m.length:Int) != (m.length:Int))=false by simp,cond_false]
 obtain⟨r,h1,h2⟩:=(Qg.up (body:=fun st=>QY m m st) m.length (fun st=>st) (fun _=>True) (Q:=fun q:Unit⊕Unit=>q=.inr ()) (s0:=(0:Int)) rfl trivial (fun i st hi hn hJ=>by
  show Qg (QY m m st) _
  unfold QY
  refine T1 (fun hc=>?_) (fun _=>T2 (Qn rfl))
  simp only [QD]at hc
  have hlt:i<m.length:=by omega
  have hb:=hm.2 _ (Qay hlt)
  rw [hi,Q4,QB hlt,Ql,Ql,Qyl _ hb.1 (by unfold maxLen;omega),Ql]
  exact T2 (QF ⟨hlt,Qz hlt (by unfold maxLen;omega),trivial⟩)))
 rw [h1,h2];rfl
end Go.Proofs
noncomputable section
namespace Go.Proofs
open Go Go.RowKit Go.Vm
end Go.Proofs
noncomputable section
namespace Go.Proofs
open Go Go.RowKit Go.Vm
abbrev Bag := List (Int×Int)
def QAJ (how:Bag→Bag→Option (Bag×Int))(a b r:List Bag):Prop:=∀(j:Nat) x y,a[j]? = some x→b[j]? = some y→∃z,r[j]? = some z∧how x y=some (z,0)
def Can (how:Bag→Bag→Option (Bag×Int))(a b:List Bag):Prop:=∀(j:Nat) x y,a[j]? = some x→b[j]? = some y→∃z,how x y=some (z,0)
theorem Ql6 {α:Type}{l:List α}{i:Nat}(h:i<l.length):l[i]? = some l[i]:=QB h
theorem QEv {a b r:Bag}(h:a.length+b.length≤4294967296)(e:QbF a b=some (r,0)):Rt a∧Rt b∧Rt r∧∀k,QO r k=QO a k+QO b k:=by
 rcases Qkn a b h with⟨_,e'⟩|⟨_,_,_,e'⟩|⟨h1,h2,r',e',h3,h4,_⟩
 ·rw [e]at e';cases e'
 ·rw [e]at e';cases e'
 rw [e]at e';cases e';exact⟨h1,h2,h3,h4⟩
theorem QDN {a b r:Bag}(h:a.length+b.length≤4294967296)(e:Qb2 a b=some (r,0)):Rt a∧Rt b∧Rt r∧(∀k,QO b k≤QO a k)∧∀k,QO r k=QO a k-QO b k:=by
 rcases Qog a b h with⟨_,e'⟩|⟨_,_,_,e'⟩|⟨h1,h2,h5,r',e',h3,h4,_⟩
 ·rw [e]at e';cases e'
 ·rw [e]at e';cases e'
 rw [e]at e';cases e';exact⟨h1,h2,h3,h5,h4⟩
theorem Qyv {n:Qj}{c:Nat}{m:List Bag}(hm:MOk n c m){j:Nat}(hj:j<n.Places.length):∃b,m[j]? = some b∧Rt b∧b.length≤c:=by
 have:j<m.length:=by have:=hm.1;omega
 exact⟨m[j],Ql6 this,hm.2 _ (Qay this)⟩
end Go.Proofs
noncomputable section
namespace Go.Proofs
open Go Go.RowKit Go.Vm
theorem QzE (n:Qj)(a b:List Bag)(c d:Nat)(h:Q0 n)(ha:MOk n c a)(hb:MOk n d b)(hcd:c+d≤1000000):Qg (Qfh a b) fun r=>(r.2=0→r.1.length=n.Places.length∧QAJ Qb2 a b r.1)∧(Can Qb2 a b→r.2=0):=by
 have hpl:=h.pl
 have ha1:=ha.1
 have hb1:=hb.1
 have hmin:min2 (a.length:Int) (b.length:Int)=(n.Places.length:Int):=by unfold min2;split<;>omega
 unfold Qfh
 rw [hmin]
 refine T0 (T5 (by simp only [QE,QD];omega)) fun _ _=>?_
 refine T0 (Qg.up n.Places.length (fun st=>st.1) (fun st=>st.2.length=n.Places.length∧∀(j:Nat) x y,(j:Int)<st.1→a[j]? = some x→b[j]? = some y→∃z,st.2[j]? = some z∧Qb2 x y=some (z,0)) (Q:=fun q:Int⊕List Bag=>(∀x,q=.inl x→x≠0∧¬Can Qb2 a b)∧∀m,q=.inr m→m.length=n.Places.length∧QAJ Qb2 a b m) rfl ⟨by simp,fun j x y hj=>by omega⟩ (fun i st hi hn hJ=>?_)) (fun q hq=>?_)
 ·obtain⟨x,m⟩:=st
  replace hi:x=(i:Int):=hi
  obtain⟨hJ1,hJ2⟩:m.length=n.Places.length∧∀(j:Nat) u v,(j:Int)<x→a[j]? = some u→b[j]? = some v→∃z,m[j]? = some z∧Qb2 u v=some (z,0):=hJ
  show Qg (Qet a b x m) _
  unfold Qet
  rw [hmin]
  refine T1 (fun hc=>?_) (fun hc=>T2 (Qn ⟨fun x e=>(by cases e),fun m' e=>(by cases e;exact⟨hJ1,fun j u v hu hv=>hJ2 j u v (by
   simp only [Q1,Qr3]at hc
   have:=(QU.1 hu).1
   omega) hu hv⟩)⟩))
  simp only [QD,Qr3]at hc
  have i1:i<a.length:=by omega
  have i2:i<b.length:=by omega
  rw [hi,Q4,Ql6 i1,Ql,Q4,Ql6 i2,Ql]
  have hu2:=ha.2 _ (Qay i1)
  have hv2:=hb.2 _ (Qay i2)
  have key:∃s,Qb2 a[i] b[i]=some s:=by
   rcases Qog a[i] b[i] (by omega)with⟨_,e⟩|⟨_,_,_,e⟩|⟨_,_,_,r,e,h1,_,h2⟩
   ·exact⟨_,e⟩
   ·exact⟨_,e⟩
   exact⟨_,e⟩
  obtain⟨s,es⟩:=key
  rw [es,Ql]
  refine T0 (T4 (by omega) (by omega)) fun _ _=>?_
  refine T1 (fun hc5=>T2 (Qn ⟨fun x e=>(by cases e;exact⟨by simpa using hc5,fun hcan=>by
   obtain⟨z,hz⟩:=hcan i _ _ (Ql6 i1) (Ql6 i2)
   rw [es]at hz
   cases hz
   simp at hc5⟩),fun m' e=>(by cases e)⟩)) fun hc5=>?_
  simp only [bne_eq_false_iff_eq]at hc5
  refine T2 (QF ⟨by omega,Qz (by omega) (by unfold maxLen;omega:n.Places.length≤maxLen),by simpa using hJ1,fun j u v hj hu hv=>?_⟩)
  have hj:(j:Int)<w64 ((i:Int)+1):=hj
  rw [Qz (show i<n.Places.length by omega) (by unfold maxLen;omega)]at hj
  show ∃z,(m.set (i:Int).toNat s.1)[j]? = some z∧_
  by_cases cj:j=i
  ·subst cj
   rw [Ql6 i1]at hu;rw [Ql6 i2]at hv
   cases hu;cases hv
   refine⟨s.1,by rw [show((j:Int)).toNat=j from QaK j];exact Qqh (by omega),?_⟩
   rw [es,←hc5]
  obtain⟨z,h1,h2⟩:=hJ2 j u v (by omega) hu hv
  exact⟨z,by rw [QoH (by simp;omega)];exact h1,h2⟩
 rcases q with q | q
 ·have:=hq.1 q rfl
  exact T2 ⟨fun h=>absurd h this.1,fun h=>absurd h this.2⟩
 exact T2 ⟨fun _=>hq.2 q rfl,fun _=>rfl⟩
theorem Qzg (n:Qj)(a b:List Bag)(c d:Nat)(h:Q0 n)(ha:MOk n c a)(hb:MOk n d b)(hcd:c+d≤1000000):Qg (Qeu a b) fun r=>(r.2=0→r.1.length=n.Places.length∧QAJ QbF a b r.1)∧(Can QbF a b→r.2=0):=by
 have hpl:=h.pl
 have ha1:=ha.1
 have hb1:=hb.1
 have hmin:min2 (a.length:Int) (b.length:Int)=(n.Places.length:Int):=by unfold min2;split<;>omega
 unfold Qeu
 rw [hmin]
 refine T0 (T5 (by simp only [QE,QD];omega)) fun _ _=>?_
 refine T0 (Qg.up n.Places.length (fun st=>st.1) (fun st=>st.2.length=n.Places.length∧∀(j:Nat) x y,(j:Int)<st.1→a[j]? = some x→b[j]? = some y→∃z,st.2[j]? = some z∧QbF x y=some (z,0)) (Q:=fun q:Int⊕List Bag=>(∀x,q=.inl x→x≠0∧¬Can QbF a b)∧∀m,q=.inr m→m.length=n.Places.length∧QAJ QbF a b m) rfl ⟨by simp,fun j x y hj=>by omega⟩ (fun i st hi hn hJ=>?_)) (fun q hq=>?_)
 ·obtain⟨x,m⟩:=st
  replace hi:x=(i:Int):=hi
  obtain⟨hJ1,hJ2⟩:m.length=n.Places.length∧∀(j:Nat) u v,(j:Int)<x→a[j]? = some u→b[j]? = some v→∃z,m[j]? = some z∧QbF u v=some (z,0):=hJ
  show Qg (Qc3 a b x m) _
  unfold Qc3
  rw [hmin]
  refine T1 (fun hc=>?_) (fun hc=>T2 (Qn ⟨fun x e=>(by cases e),fun m' e=>(by cases e;exact⟨hJ1,fun j u v hu hv=>hJ2 j u v (by
   simp only [Q1,Qr3]at hc
   have:=(QU.1 hu).1
   omega) hu hv⟩)⟩))
  simp only [QD,Qr3]at hc
  have i1:i<a.length:=by omega
  have i2:i<b.length:=by omega
  rw [hi,Q4,Ql6 i1,Ql,Q4,Ql6 i2,Ql]
  have hu2:=ha.2 _ (Qay i1)
  have hv2:=hb.2 _ (Qay i2)
  have key:∃s,QbF a[i] b[i]=some s:=by
   rcases Qkn a[i] b[i] (by omega)with⟨_,e⟩|⟨_,_,_,e⟩|⟨_,_,r,e,h1,_,h2⟩
   ·exact⟨_,e⟩
   ·exact⟨_,e⟩
   exact⟨_,e⟩
  obtain⟨s,es⟩:=key
  rw [es,Ql]
  refine T0 (T4 (by omega) (by omega)) fun _ _=>?_
  refine T1 (fun hc5=>T2 (Qn ⟨fun x e=>(by cases e;exact⟨by simpa using hc5,fun hcan=>by
   obtain⟨z,hz⟩:=hcan i _ _ (Ql6 i1) (Ql6 i2)
   rw [es]at hz
   cases hz
   simp at hc5⟩),fun m' e=>(by cases e)⟩)) fun hc5=>?_
  simp only [bne_eq_false_iff_eq]at hc5
  refine T2 (QF ⟨by omega,Qz (by omega) (by unfold maxLen;omega:n.Places.length≤maxLen),by simpa using hJ1,fun j u v hj hu hv=>?_⟩)
  have hj:(j:Int)<w64 ((i:Int)+1):=hj
  rw [Qz (show i<n.Places.length by omega) (by unfold maxLen;omega)]at hj
  show ∃z,(m.set (i:Int).toNat s.1)[j]? = some z∧_
  by_cases cj:j=i
  ·subst cj
   rw [Ql6 i1]at hu;rw [Ql6 i2]at hv
   cases hu;cases hv
   refine⟨s.1,by rw [show((j:Int)).toNat=j from QaK j];exact Qqh (by omega),?_⟩
   rw [es,←hc5]
  obtain⟨z,h1,h2⟩:=hJ2 j u v (by omega) hu hv
  exact⟨z,by rw [QoH (by simp;omega)];exact h1,h2⟩
 rcases q with q | q
 ·have:=hq.1 q rfl
  exact T2 ⟨fun h=>absurd h this.1,fun h=>absurd h this.2⟩
 exact T2 ⟨fun _=>hq.2 q rfl,fun _=>rfl⟩
theorem QAK {n:Qj}{m t:List Bag}{o:Qm}(h:Qg7 n m o=some (t,0)):QcG n m o=some 0∧∃need,Qkf n o=some (need,0)∧Qfh m need=some (t,0):=by
 unfold Qg7 at h
 obtain⟨x,hx,h⟩:=Qb h
 rcases Qt h with⟨c,h⟩|⟨c,h⟩
 ·simp only [Option.some.injEq,Prod.mk.injEq]at h
  rw [h.2]at c;cases c
 simp only [bne_eq_false_iff_eq]at c
 subst c
 obtain⟨y,hy,h⟩:=Qb h
 obtain⟨y1,y2⟩:=y
 rcases Qt h with⟨c,h⟩|⟨c,h⟩
 ·simp only [Option.some.injEq,Prod.mk.injEq]at h
  simp only [h.2]at c;cases c
 simp only [bne_eq_false_iff_eq]at c
 subst c
 obtain⟨z,hz,h⟩:=Qb h
 obtain⟨z1,z2⟩:=z
 simp only [Option.some.injEq,Prod.mk.injEq]at h
 obtain⟨rfl,rfl⟩:=h
 exact⟨hx,y1,hy,hz⟩
theorem QCW {n:Qj}{m x:List Bag}{o:Qm}(h:Qas n m o=some (x,0)):∃t,Qg7 n m o=some (t,0)∧Qg8 n t o=some (x,0):=by
 unfold Qas at h
 obtain⟨y,hy,h⟩:=Qb h
 obtain⟨y1,y2⟩:=y
 rcases Qt h with⟨c,h⟩|⟨c,h⟩
 ·simp only [Option.some.injEq,Prod.mk.injEq]at h
  simp only [h.2]at c;cases c
 simp only [bne_eq_false_iff_eq]at c
 subst c
 obtain⟨z,hz,h⟩:=Qb h
 obtain⟨z1,z2⟩:=z
 simp only [Option.some.injEq,Prod.mk.injEq]at h
 obtain⟨rfl,rfl⟩:=h
 exact⟨y1,hy,hz⟩
end Go.Proofs
noncomputable section
namespace Go.Proofs
open Go Go.RowKit Go.Vm
def Qoh : Bag→Int
 | []=>0
 | p::l=>p.2+Qoh l
theorem QBS {l m:Bag}(h:l.Perm m):Qoh l=Qoh m:=by
 induction h with
 | nil=>rfl
 | cons p _ ih=>simp only [Qoh,ih]
 | swap p q l=>simp only [Qoh];omega
 | trans _ _ ih1 ih2=>rw [ih1,ih2]
theorem Qzh (b:Bag)(hr:Rt b)(h:b.length≤maxLen):QnK b=some (w64 (Qoh b)):=by
 unfold QnK
 rw [QqY b h,QeT.2 hr]
 show QkD b=_
 unfold QkD
 have run:∀(l:Bag) (s:Int),Qdg (fun st (p:Int×Int)=>Qep st p.1 p.2) (w64 s) l=some (.inl (w64 (s+Qoh l))):=by
  intro l
  induction l with
  | nil=>intro s;simp [Qdg,Qoh]
  | cons p l ih=>
   intro s
   simp only [Qdg]
   rw [show Qep (w64 s) p.1 p.2=some (.inl (w64 (s+p.2)))from by unfold Qep;rw [Qxw]]
   simp only [Ql,Sum.elim_inl]
   rw [ih,Qoh,Int.add_assoc]
 have h0:QiR (fun st (p:Int×Int)=>Qep st p.1 p.2) (0:Int) b=some (.inl (w64 (Qoh b))):=by
  have e0:(0:Int)=w64 0:=by decide
  rw [e0]
  refine Qkt.2 ⟨fun l' hp=>?_,by rw [run];simp⟩
  rw [run,run,QBS hp]
 rw [h0];rfl
def tS (m:List Bag):Nat→Int
 | 0=>0
 | i+1=>tS m i+Qoh (m.getD i [])
theorem Qta {n:Qj}{c:Nat}{m:List Bag}(h:Q0 n)(hm:MOk n c m)(hc:c≤1000000):Qj5 m=some (w64 (tS m m.length)):=by
 have hpl:=h.pl
 have hm1:=hm.1
 unfold Qj5
 obtain⟨r,h1,h2⟩:=(Qg.up (body:=fun st=>QgK m st.1 st.2) m.length (fun st=>st.2) (fun st=>st.1=w64 (tS m st.2.toNat)) (Q:=fun q=>q=w64 (tS m m.length)) (s0:=((0:Int),(0:Int))) rfl (by show(0:Int)=w64 0;decide) (fun i st hi hn hJ=>by
  obtain⟨a,x⟩:=st
  replace hi:x=(i:Int):=hi
  replace hJ:a=w64 (tS m x.toNat):=hJ
  subst hi
  show Qg (QgK m a i) _
  unfold QgK
  refine T1 (fun hc=>?_) (fun hc=>T2 (Qn ?_))
  ·simp only [QD]at hc
   have i1:i<m.length:=by omega
   have hb:=hm.2 _ (Qay i1)
   rw [Q4,Ql6 i1,Ql,Qzh _ hb.1 (by have:=hb.2;unfold maxLen;omega),Ql]
   have hw:w64 ((i:Int)+1)=((i+1:Nat):Int):=Qz i1 (by unfold maxLen;omega)
   refine T2 (QF ⟨i1,hw,?_⟩)
   show w64 (a+w64 (Qoh m[i]))=w64 (tS m (w64 ((i:Int)+1)).toNat)
   rw [hw,hJ,Qxw,Int.add_comm,Qxw,QaK,QaK,tS,QER,Ql6 i1,Int.add_comm];rfl
  simp only [Q1]at hc
  rw [hJ,show(i:Int).toNat=m.length by omega]))
 rw [h1,h2];rfl
theorem QCX (n:Qj)(m:List Bag)(o:Qm)(c:Nat)(h:Q0 n)(hm:MOk n c m)(hl:Low n m)(hc:c≤900000)(ho:Qct n o):Qg (Qg8 n m o) fun r=>r.2=0→Low n r.1:=by
 have hpl:=h.pl
 have hm1:=hm.1
 unfold Qg8
 refine T0 (QzW n o h ho) fun y hy=>?_
 refine T1 (fun hc=>T2 fun h=>absurd h (by simpa using hc)) fun hc2=>?_
 obtain⟨⟨hy,hyl⟩,h1,h2⟩:=hy (by simpa using hc2)
 rw [Qko m (by omega) (fun b hb=>by have:=(hm.2 b hb).2;omega),Ql]
 refine T0 (T4 h1 h2) fun e he=>?_
 have hcl:=(h.tk e he).2.2.2
 refine T0 (Qg.up e.Cancel.length (fun st=>st.1) (fun st=>MOk n c st.2∧Low n st.2) (Q:=fun q=>MOk n c q∧Low n q) rfl ⟨hm,hl⟩ (fun i st hi hn hJ=>?_)) (fun q hq=>?_)
 ·obtain⟨x,l⟩:=st
  replace hi:x=(i:Int):=hi
  replace hJ:MOk n c l∧Low n l:=hJ
  show Qg (QfR e x l) _
  unfold QfR
  refine T1 (fun hc=>?_) (fun _=>T2 (Qn hJ))
  simp only [QD]at hc
  refine T0 (T4 (by omega) (by omega)) fun k _=>?_
  have next:∀l,MOk n c l∧Low n l→Qg (Qev x l) fun o=>(∀s',o=.inl s'→i<e.Cancel.length∧s'.1=((i+1:Nat):Int)∧MOk n c s'.2∧Low n s'.2)∧∀r:List (List (Int×Int)),o=.inr r→MOk n c r∧Low n r:=fun l hl=>by
   unfold Qev
   exact T2 (QF (ix:=fun st:Int×List (List (Int×Int))=>st.1) (J:=fun st:Int×List (List (Int×Int))=>MOk n c st.2∧Low n st.2) ⟨by omega,by subst hi;exact Qz (by omega) (by unfold maxLen;omega:e.Cancel.length≤maxLen),hl⟩)
  refine T1 (fun hc3=>?_) fun _=>next l hJ
  simp only [QE,QD]at hc3
  refine T0 (T4 hc3.1 hc3.2) fun _ _=>?_
  refine next _ ⟨⟨by simpa using hJ.1.1,fun b hb=>?_⟩,fun j b p hb hp k' hk=>?_⟩
  ·rcases QrX hb with rfl | hb
   ·exact⟨Rt.nil,by simp⟩
   exact hJ.1.2 b hb
  by_cases cj:k.toNat=j
  ·subst cj
   rw [Qqh (by omega)]at hb
   cases hb
   simp [QO,Qv]at hk
  rw [QoH cj]at hb
  exact hJ.2 j b p hb hp k' hk
 show Qg (QfS y q) _
 unfold QfS
 refine T0 (Qzg n q y.1 c 20 h hq.1 hy (by omega)) fun z hz=>T2 fun hz0=>?_
 obtain⟨zl,ze⟩:=hz.1 hz0
 intro j b p hb hp k hk
 have hj:j<n.Places.length:=(QU.1 hp).1
 obtain⟨u,hu,hu1,hu2⟩:=Qyv hq.1 hj
 obtain⟨v,hv,hv1,hv2⟩:=Qyv hy hj
 obtain⟨s,hs1,hs2⟩:=ze j u v hu hv
 have hs1:z.1[j]? = some s:=hs1
 have hb:z.1[j]? = some b:=hb
 rw [hb]at hs1;cases hs1
 have q:=(QEv (by omega) hs2).2.2.2 k
 by_cases c0:0<QO u k
 ·exact hq.2 j u p hu hp k c0
 exact hyl j v p hv hp k (by omega)
end Go.Proofs
noncomputable section
namespace Go.Proofs
open Go Go.RowKit Go.Vm
def szB (n:Qj)(t:QC):List Int:=t.Vars.map fun v=>(Qa3 n.Colours v.Colour).getD 0
def gdB (b:QV)(r:List Int):Bool:=decide (QaA b r=some 0)
def Qfq (n:Qj)(m:List (List (Int×Int)))(task:Int)(ins outs:List (List Int))(p:List Int):List Qm:=match QbR n m task p with
 | some (c,b)=>if c=0∧Qal b=some 0 then ins.flatMap fun e=>if Qai b e=some 0 then(outs.filter (gdB b)).map fun o=>Qm.mk task p e o else []else []
 | none=>[]
theorem ne0 (g:Int):(g != 0)=!decide (some g=some (0:Int)):=by by_cases h:g=0<;>simp [h]
theorem QBT (t:QC)(n:Qj)(l:List Int)(h:QW n)(hl:l.length=t.Vars.length)(hv:t.Vars.length≤16)(hd:∀d∈l,0≤d∧d≤1024):
  Qg (QJ (fun st=>QdS t n st.1 st.2) ((w64 ((l.length:Int)-1)),l)) fun q=>(-1≤q.1∧q.1<l.length∧q.2=l.take (q.1+1).toNat++List.replicate (l.length-(q.1+1).toNat) 0)∧(∀(j:Nat) x s,q.1<(j:Int)→l[j]? = some x→(szB n t)[j]? = some s→¬x+1<s)∧∀x s,0≤q.1→l[q.1.toNat]? = some x→(szB n t)[q.1.toNat]? = some s→x+1<s∧x<1024:=by
 have hw:w64 ((l.length:Int)-1)=(l.length:Int)-1:=QbY (by omega)
 refine Qg.up l.length (fun st=>(l.length:Int)-1-st.1) (fun st=>st.2=l.take (st.1+1).toNat++List.replicate (l.length-(st.1+1).toNat) 0∧∀(j:Nat) x s,st.1<(j:Int)→l[j]? = some x→(szB n t)[j]? = some s→¬x+1<s) (by rw [hw];omega) ⟨by
  rw [hw]
  show l=_
  rw [show((l.length:Int)-1+1).toNat=l.length by omega,QnD,Nat.sub_self];simp,fun j x s hj hx=>by
  replace hj:w64 ((l.length:Int)-1)<(j:Int):=hj
  have:=(QU.1 hx).1
  omega⟩ (fun i st hi hn hJ=>?_)
 obtain⟨a,d⟩:=st
 replace hi:(l.length:Int)-1-a=i:=hi
 obtain⟨hJ,hJ2⟩:d=l.take (a+1).toNat++List.replicate (l.length-(a+1).toNat) 0∧∀(j:Nat) x s,a<(j:Int)→l[j]? = some x→(szB n t)[j]? = some s→¬x+1<s:=hJ
 have hdl:d.length=l.length:=by rw [hJ];simp;omega
 show Qg (QdS t n a d) _
 unfold QdS
 refine T0 (P:=fun x=>(x=true→0≤a∧∀e s,l[a.toNat]? = some e→(szB n t)[a.toNat]? = some s→¬e+1<s)∧(x=false→∀e s,0≤a→l[a.toNat]? = some e→(szB n t)[a.toNat]? = some s→e+1<s∧e<1024)) ?_ fun x hx=>?_
 ·unfold QmK
  refine T1 (fun hc=>?_) fun hc=>T2 ⟨fun h=>(by cases h),fun _ e s he=>?_⟩
  ·simp only [QD]at hc
   have hlt:a.toNat<l.length:=by omega
   have hlv:a.toNat<t.Vars.length:=by omega
   have ed:idx d a=some l[a.toNat]:=by
    rw [Qk4 hc,hJ,Qbu (by simp;omega),QcK,if_pos (by omega),QB hlt]
   have ev:idx t.Vars a=some t.Vars[a.toNat]:=by rw [Qk4 hc,QB hlv]
   rw [ed,Ql,ev,Ql]
   refine T0 (Qc1 _ _ h.1).self fun z hz=>?_
   obtain⟨hze,hz⟩:=hz
   have hsz:(szB n t)[a.toNat]? = some z:=by
    unfold szB
    rw [Qau,QB hlv,QcB,hze];rfl
   have h2:=hd _ (Qay hlt)
   rw [QbY (by omega)]
   refine T2 ⟨fun ht=>⟨hc,fun e s he hs=>?_⟩,fun hf e s _ he hs=>?_⟩
   ·rw [QB hlt]at he
    cases he
    rw [hsz]at hs;cases hs
    simp only [QD]at ht
    omega
   rw [QB hlt]at he
   cases he
   rw [hsz]at hs;cases hs
   simp only [Q1]at hf
   omega
  simp only [Q1]at hc;omega
 unfold Qfz
 refine T1 (fun hc=>?_) fun hc=>?_
 ·obtain⟨ha,ha2⟩:=hx.1 hc
  refine T0 (T4 ha (by omega)) fun _ _=>?_
  have hw2:w64 (a-1)=a-1:=QbY (by omega)
  refine T2 (QF ⟨by omega,?_,?_,fun j x s hj hx hs=>?_⟩)
  ·show(l.length:Int)-1-w64 (a-1)=_
   rw [hw2];omega
  ·show d.set a.toNat 0=l.take (w64 (a-1)+1).toNat++List.replicate (l.length-(w64 (a-1)+1).toNat) 0
   rw [hw2,hJ,show(a+1).toNat=a.toNat+1 by omega,Qzf (by omega),show(a-1+1).toNat=a.toNat by omega]
   rw [show l.length-a.toNat=(l.length-(a.toNat+1))+1 by omega,List.replicate_succ]
  replace hj:w64 (a-1)<(j:Int):=hj
  rw [hw2]at hj
  by_cases c:a<(j:Int)
  ·exact hJ2 j x s c hx hs
  have:a.toNat=j:=by omega
  subst this
  exact ha2 x s hx hs
 exact T2 (Qn ⟨⟨by omega,by omega,hJ⟩,hJ2,hx.2 hc⟩)
theorem QzF (n:Qj)(m:List (List (Int×Int)))(b:QV)(l:List (List Int))(h:Q0 n)(hb:BOk n m b)(hl:Qm1 l):Qg (Qcx l b) fun r=>(r=-1∧∀row∈l,gdB b row=true)∨∃i:Nat,r=(i:Int)∧i<l.length∧(∀row∈l.take i,gdB b row=true)∧∀row,l[i]? = some row→gdB b row=false:=by
 have hl1:=hl.1
 unfold Qcx
 refine T0 (Qg.up l.length (fun st=>st) (fun st=>∀row∈l.take st.toNat,gdB b row=true) (Q:=fun q:Int⊕Unit=>(∀x,q=.inl x→∃i:Nat,x=(i:Int)∧i<l.length∧(∀row∈l.take i,gdB b row=true)∧∀row,l[i]? = some row→gdB b row=false)∧(q=.inr ()→∀row∈l,gdB b row=true)) rfl (fun row h=>by cases h) (fun i st hi hn hJ=>?_)) (fun q hq=>?_)
 ·replace hi:st=(i:Int):=hi
  subst hi
  replace hJ:∀row∈l.take (i:Int).toNat,gdB b row=true:=hJ
  rw [QaK]at hJ
  show Qg (Qb1 l b i) _
  unfold Qb1 QhQ
  refine T1 (fun hc=>?_) (fun hc=>T2 (Qn ⟨fun x h=>(by cases h),fun _=>?_⟩))
  ·simp only [QD]at hc
   have hlt:i<l.length:=by omega
   rw [Q4,QB hlt,Ql]
   have:=hl.2 _ (Qay hlt)
   refine T0 (P:=fun c:Bool=>c=!gdB b l[i]) ?_ fun c hcc=>?_
   ·refine T0 (QxD n m b l[i] h hb (by omega)).self fun g hg=>T2 ?_
    unfold gdB
    rw [hg.1];exact ne0 g
   subst hcc
   refine T1 (fun hc2=>T2 (Qn ⟨fun x e=>(by cases e;exact⟨i,rfl,hlt,hJ,fun row hr=>by rw [QB hlt]at hr;cases hr;simpa using hc2⟩),fun e=>by cases e⟩)) fun hc2=>?_
   have hw:w64 ((i:Int)+1)=((i+1:Nat):Int):=Qz hlt (by unfold maxLen;omega:l.length≤maxLen)
   refine T2 (QF ⟨hlt,hw,?_⟩)
   show ∀row∈l.take (w64 ((i:Int)+1)).toNat,gdB b row=true
   rw [hw,QaK,QgH,QB hlt]
   intro row hr
   rcases QbG.1 hr with hr | hr
   ·exact hJ row hr
   simp at hr;subst hr;simpa using hc2
  simp only [Q1]at hc
  rwa [QdH (by omega)]at hJ
 rcases q with q | q
 ·exact T2 (.inr (hq.1 q rfl))
 exact T2 (.inl ⟨rfl,hq.2 rfl⟩)
theorem QzG (n:Qj)(m:List (List (Int×Int)))(b:QV)(l:List (List Int))(h:Q0 n)(hb:BOk n m b)(hl:Qm1 l):Qg (Qco l b) fun r=>r=l.filter (gdB b):=by
 have hl1:=hl.1
 unfold Qco
 refine T0 (QzF n m b l h hb hl) fun x hx=>?_
 rcases hx with⟨rfl,hx⟩|⟨i0,rfl,hi0,hx1,hx2⟩
 ·exact T1 (fun _=>T2 (List.filter_eq_self.2 hx).symm) fun hc=>by simp at hc
 refine T1 (fun hc=>by simp at hc) fun _=>?_
 have hw:w64 ((i0:Int)+1)=(i0:Int)+1:=QbY (by omega)
 have hbad:=hx2 _ (QB hi0)
 refine T0 (Qg.up (l.length-(i0+1)) (fun st=>st.2.1-((i0:Int)+1)) (fun st=>0≤st.1∧st.1<st.2.1∧st.2.2.length=l.length∧st.2.2.take st.1.toNat=(l.take st.2.1.toNat).filter (gdB b)∧st.2.2.drop st.2.1.toNat=l.drop st.2.1.toNat) (Q:=fun q:Int×List (List Int)=>0≤q.1∧q.1≤(l.length:Int)∧q.2.length=l.length∧q.2.take q.1.toNat=l.filter (gdB b)) (by show w64 ((i0:Int)+1)-((i0:Int)+1)=0;omega) ⟨by show(0:Int)≤i0;omega,by show(i0:Int)<w64 ((i0:Int)+1);omega,rfl,?_,rfl⟩ (fun i st hi hn hJ=>?_)) (fun q hq=>?_)
 ·show l.take (i0:Int).toNat=(l.take (w64 ((i0:Int)+1)).toNat).filter (gdB b)
  rw [hw,QaK,show((i0:Int)+1).toNat=i0+1 by omega,QgH,QB hi0,QoG,List.filter_eq_self.2 hx1]
  show l.take i0=l.take i0++List.filter (gdB b) [l[i0]]
  rw [Qig,hbad]
  exact(Qqg _).symm
 ·obtain⟨a,j,l2⟩:=st
  replace hi:j-((i0:Int)+1)=i:=hi
  obtain⟨j1,j2,j3,j4,j5⟩:0≤a∧a<j∧l2.length=l.length∧l2.take a.toNat=(l.take j.toNat).filter (gdB b)∧l2.drop j.toNat=l.drop j.toNat:=hJ
  show Qg (QbU b a j l2) _
  unfold QbU QhQ
  refine T1 (fun hc=>?_) (fun hc=>T2 (Qn ⟨j1,?_,j3,?_⟩))
  ·simp only [QD]at hc
   have hj:j.toNat<l2.length:=by omega
   have hj':j.toNat<l.length:=by omega
   have ej:l2[j.toNat]=l[j.toNat]:=by
    have:=congrArg List.head? j5
    rw [Qnx hj,Qnx hj']at this
    exact Option.some.inj this
   have ej5:l2.drop (j.toNat+1)=l.drop (j.toNat+1):=by
    have:=congrArg List.tail j5
    simpa using this
   rw [Qub (by omega) (by omega),Ql]
   have:=hl.2 _ (Qay hj')
   have hw2:w64 (j+1)=j+1:=QbY (by omega)
   have hw3:w64 (a+1)=a+1:=QbY (by omega)
   have tk:l.take (j+1).toNat=l.take j.toNat++[l[j.toNat]]:=by
    rw [show(j+1).toNat=j.toNat+1 by omega,QgH,QB hj'];rfl
   refine T0 (P:=fun c:Bool=>c=!gdB b l[j.toNat]) ?_ fun c hcc=>?_
   ·rw [ej]
    refine T0 (QxD n m b l[j.toNat] h hb (by omega)).self fun g hg=>T2 ?_
    unfold gdB
    rw [hg.1];exact ne0 g
   subst hcc
   refine T1 (fun hc2=>?_) fun hc2=>?_
   ·have hc2:gdB b l[j.toNat]=true:=by simpa using hc2
    refine T0 (T4 (by omega) (by omega)) fun _ _=>?_
    refine T2 (QF ⟨by omega,by show w64 (j+1)-((i0:Int)+1)=_;omega,by show 0≤w64 (a+1);omega,by show w64 (a+1)<w64 (j+1);omega,by simpa using j3,?_,?_⟩)
    ·show(l2.set a.toNat l2[j.toNat]).take (w64 (a+1)).toNat=(l.take (w64 (j+1)).toNat).filter (gdB b)
     rw [hw2,hw3,tk,QoG,←j4,show(a+1).toNat=a.toNat+1 by omega,QgH,Qqh (by omega),List.take_set_of_le (QbT _),ej]
     simp [hc2]
    show(l2.set a.toNat l2[j.toNat]).drop (w64 (j+1)).toNat=l.drop (w64 (j+1)).toNat
    rw [hw2,show(j+1).toNat=j.toNat+1 by omega,List.drop_set_of_lt (by omega),ej5]
   have hc2:gdB b l[j.toNat]=false:=by simpa using hc2
   refine T2 (QF ⟨by omega,by show w64 (j+1)-((i0:Int)+1)=_;omega,j1,by show a<w64 (j+1);omega,j3,?_,?_⟩)
   ·show l2.take a.toNat=(l.take (w64 (j+1)).toNat).filter (gdB b)
    rw [hw2,tk,QoG,←j4]
    simp [hc2]
   show l2.drop (w64 (j+1)).toNat=l.drop (w64 (j+1)).toNat
   rw [hw2,show(j+1).toNat=j.toNat+1 by omega,ej5]
  ·simp only [Q1]at hc
   show a≤_
   omega
  simp only [Q1]at hc
  show l2.take a.toNat=_
  rw [j4,QdH (by omega)]
 obtain⟨q1,q2⟩:=q
 obtain⟨h1,h2,h3,h4⟩:0≤q1∧q1≤l.length∧q2.length=l.length∧q2.take q1.toNat=l.filter (gdB b):=hq
 show Qg (QbV q1 q2) _
 unfold QbV
 refine T0 (T5 (by simp only [QE,QD];omega)) fun _ _=>?_
 refine T0 (T5 (by simp only [QE,QD,QcL,Qfs,Qr3];omega)) fun _ _=>?_
 refine T2 ?_
 rw [Qux (by simp;omega),List.take_take,Nat.min_self,h4]
end Go.Proofs
noncomputable section
namespace Go.Proofs
open Go Go.RowKit Go.Vm
theorem QAL (n:Qj)(m:List (List (Int×Int)))(task most:Int)(l5 l8:List Qm)(ins outs:List (List Int))(p:List Int)(h:Q0 n)(hm:QP (QP fun _=>True) m)(hmost:most≤4294967296∨l8.length+(Qfq n m task ins outs p).length≤4294967296)
  (hi:Qm1 ins) (ho:Qm1 outs) (hp:p.length≤16) (ha:(l8.length:Int)<most):
  Qg (Qe4 n m task most l5 ins outs l8 p) fun r=>r=adv most.toNat l8 (Qfq n m task ins outs p):=by
 have hil:=hi.1
 have hol:=ho.1
 unfold Qe4
 refine T0 (QzS n m task p h).self fun x hx=>?_
 obtain⟨c,b⟩:=x
 obtain⟨hxe,hx⟩:=hx
 refine T0 (P:=fun y=>(y=true→Qfq n m task ins outs p=[])∧(y=false→BOk n m b∧c=0∧Qal b=some 0)) ?_ fun y hy=>?_
 ·unfold Qka
  refine T1 (fun hc=>T2 ⟨fun _=>?_,fun h=>by cases h⟩) fun hc=>?_
  ·unfold Qfq
   rw [hxe]
   simp only
   rw [if_neg fun e=>by simp [e.1]at hc]
  have hc:c=0:=by simpa using hc
  have hb:=hx hc
  refine T0 (Qx2 n m b h hb).self fun g hg=>T2 ⟨fun hg2=>?_,fun hg2=>⟨hb,hc,?_⟩⟩
  ·unfold Qfq
   rw [hxe]
   simp only
   rw [if_neg fun e=>by rw [hg.1]at e;simp at e;simp [e.2]at hg2]
  rw [hg.1];simpa using hg2
 unfold QdR
 refine T1 (fun hc=>T2 ?_) fun hc=>?_
 ·rw [hy.1 hc,QrP (by omega)]
 obtain⟨hb,hc0,hgd⟩:=hy.2 hc
 refine T0 (P:=fun z=>z=outs) (by unfold Qdx;exact T0 (T5 (by simp;omega)) fun _ _=>T2 rfl) fun x19 h19=>?_
 rw [h19]
 refine T0 (QzG n m b outs h hb ho) fun x20 h20=>?_
 have h20l:x20.length≤16:=by rw [h20];exact Qbm (Qnz _ _) ho.1
 have h20e:∀r∈x20,r.length≤16:=fun r hr=>by rw [h20]at hr;exact ho.2 r (Qjk.1 hr).1
 have hR:Qfq n m task ins outs p=ins.flatMap fun e=>if Qai b e=some 0 then x20.map (fun o=>Qm.mk task p e o)else []:=by
  unfold Qfq
  rw [hxe]
  simp only
  rw [if_pos ⟨hc0,hgd⟩,h20]
 rw [hR]at hmost ⊢
 generalize hg:(fun e=>if Qai b e=some 0 then x20.map (fun o=>Qm.mk task p e o)else [])=g at hmost ⊢
 refine T0 (Qg.up ins.length (fun st=>st.1) (fun st=>(st.2.length:Int)<most∧adv most.toNat st.2 ((ins.drop st.1.toNat).flatMap g)=adv most.toNat l8 (ins.flatMap g)∧st.2.length+((ins.drop st.1.toNat).flatMap g).length=l8.length+(ins.flatMap g).length) (Q:=fun q=>q=adv most.toNat l8 (ins.flatMap g)) rfl ⟨ha,rfl,rfl⟩ (fun i st hi2 hn hJ=>?_)) (fun q hq=>?_)
 ·obtain⟨j,l⟩:=st
  replace hi2:j=(i:Int):=hi2
  subst hi2
  obtain⟨hJ1,hJ2,hJ3⟩:(l.length:Int)<most∧adv most.toNat l ((ins.drop (i:Int).toNat).flatMap g)=adv most.toNat l8 (ins.flatMap g)∧l.length+((ins.drop (i:Int).toNat).flatMap g).length=l8.length+(ins.flatMap g).length:=hJ
  rw [QaK]at hJ2 hJ3
  show Qg (QdQ ins (c,b) x20 p task most i l) _
  unfold QdQ
  refine T1 (fun hc=>?_) (fun hc=>T2 (Qn ?_))
  ·simp only [QD]at hc
   have hlt:i<ins.length:=by omega
   have hel:=hi.2 _ (Qay hlt)
   rw [Q4,QB hlt,Ql]
   rw [Qnx hlt,QlD,QzN]at hJ2
   rw [Qnx hlt,QlD,QcL]at hJ3
   have next:∀l',(l'.length:Int)<most→adv most.toNat l' ((ins.drop (i+1)).flatMap g)=adv most.toNat l8 (ins.flatMap g)→l'.length+((ins.drop (i+1)).flatMap g).length=l8.length+(ins.flatMap g).length→Qg (QcF i l') fun o=>(∀s',o=.inl s'→i<ins.length∧s'.1=((i+1:Nat):Int)∧(s'.2.length:Int)<most∧adv most.toNat s'.2 ((ins.drop s'.1.toNat).flatMap g)=adv most.toNat l8 (ins.flatMap g)∧s'.2.length+((ins.drop s'.1.toNat).flatMap g).length=l8.length+(ins.flatMap g).length)∧∀r:List Qm⊕List Qm,o=.inr r→r=adv most.toNat l8 (ins.flatMap g):=fun l' hl1 hl2 hl3=>by
    have hw:w64 ((i:Int)+1)=((i+1:Nat):Int):=Qz hlt (by unfold maxLen;omega:ins.length≤maxLen)
    unfold QcF
    exact T2 (QF (ix:=fun st:Int×List Qm=>st.1) (J:=fun st:Int×List Qm=>(st.2.length:Int)<most∧adv most.toNat st.2 ((ins.drop st.1.toNat).flatMap g)=adv most.toNat l8 (ins.flatMap g)∧st.2.length+((ins.drop st.1.toNat).flatMap g).length=l8.length+(ins.flatMap g).length) ⟨hlt,hw,hl1,by
     show adv most.toNat l' ((ins.drop (w64 ((i:Int)+1)).toNat).flatMap g)=_∧l'.length+((ins.drop (w64 ((i:Int)+1)).toNat).flatMap g).length=_
     rw [hw,QaK];exact⟨hl2,hl3⟩⟩)
   refine T0 (QzT n m b ins[i] h hb hm (by omega)).self fun z hz=>?_
   refine T1 (fun hc2=>?_) fun hc2=>?_
   ·have:g ins[i]=[]:=by
     rw [←hg];simp only
     rw [if_neg fun e=>by rw [hz.1]at e;simp at e;simp [e]at hc2]
    rw [this,QrP (by omega)]at hJ2
    rw [this]at hJ3
    exact next l hJ1 hJ2 (by simpa using hJ3)
   have hge:g ins[i]=x20.map (fun o=>Qm.mk task p ins[i] o):=by
    rw [←hg];simp only
    rw [if_pos (by rw [hz.1];simpa using hc2)]
   rw [hge]at hJ2 hJ3
   rw [QgG]at hJ3
   refine T0 (Qg.up x20.length (fun st=>st.1) (fun st=>(st.2.length:Int)<most∧adv most.toNat st.2 ((x20.drop st.1.toNat).map fun o=>Qm.mk task p ins[i] o)=adv most.toNat l (x20.map fun o=>Qm.mk task p ins[i] o)∧(st.2.length:Int)=l.length+st.1) (Q:=fun q=>q=adv most.toNat l (x20.map fun o=>Qm.mk task p ins[i] o)) rfl ⟨hJ1,rfl,by simp⟩ (fun i2 st hi3 hn2 hK=>?_)) (fun q hq=>?_)
   ·obtain⟨j2,l2⟩:=st
    replace hi3:j2=(i2:Int):=hi3
    subst hi3
    obtain⟨hK1,hK2,hK3⟩:(l2.length:Int)<most∧adv most.toNat l2 ((x20.drop (i2:Int).toNat).map fun o=>Qm.mk task p ins[i] o)=adv most.toNat l (x20.map fun o=>Qm.mk task p ins[i] o)∧(l2.length:Int)=l.length+(i2:Int):=hK
    rw [QaK]at hK2
    show Qg (QdP x20 p ins[i] task most i2 l2) _
    unfold QdP
    refine T1 (fun hc=>?_) (fun hc=>T2 (Qn ?_))
    ·simp only [QD]at hc
     have hlt2:i2<x20.length:=by omega
     have hel2:=h20e _ (Qay hlt2)
     rw [Q4,QB hlt2,Ql]
     rw [Qnx hlt2,QeA,QCP]at hK2
     rw [Qn1 p (by omega),Ql,Qn1 ins[i] (by omega),Ql,Qn1 x20[i2] (by omega),Ql]
     refine T0 (T5 (by simp;omega)) fun _ _=>?_
     refine T1 (fun hc2=>T2 (Qn ?_)) fun hc2=>?_
     ·simp only [beq_iff_eq,QcL,Qjj]at hc2
      rw [QCO (by simp;omega)]at hK2
      exact hK2
     simp only [beq_eq_false_iff_ne,QcL,Qjj]at hc2
     have hw:w64 ((i2:Int)+1)=((i2+1:Nat):Int):=Qz hlt2 (by unfold maxLen;omega:x20.length≤maxLen)
     refine T2 (QF ⟨hlt2,hw,by show((l2++[_]).length:Int)<most;simp;omega,?_,by show((l2++[_]).length:Int)=l.length+w64 ((i2:Int)+1);rw [hw];simp;omega⟩)
     show adv most.toNat (l2++[_]) ((x20.drop (w64 ((i2:Int)+1)).toNat).map _)=_
     rw [hw,QaK];exact hK2
    simp only [Q1]at hc
    rw [Qwa (by omega),List.map_nil,QrP (by omega)]at hK2
    exact hK2
   rw [←hq]at hJ2
   rcases q with q | q
   ·exact T2 (Qn hJ2)
   exact next q (by have:=QBJ hq.symm;omega) hJ2 (by
    have e:=congrArg List.length (QzO hq.symm)
    rw [QcL,QgG]at e
    omega)
  simp only [Q1]at hc
  rw [Qwa (by omega),List.flatMap_nil,QrP (by omega)]at hJ2
  exact hJ2
 rcases q with q | q
 ·exact T2 hq
 exact T2 hq
theorem Qym (n:Qj)(m:List (List (Int×Int)))(task most:Int)(l5:List Qm)(ins outs:List (List Int))(t:QC)(h:Q0 n)(hm:QP (QP fun _=>True) m)(hmost:most≤4294967296∨((binds (szB n t)).flatMap (Qfq n m task ins outs)).length≤4294967296)(h1:1≤most)
  (hi:Qm1 ins) (ho:Qm1 outs) (ht:t∈n.Tasks):Qg (Qho n m task most l5 ins outs [] t n) fun r=>∀a,r=.inl a∨r=.inr a→a=((binds (szB n t)).flatMap (Qfq n m task ins outs)).take most.toNat:=by
 have hv:=(h.tk t ht).1
 have hsz:(szB n t).length=t.Vars.length:=by simp [szB]
 generalize hrl:Qfq n m task ins outs=rl at hmost ⊢
 have fin:∀q:List Qm⊕List Qm,q.swap=adv most.toNat [] ((binds (szB n t)).flatMap rl)→∀a,q=.inl a∨q=.inr a→a=((binds (szB n t)).flatMap rl).take most.toNat:=fun q hq a ha=>by
  rw [←QCQ (by omega:0<most.toNat),←hq]
  rcases ha with rfl | rfl<;>rfl
 unfold Qho
 refine T0 (T5 (by simp only [QE,QD];omega)) fun _ _=>?_
 refine T0 (QBP (fun st=>(QdX (szB n t) st.1).length) (fun st=>st.1.length=t.Vars.length∧(∀d∈st.1,0≤d∧d≤1024)∧(st.2.length:Int)<most∧adv most.toNat st.2 ((st.1::QdX (szB n t) st.1).flatMap rl)=adv most.toNat [] ((binds (szB n t)).flatMap rl)∧st.2.length+((st.1::QdX (szB n t) st.1).flatMap rl).length=((binds (szB n t)).flatMap rl).length) (Q:=fun q:List Qm⊕List Qm=>q.swap=adv most.toNat [] ((binds (szB n t)).flatMap rl))
  ⟨by simp,fun d hd=>by have:=Qr1 hd;omega,by simp;omega,?_⟩ (fun st hJ=>?_)) (fun q hq=>?_)
 ·show adv most.toNat [] ((List.replicate (t.Vars.length:Int).toNat 0::QdX (szB n t) (List.replicate (t.Vars.length:Int).toNat 0)).flatMap rl)=_∧0+((List.replicate (t.Vars.length:Int).toNat 0::QdX (szB n t) (List.replicate (t.Vars.length:Int).toNat 0)).flatMap rl).length=_
  rw [Qvt (szB n t),Qkj,hsz,QaK,QoL]
  exact⟨rfl,rfl⟩
 ·obtain⟨d,l⟩:=st
  obtain⟨j1,j2,j3,j4,j5⟩:d.length=t.Vars.length∧(∀d'∈d,0≤d'∧d'≤1024)∧(l.length:Int)<most∧adv most.toNat l ((d::QdX (szB n t) d).flatMap rl)=adv most.toNat [] ((binds (szB n t)).flatMap rl)∧l.length+((d::QdX (szB n t) d).flatMap rl).length=((binds (szB n t)).flatMap rl).length:=hJ
  rw [QlD,QcL]at j5
  show Qg (QfC n m task most l5 ins outs t n d l) _
  unfold QfC
  rw [Qn1 d (by omega),Ql]
  refine T0 (QAL n m task most l5 l ins outs d h hm (by rw [hrl];omega) hi ho (by omega) j3) fun r hr=>?_
  rw [hrl]at hr
  rw [QlD,QzN,←hr]at j4
  rcases r with r | r
  ·exact T2 ⟨fun s' e=>(by cases e),fun q e=>(by cases e;exact j4)⟩
  have hacc:=QBJ hr.symm
  have hlen:=congrArg List.length (QzO hr.symm)
  rw [QcL]at hlen
  replace j4:adv most.toNat r ((QdX (szB n t) d).flatMap rl)=adv most.toNat [] ((binds (szB n t)).flatMap rl):=j4
  show Qg (QfB t n d r) _
  unfold QfB
  refine T0 (QBT t n d h.k j1 hv j2) fun q hq=>?_
  obtain⟨a,d2⟩:=q
  obtain⟨⟨q1,q2,q3⟩,q4,q5⟩:(-1≤a∧a<d.length∧d2=d.take (a+1).toNat++List.replicate (d.length-(a+1).toNat) 0)∧(∀(j:Nat) x s,a<(j:Int)→d[j]? = some x→(szB n t)[j]? = some s→¬x+1<s)∧∀x s,0≤a→d[a.toNat]? = some x→(szB n t)[a.toNat]? = some s→x+1<s∧x<1024:=hq
  have hnx:=QAB (szB n t) d
  show Qg (QfA r a d2) _
  unfold QfA
  refine T1 (fun hc=>T2 ⟨fun s' e=>(by cases e),fun q e=>(by
   cases e
   simp only [QD]at hc
   rw [Qx0 (szB n t) d fun j x s=>q4 j x s (by omega)]at hnx
   simp only at hnx
   rw [hnx,List.flatMap_nil,QrP hacc]at j4
   exact j4)⟩) fun hc=>?_
  simp only [Q1]at hc
  have hlt:a.toNat<d.length:=by omega
  have hls:a.toNat<(szB n t).length:=by omega
  have ed:idx d2 a=some d[a.toNat]:=by
   rw [Qk4 (by omega),q3,Qbu (by simp;omega),QcK,if_pos (by omega),QB hlt]
  rw [ed,Ql,Ql]
  have h9:=q5 _ _ (by omega) (QB hlt) (QB hls)
  have h10:=j2 _ (Qay hlt)
  rw [QbY (by omega)]
  have e3:d2.set a.toNat (d[a.toNat]+1)=d.take a.toNat++(d[a.toNat]+1)::List.replicate (d.length-(a.toNat+1)) 0:=by
   rw [q3,show(a+1).toNat=a.toNat+1 by omega,Qzf hlt]
  rw [e3]
  have hd3:∀x∈d.take a.toNat++(d[a.toNat]+1)::List.replicate (d.length-(a.toNat+1)) 0,0≤x∧x≤1024:=fun x hx=>by
   rcases QbG.1 hx with hx | hx
   ·exact j2 x (Qii hx)
   rcases QaP.1 hx with rfl | hx
   ·omega
   have:=Qr1 hx;omega
  have hlen2:(d.take a.toNat++(d[a.toNat]+1)::List.replicate (d.length-(a.toNat+1)) 0).length=t.Vars.length:=by simp;omega
  rw [QDH a.toNat (szB n t) d _ _ (by omega) (QB hlt) (QB hls) h9.1 fun j y z hj=>q4 j y z (by omega)]at hnx
  simp only at hnx
  rw [hnx]at j4
  exact T2 ⟨fun s' e=>(by
   cases e
   refine⟨?_,hlen2,hd3,by show(r.length:Int)<most;omega,j4,by show r.length+(List.flatMap rl (_::_)).length=_;rw [←hnx];omega⟩
   show(QdX (szB n t) (d.take a.toNat++(d[a.toNat]+1)::List.replicate (d.length-(a.toNat+1)) 0)).length<(QdX (szB n t) d).length
   rw [hnx,Qez];omega),fun q e=>(by cases e)⟩
 rcases q with q | q
 ·exact T2 fun a ha=>fin _ hq a (by rcases ha with ha | ha<;>cases ha;exact .inl rfl)
 exact T2 fun a ha=>fin _ hq a (by rcases ha with ha | ha<;>cases ha;exact .inr rfl)
def chC (kind arcs:Int):List (List Int):=(Qcg kind arcs).getD []
def Qbf (n:Qj)(m:List (List (Int×Int)))(task:Int):List Qm:=match idx n.Tasks task with
 | some t=>(binds (szB n t)).flatMap (Qfq n m task (chC t.Join t.Ins.length) (chC t.Split t.Outs.length))
 | none=>[]
theorem QAM (n:Qj)(m:List (List (Int×Int)))(task most:Int)(h:Q0 n)(hm:QP (QP fun _=>True) m)(hmost:most≤4294967296∨(Qbf n m task).length≤4294967296):QhS n m task most=some ((Qbf n m task).take most.toNat):=by
 have key:Qg (QhS n m task most) fun r=>r=(Qbf n m task).take most.toNat:=by
  unfold QhS
  refine T1 (fun hc=>T2 ?_) fun hc=>?_
  ·simp only [Qdt,QD]at hc
   rcases hc with hc | hc | hc
   ·unfold Qbf idx
    rw [if_neg (by omega)];simp
   ·unfold Qbf idx
    rw [if_pos (by omega),Qwb (by omega)];simp
   rw [show most.toNat=0 by omega,List.take_zero]
  simp only [Qc8,Q1]at hc
  refine T0 (T4 (by omega) (by omega)).self fun e he=>?_
  refine T0 (QqZ _ _).self fun x hx=>?_
  refine T0 (QqZ _ _).self fun y hy=>?_
  refine T0 (P:=fun z=>z=(n,e)) (T2 rfl) fun z hz=>?_
  subst hz
  have hml:Qbf n m task=(binds (szB n e)).flatMap (Qfq n m task x y):=by
   unfold Qbf chC
   rw [he.1]
   simp only
   rw [hx.1,hy.1];rfl
  refine T0 (Qym n m task most [] x y e h hm (by rw [←hml];exact hmost) (by omega) hx.2 hy.2 he.2) fun r hr=>?_
  rw [hml]
  rcases r with r | r
  ·exact T2 (hr r (.inl rfl))
  exact T2 (hr r (.inr rfl))
 obtain⟨r,h1,h2⟩:=key
 rw [h1,h2]
def Qck (n:Qj)(m:List (List (Int×Int))):List Qm:=(List.range n.Tasks.length).flatMap fun (k:Nat)=>Qbf n m (k:Int)
theorem QCY {α:Type}(f:Nat→List α)(N:Nat):∀k,k≤N→∃r,(List.range N).flatMap f=(List.range k).flatMap f++r:=by
 induction N with
 | zero=>intro k hk;exact⟨[],by rw [show k=0 by omega];rfl⟩
 | succ N ih=>
  intro k hk
  by_cases c:k=N+1
  ·subst c;exact⟨[],by simp⟩
  obtain⟨r,hr⟩:=ih k (by omega)
  exact⟨r++f N,by rw [List.range_succ,Quw,List.flatMap_singleton,hr,Qdu]⟩
theorem Qzi (n:Qj)(m:List (List (Int×Int)))(most:Int)(h:Q0 n)(hm:QP (QP fun _=>True) m)(h0:0≤most)(h1:most≤9223372036854775807)(hmost:most≤4294967296∨(Qck n m).length≤4294967296):QkH n m most=some ((Qck n m).take most.toNat):=by
 have key:Qg (QkH n m most) fun r=>r=(Qck n m).take most.toNat:=by
  unfold QkH
  refine T0 (Qg.up n.Tasks.length (fun st=>st.1) (fun st=>st.2=((List.range st.1.toNat).flatMap fun (k:Nat)=>Qbf n m (k:Int)).take most.toNat) (Q:=fun q=>q=(Qck n m).take most.toNat) rfl (by simp) (fun i st hi hn hJ=>?_)) (fun q hq=>T2 hq)
  obtain⟨x,l⟩:=st
  replace hi:x=(i:Int):=hi
  subst hi
  replace hJ:l=((List.range (i:Int).toNat).flatMap fun (k:Nat)=>Qbf n m (k:Int)).take most.toNat:=hJ
  rw [QaK]at hJ
  show Qg (QlH n m most i l) _
  unfold QlH
  refine T1 (fun hc=>?_) (fun hc=>T2 (Qn ?_))
  ·simp only [QD]at hc
   have hll:l.length≤most.toNat:=by rw [hJ];exact List.length_take_le _ _
   have hw:w64 (most-(l.length:Int))=most-(l.length:Int):=QbY (by omega)
   obtain⟨rest,hrest⟩:=QCY (fun (k:Nat)=>Qbf n m (k:Int)) n.Tasks.length (i+1) (by omega)
   have hle:((List.range i).flatMap fun (k:Nat)=>Qbf n m (k:Int)).length+(Qbf n m (i:Int)).length≤(Qck n m).length:=by
    unfold Qck
    rw [hrest,List.range_succ,Quw,List.flatMap_singleton];simp
   have hl2:l.length≤((List.range i).flatMap fun (k:Nat)=>Qbf n m (k:Int)).length:=by rw [hJ];exact List.length_take_le' _ _
   rw [hw,QAM n m i _ h hm (by omega),Ql]
   have e:l++(Qbf n m (i:Int)).take (most-(l.length:Int)).toNat=((List.range (i+1)).flatMap fun (k:Nat)=>Qbf n m (k:Int)).take most.toNat:=by
    rw [List.range_succ,Quw,List.flatMap_singleton,List.take_append,←hJ]
    congr 1
    by_cases c:((List.range i).flatMap fun (k:Nat)=>Qbf n m (k:Int)).length≤most.toNat
    ·have:l.length=((List.range i).flatMap fun (k:Nat)=>Qbf n m (k:Int)).length:=by rw [hJ,Qfs];omega
     congr 1;omega
    have:l.length=most.toNat:=by rw [hJ,Qfs];omega
    rw [show(most-(l.length:Int)).toNat=0 by omega,show most.toNat-((List.range i).flatMap fun (k:Nat)=>Qbf n m (k:Int)).length=0 by omega]
   rw [e]
   refine T0 (T5 (by
    have:=List.length_take_le (most-(l.length:Int)).toNat (Qbf n m (i:Int))
    have:=List.length_take_le' (most-(l.length:Int)).toNat (Qbf n m (i:Int))
    simp only [QD];omega)) fun _ _=>?_
   have hw2:w64 ((i:Int)+1)=((i+1:Nat):Int):=Qz (by omega:i<n.Tasks.length) h.k.2.2.1.1
   refine T2 (QF ⟨by omega,hw2,?_⟩)
   show _=((List.range (w64 ((i:Int)+1)).toNat).flatMap fun (k:Nat)=>Qbf n m (k:Int)).take most.toNat
   rw [hw2,QaK]
  simp only [Q1]at hc
  rw [hJ,show i=n.Tasks.length by omega];rfl
 obtain⟨r,h1,h2⟩:=key
 rw [h1,h2]
end Go.Proofs
noncomputable section
namespace Go.Proofs
open Go Go.RowKit Go.Vm
theorem QBU {n:Qj}{m:List (List (Int×Int))}{task:Int}{ins outs:List (List Int)}{p:List Int}{o:Qm}:
  o∈Qfq n m task ins outs p↔o.Task=task∧o.Vars=p∧o.Ins∈ins∧o.Outs∈outs∧∃b,QbR n m task p=some (0,b)∧Qal b=some 0∧Qai b o.Ins=some 0∧QaA b o.Outs=some 0:=by
 unfold Qfq
 cases hb:QbR n m task p with
 | none=>simp
 | some x=>
  obtain⟨c,b⟩:=x
  simp only
  by_cases hc:c=0∧Qal b=some 0
  ·rw [if_pos hc]
   obtain⟨rfl,hg⟩:=hc
   simp only [List.mem_flatMap]
   constructor
   ·rintro ⟨e,he,h⟩
    by_cases ht:Qai b e=some 0
    ·rw [if_pos ht]at h
     obtain⟨r,hr,rfl⟩:=QaQ.1 h
     obtain⟨h1,h2⟩:=Qjk.1 hr
     exact⟨rfl,rfl,he,h1,b,rfl,hg,ht,Q9 h2⟩
    rw [if_neg ht]at h;cases h
   rintro ⟨h1,h2,h3,h4,b',h5,h6,h7,h8⟩
   cases h5
   refine⟨o.Ins,h3,?_⟩
   rw [if_pos h7]
   refine QaQ.2 ⟨o.Outs,Qjk.2 ⟨h4,QbW h8⟩,?_⟩
   cases o
   simp only at h1 h2
   subst h1;subst h2;rfl
  rw [if_neg hc]
  constructor
  ·intro h;cases h
  rintro ⟨_,_,_,_,b',h5,h6,_⟩
  cases h5
  exact absurd ⟨rfl,h6⟩ hc
theorem Qmf {n:Qj}{m:List (List (Int×Int))}{task:Int}{o:Qm}:
  o∈Qbf n m task↔o.Task=task∧∃e,idx n.Tasks task=some e∧inB (szB n e) o.Vars∧o.Ins∈chC e.Join e.Ins.length∧o.Outs∈chC e.Split e.Outs.length∧∃b,QbR n m task o.Vars=some (0,b)∧Qal b=some 0∧Qai b o.Ins=some 0∧QaA b o.Outs=some 0:=by
 unfold Qbf
 cases he:idx n.Tasks task with
 | none=>simp
 | some e=>
  simp only [List.mem_flatMap,QBI,QBU,Option.some.injEq,exists_eq_left']
  constructor
  ·rintro ⟨p,h1,h2,rfl,h3,h4,h5⟩
   exact⟨h2,h1,h3,h4,h5⟩
  rintro ⟨h1,h2,h3,h4,h5⟩
  exact⟨o.Vars,h2,h1,rfl,h3,h4,h5⟩
theorem QDO {n:Qj}{m:List (List (Int×Int))}{o:Qm}:o∈Qck n m↔o∈Qbf n m o.Task:=by
 unfold Qck
 simp only [List.mem_flatMap,Qks]
 constructor
 ·rintro ⟨k,hk,h⟩
  have:=(Qmf.1 h).1
  rwa [this]
 intro h
 obtain⟨_,e,he,_⟩:=Qmf.1 h
 have h0:0≤o.Task:=by
  unfold idx at he
  split at he
  ·assumption
  cases he
 rw [Qk4 h0]at he
 have:=(QU.1 he).1
 exact⟨o.Task.toNat,this,by rwa [show((o.Task.toNat:Nat):Int)=o.Task by omega]⟩
theorem QAN (a b:List Int)(ha:a.length≤maxLen):Qbs a b=some (decide (a=b)):=by
 have key:Qg (Qbs a b) fun r=>r=decide (a=b):=by
  unfold Qbs
  refine T1 (fun hc=>T2 ?_) fun hc=>?_
  ·rw [Qei fun e=>by subst e;simp at hc]
  simp only [bne_eq_false_iff_eq]at hc
  have hc:a.length=b.length:=by omega
  refine T0 (Qg.up a.length (fun st=>st) (fun st=>a.take st.toNat=b.take st.toNat) (Q:=fun q:Unit⊕Unit=>(q=.inl ()→a≠b)∧(q=.inr ()→a=b)) rfl rfl (fun i st hi hn hJ=>?_)) (fun q hq=>?_)
  ·replace hi:st=(i:Int):=hi
   subst hi
   replace hJ:a.take (i:Int).toNat=b.take (i:Int).toNat:=hJ
   rw [QaK]at hJ
   show Qg (Qbw a b i) _
   unfold Qbw
   refine T1 (fun hc2=>?_) (fun hc2=>T2 (Qn ⟨fun e=>(by cases e),fun _=>?_⟩))
   ·simp only [QD]at hc2
    have i1:i<a.length:=by omega
    have i2:i<b.length:=by omega
    rw [Q4,QB i1,Ql,Q4,QB i2,Ql]
    refine T1 (fun hc3=>T2 (Qn ⟨fun _ e=>?_,fun e=>by cases e⟩)) fun hc3=>?_
    ·subst e;simp at hc3
    have hw:w64 ((i:Int)+1)=((i+1:Nat):Int):=Qz i1 ha
    refine T2 (QF ⟨i1,hw,?_⟩)
    show a.take (w64 ((i:Int)+1)).toNat=b.take (w64 ((i:Int)+1)).toNat
    rw [hw,QaK,QgH,QgH,hJ,QB i1,QB i2]
    simp only [bne_eq_false_iff_eq]at hc3
    rw [hc3]
   simp only [Q1]at hc2
   rwa [QdH (by omega),QdH (by omega)]at hJ
  rcases q with q | q
  ·exact T2 (Qei (hq.1 rfl)).symm
  exact T2 (QbW (hq.2 rfl)).symm
 obtain⟨r,h1,h2⟩:=key
 rw [h1,h2]
theorem Quq (kind arcs:Int):Qcg kind arcs=some (chC kind arcs)∧Qm1 (chC kind arcs):=by
 obtain⟨r,h1,h2⟩:=QqZ kind arcs
 unfold chC
 rw [h1]
 exact⟨rfl,h2⟩
theorem QnP (kind arcs:Int)(row:List Int):Qd4 kind arcs row=some (decide (row∈chC kind arcs)):=by
 have key:Qg (Qd4 kind arcs row) fun r=>r=decide (row∈chC kind arcs):=by
  unfold Qd4 Qcz Qcy
  obtain⟨e,hx⟩:=Quq kind arcs
  rw [e,Ql]
  generalize chC kind arcs=x at hx
  have hl:=hx.1
  have key:Qg ((QJ (fun st=>Qao x row st) 0)) fun q:Int⊕Unit=>(∀k,q=.inl k→0≤k∧row∈x)∧(q=.inr ()→row ∉ x):=by
   refine Qg.up x.length (fun st=>st) (fun st=>row ∉ x.take st.toNat) rfl (by simp) (fun i st hi hn hJ=>?_)
   replace hi:st=(i:Int):=hi
   subst hi
   replace hJ:row ∉ x.take (i:Int).toNat:=hJ
   rw [QaK]at hJ
   show Qg (Qao x row i) _
   unfold Qao Qjv
   refine T1 (fun hc=>?_) (fun hc=>T2 (Qn ⟨fun k e=>(by cases e),fun _=>?_⟩))
   ·simp only [QD]at hc
    have i1:i<x.length:=by omega
    have:=hx.2 _ (Qay i1)
    rw [Q4,QB i1,Ql,QAN _ _ (by unfold maxLen;omega)]
    simp only [Ql]
    refine T1 (fun hc2=>T2 (Qn ⟨fun k e=>(by cases e;exact⟨by omega,by rw [←Q9 hc2];exact Qay i1⟩),fun e=>by cases e⟩)) fun hc2=>?_
    have hw:w64 ((i:Int)+1)=((i+1:Nat):Int):=Qz i1 (by unfold maxLen;omega:x.length≤maxLen)
    refine T2 (QF ⟨i1,hw,?_⟩)
    show row ∉ x.take (w64 ((i:Int)+1)).toNat
    rw [hw,QaK,QgH,QB i1]
    simp only [Option.toList_some,QbG,QnC,not_or]
    exact⟨hJ,fun e=>of_decide_eq_false hc2 e.symm⟩
   simp only [Q1]at hc
   rwa [QdH (by omega)]at hJ
  obtain⟨q,hq1,hq2⟩:=key
  rw [hq1]
  rcases q with q | q
  ·have:=hq2.1 q rfl
   refine T2 ?_
   rw [QbW this.2]
   exact QbW this.1
  refine T2 ?_
  rw [Qei (hq2.2 rfl)];rfl
 obtain⟨r,h1,h2⟩:=key
 rw [h1,h2]
theorem QBV (l:List QH)(k m:Int)(hl:QP Qci l):Qg (Qe2 l k m) fun r=>r.2=true→0≤m∧∃z,Qa3 l k=some z∧m<z:=by
 unfold Qe2 Qa3
 refine T0 (QiZ l k hl).self fun x hx=>?_
 obtain⟨hxe,hx⟩:=hx
 refine T0 (P:=fun r=>r=false→x.1=true∧0≤m∧∃h:0≤k∧k<(x.2.sizes.length:Int),m<x.2.sizes[k.toNat]'(by omega)) ?_ fun r hr=>?_
 ·unfold Qj7
  refine T1 (fun _=>T2 fun h=>by cases h) fun hc=>?_
  have hc:x.1=true:=by simpa using hc
  have h:=hx.2 hc
  have hk:k.toNat<x.2.sizes.length:=by omega
  have ei:idx x.2.sizes k=some x.2.sizes[k.toNat]:=Qub h.1.1 h.1.2
  refine T0 (P:=fun y=>y=true→0≤m∧m<x.2.sizes[k.toNat]) ?_ fun y hy=>T2 fun hf=>?_
  ·unfold Qdj
   refine T0 (P:=fun y=>y=true→0≤m∧m<x.2.sizes[k.toNat]) ?_ fun y hy=>T2 hy
   unfold Qgf
   refine T1 (fun hc2=>?_) fun _=>T2 fun h=>by cases h
   rw [h.2.1,ei,Ql]
   exact T2 fun h=>⟨by simpa using hc2,by simpa using h⟩
  have:=hy (by simpa using hf)
  exact⟨hc,this.1,h.1,this.2⟩
 unfold QeP
 refine T1 (fun _=>T2 fun h=>by cases h) fun hc=>?_
 obtain⟨h1,h2,h3,h4⟩:=hr hc
 have h:=hx.2 h1
 have fin:0≤m∧∃z,((QfN l k).bind fun x5=>bif (!x5.1)then some 0 else(idx x5.2.sizes k).bind fun e7=>some e7)=some z∧m<z:=⟨h2,x.2.sizes[k.toNat]'(by omega),by
  rw [hxe,Ql,h1]
  simp only [Qhb,cond_false]
  rw [Qub h3.1 h3.2];rfl,h4⟩
 refine T0 (Qh7 x.2 (by omega)) fun _ _=>?_
 refine T1 (fun _=>?_) fun _=>T2 fun _=>fin
 exact T0 (Qh7 x.2 (by omega)) fun _ _=>T2 fun _=>fin
theorem QEw {l d:List Int}(h:d.length=l.length)(hk:∀(j:Nat) x s,d[j]? = some x→l[j]? = some s→0≤x∧x<s):inB l d:=by
 induction l generalizing d with
 | nil=>cases d with
  | nil=>trivial
  | cons x d=>simp at h
 | cons s r ih=>cases d with
  | nil=>simp at h
  | cons x d=>
   have:=hk 0 x s rfl rfl
   exact⟨this.1,.inr this.2,ih (by simpa using h) fun j y z h1 h2=>hk (j+1) y z (by simpa using h1) (by simpa using h2)⟩
theorem QEx (n:Qj)(task:Int)(vars:List Int)(h:Q0 n):Qg (Qfy n task vars) fun r=>r.2=0→∃e,idx n.Tasks task=some e∧e∈n.Tasks∧inB (szB n e) vars∧∀s∈szB n e,0<s:=by
 unfold Qfy
 refine T1 (fun _=>T2 fun h=>by cases h) fun hc=>?_
 simp only [Qc8,Q1]at hc
 refine T0 (T4 (by omega) (by omega)).self fun e he=>?_
 have hv:=(h.tk e he.2).1
 have ke:=h.k.2.2.1.2 e he.2
 refine T1 (fun _=>T2 fun h=>by cases h) fun hl=>?_
 simp only [bne_eq_false_iff_eq]at hl
 have hl:vars.length=e.Vars.length:=by omega
 refine T0 (T5 (by simp only [QE,QD];omega)) fun _ _=>?_
 refine T0 (Qg.up e.Vars.length (fun st=>st.1) (fun st=>st.2.length=e.Vars.length∧∀(j:Nat) x s,(j:Int)<st.1→vars[j]? = some x→(szB n e)[j]? = some s→0≤x∧x<s) (Q:=fun q:Unit⊕List Int=>∀out,q=.inr out→inB (szB n e) vars∧∀s∈szB n e,0<s) rfl ⟨by simp,fun j x s hj=>by simp at hj;omega⟩ (fun i st hi hn hJ=>?_)) (fun q hq=>?_)
 ·obtain⟨x,l⟩:=st
  replace hi:x=(i:Int):=hi
  subst hi
  obtain⟨hJ,hJ2⟩:l.length=e.Vars.length∧∀(j:Nat) x s,(j:Int)<(i:Int)→vars[j]? = some x→(szB n e)[j]? = some s→0≤x∧x<s:=hJ
  show Qg (QgC e vars n i l) _
  unfold QgC
  refine T1 (fun hc=>?_) (fun hc=>T2 (Qn fun out _=>?_))
  ·simp only [QD]at hc
   have i1:i<e.Vars.length:=by omega
   have i2:i<vars.length:=by omega
   rw [Q4,QB i1,Ql,Q4,QB i2,Ql]
   refine T0 (QBV _ _ _ h.k.1) fun c hc3=>?_
   refine T1 (fun _=>T2 (Qn fun out e=>by cases e)) fun hc4=>?_
   obtain⟨h1,z,h2,h3⟩:=hc3 (by simpa using hc4)
   refine T0 (T4 (by omega) (by omega)) fun d _=>?_
   have hw:w64 ((i:Int)+1)=((i+1:Nat):Int):=Qz i1 (by unfold maxLen;omega:e.Vars.length≤maxLen)
   refine T2 (QF ⟨i1,hw,by simpa using hJ,fun j x s hj hx hs=>?_⟩)
   replace hj:(j:Int)<w64 ((i:Int)+1):=hj
   rw [hw]at hj
   by_cases cj:j=i
   ·subst cj
    rw [QB i2]at hx
    cases hx
    unfold szB at hs
    rw [Qau,QB i1,QcB,h2]at hs
    cases hs
    exact⟨h1,h3⟩
   exact hJ2 j x s (by omega) hx hs
  simp only [Q1]at hc
  have hb:∀(j:Nat) x s,vars[j]? = some x→(szB n e)[j]? = some s→0≤x∧x<s:=fun j x s hx hs=>hJ2 j x s (by have:=(QU.1 hx).1;omega) hx hs
  refine⟨QEw (by simp [szB,hl]) hb,fun s hs=>?_⟩
  obtain⟨j,hj,rfl⟩:=Qmk.1 hs
  have hj2:j<vars.length:=by simp [szB]at hj;omega
  have:=hb j _ _ (QB hj2) (QB hj)
  omega
 rcases q with q | q
 ·exact T2 fun h=>by cases h
 exact T2 fun _=>⟨e,he.1,he.2,hq q rfl⟩
theorem Qo1 {n:Qj}{m:List (List (Int×Int))}{task:Int}{vars:List Int}{b:QV}(h:Q0 n)(e:QbR n m task vars=some (0,b)):idx n.Tasks task=some b.task∧b.task∈n.Tasks∧b.net=n∧b.m=m∧(inB (szB n b.task) vars∧∀s∈szB n b.task,0<s)∧Qfy n task vars=some (b.env,0):=by
 unfold QbR at e
 obtain⟨x,hx,e⟩:=Qb e
 obtain⟨x1,x2⟩:=x
 rcases Qt e with⟨c,e⟩|⟨c,e⟩
 ·simp only [Option.some.injEq,Prod.mk.injEq]at e
  simp only [e.1]at c;cases c
 simp only [bne_eq_false_iff_eq]at c
 subst c
 obtain⟨t,ht,h1,h2⟩:=Qh8 (QEx n task vars h) hx rfl
 rw [ht,Ql]at e
 simp only [Option.some.injEq,Prod.mk.injEq,true_and]at e
 subst e
 exact⟨ht,h1,rfl,rfl,h2,hx⟩
theorem QBW {n:Qj}{m:List (List (Int×Int))}{o:Qm}(h:Q0 n)(hm:QP (QP fun _=>True) m)(ho:Qct n o):QcG n m o=some 0↔o∈Qbf n m o.Task:=by
 rw [Qmf]
 constructor
 ·intro e
  unfold QcG at e
  obtain⟨x,hx,e⟩:=Qb e
  obtain⟨c,b⟩:=x
  have k3:∀g,QcW (c,b) o g=some 0→g=0∧o.Ins∈chC b.task.Join b.task.Ins.length∧o.Outs∈chC b.task.Split b.task.Outs.length∧Qai b o.Ins=some 0∧QaA b o.Outs=some 0:=fun g e=>by
   unfold QcW at e
   rcases Qt e with⟨c2,e⟩|⟨c2,e⟩
   ·simp only [Option.some.injEq]at e;rw [e]at c2;cases c2
   simp only [bne_eq_false_iff_eq]at c2
   obtain⟨y,hy,e⟩:=Qb e
   unfold Qjw at hy
   rw [QnP,Ql]at hy
   unfold Qe5 at e
   rcases Qt e with⟨_,e⟩|⟨c3,e⟩
   ·cases e
   subst c3
   rcases Qt hy with⟨_,hy⟩|⟨c4,hy⟩
   ·cases hy
   rw [QnP,Ql]at hy
   simp only [Qji,QD]at c4
   simp only [Option.some.injEq,Qji,QD]at hy
   obtain⟨z,hz,e⟩:=Qb e
   rcases Qt e with⟨c5,e⟩|⟨c5,e⟩
   ·simp only [Option.some.injEq]at e;rw [e]at c5;cases c5
   simp only [bne_eq_false_iff_eq]at c5
   subst c5
   obtain⟨w,hw,e⟩:=Qb e
   simp only [Option.some.injEq]at e
   subst e
   exact⟨c2,c4,hy,hz,hw⟩
  have fin:c=0→Qal b=some 0→(o.Ins∈chC b.task.Join b.task.Ins.length∧o.Outs∈chC b.task.Split b.task.Outs.length∧Qai b o.Ins=some 0∧QaA b o.Outs=some 0)→o.Task=o.Task∧∃e,idx n.Tasks o.Task=some e∧inB (szB n e) o.Vars∧o.Ins∈chC e.Join e.Ins.length∧o.Outs∈chC e.Split e.Outs.length∧∃b,QbR n m o.Task o.Vars=some (0,b)∧Qal b=some 0∧Qai b o.Ins=some 0∧QaA b o.Outs=some 0:=fun hc hg q=>by
   subst hc
   obtain⟨h1,_,_,_,h2,_⟩:=Qo1 h hx
   exact⟨rfl,b.task,h1,h2.1,q.1,q.2.1,b,hx,hg,q.2.2.1,q.2.2.2⟩
  rcases Qt e with⟨c1,e⟩|⟨c1,e⟩
  ·simp only [beq_iff_eq]at c1
   obtain⟨g,hg,e⟩:=Qb e
   obtain⟨rfl,q⟩:=k3 g e
   exact fin c1 hg q
  have e1:=(k3 _ e).1
  simp only [beq_eq_false_iff_ne]at c1
  exact absurd e1 c1
 rintro ⟨_,e,he,h1,h2,h3,b,hb,hg,ht,hv⟩
 obtain⟨k1,k2,_⟩:=Qo1 h hb
 rw [he]at k1;cases k1
 unfold QcG
 rw [hb,Ql]
 simp only [show((0:Int)==0)=true from rfl,cond_true,hg,Ql]
 unfold QcW
 simp only [show((0:Int) != 0)=false from rfl,cond_false]
 unfold Qjw
 rw [QnP,Ql,QbW h2]
 simp only [Qhb,cond_false]
 rw [QnP,Ql,QbW h3,Ql]
 unfold Qe5
 simp only [Qhb,cond_false,ht,Ql,show((0:Int) != 0)=false from rfl,hv]
end Go.Proofs
noncomputable section
namespace Go.Proofs
open Go Go.RowKit Go.Vm
theorem QCZ {n:Qj}{m:List (List (Int×Int))}{task:Int}{o:Qm}(h:Q0 n)(hm:QP (QP fun _=>True) m)(ho:o∈Qbf n m task):Qct n o:=by
 obtain⟨_,e,he,h1,h2,h3,_⟩:=Qmf.1 ho
 have hem:e∈n.Tasks:=by
  unfold idx at he
  split at he
  ·exact Qan he
  cases he
 have hv:=(h.tk e hem).1
 have hl:=QDJ h1
 have h4:=(Quq e.Join e.Ins.length).2.2 _ h2
 have h5:=(Quq e.Split e.Outs.length).2.2 _ h3
 have:(szB n e).length=e.Vars.length:=by simp [szB]
 exact⟨by omega,by omega,by omega⟩
theorem Qp3 {n:Qj}{m:List (List (Int×Int))}{o:Qm}(h:Q0 n)(hm:QP (QP fun _=>True) m)(ho:o∈Qck n m):Qct n o:=QCZ h hm (QDO.1 ho)
end Go.Proofs
noncomputable section
namespace Go.Proofs
open Go Go.RowKit Go.Vm
def Qgp : List Int→Nat
 | []=>1
 | s::r=>(1+(s-1).toNat)*Qgp r
theorem Qp4 {α β:Type}{f:α→List β}{c:Nat}:∀{l:List α},(∀x∈l,(f x).length≤c)→(l.flatMap f).length≤l.length*c:=by
 intro l
 induction l with
 | nil=>intro _;simp
 | cons x l ih=>
  intro h
  have h1:=ih fun y hy=>h y (QaC _ hy)
  have h2:=h x Qaz
  rw [QlD,QcL,Qez,Nat.succ_mul]
  omega
theorem QDP (x:Int)(k:Nat):(upL x k).length=k:=by
 induction k generalizing x with
 | zero=>rfl
 | succ k ih=>simp [upL,ih]
theorem QBX (l:List Int):(binds l).length≤Qgp l:=by
 induction l with
 | nil=>exact QbT _
 | cons s r ih=>
  rw [binds,Qgp]
  have:=Qp4 (f:=fun x=>(binds r).map (x::·)) (c:=Qgp r) (l:=0::upL 1 (s-1).toNat) fun x _=>by simpa using ih
  rw [Qez,QDP]at this
  rwa [Nat.add_comm 1]
theorem QBY (l:List Int)(s:Int):Qgp (l++[s])=Qgp l*(1+(s-1).toNat):=by
 induction l with
 | nil=>simp [Qgp]
 | cons x l ih=>simp only [List.cons_append,Qgp,ih,Nat.mul_assoc]
theorem QBZ (l:List Int):0<Qgp l:=by
 induction l with
 | nil=>decide
 | cons s r ih=>exact Nat.mul_pos (by omega) ih
theorem QB0 (n:Qj)(m:List (List (Int×Int)))(task:Int){ins outs:List (List Int)}(p:List Int)(hi:ins.length≤16)(ho:outs.length≤16):(Qfq n m task ins outs p).length≤256:=by
 unfold Qfq
 cases QbR n m task p with
 | none=>simp
 | some x=>
  obtain⟨c,b⟩:=x
  simp only
  split
  ·refine Qbm (Qp4 (c:=16) fun e _=>?_) (Qcw 16 hi)
   split
   ·rw [QgG];exact Qbm (Qnz _ _) ho
   simp
  simp
def Bd (n:Qj):Prop:=∀t∈n.Tasks,(0:Int)∈szB n t∨Qgp (szB n t)≤1024
theorem QB1 {n:Qj}(m:List (List (Int×Int)))(task:Int)(h:Q0 n)(hb:Bd n):(Qbf n m task).length≤262144:=by
 by_cases e0:Qbf n m task=[]
 ·rw [e0];simp
 obtain⟨o,ho⟩:=List.exists_mem_of_ne_nil _ e0
 obtain⟨_,e,he,_,_,_,b,hbd,_⟩:=Qmf.1 ho
 obtain⟨k1,k2,_,_,k3,_⟩:=Qo1 h hbd
 rw [he]at k1;cases k1
 unfold Qbf
 rw [he]
 simp only
 refine Qbm (Qp4 (c:=256) fun p _=>QB0 n m task p (Quq _ _).2.1 (Quq _ _).2.1) ?_
 have h1:=QBX (szB n b.task)
 rcases hb _ k2 with h2 | h2
 ·have:=k3.2 0 h2;omega
 omega
theorem QzX {n:Qj}(m:List (List (Int×Int)))(h:Q0 n)(hb:Bd n):(Qck n m).length≤4194304:=by
 unfold Qck
 refine Qbm (Qp4 (c:=262144) fun k _=>QB1 m _ h hb) ?_
 have:=h.tl
 rw [Qqi];omega
theorem QAO (n:Qj)(k:Int)(t:QC)(b:Int)(h:Q0 n)(ht:idx n.Tasks k=some t)(htm:t∈n.Tasks)(hb:Qde n k=some b)(hle:b≤1024):(0:Int)∈szB n t∨Qgp (szB n t)≤1024:=by
 have hv:=(h.tk t htm).1
 have hsz:(szB n t).length=t.Vars.length:=by simp [szB]
 have ha:Qbt n.Tasks k=some true:=by
  unfold Qbt
  unfold idx at ht
  split at ht
  ·have:=(QU.1 ht).1
   rw [QbW (by omega),QbW (by omega)];rfl
  cases ht
 have key:Qg (Qde n k) fun b=>b≤1024→(0:Int)∈szB n t∨Qgp (szB n t)≤1024:=by
  unfold Qde
  rw [ha,Ql]
  simp only [Qhb,cond_false]
  rw [ht,Ql]
  refine T0 (Qg.up t.Vars.length (fun st=>st.2) (fun st=>st.1=min ((Qgp ((szB n t).take st.2.toNat):Nat):Int) 1025) (Q:=fun q:Unit⊕Int=>(q=.inl ()→(0:Int)∈szB n t)∧∀o,q=.inr o→o=min ((Qgp (szB n t):Nat):Int) 1025) rfl (by show(1:Int)=min ((1:Nat):Int) 1025;omega) (fun i st hi hn hJ=>?_)) (fun q hq=>?_)
  ·obtain⟨out,x⟩:=st
   replace hi:x=(i:Int):=hi
   subst hi
   replace hJ:out=min ((Qgp ((szB n t).take (i:Int).toNat):Nat):Int) 1025:=hJ
   rw [QaK]at hJ
   show Qg (Qex t n out i) _
   unfold Qex
   refine T1 (fun hc=>?_) (fun hc=>T2 (Qn ⟨fun e=>(by cases e),fun o e=>?_⟩))
   ·simp only [QD]at hc
    have i1:i<t.Vars.length:=by omega
    rw [Q4,QB i1,Ql]
    refine T0 (Qc1 _ _ h.k.1).self fun z hz=>?_
    obtain⟨hze,hz⟩:=hz
    have hs:(szB n t)[i]? = some z:=by
     unfold szB
     rw [Qau,QB i1,QcB,hze];rfl
    refine T1 (fun hc2=>T2 (Qn ⟨fun _=>?_,fun o e=>by cases e⟩)) fun hc2=>?_
    ·simp only [beq_iff_eq]at hc2
     subst hc2
     exact Qan hs
    simp only [beq_eq_false_iff_ne]at hc2
    have hw:w64 ((i:Int)+1)=((i+1:Nat):Int):=Qz i1 (by unfold maxLen;omega:t.Vars.length≤maxLen)
    refine T2 (QF ⟨i1,hw,?_⟩)
    show min2 (w64 (out*z)) 1025=min ((Qgp ((szB n t).take (w64 ((i:Int)+1)).toNat):Nat):Int) 1025
    rw [hw,QaK,QgH,hs]
    show _=min ((Qgp ((szB n t).take i++[z]):Nat):Int) 1025
    rw [QBY]
    have hp:=QBZ ((szB n t).take i)
    generalize Qgp ((szB n t).take i)=P at hJ hp ⊢
    obtain⟨Z,rfl⟩:∃Z:Nat,z=(Z:Int):=⟨z.toNat,by omega⟩
    rw [show 1+((Z:Int)-1).toNat=Z by omega]
    have hZ:0<Z:=by omega
    have h1:(P:Int)*(Z:Int)=((P*Z:Nat):Int):=by simp
    by_cases c:P≤1025
    ·have:out=(P:Int):=by rw [hJ];omega
     rw [this,h1]
     have h2:P*Z≤1025*1024:=Nat.mul_le_mul c (by omega)
     rw [QbY (by omega)]
     unfold min2;split<;>omega
    have:out=1025:=by rw [hJ];omega
    have h2:P≤P*Z:=Nat.le_mul_of_pos_right P hZ
    rw [this,QbY (by omega)]
    unfold min2;split<;>omega
   cases e
   simp only [Q1]at hc
   rw [hJ,QdH (by omega)]
  rcases q with q | q
  ·exact T2 fun _=>.inl (hq.1 rfl)
  refine T2 fun hl=>.inr ?_
  have:=hq.2 q rfl
  omega
 exact Qh8 key hb hle
theorem QAP (n1:Qj)(k2:Int)(h:Qca n1 k2=some 0):∃b,Qde n1 k2=some b∧b≤1024:=by
 unfold Qca at h
 obtain⟨x5,_,h⟩:=Qb h
 rcases Qt h with⟨_,h⟩|⟨_,h⟩
 ·cases h
 obtain⟨x7,_,h⟩:=Qb h
 rcases Qt h with⟨c,h⟩|⟨_,h⟩
 ·simp only [Option.some.injEq]at h;rw [h]at c;cases c
 obtain⟨e9,he9,h⟩:=Qb h
 obtain⟨e10,he10,h⟩:=Qb h
 obtain⟨_,_,h⟩:=Qb h
 obtain⟨_,_,h⟩:=Qb h
 obtain⟨_,_,h⟩:=Qb h
 obtain⟨_,_,h⟩:=Qb h
 obtain⟨x15,hx,h⟩:=Qb h
 have bad:∀a b:Int,0<a→x15=(a,b)→False:=fun a b ha e=>by
  subst e
  simp only at h
  rcases Qt h with⟨c,h⟩|⟨_,h⟩
  ·simp only [beq_iff_eq]at c;omega
  simp only [Option.some.injEq]at h;omega
 unfold Qey at hx
 obtain⟨x20,_,hx⟩:=Qb hx
 rcases Qt hx with⟨_,hx⟩|⟨_,hx⟩
 ·exact(bad _ _ (by decide) (Option.some.inj hx).symm).elim
 obtain⟨x22,_,hx⟩:=Qb hx
 rcases Qt hx with⟨_,hx⟩|⟨_,hx⟩
 ·exact(bad _ _ (by decide) (Option.some.inj hx).symm).elim
 obtain⟨x24,h24,hx⟩:=Qb hx
 rcases Qt hx with⟨_,hx⟩|⟨c,hx⟩
 ·exact(bad _ _ (by decide) (Option.some.inj hx).symm).elim
 obtain⟨x26,h26,hx⟩:=Qb hx
 rcases Qt hx with⟨c2,hx⟩|⟨_,hx⟩
 ·have e:=(Option.some.inj hx).symm
  subst e
  simp only at h
  rcases Qt h with⟨_,h⟩|⟨c3,_⟩
  ·simp only [Option.some.injEq]at h
   unfold QgV at h26
   obtain⟨y,_,h26⟩:=Qb h26
   simp only [Option.some.injEq]at h26
   rw [←h26]at c2 h
   simp only at h
   subst h
   cases c2
  cases c3
 obtain⟨x28,h28,hx⟩:=Qb hx
 rcases Qt hx with⟨_,hx⟩|⟨c4,hx⟩
 ·exact(bad _ _ (by decide) (Option.some.inj hx).symm).elim
 unfold Qh1 at h28
 obtain⟨b,hb,h28⟩:=Qb h28
 simp only [Option.some.injEq]at h28
 rw [←h28]at c4
 exact⟨b,hb,by simpa using c4⟩
theorem QEy (n1:Qj)(h:Q0 n1){p:QeZ}(hn:QfP n1=some (0,p)):Bd n1:=by
 unfold QfP at hn
 obtain⟨x6,_,hn⟩:=Qb hn
 rcases Qt hn with⟨c,hn⟩|⟨_,hn⟩
 ·simp only [Option.some.injEq,Prod.mk.injEq]at hn;rw [hn.1]at c;cases c
 obtain⟨x8,_,hn⟩:=Qb hn
 rcases Qt hn with⟨c,hn⟩|⟨_,hn⟩
 ·simp only [Option.some.injEq,Prod.mk.injEq]at hn;rw [hn.1]at c;cases c
 obtain⟨x10,_,hn⟩:=Qb hn
 rcases Qt hn with⟨c,hn⟩|⟨_,hn⟩
 ·simp only [Option.some.injEq,Prod.mk.injEq]at hn;rw [hn.1]at c;cases c
 obtain⟨x12,h12,hn⟩:=Qb hn
 rcases Qt hn with⟨c,hn⟩|⟨c,hn⟩
 ·simp only [Option.some.injEq,Prod.mk.injEq]at hn;rw [hn.1]at c;cases c
 simp only [bne_eq_false_iff_eq]at c
 obtain⟨r,hr,hr2⟩:=Qvu n1.Tasks n1 h.k h.k.2.2.1
 rw [h12]at hr;cases hr
 intro t ht
 have htm:=ht
 obtain⟨j,hj,rfl⟩:=Qmk.1 ht
 obtain⟨b,hb,hb2⟩:=QAP n1 j (hr2 c j hj)
 exact QAO n1 j _ b h (by rw [Q4,QB hj]) htm hb hb2
theorem QDQ (n1:Qj)(m:List (List (Int×Int)))(h:Q0 n1)(hf:Qh2 n1 m=some true):Bd n1:=by
 unfold Qh2 at hf
 obtain⟨x5,_,hf⟩:=Qb hf
 obtain⟨x6,_,hf⟩:=Qb hf
 rcases Qt hf with⟨_,hf⟩|⟨_,hf⟩
 ·cases hf
 obtain⟨x11,h11,hf⟩:=Qb hf
 obtain⟨x12,h12,hf⟩:=Qb hf
 unfold QgZ at hf
 rcases Qt hf with⟨_,hf⟩|⟨c,_⟩
 ·cases hf
 subst c
 unfold QmT at h12
 rcases Qt h12 with⟨_,h12⟩|⟨c,_⟩
 ·cases h12
 simp only [bne_eq_false_iff_eq]at c
 obtain⟨a,b⟩:=x11
 simp only at c
 subst c
 exact QEy n1 h h11
end Go.Proofs
noncomputable section
namespace Go.Proofs
open Go Go.RowKit Go.Vm
def QaB (n:Qj)(m:List Bag):Prop:=MOk n 1024 m∧Low n m
theorem QaB.len {n:Qj}{m:List Bag}(hg:QaB n m)(h:Q0 n):QP (QP fun _=>True) m:=hg.1.len h (by omega)
theorem QC0 {n:Qj}{m:List Bag}{c:Nat}(h:Q0 n)(hm:MOk n c m)(hl:Low n m):QaB n m:=by
 refine⟨⟨hm.1,fun b hb=>?_⟩,hl⟩
 have hr:=(hm.2 b hb).1
 refine⟨hr,?_⟩
 obtain⟨j,hj,rfl⟩:=Qmk.1 hb
 have hj2:j<n.Places.length:=by have:=hm.1;omega
 by_cases c0:(m[j]).length=0
 ·omega
 have hlast:(m[j]).length-1<(m[j]).length:=by omega
 have h1:=QzR hr.1 (a:=0) (fun p hp=>(hr.2 p hp).1) ((m[j]).length-1) hlast
 have h2:=Qi6 hr.1.nd (Qay hlast)
 have h3:=(hr.2 _ (Qay hlast)).2.1
 obtain⟨z,hz,hk⟩:=hl j _ _ (QB hj) (QB hj2) _ (by rw [h2];omega)
 have:=Qh8 (Qc1 _ _ h.k.1) hz
 omega
theorem QrY {n:Qj}{m x:List Bag}{o:Qm}(h:Q0 n)(hg:QaB n m)(ho:Qct n o)(hD:Qas n m o=some (x,0)):QaB n x:=by
 obtain⟨hm,hl⟩:=hg
 have hpl:=h.pl
 have hm1:=hm.1
 have hx:=Qh8 (QAG n m o 1024 h hm (by omega) ho) hD rfl
 obtain⟨t,hT,hG⟩:=QCW hD
 obtain⟨hCk,need,hN,hL⟩:=QAK hT
 obtain⟨hnd,hndl⟩:=Qh8 (QzV n o h ho) hN rfl
 have ht:=Qh8 (QBR n m o 1024 h hm (by omega) ho) hT rfl
 obtain⟨_,eL⟩:=(Qh8 (QzE n m need 1024 20 h hm hnd (by omega)) hL).1 rfl
 have htl:Low n t:=fun j b p hb hp k hk=>by
  have hj:=(QU.1 hp).1
  obtain⟨a,ha,ha1,ha2⟩:=Qyv hm hj
  obtain⟨u,hu,hu1,hu2⟩:=Qyv hnd hj
  obtain⟨p',hp',hp2⟩:=eL j a u ha hu
  have hp':t[j]? = some p':=hp'
  rw [hb]at hp';cases hp'
  have q:=QDN (by omega) hp2
  have:=hu1.cnt k
  have:=q.2.2.2.2 k
  exact hl j a p ha hp k (by omega)
 exact QC0 h hx (Qh8 (QCX n t o (1024+20) h ht htl (by omega) ho) hG rfl)
end Go.Proofs
noncomputable section
namespace Go.Proofs
open Go Go.RowKit Go.Vm
def Qaf : Nat→Int→List Int
 | 0,_=>[]
 | k+1,x=>IntKind.u8.wrap (Qbr .i64 x (w64 (8*(k:Int))))::Qaf k x
theorem Qb7 (k:Nat)(x:Int):(Qaf k x).length=k:=by
 induction k with
 | zero=>rfl
 | succ k ih=>simp [Qaf,ih]
theorem QxF {α β:Type}{f:α→List β}{c:Nat}:∀{l:List α},(∀x∈l,(f x).length=c)→(l.flatMap f).length=l.length*c:=by
 intro l
 induction l with
 | nil=>intro _;simp
 | cons x l ih=>
  intro h
  have h1:=ih fun y hy=>h y (QaC _ hy)
  have h2:=h x Qaz
  rw [QlD,QcL,Qez,Nat.succ_mul]
  omega
theorem QC1 (e:Int)(size:Nat)(l0:List Int)(hs:size≤8)(hl:l0.length+size≤4294967296):QJ (fun st=>Qeo e st.1 st.2) ((w64 ((size:Int)-1)),l0)=some (l0++Qaf size e):=by
 obtain⟨r,h1,h2⟩:=(Qg.up (body:=fun st:Int×List Int=>Qeo e st.1 st.2) size (fun st=>(size:Int)-1-st.1) (fun st=>-1≤st.1∧st.2.length+(st.1+1).toNat=l0.length+size∧st.2++Qaf (st.1+1).toNat e=l0++Qaf size e) (Q:=fun q:List Int=>q=l0++Qaf size e) (s0:=((w64 ((size:Int)-1)),l0))
  (by show(size:Int)-1-w64 ((size:Int)-1)=0;rw [QbY (by omega)];omega) (by
   show -1≤w64 ((size:Int)-1)∧l0.length+(w64 ((size:Int)-1)+1).toNat=_∧l0++Qaf (w64 ((size:Int)-1)+1).toNat e=_
   rw [QbY (by omega),show((size:Int)-1+1).toNat=size by omega]
   exact⟨by omega,rfl,rfl⟩) (fun i st hi hn hJ=>by
   obtain⟨k,l⟩:=st
   replace hi:(size:Int)-1-k=(i:Int):=hi
   obtain⟨j0,j1,j2⟩:-1≤k∧l.length+(k+1).toNat=l0.length+size∧l++Qaf (k+1).toNat e=l0++Qaf size e:=hJ
   show Qg (Qeo e k l) _
   unfold Qeo
   refine T1 (fun hc=>?_) (fun hc=>T2 (Qn ?_))
   ·simp only [QD]at hc
    have hw:w64 (8*k)=8*k:=QbY (by omega)
    have hw2:w64 (k-1)=k-1:=QbY (by omega)
    have e1:(k+1).toNat=k.toNat+1:=by omega
    refine T0 (T5 (by rw [hw];simp only [QD];omega)) fun _ _=>?_
    refine T0 (T5 (by simp;omega)) fun _ _=>?_
    refine T2 (QF ⟨by omega,by show(size:Int)-1-w64 (k-1)=_;rw [hw2];omega,?_⟩)
    show -1≤w64 (k-1)∧(l++[_]).length+(w64 (k-1)+1).toNat=_∧(l++[_])++Qaf (w64 (k-1)+1).toNat e=_
    rw [hw2,show(k-1+1).toNat=k.toNat by omega]
    rw [e1,Qaf,show((k.toNat:Nat):Int)=k by omega]at j2
    refine⟨by omega,by simp;omega,?_⟩
    rw [Qdu];exact j2
   simp only [Q1]at hc
   rw [show(k+1).toNat=0 by omega,Qaf,Qqg]at j2
   exact j2))
 rw [h1,h2]
theorem Qzj (l0:List Int)(size:Nat)(l:List Int)(hs:size≤8)(hl:l0.length+8*l.length≤4294967296):Qgz l0 size l=some (l0++l.flatMap (Qaf size)):=by
 unfold Qgz
 obtain⟨r,h1,h2⟩:=(Qg.up (body:=fun st:Int×List Int=>Qf1 l size st.1 st.2) l.length (fun st=>st.1) (fun st=>st.2=l0++(l.take st.1.toNat).flatMap (Qaf size)) (Q:=fun q:List Int=>q=l0++l.flatMap (Qaf size)) (s0:=((0:Int),l0)) rfl (by simp) (fun i st hi hn hJ=>by
  obtain⟨x,a⟩:=st
  replace hi:x=(i:Int):=hi
  subst hi
  replace hJ:a=l0++(l.take (i:Int).toNat).flatMap (Qaf size):=hJ
  rw [QaK]at hJ
  show Qg (Qf1 l size i a) _
  unfold Qf1
  refine T1 (fun hc=>?_) (fun hc=>T2 (Qn ?_))
  ·simp only [QD]at hc
   have i1:i<l.length:=by omega
   have hlen:a.length=l0.length+i*size:=by
    rw [hJ,QcL,QxF (c:=size) fun x _=>Qb7 size x,Qfs,Qql (by omega)]
   have hm:i*size≤i*8:=Nat.mul_le_mul_left i hs
   rw [Q4,QB i1,Ql,QC1 _ size a hs (by omega),Ql]
   unfold QlU
   have hw:w64 ((i:Int)+1)=((i+1:Nat):Int):=Qz i1 (by unfold maxLen;omega:l.length≤maxLen)
   refine T2 (QF ⟨i1,hw,?_⟩)
   show a++Qaf size l[i]=l0++(l.take (w64 ((i:Int)+1)).toNat).flatMap (Qaf size)
   rw [hw,QaK,QgH,QB i1,hJ,Quw,Qdu]
   simp
  simp only [Q1]at hc
  rw [hJ,QdH (by omega)]))
 rw [h1,h2];rfl
theorem QDR (size:Nat)(l:List Int):Qn7 size l=Qgz [] size l:=rfl
def Qm3 (b:Bag):List Int:=Qaf 2 b.length++b.flatMap fun p=>Qaf 4 p.1++Qaf 4 p.2
def QuG (m:List Bag):List Int:=Qaf 1 m.length++m.flatMap Qm3
theorem Qv8 (b:Bag):(Qm3 b).length=2+8*b.length:=by
 unfold Qm3
 rw [QcL,Qb7,QxF (c:=8) fun x _=>by simp [Qb7]]
 omega
theorem QB2 {n:Qj}{m:List Bag}(h:Q0 n)(hg:QaB n m)(hml:m.length≤64):QgA m=some (QuG m,0):=by
 unfold QgA
 rw [Qei (by omega),cond_false,show(1:Int)=((1:Nat):Int)from rfl,QDR,Qzj [] 1 _ (by omega) (by simp),Ql]
 have hb:∀b∈m,Rt b∧b.length≤1024:=hg.1.2
 have hmem:∀b∈m,∀p∈b,p.1≤1024:=fun b hb' p hp=>by
  obtain⟨j,hj,rfl⟩:=Qmk.1 hb'
  have hj2:j<n.Places.length:=by have:=hg.1.1;omega
  have hr:=(hb _ hb').1
  have h2:=Qi6 hr.1.nd hp
  have h3:=(hr.2 _ hp).2.1
  obtain⟨z,hz,hk⟩:=hg.2 j _ _ (QB hj) (QB hj2) p.1 (by rw [h2];omega)
  have:=Qh8 (Qc1 _ _ h.k.1) hz
  omega
 have lens:∀i,i≤m.length→((m.take i).flatMap Qm3).length≤i*8194:=fun i hi=>by
  have:=Qp4 (f:=Qm3) (c:=8194) (l:=m.take i) fun b hb'=>by
   have:=(hb b (Qii hb')).2
   rw [Qv8];omega
  rw [Qfs,Qql hi]at this
  exact this
 obtain⟨r,h1,h2⟩:=(Qg.up (body:=fun st:Int×List Int=>Qf3 m st.1 st.2) m.length (fun st=>st.1) (fun st=>st.2=Qaf 1 m.length++(m.take st.1.toNat).flatMap Qm3) (Q:=fun q:Unit⊕List Int=>q=.inr (QuG m)) (s0:=((0:Int),[]++[(m.length:Int)].flatMap (Qaf 1))) rfl (by simp) (fun i st hi hn hJ=>by
  obtain⟨x,a⟩:=st
  replace hi:x=(i:Int):=hi
  subst hi
  replace hJ:a=Qaf 1 m.length++(m.take (i:Int).toNat).flatMap Qm3:=hJ
  rw [QaK]at hJ
  show Qg (Qf3 m i a) _
  unfold Qf3
  refine T1 (fun hc=>?_) (fun hc=>T2 (Qn ?_))
  ·simp only [QD]at hc
   have i1:i<m.length:=by omega
   have hbm:=Qay i1
   have hr:=(hb _ hbm).1
   have hrl:=(hb _ hbm).2
   have hal:a.length≤1+i*8194:=by
    have:=lens i (by omega)
    rw [hJ,QcL,Qb7];omega
   rw [Q4,QB i1,Ql]
   have g1:QlV m[i]=some false:=by
    unfold QlV
    rw [Qm0 _ (by unfold maxLen;omega),Ql,QeT.2 hr]
    simp only [Qhb,cond_false]
    rw [Qei (by omega),cond_false]
    by_cases c0:(m[i]).length=0
    ·rw [Qei (by omega)];rfl
    have hlast:(m[i]).length-1<(m[i]).length:=by omega
    rw [QbW (by omega),cond_true,QbY (by omega),show((m[i]).length:Int)-1=(((m[i]).length-1:Nat):Int) by omega,Q4,QB hlast,Ql]
    have:=hmem _ hbm _ (Qay hlast)
    rw [Qei (by omega)]
   rw [g1,Ql]
   unfold Qim
   rw [cond_false,show(2:Int)=((2:Nat):Int)from rfl,Qzj a 2 _ (by omega) (by simp;omega),Ql]
   have inner:Qg (QJ (fun st=>Qf2 m[i] st.1 st.2) ((0:Int),a++[((m[i]).length:Int)].flatMap (Qaf 2))) fun q:List Int=>q=a++Qm3 m[i]:=by
    refine Qg.up (m[i]).length (fun st=>st.1) (fun st=>st.2=a++(Qaf 2 (m[i]).length++((m[i]).take st.1.toNat).flatMap fun p=>Qaf 4 p.1++Qaf 4 p.2)) rfl (by simp) (fun k st hk hn2 hK=>?_)
    obtain⟨x,c⟩:=st
    replace hk:x=(k:Int):=hk
    subst hk
    replace hK:c=a++(Qaf 2 (m[i]).length++((m[i]).take (k:Int).toNat).flatMap fun p=>Qaf 4 p.1++Qaf 4 p.2):=hK
    rw [QaK]at hK
    show Qg (Qf2 m[i] k c) _
    unfold Qf2
    refine T1 (fun hc2=>?_) (fun hc2=>T2 (Qn ?_))
    ·simp only [QD]at hc2
     have k1:k<(m[i]).length:=by omega
     have hcl:c.length=a.length+2+k*8:=by
      rw [hK,QcL,QcL,Qb7,QxF (c:=8) fun x _=>by simp [Qb7],Qfs,Qql (by omega)];omega
     rw [Q4,QB k1,Ql,show(4:Int)=((4:Nat):Int)from rfl,Qzj c 4 _ (by omega) (by simp;omega),Ql]
     have hw:w64 ((k:Int)+1)=((k+1:Nat):Int):=Qz k1 (by unfold maxLen;omega:(m[i]).length≤maxLen)
     refine T2 (QF ⟨k1,hw,?_⟩)
     show c++[(m[i])[k].1,(m[i])[k].2].flatMap (Qaf 4)=a++(Qaf 2 (m[i]).length++((m[i]).take (w64 ((k:Int)+1)).toNat).flatMap fun p=>Qaf 4 p.1++Qaf 4 p.2)
     rw [hw,QaK,QgH,QB k1,hK,Quw]
     simp
    simp only [Q1]at hc2
    rw [hK,QdH (by omega)];rfl
   obtain⟨q,hq1,rfl⟩:=inner
   rw [hq1,Ql]
   unfold QlW
   have hw:w64 ((i:Int)+1)=((i+1:Nat):Int):=Qz i1 (by unfold maxLen;omega:m.length≤maxLen)
   refine T2 (QF ⟨i1,hw,?_⟩)
   show a++Qm3 m[i]=Qaf 1 m.length++(m.take (w64 ((i:Int)+1)).toNat).flatMap Qm3
   rw [hw,QaK,QgH,QB i1,hJ,Quw,Qdu]
   simp
  simp only [Q1]at hc
  rw [hJ,QdH (by omega)];rfl))
 rw [h1,h2];rfl
def Qak (m:List Bag):ByteArray:=Qjo (if m.length≤64 then QuG m else [])
theorem Qw1 {n:Qj}{m:List Bag}(h:Q0 n)(hg:QaB n m):QhT m=some (Qak m):=by
 unfold QhT Qak
 by_cases c:m.length≤64
 ·rw [QB2 h hg c,if_pos c];rfl
 rw [if_neg c]
 unfold QgA
 rw [QbW (by omega)];rfl
end Go.Proofs
noncomputable section
namespace Go.Proofs
open Go Go.RowKit Go.Vm
def QhB (n:Qj)(w:Int)(x:List Bag)(o:Qm):Option (List Bag):=if o.Task=w then none else match Qas n x o with
 | some (y,c)=>if c=0 then some y else none
 | none=>none
def QnQ (n:Qj)(w:Int)(x:List Bag):List (List Bag):=(Qck n x).filterMap (QhB n w x)
theorem QB3 {n:Qj}{w:Int}{x y:List Bag}{o:Qm}(h:QhB n w x o=some y):o.Task≠w∧Qas n x o=some (y,0):=by
 unfold QhB at h
 split at h
 ·cases h
 rename_i c
 refine⟨c,?_⟩
 cases e:Qas n x o with
 | none=>rw [e]at h;cases h
 | some r=>
  obtain⟨a,b⟩:=r
  rw [e]at h
  simp only at h
  split at h
  ·rename_i c2;cases h;rw [c2]
  cases h
theorem QB4 {n:Qj}{w:Int}{x:List Bag}(h:Q0 n)(hg:QaB n x):∀y∈QnQ n w x,QaB n y:=fun y hy=>by
 obtain⟨o,ho,he⟩:=List.mem_filterMap.1 hy
 exact QrY h hg (Qp3 h (hg.len h) ho) (QB3 he).2
def FM (mm:List (ByteArray×Bool))(l:List (List Bag)):Prop:=∀k,(Qv mm k).getD false=l.any fun y=>decide (Qak y=k)
theorem FM.add {mm:List (ByteArray×Bool)}{l:List (List Bag)}(h:FM mm l)(x:List Bag):FM (Qag ltS mm (Qak x) true) (l++[x]):=fun k=>by
 rw [Qc0,List.any_append]
 by_cases c:k=Qak x
 ·subst c
  rw [if_pos rfl]
  simp
 rw [if_neg c,h k]
 have:decide (Qak x=k)=false:=Qei fun e=>c e.symm
 simp [this]
def Qaj (budget:Int):Nat:=(min2 (max2 0 budget) 4096).toNat
theorem QzY (budget:Int):(Qaj budget:Int)=min2 (max2 0 budget) 4096∧Qaj budget≤4096:=by
 unfold Qaj min2 max2
 split<;>split<;>omega
def Qkp (n:Qj)(w budget:Int)(m:List Bag):List (List Bag)×Bool:=if Qaj budget=0 then([],false)else Qh5 Qak (QnQ n w) (Qaj budget) (Qaj budget+1) [m] 0
theorem QAQ {n:Qj}{m:List Bag}(w budget:Int)(h:Q0 n)(hb:Bd n)(hg:QaB n m):QkI n m w budget=some (Qkp n w budget m):=by
 have hm:=QzY budget
 have hpl:=h.pl
 unfold QkI Qkp
 by_cases c0:Qaj budget=0
 ·rw [if_pos c0,show(min2 (max2 0 budget) 4096==0)=true by rw [←hm.1,c0];rfl];rfl
 rw [if_neg c0,show(min2 (max2 0 budget) 4096==0)=false by simp;omega]
 simp only [cond_false]
 have hm1:=hg.1.1
 rw [Qw1 h hg,Ql,Qko m (by omega) (fun b hb=>by have:=(hg.1.2 b hb).2;omega),Ql]
 generalize hR:Qh5 Qak (QnQ n w) (Qaj budget) (Qaj budget+1) [m] 0=R
 have main:Qg (QJ (fun st=>Qfo n w budget st.1 st.2.1 st.2.2) ((0:Int),(Qag ltS ([]:(List (ByteArray×Bool))) (Qak m) true),[m])) fun q:List (List Bag)⊕List (List Bag)=>(∀l,q=.inl l→R=(l,false))∧∀l,q=.inr l→R=(l,true):=by
  refine Qg.up (Qaj budget) (fun st=>st.1) (fun st=>FM st.2.1 st.2.2∧(∀x∈st.2.2,QaB n x)∧st.2.2.length≤Qaj budget∧Qh5 Qak (QnQ n w) (Qaj budget) (Qaj budget+1-st.1.toNat) st.2.2 st.1.toNat=R) rfl ⟨?_,?_,?_,hR⟩ (fun i st hi hn hJ=>?_)
  ·exact FM.add (mm:=[]) (l:=[]) (fun k=>rfl) m
  ·intro x hx;simp at hx;subst hx;exact hg
  ·show 1≤_;omega
  obtain⟨a,mm,l⟩:=st
  replace hi:a=(i:Int):=hi
  subst hi
  obtain⟨j1,j2,j3,j4⟩:FM mm l∧(∀x∈l,QaB n x)∧l.length≤Qaj budget∧Qh5 Qak (QnQ n w) (Qaj budget) (Qaj budget+1-(i:Int).toNat) l (i:Int).toNat=R:=hJ
  rw [QaK,show Qaj budget+1-i=(Qaj budget-i)+1 by omega,Qh5]at j4
  show Qg (Qfo n w budget i mm l) _
  unfold Qfo
  refine T1 (fun hc=>?_) (fun hc=>T2 (Qn ⟨fun l' e=>(by cases e),fun l' e=>?_⟩))
  ·simp only [QD]at hc
   have i1:i<l.length:=by omega
   have hx:=QB i1
   have hgx:=j2 _ (Qay i1)
   rw [Q4,hx,Ql]
   rw [hx]at j4
   simp only at j4
   generalize l[i]=x at hx hgx j4 ⊢
   have hal:=QzX x h hb
   rw [Qzi n x 9223372036854775807 h (hgx.len h) (by omega) (by omega) (.inr (by omega)),Ql]
   have hxl:=hgx.len h
   have e0:(Qck n x).take (9223372036854775807:Int).toNat=Qck n x:=QdH (by omega)
   rw [e0]
   have hok:=fun o=>Qp3 (o:=o) h hxl
   have inner:Qg (QJ (fun st=>Qfn (Qck n x) w i n budget st.1 st.2.1 st.2.2) ((0:Int),mm,l)) fun q:List (List Bag)⊕(List (ByteArray×Bool)×List (List Bag))=>
     (∀o,q=.inl o→QcI Qak (Qaj budget) l (QnQ n w x)=.inl o)∧∀mm' o,q=.inr (mm',o)→QcI Qak (Qaj budget) l (QnQ n w x)=.inr o∧FM mm' o∧(∀x∈o,QaB n x)∧o.length≤Qaj budget:=by
    generalize hT:QcI Qak (Qaj budget) l (QnQ n w x)=T
    have hT:QcI Qak (Qaj budget) l ((Qck n x).filterMap (QhB n w x))=T:=hT
    generalize Qck n x=X at hT hal hok ⊢
    refine Qg.up X.length (fun st=>st.1) (fun st=>FM st.2.1 st.2.2∧(∀x∈st.2.2,QaB n x)∧st.2.2.length≤Qaj budget∧st.2.2[i]? = some x∧QcI Qak (Qaj budget) st.2.2 ((X.drop st.1.toNat).filterMap (QhB n w x))=T) rfl ⟨j1,j2,j3,hx,hT⟩ (fun k st hk hn2 hK=>?_)
    obtain⟨a,mm,l⟩:=st
    replace hk:a=(k:Int):=hk
    subst hk
    obtain⟨k1,k2,k3,k4,k5⟩:FM mm l∧(∀x∈l,QaB n x)∧l.length≤Qaj budget∧l[i]? = some x∧QcI Qak (Qaj budget) l ((X.drop (k:Int).toNat).filterMap (QhB n w x))=T:=hK
    rw [QaK]at k5
    show Qg (Qfn X w i n budget k mm l) _
    unfold Qfn
    refine T1 (fun hc2=>?_) (fun hc2=>T2 (Qn ⟨fun o e=>(by cases e),fun mm' o e=>?_⟩))
    ·simp only [QD]at hc2
     have i2:k<X.length:=by omega
     have hw:w64 ((k:Int)+1)=((k+1:Nat):Int):=Qz i2 (by unfold maxLen;omega:X.length≤maxLen)
     have next:∀mm' l',FM mm' l'→(∀x∈l',QaB n x)→l'.length≤Qaj budget→l'[i]? = some x→QcI Qak (Qaj budget) l' ((X.drop (k+1)).filterMap (QhB n w x))=T→
       Qg (QdZ k mm' l') fun o=>(∀s',o=.inl s'→k<X.length∧s'.1=((k+1:Nat):Int)∧FM s'.2.1 s'.2.2∧(∀x∈s'.2.2,QaB n x)∧s'.2.2.length≤Qaj budget∧s'.2.2[i]? = some x∧QcI Qak (Qaj budget) s'.2.2 ((X.drop s'.1.toNat).filterMap (QhB n w x))=T)∧
        ∀r:List (List Bag)⊕(List (ByteArray×Bool)×List (List Bag)),o=.inr r→(∀o,r=.inl o→T=.inl o)∧∀mm' o,r=.inr (mm',o)→T=.inr o∧FM mm' o∧(∀x∈o,QaB n x)∧o.length≤Qaj budget:=fun mm' l' f1 f2 f3 f4 f5=>by
      unfold QdZ
      refine T2 (QF (ix:=fun st:Int×List (ByteArray×Bool)×List (List Bag)=>st.1) (J:=fun st:Int×List (ByteArray×Bool)×List (List Bag)=>FM st.2.1 st.2.2∧(∀x∈st.2.2,QaB n x)∧st.2.2.length≤Qaj budget∧st.2.2[i]? = some x∧QcI Qak (Qaj budget) st.2.2 ((X.drop st.1.toNat).filterMap (QhB n w x))=T) ⟨i2,hw,f1,f2,f3,f4,?_⟩)
      show QcI Qak (Qaj budget) l' ((X.drop (w64 ((k:Int)+1)).toNat).filterMap (QhB n w x))=T
      rw [hw,QaK];exact f5
     rw [Q4,QB i2,Ql]
     rw [Qnx i2,List.filterMap_cons]at k5
     have hox:=hok _ (Qay i2)
     generalize X[k]=o at k5 hox ⊢
     refine T1 (fun hc3=>?_) fun hc3=>?_
     ·have:QhB n w x o=none:=by unfold QhB;rw [if_pos (by simpa using hc3)]
      rw [this]at k5
      exact next mm l k1 k2 k3 k4 k5
     simp only [beq_eq_false_iff_ne]at hc3
     rw [Q4,k4,Ql]
     obtain⟨⟨y,c⟩,hD,_⟩:=QAG n x o 1024 h hgx.1 (by omega) hox
     rw [hD,Ql]
     by_cases cc:c=0
     ·subst cc
      have hgy:=QrY h hgx hox hD
      have:QhB n w x o=some y:=by unfold QhB;rw [if_neg hc3,hD];rfl
      rw [this]at k5
      simp only at k5
      rw [QcI]at k5
      unfold Qlf
      simp only [show((0:Int) != 0)=false from rfl,cond_false]
      rw [Qw1 h hgy,Ql,k1 (Qak y),Ql]
      unfold Qfm
      refine T1 (fun hh=>?_) fun hh=>?_
      ·rw [if_pos (show Qxx Qak l y=true from hh)]at k5
       exact next mm l k1 k2 k3 k4 k5
      rw [if_neg (by rw [show Qxx Qak l y=false from hh];decide)]at k5
      refine T1 (fun hf=>?_) fun hf=>?_
      ·simp only [beq_iff_eq]at hf
       rw [if_pos (by omega)]at k5
       exact T2 (Qn ⟨fun o e=>(by cases e;exact k5.symm),fun mm' o e=>by cases e⟩)
      simp only [beq_eq_false_iff_ne]at hf
      rw [if_neg (by omega)]at k5
      simp only
      rw [Qw1 h hgy,Ql]
      refine T0 (T5 (by simp;omega)) fun _ _=>?_
      refine next _ _ (k1.add y) (fun z hz=>?_) (by simp;omega) (by rw [Qbu ((QU.1 k4).1)];exact k4) k5
      rcases QbG.1 hz with hz | hz
      ·exact k2 z hz
      simp at hz;subst hz;exact hgy
     have:QhB n w x o=none:=by unfold QhB;rw [if_neg hc3,hD];simp only;rw [if_neg cc]
     rw [this]at k5
     unfold Qlf
     simp only [show(c != 0)=true by simpa using cc,cond_true,Ql]
     unfold Qfm
     exact next mm l k1 k2 k3 k4 k5
    cases e
    simp only [Q1]at hc2
    rw [Qwa (by omega),List.filterMap_nil,QcI]at k5
    exact⟨k5.symm,k1,k2,k3⟩
   obtain⟨q,hq1,hq2,hq3⟩:=inner
   rw [hq1,Ql]
   rcases q with q | ⟨mm',o⟩
   ·have:=hq2 q rfl
    rw [this]at j4
    show Qg (Qht q) _
    unfold Qht
    exact T2 (Qn ⟨fun l' e=>(by cases e;exact j4.symm),fun l' e=>by cases e⟩)
   obtain⟨f1,f2,f3,f4⟩:=hq3 mm' o rfl
   rw [f1]at j4
   simp only at j4
   show Qg (Qhu i mm' o) _
   unfold Qhu
   have hw:w64 ((i:Int)+1)=((i+1:Nat):Int):=Qz (by omega:i<Qaj budget) (by unfold maxLen;omega)
   refine T2 (QF ⟨by omega,hw,f2,f3,f4,?_⟩)
   show Qh5 Qak (QnQ n w) (Qaj budget) (Qaj budget+1-(w64 ((i:Int)+1)).toNat) o (w64 ((i:Int)+1)).toNat=R
   rw [hw,QaK,show Qaj budget+1-(i+1)=Qaj budget-i by omega]
   exact j4
  cases e
  simp only [Q1]at hc
  rw [Qwb (by omega)]at j4
  exact j4.symm
 obtain⟨q,hq1,hq2,hq3⟩:=main
 rw [hq1,Ql]
 rcases q with q | q
 ·rw [hq2 q rfl];rfl
 rw [hq3 q rfl];rfl
end Go.Proofs
noncomputable section
namespace Go.Proofs
open Go Go.RowKit Go.Vm
theorem QrZ {l:List Int}{j:Nat}(h:j<l.length):l.toArray[j]! = l[j]:=by
 rw [getElem!_pos l.toArray j (by simpa using h)];simp
theorem QB5 {l:List Int}{x:Int}(h:x∈Qfx l):x∈l:=by
 unfold Qfx Lib.compact Lib.compactUpTo at h
 obtain⟨j,hj,rfl⟩:=QaQ.1 h
 have:=Qks.1 (Qjk.1 hj).1
 rw [QrZ this];exact Qay this
theorem QB6 {l:List Int}(h:l.Pairwise (·≤·)):(Qfx l).Pairwise (·<·):=by
 have hp:=List.pairwise_iff_getElem.1 h
 unfold Qfx Lib.compact Lib.compactUpTo
 rw [QoJ,List.pairwise_filter,List.pairwise_iff_getElem]
 intro i j hi hj hij _ hk
 rw [Qqi]at hi hj
 rw [QoI]at hk
 rw [QoI,QoI,QrZ hi,QrZ hj]
 unfold Lib.keeps at hk
 have hk:=Q9 hk
 rcases hk with hk | hk
 ·omega
 have hj1:j-1<l.length:=by omega
 rw [QrZ hj,QrZ hj1]at hk
 have h1:=hp (j-1) j hj1 hj (by omega)
 by_cases c:i=j-1
 ·subst c;omega
 have h2:=hp i (j-1) hi hj1 (by omega)
 omega
theorem QC2 (l:List Int):(QeC l).Pairwise (·≤·):=Qvn l
theorem QB7 {l:List Int}{x:Int}:x∈QeC l↔x∈l:=by
 exact(Qsv l).mem_iff
def QxG (m:List Bag)(k:Int):Prop:=0≤k∧k<m.length∧m[k.toNat]? = some []
theorem QAR (n:Qj)(m:List Bag)(task:Int)(h:Q0 n):Qg (Qes n m task) fun e=>(∀k∈e,QxG m k)∧e.Pairwise (·<·):=by
 unfold Qes
 refine T1 (fun _=>T2 ⟨fun k h=>(by cases h),List.Pairwise.nil⟩) fun hc=>?_
 simp only [Qc8,Q1]at hc
 refine T0 (T4 (by omega) (by omega)) fun e he=>?_
 have hil:=(h.tk e he).2.1
 refine T0 (Qg.up e.Ins.length (fun st=>st.1) (fun st=>(st.2.length:Int)≤st.1∧∀k∈st.2,QxG m k) (Q:=fun q:List Int=>q.length≤16∧∀k∈q,QxG m k) rfl ⟨by simp,fun k h=>by cases h⟩ (fun i st hi hn hJ=>?_)) (fun q hq=>?_)
 ·obtain⟨x,l⟩:=st
  replace hi:x=(i:Int):=hi
  subst hi
  obtain⟨j1,j2⟩:(l.length:Int)≤(i:Int)∧∀k∈l,QxG m k:=hJ
  show Qg (Qhr e m i l) _
  unfold Qhr
  refine T1 (fun hc2=>?_) (fun hc2=>T2 (Qn ⟨by omega,j2⟩))
  simp only [QD]at hc2
  have i1:i<e.Ins.length:=by omega
  have hw:w64 ((i:Int)+1)=((i+1:Nat):Int):=Qz i1 (by unfold maxLen;omega:e.Ins.length≤maxLen)
  rw [Q4,QB i1,Ql]
  refine T0 (P:=fun y=>y=true→QxG m (e.Ins[i]).Place) ?_ fun y hy=>?_
  ·unfold Qox
   refine T1 (fun c1=>?_) fun _=>T2 fun h=>by cases h
   refine T1 (fun c2=>?_) fun _=>T2 fun h=>by cases h
   simp only [QD]at c1 c2
   have hk:(e.Ins[i]).Place.toNat<m.length:=by omega
   rw [Qk4 c1,QB hk,Ql]
   refine T2 fun hz=>⟨c1,c2,?_⟩
   simp only [beq_iff_eq]at hz
   rw [QB hk,Qmj.1 (show(m[(e.Ins[i]).Place.toNat]).length=0 by omega)]
  unfold Qhq Qhp
  refine T1 (fun c1=>?_) fun _=>?_
  ·refine T0 (T5 (by simp;omega)) fun _ _=>?_
   refine T2 (QF ⟨i1,hw,by show((l++[_]).length:Int)≤w64 _;rw [hw];simp;omega,fun k hk=>?_⟩)
   rcases QbG.1 hk with hk | hk
   ·exact j2 k hk
   simp at hk;subst hk;exact hy c1
  exact T2 (QF ⟨i1,hw,by show(l.length:Int)≤w64 _;rw [hw];omega,j2⟩)
 obtain⟨q1,q2⟩:=hq
 show Qg (Qhs q) _
 unfold Qhs
 rw [Qzc _ (by omega),Ql]
 refine T0 (T5 (by simp [Qma])) fun _ _=>?_
 unfold QdT
 rw [QmW (by rw [Qma];omega),Ql,Ql]
 exact T2 ⟨fun k hk=>q2 k (QB7.1 (QB5 hk)),QB6 (QC2 q)⟩
def Qn2 (n:Qj)(m:List Bag)(task:Int):List Int:=(Qes n m task).getD []
theorem QC3 (n:Qj)(m:List Bag)(task:Int)(h:Q0 n):Qes n m task=some (Qn2 n m task)∧(∀k∈Qn2 n m task,QxG m k)∧(Qn2 n m task).Pairwise (·<·):=by
 obtain⟨e,h1,h2⟩:=QAR n m task h
 unfold Qn2
 rw [h1];exact⟨rfl,h2⟩
def Qnu (e:List Int)(x:List Bag):Bool:=e.any fun k=>decide (0<(((x[k.toNat]?).getD []).length:Int))
theorem QEz (e:List Int)(x:List Bag)(he:e.length≤maxLen)(hk:∀k∈e,0≤k∧k<x.length):Qb3 e x=some (Qnu e x):=by
 unfold Qb3 Qd9
 obtain⟨q,h1,h2⟩:=(Qg.up (body:=fun st=>Qa8 e x st) e.length (fun st=>st) (fun st=>Qnu (e.take st.toNat) x=false) (Q:=fun q:Int⊕Unit=>(∀j,q=.inl j→0≤j∧Qnu e x=true)∧(q=.inr ()→Qnu e x=false)) (s0:=(0:Int)) rfl rfl (fun i st hi hn hJ=>by
  replace hi:st=(i:Int):=hi
  subst hi
  replace hJ:Qnu (e.take (i:Int).toNat) x=false:=hJ
  rw [QaK]at hJ
  show Qg (Qa8 e x i) _
  unfold Qa8 Ql1
  refine T1 (fun hc=>?_) (fun hc=>T2 (Qn ⟨fun j e=>(by cases e),fun _=>?_⟩))
  ·simp only [QD]at hc
   have i1:i<e.length:=by omega
   have hmem:=Qay i1
   obtain⟨k1,k2⟩:=hk _ hmem
   have hkk:(e[i]).toNat<x.length:=by omega
   rw [Q4,QB i1,Ql,Qk4 k1,QB hkk]
   simp only [Ql]
   have hval:decide (0<(((x[(e[i]).toNat]?).getD []).length:Int))=decide (0<((x[(e[i]).toNat]).length:Int)):=by rw [QB hkk];rfl
   refine T1 (fun hc2=>T2 (Qn ⟨fun j e'=>(by cases e';exact⟨by omega,Qkq.2 ⟨_,hmem,by rw [hval];exact hc2⟩⟩),fun e=>by cases e⟩)) fun hc2=>?_
   have hw:w64 ((i:Int)+1)=((i+1:Nat):Int):=Qz i1 he
   refine T2 (QF ⟨i1,hw,?_⟩)
   show Qnu (e.take (w64 ((i:Int)+1)).toNat) x=false
   rw [hw,QaK,QgH,QB i1]
   unfold Qnu at hJ ⊢
   rw [List.any_append,hJ]
   simp only [Option.toList_some,List.any_cons,List.any_nil,Bool.or_false,Qqe]
   rw [hval];exact hc2
  simp only [Q1]at hc
  rwa [QdH (by omega)]at hJ))
 rw [h1]
 rcases q with q | q
 ·have:=h2.1 q rfl
  rw [this.2]
  simp only [Ql,Sum.elim_inl]
  unfold Qdk
  rw [Ql,QbW this.1]
 rw [h2.2 rfl];rfl
theorem QAS {n:Qj}{m:List Bag}(w budget:Int)(h:Q0 n)(hg:QaB n m):(∀x∈(Qkp n w budget m).1,QaB n x)∧(Qkp n w budget m).1.length≤Qaj budget∧QjW Qak (Qkp n w budget m).1∧(0<Qaj budget→∃r,(Qkp n w budget m).1=m::r):=by
 unfold Qkp
 by_cases c0:Qaj budget=0
 ·rw [if_pos c0]
  exact⟨fun x h=>(by cases h),by simp,List.Pairwise.nil,fun h=>by omega⟩
 rw [if_neg c0]
 obtain⟨⟨r,hr⟩,h2,h3,h4⟩:=QBK (key:=Qak) (succ:=QnQ n w) (P:=QaB n) (fun x hx=>QB4 h hx) (most:=Qaj budget) (Qaj budget+1) (out:=[m]) (a:=0) (by simp;omega) (Qqk _ _) fun x hx=>by simp at hx;subst hx;exact hg
 exact⟨h4,h2,h3,fun _=>⟨r,hr⟩⟩
def QAT (n:Qj)(m:List Bag)(task budget:Int):Int:=if (Qkp n task budget m).1.any (Qnu (Qn2 n m task))then 0 else if (Qkp n task budget m).2 then 1 else 2
theorem QC4 {n:Qj}{m:List Bag}(task budget:Int)(h:Q0 n)(hb:Bd n)(hg:QaB n m):QkK n m task budget=some (QAT n m task budget):=by
 have hpl:=h.pl
 obtain⟨e1,e2,e3⟩:=QC3 n m task h
 obtain⟨r1,r2,_,_⟩:=QAS task budget h hg
 have hmost:=(QzY budget).2
 have hm1:=hg.1.1
 unfold QkK QAT
 rw [e1,Ql,QAQ task budget h hb hg,Ql]
 have hel:(Qn2 n m task).length≤maxLen:=by
  unfold Qes at e1
  have:∀(l:List Int) (a b:Int),l.Pairwise (·<·)→(∀k∈l,a≤k∧k<b)→(l.length:Int)≤max 0 (b-a):=by
   intro l
   induction l with
   | nil=>intro a b _ _;simp;omega
   | cons x l ih=>
    intro a b hp hk
    obtain⟨p1,p2⟩:=Qr5.1 hp
    have h1:=hk x Qaz
    have:=ih (x+1) b p2 fun k hk2=>⟨by have:=p1 k hk2;omega,(hk k (QaC _ hk2)).2⟩
    simp only [Qez];omega
  have:=this _ 0 (m.length:Int) e3 fun k hk=>⟨(e2 k hk).1,(e2 k hk).2.1⟩
  unfold maxLen;omega
 have hbk:∀x∈(Qkp n task budget m).1,∀k∈Qn2 n m task,0≤k∧k<x.length:=fun x hx k hk=>by
  have h1:=e2 k hk
  have h2:=(r1 x hx).1.1
  exact⟨h1.1,by have:=h1.2.1;omega⟩
 generalize Qkp n task budget m=R at r1 r2 hbk ⊢
 generalize Qn2 n m task=E at hel hbk ⊢
 obtain⟨q,h1,h2⟩:=(Qg.up (body:=fun st:List Int×Int=>Qfp R st.1 st.2) R.1.length (fun st=>st.2) (fun st=>st.1=E∧(R.1.take st.2.toNat).any (Qnu E)=false) (Q:=fun q:Unit⊕Unit=>(q=.inl ()→R.1.any (Qnu E)=true)∧(q=.inr ()→R.1.any (Qnu E)=false)) (s0:=(E,(0:Int))) rfl ⟨rfl,rfl⟩ (fun i st hi hn hJ=>by
  obtain⟨a,x⟩:=st
  replace hi:x=(i:Int):=hi
  subst hi
  obtain⟨j1,j2⟩:a=E∧(R.1.take (i:Int).toNat).any (Qnu E)=false:=hJ
  subst j1
  rw [QaK]at j2
  show Qg (Qfp R a i) _
  unfold Qfp
  refine T1 (fun hc=>?_) (fun hc=>T2 (Qn ⟨fun e=>(by cases e),fun _=>?_⟩))
  ·simp only [QD]at hc
   have i1:i<R.1.length:=by omega
   have hmem:=Qay i1
   rw [Q4,QB i1,Ql,QEz a _ hel (hbk _ hmem),Ql]
   refine T1 (fun hc2=>T2 (Qn ⟨fun _=>Qkq.2 ⟨_,hmem,hc2⟩,fun e=>by cases e⟩)) fun hc2=>?_
   have hw:w64 ((i:Int)+1)=((i+1:Nat):Int):=Qz i1 (by unfold maxLen;omega:R.1.length≤maxLen)
   refine T2 (QF ⟨i1,hw,rfl,?_⟩)
   show(R.1.take (w64 ((i:Int)+1)).toNat).any (Qnu a)=false
   rw [hw,QaK,QgH,QB i1,List.any_append,j2]
   simpa using hc2
  simp only [Q1]at hc
  rwa [QdH (by omega)]at j2))
 rw [h1,Ql]
 rcases q with q | q
 ·rw [h2.1 rfl];rfl
 rw [h2.2 rfl]
 show Qhv R=_
 unfold Qhv
 cases R.2<;>rfl
def QB8 (n:Qj)(m:List Bag)(o:Qm)(budget:Int):Int:=if QcG n m o=some 0 then(match idx n.Tasks o.Task with
 | some e=>if e.Join=3 then QAT n m o.Task budget else 1
 | none=>0)else 0
theorem QAU {n:Qj}{m:List Bag}{o:Qm}(h:Q0 n)(hm:QP (QP fun _=>True) m)(ho:Qct n o)(hc:QcG n m o=some 0):∃e,idx n.Tasks o.Task=some e∧e∈n.Tasks:=by
 obtain⟨_,e,he,_,_,_,b,hb,_⟩:=Qmf.1 ((QBW h hm ho).1 hc)
 obtain⟨k1,k2,_⟩:=Qo1 h hb
 rw [he]at k1;cases k1
 exact⟨_,he,k2⟩
theorem QC5 {n:Qj}{m:List Bag}(o:Qm)(budget:Int)(h:Q0 n)(hb:Bd n)(hg:QaB n m)(ho:Qct n o):QkL n m o budget=some (QB8 n m o budget):=by
 unfold QkL QB8
 obtain⟨c,hc,_⟩:=QzU n m o h (hg.len h) ho
 rw [hc,Ql]
 by_cases c0:c=0
 ·subst c0
  obtain⟨e,he,_⟩:=QAU h (hg.len h) ho hc
  rw [if_pos rfl,he]
  simp only [show((0:Int) != 0)=false from rfl,cond_false,Ql]
  by_cases cj:e.Join=3
  ·rw [if_pos cj,show(e.Join != 3)=false by simpa using cj,cond_false,QC4 o.Task budget h hb hg];rfl
  rw [if_neg cj,show(e.Join != 3)=true by simpa using cj];rfl
 rw [if_neg (fun e=>c0 (Option.some.inj e)),show(c != 0)=true by simpa using c0];rfl
end Go.Proofs
noncomputable section
namespace Go.Proofs
open Go Go.RowKit Go.Vm
end Go.Proofs
noncomputable section
namespace Go.Proofs
open Go Go.RowKit Go.Vm
theorem QC6 (n:Qj)(m:List Bag)(budget:Int)(hn:QW n)(hm:QP (QP fun _=>True) m):Qg (QmU n m budget) fun r=>r=true→Q0 n∧Bd n∧QaB n m∧budget≤12:=by
 unfold QmU
 refine T0 (QEs n m hn hm).self fun f hf=>?_
 obtain⟨hfe,hf⟩:=hf
 refine T0 (P:=fun r=>r=true→Q0 n∧Bd n∧QaB n m∧budget≤12) ?_ fun r hr=>?_
 ·unfold QqV
  refine T1 (fun c1=>?_) fun _=>T2 fun h=>by cases h
  refine T1 (fun c2=>?_) fun _=>T2 fun h=>by cases h
  refine T1 (fun c3=>?_) fun _=>T2 fun h=>by cases h
  obtain⟨h,g1,g2⟩:=hf c1
  subst c1
  rw [Qta h g1 (by omega),Ql]
  exact T2 fun _=>⟨h,QDQ n m h hfe,⟨g1,g2⟩,by simpa using c2⟩
 unfold QjV
 exact T2 hr
end Go.Proofs
noncomputable section
namespace Go.Proofs
open Go Go.RowKit Go.Vm
theorem QDt (x:Int):IntKind.u8.wrap x=x % 256:=rfl
theorem Qo3 (k:Nat)(x:Int)(hk:k<8):IntKind.u8.wrap (Qbr .i64 x (w64 (8*(k:Int))))=(x / (2 ^ (8*k):Nat)) % 256:=by
 rw [QDt,QbY (by omega)]
 unfold Qbr
 rw [show(8*(k:Int)).toNat=8*k by omega,show min (8*k) (IntKind.bits .i64)=8*k from Qql (by show 8*k≤64;omega),Int.fdiv_eq_ediv_of_nonneg _ (Int.pow_nonneg (by omega))]
 simp
theorem Qzk (x:Int):Qaf 2 x=[x / 256 % 256,x % 256]:=by
 simp only [Qaf,Qo3 0 x (by omega),Qo3 1 x (by omega)];simp
theorem Qzl (x:Int):Qaf 4 x=[x / 16777216 % 256,x / 65536 % 256,x / 256 % 256,x % 256]:=by
 simp only [Qaf,Qo3 0 x (by omega),Qo3 1 x (by omega),Qo3 2 x (by omega),Qo3 3 x (by omega)];simp
theorem QFg {x y:Int}(hx:0≤x∧x<65536)(hy:0≤y∧y<65536)(h:Qaf 2 x=Qaf 2 y):x=y:=by
 rw [Qzk,Qzk]at h
 simp only [List.cons.injEq,and_true]at h
 omega
theorem QDu {x y:Int}(hx:0≤x∧x<4294967296)(hy:0≤y∧y<4294967296)(h:Qaf 4 x=Qaf 4 y):x=y:=by
 rw [Qzl,Qzl]at h
 simp only [List.cons.injEq,and_true]at h
 omega
theorem QsN {k:Nat}{x:Int}(hk:k≤8):∀b∈Qaf k x,0≤b∧b<256:=by
 induction k with
 | zero=>intro b h;cases h
 | succ k ih=>
  intro b h
  rcases QaP.1 h with rfl | h
  ·rw [QDt];omega
  exact ih (by omega) b h
def QAV (p:Int×Int):List Int:=Qaf 4 p.1++Qaf 4 p.2
theorem Qzm (p:Int×Int):(QAV p).length=8:=by simp [QAV,Qb7]
def InP (p:Int×Int):Prop:=(0≤p.1∧p.1<4294967296)∧0≤p.2∧p.2<4294967296
theorem QC7 : ∀(a b:Bag),a.length=b.length→(∀p∈a,InP p)→(∀p∈b,InP p)→a.flatMap QAV=b.flatMap QAV→a=b:=by
 intro a
 induction a with
 | nil=>intro b h _ _ _;exact(Qmj.1 (by simpa using h.symm)).symm
 | cons p a ih=>
  intro b h ha hb e
  cases b with
  | nil=>simp at h
  | cons q b=>
   rw [QlD,QlD]at e
   obtain⟨e1,e2⟩:=List.append_inj e (by rw [Qzm,Qzm])
   obtain⟨e3,e4⟩:=List.append_inj e1 (by rw [Qb7,Qb7])
   have hp:=ha p Qaz
   have hq:=hb q Qaz
   have f1:=QDu hp.1 hq.1 e3
   have f2:=QDu hp.2 hq.2 e4
   rw [Prod.ext f1 f2,ih b (by simpa using h) (fun r hr=>ha r (QaC _ hr)) (fun r hr=>hb r (QaC _ hr)) e2]
def InB (b:Bag):Prop:=b.length<65536∧∀p∈b,InP p
theorem QC8 : ∀(a b:List Bag),a.length=b.length→(∀x∈a,InB x)→(∀x∈b,InB x)→a.flatMap Qm3=b.flatMap Qm3→a=b:=by
 intro a
 induction a with
 | nil=>intro b h _ _ _;exact(Qmj.1 (by simpa using h.symm)).symm
 | cons x a ih=>
  intro b h ha hb e
  cases b with
  | nil=>simp at h
  | cons y b=>
   have hx:=ha x Qaz
   have hy:=hb y Qaz
   rw [QlD,QlD]at e
   have e':=e
   unfold Qm3 at e'
   rw [Qdu,Qdu]at e'
   have e1:=(List.append_inj e' (by rw [Qb7,Qb7])).1
   have hl:=QFg (x:=(x.length:Int)) (y:=(y.length:Int)) ⟨by omega,by have:=hx.1;omega⟩ ⟨by omega,by have:=hy.1;omega⟩ e1
   have hl:x.length=y.length:=by omega
   obtain⟨f1,f2⟩:=List.append_inj e (by rw [Qv8,Qv8,hl])
   have f3:=(List.append_inj f1 (by rw [Qb7,Qb7])).2
   rw [QC7 x y hl hx.2 hy.2 f3,ih b (by simpa using h) (fun r hr=>ha r (QaC _ hr)) (fun r hr=>hb r (QaC _ hr)) f2]
theorem Qw2 (l:List Int):(Qjo l).data.toList=l.map fun x=>UInt8.ofNat x.toNat:=by
 unfold Qjo
 have:∀(l:List Int) (r:ByteArray),(l.foldl (fun r n=>r.push (UInt8.ofNat n.toNat)) r).data.toList=r.data.toList++l.map fun x=>UInt8.ofNat x.toNat:=by
  intro l
  induction l with
  | nil=>intro r;simp
  | cons x l ih=>intro r;rw [List.foldl_cons,ih];simp [ByteArray.push]
 rw [this];rfl
theorem QB9 {a b:List Int}(ha:∀x∈a,0≤x∧x<256)(hb:∀x∈b,0≤x∧x<256)(h:Qjo a=Qjo b):a=b:=by
 have e:(a.map fun x=>UInt8.ofNat x.toNat)=b.map fun x=>UInt8.ofNat x.toNat:=by rw [←Qw2,←Qw2,h]
 clear h
 induction a generalizing b with
 | nil=>cases b with
  | nil=>rfl
  | cons y b=>simp at e
 | cons x a ih=>cases b with
  | nil=>simp at e
  | cons y b=>
   simp only [QeA,List.cons.injEq]at e
   have h1:=ha x Qaz
   have h2:=hb y Qaz
   have e1:=congrArg UInt8.toNat e.1
   rw [UInt8.toNat_ofNat',UInt8.toNat_ofNat']at e1
   have:x=y:=by omega
   rw [this,ih (fun z hz=>ha z (QaC _ hz)) (fun z hz=>hb z (QaC _ hz)) e.2]
theorem Qzn (m:List Bag):∀x∈QuG m,0≤x∧x<256:=by
 intro x hx
 unfold QuG at hx
 rcases QbG.1 hx with hx | hx
 ·exact QsN (by omega) x hx
 obtain⟨b,_,hx⟩:=List.mem_flatMap.1 hx
 unfold Qm3 at hx
 rcases QbG.1 hx with hx | hx
 ·exact QsN (by omega) x hx
 obtain⟨p,_,hx⟩:=List.mem_flatMap.1 hx
 rcases QbG.1 hx with hx | hx
 ·exact QsN (by omega) x hx
 exact QsN (by omega) x hx
theorem QzZ {n:Qj}{m:List Bag}(h:Q0 n)(hg:QaB n m):∀b∈m,InB b:=fun b hb=>by
 obtain⟨hr,hl⟩:=hg.1.2 b hb
 refine⟨by omega,fun p hp=>?_⟩
 have h1:=hr.2 p hp
 obtain⟨j,hj,rfl⟩:=Qmk.1 hb
 have hj2:j<n.Places.length:=by have:=hg.1.1;omega
 have h2:=Qi6 hr.1.nd hp
 obtain⟨z,hz,hk⟩:=hg.2 j _ _ (QB hj) (QB hj2) p.1 (by rw [h2];omega)
 have:=Qh8 (Qc1 _ _ h.k.1) hz
 exact⟨⟨h1.1,by omega⟩,by omega,by omega⟩
theorem QDS {n:Qj}{a b:List Bag}(h:Q0 n)(hp:n.Places.length≤64)(ha:QaB n a)(hb:QaB n b)(e:Qak a=Qak b):a=b:=by
 have ha1:=ha.1.1
 have hb1:=hb.1.1
 unfold Qak at e
 rw [if_pos (by omega),if_pos (by omega)]at e
 have e:=QB9 (Qzn a) (Qzn b) e
 unfold QuG at e
 exact QC8 a b (by omega) (QzZ h ha) (QzZ h hb) (List.append_inj e (by rw [Qb7,Qb7])).2
end Go.Proofs
