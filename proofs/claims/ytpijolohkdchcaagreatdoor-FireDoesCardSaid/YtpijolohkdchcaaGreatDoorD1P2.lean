/- A part of the proof; what it holds is told at each theorem. -/
import Derived.Test.YtpijolohkdchcaaGreatDoorD1P1
import Derived.Test.YtpijolohkdchcaaGreatDoorD1T3
import Derived.KernelRfl
import Derived.Test.YtpijolohkdchcaaGreatDoorD1P1
import Derived.Test.YtpijolohkdchcaaGreatDoorD1P1
import Derived.Test.YtpijolohkdchcaaGreatDoorD1P1
import Derived.Test.YtpijolohkdchcaaGreatDoorD1P1
set_option linter.unusedVariables false
set_option linter.unusedSimpArgs false
set_option linter.unusedSectionVars false
set_option linter.deprecated false
noncomputable section
namespace Go.Proofs
open Go Go.RowKit Go.Vm
theorem QuU (m:List (List (Int×Int)))(h:m.length<=4294967296)(hb:∀b∈m,b.length<=4294967296):Qlk m=some m:=by
 unfold Qlk QbK
 rw [Qf4 (by simp;omega)]
 simp only [Qn,Qo2]
 obtain⟨r,h1,h2⟩:=(Qi.up (body:=fun st=>Qhq m st.1 st.2) m.length (fun st=>st.1) (fun st=>st.2=m) (Q:=fun q=>q=m) (s0:=(0,m)) rfl rfl (fun i st hi hn hJ=>by
  obtain⟨x,l⟩:=st
  replace hi:x=(i:Int):=hi
  replace hJ:l=m:=hJ
  subst hJ
  show Qi (Qhq l x l) _
  unfold Qhq
  refine T1 (fun hc=>?_) (fun _=>T2 (Qw rfl))
  simp only [Q0]at hc
  have hlt:i<l.length:=by omega
  rw [hi,Q7,QM hlt,Qn]
  unfold QcS
  rw [Qf4 (by have:=hb _ (Qbk hlt);simp;omega)]
  simp only [Qn,Qo2]
  exact T2 (QR ⟨hlt,Qx hlt (by unfold maxLen;omega),by simp⟩)))
 rw [h1,h2];rfl
theorem QC0 (n:Qq)(a b:List (List (Int×Int)))(c d:Nat)(h:QbA n)(ha:MOk n c a)(hb:MOk n d b)(hcd:c+d<=1000000):Qi (Qed a b) fun r=>r.2=0->MOk n (c+d) r.1:=by
 have hpl:=h.pl
 have ha1:=ha.1
 have hb1:=hb.1
 have hmin:min2 (a.length:Int) (b.length:Int)=(n.Places.length:Int):=by unfold min2;split<;>omega
 unfold Qed
 rw [hmin]
 refine T0 (T5 (by simp only [QB,Q0];omega)) fun _ _=>?_
 refine T0 (Qi.up n.Places.length (fun st=>st.1) (fun st=>st.2.length=n.Places.length/\∀b∈st.2,Rt b/\b.length<=c+d) (Q:=fun q:Int⊕List (List (Int×Int))=>(∀x,q=.inl x->x≠0)/\∀m,q=.inr m->MOk n (c+d) m) rfl ⟨by simp,fun b hb=>?_⟩ (fun i st hi hn hJ=>?_)) (fun q hq=>?_)
 ·have:=Qsr hb
  subst this
  exact⟨Rt.nil,by simp⟩
 ·obtain⟨x,m⟩:=st
  replace hi:x=(i:Int):=hi
  obtain⟨hJ1,hJ2⟩:m.length=n.Places.length/\∀b∈m,Rt b/\b.length<=c+d:=hJ
  show Qi (QcD a b x m) _
  unfold QcD
  rw [hmin]
  refine T1 (fun hc=>?_) (fun hc=>T2 (Qw ⟨fun x e=>(by cases e),fun m' e=>(by cases e;exact⟨hJ1,hJ2⟩)⟩))
  simp only [Q0,List.length_replicate]at hc
  refine T0 (T4 (by omega) (by omega)) fun u hu=>?_
  refine T0 (T4 (by omega) (by omega)) fun v hv=>?_
  have hu2:=ha.2 u hu
  have hv2:=hb.2 v hv
  have key:∃s,Qfj u v=some s/\(s.2=0->Rt s.1/\s.1.length<=c+d):=by
   rcases Qom u v (by omega)with⟨_,e⟩|⟨_,_,_,e⟩|⟨_,_,_,r,e,h1,_,h2⟩
   ·exact⟨_,e,fun h=>by cases h⟩
   ·exact⟨_,e,fun h=>by cases h⟩
   exact⟨_,e,fun _=>⟨h1,by show r.length<=_;omega⟩⟩
  obtain⟨s,es,hs⟩:=key
  rw [es,Qn]
  refine T0 (T4 (by omega) (by omega)) fun _ _=>?_
  refine T1 (fun hc5=>T2 (Qw ⟨fun x e=>(by cases e;simpa using hc5),fun m' e=>(by cases e)⟩)) fun hc5=>?_
  have hs:=hs (by simpa using hc5)
  refine T2 (QR ⟨by omega,by subst hi;exact Qx (by omega) (by unfold maxLen;omega:n.Places.length<=maxLen),by simpa using hJ1,fun b hb'=>?_⟩)
  rcases Qpk hb' with rfl | hb'
  ·exact hs
  exact hJ2 b hb'
 rcases q with q | q
 ·exact T2 fun h=>absurd h (hq.1 q rfl)
 exact T2 fun _=>hq.2 q rfl
theorem QyC (n:Qq)(a b:List (List (Int×Int)))(c d:Nat)(h:QbA n)(ha:MOk n c a)(hb:MOk n d b)(hcd:c+d<=1000000):Qi (Qa0 a b) fun r=>r.2=0->MOk n (c+d) r.1:=by
 have hpl:=h.pl
 have ha1:=ha.1
 have hb1:=hb.1
 have hmin:min2 (a.length:Int) (b.length:Int)=(n.Places.length:Int):=by unfold min2;split<;>omega
 unfold Qa0
 rw [hmin]
 refine T0 (T5 (by simp only [QB,Q0];omega)) fun _ _=>?_
 refine T0 (Qi.up n.Places.length (fun st=>st.1) (fun st=>st.2.length=n.Places.length/\∀b∈st.2,Rt b/\b.length<=c+d) (Q:=fun q:Int⊕List (List (Int×Int))=>(∀x,q=.inl x->x≠0)/\∀m,q=.inr m->MOk n (c+d) m) rfl ⟨by simp,fun b hb=>?_⟩ (fun i st hi hn hJ=>?_)) (fun q hq=>?_)
 ·have:=Qsr hb
  subst this
  exact⟨Rt.nil,by simp⟩
 ·obtain⟨x,m⟩:=st
  replace hi:x=(i:Int):=hi
  obtain⟨hJ1,hJ2⟩:m.length=n.Places.length/\∀b∈m,Rt b/\b.length<=c+d:=hJ
  show Qi (QbD a b x m) _
  unfold QbD
  rw [hmin]
  refine T1 (fun hc=>?_) (fun hc=>T2 (Qw ⟨fun x e=>(by cases e),fun m' e=>(by cases e;exact⟨hJ1,hJ2⟩)⟩))
  simp only [Q0,List.length_replicate]at hc
  refine T0 (T4 (by omega) (by omega)) fun u hu=>?_
  refine T0 (T4 (by omega) (by omega)) fun v hv=>?_
  have hu2:=ha.2 u hu
  have hv2:=hb.2 v hv
  have key:∃s,Qec u v=some s/\(s.2=0->Rt s.1/\s.1.length<=c+d):=by
   rcases Qkc u v (by omega)with⟨_,e⟩|⟨_,_,_,e⟩|⟨_,_,r,e,h1,_,h2⟩
   ·exact⟨_,e,fun h=>by cases h⟩
   ·exact⟨_,e,fun h=>by cases h⟩
   exact⟨_,e,fun _=>⟨h1,by show r.length<=_;omega⟩⟩
  obtain⟨s,es,hs⟩:=key
  rw [es,Qn]
  refine T0 (T4 (by omega) (by omega)) fun _ _=>?_
  refine T1 (fun hc5=>T2 (Qw ⟨fun x e=>(by cases e;simpa using hc5),fun m' e=>(by cases e)⟩)) fun hc5=>?_
  have hs:=hs (by simpa using hc5)
  refine T2 (QR ⟨by omega,by subst hi;exact Qx (by omega) (by unfold maxLen;omega:n.Places.length<=maxLen),by simpa using hJ1,fun b hb'=>?_⟩)
  rcases Qpk hb' with rfl | hb'
  ·exact hs
  exact hJ2 b hb'
 rcases q with q | q
 ·exact T2 fun h=>absurd h (hq.1 q rfl)
 exact T2 fun _=>hq.2 q rfl
theorem QzV (n:Qq)(m:List (List (Int×Int)))(o:Qp)(c:Nat)(h:QbA n)(hm:MOk n c m)(hc:c<=900000)(ho:Qev n o):Qi (QdN n m o) fun r=>r.2=0->MOk n (c+20) r.1:=by
 unfold QdN
 refine T0 (QAw n m o h (hm.len h (by omega)) ho) fun x _=>?_
 refine T1 (fun hc=>T2 fun h=>absurd h (by simpa using hc)) fun _=>?_
 refine T0 (Qvf n o h ho) fun y hy=>?_
 refine T1 (fun hc=>T2 fun h=>absurd h (by simpa using hc)) fun hc2=>?_
 exact T0 (QC0 n m y.1 c 20 h hm (hy (by simpa using hc2)).1 (by omega)) fun z hz=>T2 hz
theorem QCb (n:Qq)(m:List (List (Int×Int)))(o:Qp)(c:Nat)(h:QbA n)(hm:MOk n c m)(hc:c<=900000)(ho:Qev n o):Qi (QdO n m o) fun r=>r.2=0->MOk n (c+20) r.1:=by
 have hpl:=h.pl
 have hm1:=hm.1
 unfold QdO
 refine T0 (QAx n o h ho) fun y hy=>?_
 refine T1 (fun hc=>T2 fun h=>absurd h (by simpa using hc)) fun hc2=>?_
 obtain⟨⟨hy,_⟩,h1,h2⟩:=hy (by simpa using hc2)
 rw [QuU m (by omega) (fun b hb=>by have:=(hm.2 b hb).2;omega),Qn]
 refine T0 (T4 h1 h2) fun e he=>?_
 have hcl:=(h.tk e he).2.2.2
 refine T0 (Qi.up e.Cancel.length (fun st=>st.1) (fun st=>MOk n c st.2) (Q:=fun q=>MOk n c q) rfl hm (fun i st hi hn hJ=>?_)) (fun q hq=>?_)
 ·obtain⟨x,l⟩:=st
  replace hi:x=(i:Int):=hi
  replace hJ:MOk n c l:=hJ
  show Qi (Qbj e x l) _
  unfold Qbj
  refine T1 (fun hc=>?_) (fun _=>T2 (Qw hJ))
  simp only [Q0]at hc
  refine T0 (T4 (by omega) (by omega)) fun k _=>?_
  have next:∀l,MOk n c l->Qi (Qfw x l) fun o=>(∀s',o=.inl s'->i<e.Cancel.length/\s'.1=((i+1:Nat):Int)/\MOk n c s'.2)/\∀r:List (List (Int×Int)),o=.inr r->MOk n c r:=fun l hl=>by
   unfold Qfw
   exact T2 (QR (ix:=fun st:Int×List (List (Int×Int))=>st.1) (J:=fun st:Int×List (List (Int×Int))=>MOk n c st.2) ⟨by omega,by subst hi;exact Qx (by omega) (by unfold maxLen;omega:e.Cancel.length<=maxLen),hl⟩)
  refine T1 (fun hc3=>?_) fun _=>next l hJ
  simp only [QB,Q0]at hc3
  refine T0 (T4 hc3.1 hc3.2) fun _ _=>?_
  refine next _ ⟨by simpa using hJ.1,fun b hb=>?_⟩
  rcases Qpk hb with rfl | hb
  ·exact⟨Rt.nil,by simp⟩
  exact hJ.2 b hb
 show Qi (Qfx y q) _
 unfold Qfx
 exact T0 (QyC n q y.1 c 20 h hq hy (by omega)) fun z hz=>T2 hz
theorem QEX (n:Qq)(m:List (List (Int×Int)))(o:Qp)(c:Nat)(h:QbA n)(hm:MOk n c m)(hc:c<=800000)(ho:Qev n o):Qi (Qee n m o) fun r=>r.2=0->MOk n (c+40) r.1:=by
 unfold Qee
 refine T0 (QzV n m o c h hm (by omega) ho) fun x hx=>?_
 refine T1 (fun hc=>T2 fun h=>absurd h (by simpa using hc)) fun hc2=>?_
 exact T0 (QCb n x.1 o (c+20) h (hx (by simpa using hc2)) (by omega) ho) fun z hz=>T2 hz
end Go.Proofs
noncomputable section
namespace Go.Proofs
open Go Go.RowKit Go.Vm
set_option maxRecDepth 100000 in
theorem QBl : Qof=some true:=by kernel_rfl
end Go.Proofs
noncomputable section
namespace Go.Proofs
open Go Go.RowKit Go.Vm
def szB (n:Qq)(t:QG):List Int:=t.Vars.map fun v=>(QaU n.Colours v.Colour).getD 0
def gdB (b:QO)(r:List Int):Bool:=decide (Qam b r=some 0)
def QzW (n:Qq)(m:List (List (Int×Int)))(task:Int)(ins outs:List (List Int))(p:List Int):List Qp:=match QbQ n m task p with
 | some (c,b)=>if c=0/\Qaf b=some 0 then ins.flatMap fun e=>if Qae b e=some 0 then(outs.filter (gdB b)).map fun o=>Qp.mk task p e o else []else []
 | none=>[]
end Go.Proofs
noncomputable section
namespace Go.Proofs
open Go Go.RowKit Go.Vm
def chC (kind arcs:Int):List (List Int):=(QaC kind arcs).getD []
def QzX (n:Qq)(m:List (List (Int×Int)))(task:Int):List Qp:=match idx n.Tasks task with
 | some t=>(binds (szB n t)).flatMap (QzW n m task (chC t.Join t.Ins.length) (chC t.Split t.Outs.length))
 | none=>[]
end Go.Proofs
noncomputable section
namespace Go.Proofs
open Go Go.RowKit Go.Vm
theorem QCc {n:Qq}{m:List (List (Int×Int))}{task:Int}{ins outs:List (List Int)}{p:List Int}{o:Qp}:
  o∈QzW n m task ins outs p↔o.Task=task/\o.Vars=p/\o.Ins∈ins/\o.Outs∈outs/\∃b,QbQ n m task p=some (0,b)/\Qaf b=some 0/\Qae b o.Ins=some 0/\Qam b o.Outs=some 0:=by
 unfold QzW
 cases hb:QbQ n m task p with
 | none=>simp
 | some x=>
  obtain⟨c,b⟩:=x
  simp only
  by_cases hc:c=0/\Qaf b=some 0
  ·rw [if_pos hc]
   obtain⟨rfl,hg⟩:=hc
   simp only [List.mem_flatMap]
   constructor
   ·rintro ⟨e,he,h⟩
    by_cases ht:Qae b e=some 0
    ·rw [if_pos ht]at h
     obtain⟨r,hr,rfl⟩:=QaN.1 h
     obtain⟨h1,h2⟩:=Qo1.1 hr
     exact⟨rfl,rfl,he,h1,b,rfl,hg,ht,Qai h2⟩
    rw [if_neg ht]at h;cases h
   rintro ⟨h1,h2,h3,h4,b',h5,h6,h7,h8⟩
   cases h5
   refine⟨o.Ins,h3,?_⟩
   rw [if_pos h7]
   refine QaN.2 ⟨o.Outs,Qo1.2 ⟨h4,QH h8⟩,?_⟩
   cases o
   simp only at h1 h2
   subst h1;subst h2;rfl
  rw [if_neg hc]
  constructor
  ·intro h;cases h
  rintro ⟨_,_,_,_,b',h5,h6,_⟩
  cases h5
  exact absurd ⟨rfl,h6⟩ hc
theorem QyD {n:Qq}{m:List (List (Int×Int))}{task:Int}{o:Qp}:
  o∈QzX n m task↔o.Task=task/\∃e,idx n.Tasks task=some e/\inB (szB n e) o.Vars/\o.Ins∈chC e.Join e.Ins.length/\o.Outs∈chC e.Split e.Outs.length/\∃b,QbQ n m task o.Vars=some (0,b)/\Qaf b=some 0/\Qae b o.Ins=some 0/\Qam b o.Outs=some 0:=by
 unfold QzX
 cases he:idx n.Tasks task with
 | none=>simp
 | some e=>
  simp only [List.mem_flatMap,QB5,QCc,Option.some.injEq,exists_eq_left']
  constructor
  ·rintro ⟨p,h1,h2,rfl,h3,h4,h5⟩
   exact⟨h2,h1,h3,h4,h5⟩
  rintro ⟨h1,h2,h3,h4,h5⟩
  exact⟨o.Vars,h2,h1,rfl,h3,h4,h5⟩
theorem QxE (a b:List Int)(ha:a.length<=maxLen):Qbp a b=some (decide (a=b)):=by
 have key:Qi (Qbp a b) fun r=>r=decide (a=b):=by
  unfold Qbp
  refine T1 (fun hc=>T2 ?_) fun hc=>?_
  ·rw [QJ fun e=>by subst e;simp at hc]
  simp only [bne_eq_false_iff_eq]at hc
  have hc:a.length=b.length:=by omega
  refine T0 (Qi.up a.length (fun st=>st) (fun st=>a.take st.toNat=b.take st.toNat) (Q:=fun q:Unit⊕Unit=>(q=.inl ()->a≠b)/\(q=.inr ()->a=b)) rfl rfl (fun i st hi hn hJ=>?_)) (fun q hq=>?_)
  ·replace hi:st=(i:Int):=hi
   subst hi
   replace hJ:a.take (i:Int).toNat=b.take (i:Int).toNat:=hJ
   rw [Qls]at hJ
   show Qi (Qbr a b i) _
   unfold Qbr
   refine T1 (fun hc2=>?_) (fun hc2=>T2 (Qw ⟨fun e=>(by cases e),fun _=>?_⟩))
   ·simp only [Q0]at hc2
    have i1:i<a.length:=by omega
    have i2:i<b.length:=by omega
    rw [Q7,QM i1,Qn,Q7,QM i2,Qn]
    refine T1 (fun hc3=>T2 (Qw ⟨fun _ e=>?_,fun e=>by cases e⟩)) fun hc3=>?_
    ·subst e;simp at hc3
    have hw:w64 ((i:Int)+1)=((i+1:Nat):Int):=Qx i1 ha
    refine T2 (QR ⟨i1,hw,?_⟩)
    show a.take (w64 ((i:Int)+1)).toNat=b.take (w64 ((i:Int)+1)).toNat
    rw [hw,Qls,Qo3,Qo3,hJ,QM i1,QM i2]
    simp only [bne_eq_false_iff_eq]at hc3
    rw [hc3]
   simp only [QaT]at hc2
   rwa [Qmj (by omega),Qmj (by omega)]at hJ
  rcases q with q | q
  ·exact T2 (QJ (hq.1 rfl)).symm
  exact T2 (QH (hq.2 rfl)).symm
 obtain⟨r,h1,h2⟩:=key
 rw [h1,h2]
theorem QCd (kind arcs:Int):QaC kind arcs=some (chC kind arcs)/\QzR (chC kind arcs):=by
 obtain⟨r,h1,h2⟩:=QyB kind arcs
 unfold chC
 rw [h1]
 exact⟨rfl,h2⟩
theorem QiF (kind arcs:Int)(row:List Int):Qeb kind arcs row=some (decide (row∈chC kind arcs)):=by
 have key:Qi (Qeb kind arcs row) fun r=>r=decide (row∈chC kind arcs):=by
  unfold Qeb QcB Qdk
  obtain⟨e,hx⟩:=QCd kind arcs
  rw [e,Qn]
  generalize chC kind arcs=x at hx
  have hl:=hx.1
  have key:Qi ((Qy (fun st=>Qav x row st) 0)) fun q:Int⊕Unit=>(∀k,q=.inl k->0<=k/\row∈x)/\(q=.inr ()->row ∉ x):=by
   refine Qi.up x.length (fun st=>st) (fun st=>row ∉ x.take st.toNat) rfl (by simp) (fun i st hi hn hJ=>?_)
   replace hi:st=(i:Int):=hi
   subst hi
   replace hJ:row ∉ x.take (i:Int).toNat:=hJ
   rw [Qls]at hJ
   show Qi (Qav x row i) _
   unfold Qav Qi3
   refine T1 (fun hc=>?_) (fun hc=>T2 (Qw ⟨fun k e=>(by cases e),fun _=>?_⟩))
   ·simp only [Q0]at hc
    have i1:i<x.length:=by omega
    have:=hx.2 _ (Qbk i1)
    rw [Q7,QM i1,Qn,QxE _ _ (by unfold maxLen;omega)]
    simp only [Qn]
    refine T1 (fun hc2=>T2 (Qw ⟨fun k e=>(by cases e;exact⟨by omega,by rw [<-Qai hc2];exact Qbk i1⟩),fun e=>by cases e⟩)) fun hc2=>?_
    have hw:w64 ((i:Int)+1)=((i+1:Nat):Int):=Qx i1 (by unfold maxLen;omega:x.length<=maxLen)
    refine T2 (QR ⟨i1,hw,?_⟩)
    show row ∉ x.take (w64 ((i:Int)+1)).toNat
    rw [hw,Qls,Qo3,QM i1]
    simp only [Option.toList_some,Qei,QnB,not_or]
    exact⟨hJ,fun e=>of_decide_eq_false hc2 e.symm⟩
   simp only [QaT]at hc
   rwa [Qmj (by omega)]at hJ
  obtain⟨q,hq1,hq2⟩:=key
  rw [hq1]
  rcases q with q | q
  ·have:=hq2.1 q rfl
   refine T2 ?_
   rw [QH this.2]
   exact QH this.1
  refine T2 ?_
  rw [QJ (hq2.2 rfl)];rfl
 obtain⟨r,h1,h2⟩:=key
 rw [h1,h2]
theorem QCe (l:List QE)(k m:Int)(hl:QI Qa8 l):Qi (Qc4 l k m) fun r=>r.2=true->0<=m/\∃z,QaU l k=some z/\m<z:=by
 unfold Qc4 QaU
 refine T0 (Qiw l k hl).self fun x hx=>?_
 obtain⟨hxe,hx⟩:=hx
 refine T0 (P:=fun r=>r=false->x.1=true/\0<=m/\∃h:0<=k/\k<(x.2.sizes.length:Int),m<x.2.sizes[k.toNat]'(by omega)) ?_ fun r hr=>?_
 ·unfold Qgt
  refine T1 (fun _=>T2 fun h=>by cases h) fun hc=>?_
  have hc:x.1=true:=by simpa using hc
  have h:=hx.2 hc
  have hk:k.toNat<x.2.sizes.length:=by omega
  have ei:idx x.2.sizes k=some x.2.sizes[k.toNat]:=Qm1 h.1.1 h.1.2
  refine T0 (P:=fun y=>y=true->0<=m/\m<x.2.sizes[k.toNat]) ?_ fun y hy=>T2 fun hf=>?_
  ·unfold Qb1
   refine T0 (P:=fun y=>y=true->0<=m/\m<x.2.sizes[k.toNat]) ?_ fun y hy=>T2 hy
   unfold Qer
   refine T1 (fun hc2=>?_) fun _=>T2 fun h=>by cases h
   rw [h.2.1,ei,Qn]
   exact T2 fun h=>⟨by simpa using hc2,by simpa using h⟩
  have:=hy (by simpa using hf)
  exact⟨hc,this.1,h.1,this.2⟩
 unfold Qdx
 refine T1 (fun _=>T2 fun h=>by cases h) fun hc=>?_
 obtain⟨h1,h2,h3,h4⟩:=hr hc
 have h:=hx.2 h1
 have fin:0<=m/\∃z,((Qc7 l k).bind fun x5=>bif (!x5.1)then some 0 else(idx x5.2.sizes k).bind fun e7=>some e7)=some z/\m<z:=⟨h2,x.2.sizes[k.toNat]'(by omega),by
  rw [hxe,Qn,h1]
  simp only [QeQ,cond_false]
  rw [Qm1 h3.1 h3.2];rfl,h4⟩
 refine T0 (QhD x.2 (by omega)) fun _ _=>?_
 refine T1 (fun _=>?_) fun _=>T2 fun _=>fin
 exact T0 (QhD x.2 (by omega)) fun _ _=>T2 fun _=>fin
theorem QD6 {l d:List Int}(h:d.length=l.length)(hk:∀(j:Nat) x s,d[j]? = some x->l[j]? = some s->0<=x/\x<s):inB l d:=by
 induction l generalizing d with
 | nil=>cases d with
  | nil=>trivial
  | cons x d=>simp at h
 | cons s r ih=>cases d with
  | nil=>simp at h
  | cons x d=>
   have:=hk 0 x s rfl rfl
   exact⟨this.1,.inr this.2,ih (by simpa using h) fun j y z h1 h2=>hk (j+1) y z (by simpa using h1) (by simpa using h2)⟩
theorem QD7 (n:Qq)(task:Int)(vars:List Int)(h:QbA n):Qi (Qdj n task vars) fun r=>r.2=0->∃e,idx n.Tasks task=some e/\e∈n.Tasks/\inB (szB n e) vars/\∀s∈szB n e,0<s:=by
 unfold Qdj
 refine T1 (fun _=>T2 fun h=>by cases h) fun hc=>?_
 simp only [Qdf,QaT]at hc
 refine T0 (T4 (by omega) (by omega)).self fun e he=>?_
 have hv:=(h.tk e he.2).1
 have ke:=h.k.2.2.1.2 e he.2
 refine T1 (fun _=>T2 fun h=>by cases h) fun hl=>?_
 simp only [bne_eq_false_iff_eq]at hl
 have hl:vars.length=e.Vars.length:=by omega
 refine T0 (T5 (by simp only [QB,Q0];omega)) fun _ _=>?_
 refine T0 (Qi.up e.Vars.length (fun st=>st.1) (fun st=>st.2.length=e.Vars.length/\∀(j:Nat) x s,(j:Int)<st.1->vars[j]? = some x->(szB n e)[j]? = some s->0<=x/\x<s) (Q:=fun q:Unit⊕List Int=>∀out,q=.inr out->inB (szB n e) vars/\∀s∈szB n e,0<s) rfl ⟨by simp,fun j x s hj=>by simp at hj;omega⟩ (fun i st hi hn hJ=>?_)) (fun q hq=>?_)
 ·obtain⟨x,l⟩:=st
  replace hi:x=(i:Int):=hi
  subst hi
  obtain⟨hJ,hJ2⟩:l.length=e.Vars.length/\∀(j:Nat) x s,(j:Int)<(i:Int)->vars[j]? = some x->(szB n e)[j]? = some s->0<=x/\x<s:=hJ
  show Qi (QcJ e vars n i l) _
  unfold QcJ
  refine T1 (fun hc=>?_) (fun hc=>T2 (Qw fun out _=>?_))
  ·simp only [Q0]at hc
   have i1:i<e.Vars.length:=by omega
   have i2:i<vars.length:=by omega
   rw [Q7,QM i1,Qn,Q7,QM i2,Qn]
   refine T0 (QCe _ _ _ h.k.1) fun c hc3=>?_
   refine T1 (fun _=>T2 (Qw fun out e=>by cases e)) fun hc4=>?_
   obtain⟨h1,z,h2,h3⟩:=hc3 (by simpa using hc4)
   refine T0 (T4 (by omega) (by omega)) fun d _=>?_
   have hw:w64 ((i:Int)+1)=((i+1:Nat):Int):=Qx i1 (by unfold maxLen;omega:e.Vars.length<=maxLen)
   refine T2 (QR ⟨i1,hw,by simpa using hJ,fun j x s hj hx hs=>?_⟩)
   replace hj:(j:Int)<w64 ((i:Int)+1):=hj
   rw [hw]at hj
   by_cases cj:j=i
   ·subst cj
    rw [QM i2]at hx
    cases hx
    unfold szB at hs
    rw [Qau,QM i1,Qgr,h2]at hs
    cases hs
    exact⟨h1,h3⟩
   exact hJ2 j x s (by omega) hx hs
  simp only [QaT]at hc
  have hb:∀(j:Nat) x s,vars[j]? = some x->(szB n e)[j]? = some s->0<=x/\x<s:=fun j x s hx hs=>hJ2 j x s (by have:=(QX.1 hx).1;omega) hx hs
  refine⟨QD6 (by simp [szB,hl]) hb,fun s hs=>?_⟩
  obtain⟨j,hj,rfl⟩:=Qu5.1 hs
  have hj2:j<vars.length:=by simp [szB]at hj;omega
  have:=hb j _ _ (QM hj2) (QM hj)
  omega
 rcases q with q | q
 ·exact T2 fun h=>by cases h
 exact T2 fun _=>⟨e,he.1,he.2,hq q rfl⟩
theorem Qtc {n:Qq}{m:List (List (Int×Int))}{task:Int}{vars:List Int}{b:QO}(h:QbA n)(e:QbQ n m task vars=some (0,b)):idx n.Tasks task=some b.task/\b.task∈n.Tasks/\b.net=n/\b.m=m/\(inB (szB n b.task) vars/\∀s∈szB n b.task,0<s)/\Qdj n task vars=some (b.env,0):=by
 unfold QbQ at e
 obtain⟨x,hx,e⟩:=Qb e
 obtain⟨x1,x2⟩:=x
 rcases Qo e with⟨c,e⟩|⟨c,e⟩
 ·simp only [Option.some.injEq,Prod.mk.injEq]at e
  simp only [e.1]at c;cases c
 simp only [bne_eq_false_iff_eq]at c
 subst c
 obtain⟨t,ht,h1,h2⟩:=Qnw (QD7 n task vars h) hx rfl
 rw [ht,Qn]at e
 simp only [Option.some.injEq,Prod.mk.injEq,true_and]at e
 subst e
 exact⟨ht,h1,rfl,rfl,h2,hx⟩
theorem QCf {n:Qq}{m:List (List (Int×Int))}{o:Qp}(h:QbA n)(hm:QI (QI fun _=>True) m)(ho:Qev n o):Qdb n m o=some 0↔o∈QzX n m o.Task:=by
 rw [QyD]
 constructor
 ·intro e
  unfold Qdb at e
  obtain⟨x,hx,e⟩:=Qb e
  obtain⟨c,b⟩:=x
  have k3:∀g,Qbn (c,b) o g=some 0->g=0/\o.Ins∈chC b.task.Join b.task.Ins.length/\o.Outs∈chC b.task.Split b.task.Outs.length/\Qae b o.Ins=some 0/\Qam b o.Outs=some 0:=fun g e=>by
   unfold Qbn at e
   rcases Qo e with⟨c2,e⟩|⟨c2,e⟩
   ·simp only [Option.some.injEq]at e;rw [e]at c2;cases c2
   simp only [bne_eq_false_iff_eq]at c2
   obtain⟨y,hy,e⟩:=Qb e
   unfold Qgv at hy
   rw [QiF,Qn]at hy
   unfold QdV at e
   rcases Qo e with⟨_,e⟩|⟨c3,e⟩
   ·cases e
   subst c3
   rcases Qo hy with⟨_,hy⟩|⟨c4,hy⟩
   ·cases hy
   rw [QiF,Qn]at hy
   simp only [QhL,Q0]at c4
   simp only [Option.some.injEq,QhL,Q0]at hy
   obtain⟨z,hz,e⟩:=Qb e
   rcases Qo e with⟨c5,e⟩|⟨c5,e⟩
   ·simp only [Option.some.injEq]at e;rw [e]at c5;cases c5
   simp only [bne_eq_false_iff_eq]at c5
   subst c5
   obtain⟨w,hw,e⟩:=Qb e
   simp only [Option.some.injEq]at e
   subst e
   exact⟨c2,c4,hy,hz,hw⟩
  have fin:c=0->Qaf b=some 0->(o.Ins∈chC b.task.Join b.task.Ins.length/\o.Outs∈chC b.task.Split b.task.Outs.length/\Qae b o.Ins=some 0/\Qam b o.Outs=some 0)->o.Task=o.Task/\∃e,idx n.Tasks o.Task=some e/\inB (szB n e) o.Vars/\o.Ins∈chC e.Join e.Ins.length/\o.Outs∈chC e.Split e.Outs.length/\∃b,QbQ n m o.Task o.Vars=some (0,b)/\Qaf b=some 0/\Qae b o.Ins=some 0/\Qam b o.Outs=some 0:=fun hc hg q=>by
   subst hc
   obtain⟨h1,_,_,_,h2,_⟩:=Qtc h hx
   exact⟨rfl,b.task,h1,h2.1,q.1,q.2.1,b,hx,hg,q.2.2.1,q.2.2.2⟩
  rcases Qo e with⟨c1,e⟩|⟨c1,e⟩
  ·simp only [beq_iff_eq]at c1
   obtain⟨g,hg,e⟩:=Qb e
   obtain⟨rfl,q⟩:=k3 g e
   exact fin c1 hg q
  have e1:=(k3 _ e).1
  simp only [beq_eq_false_iff_ne]at c1
  exact absurd e1 c1
 rintro ⟨_,e,he,h1,h2,h3,b,hb,hg,ht,hv⟩
 obtain⟨k1,k2,_⟩:=Qtc h hb
 rw [he]at k1;cases k1
 unfold Qdb
 rw [hb,Qn]
 simp only [show((0:Int)==0)=true from rfl,cond_true,hg,Qn]
 unfold Qbn
 simp only [show((0:Int) != 0)=false from rfl,cond_false]
 unfold Qgv
 rw [QiF,Qn,QH h2]
 simp only [QeQ,cond_false]
 rw [QiF,Qn,QH h3,Qn]
 unfold QdV
 simp only [QeQ,cond_false,ht,Qn,show((0:Int) != 0)=false from rfl,hv]
end Go.Proofs
noncomputable section
namespace Go.Proofs
open Go Go.RowKit Go.Vm
def InI (a:Int):Prop:=-9223372036854775808<=a/\a<=9223372036854775807
instance (a : Int):Decidable (InI a):=by unfold InI;infer_instance
theorem Qpi (x:Int):IntKind.u64.wrap x=x % 18446744073709551616:=rfl
theorem Qik {x:Int}(h:0<=x/\x<18446744073709551616):IntKind.u64.wrap x=x:=by rw [Qpi];omega
theorem QxF {x:Int}(h:0<=x):Qeg .u64 x 32=x / 4294967296:=by
 unfold Qeg
 rw [show min ((32:Int).toNat) (IntKind.bits .u64)=32 from rfl,Int.fdiv_eq_ediv_of_nonneg _ (by decide)]
 rfl
theorem QBm {x:Int}(h:0<=x/\x<18446744073709551616):QdK .u64 x 4294967295=x % 4294967296:=by
 unfold QdK
 have e:((BitVec.ofInt (IntKind.bits .u64) x &&& BitVec.ofInt (IntKind.bits .u64) 4294967295).toNat:Int)=x % 4294967296:=by
  rw [BitVec.toNat_and,BitVec.toNat_ofInt,BitVec.toNat_ofInt]
  have h1:(x % ((2:Nat) ^ (IntKind.bits .u64):Nat)).toNat=x.toNat:=by
   show(x % 18446744073709551616).toNat=x.toNat
   omega
  have h2:((4294967295:Int) % ((2:Nat) ^ (IntKind.bits .u64):Nat)).toNat=2 ^ 32-1:=by decide
  rw [h1,h2,Nat.and_two_pow_sub_one_eq_mod]
  omega
 rw [e]
 exact Qik (by omega)
theorem QxG {x y:Int}(hx:0<=x/\x<=4294967295)(hy:0<=y/\y<=4294967295):0<=x*y/\x*y<=18446744065119617025:=by
 refine⟨Int.mul_nonneg hx.1 hy.1,?_⟩
 have:=Int.mul_le_mul hx.2 hy.2 hy.1 (by decide)
 omega
theorem QBn {x y:Int}(hx:0<=x/\x<18446744073709551616)(hy:0<=y/\y<18446744073709551616):Qd5 x y=some (x*y / 18446744073709551616,x*y % 18446744073709551616):=by
 unfold Qd5
 rw [QxF hx.1,QxF hy.1,QBm hx,QBm hy,Qpi (x*y)]
 have e:x*y=(x / 4294967296)*(y / 4294967296)*18446744073709551616+((x / 4294967296)*(y % 4294967296)+(x % 4294967296)*(y / 4294967296))*4294967296+(x % 4294967296)*(y % 4294967296):=by
  have h1:x=(x / 4294967296)*4294967296+x % 4294967296:=by omega
  have h2:y=(y / 4294967296)*4294967296+y % 4294967296:=by omega
  generalize x / 4294967296=a at *
  generalize x % 4294967296=b at *
  generalize y / 4294967296=c at *
  generalize y % 4294967296=d at *
  subst h1 h2
  grind
 rw [e]
 have b1:=QxG (x:=x / 4294967296) (y:=y / 4294967296) (by omega) (by omega)
 have b2:=QxG (x:=x / 4294967296) (y:=y % 4294967296) (by omega) (by omega)
 have b3:=QxG (x:=x % 4294967296) (y:=y / 4294967296) (by omega) (by omega)
 have b4:=QxG (x:=x % 4294967296) (y:=y % 4294967296) (by omega) (by omega)
 generalize x / 4294967296*(y / 4294967296)=p at *
 generalize x / 4294967296*(y % 4294967296)=q at *
 generalize x % 4294967296*(y / 4294967296)=r at *
 generalize x % 4294967296*(y % 4294967296)=s at *
 rw [Qik (x:=s) (by omega),QxF (x:=s) (by omega),Qik (x:=q) (by omega),Qik (x:=q+s / 4294967296) (by omega),QxF (x:=q+s / 4294967296) (by omega),QBm (x:=q+s / 4294967296) (by omega),Qik (x:=r) (by omega),Qik (x:=p) (by omega),
  Qik (x:=(q+s / 4294967296) % 4294967296+r) (by omega),QxF (x:=(q+s / 4294967296) % 4294967296+r) (by omega),Qik (x:=p+(q+s / 4294967296) / 4294967296) (by omega),Qik (by omega)]
 congr 2
 omega
def QeE (a:Int):Int:=if a<0 then -a else a
theorem QyE {a:Int}(h:InI a):QgN a=some (QeE a):=by
 unfold QgN QeE InI at *
 by_cases c:a<0
 ·rw [QH c,cond_true,if_pos c,Qpi,Qpi];congr 1;omega
 rw [QJ c,cond_false,if_neg c,Qpi];congr 1;omega
theorem QAy (a b:Int):QeE a*QeE b=QeE (a*b):=by
 unfold QeE
 by_cases c1:a<0<;>by_cases c2:b<0
 ·rw [if_pos c1,if_pos c2,if_neg (by have:=Int.mul_pos_of_neg_of_neg c1 c2;omega),Int.neg_mul_neg]
 ·rw [if_pos c1,if_neg c2]
  by_cases c3:b=0
  ·subst c3;simp
  rw [if_pos (Int.mul_neg_of_neg_of_pos c1 (by omega)),Int.neg_mul]
 ·rw [if_neg c1,if_pos c2]
  by_cases c3:a=0
  ·subst c3;simp
  rw [if_pos (Int.mul_neg_of_pos_of_neg (by omega) c2),Int.mul_neg]
 rw [if_neg c1,if_neg c2,if_neg (by have:=Int.mul_nonneg (show 0<=a by omega) (show 0<=b by omega);omega)]
def Qnx (a b:Int):Int×Int:=if InI (a*b)then(a*b,0)else(0,6)
theorem QuV {a b:Int}(ha:InI a)(hb:InI b):Qfv a b=some (Qnx a b):=by
 unfold Qfv
 have h1:0<=QeE a/\QeE a<=9223372036854775808:=by unfold QeE InI at *;split<;>omega
 have h2:0<=QeE b/\QeE b<=9223372036854775808:=by unfold QeE InI at *;split<;>omega
 have h3:0<=QeE a*QeE b:=Int.mul_nonneg h1.1 h2.1
 rw [QyE ha,Qn,QyE hb,Qn,QBn (by omega) (by omega),Qn]
 rw [QAy]at h3 ⊢
 have sg:(decide (a<0) != decide (b<0))=true\/(decide (a<0) != decide (b<0))=false:=by cases (decide (a<0) != decide (b<0))<;>simp
 have hsg:(decide (a<0) != decide (b<0))=true->a*b<=0:=fun h=>by
  by_cases c1:a<0<;>by_cases c2:b<0<;>simp [c1,c2]at h
  ·exact Int.mul_nonpos_of_nonpos_of_nonneg (by omega) (by omega)
  exact Int.mul_nonpos_of_nonneg_of_nonpos (by omega) (by omega)
 have hsg2:(decide (a<0) != decide (b<0))=false->0<=a*b:=fun h=>by
  by_cases c1:a<0<;>by_cases c2:b<0<;>simp [c1,c2]at h
  ·have:=Int.mul_pos_of_neg_of_neg c1 c2;omega
  exact Int.mul_nonneg (by omega) (by omega)
 have hw:InI (a*b)->w64 (a*b)=a*b:=fun h=>QaK h
 generalize hm:a*b=m at *
 unfold Qnx
 rw [hm]
 unfold QeE at h3 ⊢
 rcases sg with c | c
 ·rw [c,cond_true]
  have:=hsg c
  unfold QcW
  rw [hm,Qpi]
  simp only
  by_cases ci:InI m
  ·rw [if_pos ci,hw ci]
   unfold InI at ci
   rw [QJ (by split<;>omega),QJ (by split<;>omega)];rfl
  rw [if_neg ci]
  have:decide (0<(if m<0 then -m else m) / 18446744073709551616)=true\/decide ((9223372036854775807+1) % 18446744073709551616<(if m<0 then -m else m) % 18446744073709551616)=true:=by
   unfold InI at ci
   rw [Q0,Q0]
   split<;>omega
  rcases this with h | h
  ·rw [h];rfl
  rw [h,Bool.or_true];rfl
 rw [c,cond_false]
 have:=hsg2 c
 unfold QcW
 rw [hm]
 simp only
 by_cases ci:InI m
 ·rw [if_pos ci,hw ci]
  unfold InI at ci
  rw [QJ (by split<;>omega),QJ (by split<;>omega)];rfl
 rw [if_neg ci]
 have:decide (0<(if m<0 then -m else m) / 18446744073709551616)=true\/decide ((9223372036854775807:Int)<(if m<0 then -m else m) % 18446744073709551616)=true:=by
  unfold InI at ci
  rw [Q0,Q0]
  split<;>omega
 rcases this with h | h
 ·rw [h];rfl
 rw [h,Bool.or_true];rfl
def QzY (a b:Int):Int×Int:=if InI (a+b)then(a+b,0)else(0,6)
theorem QC1 {a b:Int}(ha:InI a)(hb:InI b):QhT a b=some (QzY a b):=by
 unfold QhT QzY
 by_cases ci:InI (a+b)
 ·rw [if_pos ci,QaK ci]
  have:((decide (a<0)==decide (b<0))&&(decide (a+b<0) != decide (a<0)))=false:=by
   by_cases c1:a<0<;>by_cases c2:b<0<;>simp [c1,c2]<;>omega
  rw [this];rfl
 rw [if_neg ci]
 have hw:w64 (a+b)=if a+b<0 then a+b+18446744073709551616 else a+b-18446744073709551616:=by
  rw [Qwu];unfold wrap64 InI at *;split<;>omega
 have:((decide (a<0)==decide (b<0))&&(decide (w64 (a+b)<0) != decide (a<0)))=true:=by
  rw [hw]
  unfold InI at *
  by_cases c1:a<0<;>by_cases c2:b<0<;>by_cases c3:a+b<0<;>simp [c1,c2,c3]<;>omega
 rw [this];rfl
theorem QD8 {a b:Int}(ha:InI a)(hb:InI b):QbC 3 a b=some (Qnx a b):=by
 unfold QbC
 rw [show((3:Int)==1)=false from rfl,cond_false,show((3:Int)==2)=false from rfl,cond_false,show((3:Int)==3)=true from rfl,cond_true,QuV ha hb];rfl
theorem QD9 {a b:Int}(ha:InI a)(hb:InI b):QbC 1 a b=some (QzY a b):=by
 unfold QbC
 rw [show((1:Int)==1)=true from rfl,cond_true,QC1 ha hb];rfl
end Go.Proofs
noncomputable section
namespace Go.Proofs
open Go Go.RowKit Go.Vm
theorem QDw {a b:Int}(ha:InI a)(hb:InI b):Qdo 1 a b=some (QzY a b):=by
 unfold Qdo
 show(Qlp a b).bind _=_
 unfold Qlp QzY
 have hc:(bif (decide (0<b))then((decide ((w64 (9223372036854775807-b))<a))||((decide (b<0))&&(decide (a<(w64 ((-9223372036854775808)-b))))))else((decide (b<0))&&(decide (a<(w64 ((-9223372036854775808)-b))))))=decide (¬InI (a+b)):=by
  unfold InI at *
  by_cases b1:0<b
  ·rw [QH b1,cond_true,QJ (by omega:¬b<0),Qny,Bool.or_false,QaK (by omega)]
   exact decide_eq_decide.2 (by omega)
  rw [QJ b1,cond_false]
  by_cases b2:b<0
  ·rw [QH b2,QoZ,QaK (by omega)]
   exact decide_eq_decide.2 (by omega)
  rw [QJ b2,Qny,eq_comm,QaT]
  omega
 rw [hc]
 by_cases c:InI (a+b)
 ·rw [QJ (by simpa using c),cond_false,QaK c,if_pos c];rfl
 rw [QH c,cond_true,if_neg c];rfl
theorem QCg {x y a b:Int}(hx:0<=x/\x<=9223372036854775807)(hy:0<y/\y<=9223372036854775807)(ha:x=QeE a)(hb:y=QeE b)(ha0:a≠0):(Qfz x a b y).bind (fun x16=>Qgj x16.1 x16.2)=some (Qnx a b):=by
 have hm:x*y=QeE (a*b):=by rw [ha,hb,QAy]
 unfold Qfz
 rw [QnM (by simpa using (by omega:y≠0)),Qn,Int.tdiv_eq_ediv_of_nonneg (by decide)]
 have d1:0<=9223372036854775807 / y:=Int.ediv_nonneg (by decide) (by omega)
 have d2:9223372036854775807 / y<=9223372036854775807:=Int.ediv_le_self _ (by decide)
 rw [QaK (by omega)]
 have le1:x<=9223372036854775807 / y↔x*y<=9223372036854775807:=Int.le_ediv_iff_mul_le hy.1
 by_cases c:x<=9223372036854775807 / y
 ·have:=le1.1 c
  have hin:InI (a*b):=by unfold InI QeE at *;split at hm<;>omega
  rw [QH c,cond_true,QaK hin]
  unfold Qnx;rw [if_pos hin];rfl
 have:=fun h=>c (le1.2 h)
 rw [QJ c,cond_false]
 unfold Qsa
 have sg:(bif (decide (a<0))then((decide (0<b))||((decide (0<a))&&(decide (b<0))))else((decide (0<a))&&(decide (b<0))))=decide (a*b<0):=by
  have hb0:b≠0:=by intro h;subst h;unfold QeE at hb;simp at hb;omega
  by_cases c1:a<0<;>by_cases c2:b<0
  ·have:=Int.mul_pos_of_neg_of_neg c1 c2
   rw [QH c1,QJ (by omega:¬0<b),QJ (by omega:¬0<a),QJ (by omega:¬a*b<0)];rfl
  ·have:=Int.mul_neg_of_neg_of_pos c1 (by omega:0<b)
   rw [QH c1,QH (by omega:0<b),QH this];rfl
  ·have:=Int.mul_neg_of_pos_of_neg (by omega:0<a) c2
   rw [QJ c1,QH (by omega:0<a),QH c2,QH this];rfl
  have:=Int.mul_nonneg (by omega:0<=a) (by omega:0<=b)
  rw [QJ c1,QJ c2,QJ (by omega:¬a*b<0),Bool.and_false];rfl
 rw [sg]
 by_cases c3:a*b<0
 ·rw [QH c3,cond_true,QnM (by simpa using (by omega:y≠0)),Qn,QaK (by omega:-9223372036854775808<=y-1/\y-1<=9223372036854775807),QaK (by omega:-9223372036854775808<=9223372036854775807-(y-1)/\9223372036854775807-(y-1)<=9223372036854775807),QaK (by omega:-9223372036854775808<=x-1/\x-1<=9223372036854775807),Int.tdiv_eq_ediv_of_nonneg (by omega)]
  have d3:0<=(9223372036854775807-(y-1)) / y:=Int.ediv_nonneg (by omega) (by omega)
  have d4:(9223372036854775807-(y-1)) / y<=9223372036854775807-(y-1):=Int.ediv_le_self _ (by omega)
  rw [QaK (by omega)]
  have le2:x-1<=(9223372036854775807-(y-1)) / y↔(x-1)*y<=9223372036854775807-(y-1):=Int.le_ediv_iff_mul_le hy.1
  have e3:(x-1)*y=x*y-y:=by rw [Int.sub_mul,Int.one_mul]
  rw [e3]at le2
  unfold QeE at hm
  rw [if_pos c3]at hm
  unfold Qnx
  by_cases c4:x-1<=(9223372036854775807-(y-1)) / y
  ·have h4:=le2.1 c4
   have e4:x*y=9223372036854775808:=by omega
   rw [QH c4,cond_true,e4,if_pos (by unfold InI;omega),show a*b=-9223372036854775808 by omega]
   rfl
  have h4:=fun h=>c4 (le2.2 h)
  rw [QJ c4,cond_false,if_neg (by unfold InI;omega)]
  rfl
 rw [QJ c3,cond_false]
 unfold QeE at hm
 rw [if_neg c3]at hm
 unfold Qnx
 rw [if_neg (by unfold InI;omega)]
 rfl
theorem QDx {a b:Int}(ha:InI a)(hb:InI b):Qdo 3 a b=some (Qnx a b):=by
 unfold Qdo
 show(QnK a b).bind _=_
 unfold QnK
 by_cases z:a=0\/b=0
 ·rw [show((a==0)||(b==0))=true by simpa using z,cond_true]
  have:a*b=0:=Int.mul_eq_zero.2 z
  unfold Qnx
  rw [this];rfl
 rw [show((a==0)||(b==0))=false by simpa using z,cond_false]
 simp only [not_or]at z
 by_cases m:a=-9223372036854775808\/b=-9223372036854775808
 ·rw [show((a==(-9223372036854775808))||(b==(-9223372036854775808)))=true by simpa using m,cond_true]
  by_cases o:a=1\/b=1
  ·rw [show((a==1)||(b==1))=true by simpa using o,cond_true]
   have hin:InI (a*b):=by
    rcases o with rfl | rfl
    ·rwa [Int.one_mul]
    rwa [Int.mul_one]
   rw [QaK hin]
   unfold Qnx;rw [if_pos hin];rfl
  rw [show((a==1)||(b==1))=false by simpa using o,cond_false]
  simp only [not_or]at o
  have hin:¬InI (a*b):=by
   unfold InI
   rcases m with rfl | rfl
   ·omega
   omega
  unfold Qnx;rw [if_neg hin];rfl
 rw [show((a==(-9223372036854775808))||(b==(-9223372036854775808)))=false by simpa using m,cond_false]
 simp only [not_or]at m
 unfold InI at ha hb
 have k4:∀x,0<=x/\x<=9223372036854775807->x=QeE a->(Qhw b a x).bind (fun x16=>Qgj x16.1 x16.2)=some (Qnx a b):=fun x hx he=>by
  unfold Qhw
  by_cases c:b<0
  ·rw [QH c,cond_true,QaK (by omega)]
   exact QCg hx (by omega) he (by unfold QeE;rw [if_pos c];omega) z.1
  rw [QJ c,cond_false]
  exact QCg hx (by omega) he (by unfold QeE;rw [if_neg c]) z.1
 by_cases c:a<0
 ·rw [QH c,cond_true,QaK (by omega)]
  exact k4 _ (by omega) (by unfold QeE;rw [if_pos c];omega)
 rw [QJ c,cond_false]
 exact k4 _ (by omega) (by unfold QeE;rw [if_neg c])
theorem eqO {o p:Option (List (List Int))}(h:decide (o=p)=true):o=p:=Qai h
set_option maxRecDepth 100000 in
theorem QzZ (kind arcs:Int):QeY kind arcs=QaC kind arcs:=by
 by_cases hg:((decide (arcs<0))||((decide (16<arcs))||((kind==3)&&(decide (4<arcs)))))=true
 ·unfold QaC QeY
  rw [hg,cond_true,cond_true]
 have hg':=hg
 simp only [QcM,QB,Q0,beq_iff_eq,not_or,not_and]at hg
 obtain⟨h0,h1,h2⟩:=hg
 by_cases e1:kind=1
 ·subst e1
  rcases QzT h0 h1 with rfl | rfl | rfl | rfl | rfl | rfl | rfl | rfl | rfl | rfl | rfl | rfl | rfl | rfl | rfl | rfl | rfl<;>exact eqO (by kernel_rfl)
 by_cases e2:kind=2
 ·subst e2
  rcases QzT h0 h1 with rfl | rfl | rfl | rfl | rfl | rfl | rfl | rfl | rfl | rfl | rfl | rfl | rfl | rfl | rfl | rfl | rfl<;>exact eqO (by kernel_rfl)
 by_cases e3:kind=3
 ·subst e3
  have h3:=h2 rfl
  have:arcs=0\/arcs=1\/arcs=2\/arcs=3\/arcs=4:=by omega
  rcases this with rfl | rfl | rfl | rfl | rfl<;>exact eqO (by kernel_rfl)
 have f1:(kind==1)=false:=by simpa using e1
 have f2:(kind==2)=false:=by simpa using e2
 have f3:(kind==3)=false:=by simpa using e3
 have t0:∃l,Qy (fun st=>Qj3 arcs st.1 st.2) (0,([]:List Int))=some l:=by
  rcases QzT h0 h1 with rfl | rfl | rfl | rfl | rfl | rfl | rfl | rfl | rfl | rfl | rfl | rfl | rfl | rfl | rfl | rfl | rfl<;>exact Option.isSome_iff_exists.1 (by kernel_rfl)
 obtain⟨l,hl⟩:=t0
 rw [QiS]at hg'
 unfold QaC QeY
 rw [hg',cond_false,cond_false,hl,Qn]
 unfold QiO
 rw [f1,f2,f3]
 rfl
theorem QDy {a b:Int}(ha:InI a)(hb:InI b):Qdo 2 a b=QbC 2 a b:=by
 unfold Qdo QbC
 show(Qlq a b).bind _=(QcV a b).bind _
 unfold Qlq QcV
 have hc:(bif (decide (b<0))then((decide ((w64 (9223372036854775807+b))<a))||((decide (0<b))&&(decide (a<(w64 ((-9223372036854775808)+b))))))else((decide (0<b))&&(decide (a<(w64 ((-9223372036854775808)+b))))))=decide (¬InI (a-b)):=by
  unfold InI at *
  by_cases b1:b<0
  ·rw [QH b1,cond_true,QJ (by omega:¬0<b),Qny,Bool.or_false,QaK (by omega)]
   exact decide_eq_decide.2 (by omega)
  rw [QJ b1,cond_false]
  by_cases b2:0<b
  ·rw [QH b2,QoZ,QaK (by omega)]
   exact decide_eq_decide.2 (by omega)
  rw [QJ b2,Qny,eq_comm,QaT]
  omega
 have hd:(((decide (a<0)) != (decide (b<0)))&&((decide ((w64 (a-b))<0)) != (decide (a<0))))=decide (¬InI (a-b)):=by
  have e:w64 (a-b)=wrap64 (a-b):=Qwu _
  rw [e]
  unfold wrap64 InI at *
  apply Bool.eq_iff_iff.2
  simp only [QB,bne_iff_ne,ne_eq,decide_eq_decide,Q0]
  omega
 rw [hc,hd]
 by_cases c:InI (a-b)
 ·rw [QJ (by simpa using c),cond_false,cond_false];rfl
 rw [QH c,cond_true,cond_true];rfl
theorem QCh {op a b:Int}(ha:InI a)(hb:InI b):Qdo op a b=QbC op a b:=by
 by_cases h1:op=1
 ·subst h1;rw [QDw ha hb,QD9 ha hb]
 by_cases h2:op=2
 ·subst h2;exact QDy ha hb
 by_cases h3:op=3
 ·subst h3;rw [QDx ha hb,QD8 ha hb]
 unfold Qdo QbC
 have b1:(op==1)=false:=by simpa using h1
 have b2:(op==2)=false:=by simpa using h2
 have b3:(op==3)=false:=by simpa using h3
 have y:∀c:Bool,QdP c=some (bif c then 1 else 0)/\QbJ c=some (bif c then 1 else 0,0):=fun c=>by cases c<;>exact⟨rfl,rfl⟩
 rw [b1,b2,b3]
 simp only [cond_false]
 by_cases h4:op=4
 ·subst h4
  unfold Qgk Qcs
  rw [show((4:Int)==4)=true from rfl,cond_true,cond_true,cond_true]
  by_cases c:b=0
  ·subst c;rfl
  rw [show(b==0)=false by simpa using c,cond_false,cond_false,QnM (by simpa using c)]
  cases ((a==(-9223372036854775808))&&(b==(-1)))<;>rfl
 by_cases h5:op=5
 ·subst h5
  unfold Qgk Qcs
  rw [show((5:Int)==4)=false from rfl,show((5:Int)==5)=true from rfl,cond_false,cond_true,cond_true,cond_false,cond_false]
  by_cases c:b=0
  ·subst c;rfl
  rw [show(b==0)=false by simpa using c,cond_false,cond_false,QnM (by simpa using c)]
  cases ((a==(-9223372036854775808))&&(b==(-1)))<;>rfl
 have b4:(op==4)=false:=by simpa using h4
 have b5:(op==5)=false:=by simpa using h5
 rw [b4,b5]
 unfold Qgk Qtz QlJ QtA QlK QmC QjM QmD QjN
 simp only [cond_false,fun c=>(y c).1,fun c=>(y c).2,Qn]
 cases (op==6)<;>cases (op==7)<;>cases (op==8)<;>cases (op==9)<;>cases (op==10)<;>cases (op==11)<;>cases (a != 0)<;>rfl
theorem Qzc (x:Int):InI (w64 x):=by
 have e:w64 x=wrap64 x:=Qwu _
 rw [e];unfold wrap64 InI;omega
theorem QDb {op a b:Int}(ha:InI a)(hb:InI b){r:Int×Int}(h:QbC op a b=some r):InI r.1:=by
 have z:InI 0:=by unfold InI;omega
 have o:InI 1:=by unfold InI;omega
 have y:∀c:Bool,∃n,QbJ c=some (n,0)/\InI n:=fun c=>by cases c;exact⟨0,rfl,z⟩;exact⟨1,rfl,o⟩
 have yy:∀(c:Bool) {r:Int×Int},((QbJ c).bind fun x=>some (x.1,x.2))=some r->InI r.1:=fun c r h=>by
  obtain⟨n,e,hn⟩:=y c
  rw [e]at h;cases h;exact hn
 have tm:InI (Int.tmod a b):=by
  by_cases hb0:b=0
  ·subst hb0;rw [Int.tmod_zero];exact ha
  unfold InI at *
  have h2:(Int.tmod a b).natAbs<b.natAbs:=by rw [Int.natAbs_tmod];exact Nat.mod_lt _ (by omega)
  omega
 have q:∀{r:Int×Int×Int},Qcs a b=some r->InI r.1/\InI r.2.1:=fun {r} h=>by
  unfold Qcs at h
  rcases Qo h with⟨_,h⟩|⟨_,h⟩
  ·cases h;exact⟨z,z⟩
  rcases Qo h with⟨_,h⟩|⟨_,h⟩
  ·cases h;exact⟨z,z⟩
  obtain⟨_,_,h⟩:=Qb h
  obtain⟨_,_,h⟩:=Qb h
  cases h;exact⟨Qzc _,tm⟩
 unfold QbC at h
 rcases Qo h with⟨_,h⟩|⟨_,h⟩
 ·obtain⟨x,hx,h⟩:=Qb h
  cases h
  unfold QhT at hx
  rcases Qo hx with⟨_,h⟩|⟨_,h⟩<;>cases h
  ·exact z
  exact Qzc _
 rcases Qo h with⟨_,h⟩|⟨_,h⟩
 ·obtain⟨x,hx,h⟩:=Qb h
  cases h
  unfold QcV at hx
  rcases Qo hx with⟨_,h⟩|⟨_,h⟩<;>cases h
  ·exact z
  exact Qzc _
 rcases Qo h with⟨_,h⟩|⟨_,h⟩
 ·obtain⟨x,hx,h⟩:=Qb h
  cases h
  rw [QuV ha hb]at hx
  unfold Qnx at hx
  split at hx<;>cases hx
  ·assumption
  exact z
 rcases Qo h with⟨_,h⟩|⟨_,h⟩
 ·obtain⟨x,hx,h⟩:=Qb h
  cases h;exact(q hx).1
 rcases Qo h with⟨_,h⟩|⟨_,h⟩
 ·obtain⟨x,hx,h⟩:=Qb h
  cases h;exact(q hx).2
 iterate 4
  rcases Qo h with⟨_,h⟩|⟨_,h⟩
  ·exact yy _ h
 rcases Qo h with⟨_,h⟩|⟨_,h⟩
 ·obtain⟨x,hx,h⟩:=Qb h
  cases h
  unfold QmC at hx
  rcases Qo hx with⟨_,h⟩|⟨_,h⟩<;>exact yy _ h
 rcases Qo h with⟨_,h⟩|⟨_,h⟩
 ·obtain⟨x,hx,h⟩:=Qb h
  cases h
  unfold QmD at hx
  rcases Qo hx with⟨_,h⟩|⟨_,h⟩<;>exact yy _ h
 cases h;exact z
end Go.Proofs
noncomputable section
namespace Go.Proofs
open Go Go.RowKit Go.Vm
theorem QCi {α:Type}{l:List α}(p:α->Bool){body:Int->Option (Int⊕(Int⊕Unit))}(hs:∀(i:Nat) x,i<l.length->l[i]? = some x->body (i:Int)=some (bif p x then .inr (.inl (i:Int))else .inl ((i+1:Nat):Int)))(hf:body (l.length:Int)=some (.inr (.inr ()))):
  Qy body 0=some ((QkR (fun _ x=>p x) 0 l).elim (Sum.inr ()) fun i=>Sum.inl (i:Int)):=
 QBZ (fun i:Nat=>(i:Int)) (fun _ x=>p x) (fun i=>Sum.inl (i:Int)) (Sum.inr ()) hs hf rfl
theorem QDc {α:Type}(p:α->Bool)(l:List α):decide (0<=(QkR (fun _ x=>p x) 0 l).elim (-1:Int) fun i=>(i:Int))=l.any p:=by
 cases h:QkR (fun _ x=>p x) 0 l with
 | none=>
  have:=QBh h
  symm
  rw [show decide ((0:Int)<=(none:Option Nat).elim (-1:Int) fun i=>(i:Int))=false from rfl,List.any_eq_false]
  intro x hx
  obtain⟨i,hi⟩:=Qlu.1 hx
  simpa using this i x hi
 | some n=>
  obtain⟨i,x,h1,h2,h3⟩:=QBf h
  symm
  rw [show decide ((0:Int)<=(some n).elim (-1:Int) fun i=>(i:Int))=true from QH (Int.natCast_nonneg n),Qlt]
  exact⟨x,Qaa h2,h3⟩
theorem QAz {α:Type}(f:α->Bool):∀(l:List α) (k:Nat) (t:Bool),QgI (fun (_:Nat) (t:Bool) x=>(bif t then .inl (f x)else .inr t:Bool⊕Bool)) (fun t=>t) k t l=(t&&l.all f)
 | [],_,t=>by simp [QgI]
 | x::l,k,t=>by
  rw [QgI]
  cases t with
  | true=>rw [cond_true,Sum.elim_inl,QAz f l];simp
  | false=>rfl
theorem QBo (n:Nat)(e:Qh):QdZ n e=Qce n e:=by
 have:∀n,QdZ n=Qce n:=fun n=>by
  induction n with
  | zero=>rfl
  | succ n ih=>
   funext e
   show QmW (QdZ n) e=Qkn (Qce n) e
   rw [ih];rfl
 rw [this]
theorem QCj (n:Nat)(e:Qh):QeA n e=QcK n e:=by
 have:∀n,QeA n=QcK n:=fun n=>by
  induction n with
  | zero=>rfl
  | succ n ih=>
   funext e
   show Qns (QeA n) e=Qly (QcK n) e
   rw [ih];rfl
 rw [this]
theorem QBp {e:Qh}{rec_:Qh->Int->Option Bool}{v:Int}{p:Qh->Bool}(hl:e.Kids.length<=maxLen)(h:∀k∈e.Kids,rec_ k v=some (p k))(ok:Bool):Qb6 e rec_ v ok=some (ok&&e.Kids.all p):=by
 unfold Qb6
 rw [Qmc (body:=fun st=>Qdu e rec_ v st.1 st.2) (l:=e.Kids) (fun i (t:Bool)=>(t,(i:Int))) (fun _ t x=>bif t then .inl (p x)else .inr t) (fun t=>t) (fun i t x hi hx=>by
  show Qdu e rec_ v t (i:Int)=_
  unfold Qdu
  rw [QH (by omega),QoZ]
  cases t with
  | false=>rfl
  | true=>rw [cond_true,Q7,hx,Qn,h x (Qaa hx),Qn,Qx hi hl];rfl) (fun t=>by
  show Qdu e rec_ v t (e.Kids.length:Int)=_
  unfold Qdu
  rw [QJ (by omega),Qny];rfl) ok (s0:=(ok,0)) rfl,QAz]
 rfl
theorem QCk {l:List Qh}{rec_:Qh->Int->Option Bool}{v:Int}{p:Qh->Bool}(hl:l.length<=maxLen)(h:∀k∈l,rec_ k v=some (p k)):Q8 rec_ l v=some (!(l.all p)):=by
 unfold Q8 Qbm
 rw [QCi (l:=l) (fun k=>!p k) (fun i x hi hx=>by
  show Q1 l rec_ v i=_
  unfold Q1 Qkp
  rw [QH (by omega),cond_true,Q7,hx,Qn,h x (Qaa hx),Qn,Qn,Qx hi hl]
  cases p x<;>rfl) (by
  show Q1 l rec_ v l.length=_
  unfold Q1
  rw [QJ (by omega),cond_false])]
 have e:(!(l.all p))=l.any fun k=>!p k:=by rw [List.all_eq_not_any_not,Bool.not_not]
 rw [e,<-QDc]
 cases QkR (fun _ k=>!p k) 0 l<;>rfl
theorem QxH : ∀(n:Nat) (e:Qh) (v:Int),Qcz e->SizeOf.sizeOf e<=n->Qd0 n e v=QaJ n e v
 | 0,e,_,_,h=>absurd e.pos (by omega)
 | n+1,e,v,he,h=>by
  have hkl:=(QcH he).1
  have tot:∀k∈e.Kids,QaJ n k v=some ((QaJ n k v).getD false):=fun k hk=>by
   obtain⟨r,hr,_⟩:=Ql5 n k v ((QcH he).2 k hk) (by have:=Qn6 hk;omega)
   rw [hr];rfl
  have tot2:∀k∈e.Kids,Qd0 n k v=some ((QaJ n k v).getD false):=fun k hk=>by
   rw [QxH n k v ((QcH he).2 k hk) (by have:=Qn6 hk;omega)];exact tot k hk
  show Qjv (Qd0 n) e v=Qhm (QaJ n) e v
  have k3:=QBp hkl tot2
  generalize hp:(fun k=>(QaJ n k v).getD false)=p at *
  have c3:Q8 (QaJ n) e.Kids v=some (!(e.Kids.all p)):=QCk hkl fun k hk=>by rw [<-hp];exact tot k hk
  unfold Qjv Qig Qp8 QfP Qhm Qmx Qgu Qok QjL Qlb Qfu Qft
  rw [c3]
  simp only [k3,Qn]
  by_cases h1:e.Kind=1
  ·simp only [h1,show((1:Int)==1)=true from rfl,show((1:Int)==2)=false from rfl,show((1:Int)==5)=false from rfl,cond_true,cond_false,Qn,Qny]
   by_cases c:(e.Kids.length:Int)=0
   ·rw [show((e.Kids.length:Int)==0)=true by simpa using c,show((e.Kids.length:Int) != 0)=false by simpa using c];simp
   rw [show((e.Kids.length:Int)==0)=false by simpa using c,show((e.Kids.length:Int) != 0)=true by simpa using c];rfl
  by_cases h2:e.Kind=2
  ·simp only [h2,show((2:Int)==1)=false from rfl,show((2:Int)==2)=true from rfl,show((2:Int)==5)=false from rfl,cond_true,cond_false,Qn,QoZ]
   by_cases c:(e.Kids.length:Int)=0
   ·rw [show((e.Kids.length:Int)==0)=true by simpa using c,show((e.Kids.length:Int) != 0)=false by simpa using c]
    by_cases d:0<=e.Num
    ·by_cases f:e.Num<v
     ·rw [QH d,QH f,QJ (by omega:¬e.Num<0),QJ (by omega:¬v<=e.Num)];simp
     rw [QH d,QJ f,QJ (by omega:¬e.Num<0),QH (by omega:v<=e.Num)];simp
    rw [QJ d,QH (by omega:e.Num<0)];simp
   rw [show((e.Kids.length:Int)==0)=false by simpa using c,show((e.Kids.length:Int) != 0)=true by simpa using c];simp
  have b1:(e.Kind==1)=false:=by simpa using h1
  have b2:(e.Kind==2)=false:=by simpa using h2
  simp only [b1,b2,cond_false,Qny]
  have two:∀(m:Int) (q:Bool),((bif ((e.Kids.length:Int) != m)then some false else(bif q then some false else some (!(!(e.Kids.all p))))):Option Bool)=some ((((e.Kids.length:Int)==m)&&!q)&&e.Kids.all p):=fun m q=>by
   by_cases c:(e.Kids.length:Int)=m
   ·rw [show((e.Kids.length:Int)==m)=true by simpa using c,show((e.Kids.length:Int) != m)=false by simpa using c];cases q<;>simp
   rw [show((e.Kids.length:Int)==m)=false by simpa using c,show((e.Kids.length:Int) != m)=true by simpa using c];rfl
  have neg:((e.Kids.length:Int) != -1)=true:=by simp
  by_cases h3:e.Kind=3
  ·have:=two 1 false
   simp only [h3,show((3:Int)==3)=true from rfl,show((3:Int)==5)=false from rfl,cond_true,cond_false,Qn]at this ⊢
   rw [this];simp
  by_cases h4:e.Kind=4
  ·have:=two 1 false
   simp only [h4,show((4:Int)==3)=false from rfl,show((4:Int)==4)=true from rfl,show((4:Int)==5)=false from rfl,cond_true,cond_false,Qn]at this ⊢
   rw [this];simp
  have b3:(e.Kind==3)=false:=by simpa using h3
  have b4:(e.Kind==4)=false:=by simpa using h4
  simp only [b3,b4,cond_false]
  by_cases h5:e.Kind=5
  ·have:=two 2 (!((decide (1<=e.Num))&&(decide (e.Num<=11))))
   simp only [h5,show((5:Int)==5)=true from rfl,cond_true,cond_false,Qn]at this ⊢
   rw [this]
   cases ((e.Kids.length:Int)==2)<;>simp
  have b5:(e.Kind==5)=false:=by simpa using h5
  simp only [b5,cond_false]
  by_cases h6:e.Kind=6
  ·have:=two 3 false
   simp only [h6,show((6:Int)==6)=true from rfl,cond_true,cond_false,Qn]at this ⊢
   rw [this];simp
  have b6:(e.Kind==6)=false:=by simpa using h6
  simp only [b6,cond_false,Qn,neg,cond_true,Qny]
theorem QBq (e:Qh)(v:Int)(h:Qcz e):QlI e v=QeL e v:=by
 unfold QlI QeL Qp9 Qmz Qoj Qmw Qp6 QnG Qol Qmy
 rw [QBo,QCj,QxH _ e v h (Qc2 _)]
 rfl
inductive RE : Qh->Prop where
 | mk (e:Qh):InI e.Num->(∀k∈e.Kids,RE k)->RE e
theorem QyF : ∀(n:Nat) (v:List Int) (e:Qh),POk v.length e->RE e->(∀x∈v,InI x)->SizeOf.sizeOf e<=n->∃r,Q5 n v e=some r/\QeB n e v=some r/\InI r.1
 | 0,_,e,_,_,_,h=>absurd e.pos (by omega)
 | n+1,v,e,he,hr,hv,h=>by
  cases he with
  | mk _ hk h2 h3 h5 h6 hp=>
  cases hr with
  | mk _ hnum hkr=>
  have z:InI 0:=by unfold InI;omega
  have o:InI 1:=by unfold InI;omega
  have sub:∀(j:Nat) (hj:j<e.Kids.length),∃r,Q5 n v (e.Kids[j])=some r/\QeB n (e.Kids[j]) v=some r/\InI r.1:=fun j hj=>
   QyF n v _ (hp _ (Qbk hj)) (hkr _ (Qbk hj)) hv (by have:=Qn6 (Qbk hj);omega)
  have kid:∀(j:Nat) (hj:j<e.Kids.length),idx e.Kids (j:Int)=some e.Kids[j]:=fun j hj=>by rw [Q7,QM hj]
  show ∃r,Qfb (Q5 n) v e=some r/\QkO (QeB n) e v=some r/\InI r.1
  unfold Qfb QkO Qcr QbV
  by_cases k1:e.Kind=1
  ·rw [k1]
   exact⟨(e.Num,0),rfl,rfl,hnum⟩
  by_cases k2:e.Kind=2
  ·have hh:=h2 k2
   have hx:idx v e.Num=some (v[e.Num.toNat]'(by omega)):=Qm1 hh.1 hh.2
   rw [k2]
   refine⟨(v[e.Num.toNat]'(by omega),0),?_,?_,hv _ (Qbk _)⟩
   ·show(Qdy e v)=_
    unfold Qdy QfU
    rw [hx];rfl
   show(idx v e.Num).bind _=_
   rw [hx];rfl
  have b1:(e.Kind==1)=false:=by simpa using k1
  have b2:(e.Kind==2)=false:=by simpa using k2
  have l1:1<=e.Kids.length:=by
   by_cases k3:e.Kind=3\/e.Kind=4
   ·have:=h3 k3;omega
   by_cases k5:e.Kind=5
   ·have:=h5 k5;omega
   have:=h6 (by omega);omega
  obtain⟨a,a1,a2,a3⟩:=sub 0 (by omega)
  have kid0:idx e.Kids 0=some (e.Kids[0]'(by omega)):=kid 0 (by omega)
  rw [b1,b2]
  simp only [cond_false,kid0,Qn,a2]
  by_cases k34:e.Kind=3\/e.Kind=4
  ·have ed:((bif e.Kind==3 then bif e.Kind==3 then some (.inr (.inr (.inl v)))else bif e.Kind==5 then some (.inr (.inr (.inr (.inl v))))else some (.inr (.inr (.inr (.inr v))))else bif e.Kind==4 then some (.inr (.inr (.inl v)))else bif e.Kind==5 then some (.inr (.inr (.inr (.inl v))))else some (.inr (.inr (.inr (.inr v))))):Option ((List Int)⊕((List Int)⊕((List Int)⊕((List Int)⊕(List Int))))))=some (.inr (.inr (.inl v))):=by
    rcases k34 with k | k<;>rw [k]<;>rfl
   rw [ed]
   show ∃r,QbW (Q5 n) e v=some r/\_
   unfold QbW Qfa
   rw [kid0,Qn,a1,Qn]
   cases hz:(a.2 != 0)with
   | true=>exact⟨(0,a.2),rfl,rfl,z⟩
   | false=>
    simp only [cond_false]
    rcases k34 with k | k
    ·rw [k]
     simp only [show((3:Int)==3)=true from rfl,cond_true]
     unfold QmF
     rw [QCh z a3]
     have hd:=QgT 2 0 a.1
     obtain⟨d,hd,_⟩:=hd
     rw [hd]
     exact⟨d,rfl,rfl,QDb z a3 hd⟩
    rw [k]
    simp only [show((4:Int)==3)=false from rfl,show((4:Int)==4)=true from rfl,cond_true,cond_false]
    by_cases c:a.1=0
    ·rw [c];exact⟨(1,0),rfl,rfl,o⟩
    have:(a.1==0)=false:=by simpa using c
    rw [this]
    refine⟨(0,0),?_,rfl,z⟩
    show(((QbJ (a.1==0)).bind _).bind _).bind _=_
    rw [this];rfl
  have n3:¬e.Kind=3:=fun k=>k34 (.inl k)
  have n4:¬e.Kind=4:=fun k=>k34 (.inr k)
  have b3:(e.Kind==3)=false:=by simpa using n3
  have b4:(e.Kind==4)=false:=by simpa using n4
  rw [b3,b4]
  simp only [cond_false]
  by_cases k5:e.Kind=5
  ·have hl:=h5 k5
   obtain⟨b,c1,c2,c3⟩:=sub 1 (by omega)
   have kid1:idx e.Kids 1=some (e.Kids[1]'(by omega)):=kid 1 (by omega)
   rw [k5]
   show ∃r,Qdz (Q5 n) e v=some r/\_
   unfold Qdz Qkq QcX
   simp only [kid0,kid1,Qn,a1,c1,c2,show((5:Int)==6)=false from rfl,cond_false]
   cases hz:(a.2 != 0)with
   | true=>exact⟨(0,a.2),rfl,rfl,z⟩
   | false=>
    simp only [cond_false]
    cases hq:((e.Num==10)&&(a.1==0))with
    | true=>
     have:a.1=0:=by simp at hq;exact hq.2
     rw [this];exact⟨(0,0),rfl,rfl,z⟩
    | false=>
     simp only [cond_false]
     have rest:∃r,((bif (b.2 != 0)then some (0,b.2)else(QbC e.Num a.1 b.1).bind fun x16=>some (x16.1,x16.2)):Option (Int×Int))=some r/\((bif (b.2 != 0)then some (0,b.2)else(Qdo e.Num a.1 b.1).bind fun x16=>some (x16.1,x16.2)):Option (Int×Int))=some r/\InI r.1:=by
      rw [QCh a3 c3]
      obtain⟨d,hd,_⟩:=QgT e.Num a.1 b.1
      rw [hd]
      cases (b.2 != 0)with
      | true=>exact⟨(0,b.2),rfl,rfl,z⟩
      | false=>exact⟨d,rfl,rfl,QDb a3 c3 hd⟩
     obtain⟨r,r1,r2,r3⟩:=rest
     cases h11:(e.Num==11)with
     | false=>
      simp only [cond_false,Qny]
      exact⟨r,by rw [r1];rfl,r2,r3⟩
     | true=>
      simp only [cond_true,QoZ]
      cases ha:(a.1 != 0)with
      | true=>
       refine⟨(1,0),?_,rfl,o⟩
       simp only [cond_true]
       show(((QbJ (a.1 != 0)).bind _).bind _).bind _=_
       rw [ha];rfl
      | false=>
       simp only [cond_false]
       exact⟨r,by rw [r1];rfl,r2,r3⟩
  have k6:e.Kind=6:=by omega
  have hl:=h6 k6
  obtain⟨b,c1,c2,c3⟩:=sub 1 (by omega)
  obtain⟨d,d1,d2,d3⟩:=sub 2 (by omega)
  have kid1:idx e.Kids 1=some (e.Kids[1]'(by omega)):=kid 1 (by omega)
  have kid2:idx e.Kids 2=some (e.Kids[2]'(by omega)):=kid 2 (by omega)
  rw [k6]
  show ∃r,QdA (Q5 n) e v=some r/\_
  unfold QdA Qg4
  simp only [kid0,kid1,kid2,Qn,a1,c1,c2,d1,d2,show((6:Int)==6)=true from rfl,cond_true]
  cases hz:(a.2 != 0)with
  | true=>exact⟨(0,a.2),rfl,rfl,z⟩
  | false=>
   simp only [cond_false]
   cases (a.1 != 0)with
   | true=>exact⟨b,rfl,rfl,c3⟩
   | false=>exact⟨d,rfl,rfl,d3⟩
theorem QyG {e:Qh}{v:List Int}(h:Qcz e)(hr:RE e)(hv:∀x∈v,InI x):∃r,QgO e v=some r/\Qj2 e v=some r/\InI r.1:=by
 unfold QgO Qj2 Qi0 Qqa
 rw [QBq e _ h]
 obtain⟨b,hb,hb2⟩:=QkV e v.length h
 rw [hb,Qn,Qn]
 cases b with
 | false=>exact⟨(0,1),rfl,rfl,by unfold InI;decide⟩
 | true=>
  obtain⟨r,r1,r2,r3⟩:=QyF _ v e (hb2 rfl) hr hv (Qc2 _)
  rw [r1,r2]
  exact⟨r,rfl,rfl,r3⟩
end Go.Proofs
noncomputable section
namespace Go.Proofs
open Go Go.RowKit Go.Vm
theorem Qtd {σ τ ρ π:Type}{b1:σ->Option (σ⊕ρ)}{b2:τ->Option (τ⊕π)}(n:Nat)(I:Nat->σ->τ->Prop)(Post:ρ->π->Prop)
  (step:∀i s t,i<=n->I i s t->(i<n/\∃s' t',b1 s=some (.inl s')/\b2 t=some (.inl t')/\I (i+1) s' t')\/∃r q,b1 s=some (.inr r)/\b2 t=some (.inr q)/\Post r q):∀s t,I 0 s t->∃r q,Qy b1 s=some r/\Qy b2 t=some q/\Post r q:=by
 have key:∀k i s t,i+k=n->I i s t->∃r q,Qy b1 s=some r/\Qy b2 t=some q/\Post r q:=by
  intro k
  induction k with
  | zero=>
   intro i s t hk hI
   rcases step i s t (by omega) hI with⟨h,_⟩|⟨r,q,h1,h2,h3⟩
   ·omega
   exact⟨r,q,by rw [QbN,h1];rfl,by rw [QbN,h2];rfl,h3⟩
  | succ k ih=>
   intro i s t hk hI
   rcases step i s t (by omega) hI with⟨_,s',t',h1,h2,h3⟩|⟨r,q,h1,h2,h3⟩
   ·obtain⟨r,q,e1,e2,e3⟩:=ih (i+1) s' t' (by omega) h3
    exact⟨r,q,by rw [QbN,h1];exact e1,by rw [QbN,h2];exact e2,e3⟩
   exact⟨r,q,by rw [QbN,h1];rfl,by rw [QbN,h2];rfl,h3⟩
 exact fun s t h=>key n 0 s t (by omega) h
theorem QuW {a b:ByteArray}:QbT a b=true↔a=b:=by
 unfold QbT
 rw [beq_iff_eq,ByteArray.toList_eq,ByteArray.toList_eq]
 exact⟨fun h=>ByteArray.ext (Array.toList_inj.1 h),fun h=>by rw [h]⟩
theorem Qz0 (a b:ByteArray):QbT a b=decide (a=b):=by
 by_cases h:a=b
 ·rw [QH h];exact QuW.2 h
 rw [QJ h,<-QiS,QuW];exact h
theorem QyH (s:ByteArray):Qj1 s=Qdi s:=by
 have e0:decide ((s.size:Int)<1)=QbT s (⟨#[]⟩:ByteArray):=by
  rw [Qz0]
  apply decide_eq_decide.2
  constructor
  ·intro h
   obtain⟨a⟩:=s
   have:a=#[]:=QAC (by have h:((a.size:Nat):Int)<1:=h;omega)
   rw [this]
  intro h;subst h;decide
 have g1:QmV s=QhQ s:=by
  unfold QmV QhQ
  rw [e0];rfl
 have l4:∀i,QgC s i=Qdp s i:=fun i=>by
  unfold QgC Qdp Qq7
  cases h:sidx s i with
  | none=>rfl
  | some c=>
   simp only [Qn]
   congr 1
   unfold QlU Qhu QdT Qoi Qjt QfF
   simp only [Qn]
   generalize (bif (decide (97<=c))then((decide (c<=122))||((decide (65<=c))&&(decide (c<=90))))else((decide (65<=c))&&(decide (c<=90))))=q
   cases q with
   | true=>rfl
   | false=>
    by_cases h1:c<48
    ·rw [QH h1,QJ (by omega:¬48<=c)];rfl
    rw [QJ h1,QH (by omega:48<=c)]
    by_cases h2:57<c
    ·rw [QH h2,QJ (by omega:¬c<=57)];rfl
    rw [QJ h2,QH (by omega:c<=57)];rfl
 unfold Qj1 Qdi Qju QfG
 rw [g1,show(fun st=>QgC s st)=fun st=>Qdp s st from funext l4]
 rfl
theorem Qyl {α:Type}(f:α->Bool):∀(l:List α) (k:Nat) (t:Bool),QgI (fun (_:Nat) (t:Bool) x=>(.inl (t&&f x):Bool⊕Bool)) (fun t=>t) k t l=(t&&l.all f)
 | [],_,t=>by simp [QgI]
 | x::l,k,t=>by rw [QgI,Sum.elim_inl,Qyl f l];simp [Bool.and_assoc]
def Had (m:List (ByteArray×Bool))(l:List ByteArray):Prop:=∀k,(QV m k).getD false=l.any fun e=>QbT e k
theorem Had.add {m:List (ByteArray×Bool)}{l:List ByteArray}(h:Had m l)(x:ByteArray):Had (Qcv ltS m x true) (l++[x]):=fun k=>by
 rw [Qmb,List.any_append,<-h k]
 by_cases e:k=x
 ·subst e
  rw [if_pos rfl]
  have:QbT k k=true:=QuW.2 rfl
  simp [this]
 rw [if_neg e]
 have:QbT x k=false:=by rw [Qz0];exact QJ fun h=>e h.symm
 simp [this]
theorem QBr {l:List ByteArray}(h:QI QeZ l):∃b,Qfs l=some b/\QlG l=some b:=by
 have nm:∀x∈l,∃b,Qdi x=some b:=fun x hx=>(QgJ x (h.2 x hx)).tot
 obtain⟨r,q,e1,e2,e3⟩:=Qtd (b1:=fun st:Int×List (ByteArray×Bool)=>Qch l st.1 st.2) (b2:=fun st:Int=>Qey l st) l.length (fun i s t=>s.1=(i:Int)/\t=(i:Int)/\Had s.2 (l.take i)) (fun r q=>r=q) (fun i s t hi hI=>by
  obtain⟨a,m⟩:=s
  obtain⟨h1,h2,h3⟩:=hI
  replace h1:a=(i:Int):=h1
  subst h1 h2
  replace h3:Had m (l.take i):=h3
  show(i<l.length/\∃s' t',Qch l i m=_/\Qey l i=_/\_)\/∃r q,Qch l i m=_/\Qey l i=_/\_
  unfold Qch Qey QkZ Qe8
  by_cases hlt:i<l.length
  ·have hx:l[i]? = some l[i]:=QM hlt
   obtain⟨b,hb⟩:=nm _ (Qbk hlt)
   have il:=Qmc (body:=fun st:Bool×Int=>Qds i l st.1 st.2) (l:=l.take i) (fun k (t:Bool)=>(t,(k:Int))) (fun _ t e=>.inl (t&&!QbT e l[i])) (fun t=>t) (fun k t x hk hkx=>by
    rw [QeR]at hk
    have hkx:l[k]? = some x:=by rw [Qco,if_pos (by omega)]at hkx;exact hkx
    show Qds i l t (k:Int)=_
    unfold Qds QpY Qid
    rw [QH (by omega),cond_true,Q7,hkx,Q7,hx,Qx hlt h.1 |> fun _=>Qx (show k<l.length by omega) h.1]
    cases t<;>rfl) (fun t=>by
    show Qds i l t ((l.take i).length:Int)=_
    unfold Qds
    rw [QeR,QJ (by omega)];rfl) b (s0:=(b,0)) rfl
   rw [Qyl]at il
   rw [QH (show(i:Int)<(l.length:Int) by omega),cond_true,cond_true,Q7,hx,Qn,Qn,QyH,hb,Qn,Qn,il,Qn,Qx hlt h.1]
   unfold QlZ
   rw [h3 l[i],Qx hlt h.1]
   have ea:(l.take i).all (fun e=>!QbT e l[i])=!((l.take i).any fun e=>QbT e l[i]):=by rw [List.not_any_eq_all_not]
   rw [ea]
   cases b with
   | false=>right;exact⟨_,_,rfl,rfl,rfl⟩
   | true=>
    cases hq:(l.take i).any fun e=>QbT e l[i]with
    | true=>right;exact⟨_,_,rfl,rfl,rfl⟩
    | false=>
     left
     refine⟨hlt,_,_,rfl,rfl,rfl,rfl,?_⟩
     rw [Qo3,hx]
     exact h3.add _
  right
  rw [QJ (show ¬(i:Int)<(l.length:Int) by omega)]
  exact⟨_,_,rfl,rfl,rfl⟩) (0,[]) 0 ⟨rfl,rfl,fun k=>rfl⟩
 subst e3
 unfold Qfs QlG
 rw [e1,e2]
 rcases r with r | r
 ·exact⟨false,rfl,rfl⟩
 exact⟨true,rfl,rfl⟩
structure QuX (c:QE) (s:Int):Prop where
 b:1<=s/\s<=1024
 i:c.Kind=1->c.Lo<=c.Hi/\s=c.Hi-c.Lo+1
def IC (c:QE):Prop:=InI c.Lo/\InI c.Hi
theorem QDz {lo hi:Int}(hl:InI lo)(hh:InI hi):Qgg lo hi=some (if hi<lo then 0 else if hi-lo<1024 then hi-lo+1 else 1025):=by
 unfold Qgg
 by_cases h:hi<lo
 ·rw [QH h,if_pos h];rfl
 rw [QJ h,if_neg h,cond_false]
 have e:IntKind.u64.wrap (IntKind.u64.wrap hi-IntKind.u64.wrap lo)=hi-lo:=by
  rw [Qpi,Qpi,Qpi];unfold InI at *;omega
 rw [e]
 unfold min2
 by_cases h2:hi-lo<1024
 ·rw [if_pos h2]
  by_cases h3:1024<hi-lo
  ·omega
  rw [if_neg h3,QaK (n:=hi-lo) (by omega),QaK (by omega)]
 rw [if_neg h2]
 split
 ·rfl
 have:hi-lo=1024:=by omega
 rw [this];rfl
def Qkd (n:Int):Bool:=decide (n<1)||decide (1024<n)
theorem QAA {n:Int}(h:Qkd n=false):1<=n/\n<=1024:=by
 unfold Qkd at h
 simp only [Qdf,QaT]at h
 omega
theorem QEx {c:QE}{out:List Int}{i:Nat}(hc:IC c)(hN:QI QeZ c.Names)(ho:out.length=i):∃n n',Qgh c out=some n/\(∀ok,Qif c out (i:Int) ok=Qa4 ok out i n')/\((n'=n/\(Qkd n=false->QuX c n))\/(Qkd n=true/\Qkd n'=true)):=by
 unfold Qgh Qif
 have z:Qkd 0=true:=rfl
 by_cases k1:c.Kind=1
 ·rw [show(c.Kind==1)=true by simpa using k1]
  simp only [cond_true]
  rw [QDz hc.1 hc.2,Qn]
  obtain⟨c1,c2⟩:=hc
  unfold InI at c1 c2
  by_cases a1:c.Hi<c.Lo
  ·rw [if_pos a1,QJ (by omega:¬c.Lo<=c.Hi),Qny]
   exact⟨0,0,rfl,fun _=>rfl,.inr ⟨z,z⟩⟩
  rw [if_neg a1,QH (by omega:c.Lo<=c.Hi),QoZ]
  by_cases a2:0<=c.Lo\/c.Hi<c.Lo+1024
  ·have hcond:(decide (0<=c.Lo)||decide (c.Hi<w64 (c.Lo+1024)))=true:=by
    by_cases a3:0<=c.Lo
    ·rw [QH a3,Bool.true_or]
    rw [QaK (by omega),QH (by omega:c.Hi<c.Lo+1024),Bool.or_true]
   rw [hcond]
   simp only [cond_true]
   have e1:w64 (c.Hi-c.Lo)=c.Hi-c.Lo:=QaK (by omega)
   rw [e1]
   unfold min2
   by_cases a4:c.Hi-c.Lo<1024
   ·rw [if_pos a4,if_neg (by omega:¬1024<c.Hi-c.Lo),QaK (by omega)]
    exact⟨_,_,rfl,fun _=>rfl,.inl ⟨rfl,fun hb=>⟨QAA hb,fun _=>⟨by omega,rfl⟩⟩⟩⟩
   rw [if_neg a4]
   refine⟨_,_,rfl,fun _=>rfl,.inr ⟨rfl,?_⟩⟩
   have:(if (1024:Int)<c.Hi-c.Lo then 1024 else c.Hi-c.Lo)=1024:=by split<;>omega
   rw [this];rfl
  rw [QJ (by omega:¬0<=c.Lo),Bool.false_or,QaK (by omega),QJ (by omega:¬c.Hi<c.Lo+1024),if_neg (by omega)]
  exact⟨_,_,rfl,fun _=>rfl,.inr ⟨rfl,z⟩⟩
 rw [show(c.Kind==1)=false by simpa using k1]
 simp only [cond_false]
 have nk:∀n,Qkd n=false->QuX c n:=fun n hb=>⟨QAA hb,fun h=>absurd h k1⟩
 by_cases k2:c.Kind=2
 ·rw [show(c.Kind==2)=true by simpa using k2]
  simp only [cond_true]
  obtain⟨b,b1,b2⟩:=QBr hN
  rw [b1,b2]
  cases b with
  | true=>exact⟨_,_,rfl,fun _=>rfl,.inl ⟨rfl,nk _⟩⟩
  | false=>exact⟨0,0,rfl,fun _=>rfl,.inr ⟨z,z⟩⟩
 rw [show(c.Kind==2)=false by simpa using k2]
 simp only [cond_false]
 by_cases k3:c.Kind=3
 ·rw [show(c.Kind==3)=true by simpa using k3]
  simp only [cond_true]
  have hcond:((decide (0<=min2 c.First c.Then))&&(decide (max2 c.First c.Then<(out.length:Int))))=((decide (0<=c.First))&&((decide (c.First<(i:Int)))&&((decide (0<=c.Then))&&(decide (c.Then<(i:Int)))))):=by
   apply Bool.eq_iff_iff.2
   simp only [QB,Q0,QkS,QkT,ho]
   omega
  rw [hcond]
  cases hq:((decide (0<=c.First))&&((decide (c.First<(i:Int)))&&((decide (0<=c.Then))&&(decide (c.Then<(i:Int))))))with
  | false=>exact⟨0,0,rfl,fun _=>rfl,.inr ⟨z,z⟩⟩
  | true=>
   simp only [QB,Q0]at hq
   simp only [cond_true]
   rw [Qm1 hq.1 (by omega),Qm1 hq.2.2.1 (by omega)]
   exact⟨_,_,rfl,fun _=>rfl,.inl ⟨rfl,nk _⟩⟩
 rw [show(c.Kind==3)=false by simpa using k3]
 exact⟨0,0,rfl,fun _=>rfl,.inr ⟨z,z⟩⟩
theorem QBs {l:List QE}(h:QI Qa8 l)(hc:∀c∈l,IC c):∃x b,Qew l=some (x,b)/\QlH l=some x/\(b=false->x=[])/\(b=true->x.length=l.length/\∀(j:Nat) c s,l[j]? = some c->x[j]? = some s->QuX c s):=by
 unfold Qew QlH
 by_cases h32:32<l.length
 ·rw [QH (show(32:Int)<(l.length:Int) by omega)]
  exact⟨[],false,rfl,rfl,fun _=>rfl,fun h=>by cases h⟩
 rw [QJ (show ¬(32:Int)<(l.length:Int) by omega),cond_false,cond_false]
 have hm:(2048:Nat)<=maxLen:=by decide
 obtain⟨r,q,e1,e2,e3⟩:=Qtd (b1:=fun st:Int×List (ByteArray×Bool)×List Int=>Qci l st.1 st.2.1 st.2.2) (b2:=fun st:Int×List Int=>Qez l st.1 st.2) l.length
  (fun i s t=>s.1=(i:Int)/\t=((i:Int),s.2.2)/\Had s.2.1 ((l.take i).map QE.Name)/\s.2.2.length=i/\∀(j:Nat) c z,l[j]? = some c->s.2.2[j]? = some z->QuX c z)
  (fun r q=>r=q/\∀x,r=.inr x->x.length=l.length/\∀(j:Nat) c z,l[j]? = some c->x[j]? = some z->QuX c z) (fun i s t hi hI=>by
  obtain⟨a,m,out⟩:=s
  obtain⟨h1,h2,h3,h4,h5⟩:=hI
  replace h1:a=(i:Int):=h1
  subst h1 h2
  replace h3:Had m ((l.take i).map QE.Name):=h3
  replace h4:out.length=i:=h4
  replace h5:∀(j:Nat) c z,l[j]? = some c->out[j]? = some z->QuX c z:=h5
  show(i<l.length/\∃s' t',Qci l i m out=_/\Qez l i out=_/\_)\/∃r q,Qci l i m out=_/\Qez l i out=_/\_
  unfold Qci Qez Qk0 Qe9
  by_cases hlt:i<l.length
  ·have hx:l[i]? = some l[i]:=QM hlt
   have hmem:=Qbk hlt
   obtain⟨b,hb,_⟩:=QgJ l[i].Name (h.2 _ hmem).1
   have il:=Qmc (body:=fun st:Bool×Int=>Qdt i l l[i] st.1 st.2) (l:=l.take i) (fun k (t:Bool)=>(t,(k:Int))) (fun _ t e=>.inl (t&&!QbT e.Name l[i].Name)) (fun t=>t) (fun k t x hk hkx=>by
    rw [QeR]at hk
    have hkx:l[k]? = some x:=by rw [Qco,if_pos (by omega)]at hkx;exact hkx
    show Qdt i l l[i] t (k:Int)=_
    unfold Qdt Qp1 Qie
    rw [QH (by omega),cond_true,Q7,hkx,Qx (show k<l.length by omega) h.1]
    cases t<;>rfl) (fun t=>by
    show Qdt i l l[i] t ((l.take i).length:Int)=_
    unfold Qdt
    rw [QeR,QJ (by omega)];rfl) b (s0:=(b,0)) rfl
   rw [Qyl]at il
   rw [QH (show(i:Int)<(l.length:Int) by omega),cond_true,cond_true,Q7,hx,Qn,Qn,QyH,hb]
   have ea:(l.take i).all (fun e=>!QbT e.Name l[i].Name)=!(((l.take i).map QE.Name).any fun e=>QbT e l[i].Name):=by rw [List.any_map,List.not_any_eq_all_not];rfl
   generalize hq:((l.take i).map QE.Name).any (fun e=>QbT e l[i].Name)=had
   obtain⟨n,n',s1,s2,s3⟩:=QEx (i:=i) (hc _ hmem) (h.2 _ hmem).2.2.2.2.1 h4
   rw [s1]
   simp only [Qn]
   rw [il]
   simp only [Qn]
   rw [h3 l[i].Name,ea,hq,s2]
   unfold Qa4
   have hbs:∀n,((decide (n<1))||(decide (1024<n)))=Qkd n:=fun _=>rfl
   rw [hbs]
   have ebad:((bif !b then some true else bif had then some true else bif decide (n<1)then some true else some (decide (1024<n))):Option Bool)=some (!b||(had||Qkd n)):=by
    unfold Qkd
    cases b<;>cases had<;>cases decide (n<1)<;>rfl
   rw [ebad,Qn]
   have stop:∀n n':Int,Qkd n'=true\/(b&&!had)=false->(!b||(had||Qkd n))=true->∃(r:Unit⊕List Int) (q:Unit⊕List Int),((bif (!b||(had||Qkd n))then some (.inr (.inl ()))else(chk (decide (out.length+[n].length<=4294967296))).bind fun _=>some (.inl (w64 ((i:Int)+1),Qcv ltS m l[i].Name true,out++[n]))):Option ((Int×List (ByteArray×Bool)×List Int)⊕(Unit⊕List Int)))=some (.inr r)/\((bif (!(b&&!had)||Qkd n')then some (.inr (.inl ()))else(chk (decide (out.length+[n'].length<=4294967296))).bind fun _=>some (.inl (w64 ((i:Int)+1),out++[n']))):Option ((Int×List Int)⊕(Unit⊕List Int)))=some (.inr q)/\r=q/\∀x,r=.inr x->x.length=l.length/\∀(j:Nat) c z,l[j]? = some c->x[j]? = some z->QuX c z:=fun n n' h1 h2=>by
    refine⟨.inl (),.inl (),by rw [h2];rfl,?_,rfl,fun x hx=>by cases hx⟩
    rcases h1 with h1 | h1<;>rw [h1]<;>simp
   by_cases hg:b=true/\had=false/\Qkd n=false
   ·obtain⟨g1,g2,g3⟩:=hg
    rcases s3 with⟨s4,s5⟩|⟨s4,_⟩
    ·subst s4 g1 g2
     rw [g3]
     simp only [QeQ,Bool.not_false,Bool.and_true,Bool.or_false,cond_false]
     left
     rw [Qf4 (by simp;omega),Qn,Qn]
     refine⟨hlt,_,_,rfl,rfl,Qx hlt h.1,by rw [Qx hlt h.1],?_,by simp;omega,fun j c z hj hz=>?_⟩
     ·rw [Qo3,hx,List.map_append]
      exact h3.add _
     replace hz:(out++[n'])[j]? = some z:=hz
     by_cases hjl:j<out.length
     ·rw [QbS hjl]at hz
      exact h5 j c z hj hz
     rw [QbY (by omega)]at hz
     have:j=i:=by
      have:=(QX.1 hz).1
      simp at this;omega
     subst this
     rw [hx]at hj
     cases hj
     rw [h4,Nat.sub_self]at hz
     cases hz
     exact s5 g3
    rw [g3]at s4;cases s4
   right
   refine stop n n' ?_ ?_
   ·rcases s3 with⟨s4,_⟩|⟨_,s4⟩
    ·subst s4
     cases b<;>cases had<;>cases hb2:Qkd n'<;>simp_all
    exact .inl s4
   cases b<;>cases had<;>cases hb2:Qkd n<;>simp_all
  right
  rw [QJ (show ¬(i:Int)<(l.length:Int) by omega)]
  exact⟨_,_,rfl,rfl,rfl,fun x hx=>by cases hx;exact⟨by show out.length=_;omega,h5⟩⟩) (0,[],[]) (0,[]) ⟨rfl,rfl,fun k=>rfl,rfl,fun j c z _ h=>by simp at h⟩
 obtain⟨e3,e4⟩:=e3
 subst e3
 rw [e1,e2]
 rcases r with r | r
 ·exact⟨[],false,rfl,rfl,fun _=>rfl,fun h=>by cases h⟩
 exact⟨r,true,rfl,rfl,(fun h=>by cases h),fun _=>e4 r rfl⟩
theorem QAB {l:List QE}(h:QI Qa8 l)(hc:∀c∈l,IC c)(k:Int):
  (Qhv l k=some 0/\∃x,Qc7 l k=some (false,x))\/
  ∃c x s,l[k.toNat]? = some c/\0<=k/\k.toNat<l.length/\x[k.toNat]? = some s/\QuX c s/\Qhv l k=some s/\Qc7 l k=some (true,Qaw.mk l x k):=by
 obtain⟨x,b,h1,h2,h3,h4⟩:=QBs h hc
 unfold Qhv Qc7
 rw [h1,h2,Qn,Qn]
 cases b with
 | false=>
  rw [h3 rfl]
  refine .inl ⟨?_,_,rfl⟩
  have:((decide (k<0))||(decide ((([]:List Int).length:Int)<=k)))=true:=by simp;omega
  rw [this];rfl
 | true=>
  obtain⟨h5,h6⟩:=h4 rfl
  rw [h5]
  cases hq:((decide (k<0))||(decide ((l.length:Int)<=k)))with
  | true=>exact .inl ⟨rfl,_,rfl⟩
  | false=>
   simp only [Qdf,QaT]at hq
   have e1:l[k.toNat]? = some (l[k.toNat]'(by omega)):=QM (by omega)
   have e2:x[k.toNat]? = some (x[k.toNat]'(by omega)):=QM (by omega)
   exact .inr ⟨_,x,_,e1,by omega,by omega,e2,h6 _ _ _ e1 e2,by rw [cond_false,Qma (by omega),e2];rfl,rfl⟩
theorem Qz1 {l:List QE}{x:List Int}{k s:Int}(h0:0<=k)(hs:x[k.toNat]? = some s)(m:Int):Qb1 (Qaw.mk l x k) m=some (decide (0<=m)&&decide (m<s)):=by
 unfold Qb1 Qer QfT
 by_cases h:0<=m
 ·rw [QH h,cond_true,QoZ]
  show((idx x k).bind _).bind _=_
  rw [Qma h0,hs];rfl
 rw [QJ h];rfl
theorem QCl {l:List QE}{x:List Int}{k:Int}{c:QE}(h0:0<=k)(hs:l[k.toNat]? = some c):QbB (Qaw.mk l x k)=some c:=by
 unfold QbB
 show(idx l k).bind _=_
 rw [Qma h0,hs];rfl
theorem QAq {l:List QE}(h:QI Qa8 l)(hc:∀c∈l,IC c)(k m:Int):∃r,Qc4 l k m=some r/\QkN l k m=some r/\InI r.1:=by
 have z:InI 0:=by unfold InI;omega
 unfold Qc4 QkN QoD Qha Qgt Qdx
 rcases QAB h hc k with⟨e1,x,e2⟩|⟨c,x,s,h1,h2,h3,h4,h5,e1,e2⟩
 ·rw [e1,e2,Qn,Qn]
  refine⟨(0,false),rfl,?_,z⟩
  by_cases hm:m<0
  ·rw [QH hm];rfl
  rw [QJ hm,cond_false,Qn,QH (by omega:0<=m)];rfl
 rw [e1,e2,Qn,Qn]
 simp only [QeQ,cond_false]
 rw [Qz1 h2 h4,Qn,Qn]
 have e3:(bif decide (m<0)then some true else some (decide (s<=m)):Option Bool)=some (!(decide (0<=m)&&decide (m<s))):=by
  by_cases hm:m<0
  ·rw [QH hm,QJ (by omega:¬0<=m)];rfl
  rw [QJ hm,QH (by omega:0<=m)]
  by_cases hs:s<=m
  ·rw [QH hs,QJ (by omega:¬m<s)];rfl
  rw [QJ hs,QH (by omega:m<s)];rfl
 rw [e3,Qn,Qma h2,h1]
 cases hq:(!(decide (0<=m)&&decide (m<s)))with
 | true=>exact⟨(0,false),rfl,rfl,z⟩
 | false=>
  simp only [QhL,QB,Q0]at hq
  have hb:=h5.b
  rw [QCl h2 h1,Qn,Qn,cond_false]
  cases (c.Kind==1)with
  | true=>exact⟨_,rfl,rfl,Qzc _⟩
  | false=>exact⟨_,rfl,rfl,by unfold InI;omega⟩
theorem QwK {s first n:Int}(hs:s<=1024)(hf:InI first)(hl:first+s-1<=9223372036854775807):Qd6 s n first=some (bif (decide (0<=n-first)&&decide (n-first<s))then(n-first,true)else(0,false)):=by
 unfold Qd6
 unfold InI at hf
 have hm:(2048:Nat)<=maxLen:=by decide
 obtain⟨r,hr,h1⟩:=QhB (body:=fun st:Int=>Qcj s first n st) s.toNat (fun i st=>st=(i:Int)/\∀j:Nat,j<i->first+j≠n) (fun r=>r=bif (decide (0<=n-first)&&decide (n-first<s))then .inl (n-first)else .inr ()) (fun i st hi hI=>by
  obtain⟨rfl,hI⟩:=hI
  show(∃s',Qcj s first n i=_/\_)\/∃r,Qcj s first n i=_/\_
  unfold Qcj
  rw [QH (by omega),cond_true,QaK (n:=first+i) (by omega)]
  by_cases e:first+i=n
  ·right
   rw [show(first+(i:Int)==n)=true by simpa using e,cond_true]
   refine⟨_,rfl,?_⟩
   rw [QH (by omega),QH (by omega),show n-first=(i:Int) by omega];rfl
  ·left
   rw [show(first+(i:Int)==n)=false by simpa using e,cond_false]
   refine⟨_,rfl,QaK (by omega),fun j hj=>?_⟩
   by_cases hji:j=i
   ·subst hji;exact e
   exact hI j (by omega)) (fun st hI=>by
  obtain⟨rfl,hI⟩:=hI
  show ∃r,Qcj s first n (s.toNat:Int)=_/\_
  unfold Qcj
  rw [QJ (by omega),cond_false]
  refine⟨_,rfl,?_⟩
  by_cases c:0<=n-first/\n-first<s
  ·have:=hI (n-first).toNat (by omega)
   omega
  have:(decide (0<=n-first)&&decide (n-first<s))=false:=by
   apply Bool.eq_false_iff.2
   simp only [ne_eq,QB,Q0];exact c
  rw [this];rfl) 0 ⟨rfl,fun j hj=>by omega⟩
 rw [hr,h1,Qn]
 cases (decide (0<=n-first)&&decide (n-first<s))<;>rfl
theorem QAr {l:List QE}(h:QI Qa8 l)(hc:∀c∈l,IC c)(k n:Int)(hn:InI n):∃r,Qc5 l k n=some r/\QkP l k n=some r:=by
 unfold Qc5 QkP QoL Qhb
 rcases QAB h hc k with⟨e1,x,e2⟩|⟨c,x,s,h1,h2,h3,h4,h5,e1,e2⟩
 ·rw [e1,e2,Qn,Qn]
  refine⟨(0,false),rfl,?_⟩
  show Qd6 0 n 0=_
  rw [QwK (by omega) (by unfold InI;omega) (by omega)]
  have:(decide (0<=n-0)&&decide (n-0<0))=false:=by
   apply Bool.eq_false_iff.2
   simp only [ne_eq,QB,Q0];omega
  rw [this];rfl
 rw [e1,e2,Qn,Qn]
 simp only [QeQ,cond_false]
 have hb:=h5.b
 have hmem:=Qaa h1
 obtain⟨c1,c2⟩:=hc c hmem
 rw [QCl h2 h1,Qn,QH (by omega:0<s),cond_true,Qma h2,h1]
 simp only [Qn]
 unfold QbX
 by_cases k1:c.Kind=1
 ·rw [show(c.Kind==1)=true by simpa using k1]
  simp only [cond_true]
  obtain⟨g1,g2⟩:=h5.i k1
  unfold InI at c1 c2 hn
  rw [QwK hb.2 c1 (by omega)]
  by_cases q:n<c.Lo\/c.Hi<n
  ·have:((decide (n<c.Lo))||(decide (c.Hi<n)))=true:=by simpa using q
   rw [this,cond_true]
   have:(decide (0<=n-c.Lo)&&decide (n-c.Lo<s))=false:=by
    apply Bool.eq_false_iff.2
    simp only [ne_eq,QB,Q0];omega
   rw [this]
   exact⟨_,rfl,rfl⟩
  have:((decide (n<c.Lo))||(decide (c.Hi<n)))=false:=by simpa using q
  rw [this,cond_false,QaK (by omega),Qz1 h2 h4,Qn,QH (by omega:0<=n-c.Lo),QH (by omega:n-c.Lo<s)]
  exact⟨_,rfl,rfl⟩
 rw [show(c.Kind==1)=false by simpa using k1]
 simp only [cond_false]
 rw [QwK hb.2 (by unfold InI;omega) (by omega),Qz1 h2 h4,Qn,show n-0=n by omega]
 cases (decide (0<=n)&&decide (n<s))with
 | true=>exact⟨_,rfl,rfl⟩
 | false=>exact⟨_,rfl,rfl⟩
end Go.Proofs
noncomputable section
namespace Go.Proofs
open Go Go.RowKit Go.Vm
theorem QgK {α:Type}{l:List α}{i:Nat}(h:i<l.length):l.take (i+1)=l.take i++[l[i]]:=by rw [Qo3,QM h];rfl
theorem Qqq {l:List (Int×Int)}{x:Int×Int}:Asc (l++[x])↔Asc l/\∀p∈l,p.1<x.1:=by
 unfold Asc
 rw [List.pairwise_append]
 constructor
 ·rintro ⟨h1,_,h2⟩;exact⟨h1,fun p hp=>h2 p hp x (by simp)⟩
 rintro ⟨h1,h2⟩;exact⟨h1,by simp,fun p hp q hq=>by simp at hq;subst hq;exact h2 p hp⟩
theorem Qz2 {b:List (Int×Int)}(h:Asc b){i:Nat}(hi:i<b.length):∀p∈b.take i,p.1<b[i].1:=by
 have:=h.sublist (List.take_sublist (i+1) b)
 rw [QgK hi]at this
 exact(Qqq.1 this).2
theorem Qke {b:List (Int×Int)}(h:b.length<=maxLen):QcL b=some (rtF (-1) b):=by
 unfold QcL
 obtain⟨r,hr,h1⟩:=QhB (body:=fun st:Int=>QcF b st) b.length (fun i s=>s=(i:Int)/\Rt (b.take i)) (fun r=>r=bif rtF (-1) b then .inr ()else .inl ()) (fun i s hi hI=>by
  obtain⟨rfl,hI⟩:=hI
  have hx:b[i]? = some b[i]:=QM hi
  show(∃s',QcF b i=_/\_)\/∃r,QcF b i=_/\_
  unfold QcF Qqc Qih
  rw [QH (by omega),cond_true,Q7,hx]
  simp only [Qn]
  have stop:¬Rt b->∃r:Unit⊕Unit,some (Sum.inr (Sum.inl ()))=(some (Sum.inr r):Option (Int⊕(Unit⊕Unit)))/\r=bif rtF (-1) b then .inr ()else .inl ():=fun hb=>by
   rw [<-Qa5,QiS]at hb
   rw [hb];exact⟨_,rfl,rfl⟩
  have hm:=Qbk hi
  by_cases c1:b[i].1<0
  ·rw [QH c1]
   exact .inr (stop fun hb=>by have:=hb.2 _ hm;omega)
  rw [QJ c1,cond_false]
  by_cases c2:b[i].2<1
  ·rw [QH c2]
   exact .inr (stop fun hb=>by have:=hb.2 _ hm;omega)
  rw [QJ c2,cond_false]
  by_cases c3:1048576<b[i].2
  ·rw [QH c3]
   exact .inr (stop fun hb=>by have:=hb.2 _ hm;omega)
  rw [QJ c3,cond_false]
  have go:(∀p∈b.take i,p.1<b[i].1)->Rt (b.take (i+1)):=fun hp=>by
   rw [QgK hi]
   refine⟨Qqq.2 ⟨hI.1,hp⟩,fun p hp=>?_⟩
   rcases Qei.1 hp with hp | hp
   ·exact hI.2 p hp
   simp at hp;subst hp;omega
  by_cases c4:0<i
  ·rw [QH (by omega:(0:Int)<(i:Int)),cond_true,QaK (n:=(i:Int)-1) (by unfold maxLen at h;omega),show(i:Int)-1=((i-1:Nat):Int) by omega,Q7,QM (show i-1<b.length by omega)]
   simp only [Qn]
   by_cases c5:b[i].1<=(b[i-1]'(by omega)).1
   ·rw [QH c5]
    exact .inr (stop fun hb=>by
     have:=List.pairwise_iff_getElem.1 hb.1 (i-1) i (by omega) hi (by omega)
     omega)
   rw [QJ c5]
   refine .inl ⟨_,rfl,Qx hi h,go fun p hp=>?_⟩
   obtain⟨j,hj,rfl⟩:=Qu5.1 hp
   rw [QeR]at hj
   rw [List.getElem_take]
   by_cases hji:j=i-1
   ·subst hji;omega
   have:=List.pairwise_iff_getElem.1 hI.1 j (i-1) (by simp;omega) (by simp;omega) (by omega)
   rw [List.getElem_take,List.getElem_take]at this
   omega
  ·rw [QJ (by omega:¬(0:Int)<(i:Int)),cond_false]
   refine .inl ⟨_,rfl,Qx hi h,go fun p hp=>?_⟩
   rw [show i=0 by omega]at hp;cases hp) (fun s hI=>by
  obtain⟨rfl,hI⟩:=hI
  rw [Qki]at hI
  refine⟨_,?_,rfl⟩
  show QcF b (b.length:Int)=_
  unfold QcF
  rw [QJ (by omega),Qa5.2 hI];rfl) 0 ⟨rfl,Rt.nil⟩
 rw [hr,h1]
 cases rtF (-1) b<;>rfl
theorem QuY {b:List (Int×Int)}(h:b.length<=maxLen)(hb:Rt b)(m:Int):Qgl b m=some (QA b m):=by
 unfold Qgl
 rw [Qke h,Qa5.2 hb,Qn]
 obtain⟨r,hr,h1⟩:=QhB (body:=fun st:Int=>QcG b true m st) b.length (fun i s=>s=(i:Int)/\∀p∈b.take i,p.1≠m) (fun r=>r=.inl (QA b m)\/(r=.inr ()/\QA b m=0)) (fun i s hi hI=>by
  obtain⟨rfl,hI⟩:=hI
  have hx:b[i]? = some b[i]:=QM hi
  show(∃s',QcG b true m i=_/\_)\/∃r,QcG b true m i=_/\_
  unfold QcG
  rw [QH (by omega),QoZ,cond_true,Q7,hx]
  simp only [Qn]
  by_cases e:b[i].1=m
  ·rw [show(b[i].1==m)=true by simpa using e]
   refine .inr ⟨_,rfl,.inl ?_⟩
   rw [<-e,Qgo hb.1.nd (Qbk hi)]
  ·rw [show(b[i].1==m)=false by simpa using e]
   refine .inl ⟨_,rfl,Qx hi h,fun p hp=>?_⟩
   rw [QgK hi]at hp
   rcases Qei.1 hp with hp | hp
   ·exact hI p hp
   simp at hp;subst hp;exact e) (fun s hI=>by
  obtain⟨rfl,hI⟩:=hI
  rw [Qki]at hI
  refine⟨.inr (),?_,.inr ⟨rfl,?_⟩⟩
  ·show QcG b true m (b.length:Int)=_
   unfold QcG
   rw [QJ (by omega)];rfl
  unfold QA;rw [QlM.2 hI];rfl) 0 ⟨rfl,fun p hp=>by cases hp⟩
 rw [hr]
 rcases h1 with rfl | ⟨rfl,e⟩
 ·rfl
 rw [e];rfl
theorem Qz3 {b:List (Int×Int)}(h:b.length<=4294967295)(hb:Rt b){m n:Int}(hm:0<=m)(hn:0<=n/\n<=1048576):∃r,Qj6 b m n=some r/\Rt r/\(∀k,QA r k=if k=m then n else QA b k)/\r.length<=b.length+1:=by
 have hl:b.length<=maxLen:=by unfold maxLen;omega
 unfold Qj6
 obtain⟨⟨dn,out⟩,hr,h1,h2,h3,h4⟩:=QhB (body:=fun st:Bool×Int×List (Int×Int)=>Qd1 b m n st.1 st.2.1 st.2.2) b.length
  (fun i s=>s.2.1=(i:Int)/\(s.1=true↔∃p∈b.take i,m<=p.1)/\Asc s.2.2/\(∀p,p∈s.2.2↔(p.1≠m/\p∈b.take i)\/(s.1=true/\0<n/\p=(m,n)))/\s.2.2.length<=i+(bif s.1 then 1 else 0))
  (fun r=>(r.1=true↔∃p∈b,m<=p.1)/\Asc r.2/\(∀p,p∈r.2↔(p.1≠m/\p∈b)\/(r.1=true/\0<n/\p=(m,n)))/\r.2.length<=b.length+(bif r.1 then 1 else 0)) (fun i s hi hI=>by
   obtain⟨d,a,out⟩:=s
   obtain⟨h1,h2,h3,h4,h5⟩:=hI
   replace h1:a=(i:Int):=h1
   subst h1
   replace h2:d=true↔∃p∈b.take i,m<=p.1:=h2
   replace h3:Asc out:=h3
   replace h4:∀p,p∈out↔(p.1≠m/\p∈b.take i)\/(d=true/\0<n/\p=(m,n)):=h4
   replace h5:out.length<=i+(bif d then 1 else 0):=h5
   have hx:b[i]? = some b[i]:=QM hi
   have hup:=Qz2 hb.1 hi
   left
   show ∃s',Qd1 b m n d i out=_/\_
   unfold Qd1 Qri Qjx QgF
   rw [QH (by omega),cond_true]
   have own:∀(d':Bool) (out':List (Int×Int)),(d'=true↔∃p∈b.take (i+1),m<=p.1)->Asc out'->(∀p,p∈out'↔(p.1≠m/\p∈b.take i)\/(d'=true/\0<n/\p=(m,n)))->out'.length<=i+(bif d' then 1 else 0)->(∀p∈out',b[i].1≠m->p.1<b[i].1)->
     ∃s',QgE b i m d' out'=some (.inl s')/\(s'.2.1=((i+1:Nat):Int)/\(s'.1=true↔∃p∈b.take (i+1),m<=p.1)/\Asc s'.2.2/\(∀p,p∈s'.2.2↔(p.1≠m/\p∈b.take (i+1))\/(s'.1=true/\0<n/\p=(m,n)))/\s'.2.2.length<=i+1+(bif s'.1 then 1 else 0)):=fun d' out' g1 g2 g3 g4 g5=>by
    unfold QgE Qjw
    have hdl:(bif d' then 1 else 0:Nat)<=1:=by cases d'<;>decide
    rw [Q7,hx]
    simp only [Qn]
    by_cases e:b[i].1=m
    ·rw [show(b[i].1 != m)=false by simpa using e]
     refine⟨_,rfl,Qx hi hl,g1,g2,fun p=>?_,by show out'.length<=_;omega⟩
     show p∈out'↔_
     rw [g3,QgK hi,Qei,QnB]
     constructor
     ·rintro (⟨x1,x2⟩|x)
      ·exact .inl ⟨x1,.inl x2⟩
      exact .inr x
     rintro (⟨x1,x2 | rfl⟩|x)
     ·exact .inl ⟨x1,x2⟩
     ·exact absurd e x1
     exact .inr x
    rw [show(b[i].1 != m)=true by simpa using e,cond_true,Qf4 (by simp;omega)]
    refine⟨_,rfl,Qx hi hl,g1,Qqq.2 ⟨g2,fun p hp=>g5 p hp e⟩,fun p=>?_,by show(out'++[b[i]]).length<=_;rw [QiU];simp;omega⟩
    show p∈out'++[b[i]]↔_
    rw [Qei,QnB,g3,QgK hi,Qei,QnB]
    constructor
    ·rintro ((⟨x1,x2⟩|x) | rfl)
     ·exact .inl ⟨x1,.inl x2⟩
     ·exact .inr x
     exact .inl ⟨e,.inr rfl⟩
    rintro (⟨x1,x2 | x2⟩|x)
    ·exact .inl (.inl ⟨x1,x2⟩)
    ·exact .inr x2
    exact .inl (.inr x)
   have grow:∀p:Int×Int,p∈b.take (i+1)↔p∈b.take i\/p=b[i]:=fun p=>by rw [QgK hi,Qei,QnB]
   cases d with
   | true=>
    obtain⟨q,hq,hq2⟩:=h2.1 rfl
    rw [show(!true)=false from rfl,cond_false,Qn,cond_false]
    exact own true out ⟨fun _=>⟨q,(grow q).2 (.inl hq),hq2⟩,fun _=>rfl⟩ h3 h4 h5 fun p hp _=>by
     rcases(h4 p).1 hp with⟨_,x⟩|⟨_,_,rfl⟩
     ·exact hup p x
     have:=hup q hq;show m<_;omega
   | false=>
    have low:∀p∈b.take i,p.1<m:=fun p hp=>by
     apply Classical.byContradiction
     intro hc
     have:=h2.2 ⟨p,hp,by omega⟩
     cases this
    rw [show(!false)=true from rfl,cond_true,Q7,hx]
    simp only [Qn]
    by_cases e:m<=b[i].1
    ·rw [QH e,cond_true]
     have g1:(true=true↔∃p∈b.take (i+1),m<=p.1):=⟨fun _=>⟨b[i],(grow _).2 (.inr rfl),e⟩,fun _=>rfl⟩
     by_cases hn0:0<n
     ·rw [QH hn0,cond_true,Qf4 (by simp only [cond_false]at h5;simp;omega),Qn]
      refine own true (out++[(m,n)]) g1 (Qqq.2 ⟨h3,fun p hp=>?_⟩) (fun p=>?_) (by simp only [cond_false]at h5;simp;omega) fun p hp he=>?_
      ·rcases(h4 p).1 hp with⟨_,x⟩|⟨x,_⟩
       ·exact low p x
       cases x
      ·rw [Qei,QnB,h4]
       constructor
       ·rintro ((x | ⟨x,_⟩) | rfl)
        ·exact .inl x
        ·cases x
        exact .inr ⟨rfl,hn0,rfl⟩
       rintro (x | ⟨_,_,x⟩)
       ·exact .inl (.inl x)
       exact .inr x
      rcases Qei.1 hp with hp | hp
      ·rcases(h4 p).1 hp with⟨_,x⟩|⟨x,_⟩
       ·exact hup p x
       cases x
      simp at hp;subst hp;show m<_;omega
     rw [QJ hn0,cond_false]
     refine own true out g1 h3 (fun p=>?_) (by simp only [cond_false]at h5;simp;omega) fun p hp he=>?_
     ·rw [h4]
      constructor
      ·rintro (x | ⟨x,_⟩)
       ·exact .inl x
       cases x
      rintro (x | ⟨_,x,_⟩)
      ·exact .inl x
      exact absurd x hn0
     rcases(h4 p).1 hp with⟨_,x⟩|⟨x,_⟩
     ·exact hup p x
     cases x
    rw [QJ e,cond_false]
    refine own false out ⟨(fun x=>by cases x),fun ⟨p,hp,hp2⟩=>?_⟩ h3 h4 h5 fun p hp he=>?_
    ·rcases(grow p).1 hp with x | rfl
     ·have:=low p x;omega
     exact absurd hp2 e
    rcases(h4 p).1 hp with⟨_,x⟩|⟨x,_⟩
    ·exact hup p x
    cases x) (fun s hI=>by
   obtain⟨d,a,out⟩:=s
   obtain⟨h1,h2,h3,h4,h5⟩:=hI
   replace h1:a=(b.length:Int):=h1
   subst h1
   rw [Qki]at h2 h4
   refine⟨(d,out),?_,h2,h3,h4,h5⟩
   show Qd1 b m n d b.length out=_
   unfold Qd1
   rw [QJ (by omega)];rfl) (false,0,[]) ⟨rfl,by simp,by simp [Asc],by simp,by simp⟩
 rw [hr,Qn]
 show ∃r,QgG n m dn out=some r/\_
 unfold QgG Qjy
 have fin:∀r:List (Int×Int),Asc r->(∀p,p∈r↔(p.1≠m/\p∈b)\/(0<n/\p=(m,n)))->Rt r/\∀k,QA r k=if k=m then n else QA b k:=fun r hA hmem=>by
  refine⟨⟨hA,fun p hp=>?_⟩,fun k=>?_⟩
  ·rcases(hmem p).1 hp with⟨_,x⟩|⟨x,rfl⟩
   ·exact hb.2 p x
   exact⟨hm,by show 1<=n;omega,hn.2⟩
  by_cases e:k=m
  ·subst e
   rw [if_pos rfl]
   by_cases hn0:0<n
   ·exact Qgo hA.nd ((hmem (k,n)).2 (.inr ⟨hn0,rfl⟩))
   unfold QA
   rw [QlM.2 fun p hp=>?_]
   ·show(0:Int)=n;omega
   rcases(hmem p).1 hp with⟨x,_⟩|⟨x,_⟩
   ·exact x
   exact absurd x hn0
  rw [if_neg e]
  unfold QA
  congr 1
  cases hq:QV b k with
  | some v=>exact(QbG hA.nd).2 ((hmem (k,v)).2 (.inl ⟨e,(QbG hb.1.nd).1 hq⟩))
  | none=>
   refine QlM.2 fun p hp=>?_
   rcases(hmem p).1 hp with⟨_,x⟩|⟨_,rfl⟩
   ·exact QlM.1 hq p x
   exact fun x=>e x.symm
 cases dn with
 | true=>
  obtain⟨f1,f2⟩:=fin out h2 fun p=>by rw [h3];simp
  exact⟨out,rfl,f1,f2,by simpa using h4⟩
 | false=>
  have low:∀p∈b,p.1<m:=fun p hp=>by
   apply Classical.byContradiction
   intro hc
   have:=h1.2 ⟨p,hp,by omega⟩
   cases this
  by_cases hn0:0<n
  ·rw [QH hn0]
   simp only [cond_false,Qlw]at h4
   obtain⟨f1,f2⟩:=fin (out++[(m,n)]) (Qqq.2 ⟨h2,fun p hp=>by
    rcases(h3 p).1 hp with⟨_,x⟩|⟨x,_⟩
    ·exact low p x
    ·cases x⟩) fun p=>by
    rw [Qei,QnB,h3]
    constructor
    ·rintro ((x | ⟨x,_⟩) | rfl)
     ·exact .inl x
     ·cases x
     exact .inr ⟨hn0,rfl⟩
    rintro (x | ⟨_,x⟩)
    ·exact .inl (.inl x)
    exact .inr x
   refine⟨out++[(m,n)],?_,f1,f2,by simp;omega⟩
   rw [show(!false&&true)=true from rfl,cond_true,Qf4 (by simp;omega)];rfl
  rw [QJ hn0]
  obtain⟨f1,f2⟩:=fin out h2 fun p=>by
   rw [h3]
   constructor
   ·rintro (x | ⟨x,_⟩)
    ·exact .inl x
    cases x
   rintro (x | ⟨x,_⟩)
   ·exact .inl x
   exact absurd x hn0
  exact⟨out,rfl,f1,f2,by simp only [cond_false,Qlw]at h4;omega⟩
theorem Qz4 {b:List (Int×Int)}(hb:Asc b){i:Nat}(hi:i<b.length)(k:Int):QA (b.take (i+1)) k=if k=b[i].1 then b[i].2 else QA (b.take i) k:=by
 have ha:Asc (b.take (i+1)):=hb.sublist (List.take_sublist _ _)
 by_cases e:k=b[i].1
 ·subst e
  rw [if_pos rfl]
  exact Qgo ha.nd (by rw [QgK hi];exact List.mem_append_right _ Qb9)
 rw [if_neg e]
 unfold QA
 congr 1
 have h0:Asc (b.take i):=hb.sublist (List.take_sublist _ _)
 cases hq:QV (b.take i) k with
 | some v=>exact(QbG ha.nd).2 (by rw [QgK hi];exact List.mem_append_left _ ((QbG h0.nd).1 hq))
 | none=>
  refine QlM.2 fun p hp=>?_
  rw [QgK hi]at hp
  rcases Qei.1 hp with hp | hp
  ·exact QlM.1 hq p hp
  simp at hp;subst hp;exact fun x=>e x.symm
theorem QDA {b:List (Int×Int)}(hb:Asc b){i:Nat}(hi:i<b.length):QA (b.take i) b[i].1=0:=by
 unfold QA
 rw [QlM.2 fun p hp=>by have:=Qz2 hb hi p hp;omega];rfl
theorem Qz5 {a b:List (Int×Int)}(h:a.length+b.length<=4294967290):QgS a b=Qec a b:=by
 unfold QgS Qsb QkQ
 have ha:a.length<=maxLen:=by unfold maxLen;omega
 have hb:b.length<=maxLen:=by unfold maxLen;omega
 rw [Qke ha,Qke hb,Qn]
 rcases Qkc a b (by omega)with⟨h1,h2⟩|⟨h1,h2,⟨k,h3⟩,h4⟩|⟨h1,h2,r,h3,h4,h5,h6⟩
 ·rw [h2,<-Qa5,<-Qa5]at *
  cases ra:rtF (-1) a with
  | false=>rfl
  | true=>
   cases rb:rtF (-1) b with
   | false=>rfl
   | true=>exact absurd ⟨ra,rb⟩ h1
 all_goals
  rw [Qa5.2 h1,Qa5.2 h2]
  simp only [QeQ,cond_false,Qn,Qo2,Qkh,Qmk]
  rw [Qf4 (by omega),Qn]
  obtain⟨q,hq,hp⟩:=QhB (body:=fun st:Int×List (Int×Int)=>QdD b st.1 st.2) b.length
   (fun i s=>s.1=(i:Int)/\Rt s.2/\(∀k,QA s.2 k=QA a k+QA (b.take i) k)/\s.2.length<=a.length+i)
   (fun q=>(q=.inl ()/\∃k,1048576<QA a k+QA b k)\/∃r,q=.inr r/\Rt r/\∀k,QA r k=QA a k+QA b k) (fun i s hi hI=>by
    obtain⟨x,out⟩:=s
    obtain⟨g1,g2,g3,g4⟩:=hI
    replace g1:x=(i:Int):=g1
    subst g1
    replace g2:Rt out:=g2
    replace g3:∀k,QA out k=QA a k+QA (b.take i) k:=g3
    replace g4:out.length<=a.length+i:=g4
    have hx:b[i]? = some b[i]:=QM hi
    have hbi:=‹Rt b›.2 _ (Qbk hi)
    show(∃s',QdD b i out=_/\_)\/∃r,QdD b i out=_/\_
    unfold QdD
    rw [QH (by omega),cond_true,Q7,hx]
    simp only [Qn]
    have hc:=‹Rt a›.cnt b[i].1
    rw [QuY (by unfold maxLen;omega) g2,Qn,g3,QDA ‹Rt b›.1 hi,Int.add_zero,QaK (by omega)]
    by_cases e:1048576<QA a b[i].1+b[i].2
    ·rw [QH e]
     refine .inr ⟨_,rfl,.inl ⟨rfl,b[i].1,?_⟩⟩
     rw [Qgo ‹Rt b›.1.nd (Qbk hi)];exact e
    ·rw [QJ e,cond_false]
     obtain⟨r,r1,r2,r3,r4⟩:=Qz3 (b:=out) (by omega) g2 (m:=b[i].1) (n:=QA a b[i].1+b[i].2) (by omega) (by omega)
     rw [r1,Qn]
     refine .inl ⟨_,rfl,Qx hi hb,r2,fun k=>?_,by show r.length<=_;omega⟩
     show QA r k=_
     rw [r3,Qz4 ‹Rt b›.1 hi,g3]
     by_cases ek:k=b[i].1
     ·subst ek;rw [if_pos rfl,if_pos rfl]
     rw [if_neg ek,if_neg ek]) (fun s hI=>by
    obtain⟨x,out⟩:=s
    obtain⟨g1,g2,g3,g4⟩:=hI
    replace g1:x=(b.length:Int):=g1
    subst g1
    rw [Qki]at g3
    refine⟨.inr out,?_,.inr ⟨out,rfl,g2,g3⟩⟩
    show QdD b b.length out=_
    unfold QdD
    rw [QJ (by omega)];rfl) (0,a) ⟨rfl,by assumption,fun k=>by simp [QA,QV],by simp⟩
  rw [hq]
 ·rcases hp with⟨rfl,_⟩|⟨r,rfl,r1,r2⟩
  ·rw [h4];rfl
  have:=r1.cnt k
  rw [r2]at this;omega
 rcases hp with⟨rfl,k,hk⟩|⟨r',rfl,r1,r2⟩
 ·have:=h4.cnt k
  rw [h5]at this;omega
 have:r'=r:=QB2 r1 h4 fun k=>by rw [r2,h5]
 subst this
 rw [h3];rfl
theorem QvV {a b:List (Int×Int)}(ha:a.length<=maxLen)(hb:b.length<=maxLen):Qhy a b=QjR a b:=by
 unfold Qhy QoO Qhc
 rw [Qke ha,Qke hb,Qn]
 obtain⟨r,h1,h2⟩:=Qm5 a b ha hb
 rw [h1]
 cases ra:rtF (-1) a with
 | false=>
  have:r=false:=by
   cases r with
   | false=>rfl
   | true=>have:=Qa5.2 (h2.1 rfl).1;rw [ra]at this;cases this
  rw [this];rfl
 | true=>
  cases rb:rtF (-1) b with
  | false=>
   have:r=false:=by
    cases r with
    | false=>rfl
    | true=>have:=Qa5.2 (h2.1 rfl).2.1;rw [rb]at this;cases this
   rw [this];rfl
  | true=>
   have h3:=Qa5.1 ra
   have h4:=Qa5.1 rb
   simp only [QeQ,cond_false,Qn]
   rw [Qqk (body:=fun st:Int=>QcZ a b st) (l:=a) (fun i=>(i:Int)) (fun _ x=>decide (QA b x.1<x.2)) (.inl ()) (.inr ()) (fun i x hi hx=>by
    show QcZ a b i=_
    unfold QcZ
    rw [QH (by omega),cond_true,Q7,hx]
    simp only [Qn]
    rw [QuY hb h4,Qn,Qx hi ha]
    cases decide (QA b x.1<x.2)<;>rfl) (by
    show QcZ a b a.length=_
    unfold QcZ
    rw [QJ (by omega),cond_false]) (s0:=0) rfl,Qn]
   have e:∀(l:List (Int×Int)) (k:Nat),Qm2 (fun _ x=>decide (QA b x.1<x.2)) k l=l.any fun p=>decide (QA b p.1<p.2):=fun l=>by
    induction l with
    | nil=>intro k;rfl
    | cons x l ih=>intro k;rw [Qm2,ih,List.any_cons]
   rw [e]
   have aw:=Qta h3 h4
   cases hq:a.any fun p=>decide (QA b p.1<p.2)with
   | false=>rw [h2.2 ⟨h3,h4,aw.1 hq⟩];rfl
   | true=>
    have:r=false:=by
     cases r with
     | false=>rfl
     | true=>rw [aw.2 (h2.1 rfl).2.2]at hq;cases hq
    rw [this];rfl
end Go.Proofs
noncomputable section
namespace Go.Proofs
open Go Go.RowKit Go.Vm
theorem QyI {σ ρ:Type}{b1 b2:σ->Option (σ⊕ρ)}(n:Nat)(I:Nat->σ->Prop)(he:∀i s,I i s->b1 s=b2 s)(hn:∀i s s',I i s->b2 s=some (.inl s')->i<n/\I (i+1) s'):∀s0,I 0 s0->Qy b1 s0=Qy b2 s0:=by
 have key:∀(k i:Nat) s,n<=i+k->I i s->Qy b1 s=Qy b2 s:=by
  intro k
  induction k with
  | zero=>
   intro i s hk hI
   rw [QbN,QbN (body:=b2),he i s hI]
   cases hb:b2 s with
   | none=>rfl
   | some o=>
    cases o with
    | inr r=>rfl
    | inl s'=>have:=(hn i s s' hI hb).1;omega
  | succ k ih=>
   intro i s hk hI
   rw [QbN,QbN (body:=b2),he i s hI]
   cases hb:b2 s with
   | none=>rfl
   | some o=>
    cases o with
    | inr r=>rfl
    | inl s'=>exact ih (i+1) s' (by omega) (hn i s s' hI hb).2
 exact fun s0 h=>key n 0 s0 (by omega) h
structure RN (n:Qq):Prop where
 c:∀c∈n.Colours,IC c
 g:∀t∈n.Tasks,RE t.Guard
 i:∀t∈n.Tasks,∀a∈t.Ins,RE a.Expr
 o:∀t∈n.Tasks,∀a∈t.Outs,RE a.Expr
theorem QwL {n:Qq}(h:QbA n)(hr:RN n)(task:Int)(vars:List Int):∃r,Qdj n task vars=some r/\QiE n task vars=some r/\(r.2=0->(∀x∈r.1,InI x)/\∃e,idx n.Tasks task=some e/\e∈n.Tasks):=by
 unfold Qdj QiE
 cases hq:((decide (task<0))||(decide ((n.Tasks.length:Int)<=task)))with
 | true=>exact⟨_,rfl,rfl,fun h=>by cases h⟩
 | false=>
  simp only [Qdf,QaT]at hq
  have he:idx n.Tasks task=some (n.Tasks[task.toNat]'(by omega)):=Qm1 (by omega) (by omega)
  have hm:(n.Tasks[task.toNat]'(by omega))∈n.Tasks:=Qbk _
  rw [cond_false,cond_false,he,Qn,Qn]
  generalize (n.Tasks[task.toNat]'(by omega))=e at he hm
  have hv:=(h.tk e hm).1
  by_cases hl:(vars.length:Int)=(e.Vars.length:Int)
  ·rw [show((vars.length:Int) != (e.Vars.length:Int))=false by simpa using hl,cond_false,cond_false,QnM (by simp;omega),Qn]
   have mx:(16:Nat)<=maxLen:=by decide
   obtain⟨r,q,e1,e2,e3⟩:=Qtd (b1:=fun st:Int×List Int=>QcJ e vars n st.1 st.2) (b2:=fun st:Int×List Int=>Qfy e vars n st.1 st.2) e.Vars.length
    (fun i s t=>s=((i:Int),t.2++List.replicate (e.Vars.length-i) 0)/\t.1=(i:Int)/\t.2.length=i/\∀x∈t.2,InI x) (fun r q=>r=q/\∀l,r=.inr l->∀x∈l,InI x) (fun i s t hi hI=>by
     obtain⟨a,out⟩:=t
     obtain⟨rfl,h2,h3,h4⟩:=hI
     replace h2:a=(i:Int):=h2
     subst h2
     replace h3:out.length=i:=h3
     replace h4:∀x∈out,InI x:=h4
     show(i<e.Vars.length/\∃s' t',QcJ e vars n i (out++List.replicate (e.Vars.length-i) 0)=_/\Qfy e vars n i out=_/\_)\/∃r q,QcJ e vars n i (out++List.replicate (e.Vars.length-i) 0)=_/\Qfy e vars n i out=_/\_
     unfold QcJ Qfy
     by_cases hlt:i<e.Vars.length
     ·rw [QH (by omega:(i:Int)<(e.Vars.length:Int)),cond_true,cond_true,Q7,QM hlt,Q7,QM (show i<vars.length by omega)]
      simp only [Qn]
      obtain⟨y,y1,y2,y3⟩:=QAq h.k.1 hr.c (e.Vars[i]).Colour (vars[i]'(by omega))
      have hrep:List.replicate (e.Vars.length-i) (0:Int)=0::List.replicate (e.Vars.length-(i+1)) 0:=by
       rw [show e.Vars.length-i=(e.Vars.length-(i+1))+1 by omega];rfl
      rw [y1,y2,Qn,Qn]
      cases y.2 with
      | false=>exact .inr ⟨_,_,rfl,rfl,rfl,fun l h=>by cases h⟩
      | true=>
       left
       simp only [QeQ,cond_false]
       rw [Q7,hrep,QbY (by omega),h3,Nat.sub_self,Qf4 (by simp;omega)]
       refine⟨hlt,_,_,rfl,rfl,?_,Qx hlt (by omega),by simp;omega,fun x hx=>?_⟩
       ·rw [Qx hlt (by omega),Qls,List.set_append_right _ _ (by omega),h3,Nat.sub_self,QhM];rfl
       rcases Qei.1 hx with hx | hx
       ·exact h4 x hx
       simp at hx;subst hx;exact y3
     right
     rw [QJ (by omega:¬(i:Int)<(e.Vars.length:Int))]
     have:i=e.Vars.length:=by omega
     subst this
     refine⟨_,_,rfl,rfl,?_,fun l hl=>?_⟩
     ·simp
     cases hl;simpa using h4) (0,List.replicate (e.Vars.length:Int).toNat 0) (0,[]) ⟨by simp,rfl,rfl,fun x h=>by cases h⟩
   obtain⟨e3,e4⟩:=e3
   subst e3
   rw [e1,e2]
   rcases r with r | r
   ·exact⟨_,rfl,rfl,fun h=>by cases h⟩
   exact⟨_,rfl,rfl,fun _=>⟨e4 r rfl,e,rfl,hm⟩⟩
  rw [show((vars.length:Int) != (e.Vars.length:Int))=true by simpa using hl]
  exact⟨_,rfl,rfl,fun h=>by cases h⟩
theorem QrO {n:Qq}(h:QbA n)(hr:RN n){l:List Qap}(hl:QI Qiu l)(hre:∀a∈l,RE a.Expr){which env:List Int}(hw:which.length<=1000)(hv:∀x∈env,InI x):QeC n l which env=Qal n l which env:=by
 unfold QeC Qal
 congr 1
 funext _
 have mx:(1000:Nat)<=maxLen:=by decide
 have e:Qy (fun st:Int×List (List (Int×Int))=>Qfd which l env n st.1 st.2) (0,(List.replicate (n.Places.length:Int).toNat (([]:(List (Int×Int))):(List (Int×Int)))))=Qy (fun st:Int×List (List (Int×Int))=>Qb2 which l env n st.1 st.2) (0,(List.replicate (n.Places.length:Int).toNat (([]:(List (Int×Int))):(List (Int×Int))))):=by
  refine QyI which.length (fun i s=>s.1=(i:Int)/\i<=which.length/\∀b∈s.2,b.length<=i) (fun i s hI=>?_) (fun i s s' hI hs=>?_) _ ⟨rfl,by omega,fun b hb=>by rw [Qsr hb];simp⟩
  ·obtain⟨a,m⟩:=s
   obtain⟨h1,h2,h3⟩:=hI
   replace h1:a=(i:Int):=h1
   subst h1
   replace h3:∀b∈m,b.length<=i:=h3
   show Qfd which l env n i m=Qb2 which l env n i m
   unfold Qfd Qb2
   cases decide ((i:Int)<(which.length:Int))with
   | false=>rfl
   | true=>
    rw [cond_true,cond_true]
    cases idx which (i:Int)with
    | none=>rfl
    | some k=>
     simp only [Qn]
     cases ((decide (k<0))||(decide ((l.length:Int)<=k)))with
     | true=>rfl
     | false=>
      rw [cond_false,cond_false]
      cases hk:idx l k with
      | none=>rfl
      | some a=>
       simp only [Qn]
       have ha:a∈l:=Qaa (Qck hk).2
       obtain⟨x,x1,x2,x3⟩:=QyG (hl.2 a ha).2 (hre a ha) hv
       rw [x1,x2,Qn,Qn]
       cases (x.2 != 0)with
       | true=>rfl
       | false=>
        rw [cond_false,cond_false]
        cases ((decide (a.Place<0))||(decide ((n.Places.length:Int)<=a.Place)))with
        | true=>rfl
        | false=>
         rw [cond_false,cond_false]
         cases idx n.Places a.Place with
         | none=>rfl
         | some p=>
          simp only [Qn]
          obtain⟨y,y1,y2⟩:=QAr h.k.1 hr.c p.Colour x.1 x3
          rw [y1,y2,Qn,Qn]
          cases hy:y.2 with
          | false=>rfl
          | true=>
           simp only [QeQ,cond_false]
           have y0:=Qnw (QzO n.Colours p.Colour x.1 h.k.1) y1 hy
           cases hb:idx m a.Place with
           | none=>rfl
           | some b=>
            simp only [Qn]
            have hbl:=h3 b (Qaa (Qck hb).2)
            rw [Qtb,QH y0,cond_true,Qn,Qz5 (by simp;omega)]
  obtain⟨a,m⟩:=s
  obtain⟨h1,h2,h3⟩:=hI
  replace h1:a=(i:Int):=h1
  subst h1
  replace h3:∀b∈m,b.length<=i:=h3
  replace hs:Qb2 which l env n i m=some (.inl s'):=hs
  unfold Qb2 at hs
  rcases Qo hs with⟨c,hs⟩|⟨_,hs⟩
  ·have hlt:i<which.length:=by simpa using c
   obtain⟨k,_,hs⟩:=Qb hs
   rcases Qo hs with⟨_,hs⟩|⟨_,hs⟩
   ·cases hs
   obtain⟨a,_,hs⟩:=Qb hs
   obtain⟨x,_,hs⟩:=Qb hs
   rcases Qo hs with⟨_,hs⟩|⟨_,hs⟩
   ·cases hs
   obtain⟨a',_,hs⟩:=Qb hs
   rcases Qo hs with⟨_,hs⟩|⟨_,hs⟩
   ·cases hs
   obtain⟨p,_,hs⟩:=Qb hs
   obtain⟨y,_,hs⟩:=Qb hs
   rcases Qo hs with⟨_,hs⟩|⟨_,hs⟩
   ·cases hs
   obtain⟨b,hb,hs⟩:=Qb hs
   obtain⟨o,ho,hs⟩:=Qb hs
   obtain⟨u,hu,hs⟩:=Qb hs
   obtain⟨_,_,hs⟩:=Qb hs
   rcases Qo hs with⟨_,hs⟩|⟨cu,hs⟩
   ·cases hs
   cases hs
   refine⟨hlt,Qx hlt (by omega),by omega,fun c hc=>?_⟩
   have hbl:=h3 b (Qaa (Qck hb).2)
   rw [Qtb]at ho
   have hol:o.length<=1:=by
    rw [<-Option.some.inj ho]
    cases decide (0<=y.1)<;>simp
   rcases Qpk hc with rfl | hc
   ·rcases Qkc b o (by omega)with⟨_,e⟩|⟨_,_,_,e⟩|⟨_,_,r,e,_,_,e2⟩
    ·rw [hu]at e;cases e;simp
    ·rw [hu]at e;cases e;simp
    rw [hu]at e;cases e;show r.length<=_;omega
   have:=h3 c hc;omega
  cases hs
 rw [e];rfl
theorem Qte {n:Qq}(h:QbA n)(hr:RN n){o:Qp}(ho:Qev n o):Qgm n o=QcC n o:=by
 unfold Qgm QcC
 obtain⟨r,e1,e2,e3⟩:=QwL h hr o.Task o.Vars
 rw [e1,e2,Qn,Qn]
 cases hz:(r.2 != 0)with
 | true=>rfl
 | false=>
  obtain⟨hv,e,he,hm⟩:=e3 (by simpa using hz)
  rw [cond_false,cond_false,he,Qn,Qn,QrO h hr (h.k.2.2.1.2 e hm).2.2.2.2.2.1 (hr.i e hm) (by have:=ho.2.1;omega) hv]
theorem QxI {n:Qq}(h:QbA n)(hr:RN n){o:Qp}(ho:Qev n o):Qgn n o=(Qdj n o.Task o.Vars).bind fun x=>bif (x.2 != 0)then some ([],x.2)else(idx n.Tasks o.Task).bind fun e=>(Qal n e.Outs o.Outs x.1).bind fun y=>some (y.1,y.2):=by
 unfold Qgn
 obtain⟨r,e1,e2,e3⟩:=QwL h hr o.Task o.Vars
 rw [e1,e2,Qn,Qn]
 cases hz:(r.2 != 0)with
 | true=>rfl
 | false=>
  obtain⟨hv,e,he,hm⟩:=e3 (by simpa using hz)
  rw [cond_false,cond_false,he,Qn,Qn,QrO h hr (h.k.2.2.1.2 e hm).2.2.2.2.2.2.1 (hr.o e hm) (by have:=ho.2.2;omega) hv]
theorem QvW {a m:List (List (Int×Int))}(ha:QI (QI fun _=>True) a)(hm:QI (QI fun _=>True) m):Qhz a m=Qe4 a m:=by
 unfold Qhz Qe4 Qac
 cases ((a.length:Int) != (m.length:Int))with
 | true=>rfl
 | false=>
  rw [cond_false,cond_false]
  have e:(fun st=>Qhd a m st)=fun st=>QK a m st:=by
   funext i
   unfold Qhd QK
   cases decide (i<(a.length:Int))with
   | false=>rfl
   | true=>
    rw [cond_true,cond_true]
    cases hx:idx a i with
    | none=>rfl
    | some x=>
     cases hy:idx m i with
     | none=>rfl
     | some y=>
      simp only [Qn]
      rw [QvV (ha.2 x (Qaa (Qck hx).2)).1 (hm.2 y (Qaa (Qck hy).2)).1]
  rw [e]
  cases Qy (fun st=>QK a m st) 0 with
  | none=>rfl
  | some q=>cases q<;>rfl
theorem QDB (a b:List Int)(ha:a.length<=maxLen):Qqb a b=some (decide (a=b)):=by
 rw [<-QxE a b ha];rfl
theorem QxJ (kind arcs:Int)(row:List Int):Qhx kind arcs row=some (decide (row∈chC kind arcs)):=by
 unfold Qhx
 obtain⟨e,hx⟩:=QCd kind arcs
 rw [QzZ,e,Qn]
 generalize chC kind arcs=x at hx
 have mx:(16:Nat)<=maxLen:=by decide
 have hl:=hx.1
 rw [Qqk (body:=fun st:Int=>QcY x row st) (l:=x) (fun i=>(i:Int)) (fun _ y=>decide (y=row)) (.inl ()) (.inr ()) (fun i y hi hy=>by
  show QcY x row i=_
  unfold QcY
  rw [QH (by omega),cond_true,Q7,hy,Qn,QDB _ _ (by have:=hx.2 y (Qaa hy);omega),Qn,Qx hi (by omega)]
  cases decide (y=row)<;>rfl) (by
  show QcY x row x.length=_
  unfold QcY
  rw [QJ (by omega),cond_false]) (s0:=0) rfl,Qn]
 by_cases hm:row∈x
 ·obtain⟨i,hi⟩:=Qlu.1 hm
  have:Qm2 (fun _ y=>decide (y=row)) 0 x=true:=Qwv.2 ⟨i,row,hi,by simp⟩
  rw [this,QH hm];rfl
 have:Qm2 (fun _ y=>decide (y=row)) 0 x=false:=Qs5.2 fun i y hy=>QJ fun e=>hm (e▸Qaa hy)
 rw [this,QJ hm];rfl
theorem QEa {l:List Int}(hl:l.length<=maxLen)(k:Int):Qpf l k=some (decide (k∈l)):=by
 unfold Qpf
 rw [Qqk (body:=fun st:Int=>Qe6 l k st) (l:=l) (fun i=>(i:Int)) (fun _ y=>y==k) (.inl ()) (.inr ()) (fun i y hi hy=>by
  show Qe6 l k i=_
  unfold Qe6
  rw [QH (by omega),cond_true,Q7,hy,Qn,Qx hi hl]
  cases (y==k)<;>rfl) (by
  show Qe6 l k l.length=_
  unfold Qe6
  rw [QJ (by omega),cond_false]) (s0:=0) rfl,Qn]
 by_cases hm:k∈l
 ·obtain⟨i,hi⟩:=Qlu.1 hm
  have:Qm2 (fun _ y=>y==k) 0 l=true:=Qwv.2 ⟨i,k,hi,by simp⟩
  rw [this,QH hm];rfl
 have:Qm2 (fun _ y=>y==k) 0 l=false:=Qs5.2 fun i y hy=>by
  have:=Qaa hy
  simp only [beq_eq_false_iff_ne]
  intro e;exact hm (e▸this)
 rw [this,QJ hm];rfl
theorem QEb {l:List Int}(hl:l.length<=maxLen)(k:Int):QaB l k=some (decide (k∈l)):=by
 unfold QaB Qc9
 rw [QCi (l:=l) (fun y=>k==y) (fun i x hi hx=>by
  show QaA l k i=_
  unfold QaA
  rw [QH (by omega),cond_true,Q7,hx,Qn,Qx hi hl]
  cases (k==x)<;>rfl) (by
  show QaA l k l.length=_
  unfold QaA
  rw [QJ (by omega),cond_false])]
 have e:decide (k∈l)=l.any fun y=>k==y:=by
  apply Bool.eq_iff_iff.2
  simp [Qlt]
 rw [e,<-QDc]
 cases QkR (fun _ y=>k==y) 0 l<;>rfl
end Go.Proofs
noncomputable section
namespace Go.Proofs
open Go Go.RowKit Go.Vm
def chP (arcs:Nat):Bool:=((QaC 3 arcs).getD []).all fun row=>(List.range arcs).all fun k=>decide ((k:Int)∈row)||decide (QnL row k=some (Qej (row++[(k:Int)])))
theorem QEc {arcs:Nat}{row:List Int}(h:row∈chC 3 arcs){k:Nat}(hk:k<arcs)(hn:(k:Int) ∉ row):QnL row k=some (Qej (row++[(k:Int)])):=by
 by_cases h4:arcs<=4
 ·have c:chP arcs=true:=by
   rcases show arcs=0\/arcs=1\/arcs=2\/arcs=3\/arcs=4 by omega with e | e | e | e | e<;>subst e<;>kernel_rfl
  have:=Q9.1 (Q9.1 c row h) k (QiW.2 hk)
  rw [QJ hn,Bool.false_or]at this
  exact Qai this
 exfalso
 unfold chC QaC at h
 have:((decide ((arcs:Int)<0))||((decide ((16:Int)<(arcs:Int)))||(((3:Int)==3)&&(decide ((4:Int)<(arcs:Int))))))=true:=by simp;omega
 rw [this]at h
 simp at h
theorem QBt {n:Qq}(h:QbA n)(hr:RN n){m:List (List (Int×Int))}(hm:QI (QI fun _=>True) m){o:Qp}(ho:Qev n o){e:QG}(he:e∈n.Tasks)(hj:e.Join=3){env:List Int}{z:Int}(hv:∀x∈env,InI x)(hch:o.Ins∈chC e.Join e.Ins.length):
  Qy (fun st=>Qb7 e o n (env,z) m st) 0=Qy (fun st=>Qaj (QO.mk n m e env) o.Ins st) 0:=by
 have hi:=(h.tk e he).2.1
 have mx:(1000:Nat)<=maxLen:=by decide
 have hil:=ho.2.1
 rw [hj]at hch
 refine QyI (b1:=fun st=>Qb7 e o n (env,z) m st) (b2:=fun st=>Qaj (QO.mk n m e env) o.Ins st) e.Ins.length (fun i s=>s=(i:Int)) (fun i s hI=>?_) (fun i s s' hI hs=>?_) 0 rfl
 ·subst hI
  show Qb7 e o n (env,z) m i=Qaj (QO.mk n m e env) o.Ins i
  unfold Qb7 Qaj
  rw [hj,show((3:Int)==3)=true from rfl,Bool.and_true]
  by_cases hlt:i<e.Ins.length
  ·rw [QH (by omega:(i:Int)<(e.Ins.length:Int)),cond_true,cond_true,QEa (by omega),QEb (by omega),Qn,Qn]
   by_cases hin:(i:Int)∈o.Ins
   ·rw [QH hin];rfl
   rw [QJ hin,cond_false,cond_false,QEc hch hlt hin,QyA _ (by omega),Qn,Qn,Qf4 (by simp;omega),Qn,QzQ _ (by simp;omega),Qn,Qf4 (QhI _),Qn]
   show(QeC n e.Ins _ env).bind _=_
   rw [QrO h hr (h.k.2.2.1.2 e he).2.2.2.2.2.1 (hr.i e he) (by rw [QhI];simp;omega) hv]
   show _=(Qal n e.Ins _ env).bind _
   cases hx:Qal n e.Ins (Qej (o.Ins++[(i:Int)])) env with
   | none=>rfl
   | some x=>
    simp only [Qn]
    have:=Qnw (Ql6 n e.Ins _ env h (h.k.2.2.1.2 e he).2.2.2.2.2.1 (by rw [QhI];simp;omega)) hx
    unfold Qqi QgQ
    cases hz:(x.2==0)with
    | false=>rfl
    | true=>
     rw [cond_true,cond_true,QvW ((this (by simpa using hz)).1.len h (by rw [QhI];simp;omega)) hm]
     rfl
  rw [QJ (by omega:¬(i:Int)<(e.Ins.length:Int))];rfl
 subst hI
 replace hs:Qaj (QO.mk n m e env) o.Ins i=some (.inl s'):=hs
 unfold Qaj at hs
 rcases Qo hs with⟨c,hs⟩|⟨_,hs⟩
 ·have hlt:i<e.Ins.length:=by
   have:(i:Int)<(e.Ins.length:Int):=Qai c
   omega
  refine⟨hlt,?_⟩
  have fin:∀s',Qcf (i:Int)=some (.inl s')->s'=((i+1:Nat):Int):=fun s' h=>by
   unfold Qcf at h
   rw [<-Qx (n:=e.Ins.length) hlt (by omega)];cases h;rfl
  obtain⟨_,_,hs⟩:=Qb hs
  rcases Qo hs with⟨_,hs⟩|⟨_,hs⟩
  ·exact fin s' hs
  obtain⟨_,_,hs⟩:=Qb hs
  obtain⟨_,_,hs⟩:=Qb hs
  obtain⟨_,_,hs⟩:=Qb hs
  obtain⟨_,_,hs⟩:=Qb hs
  obtain⟨_,_,hs⟩:=Qb hs
  obtain⟨_,_,hs⟩:=Qb hs
  unfold Qda at hs
  rcases Qo hs with⟨_,hs⟩|⟨_,hs⟩
  ·cases hs
  exact fin s' hs
 cases hs
theorem QBu {n:Qq}(h:QbA n)(hr:RN n){m:List (List (Int×Int))}(hm:QI (QI fun _=>True) m){o:Qp}(ho:Qev n o):QlL n m o=Qdb n m o:=by
 have hN:=Qte h hr ho
 have hG:=QxI h hr ho
 unfold QcC at hN
 unfold QlL Qdb QbQ
 obtain⟨⟨env,z⟩,e1,e2,e3⟩:=QwL h hr o.Task o.Vars
 rw [e1]at hN hG
 rw [e1,e2]
 simp only [Qn]at hN hG ⊢
 cases hz:(z != 0)with
 | true=>
  have hz2:(z==0)=false:=by simpa using hz
  rw [cond_true,cond_true,Qn]
  simp only [hz2,cond_false]
  unfold Qbn
  rw [hz];rfl
 | false=>
  have hz0:z=0:=by simpa using hz
  obtain⟨hv,e,he,hmem⟩:=e3 hz0
  rw [hz,cond_false,he,Qn]at hN hG
  rw [cond_false,cond_false,he,Qn,Qn,Qn]
  simp only [show((0:Int)==0)=true from rfl,cond_true]
  obtain⟨x,x1,x2,_⟩:=QyG (h.k.2.2.1.2 e hmem).2.2.1 (hr.g e hmem) hv
  unfold Qaf
  simp only [x1,x2,Qn]
  cases hx:(x.2 != 0)with
  | true=>
   simp only [cond_true,Qn]
   unfold Qbn
   rw [hx];rfl
  | false=>
   simp only [cond_false]
   cases hx0:(x.1==0)with
   | true=>rfl
   | false=>
    simp only [cond_false,Qn]
    unfold Qbn Qgv QdV
    simp only [show((0:Int) != 0)=false from rfl,cond_false]
    rw [QxJ,QxJ,QiF,QiF,Qn,Qn,Qn]
    by_cases c1:o.Ins∈chC e.Join e.Ins.length
    ·by_cases c2:o.Outs∈chC e.Split e.Outs.length
     ·rw [QH c1,QH c2]
      simp only [QeQ,Bool.or_false,cond_false,Qn]
      rw [hN]
      unfold Qae Qam
      show _=(((Qal n e.Ins o.Ins env).bind _).bind _:Option Int)
      have kt:=Ql6 n e.Ins o.Ins env h (h.k.2.2.1.2 e hmem).2.2.2.2.2.1 (by have:=ho.2.1;omega)
      obtain⟨T,hT,hT2⟩:=kt
      rw [hT]
      simp only [Qn]
      cases ht:(T.2 != 0)with
      | true=>
       simp only [cond_true,Qn,ht]
      | false=>
       simp only [cond_false]
       rw [QvW ((hT2 (by simpa using ht)).1.len h (by have:=ho.2.1;omega)) hm]
       obtain⟨w,hw,_⟩:=QwJ T.1 m ((hT2 (by simpa using ht)).1.len h (by have:=ho.2.1;omega)) hm
       rw [hw]
       simp only [Qn]
       cases w with
       | false=>rfl
       | true=>
        simp only [QeQ,cond_false]
        have fin:QeD n o=(Qal n e.Outs o.Outs env).bind fun x=>some x.2:=by
         unfold QeD
         rw [hG]
         cases Qal n e.Outs o.Outs env with
         | none=>rfl
         | some y=>rfl
        by_cases hj:e.Join=3
        ·rw [QBt h hr hm ho hmem hj hv c1]
         simp only [hj,show((3:Int) != 3)=false from rfl,cond_false]
         cases Qy (fun st=>Qaj (QO.mk n m e env) o.Ins st) 0 with
         | none=>rfl
         | some q=>
          rcases q with q | q
          ·rfl
          show QeD n o=_
          rw [fin]
          cases Qal n e.Outs o.Outs env<;>rfl
        have hjb:(e.Join==3)=false:=by simpa using hj
        have hjn:(e.Join != 3)=true:=by simpa using hj
        simp only [hjn,cond_true,Qn,show((0:Int) != 0)=false from rfl,cond_false]
        have:Qy (fun st=>Qb7 e o n (env,z) m st) 0=some (.inr ()):=by
         refine QnO.2 (.done ?_)
         show Qb7 e o n (env,z) m 0=_
         unfold Qb7
         rw [hjb,Bool.and_false];rfl
        rw [this]
        show QeD n o=_
        rw [fin]
        cases Qal n e.Outs o.Outs env<;>rfl
     rw [QH c1,QJ c2];rfl
    rw [QJ c1];rfl
end Go.Proofs
noncomputable section
namespace Go.Proofs
open Go Go.RowKit Go.Vm
end Go.Proofs
noncomputable section
namespace Go.Proofs
open Go Go.RowKit Go.Vm
theorem QCm {a b:List (Int×Int)}(h:a.length+b.length<=4294967290):QhA a b=Qfj a b:=by
 unfold QhA Qrk Qjz
 have ha:a.length<=maxLen:=by unfold maxLen;omega
 have hb:b.length<=maxLen:=by unfold maxLen;omega
 rw [Qke ha,Qke hb,Qn,QvV hb ha]
 obtain⟨w,hw,hw2⟩:=Qm5 b a hb ha
 rw [hw]
 rcases Qom a b (by omega)with⟨h1,h2⟩|⟨h1,h2,⟨k,h3⟩,h4⟩|⟨h1,h2,h3,r,h4,h5,h6,h7⟩
 ·rw [h2,<-Qa5,<-Qa5]at *
  cases ra:rtF (-1) a with
  | false=>rfl
  | true=>
   cases rb:rtF (-1) b with
   | false=>rfl
   | true=>exact absurd ⟨ra,rb⟩ h1
 ·rw [Qa5.2 h1,Qa5.2 h2,h4]
  have:w=false:=by
   cases w with
   | false=>rfl
   | true=>have:=(hw2.1 rfl).2.2 k;omega
  rw [this];rfl
 rw [Qa5.2 h1,Qa5.2 h2,hw2.2 ⟨h2,h1,h3⟩,h4]
 simp only [QeQ,cond_false,Qn,Qo2,Qkh,Qmk]
 rw [Qf4 (by omega),Qn]
 obtain⟨q,hq,hp1,hp2⟩:=QhB (body:=fun st:Int×List (Int×Int)=>Qd2 b a st.1 st.2) b.length
  (fun i s=>s.1=(i:Int)/\Rt s.2/\(∀k,QA s.2 k=QA a k-QA (b.take i) k)/\s.2.length<=a.length+i)
  (fun q=>Rt q/\∀k,QA q k=QA a k-QA b k) (fun i s hi hI=>by
   obtain⟨x,out⟩:=s
   obtain⟨g1,g2,g3,g4⟩:=hI
   replace g1:x=(i:Int):=g1
   subst g1
   replace g2:Rt out:=g2
   replace g3:∀k,QA out k=QA a k-QA (b.take i) k:=g3
   replace g4:out.length<=a.length+i:=g4
   have hx:b[i]? = some b[i]:=QM hi
   have hbi:=h2.2 _ (Qbk hi)
   left
   show ∃s',Qd2 b a i out=_/\_
   unfold Qd2
   rw [QH (by omega),cond_true,Q7,hx]
   simp only [Qn]
   have hc:=h1.cnt b[i].1
   have hle:=h3 b[i].1
   rw [Qgo h2.1.nd (Qbk hi)]at hle
   rw [QuY ha h1,Qn,QaK (by omega)]
   obtain⟨r',r1,r2,r3,r4⟩:=Qz3 (b:=out) (by omega) g2 (m:=b[i].1) (n:=QA a b[i].1-b[i].2) (by omega) (by omega)
   rw [r1,Qn]
   refine⟨_,rfl,Qx hi hb,r2,fun k=>?_,by show r'.length<=_;omega⟩
   show QA r' k=_
   rw [r3,Qz4 h2.1 hi,g3]
   by_cases ek:k=b[i].1
   ·subst ek;rw [if_pos rfl,if_pos rfl]
   ·rw [if_neg ek,if_neg ek]) (fun s hI=>by
   obtain⟨x,out⟩:=s
   obtain⟨g1,g2,g3,g4⟩:=hI
   replace g1:x=(b.length:Int):=g1
   subst g1
   rw [Qki]at g3
   refine⟨out,?_,g2,g3⟩
   show Qd2 b a b.length out=_
   unfold Qd2
   rw [QJ (by omega)];rfl) (0,a) ⟨rfl,h1,fun k=>by simp [QA,QV],by simp⟩
 rw [hq]
 have:q=r:=QB2 hp1 h5 fun k=>by rw [hp2,h6]
 subst this;rfl
theorem Qz6 {a b:List (List (Int×Int))}{sum:Bool}{how:List (Int×Int)->List (Int×Int)->Option (List (Int×Int)×Int)}{body:Int×List (List (Int×Int))->Option ((Int×List (List (Int×Int)))⊕(Int⊕List (List (Int×Int))))}(N:Nat)(hN:N<=100000)(ha:N<=a.length)(hb:N<=b.length)(hab:N=a.length\/N=b.length)
  (hh:∀x∈a,∀y∈b,(bif sum then QgS x y else QhA x y)=how x y) (ht:∀x∈a,∀y∈b,∃z,how x y=some z)
  (hbody:∀(i:Nat) l,body ((i:Int),l)=bif decide ((i:Int)<(N:Int))then(idx a i).bind fun x=>(idx b i).bind fun y=>(how x y).bind fun z=>(idx l i).bind fun _=>bif (z.2 != 0)then some (.inr (.inl z.2))else some (.inl (w64 ((i:Int)+1),l.set i z.1))else some (.inr (.inr l))):
  Qy (fun st:Int×List (List (Int×Int))=>Qd3 a b sum st.1 st.2) (0,[])=Qy body (0,List.replicate N []):=by
 have mx:(100000:Nat)<=maxLen:=by decide
 obtain⟨r,q,e1,e2,e3⟩:=Qtd (b1:=fun st:Int×List (List (Int×Int))=>Qd3 a b sum st.1 st.2) (b2:=body) N
  (fun i s t=>s.1=(i:Int)/\s.2.length=i/\t=((i:Int),s.2++List.replicate (N-i) [])) (fun r q=>r=q) (fun i s t hi hI=>by
   obtain⟨x,out⟩:=s
   obtain⟨h1,h2,rfl⟩:=hI
   replace h1:x=(i:Int):=h1
   subst h1
   replace h2:out.length=i:=h2
   show(i<N/\∃s' t',Qd3 a b sum i out=_/\body ((i:Int),out++List.replicate (N-i) [])=_/\_)\/∃r q,Qd3 a b sum i out=_/\body ((i:Int),out++List.replicate (N-i) [])=_/\_
   rw [hbody]
   unfold Qd3 QjA
   by_cases hlt:i<N
   ·have i1:i<a.length:=by omega
    have i2:i<b.length:=by omega
    obtain⟨z,hz⟩:=ht _ (Qbk i1) _ (Qbk i2)
    have hh1:=hh _ (Qbk i1) _ (Qbk i2)
    rw [hz]at hh1
    have hrep:List.replicate (N-i) ([]:List (Int×Int))=[]::List.replicate (N-(i+1)) []:=by
     rw [show N-i=(N-(i+1))+1 by omega];rfl
    rw [QH (by omega:(i:Int)<(a.length:Int)),QH (by omega:(i:Int)<(b.length:Int)),QH (by omega:(i:Int)<(N:Int)),Bool.and_true,cond_true,cond_true,Q7,QM i1,Q7,QM i2,Q7,hrep,QbY (by omega),h2,Nat.sub_self]
    simp only [Qn,hz,List.getElem?_cons_zero]
    have one:(bif sum then(QgS a[i] b[i]).bind fun x22=>bif (x22.2 != 0)then some (.inr (.inl x22.2))else(chk (decide (i+[x22.1].length<=4294967296))).bind fun _=>some (.inl (w64 ((i:Int)+1),out++[x22.1]))else(QhA a[i] b[i]).bind fun x27=>bif (x27.2 != 0)then some (.inr (.inl x27.2))else(chk (decide (i+[x27.1].length<=4294967296))).bind fun _=>some (.inl (w64 ((i:Int)+1),out++[x27.1])):Option ((Int×List (List (Int×Int)))⊕(Int⊕List (List (Int×Int)))))=bif (z.2 != 0)then some (.inr (.inl z.2))else(chk (decide (i+[z.1].length<=4294967296))).bind fun _=>some (.inl (w64 ((i:Int)+1),out++[z.1])):=by
     cases sum with
     | true=>simp only [cond_true]at hh1 ⊢;rw [hh1];rfl
     | false=>simp only [cond_false]at hh1 ⊢;rw [hh1];rfl
    rw [one]
    cases (z.2 != 0)with
    | true=>exact .inr ⟨_,_,rfl,rfl,rfl⟩
    | false=>
     left
     rw [cond_false,cond_false,Qf4 (by simp;omega)]
     refine⟨hlt,_,_,rfl,rfl,Qx hlt (by omega),by simp;omega,?_⟩
     rw [Qx hlt (by omega),List.set_append_right _ _ (by omega),h2,Nat.sub_self,QhM];rfl
   right
   have hf:(decide ((i:Int)<(a.length:Int))&&decide ((i:Int)<(b.length:Int)))=false:=by
    rcases hab with e | e
    ·rw [QJ (by omega:¬(i:Int)<(a.length:Int))];rfl
    rw [QJ (by omega:¬(i:Int)<(b.length:Int)),Bool.and_false]
   rw [hf,QJ (by omega:¬(i:Int)<(N:Int))]
   exact⟨_,_,rfl,rfl,by rw [show N-i=0 by omega];simp⟩) (0,[]) (0,List.replicate N []) ⟨rfl,rfl,rfl⟩
 rw [e1,e2,e3]
theorem Qtf (a b:Nat):min2 (a:Int) (b:Int)=((min a b:Nat):Int):=by
 unfold min2;split<;>omega
theorem Qz7 {a b:List (List (Int×Int))}(hl:a.length<=100000)(h:∀x∈a,∀y∈b,x.length+y.length<=4294967290):Qd4 a b true=Qa0 a b:=by
 unfold Qd4 Qa0
 rw [Qtf,QnM (by simp;omega),Qn,Qls]
 rw [Qz6 (sum:=true) (how:=Qec) (body:=fun st:Int×List (List (Int×Int))=>QbD a b st.1 st.2) (min a.length b.length) (by omega) (by omega) (by omega) (by omega) (fun x hx y hy=>Qz5 (h x hx y hy)) (fun x hx y hy=>by
  rcases Qkc x y (by have:=h x hx y hy;omega)with⟨_,e⟩|⟨_,_,_,e⟩|⟨_,_,r,e,_⟩<;>exact⟨_,e⟩) (fun i l=>by
  show QbD a b i l=_
  unfold QbD
  rw [Qtf,Qls,List.length_replicate,Qls])]
 cases Qy (fun st:Int×List (List (Int×Int))=>QbD a b st.1 st.2) (0,List.replicate (min a.length b.length) [])with
 | none=>rfl
 | some q=>cases q<;>rfl
theorem QCn {a b:List (List (Int×Int))}(hl:a.length<=100000)(h:∀x∈a,∀y∈b,x.length+y.length<=4294967290):Qd4 a b false=Qed a b:=by
 unfold Qd4 Qed
 rw [Qtf,QnM (by simp;omega),Qn,Qls]
 rw [Qz6 (sum:=false) (how:=Qfj) (body:=fun st:Int×List (List (Int×Int))=>QcD a b st.1 st.2) (min a.length b.length) (by omega) (by omega) (by omega) (by omega) (fun x hx y hy=>QCm (h x hx y hy)) (fun x hx y hy=>by
  rcases Qom x y (by have:=h x hx y hy;omega)with⟨_,e⟩|⟨_,_,_,e⟩|⟨_,_,_,r,e,_⟩<;>exact⟨_,e⟩) (fun i l=>by
  show QcD a b i l=_
  unfold QcD
  rw [Qtf,Qls,List.length_replicate,Qls])]
 cases Qy (fun st:Int×List (List (Int×Int))=>QcD a b st.1 st.2) (0,List.replicate (min a.length b.length) [])with
 | none=>rfl
 | some q=>cases q<;>rfl
theorem QBv {n:Qq}(h:QbA n){m:List (List (Int×Int))}(hm:QI (QI fun _=>True) m){o:Qp}(ho:Qev n o)(hc:Qdb n m o=some 0):∃need,QcC n o=some (need,0):=by
 obtain⟨_,e,he,_,_,_,b,b1,b2,b3,b4⟩:=QyD.1 ((QCf h hm ho).1 hc)
 obtain⟨k1,k2,k3,k4,k5,k6⟩:=Qtc h b1
 unfold QcC
 rw [k6,k1]
 unfold Qae at b3
 rw [k3]at b3
 obtain⟨x,hx,b3⟩:=Qb b3
 rcases Qo b3 with⟨c,b3⟩|⟨c,_⟩
 ·rw [Option.some.inj b3]at c;cases c
 refine⟨x.1,?_⟩
 simp only [Qn,show((0:Int) != 0)=false from rfl,cond_false]
 rw [hx]
 have:x.2=0:=by simpa using c
 show some (x.1,x.2)=_
 rw [this]
theorem QyJ {n:Qq}(h:QbA n)(hr:RN n){c:Nat}(hc:c<=900000){m:List (List (Int×Int))}(hm:MOk n c m){o:Qp}(ho:Qev n o):Qj7 n m o=QdN n m o:=by
 unfold Qj7 QdN
 have hml:=hm.len h (by omega)
 rw [QBu h hr hml ho]
 obtain⟨x,hx,_⟩:=QAw n m o h hml ho
 rw [hx,Qn,Qn]
 cases hz:(x != 0)with
 | true=>rfl
 | false=>
  have:x=0:=by simpa using hz
  subst this
  obtain⟨need,hneed⟩:=QBv h hml ho hx
  have hn:=(Qnw (Qvf n o h ho) hneed rfl).1
  rw [cond_false,cond_false,Qte h hr ho,hneed,Qn,Qn]
  simp only [show((0:Int) != 0)=false from rfl,cond_false]
  rw [QCn (by have:=hm.1;have:=h.pl;omega) fun x hx y hy=>by
   have:=(hm.2 x hx).2
   have:=(hn.2 y hy).2
   omega]
theorem QC2 {n:Qq}(h:QbA n)(hr:RN n){o:Qp}(ho:Qev n o):Qgn n o=QjS n o:=QxI h hr ho
theorem QCo {n:Qq}(h:QbA n)(hr:RN n){c:Nat}(hc:c<=900000){m:List (List (Int×Int))}(hm:MOk n c m){o:Qp}(ho:Qev n o){need:List (List (Int×Int))}(hn:QcC n o=some (need,0)):Qd4 m need true=Qa0 m need:=
 Qz7 (by have:=hm.1;have:=h.pl;omega) fun x hx y hy=>by
  have:=(hm.2 x hx).2
  have:=((Qnw (Qvf n o h ho) hn rfl).1.2 y hy).2
  omega
theorem QAs (e:QG)(m:List (List (Int×Int))):Qy (fun st:Int×List (List (Int×Int))=>QgH e st.1 st.2) (0,m)=Qy (fun st:Int×List (List (Int×Int))=>Qbj e st.1 st.2) (0,m):=by
 have hb:(fun st:Int×List (List (Int×Int))=>QgH e st.1 st.2)=fun st=>Qbj e st.1 st.2:=by
  funext st
  unfold QgH Qbj Qrp QjB
  cases decide (st.1<(e.Cancel.length:Int))with
  | false=>rfl
  | true=>
   rw [cond_true,cond_true]
   cases idx e.Cancel st.1 with
   | none=>rfl
   | some k=>
    simp only [Qn]
    cases decide (0<=k)with
    | false=>rfl
    | true=>
     cases decide (k<(st.2.length:Int))with
     | false=>rfl
     | true=>rfl
 rw [hb]
theorem QBw {e:QG}{m q:List (List (Int×Int))}{c:Nat}(hc:e.Cancel.length<=16)(hm:∀b∈m,b.length<=c)(h:Qy (fun st:Int×List (List (Int×Int))=>Qbj e st.1 st.2) (0,m)=some q):q.length=m.length/\∀b∈q,b.length<=c:=by
 have key:Qi (Qy (fun st:Int×List (List (Int×Int))=>Qbj e st.1 st.2) (0,m)) fun q=>q.length=m.length/\∀b∈q,b.length<=c:=by
  refine Qi.up e.Cancel.length (fun st=>st.1) (fun st=>st.2.length=m.length/\∀b∈st.2,b.length<=c) rfl ⟨rfl,hm⟩ (fun i st hi hn hJ=>?_)
  obtain⟨x,l⟩:=st
  replace hi:x=(i:Int):=hi
  subst hi
  obtain⟨j1,j2⟩:l.length=m.length/\∀b∈l,b.length<=c:=hJ
  show Qi (Qbj e i l) _
  unfold Qbj Qfw
  refine T1 (fun hc2=>?_) fun _=>T2 (Qw ⟨j1,j2⟩)
  simp only [Q0]at hc2
  have hw:w64 ((i:Int)+1)=((i+1:Nat):Int):=Qx (show i<e.Cancel.length by omega) (by unfold maxLen;omega)
  refine T0 (T4 (by omega) hc2) fun k _=>?_
  refine T1 (fun hk=>?_) fun _=>T2 (QR ⟨by omega,hw,j1,j2⟩)
  simp only [QB,Q0]at hk
  refine T0 (T4 hk.1 hk.2) fun _ _=>T2 (QR ⟨by omega,hw,by simpa using j1,fun b hb=>?_⟩)
  rcases Qpk hb with rfl | hb
  ·simp
  exact j2 b hb
 exact Qnw key h
theorem QyK {n:Qq}(h:QbA n)(hr:RN n){c:Nat}(hc:c<=900000){m:List (List (Int×Int))}(hm:MOk n c m){o:Qp}(ho:Qev n o):Qj8 n m o=QdO n m o:=by
 unfold Qj8 QdO
 rw [QC2 h hr ho]
 obtain⟨x,hx,hx2⟩:=QAx n o h ho
 rw [hx,Qn,Qn]
 cases hz:(x.2 != 0)with
 | true=>rfl
 | false=>
  obtain⟨⟨g1,_⟩,g2,g3⟩:=hx2 (by simpa using hz)
  have hpl:=h.pl
  have hml:=hm.1
  have hmem:(n.Tasks[o.Task.toNat]'(by omega))∈n.Tasks:=Qbk _
  rw [cond_false,cond_false,Qf4 (by simp;omega),Qn,QuU m (by omega) fun b hb=>by have:=(hm.2 b hb).2;omega,Qn,Qm1 g2 g3,Qn,Qn,Qo2,QAs]
  cases hq:Qy (fun st:Int×List (List (Int×Int))=>Qbj (n.Tasks[o.Task.toNat]'(by omega)) st.1 st.2) (0,m)with
  | none=>rfl
  | some q=>
   obtain⟨q1,q2⟩:=QBw (h.tk _ hmem).2.2.2 (fun b hb=>(hm.2 b hb).2) hq
   rw [Qn,Qn]
   unfold QmZ Qfx
   rw [Qz7 (by omega) fun a ha b hb=>by
    have:=q2 a ha
    have:=(g1.2 b hb).2
    omega]
theorem QDC {n:Qq}(h:QbA n)(hr:RN n){c:Nat}(hc:c<=800000){m:List (List (Int×Int))}(hm:MOk n c m){o:Qp}(ho:Qev n o):Qpg n m o=Qee n m o:=by
 unfold Qpg Qee
 rw [QyJ h hr (by omega) hm ho]
 obtain⟨x,hx,hx2⟩:=QzV n m o c h hm (by omega) ho
 rw [hx,Qn,Qn]
 cases hz:(x.2 != 0)with
 | true=>rfl
 | false=>rw [cond_false,cond_false,QyK h hr (c:=c+20) (by omega) (hx2 (by simpa using hz)) ho]
end Go.Proofs
