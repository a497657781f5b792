/- A part of the proof; what it holds is told at each theorem. -/
import Derived.Test.YtbfgchciebcbpaaGreatDoorH1P1
import Derived.Test.YtbfgchciebcbpaaGreatDoorH1T3
import Derived.KernelRfl
import Derived.Test.YtbfgchciebcbpaaGreatDoorH1P1
import Derived.Test.YtbfgchciebcbpaaGreatDoorH1P1
import Derived.Test.YtbfgchciebcbpaaGreatDoorH1P1
import Derived.Test.YtbfgchciebcbpaaGreatDoorH1XPlA
set_option linter.unusedVariables false
set_option linter.unusedSimpArgs false
set_option linter.unusedSectionVars false
set_option linter.deprecated false
noncomputable section
namespace Go.Proofs
open Go Go.RowKit Go.Vm
theorem QCr {σ ρ:Type}{body:σ→Option (σ⊕ρ)}(mu:σ→Nat)(J:σ→Prop){Q:ρ→Prop}{s0:σ}(hJ:J s0)
  (step:∀s,J s→Qf (body s) fun o=>(∀s',o=.inl s'→mu s'<mu s∧J s')∧∀r,o=.inr r→Q r):Qf (QD body s0) Q:=by
 have key:∀k s,mu s≤k→J s→Qf (QD body s) Q:=by
  intro k
  induction k with
  | zero=>
   intro s hk hj
   obtain⟨o,ho,h1,h2⟩:=step s hj
   cases o with
   | inl s'=>have:=(h1 s' rfl).1;omega
   | inr r=>exact⟨r,by rw [QcC,ho];rfl,h2 r rfl⟩
  | succ k ih=>
   intro s hk hj
   obtain⟨o,ho,h1,h2⟩:=step s hj
   cases o with
   | inl s'=>
    obtain⟨h3,h4⟩:=h1 s' rfl
    obtain⟨r,h5,h6⟩:=ih s' (by omega) h4
    exact⟨r,by rw [QcC,ho];exact h5,h6⟩
   | inr r=>exact⟨r,by rw [QcC,ho];rfl,h2 r rfl⟩
 exact key _ s0 (Qb4 _) hJ
def QjH : List Int→Nat
 | []=>0
 | d::r=>d.toNat*1025 ^ r.length+QjH r
theorem QAS {l:List Int}(h:∀d∈l,0≤d∧d≤1024):QjH l<1025 ^ l.length:=by
 induction l with
 | nil=>simp [QjH]
 | cons d l ih=>
  have h1:=ih fun x hx=>h x (Qah _ hx)
  have h2:=h d Q9
  simp only [QjH,Qex,Nat.pow_succ]
  have h3:d.toNat*1025 ^ l.length≤1024*1025 ^ l.length:=QbQ _ (by omega)
  omega
theorem Qz3 (a b:List Int):QjH (a++b)=QjH a*1025 ^ b.length+QjH b:=by
 induction a with
 | nil=>simp [QjH]
 | cons d a ih=>
  simp only [Qon,QjH,ih,Qfm,Nat.pow_add,QcH,QoC]
  omega
theorem Qz4 {l:List Int}{k:Nat}(hk:k<l.length)(Z:List Int)(x:Int):(l.take (k+1)++Z).set k x=l.take k++x::Z:=by
 have e:l.take (k+1)=l.take k++[l[k]]:=by rw [QdQ,QF hk];rfl
 rw [e,Qhk,List.set_append,if_neg (by simp;omega)]
 have:k-(l.take k).length=0:=by simp;omega
 rw [this];rfl
theorem QE6 (t:Qy)(n:Qk)(l:List Int)(h:QU n)(hl:l.length=t.Vars.length)(hv:t.Vars.length≤16)(hd:∀d∈l,0≤d∧d≤1024):
  Qf (QD (fun st=>Qed t n st.1 st.2) ((w64 ((l.length:Int)-1)),l)) fun q=>-1≤q.1∧q.1<l.length∧q.2=l.take (q.1+1).toNat++List.replicate (l.length-(q.1+1).toNat) 0∧∀d,0≤q.1→l[q.1.toNat]? = some d→d<1024:=by
 have hw:w64 ((l.length:Int)-1)=(l.length:Int)-1:=Q3 (by omega)
 refine Qf.up l.length (fun st=>(l.length:Int)-1-st.1) (fun st=>st.2=l.take (st.1+1).toNat++List.replicate (l.length-(st.1+1).toNat) 0) (by rw [hw];omega) (by
  rw [hw]
  show l=_
  rw [show((l.length:Int)-1+1).toNat=l.length by omega,Qk9,Nat.sub_self];simp) (fun i st hi hn hJ=>?_)
 obtain⟨a,d⟩:=st
 replace hi:(l.length:Int)-1-a=i:=hi
 replace hJ:d=l.take (a+1).toNat++List.replicate (l.length-(a+1).toNat) 0:=hJ
 have hdl:d.length=l.length:=by rw [hJ];simp;omega
 show Qf (Qed t n a d) _
 unfold Qed
 refine T0 (P:=fun x=>(x=true→0≤a)∧(x=false→∀e,0≤a→l[a.toNat]? = some e→e<1024)) ?_ fun x hx=>?_
 ·unfold QnI
  refine T1 (fun hc=>?_) fun hc=>T2 ⟨fun h=>(by cases h),fun _ e he=>?_⟩
  ·simp only [Qz]at hc
   have hlt:a.toNat<l.length:=by omega
   have ed:idx d a=some l[a.toNat]:=by
    rw [Qm6 hc,hJ,QbV (by simp;omega),Qct,if_pos (by omega),QF hlt]
   rw [ed,Qi]
   refine T0 (T4 (by omega) (by omega)) fun v _=>?_
   refine T0 (Qko _ _ h.1) fun z hz=>?_
   have h2:=hd _ (QaV hlt)
   refine T2 ⟨fun _=>hc,fun hf e _ he=>?_⟩
   rw [QF hlt]at he
   cases he
   rw [Q3 (by omega)]at hf
   simp only [Q0]at hf
   omega
  simp only [Q0]at hc;omega
 unfold Qf0
 refine T1 (fun hc=>?_) fun hc=>?_
 ·have ha:=hx.1 hc
  refine T0 (T4 ha (by omega)) fun _ _=>?_
  have hw2:w64 (a-1)=a-1:=Q3 (by omega)
  refine T2 (QA ⟨by omega,?_,?_⟩)
  ·show(l.length:Int)-1-w64 (a-1)=_
   rw [hw2];omega
  show d.set a.toNat 0=l.take (w64 (a-1)+1).toNat++List.replicate (l.length-(w64 (a-1)+1).toNat) 0
  rw [hw2,hJ,show(a+1).toNat=a.toNat+1 by omega,Qz4 (by omega),show(a-1+1).toNat=a.toNat by omega]
  rw [show l.length-a.toNat=(l.length-(a.toNat+1))+1 by omega,List.replicate_succ]
 exact T2 (Qn ⟨by omega,by omega,hJ,hx.2 hc⟩)
def Qkp (n:Qk)(most:Int)(l:List Qq):Prop:=(l.length:Int)<most∧∀o∈l,Qb3 n o
def Qtq (n:Qk)(most:Int)(l:List Qq):Prop:=(l.length:Int)≤most∧∀o∈l,Qb3 n o
theorem QDy (n:Qk)(m:List (List (Int×Int)))(b:QP)(l:List (List Int))(h:QaQ n)(hb:BOk n m b)(hl:Qk1 l):Qf (QcK l b) fun r=>r=-1∨(0≤r∧r<l.length):=by
 have hl1:=hl.1
 unfold QcK
 refine T0 (Qf.up l.length (fun st=>st) (fun _=>True) (Q:=fun q:Int⊕Unit=>∀x,q=.inl x→0≤x∧x<(l.length:Int)) rfl trivial (fun i st hi hn hJ=>?_)) (fun q hq=>?_)
 ·show Qf (Qb6 l b st) _
  unfold Qb6 Qir
  refine T1 (fun hc=>?_) (fun _=>T2 (Qn fun x h=>by cases h))
  simp only [Qz]at hc
  refine T0 (T4 (by omega) (by omega)) fun e he=>?_
  have:=hl.2 e he
  refine T0 (T0 (Qyn n m b e h hb (by omega)) fun _ _=>T3) fun _ _=>?_
  exact T1 (fun _=>T2 (Qn fun x h=>by cases h;omega)) fun _=>T2 (QA ⟨by omega,by rw [hi];exact Qw (by omega) (by unfold maxLen;omega:l.length≤maxLen),trivial⟩)
 rcases q with q | q
 ·exact T2 (.inr (hq q rfl))
 exact T2 (.inl rfl)
theorem QDz (n:Qk)(m:List (List (Int×Int)))(b:QP)(l:List (List Int))(h:QaQ n)(hb:BOk n m b)(hl:Qk1 l):Qf (QcL l b) Qk1:=by
 have hl1:=hl.1
 unfold QcL
 refine T0 (QDy n m b l h hb hl) fun x hx=>?_
 refine T1 (fun _=>T2 hl) fun hc=>?_
 simp only [beq_eq_false_iff_ne]at hc
 have hx:0≤x∧x<l.length:=by omega
 have hw:w64 (x+1)=x+1:=Q3 (by omega)
 refine T0 (Qf.up (l.length-(x+1).toNat) (fun st=>st.2.1-(x+1)) (fun st=>0≤st.1∧st.1<st.2.1∧st.2.2.length=l.length∧∀row∈st.2.2,row.length≤16) (Q:=fun q:Int×List (List Int)=>0≤q.1∧q.1≤(l.length:Int)∧q.2.length=l.length∧∀row∈q.2,row.length≤16) (by show w64 (x+1)-(x+1)=0;omega) ⟨hx.1,by show x<w64 (x+1);omega,rfl,hl.2⟩ (fun i st hi hn hJ=>?_)) (fun q hq=>?_)
 ·obtain⟨a,j,l2⟩:=st
  replace hi:j-(x+1)=i:=hi
  obtain⟨j1,j2,j3,j4⟩:0≤a∧a<j∧l2.length=l.length∧∀row∈l2,row.length≤16:=hJ
  show Qf (Qb7 b a j l2) _
  unfold Qb7 Qir
  refine T1 (fun hc=>?_) (fun hc=>T2 (Qn ⟨j1,?_,j3,j4⟩))
  ·simp only [Qz]at hc
   refine T0 (T4 (by omega) (by omega)) fun e he=>?_
   have:=j4 e he
   refine T0 (T0 (Qyn n m b e h hb (by omega)) fun _ _=>T3) fun _ _=>?_
   have hw2:w64 (j+1)=j+1:=Q3 (by omega)
   have hw3:w64 (a+1)=a+1:=Q3 (by omega)
   refine T1 (fun _=>?_) fun _=>?_
   ·refine T0 (T4 (by omega) (by omega)) fun _ _=>?_
    refine T2 (QA ⟨by omega,by show w64 (j+1)-(x+1)=_;omega,by show 0≤w64 (a+1);omega,by show w64 (a+1)<w64 (j+1);omega,by simpa using j3,fun row hr=>?_⟩)
    rcases Qoj hr with rfl | hr
    ·exact this
    exact j4 row hr
   exact T2 (QA ⟨by omega,by show w64 (j+1)-(x+1)=_;omega,j1,by show a<w64 (j+1);omega,j3,j4⟩)
  simp only [Q0]at hc
  show a≤_
  omega
 obtain⟨q1,q2⟩:=q
 obtain⟨h1,h2,h3,h4⟩:0≤q1∧q1≤l.length∧q2.length=l.length∧∀row∈q2,row.length≤16:=hq
 show Qf (Qb8 q1 q2) _
 unfold Qb8
 refine T0 (T5 (by simp only [Qx,Qz];omega)) fun _ _=>?_
 refine T0 (T5 (by simp only [Qx,Qz,Qfm,QeY,Qpt];omega)) fun _ _=>?_
 refine T2 ⟨by simp;omega,fun row hr=>?_⟩
 rw [QsK (by simp;omega)]at hr
 exact h4 row (QgW (QgW hr))
theorem QEi (n:Qk)(m:List (List (Int×Int)))(task most:Int)(l5 l8:List Qq)(ins outs:List (List Int))(p:List Int)(h:QaQ n)(hm:QM (QM fun _=>True) m)(hmost:most≤4294967296)
  (hi:Qk1 ins) (ho:Qk1 outs) (hp:p.length≤16) (ha:Qkp n most l8):
  Qf (QfB n m task most l5 ins outs l8 p) fun r=>(∀a,r=.inl a→Qtq n most a)∧∀a,r=.inr a→Qkp n most a:=by
 have hil:=hi.1
 have hol:=ho.1
 unfold QfB
 refine T0 (QAP n m task p h) fun x hx=>?_
 refine T0 (P:=fun y=>y=false→BOk n m x.2) ?_ fun y hy=>?_
 ·unfold QkR
  refine T1 (fun _=>T2 fun h=>by cases h) fun hc=>?_
  have hb:=hx (by simpa using hc)
  exact T0 (QyL n m x.2 h hb) fun _ _=>T2 fun _=>hb
 unfold Qec
 refine T1 (fun _=>T2 ⟨fun a h=>(by cases h),fun a h=>(by cases h;exact ha)⟩) fun hc=>?_
 have hb:=hy hc
 refine T0 (P:=Qk1) (by unfold QdY;exact T0 (T5 (by simp;omega)) fun _ _=>T2 ho) fun x19 h19=>?_
 refine T0 (QDz n m x.2 x19 h hb h19) fun x20 h20=>?_
 have h20l:=h20.1
 refine T0 (Qf.up ins.length (fun st=>st.1) (fun st=>Qkp n most st.2) (Q:=fun q=>(∀a,q=.inl a→Qtq n most a)∧∀a,q=.inr a→Qkp n most a) rfl ha (fun i st hi2 hn hJ=>?_)) (fun q hq=>?_)
 ·obtain⟨j,l⟩:=st
  replace hi2:j=(i:Int):=hi2
  replace hJ:Qkp n most l:=hJ
  show Qf (Qeb ins x x20 p task most j l) _
  unfold Qeb
  refine T1 (fun hc=>?_) (fun _=>T2 (Qn ⟨fun a h=>(by cases h),fun a h=>(by cases h;exact hJ)⟩))
  simp only [Qz]at hc
  refine T0 (T4 (by omega) (by omega)) fun e he=>?_
  have hel:=hi.2 e he
  have next:∀l,Qkp n most l→Qf (Qc2 j l) fun o=>(∀s',o=.inl s'→i<ins.length∧s'.1=((i+1:Nat):Int)∧Qkp n most s'.2)∧∀r:List Qq⊕List Qq,o=.inr r→(∀a,r=.inl a→Qtq n most a)∧∀a,r=.inr a→Qkp n most a:=fun l hl=>by
   unfold Qc2
   exact T2 (QA (ix:=fun st:Int×List Qq=>st.1) (J:=fun st:Int×List Qq=>Qkp n most st.2) ⟨by omega,by subst hi2;exact Qw (by omega) (by unfold maxLen;omega:ins.length≤maxLen),hl⟩)
  refine T0 (QAQ n m x.2 e h hb hm (by omega)) fun z _=>?_
  refine T1 (fun _=>next l hJ) fun _=>?_
  refine T0 (Qf.up x20.length (fun st=>st.1) (fun st=>Qkp n most st.2) (Q:=fun q=>(∀a,q=.inl a→Qtq n most a)∧∀a,q=.inr a→Qkp n most a) rfl hJ (fun i2 st hi3 hn2 hJ2=>?_)) (fun q hq=>?_)
  ·obtain⟨j2,l2⟩:=st
   replace hi3:j2=(i2:Int):=hi3
   replace hJ2:Qkp n most l2:=hJ2
   have hlt:=hJ2.1
   show Qf (Qea x20 p e task most j2 l2) _
   unfold Qea
   refine T1 (fun hc=>?_) (fun _=>T2 (Qn ⟨fun a h=>(by cases h),fun a h=>(by cases h;exact hJ2)⟩))
   simp only [Qz]at hc
   refine T0 (T4 (by omega) (by omega)) fun e2 he2=>?_
   have hel2:=h20.2 e2 he2
   rw [QoP p (by omega),Qi,QoP e (by omega),Qi,QoP e2 (by omega),Qi]
   refine T0 (T5 (by simp;omega)) fun _ _=>?_
   have hall:∀o∈l2++[Qq.mk task p e e2],Qb3 n o:=fun o ho=>by
    rcases QcR.1 ho with ho | ho
    ·exact hJ2.2 o ho
    simp at ho;subst ho;exact⟨by show p.length≤20;omega,by show e.length≤20;omega,by show e2.length≤20;omega⟩
   refine T1 (fun hc2=>T2 (Qn ⟨fun a h=>(by cases h;exact⟨by simp only [beq_iff_eq]at hc2;omega,hall⟩),fun a h=>(by cases h)⟩)) fun hc2=>?_
   simp only [beq_eq_false_iff_ne]at hc2
   exact T2 (QA ⟨by omega,by subst hi3;exact Qw (by omega) (by unfold maxLen;omega:x20.length≤maxLen),by simp at hc2 ⊢;omega,hall⟩)
  rcases q with q | q
  ·have:=hq.1 q rfl
   exact T2 (Qn ⟨fun a h=>(by cases h;exact this),fun a h=>(by cases h)⟩)
  exact next q (hq.2 q rfl)
 rcases q with q | q
 ·have:=hq.1 q rfl
  exact T2 ⟨fun a h=>(by cases h;exact this),fun a h=>(by cases h)⟩
 have:=hq.2 q rfl
 exact T2 ⟨fun a h=>(by cases h),fun a h=>(by cases h;exact this)⟩
theorem QBz (n:Qk)(m:List (List (Int×Int)))(task most:Int)(l5:List Qq)(ins outs:List (List Int))(t:Qy)(h:QaQ n)(hm:QM (QM fun _=>True) m)(hmost:most≤4294967296)(h1:1≤most)
  (hi:Qk1 ins) (ho:Qk1 outs) (ht:t∈n.Tasks):Qf (Qh9 n m task most l5 ins outs [] t n) fun r=>∀a,r=.inl a∨r=.inr a→Qtq n most a:=by
 have hv:=(h.tk t ht).1
 unfold Qh9
 refine T0 (T5 (by simp only [Qx,Qz];omega)) fun _ _=>?_
 refine T0 (QCr (fun st=>1025 ^ t.Vars.length-QjH st.1) (fun st=>st.1.length=t.Vars.length∧(∀d∈st.1,0≤d∧d≤1024)∧Qkp n most st.2) (Q:=fun q=>∀a,q=.inl a∨q=.inr a→Qtq n most a)
  ⟨by simp,fun d hd=>by have:=QqY hd;omega,by simp;omega,fun o h=>by cases h⟩ (fun st hJ=>?_)) (fun q hq=>?_)
 ·obtain⟨d,l⟩:=st
  obtain⟨j1,j2,j3⟩:d.length=t.Vars.length∧(∀d'∈d,0≤d'∧d'≤1024)∧Qkp n most l:=hJ
  show Qf (Qf3 n m task most l5 ins outs t n d l) _
  unfold Qf3
  rw [QoP d (by omega),Qi]
  refine T0 (QEi n m task most l5 l ins outs d h hm hmost hi ho (by omega) j3) fun r hr=>?_
  rcases r with r | r
  ·have:=hr.1 r rfl
   exact T2 ⟨fun s' e=>(by cases e),fun q e=>(by cases e;exact fun a ha=>by rcases ha with ha | ha<;>cases ha;exact this)⟩
  have hacc:=hr.2 r rfl
  show Qf (Qf2 t n d r) _
  unfold Qf2
  refine T0 (QE6 t n d h.k j1 hv j2) fun q hq=>?_
  obtain⟨a,d2⟩:=q
  obtain⟨q1,q2,q3,q4⟩:-1≤a∧a<d.length∧d2=d.take (a+1).toNat++List.replicate (d.length-(a+1).toNat) 0∧∀e,0≤a→d[a.toNat]? = some e→e<1024:=hq
  show Qf (Qf1 r a d2) _
  unfold Qf1
  refine T1 (fun _=>T2 ⟨fun s' e=>(by cases e),fun q e=>(by cases e;exact fun a ha=>by rcases ha with ha | ha<;>cases ha;exact⟨by have:=hacc.1;omega,hacc.2⟩)⟩) fun hc=>?_
  simp only [Q0]at hc
  have hlt:a.toNat<d.length:=by omega
  have ed:idx d2 a=some d[a.toNat]:=by
   rw [Qm6 (by omega),q3,QbV (by simp;omega),Qct,if_pos (by omega),QF hlt]
  rw [ed,Qi,Qi]
  have h9:=q4 _ (by omega) (QF hlt)
  have h10:=j2 _ (QaV hlt)
  rw [Q3 (by omega)]
  have e3:d2.set a.toNat (d[a.toNat]+1)=d.take a.toNat++(d[a.toNat]+1)::List.replicate (d.length-(a.toNat+1)) 0:=by
   rw [q3,show(a+1).toNat=a.toNat+1 by omega,Qz4 hlt]
  rw [e3]
  have hd3:∀x∈d.take a.toNat++(d[a.toNat]+1)::List.replicate (d.length-(a.toNat+1)) 0,0≤x∧x≤1024:=fun x hx=>by
   rcases QcR.1 hx with hx | hx
   ·exact j2 x (QgW hx)
   rcases Qab.1 hx with rfl | hx
   ·omega
   have:=QqY hx;omega
  have hlen:(d.take a.toNat++(d[a.toNat]+1)::List.replicate (d.length-(a.toNat+1)) 0).length=t.Vars.length:=by simp;omega
  have hmu:1025 ^ t.Vars.length-QjH (d.take a.toNat++(d[a.toNat]+1)::List.replicate (d.length-(a.toNat+1)) 0)<1025 ^ t.Vars.length-QjH d:=by
   have u1:=QAS hd3
   rw [hlen]at u1
   have u2:QjH d<QjH (d.take a.toNat++(d[a.toNat]+1)::List.replicate (d.length-(a.toNat+1)) 0):=by
    have e5:d=d.take a.toNat++d[a.toNat]::d.drop (a.toNat+1):=by
     rw [←QsJ hlt,List.take_append_drop]
    have u3:=QAS (l:=d.drop (a.toNat+1)) fun x hx=>j2 x (Qpv hx)
    have u4:QjH d=QjH (d.take a.toNat++d[a.toNat]::d.drop (a.toNat+1)):=congrArg QjH e5
    rw [u4,Qz3,Qz3]
    simp only [QjH,Qex,Qpt,Qk5]at u3 ⊢
    have e6:(d[a.toNat]+1).toNat=(d[a.toNat]).toNat+1:=by omega
    rw [e6,QcH]
    omega
   omega
  exact T2 ⟨fun s' e=>(by cases e;exact⟨hmu,hlen,hd3,hacc⟩),fun q e=>(by cases e)⟩
 rcases q with q | q
 ·have:=hq q (.inl rfl)
  exact T2 fun a ha=>by rcases ha with ha | ha<;>cases ha;exact this
 have:=hq q (.inr rfl)
 exact T2 fun a ha=>by rcases ha with ha | ha<;>cases ha;exact this
theorem QEj (n:Qk)(m:List (List (Int×Int)))(task most:Int)(h:QaQ n)(hm:QM (QM fun _=>True) m)(hmost:most≤4294967296):Qf (QkW n m task most) fun r=>(r.length:Int)≤max2 most 0∧∀o∈r,Qb3 n o:=by
 unfold QkW
 refine T1 (fun _=>T2 ⟨by simp [max2];split<;>omega,fun o h=>by cases h⟩) fun hc=>?_
 simp only [Qc6,Q0]at hc
 refine T0 (T4 (by omega) (by omega)) fun e he=>?_
 refine T0 (QrF _ _) fun x hx=>?_
 refine T0 (QrF _ _) fun y hy=>?_
 refine T0 (P:=fun z=>z=(n,e)) (T2 rfl) fun z hz=>?_
 subst hz
 refine T0 (QBz n m task most [] x y e h hm hmost (by omega) hx hy he) fun r hr=>?_
 have fin:∀a,Qtq n most a→(a.length:Int)≤max2 most 0∧∀o∈a,Qb3 n o:=fun a ha=>⟨by have:=ha.1;unfold max2;split<;>omega,ha.2⟩
 rcases r with r | r
 ·exact T2 (fin r (hr r (.inl rfl)))
 exact T2 (fin r (hr r (.inr rfl)))
theorem QFT (n:Qk)(m:List (List (Int×Int)))(most:Int)(h:QaQ n)(hm:QM (QM fun _=>True) m)(h0:0≤most)(hmost:most≤4294967296):Qf (QpG n m most) fun r=>(r.length:Int)≤most∧∀o∈r,Qb3 n o:=by
 unfold QpG
 refine T0 (Qf.up n.Tasks.length (fun st=>st.1) (fun st=>(st.2.length:Int)≤most∧∀o∈st.2,Qb3 n o) (Q:=fun q=>(q.length:Int)≤most∧∀o∈q,Qb3 n o) rfl ⟨by simpa using h0,fun o h=>by cases h⟩ (fun i st hi hn hJ=>?_)) (fun q hq=>T2 hq)
 obtain⟨x,l⟩:=st
 replace hi:x=(i:Int):=hi
 obtain⟨j1,j2⟩:(l.length:Int)≤most∧∀o∈l,Qb3 n o:=hJ
 show Qf (QmF n m most x l) _
 unfold QmF
 refine T1 (fun hc=>?_) (fun _=>T2 (Qn ⟨j1,j2⟩))
 simp only [Qz]at hc
 have hw:w64 (most-(l.length:Int))=most-(l.length:Int):=Q3 (by omega)
 rw [hw]
 refine T0 (QEj n m x _ h hm (by omega)) fun y hy=>?_
 have hy1:=hy.1
 unfold max2 at hy1
 have hy2:(y.length:Int)≤most-l.length:=by split at hy1<;>omega
 refine T0 (T5 (by simp;omega)) fun _ _=>?_
 refine T2 (QA ⟨by omega,by subst hi;exact Qw (by omega) h.k.2.2.1.1,by simp;omega,fun o ho=>?_⟩)
 rcases QcR.1 ho with ho | ho
 ·exact j2 o ho
 exact hy.2 o ho
end Go.Proofs
noncomputable section
namespace Go.Proofs
open Go Go.RowKit Go.Vm
theorem Qu7 (m:List (List (Int×Int)))(h:m.length≤4294967296)(hb:∀b∈m,b.length≤4294967296):Qoz m=some m:=by
 unfold Qoz QbY
 rw [QnN (by simp;omega)]
 simp only [Qi,List.nil_append]
 obtain⟨r,h1,h2⟩:=(Qf.up (body:=fun st=>Qis m st.1 st.2) m.length (fun st=>st.1) (fun st=>st.2=m) (Q:=fun q=>q=m) (s0:=(0,m)) rfl rfl (fun i st hi hn hJ=>by
  obtain⟨x,l⟩:=st
  replace hi:x=(i:Int):=hi
  replace hJ:l=m:=hJ
  subst hJ
  show Qf (Qis l x l) _
  unfold Qis
  refine T1 (fun hc=>?_) (fun _=>T2 (Qn rfl))
  simp only [Qz]at hc
  have hlt:i<l.length:=by omega
  rw [hi,QO,QF hlt,Qi]
  unfold Qdc
  rw [QnN (by have:=hb _ (QaV hlt);simp;omega)]
  simp only [Qi,List.nil_append]
  exact T2 (QA ⟨hlt,Qw hlt (by unfold maxLen;omega),by simp⟩)))
 rw [h1,h2];rfl
theorem QDA (n:Qk)(a b:List (List (Int×Int)))(c d:Nat)(h:QaQ n)(ha:MOk n c a)(hb:MOk n d b)(hcd:c+d≤1000000):Qf (QfL a b) fun r=>r.2=0→MOk n (c+d) r.1:=by
 have hpl:=h.pl
 have ha1:=ha.1
 have hb1:=hb.1
 have hmin:min2 (a.length:Int) (b.length:Int)=(n.Places.length:Int):=by unfold min2;split<;>omega
 unfold QfL
 rw [hmin]
 refine T0 (T5 (by simp only [Qx,Qz];omega)) fun _ _=>?_
 refine T0 (Qf.up n.Places.length (fun st=>st.1) (fun st=>st.2.length=n.Places.length∧∀b∈st.2,Rt b∧b.length≤c+d) (Q:=fun q:Int⊕List (List (Int×Int))=>(∀x,q=.inl x→x≠0)∧∀m,q=.inr m→MOk n (c+d) m) rfl ⟨by simp,fun b hb=>?_⟩ (fun i st hi hn hJ=>?_)) (fun q hq=>?_)
 ·have:=QqY hb
  subst this
  exact⟨Rt.nil,by simp⟩
 ·obtain⟨x,m⟩:=st
  replace hi:x=(i:Int):=hi
  obtain⟨hJ1,hJ2⟩:m.length=n.Places.length∧∀b∈m,Rt b∧b.length≤c+d:=hJ
  show Qf (QeW a b x m) _
  unfold QeW
  rw [hmin]
  refine T1 (fun hc=>?_) (fun hc=>T2 (Qn ⟨fun x e=>(by cases e),fun m' e=>(by cases e;exact⟨hJ1,hJ2⟩)⟩))
  simp only [Qz,Qpt]at hc
  refine T0 (T4 (by omega) (by omega)) fun u hu=>?_
  refine T0 (T4 (by omega) (by omega)) fun v hv=>?_
  have hu2:=ha.2 u hu
  have hv2:=hb.2 v hv
  have key:∃s,Qcn u v=some s∧(s.2=0→Rt s.1∧s.1.length≤c+d):=by
   rcases Qo2 u v (by omega)with⟨_,e⟩|⟨_,_,_,e⟩|⟨_,_,_,r,e,h1,_,h2⟩
   ·exact⟨_,e,fun h=>by cases h⟩
   ·exact⟨_,e,fun h=>by cases h⟩
   exact⟨_,e,fun _=>⟨h1,by show r.length≤_;omega⟩⟩
  obtain⟨s,es,hs⟩:=key
  rw [es,Qi]
  refine T0 (T4 (by omega) (by omega)) fun _ _=>?_
  refine T1 (fun hc5=>T2 (Qn ⟨fun x e=>(by cases e;simpa using hc5),fun m' e=>(by cases e)⟩)) fun hc5=>?_
  have hs:=hs (by simpa using hc5)
  refine T2 (QA ⟨by omega,by subst hi;exact Qw (by omega) (by unfold maxLen;omega:n.Places.length≤maxLen),by simpa using hJ1,fun b hb'=>?_⟩)
  rcases Qoj hb' with rfl | hb'
  ·exact hs
  exact hJ2 b hb'
 rcases q with q | q
 ·exact T2 fun h=>absurd h (hq.1 q rfl)
 exact T2 fun _=>hq.2 q rfl
theorem QCs (n:Qk)(a b:List (List (Int×Int)))(c d:Nat)(h:QaQ n)(ha:MOk n c a)(hb:MOk n d b)(hcd:c+d≤1000000):Qf (QdC a b) fun r=>r.2=0→MOk n (c+d) r.1:=by
 have hpl:=h.pl
 have ha1:=ha.1
 have hb1:=hb.1
 have hmin:min2 (a.length:Int) (b.length:Int)=(n.Places.length:Int):=by unfold min2;split<;>omega
 unfold QdC
 rw [hmin]
 refine T0 (T5 (by simp only [Qx,Qz];omega)) fun _ _=>?_
 refine T0 (Qf.up n.Places.length (fun st=>st.1) (fun st=>st.2.length=n.Places.length∧∀b∈st.2,Rt b∧b.length≤c+d) (Q:=fun q:Int⊕List (List (Int×Int))=>(∀x,q=.inl x→x≠0)∧∀m,q=.inr m→MOk n (c+d) m) rfl ⟨by simp,fun b hb=>?_⟩ (fun i st hi hn hJ=>?_)) (fun q hq=>?_)
 ·have:=QqY hb
  subst this
  exact⟨Rt.nil,by simp⟩
 ·obtain⟨x,m⟩:=st
  replace hi:x=(i:Int):=hi
  obtain⟨hJ1,hJ2⟩:m.length=n.Places.length∧∀b∈m,Rt b∧b.length≤c+d:=hJ
  show Qf (Qdk a b x m) _
  unfold Qdk
  rw [hmin]
  refine T1 (fun hc=>?_) (fun hc=>T2 (Qn ⟨fun x e=>(by cases e),fun m' e=>(by cases e;exact⟨hJ1,hJ2⟩)⟩))
  simp only [Qz,Qpt]at hc
  refine T0 (T4 (by omega) (by omega)) fun u hu=>?_
  refine T0 (T4 (by omega) (by omega)) fun v hv=>?_
  have hu2:=ha.2 u hu
  have hv2:=hb.2 v hv
  have key:∃s,QbU u v=some s∧(s.2=0→Rt s.1∧s.1.length≤c+d):=by
   rcases Qk0 u v (by omega)with⟨_,e⟩|⟨_,_,_,e⟩|⟨_,_,r,e,h1,_,h2⟩
   ·exact⟨_,e,fun h=>by cases h⟩
   ·exact⟨_,e,fun h=>by cases h⟩
   exact⟨_,e,fun _=>⟨h1,by show r.length≤_;omega⟩⟩
  obtain⟨s,es,hs⟩:=key
  rw [es,Qi]
  refine T0 (T4 (by omega) (by omega)) fun _ _=>?_
  refine T1 (fun hc5=>T2 (Qn ⟨fun x e=>(by cases e;simpa using hc5),fun m' e=>(by cases e)⟩)) fun hc5=>?_
  have hs:=hs (by simpa using hc5)
  refine T2 (QA ⟨by omega,by subst hi;exact Qw (by omega) (by unfold maxLen;omega:n.Places.length≤maxLen),by simpa using hJ1,fun b hb'=>?_⟩)
  rcases Qoj hb' with rfl | hb'
  ·exact hs
  exact hJ2 b hb'
 rcases q with q | q
 ·exact T2 fun h=>absurd h (hq.1 q rfl)
 exact T2 fun _=>hq.2 q rfl
theorem QCt (n:Qk)(m:List (List (Int×Int)))(o:Qq)(c:Nat)(h:QaQ n)(hm:MOk n c m)(hc:c≤900000)(ho:Qb3 n o):Qf (QhL n m o) fun r=>r.2=0→MOk n (c+20) r.1:=by
 unfold QhL
 refine T0 (QEh n m o h (hm.len h (by omega)) ho) fun x _=>?_
 refine T1 (fun hc=>T2 fun h=>absurd h (by simpa using hc)) fun _=>?_
 refine T0 (QAR n o h ho) fun y hy=>?_
 refine T1 (fun hc=>T2 fun h=>absurd h (by simpa using hc)) fun hc2=>?_
 exact T0 (QDA n m y.1 c 20 h hm (hy (by simpa using hc2)).1 (by omega)) fun z hz=>T2 hz
theorem QE7 (n:Qk)(m:List (List (Int×Int)))(o:Qq)(c:Nat)(h:QaQ n)(hm:MOk n c m)(hc:c≤900000)(ho:Qb3 n o):Qf (QhM n m o) fun r=>r.2=0→MOk n (c+20) r.1:=by
 have hpl:=h.pl
 have hm1:=hm.1
 unfold QhM
 refine T0 (Qyo n o h ho) fun y hy=>?_
 refine T1 (fun hc=>T2 fun h=>absurd h (by simpa using hc)) fun hc2=>?_
 obtain⟨⟨hy,_⟩,h1,h2⟩:=hy (by simpa using hc2)
 rw [Qu7 m (by omega) (fun b hb=>by have:=(hm.2 b hb).2;omega),Qi]
 refine T0 (T4 h1 h2) fun e he=>?_
 have hcl:=(h.tk e he).2.2.2
 refine T0 (Qf.up e.Cancel.length (fun st=>st.1) (fun st=>MOk n c st.2) (Q:=fun q=>MOk n c q) rfl hm (fun i st hi hn hJ=>?_)) (fun q hq=>?_)
 ·obtain⟨x,l⟩:=st
  replace hi:x=(i:Int):=hi
  replace hJ:MOk n c l:=hJ
  show Qf (Qgg e x l) _
  unfold Qgg
  refine T1 (fun hc=>?_) (fun _=>T2 (Qn hJ))
  simp only [Qz]at hc
  refine T0 (T4 (by omega) (by omega)) fun k _=>?_
  have next:∀l,MOk n c l→Qf (QeX x l) fun o=>(∀s',o=.inl s'→i<e.Cancel.length∧s'.1=((i+1:Nat):Int)∧MOk n c s'.2)∧∀r:List (List (Int×Int)),o=.inr r→MOk n c r:=fun l hl=>by
   unfold QeX
   exact T2 (QA (ix:=fun st:Int×List (List (Int×Int))=>st.1) (J:=fun st:Int×List (List (Int×Int))=>MOk n c st.2) ⟨by omega,by subst hi;exact Qw (by omega) (by unfold maxLen;omega:e.Cancel.length≤maxLen),hl⟩)
  refine T1 (fun hc3=>?_) fun _=>next l hJ
  simp only [Qx,Qz]at hc3
  refine T0 (T4 hc3.1 hc3.2) fun _ _=>?_
  refine next _ ⟨by simpa using hJ.1,fun b hb=>?_⟩
  rcases Qoj hb with rfl | hb
  ·exact⟨Rt.nil,by simp⟩
  exact hJ.2 b hb
 show Qf (Qgh y q) _
 unfold Qgh
 exact T0 (QCs n q y.1 c 20 h hq hy (by omega)) fun z hz=>T2 hz
theorem QBA (n:Qk)(m:List (List (Int×Int)))(o:Qq)(c:Nat)(h:QaQ n)(hm:MOk n c m)(hc:c≤800000)(ho:Qb3 n o):Qf (Qep n m o) fun r=>r.2=0→MOk n (c+40) r.1:=by
 unfold Qep
 refine T0 (QCt n m o c h hm (by omega) ho) fun x hx=>?_
 refine T1 (fun hc=>T2 fun h=>absurd h (by simpa using hc)) fun hc2=>?_
 exact T0 (QE7 n x.1 o (c+20) h (hx (by simpa using hc2)) (by omega) ho) fun z hz=>T2 hz
def QfE (n:Qk):List (List (Int×Int))→List Qq→Option (List (List (Int×Int)))
 | m,[]=>some m
 | m,o::l=>(Qep n m o).bind fun x=>bif x.2==0 then QfE n x.1 l else none
theorem QCu (n:Qk):∀(l k:List Qq) (m:List (List (Int×Int))),QfE n m (l++k)=(QfE n m l).bind fun x=>QfE n x k:=by
 intro l
 induction l with
 | nil=>intro k m;rfl
 | cons o l ih=>
  intro k m
  simp only [Qon,QfE]
  cases Qep n m o with
  | none=>rfl
  | some x=>
   simp only [Qi]
   cases x.2==0 with
   | true=>exact ih k x.1
   | false=>rfl
theorem QxH {n:Qk}{m x:List (List (Int×Int))}{o:Qq}{l:List Qq}(h:QfE n m (o::l)=some x):∃y,Qep n m o=some (y,0)∧QfE n y l=some x:=by
 rw [QfE]at h
 obtain⟨r,hr,h⟩:=Qc h
 obtain⟨a,b⟩:=r
 rcases Qt h with⟨c,h⟩|⟨_,h⟩
 ·simp only [beq_iff_eq]at c
  subst c
  exact⟨a,hr,h⟩
 cases h
theorem QDB {n:Qk}(h:QaQ n):∀(l:List Qq) (c:Nat) (m x:List (List (Int×Int))),MOk n c m→(∀o∈l,Qb3 n o)→c+40*l.length≤800000→QfE n m l=some x→MOk n (c+40*l.length) x:=by
 intro l
 induction l with
 | nil=>intro c m x hm _ _ e;cases e;exact hm
 | cons o l ih=>
  intro c m x hm ho hc e
  obtain⟨y,h1,h2⟩:=QxH e
  simp only [Qex]at hc ⊢
  have hy:=Qei (QBA n m o c h hm (by omega) (ho o Q9)) h1 rfl
  exact(ih (c+40) y x hy (fun o' ho'=>ho o' (Qah _ ho')) (by omega) h2).mono (by omega)
theorem QEk (n:Qk)(m:List (List (Int×Int)))(picks:List Int)(h:QaQ n)(hm:MOk n 1024 m)(hp:picks.length≤8):Qf (QnM n m picks) fun l=>l.length≤picks.length∧(∀o∈l,Qb3 n o)∧∃x,QfE n m l=some x:=by
 unfold QnM
 refine T0 (Qf.up picks.length (fun st=>st.2.1) (fun st=>(st.2.2.length:Int)≤st.2.1∧(∀o∈st.2.2,Qb3 n o)∧QfE n m st.2.2=some st.1) (Q:=fun q:List Qq⊕List Qq=>∀l,q=.inl l∨q=.inr l→l.length≤picks.length∧(∀o∈l,Qb3 n o)∧∃x,QfE n m l=some x) rfl ⟨by simp,fun o h=>(by cases h),rfl⟩ (fun i st hi hn hJ=>?_)) (fun q hq=>?_)
 ·obtain⟨a,x,l⟩:=st
  replace hi:x=(i:Int):=hi
  obtain⟨j1,j2,j3⟩:(l.length:Int)≤x∧(∀o∈l,Qb3 n o)∧QfE n m l=some a:=hJ
  have ha:=QDB h l 1024 m a hm j2 (by omega) j3
  have done:l.length≤picks.length∧(∀o∈l,Qb3 n o)∧∃x,QfE n m l=some x:=⟨by omega,j2,a,j3⟩
  show Qf (Qkm picks n a x l) _
  unfold Qkm
  refine T1 (fun hc=>?_) (fun _=>T2 (Qn fun l' e=>(by rcases e with e | e<;>cases e;exact done)))
  simp only [Qz]at hc
  refine T0 (T4 (by omega) (by omega)) fun p _=>?_
  refine T0 (QFT n a 4096 h (ha.len h (by omega)) (by decide) (by decide)) fun y hy=>?_
  refine T1 (fun _=>T2 (Qn fun l' e=>(by rcases e with e | e<;>cases e;exact done))) fun hc2=>?_
  simp only [beq_eq_false_iff_ne]at hc2
  refine T0 (T5 (by simpa using hc2)) fun _ _=>?_
  refine T0 (T5 (by simpa using hc2)) fun _ _=>?_
  have hy1:=hy.1
  have hpos:0<(y.length:Int):=by omega
  have g1:-(y.length:Int)<Int.tmod p y.length∧Int.tmod p y.length<y.length:=by
   have:=Int.tmod_lt_of_pos p hpos
   have h3:=Int.lt_tmod_of_pos p hpos
   omega
  rw [Q3 (by omega)]
  have g2:=Int.tmod_nonneg (a:=Int.tmod p y.length+y.length) (y.length:Int) (by omega)
  have g3:=Int.tmod_lt_of_pos (Int.tmod p y.length+y.length) hpos
  refine T0 (T4 g2 g3) fun o ho=>?_
  have hoo:=hy.2 o ho
  refine T0 (QBA n a o _ h ha (by omega) hoo).self fun z hz=>?_
  refine T1 (fun _=>T2 (Qn fun l' e=>(by rcases e with e | e<;>cases e;exact done))) fun hc3=>?_
  simp only [bne_eq_false_iff_eq]at hc3
  refine T0 (T5 (by simp;omega)) fun _ _=>?_
  have hw:w64 (x+1)=x+1:=Q3 (by omega)
  refine T2 (QA ⟨by omega,by show w64 (x+1)=_;omega,?_,fun o' ho'=>?_,?_⟩)
  ·show((l++[o]).length:Int)≤w64 (x+1)
   simp;omega
  ·rcases QcR.1 ho' with ho' | ho'
   ·exact j2 o' ho'
   simp at ho';subst ho';exact hoo
  show QfE n m (l++[o])=some z.1
  rw [QCu,j3,Qi,QfE,hz.1,Qi,hc3];rfl
 rcases q with q | q
 ·exact T2 (hq q (.inl rfl))
 exact T2 (hq q (.inr rfl))
end Go.Proofs
noncomputable section
namespace Go.Proofs
open Go Go.RowKit Go.Vm
end Go.Proofs
noncomputable section
namespace Go.Proofs
open Go Go.RowKit Go.Vm
abbrev Bag := List (Int×Int)
def QBB (how:Bag→Bag→Option (Bag×Int))(a b r:List Bag):Prop:=∀(j:Nat) x y,a[j]? = some x→b[j]? = some y→∃z,r[j]? = some z∧how x y=some (z,0)
def Can (how:Bag→Bag→Option (Bag×Int))(a b:List Bag):Prop:=∀(j:Nat) x y,a[j]? = some x→b[j]? = some y→∃z,how x y=some (z,0)
theorem QnS {α:Type}{l:List α}{i:Nat}(h:i<l.length):l[i]? = some l[i]:=QF h
theorem QE8 {a b r:Bag}(h:a.length+b.length≤4294967296)(e:QbU a b=some (r,0)):Rt a∧Rt b∧Rt r∧∀k,QI r k=QI a k+QI b k:=by
 rcases Qk0 a b h with⟨_,e'⟩|⟨_,_,_,e'⟩|⟨h1,h2,r',e',h3,h4,_⟩
 ·rw [e]at e';cases e'
 ·rw [e]at e';cases e'
 rw [e]at e';cases e';exact⟨h1,h2,h3,h4⟩
theorem QEl {a b r:Bag}(h:a.length+b.length≤4294967296)(e:Qcn a b=some (r,0)):Rt a∧Rt b∧Rt r∧(∀k,QI b k≤QI a k)∧∀k,QI r k=QI a k-QI b k:=by
 rcases Qo2 a b h with⟨_,e'⟩|⟨_,_,_,e'⟩|⟨h1,h2,h5,r',e',h3,h4,_⟩
 ·rw [e]at e';cases e'
 ·rw [e]at e';cases e'
 rw [e]at e';cases e';exact⟨h1,h2,h3,h5,h4⟩
theorem QBC {n:Qk}{c:Nat}{m:List Bag}(hm:MOk n c m){j:Nat}(hj:j<n.Places.length):∃b,m[j]? = some b∧Rt b∧b.length≤c:=by
 have:j<m.length:=by have:=hm.1;omega
 exact⟨m[j],QnS this,hm.2 _ (QaV this)⟩
theorem QFU {n:Qk}{c:Nat}{m:List Bag}(hm:MOk n c m){j:Nat}{b:Bag}(h:m[j]? = some b):j<n.Places.length∧Rt b∧b.length≤c:=by
 obtain⟨h1,rfl⟩:=QQ.1 h
 exact⟨by have:=hm.1;omega,hm.2 _ (QaV h1)⟩
end Go.Proofs
noncomputable section
namespace Go.Proofs
open Go Go.RowKit Go.Vm
theorem QAF (n:Qk)(a b:List Bag)(c d:Nat)(h:QaQ n)(ha:MOk n c a)(hb:MOk n d b)(hcd:c+d≤1000000):Qf (QfL a b) fun r=>(r.2=0→r.1.length=n.Places.length∧QBB Qcn a b r.1)∧(Can Qcn a b→r.2=0):=by
 have hpl:=h.pl
 have ha1:=ha.1
 have hb1:=hb.1
 have hmin:min2 (a.length:Int) (b.length:Int)=(n.Places.length:Int):=by unfold min2;split<;>omega
 unfold QfL
 rw [hmin]
 refine T0 (T5 (by simp only [Qx,Qz];omega)) fun _ _=>?_
 refine T0 (Qf.up n.Places.length (fun st=>st.1) (fun st=>st.2.length=n.Places.length∧∀(j:Nat) x y,(j:Int)<st.1→a[j]? = some x→b[j]? = some y→∃z,st.2[j]? = some z∧Qcn x y=some (z,0)) (Q:=fun q:Int⊕List Bag=>(∀x,q=.inl x→x≠0∧¬Can Qcn a b)∧∀m,q=.inr m→m.length=n.Places.length∧QBB Qcn a b m) rfl ⟨by simp,fun j x y hj=>by omega⟩ (fun i st hi hn hJ=>?_)) (fun q hq=>?_)
 ·obtain⟨x,m⟩:=st
  replace hi:x=(i:Int):=hi
  obtain⟨hJ1,hJ2⟩:m.length=n.Places.length∧∀(j:Nat) u v,(j:Int)<x→a[j]? = some u→b[j]? = some v→∃z,m[j]? = some z∧Qcn u v=some (z,0):=hJ
  show Qf (QeW a b x m) _
  unfold QeW
  rw [hmin]
  refine T1 (fun hc=>?_) (fun hc=>T2 (Qn ⟨fun x e=>(by cases e),fun m' e=>(by cases e;exact⟨hJ1,fun j u v hu hv=>hJ2 j u v (by
   simp only [Q0,Qpt]at hc
   have:=(QQ.1 hu).1
   omega) hu hv⟩)⟩))
  simp only [Qz,Qpt]at hc
  have i1:i<a.length:=by omega
  have i2:i<b.length:=by omega
  rw [hi,QO,QnS i1,Qi,QO,QnS i2,Qi]
  have hu2:=ha.2 _ (QaV i1)
  have hv2:=hb.2 _ (QaV i2)
  have key:∃s,Qcn a[i] b[i]=some s:=by
   rcases Qo2 a[i] b[i] (by omega)with⟨_,e⟩|⟨_,_,_,e⟩|⟨_,_,_,r,e,h1,_,h2⟩
   ·exact⟨_,e⟩
   ·exact⟨_,e⟩
   exact⟨_,e⟩
  obtain⟨s,es⟩:=key
  rw [es,Qi]
  refine T0 (T4 (by omega) (by omega)) fun _ _=>?_
  refine T1 (fun hc5=>T2 (Qn ⟨fun x e=>(by cases e;exact⟨by simpa using hc5,fun hcan=>by
   obtain⟨z,hz⟩:=hcan i _ _ (QnS i1) (QnS i2)
   rw [es]at hz
   cases hz
   simp at hc5⟩),fun m' e=>(by cases e)⟩)) fun hc5=>?_
  simp only [bne_eq_false_iff_eq]at hc5
  refine T2 (QA ⟨by omega,Qw (by omega) (by unfold maxLen;omega:n.Places.length≤maxLen),by simpa using hJ1,fun j u v hj hu hv=>?_⟩)
  have hj:(j:Int)<w64 ((i:Int)+1):=hj
  rw [Qw (show i<n.Places.length by omega) (by unfold maxLen;omega)]at hj
  show ∃z,(m.set (i:Int).toNat s.1)[j]? = some z∧_
  by_cases cj:j=i
  ·subst cj
   rw [QnS i1]at hu;rw [QnS i2]at hv
   cases hu;cases hv
   refine⟨s.1,by rw [show((j:Int)).toNat=j from Qcs j];exact Qq0 (by omega),?_⟩
   rw [es,←hc5]
  obtain⟨z,h1,h2⟩:=hJ2 j u v (by omega) hu hv
  exact⟨z,by rw [QqZ (by simp;omega)];exact h1,h2⟩
 rcases q with q | q
 ·have:=hq.1 q rfl
  exact T2 ⟨fun h=>absurd h this.1,fun h=>absurd h this.2⟩
 exact T2 ⟨fun _=>hq.2 q rfl,fun _=>rfl⟩
theorem Qu8 (n:Qk)(a b:List Bag)(c d:Nat)(h:QaQ n)(ha:MOk n c a)(hb:MOk n d b)(hcd:c+d≤1000000):Qf (QdC a b) fun r=>(r.2=0→r.1.length=n.Places.length∧QBB QbU a b r.1)∧(Can QbU a b→r.2=0):=by
 have hpl:=h.pl
 have ha1:=ha.1
 have hb1:=hb.1
 have hmin:min2 (a.length:Int) (b.length:Int)=(n.Places.length:Int):=by unfold min2;split<;>omega
 unfold QdC
 rw [hmin]
 refine T0 (T5 (by simp only [Qx,Qz];omega)) fun _ _=>?_
 refine T0 (Qf.up n.Places.length (fun st=>st.1) (fun st=>st.2.length=n.Places.length∧∀(j:Nat) x y,(j:Int)<st.1→a[j]? = some x→b[j]? = some y→∃z,st.2[j]? = some z∧QbU x y=some (z,0)) (Q:=fun q:Int⊕List Bag=>(∀x,q=.inl x→x≠0∧¬Can QbU a b)∧∀m,q=.inr m→m.length=n.Places.length∧QBB QbU a b m) rfl ⟨by simp,fun j x y hj=>by omega⟩ (fun i st hi hn hJ=>?_)) (fun q hq=>?_)
 ·obtain⟨x,m⟩:=st
  replace hi:x=(i:Int):=hi
  obtain⟨hJ1,hJ2⟩:m.length=n.Places.length∧∀(j:Nat) u v,(j:Int)<x→a[j]? = some u→b[j]? = some v→∃z,m[j]? = some z∧QbU u v=some (z,0):=hJ
  show Qf (Qdk a b x m) _
  unfold Qdk
  rw [hmin]
  refine T1 (fun hc=>?_) (fun hc=>T2 (Qn ⟨fun x e=>(by cases e),fun m' e=>(by cases e;exact⟨hJ1,fun j u v hu hv=>hJ2 j u v (by
   simp only [Q0,Qpt]at hc
   have:=(QQ.1 hu).1
   omega) hu hv⟩)⟩))
  simp only [Qz,Qpt]at hc
  have i1:i<a.length:=by omega
  have i2:i<b.length:=by omega
  rw [hi,QO,QnS i1,Qi,QO,QnS i2,Qi]
  have hu2:=ha.2 _ (QaV i1)
  have hv2:=hb.2 _ (QaV i2)
  have key:∃s,QbU a[i] b[i]=some s:=by
   rcases Qk0 a[i] b[i] (by omega)with⟨_,e⟩|⟨_,_,_,e⟩|⟨_,_,r,e,h1,_,h2⟩
   ·exact⟨_,e⟩
   ·exact⟨_,e⟩
   exact⟨_,e⟩
  obtain⟨s,es⟩:=key
  rw [es,Qi]
  refine T0 (T4 (by omega) (by omega)) fun _ _=>?_
  refine T1 (fun hc5=>T2 (Qn ⟨fun x e=>(by cases e;exact⟨by simpa using hc5,fun hcan=>by
   obtain⟨z,hz⟩:=hcan i _ _ (QnS i1) (QnS i2)
   rw [es]at hz
   cases hz
   simp at hc5⟩),fun m' e=>(by cases e)⟩)) fun hc5=>?_
  simp only [bne_eq_false_iff_eq]at hc5
  refine T2 (QA ⟨by omega,Qw (by omega) (by unfold maxLen;omega:n.Places.length≤maxLen),by simpa using hJ1,fun j u v hj hu hv=>?_⟩)
  have hj:(j:Int)<w64 ((i:Int)+1):=hj
  rw [Qw (show i<n.Places.length by omega) (by unfold maxLen;omega)]at hj
  show ∃z,(m.set (i:Int).toNat s.1)[j]? = some z∧_
  by_cases cj:j=i
  ·subst cj
   rw [QnS i1]at hu;rw [QnS i2]at hv
   cases hu;cases hv
   refine⟨s.1,by rw [show((j:Int)).toNat=j from Qcs j];exact Qq0 (by omega),?_⟩
   rw [es,←hc5]
  obtain⟨z,h1,h2⟩:=hJ2 j u v (by omega) hu hv
  exact⟨z,by rw [QqZ (by simp;omega)];exact h1,h2⟩
 rcases q with q | q
 ·have:=hq.1 q rfl
  exact T2 ⟨fun h=>absurd h this.1,fun h=>absurd h this.2⟩
 exact T2 ⟨fun _=>hq.2 q rfl,fun _=>rfl⟩
theorem QBD {n:Qk}{m t:List Bag}{o:Qq}(h:QhL n m o=some (t,0)):Qfg n m o=some 0∧∃need,QgP n o=some (need,0)∧QfL m need=some (t,0):=by
 unfold QhL at h
 obtain⟨x,hx,h⟩:=Qc h
 rcases Qt h with⟨c,h⟩|⟨c,h⟩
 ·simp only [Option.some.injEq,Prod.mk.injEq]at h
  rw [h.2]at c;cases c
 simp only [bne_eq_false_iff_eq]at c
 subst c
 obtain⟨y,hy,h⟩:=Qc h
 obtain⟨y1,y2⟩:=y
 rcases Qt h with⟨c,h⟩|⟨c,h⟩
 ·simp only [Option.some.injEq,Prod.mk.injEq]at h
  simp only [h.2]at c;cases c
 simp only [bne_eq_false_iff_eq]at c
 subst c
 obtain⟨z,hz,h⟩:=Qc h
 obtain⟨z1,z2⟩:=z
 simp only [Option.some.injEq,Prod.mk.injEq]at h
 obtain⟨rfl,rfl⟩:=h
 exact⟨hx,y1,hy,hz⟩
theorem QDC {n:Qk}{m x:List Bag}{o:Qq}(h:Qep n m o=some (x,0)):∃t,QhL n m o=some (t,0)∧QhM n t o=some (x,0):=by
 unfold Qep at h
 obtain⟨y,hy,h⟩:=Qc h
 obtain⟨y1,y2⟩:=y
 rcases Qt h with⟨c,h⟩|⟨c,h⟩
 ·simp only [Option.some.injEq,Prod.mk.injEq]at h
  simp only [h.2]at c;cases c
 simp only [bne_eq_false_iff_eq]at c
 subst c
 obtain⟨z,hz,h⟩:=Qc h
 obtain⟨z1,z2⟩:=z
 simp only [Option.some.injEq,Prod.mk.injEq]at h
 obtain⟨rfl,rfl⟩:=h
 exact⟨y1,hy,hz⟩
end Go.Proofs
noncomputable section
namespace Go.Proofs
open Go Go.RowKit Go.Vm
def QaU : Bag→Int
 | []=>0
 | p::l=>p.2+QaU l
theorem QCv {l m:Bag}(h:l.Perm m):QaU l=QaU m:=by
 induction h with
 | nil=>rfl
 | cons p _ ih=>simp only [QaU,ih]
 | swap p q l=>simp only [QaU];omega
 | trans _ _ ih1 ih2=>rw [ih1,ih2]
theorem Qz5 (b:Bag)(hr:Rt b)(h:b.length≤maxLen):Ql9 b=some (w64 (QaU b)):=by
 unfold Ql9
 rw [QrE b h,QgS.2 hr]
 show Qli b=_
 unfold Qli
 have run:∀(l:Bag) (s:Int),QbE (fun st (p:Int×Int)=>QeR st p.1 p.2) (w64 s) l=some (.inl (w64 (s+QaU l))):=by
  intro l
  induction l with
  | nil=>intro s;simp [QbE,QaU]
  | cons p l ih=>
   intro s
   simp only [QbE]
   rw [show QeR (w64 s) p.1 p.2=some (.inl (w64 (s+p.2)))from by unfold QeR;rw [QEa]]
   simp only [Qi,Sum.elim_inl]
   rw [ih,QaU,Int.add_assoc]
 have h0:QcJ (fun st (p:Int×Int)=>QeR st p.1 p.2) (0:Int) b=some (.inl (w64 (QaU b))):=by
  have e0:(0:Int)=w64 0:=by decide
  rw [e0]
  refine Qd4.2 ⟨fun l' hp=>?_,by rw [run];simp⟩
  rw [run,run,QCv hp]
 rw [h0];rfl
def cS (f:Int→Int):Nat→Int
 | 0=>0
 | K+1=>cS f K+f K
theorem QE9 {f g r:Int→Int}(h:∀k,r k=f k+g k)(K:Nat):cS r K=cS f K+cS g K:=by
 induction K with
 | zero=>rfl
 | succ K ih=>simp only [cS,ih,h];omega
theorem QDD {f g:Int→Int}{K:Nat}(h:∀k:Nat,k<K→f k=g k):cS f K=cS g K:=by
 induction K with
 | zero=>rfl
 | succ K ih=>simp only [cS];rw [ih fun k hk=>h k (by omega),h K (by omega)]
theorem QFa {f:Int→Int}{a v:Int}(ha:0≤a)(hf:f a=0){K:Nat}(hK:a<K):cS (fun k=>if a=k then v else f k) K=cS f K+v:=by
 induction K with
 | zero=>omega
 | succ K ih=>
  simp only [cS]
  by_cases c:a=K
  ·subst c
   rw [if_pos rfl,hf,QDD (g:=f) fun k hk=>by rw [if_neg (by omega)]]
   omega
  rw [if_neg c,ih (by omega)];omega
theorem QEm (K:Nat):cS (fun _=>0) K=0:=by
 induction K with
 | zero=>rfl
 | succ K ih=>simp only [cS,ih];rfl
theorem Qyp {l:Bag}(hn:QnP l){K:Nat}(h:∀p∈l,0≤p.1∧p.1<K):QaU l=cS (QI l) K:=by
 induction l with
 | nil=>exact(QEm K).symm
 | cons p l ih=>
  obtain⟨h1,h2⟩:=Qyh.1 hn
  have hp:=h p Q9
  have e:QI (p::l)=fun k=>if p.1=k then p.2 else QI l k:=by
   funext k
   obtain⟨a,x⟩:=p
   unfold QI
   rw [Qaf]
   by_cases c:a=k
   ·rw [if_pos c,if_pos c];rfl
   rw [if_neg c,if_neg c]
  rw [e,QFa hp.1 (by unfold QI;rw [Qvs.2 fun q hq=>Ne.symm (h1 q hq)];rfl) hp.2,QaU,ih h2 fun q hq=>h q (Qah _ hq)]
  omega
theorem Qyq (l:Bag):∃K:Nat,∀p∈l,p.1<K:=by
 induction l with
 | nil=>exact⟨0,fun p h=>by cases h⟩
 | cons p l ih=>
  obtain⟨K,hK⟩:=ih
  refine⟨K+p.1.toNat+1,fun q hq=>?_⟩
  rcases Qab.1 hq with rfl | hq
  ·omega
  have:=hK q hq;omega
theorem QwK {a b r:Bag}(ha:Rt a)(hb:Rt b)(hr:Rt r)(h:∀k,QI r k=QI a k+QI b k):QaU r=QaU a+QaU b:=by
 obtain⟨K1,h1⟩:=Qyq a
 obtain⟨K2,h2⟩:=Qyq b
 obtain⟨K3,h3⟩:=Qyq r
 rw [Qyp ha.1.nd (K:=K1+K2+K3) fun p hp=>⟨(ha.2 p hp).1,by have:=h1 p hp;omega⟩,Qyp hb.1.nd (K:=K1+K2+K3) fun p hp=>⟨(hb.2 p hp).1,by have:=h2 p hp;omega⟩,Qyp hr.1.nd (K:=K1+K2+K3) fun p hp=>⟨(hr.2 p hp).1,by have:=h3 p hp;omega⟩]
 exact QE9 h _
end Go.Proofs
noncomputable section
namespace Go.Proofs
open Go Go.RowKit Go.Vm
def szB (n:Qk)(t:Qy):List Int:=t.Vars.map fun v=>(Qbe n.Colours v.Colour).getD 0
def gdB (b:QP)(r:List Int):Bool:=decide (QaF b r=some 0)
def Qz6 (n:Qk)(m:List (List (Int×Int)))(task:Int)(ins outs:List (List Int))(p:List Int):List Qq:=match Qcq n m task p with
 | some (c,b)=>if c=0∧Qan b=some 0 then ins.flatMap fun e=>if Qaq b e=some 0 then(outs.filter (gdB b)).map fun o=>Qq.mk task p e o else []else []
 | none=>[]
end Go.Proofs
noncomputable section
namespace Go.Proofs
open Go Go.RowKit Go.Vm
def chC (kind arcs:Int):List (List Int):=(QaG kind arcs).getD []
def Qz7 (n:Qk)(m:List (List (Int×Int)))(task:Int):List Qq:=match idx n.Tasks task with
 | some t=>(binds (szB n t)).flatMap (Qz6 n m task (chC t.Join t.Ins.length) (chC t.Split t.Outs.length))
 | none=>[]
end Go.Proofs
noncomputable section
namespace Go.Proofs
open Go Go.RowKit Go.Vm
theorem QCw {n:Qk}{m:List (List (Int×Int))}{task:Int}{ins outs:List (List Int)}{p:List Int}{o:Qq}:
  o∈Qz6 n m task ins outs p↔o.Task=task∧o.Vars=p∧o.Ins∈ins∧o.Outs∈outs∧∃b,Qcq n m task p=some (0,b)∧Qan b=some 0∧Qaq b o.Ins=some 0∧QaF b o.Outs=some 0:=by
 unfold Qz6
 cases hb:Qcq n m task p with
 | none=>simp
 | some x=>
  obtain⟨c,b⟩:=x
  simp only
  by_cases hc:c=0∧Qan b=some 0
  ·rw [if_pos hc]
   obtain⟨rfl,hg⟩:=hc
   simp only [List.mem_flatMap]
   constructor
   ·rintro ⟨e,he,h⟩
    by_cases ht:Qaq b e=some 0
    ·rw [if_pos ht]at h
     obtain⟨r,hr,rfl⟩:=QG.1 h
     obtain⟨h1,h2⟩:=Qhl.1 hr
     exact⟨rfl,rfl,he,h1,b,rfl,hg,ht,QV h2⟩
    rw [if_neg ht]at h;cases h
   rintro ⟨h1,h2,h3,h4,b',h5,h6,h7,h8⟩
   cases h5
   refine⟨o.Ins,h3,?_⟩
   rw [if_pos h7]
   refine QG.2 ⟨o.Outs,Qhl.2 ⟨h4,QaS h8⟩,?_⟩
   cases o
   simp only at h1 h2
   subst h1;subst h2;rfl
  rw [if_neg hc]
  constructor
  ·intro h;cases h
  rintro ⟨_,_,_,_,b',h5,h6,_⟩
  cases h5
  exact absurd ⟨rfl,h6⟩ hc
theorem QyM {n:Qk}{m:List (List (Int×Int))}{task:Int}{o:Qq}:
  o∈Qz7 n m task↔o.Task=task∧∃e,idx n.Tasks task=some e∧inB (szB n e) o.Vars∧o.Ins∈chC e.Join e.Ins.length∧o.Outs∈chC e.Split e.Outs.length∧∃b,Qcq n m task o.Vars=some (0,b)∧Qan b=some 0∧Qaq b o.Ins=some 0∧QaF b o.Outs=some 0:=by
 unfold Qz7
 cases he:idx n.Tasks task with
 | none=>simp
 | some e=>
  simp only [List.mem_flatMap,QCo,QCw,Option.some.injEq,exists_eq_left']
  constructor
  ·rintro ⟨p,h1,h2,rfl,h3,h4,h5⟩
   exact⟨h2,h1,h3,h4,h5⟩
  rintro ⟨h1,h2,h3,h4,h5⟩
  exact⟨o.Vars,h2,h1,rfl,h3,h4,h5⟩
theorem QBE (a b:List Int)(ha:a.length≤maxLen):QbF a b=some (decide (a=b)):=by
 have key:Qf (QbF a b) fun r=>r=decide (a=b):=by
  unfold QbF
  refine T1 (fun hc=>T2 ?_) fun hc=>?_
  ·rw [Qbs fun e=>by subst e;simp at hc]
  simp only [bne_eq_false_iff_eq]at hc
  have hc:a.length=b.length:=by omega
  refine T0 (Qf.up a.length (fun st=>st) (fun st=>a.take st.toNat=b.take st.toNat) (Q:=fun q:Unit⊕Unit=>(q=.inl ()→a≠b)∧(q=.inr ()→a=b)) rfl rfl (fun i st hi hn hJ=>?_)) (fun q hq=>?_)
  ·replace hi:st=(i:Int):=hi
   subst hi
   replace hJ:a.take (i:Int).toNat=b.take (i:Int).toNat:=hJ
   rw [Qcs]at hJ
   show Qf (QbP a b i) _
   unfold QbP
   refine T1 (fun hc2=>?_) (fun hc2=>T2 (Qn ⟨fun e=>(by cases e),fun _=>?_⟩))
   ·simp only [Qz]at hc2
    have i1:i<a.length:=by omega
    have i2:i<b.length:=by omega
    rw [QO,QF i1,Qi,QO,QF i2,Qi]
    refine T1 (fun hc3=>T2 (Qn ⟨fun _ e=>?_,fun e=>by cases e⟩)) fun hc3=>?_
    ·subst e;simp at hc3
    have hw:w64 ((i:Int)+1)=((i+1:Nat):Int):=Qw i1 ha
    refine T2 (QA ⟨i1,hw,?_⟩)
    show a.take (w64 ((i:Int)+1)).toNat=b.take (w64 ((i:Int)+1)).toNat
    rw [hw,Qcs,QdQ,QdQ,hJ,QF i1,QF i2]
    simp only [bne_eq_false_iff_eq]at hc3
    rw [hc3]
   simp only [Q0]at hc2
   rwa [QeZ (by omega),QeZ (by omega)]at hJ
  rcases q with q | q
  ·exact T2 (Qbs (hq.1 rfl)).symm
  exact T2 (QaS (hq.2 rfl)).symm
 obtain⟨r,h1,h2⟩:=key
 rw [h1,h2]
theorem QFb (kind arcs:Int):QaG kind arcs=some (chC kind arcs)∧Qk1 (chC kind arcs):=by
 obtain⟨r,h1,h2⟩:=QrF kind arcs
 unfold chC
 rw [h1]
 exact⟨rfl,h2⟩
theorem QoA (kind arcs:Int)(row:List Int):Qeo kind arcs row=some (decide (row∈chC kind arcs)):=by
 have key:Qf (Qeo kind arcs row) fun r=>r=decide (row∈chC kind arcs):=by
  unfold Qeo Qcm QcM
  obtain⟨e,hx⟩:=QFb kind arcs
  rw [e,Qi]
  generalize chC kind arcs=x at hx
  have hl:=hx.1
  have key:Qf ((QD (fun st=>Qaj x row st) 0)) fun q:Int⊕Unit=>(∀k,q=.inl k→0≤k∧row∈x)∧(q=.inr ()→row ∉ x):=by
   refine Qf.up x.length (fun st=>st) (fun st=>row ∉ x.take st.toNat) rfl (by simp) (fun i st hi hn hJ=>?_)
   replace hi:st=(i:Int):=hi
   subst hi
   replace hJ:row ∉ x.take (i:Int).toNat:=hJ
   rw [Qcs]at hJ
   show Qf (Qaj x row i) _
   unfold Qaj Qkk
   refine T1 (fun hc=>?_) (fun hc=>T2 (Qn ⟨fun k e=>(by cases e),fun _=>?_⟩))
   ·simp only [Qz]at hc
    have i1:i<x.length:=by omega
    have:=hx.2 _ (QaV i1)
    rw [QO,QF i1,Qi,QBE _ _ (by unfold maxLen;omega)]
    simp only [Qi]
    refine T1 (fun hc2=>T2 (Qn ⟨fun k e=>(by cases e;exact⟨by omega,by rw [←QV hc2];exact QaV i1⟩),fun e=>by cases e⟩)) fun hc2=>?_
    have hw:w64 ((i:Int)+1)=((i+1:Nat):Int):=Qw i1 (by unfold maxLen;omega:x.length≤maxLen)
    refine T2 (QA ⟨i1,hw,?_⟩)
    show row ∉ x.take (w64 ((i:Int)+1)).toNat
    rw [hw,Qcs,QdQ,QF i1]
    simp only [Option.toList_some,QcR,Qk8,not_or]
    exact⟨hJ,fun e=>of_decide_eq_false hc2 e.symm⟩
   simp only [Q0]at hc
   rwa [QeZ (by omega)]at hJ
  obtain⟨q,hq1,hq2⟩:=key
  rw [hq1]
  rcases q with q | q
  ·have:=hq2.1 q rfl
   refine T2 ?_
   rw [QaS this.2]
   exact QaS this.1
  refine T2 ?_
  rw [Qbs (hq2.2 rfl)];rfl
 obtain⟨r,h1,h2⟩:=key
 rw [h1,h2]
theorem QCx (l:List QN)(k m:Int)(hl:QM QcB l):Qf (Qfz l k m) fun r=>r.2=true→0≤m∧∃z,Qbe l k=some z∧m<z:=by
 unfold Qfz Qbe
 refine T0 (Qjs l k hl).self fun x hx=>?_
 obtain⟨hxe,hx⟩:=hx
 refine T0 (P:=fun r=>r=false→x.1=true∧0≤m∧∃h:0≤k∧k<(x.2.sizes.length:Int),m<x.2.sizes[k.toNat]'(by omega)) ?_ fun r hr=>?_
 ·unfold QkP
  refine T1 (fun _=>T2 fun h=>by cases h) fun hc=>?_
  have hc:x.1=true:=by simpa using hc
  have h:=hx.2 hc
  have hk:k.toNat<x.2.sizes.length:=by omega
  have ei:idx x.2.sizes k=some x.2.sizes[k.toNat]:=QqB h.1.1 h.1.2
  refine T0 (P:=fun y=>y=true→0≤m∧m<x.2.sizes[k.toNat]) ?_ fun y hy=>T2 fun hf=>?_
  ·unfold QdB
   refine T0 (P:=fun y=>y=true→0≤m∧m<x.2.sizes[k.toNat]) ?_ fun y hy=>T2 hy
   unfold Qg6
   refine T1 (fun hc2=>?_) fun _=>T2 fun h=>by cases h
   rw [h.2.1,ei,Qi]
   exact T2 fun h=>⟨by simpa using hc2,by simpa using h⟩
  have:=hy (by simpa using hf)
  exact⟨hc,this.1,h.1,this.2⟩
 unfold Qfe
 refine T1 (fun _=>T2 fun h=>by cases h) fun hc=>?_
 obtain⟨h1,h2,h3,h4⟩:=hr hc
 have h:=hx.2 h1
 have fin:0≤m∧∃z,((Qf9 l k).bind fun x5=>bif (!x5.1)then some 0 else(idx x5.2.sizes k).bind fun e7=>some e7)=some z∧m<z:=⟨h2,x.2.sizes[k.toNat]'(by omega),by
  rw [hxe,Qi,h1]
  simp only [Qms,cond_false]
  rw [QqB h3.1 h3.2];rfl,h4⟩
 refine T0 (Qiv x.2 (by omega)) fun _ _=>?_
 refine T1 (fun _=>?_) fun _=>T2 fun _=>fin
 exact T0 (Qiv x.2 (by omega)) fun _ _=>T2 fun _=>fin
theorem QFc {l d:List Int}(h:d.length=l.length)(hk:∀(j:Nat) x s,d[j]? = some x→l[j]? = some s→0≤x∧x<s):inB l d:=by
 induction l generalizing d with
 | nil=>cases d with
  | nil=>trivial
  | cons x d=>simp at h
 | cons s r ih=>cases d with
  | nil=>simp at h
  | cons x d=>
   have:=hk 0 x s rfl rfl
   exact⟨this.1,.inr this.2,ih (by simpa using h) fun j y z h1 h2=>hk (j+1) y z (by simpa using h1) (by simpa using h2)⟩
theorem QFd (n:Qk)(task:Int)(vars:List Int)(h:QaQ n):Qf (QfZ n task vars) fun r=>r.2=0→∃e,idx n.Tasks task=some e∧e∈n.Tasks∧inB (szB n e) vars∧∀s∈szB n e,0<s:=by
 unfold QfZ
 refine T1 (fun _=>T2 fun h=>by cases h) fun hc=>?_
 simp only [Qc6,Q0]at hc
 refine T0 (T4 (by omega) (by omega)).self fun e he=>?_
 have hv:=(h.tk e he.2).1
 have ke:=h.k.2.2.1.2 e he.2
 refine T1 (fun _=>T2 fun h=>by cases h) fun hl=>?_
 simp only [bne_eq_false_iff_eq]at hl
 have hl:vars.length=e.Vars.length:=by omega
 refine T0 (T5 (by simp only [Qx,Qz];omega)) fun _ _=>?_
 refine T0 (Qf.up e.Vars.length (fun st=>st.1) (fun st=>st.2.length=e.Vars.length∧∀(j:Nat) x s,(j:Int)<st.1→vars[j]? = some x→(szB n e)[j]? = some s→0≤x∧x<s) (Q:=fun q:Unit⊕List Int=>∀out,q=.inr out→inB (szB n e) vars∧∀s∈szB n e,0<s) rfl ⟨by simp,fun j x s hj=>by simp at hj;omega⟩ (fun i st hi hn hJ=>?_)) (fun q hq=>?_)
 ·obtain⟨x,l⟩:=st
  replace hi:x=(i:Int):=hi
  subst hi
  obtain⟨hJ,hJ2⟩:l.length=e.Vars.length∧∀(j:Nat) x s,(j:Int)<(i:Int)→vars[j]? = some x→(szB n e)[j]? = some s→0≤x∧x<s:=hJ
  show Qf (Qhh e vars n i l) _
  unfold Qhh
  refine T1 (fun hc=>?_) (fun hc=>T2 (Qn fun out _=>?_))
  ·simp only [Qz]at hc
   have i1:i<e.Vars.length:=by omega
   have i2:i<vars.length:=by omega
   rw [QO,QF i1,Qi,QO,QF i2,Qi]
   refine T0 (QCx _ _ _ h.k.1) fun c hc3=>?_
   refine T1 (fun _=>T2 (Qn fun out e=>by cases e)) fun hc4=>?_
   obtain⟨h1,z,h2,h3⟩:=hc3 (by simpa using hc4)
   refine T0 (T4 (by omega) (by omega)) fun d _=>?_
   have hw:w64 ((i:Int)+1)=((i+1:Nat):Int):=Qw i1 (by unfold maxLen;omega:e.Vars.length≤maxLen)
   refine T2 (QA ⟨i1,hw,by simpa using hJ,fun j x s hj hx hs=>?_⟩)
   replace hj:(j:Int)<w64 ((i:Int)+1):=hj
   rw [hw]at hj
   by_cases cj:j=i
   ·subst cj
    rw [QF i2]at hx
    cases hx
    unfold szB at hs
    rw [Qao,QF i1,Qd2,h2]at hs
    cases hs
    exact⟨h1,h3⟩
   exact hJ2 j x s (by omega) hx hs
  simp only [Q0]at hc
  have hb:∀(j:Nat) x s,vars[j]? = some x→(szB n e)[j]? = some s→0≤x∧x<s:=fun j x s hx hs=>hJ2 j x s (by have:=(QQ.1 hx).1;omega) hx hs
  refine⟨QFc (by simp [szB,hl]) hb,fun s hs=>?_⟩
  obtain⟨j,hj,rfl⟩:=Qk7.1 hs
  have hj2:j<vars.length:=by simp [szB]at hj;omega
  have:=hb j _ _ (QF hj2) (QF hj)
  omega
 rcases q with q | q
 ·exact T2 fun h=>by cases h
 exact T2 fun _=>⟨e,he.1,he.2,hq q rfl⟩
theorem QxI {n:Qk}{m:List (List (Int×Int))}{task:Int}{vars:List Int}{b:QP}(h:QaQ n)(e:Qcq n m task vars=some (0,b)):idx n.Tasks task=some b.task∧b.task∈n.Tasks∧b.net=n∧b.m=m∧(inB (szB n b.task) vars∧∀s∈szB n b.task,0<s)∧QfZ n task vars=some (b.env,0):=by
 unfold Qcq at e
 obtain⟨x,hx,e⟩:=Qc e
 obtain⟨x1,x2⟩:=x
 rcases Qt e with⟨c,e⟩|⟨c,e⟩
 ·simp only [Option.some.injEq,Prod.mk.injEq]at e
  simp only [e.1]at c;cases c
 simp only [bne_eq_false_iff_eq]at c
 subst c
 obtain⟨t,ht,h1,h2⟩:=Qei (QFd n task vars h) hx rfl
 rw [ht,Qi]at e
 simp only [Option.some.injEq,Prod.mk.injEq,true_and]at e
 subst e
 exact⟨ht,h1,rfl,rfl,h2,hx⟩
theorem QCy {n:Qk}{m:List (List (Int×Int))}{o:Qq}(h:QaQ n)(hm:QM (QM fun _=>True) m)(ho:Qb3 n o):Qfg n m o=some 0↔o∈Qz7 n m o.Task:=by
 rw [QyM]
 constructor
 ·intro e
  unfold Qfg at e
  obtain⟨x,hx,e⟩:=Qc e
  obtain⟨c,b⟩:=x
  have k3:∀g,Qdi (c,b) o g=some 0→g=0∧o.Ins∈chC b.task.Join b.task.Ins.length∧o.Outs∈chC b.task.Split b.task.Outs.length∧Qaq b o.Ins=some 0∧QaF b o.Outs=some 0:=fun g e=>by
   unfold Qdi at e
   rcases Qt e with⟨c2,e⟩|⟨c2,e⟩
   ·simp only [Option.some.injEq]at e;rw [e]at c2;cases c2
   simp only [bne_eq_false_iff_eq]at c2
   obtain⟨y,hy,e⟩:=Qc e
   unfold Qkl at hy
   rw [QoA,Qi]at hy
   unfold QfC at e
   rcases Qt e with⟨_,e⟩|⟨c3,e⟩
   ·cases e
   subst c3
   rcases Qt hy with⟨_,hy⟩|⟨c4,hy⟩
   ·cases hy
   rw [QoA,Qi]at hy
   simp only [QiC,Qz]at c4
   simp only [Option.some.injEq,QiC,Qz]at hy
   obtain⟨z,hz,e⟩:=Qc e
   rcases Qt e with⟨c5,e⟩|⟨c5,e⟩
   ·simp only [Option.some.injEq]at e;rw [e]at c5;cases c5
   simp only [bne_eq_false_iff_eq]at c5
   subst c5
   obtain⟨w,hw,e⟩:=Qc e
   simp only [Option.some.injEq]at e
   subst e
   exact⟨c2,c4,hy,hz,hw⟩
  have fin:c=0→Qan b=some 0→(o.Ins∈chC b.task.Join b.task.Ins.length∧o.Outs∈chC b.task.Split b.task.Outs.length∧Qaq b o.Ins=some 0∧QaF b o.Outs=some 0)→o.Task=o.Task∧∃e,idx n.Tasks o.Task=some e∧inB (szB n e) o.Vars∧o.Ins∈chC e.Join e.Ins.length∧o.Outs∈chC e.Split e.Outs.length∧∃b,Qcq n m o.Task o.Vars=some (0,b)∧Qan b=some 0∧Qaq b o.Ins=some 0∧QaF b o.Outs=some 0:=fun hc hg q=>by
   subst hc
   obtain⟨h1,_,_,_,h2,_⟩:=QxI h hx
   exact⟨rfl,b.task,h1,h2.1,q.1,q.2.1,b,hx,hg,q.2.2.1,q.2.2.2⟩
  rcases Qt e with⟨c1,e⟩|⟨c1,e⟩
  ·simp only [beq_iff_eq]at c1
   obtain⟨g,hg,e⟩:=Qc e
   obtain⟨rfl,q⟩:=k3 g e
   exact fin c1 hg q
  have e1:=(k3 _ e).1
  simp only [beq_eq_false_iff_ne]at c1
  exact absurd e1 c1
 rintro ⟨_,e,he,h1,h2,h3,b,hb,hg,ht,hv⟩
 obtain⟨k1,k2,_⟩:=QxI h hb
 rw [he]at k1;cases k1
 unfold Qfg
 rw [hb,Qi]
 simp only [show((0:Int)==0)=true from rfl,cond_true,hg,Qi]
 unfold Qdi
 simp only [show((0:Int) != 0)=false from rfl,cond_false]
 unfold Qkl
 rw [QoA,Qi,QaS h2]
 simp only [Qms,cond_false]
 rw [QoA,Qi,QaS h3,Qi]
 unfold QfC
 simp only [Qms,cond_false,ht,Qi,show((0:Int) != 0)=false from rfl,hv]
end Go.Proofs
noncomputable section
namespace Go.Proofs
open Go Go.RowKit Go.Vm
def InI (a:Int):Prop:=-9223372036854775808≤a∧a≤9223372036854775807
instance (a : Int):Decidable (InI a):=by unfold InI;infer_instance
theorem Qvu (x:Int):IntKind.u64.wrap x=x % 18446744073709551616:=rfl
theorem Qjc {x:Int}(h:0≤x∧x<18446744073709551616):IntKind.u64.wrap x=x:=by rw [Qvu];omega
theorem QxJ {x:Int}(h:0≤x):Qer .u64 x 32=x / 4294967296:=by
 unfold Qer
 rw [show min ((32:Int).toNat) (IntKind.bits .u64)=32 from rfl,Int.fdiv_eq_ediv_of_nonneg _ (by decide)]
 rfl
theorem QBF {x:Int}(h:0≤x∧x<18446744073709551616):Qd0 .u64 x 4294967295=x % 4294967296:=by
 unfold Qd0
 have e:((BitVec.ofInt (IntKind.bits .u64) x &&& BitVec.ofInt (IntKind.bits .u64) 4294967295).toNat:Int)=x % 4294967296:=by
  rw [BitVec.toNat_and,BitVec.toNat_ofInt,BitVec.toNat_ofInt]
  have h1:(x % ((2:Nat) ^ (IntKind.bits .u64):Nat)).toNat=x.toNat:=by
   show(x % 18446744073709551616).toNat=x.toNat
   omega
  have h2:((4294967295:Int) % ((2:Nat) ^ (IntKind.bits .u64):Nat)).toNat=2 ^ 32-1:=by decide
  rw [h1,h2,Nat.and_two_pow_sub_one_eq_mod]
  omega
 rw [e]
 exact Qjc (by omega)
theorem QxK {x y:Int}(hx:0≤x∧x≤4294967295)(hy:0≤y∧y≤4294967295):0≤x*y∧x*y≤18446744065119617025:=by
 refine⟨Int.mul_nonneg hx.1 hy.1,?_⟩
 have:=Int.mul_le_mul hx.2 hy.2 hy.1 (by decide)
 omega
theorem QBG {x y:Int}(hx:0≤x∧x<18446744073709551616)(hy:0≤y∧y<18446744073709551616):Qeg x y=some (x*y / 18446744073709551616,x*y % 18446744073709551616):=by
 unfold Qeg
 rw [QxJ hx.1,QxJ hy.1,QBF hx,QBF hy,Qvu (x*y)]
 have e:x*y=(x / 4294967296)*(y / 4294967296)*18446744073709551616+((x / 4294967296)*(y % 4294967296)+(x % 4294967296)*(y / 4294967296))*4294967296+(x % 4294967296)*(y % 4294967296):=by
  have h1:x=(x / 4294967296)*4294967296+x % 4294967296:=by omega
  have h2:y=(y / 4294967296)*4294967296+y % 4294967296:=by omega
  generalize x / 4294967296=a at *
  generalize x % 4294967296=b at *
  generalize y / 4294967296=c at *
  generalize y % 4294967296=d at *
  subst h1 h2
  grind
 rw [e]
 have b1:=QxK (x:=x / 4294967296) (y:=y / 4294967296) (by omega) (by omega)
 have b2:=QxK (x:=x / 4294967296) (y:=y % 4294967296) (by omega) (by omega)
 have b3:=QxK (x:=x % 4294967296) (y:=y / 4294967296) (by omega) (by omega)
 have b4:=QxK (x:=x % 4294967296) (y:=y % 4294967296) (by omega) (by omega)
 generalize x / 4294967296*(y / 4294967296)=p at *
 generalize x / 4294967296*(y % 4294967296)=q at *
 generalize x % 4294967296*(y / 4294967296)=r at *
 generalize x % 4294967296*(y % 4294967296)=s at *
 rw [Qjc (x:=s) (by omega),QxJ (x:=s) (by omega),Qjc (x:=q) (by omega),Qjc (x:=q+s / 4294967296) (by omega),QxJ (x:=q+s / 4294967296) (by omega),QBF (x:=q+s / 4294967296) (by omega),Qjc (x:=r) (by omega),Qjc (x:=p) (by omega),
  Qjc (x:=(q+s / 4294967296) % 4294967296+r) (by omega),QxJ (x:=(q+s / 4294967296) % 4294967296+r) (by omega),Qjc (x:=p+(q+s / 4294967296) / 4294967296) (by omega),Qjc (by omega)]
 congr 2
 omega
def QmW (a:Int):Int:=if a<0 then -a else a
theorem QyN {a:Int}(h:InI a):QhH a=some (QmW a):=by
 unfold QhH QmW InI at *
 by_cases c:a<0
 ·rw [QaS c,cond_true,if_pos c,Qvu,Qvu];congr 1;omega
 rw [Qbs c,cond_false,if_neg c,Qvu];congr 1;omega
theorem QEn (a b:Int):QmW a*QmW b=QmW (a*b):=by
 unfold QmW
 by_cases c1:a<0<;>by_cases c2:b<0
 ·rw [if_pos c1,if_pos c2,if_neg (by have:=Int.mul_pos_of_neg_of_neg c1 c2;omega),Int.neg_mul_neg]
 ·rw [if_pos c1,if_neg c2]
  by_cases c3:b=0
  ·subst c3;simp
  rw [if_pos (Int.mul_neg_of_neg_of_pos c1 (by omega)),Int.neg_mul]
 ·rw [if_neg c1,if_pos c2]
  by_cases c3:a=0
  ·subst c3;simp
  rw [if_pos (Int.mul_neg_of_pos_of_neg (by omega) c2),Int.mul_neg]
 rw [if_neg c1,if_neg c2,if_neg (by have:=Int.mul_nonneg (show 0≤a by omega) (show 0≤b by omega);omega)]
def QBH (a b:Int):Int×Int:=if InI (a*b)then(a*b,0)else(0,6)
theorem Qz8 {a b:Int}(ha:InI a)(hb:InI b):Qgf a b=some (QBH a b):=by
 unfold Qgf
 have h1:0≤QmW a∧QmW a≤9223372036854775808:=by unfold QmW InI at *;split<;>omega
 have h2:0≤QmW b∧QmW b≤9223372036854775808:=by unfold QmW InI at *;split<;>omega
 have h3:0≤QmW a*QmW b:=Int.mul_nonneg h1.1 h2.1
 rw [QyN ha,Qi,QyN hb,Qi,QBG (by omega) (by omega),Qi]
 rw [QEn]at h3 ⊢
 have sg:(decide (a<0) != decide (b<0))=true∨(decide (a<0) != decide (b<0))=false:=by cases (decide (a<0) != decide (b<0))<;>simp
 have hsg:(decide (a<0) != decide (b<0))=true→a*b≤0:=fun h=>by
  by_cases c1:a<0<;>by_cases c2:b<0<;>simp [c1,c2]at h
  ·exact Int.mul_nonpos_of_nonpos_of_nonneg (by omega) (by omega)
  exact Int.mul_nonpos_of_nonneg_of_nonpos (by omega) (by omega)
 have hsg2:(decide (a<0) != decide (b<0))=false→0≤a*b:=fun h=>by
  by_cases c1:a<0<;>by_cases c2:b<0<;>simp [c1,c2]at h
  ·have:=Int.mul_pos_of_neg_of_neg c1 c2;omega
  exact Int.mul_nonneg (by omega) (by omega)
 have hw:InI (a*b)→w64 (a*b)=a*b:=fun h=>Q3 h
 generalize hm:a*b=m at *
 unfold QBH
 rw [hm]
 unfold QmW at h3 ⊢
 rcases sg with c | c
 ·rw [c,cond_true]
  have:=hsg c
  unfold Qde
  rw [hm,Qvu]
  simp only
  by_cases ci:InI m
  ·rw [if_pos ci,hw ci]
   unfold InI at ci
   rw [Qbs (by split<;>omega),Qbs (by split<;>omega)];rfl
  rw [if_neg ci]
  have:decide (0<(if m<0 then -m else m) / 18446744073709551616)=true∨decide ((9223372036854775807+1) % 18446744073709551616<(if m<0 then -m else m) % 18446744073709551616)=true:=by
   unfold InI at ci
   rw [Qz,Qz]
   split<;>omega
  rcases this with h | h
  ·rw [h];rfl
  rw [h,Bool.or_true];rfl
 rw [c,cond_false]
 have:=hsg2 c
 unfold Qde
 rw [hm]
 simp only
 by_cases ci:InI m
 ·rw [if_pos ci,hw ci]
  unfold InI at ci
  rw [Qbs (by split<;>omega),Qbs (by split<;>omega)];rfl
 rw [if_neg ci]
 have:decide (0<(if m<0 then -m else m) / 18446744073709551616)=true∨decide ((9223372036854775807:Int)<(if m<0 then -m else m) % 18446744073709551616)=true:=by
  unfold InI at ci
  rw [Qz,Qz]
  split<;>omega
 rcases this with h | h
 ·rw [h];rfl
 rw [h,Bool.or_true];rfl
def QBI (a b:Int):Int×Int:=if InI (a+b)then(a+b,0)else(0,6)
theorem QDE {a b:Int}(ha:InI a)(hb:InI b):Qlj a b=some (QBI a b):=by
 unfold Qlj QBI
 by_cases ci:InI (a+b)
 ·rw [if_pos ci,Q3 ci]
  have:((decide (a<0)==decide (b<0))&&(decide (a+b<0) != decide (a<0)))=false:=by
   by_cases c1:a<0<;>by_cases c2:b<0<;>simp [c1,c2]<;>omega
  rw [this];rfl
 rw [if_neg ci]
 have hw:w64 (a+b)=if a+b<0 then a+b+18446744073709551616 else a+b-18446744073709551616:=by
  rw [Qtl];unfold wrap64 InI at *;split<;>omega
 have:((decide (a<0)==decide (b<0))&&(decide (w64 (a+b)<0) != decide (a<0)))=true:=by
  rw [hw]
  unfold InI at *
  by_cases c1:a<0<;>by_cases c2:b<0<;>by_cases c3:a+b<0<;>simp [c1,c2,c3]<;>omega
 rw [this];rfl
theorem QFe {a b:Int}(ha:InI a)(hb:InI b):QcX 3 a b=some (QBH a b):=by
 unfold QcX
 rw [show((3:Int)==1)=false from rfl,cond_false,show((3:Int)==2)=false from rfl,cond_false,show((3:Int)==3)=true from rfl,cond_true,Qz8 ha hb];rfl
theorem QFf {a b:Int}(ha:InI a)(hb:InI b):QcX 1 a b=some (QBI a b):=by
 unfold QcX
 rw [show((1:Int)==1)=true from rfl,cond_true,QDE ha hb];rfl
end Go.Proofs
noncomputable section
namespace Go.Proofs
open Go Go.RowKit Go.Vm
def Qjd : Int→List (Int×Int)→Int×Int
 | n,[]=>(n,0)
 | n,p::r=>if InI (p.1*p.2)then(if InI (n+p.1*p.2)then Qjd (n+p.1*p.2) r else(0,6))else(0,6)
theorem QDF {x y t:Int}(v1 v2:Int)(hx:InI x)(hy:InI y)(ht:InI t):QfW v1 v2 t (QhE.mk x y)=some (if InI (x*y)then(if InI (t+x*y)then .inr (t+x*y)else .inl (0,6))else .inl (0,6)):=by
 unfold QfW
 show(QcX 3 x y).bind _=_
 rw [QFe hx hy,Qi]
 unfold QBH
 by_cases c:InI (x*y)
 ·rw [if_pos c,if_pos c]
  show(QcX 1 t (x*y)).bind _=_
  rw [QFf ht c,Qi]
  unfold QBI
  by_cases c2:InI (t+x*y)
  ·rw [if_pos c2,if_pos c2];rfl
  rw [if_neg c2,if_neg c2];rfl
 rw [if_neg c,if_neg c];rfl
theorem QEo (a b:List Int)(ha:∀x∈a,InI x)(hb:∀x∈b,InI x)(hl:a.length≤maxLen):(Qji 0 0 0 a b).bind (Sum.elim (fun q=>Qlk q) (fun q=>Qll q))=some (Qjd 0 (a.zip b)):=by
 unfold Qji
 have hlen:((a.zip b).length:Int)=min2 (a.length:Int) (b.length:Int):=by rw [List.length_zip];unfold min2;split<;>omega
 have main:=Qxo (body:=fun st:Int×Int=>Qdz a b 0 0 st.1 st.2) (l:=a.zip b) (fun _ (t:Int)=>InI t) (fun i t=>((i:Int),t))
  (fun _ t (p:Int×Int)=>if InI (p.1*p.2)∧InI (t+p.1*p.2)then .inl (t+p.1*p.2)else .inr (.inl (0,6,t))) (fun t=>(.inr t:(Int×Int×Int)⊕Int))
  (fun i t p ht hi hp=>by
   obtain⟨h1,h2⟩:=List.getElem?_zip_eq_some.1 hp
   have hx:=ha _ (QaA h1)
   have hy:=hb _ (QaA h2)
   refine⟨?_,fun t' e=>?_⟩
   ·show Qdz a b 0 0 (i:Int) t=_
    unfold Qdz
    rw [QaS (by rw [←hlen];omega),cond_true,QO,h1,Qi,QO,h2,Qi,QDF 0 0 hx hy ht,Qi]
    have hw:w64 ((i:Int)+1)=((i+1:Nat):Int):=Qw (n:=a.length) (QQ.1 h1).1 hl
    by_cases c:InI (p.1*p.2)
    ·by_cases c2:InI (t+p.1*p.2)
     ·rw [if_pos c,if_pos c2,if_pos ⟨c,c2⟩]
      show QiL i _=_
      unfold QiL;rw [hw];rfl
     rw [if_pos c,if_neg c2,if_neg fun h=>c2 h.2];rfl
    rw [if_neg c,if_neg fun h=>c h.1];rfl
   replace e:(if InI (p.1*p.2)∧InI (t+p.1*p.2)then Sum.inl (t+p.1*p.2)else Sum.inr (.inl (0,6,t)):Int⊕((Int×Int×Int)⊕Int))=.inl t':=e
   split at e
   ·rename_i c;cases e;exact c.2
   cases e)
  (fun t _=>by
   show Qdz a b 0 0 ((a.zip b).length:Int) t=_
   unfold Qdz
   rw [Qbs (by rw [hlen];omega),cond_false]) 0 (by unfold InI;omega) (s0:=(0,0)) rfl
 rw [main,Qi]
 have key:∀(l:List (Int×Int)) (i:Nat) (t:Int),(Sum.elim (fun q:Int×Int×Int=>QmO q.1 q.2.1 q.2.2) (fun q=>QmP q) (QnO (fun (_:Nat) (t:Int) (p:Int×Int)=>if InI (p.1*p.2)∧InI (t+p.1*p.2)then .inl (t+p.1*p.2)else .inr (.inl (0,6,t))) (fun t=>(.inr t:(Int×Int×Int)⊕Int)) i t l)).bind (Sum.elim (fun q=>Qlk q) (fun q=>Qll q))=some (Qjd t l):=by
  intro l
  induction l with
  | nil=>intro i t;rfl
  | cons p l ih=>
   intro i t
   rw [QnO,Qjd]
   by_cases c:InI (p.1*p.2)
   ·by_cases c2:InI (t+p.1*p.2)
    ·rw [if_pos ⟨c,c2⟩,if_pos c,if_pos c2];exact ih _ _
    rw [if_neg fun h=>c2 h.2,if_pos c,if_neg c2];rfl
   rw [if_neg fun h=>c h.1,if_neg c];rfl
 exact key _ _ _
theorem QCz {a b:List Int}(ha:∀x∈a,InI x)(hb:∀x∈b,InI x)(hl:a.length≤maxLen):Qma a b=some (Qjd 0 (a.zip b)):=by
 unfold Qma
 show(Qji 0 0 0 a b).bind _=_
 exact QEo a b ha hb hl
def Qav : List Int→List Int→Int
 | x::a,y::b=>x*y+Qav a b
 | _,_=>0
end Go.Proofs
noncomputable section
namespace Go.Proofs
open Go Go.RowKit Go.Vm
theorem QFg (n1:Qk)(h:QU n1):Qf (QnA n1) fun r=>r=true→QaQ n1∧n1.Places.length≤12∧n1.Tasks.length≤8:=by
 unfold QnA
 refine T0 (QAO n1 h) fun x5 h5=>?_
 refine T1 (fun _=>T2 fun h=>by cases h) fun hc=>?_
 simp only [Qc6,QiC,Q0]at hc
 have h5:=h5 hc.1
 refine T0 (QtM n1 h).self fun x11 h11=>T2 fun he=>?_
 obtain⟨a,b⟩:=x11
 have:a=0:=by simpa using he
 subst this
 exact⟨⟨h,h5.2.1,by omega,QyJ n1 h h11.1⟩,by omega,by omega⟩
def RowsIn (arcs:Int)(r:List (List Int)):Prop:=r.length≤16∧∀row∈r,row.length≤16∧∀k∈row,0≤k∧k<arcs
def chI (arcs:Int)(o:Option (List (List Int))):Bool:=match o with
 | some r=>decide (r.length≤16)&&r.all fun row=>decide (row.length≤16)&&row.all fun k=>decide (0≤k)&&decide (k<arcs)
 | none=>false
theorem Qz9 {arcs:Int}{o:Option (List (List Int))}(h:chI arcs o=true):Qf o (RowsIn arcs):=by
 cases o with
 | none=>cases h
 | some r=>
  simp only [chI,Qx,Qz,Qad]at h
  exact T2 h
theorem QD0 {arcs:Int}(h0:¬arcs<0)(h1:¬16<arcs):arcs=0∨arcs=1∨arcs=2∨arcs=3∨arcs=4∨arcs=5∨arcs=6∨arcs=7∨arcs=8∨arcs=9∨arcs=10∨arcs=11∨arcs=12∨arcs=13∨arcs=14∨arcs=15∨arcs=16:=by omega
set_option maxRecDepth 100000 in
theorem Qvv (kind arcs:Int):Qf (QaG kind arcs) (RowsIn arcs):=by
 by_cases hg:((decide (arcs<0))||((decide (16<arcs))||((kind==3)&&(decide (4<arcs)))))=true
 ·unfold QaG
  rw [hg]
  exact T2 ⟨by simp,fun r h=>by cases h⟩
 simp only [QdP,Qx,Qz,beq_iff_eq,not_or,not_and]at hg
 obtain⟨h0,h1,h2⟩:=hg
 by_cases e1:kind=1
 ·subst e1
  rcases QD0 h0 h1 with rfl | rfl | rfl | rfl | rfl | rfl | rfl | rfl | rfl | rfl | rfl | rfl | rfl | rfl | rfl | rfl | rfl<;>exact Qz9 (by kernel_rfl)
 by_cases e2:kind=2
 ·subst e2
  rcases QD0 h0 h1 with rfl | rfl | rfl | rfl | rfl | rfl | rfl | rfl | rfl | rfl | rfl | rfl | rfl | rfl | rfl | rfl | rfl<;>exact Qz9 (by kernel_rfl)
 by_cases e3:kind=3
 ·subst e3
  have h3:=h2 rfl
  have:arcs=0∨arcs=1∨arcs=2∨arcs=3∨arcs=4:=by omega
  rcases this with rfl | rfl | rfl | rfl | rfl<;>exact Qz9 (by kernel_rfl)
 have f1:(kind==1)=false:=by simpa using e1
 have f2:(kind==2)=false:=by simpa using e2
 have f3:(kind==3)=false:=by simpa using e3
 unfold QaG Qee
 rw [f1,f2,f3]
 exact T1 (fun _=>T2 ⟨by simp,fun r h=>by cases h⟩) fun _=>T2 ⟨by simp,fun r h=>by cases h⟩
def Eff (n:Qk)(b:Int)(e:List Int):Prop:=e.length=n.Places.length∧∀x∈e,-b≤x∧x≤b
theorem Eff.mono {n:Qk}{a b:Int}{e:List Int}(h:Eff n a e)(hb:a≤b):Eff n b e:=⟨h.1,fun x hx=>by have:=h.2 x hx;omega⟩
theorem Qtr (l:List Int)(p k B:Int)(hB:0≤B∧B≤1000)(hk:-1≤k∧k≤1)(hl:∀x∈l,-B≤x∧x≤B):Qf (QeQ l p k) fun r=>r.length=l.length∧∀x∈r,-(B+1)≤x∧x≤B+1:=by
 unfold QeQ
 refine T1 (fun hc=>?_) fun _=>T2 ⟨rfl,fun x hx=>by have:=hl x hx;omega⟩
 simp only [Qx,Qz]at hc
 refine T0 (T4 hc.1 hc.2) fun e he=>?_
 have:=hl e he
 refine T0 (T4 hc.1 hc.2) fun _ _=>T2 ⟨by simp,fun x hx=>?_⟩
 rcases Qzd hx with hx | rfl
 ·have:=hl x hx;omega
 rw [Q3 (by omega)];omega
theorem QFh (n:Qk)(t:Qy)(row l:List Int)(hr:row.length≤16)(hk:∀k∈row,0≤k∧k<(t.Ins.length:Int))(hl:Eff n 0 l):Qf (QD (fun st=>Qb9 row t st.1 st.2) (0,l)) (Eff n 16):=by
 refine Qf.up row.length (fun st=>st.1) (fun st=>Eff n st.1 st.2) rfl hl (fun i st hi hn hJ=>?_)
 obtain⟨x,l⟩:=st
 replace hi:x=(i:Int):=hi
 subst hi
 replace hJ:Eff n (i:Int) l:=hJ
 show Qf (Qb9 row t i l) _
 unfold Qb9
 refine T1 (fun hc=>?_) (fun hc=>T2 (Qn (hJ.mono (by omega))))
 simp only [Qz]at hc
 refine T0 (T4 (by omega) hc) fun k hk'=>?_
 have:=hk k hk'
 refine T0 (T4 this.1 this.2) fun a _=>?_
 refine T0 (Qtr l a.Place (-1) i (by omega) (by omega) hJ.2) fun l' hl'=>?_
 refine T0 (T5 (by simpa using hl'.1)) fun _ _=>?_
 have hw:w64 ((i:Int)+1)=(i:Int)+1:=Q3 (by omega)
 refine T2 (QA ⟨by omega,hw,hl'.1.trans hJ.1,?_⟩)
 show ∀x∈l',-(w64 ((i:Int)+1))≤x∧x≤w64 ((i:Int)+1)
 rw [hw];exact hl'.2
theorem QFi (n:Qk)(t:Qy)(row l:List Int)(hr:row.length≤16)(hk:∀k∈row,0≤k∧k<(t.Outs.length:Int))(hl:Eff n 16 l):Qf (QD (fun st=>Qca row t st.1 st.2) (0,l)) (Eff n 32):=by
 refine Qf.up row.length (fun st=>st.1) (fun st=>Eff n (16+st.1) st.2) rfl hl (fun i st hi hn hJ=>?_)
 obtain⟨x,l⟩:=st
 replace hi:x=(i:Int):=hi
 subst hi
 replace hJ:Eff n (16+(i:Int)) l:=hJ
 show Qf (Qca row t i l) _
 unfold Qca
 refine T1 (fun hc=>?_) (fun hc=>T2 (Qn (hJ.mono (by omega))))
 simp only [Qz]at hc
 refine T0 (T4 (by omega) hc) fun k hk'=>?_
 have:=hk k hk'
 refine T0 (T4 this.1 this.2) fun a _=>?_
 refine T0 (Qtr l a.Place 1 (16+i) (by omega) (by omega) hJ.2) fun l' hl'=>?_
 refine T0 (T5 (by simpa using hl'.1)) fun _ _=>?_
 have hw:w64 ((i:Int)+1)=(i:Int)+1:=Q3 (by omega)
 refine T2 (QA ⟨by omega,hw,hl'.1.trans hJ.1,?_⟩)
 show ∀x∈l',-(16+w64 ((i:Int)+1))≤x∧x≤16+w64 ((i:Int)+1)
 rw [hw];intro x hx;have:=hl'.2 x hx;omega
def Qc3 (n:Qk)(m:Int)(l:List (List Int)):Prop:=(l.length:Int)≤m∧∀e∈l,Eff n 32 e
theorem Qc3.mono {n:Qk}{a b:Int}{l:List (List Int)}(h:Qc3 n a l)(hb:a≤b):Qc3 n b l:=⟨by have:=h.1;omega,h.2⟩
theorem QFj (n:Qk)(t:Qy)(ins:List Int)(outs l:List (List Int))(m:Int)(hp:n.Places.length≤12)(hi:ins.length≤16∧∀k∈ins,0≤k∧k<(t.Ins.length:Int))(ho:RowsIn (t.Outs.length:Int) outs)(hm:m≤100000)(hl:Qc3 n m l):Qf (QD (fun st=>Qcb outs n ins t st.1 st.2) (0,l)) (Qc3 n (m+16)):=by
 have ho1:=ho.1
 refine Qf.up outs.length (fun st=>st.1) (fun st=>Qc3 n (m+st.1) st.2) rfl (hl.mono (by show m≤m+0;omega)) (fun i st hi2 hn hJ=>?_)
 obtain⟨x,l⟩:=st
 replace hi2:x=(i:Int):=hi2
 subst hi2
 replace hJ:Qc3 n (m+(i:Int)) l:=hJ
 show Qf (Qcb outs n ins t i l) _
 unfold Qcb
 refine T1 (fun hc=>?_) (fun hc=>T2 (Qn (hJ.mono (by omega))))
 simp only [Qz]at hc
 refine T0 (T4 (by omega) hc) fun row hrow=>?_
 have hrow:=ho.2 row hrow
 refine T0 (T5 (by simp;omega)) fun _ _=>?_
 refine T0 (QFh n t ins _ hi.1 hi.2 ⟨by simp,fun x hx=>by have:=(List.mem_replicate.1 hx).2;omega⟩) fun l1 h1=>?_
 show Qf (QdG row t l i l1) _
 unfold QdG
 refine T0 (QFi n t row l1 hrow.1 hrow.2 h1) fun l2 h2=>?_
 show Qf (QdF l i l2) _
 unfold QdF
 have:=hJ.1
 refine T0 (T5 (by simp;omega)) fun _ _=>?_
 have hw:w64 ((i:Int)+1)=(i:Int)+1:=Q3 (by omega)
 refine T2 (QA ⟨by omega,hw,?_,fun e he=>?_⟩)
 ·show((l++[l2]).length:Int)≤m+w64 ((i:Int)+1)
  rw [hw,Qfm,Qnf];omega
 rcases QcR.1 he with he | he
 ·exact hJ.2 e he
 rw [Qk8.1 he];exact h2
theorem QFk (n:Qk)(t:Qy)(ins l:List (List Int))(m:Int)(hp:n.Places.length≤12)(hi:RowsIn (t.Ins.length:Int) ins)(hm:m≤10000)(hl:Qc3 n m l):Qf (QD (fun st=>Qcc ins t n st.1 st.2) (0,l)) (Qc3 n (m+256)):=by
 have hi1:=hi.1
 refine Qf.up ins.length (fun st=>st.1) (fun st=>Qc3 n (m+16*st.1) st.2) rfl (hl.mono (by show m≤m+16*0;omega)) (fun i st hi2 hn hJ=>?_)
 obtain⟨x,l⟩:=st
 replace hi2:x=(i:Int):=hi2
 subst hi2
 replace hJ:Qc3 n (m+16*(i:Int)) l:=hJ
 show Qf (Qcc ins t n i l) _
 unfold Qcc
 refine T1 (fun hc=>?_) (fun hc=>T2 (Qn (hJ.mono (by omega))))
 simp only [Qz]at hc
 refine T0 (T4 (by omega) hc) fun row hrow=>?_
 refine T0 (Qvv _ _) fun outs ho=>?_
 refine T0 (QFj n t row outs l _ hp (hi.2 row hrow) ho (by omega) hJ) fun l1 h1=>?_
 show Qf (QdH i l1) _
 unfold QdH
 have hw:w64 ((i:Int)+1)=(i:Int)+1:=Q3 (by omega)
 refine T2 (QA ⟨by omega,hw,?_⟩)
 show Qc3 n (m+16*w64 ((i:Int)+1)) l1
 rw [hw];exact h1.mono (by omega)
theorem QAa (n:Qk)(hp:n.Places.length≤12)(ht:n.Tasks.length≤8):Qf (QaY n) (Qc3 n 2048):=by
 unfold QaY
 refine T0 (Qf.up n.Tasks.length (fun st=>st.1) (fun st=>Qc3 n (256*st.1) st.2) (Q:=Qc3 n 2048) rfl ⟨by simp,fun e he=>by cases he⟩ (fun i st hi2 hn hJ=>?_)) fun q hq=>T2 hq
 obtain⟨x,l⟩:=st
 replace hi2:x=(i:Int):=hi2
 subst hi2
 replace hJ:Qc3 n (256*(i:Int)) l:=hJ
 show Qf (QdJ n i l) _
 unfold QdJ
 refine T1 (fun hc=>?_) (fun hc=>T2 (Qn (hJ.mono (by omega))))
 simp only [Qz]at hc
 refine T0 (T4 (by omega) hc) fun t _=>?_
 refine T0 (Qvv _ _) fun ins hins=>?_
 refine T0 (QFk n t ins l _ hp hins (by omega) hJ) fun l1 h1=>?_
 show Qf (QdI i l1) _
 unfold QdI
 have hw:w64 ((i:Int)+1)=(i:Int)+1:=Q3 (by omega)
 refine T2 (QA ⟨by omega,hw,?_⟩)
 show Qc3 n (256*w64 ((i:Int)+1)) l1
 rw [hw];exact h1.mono (by omega)
def QgT (n:Qk)(k:Int):Bool:=decide (k<0)||decide ((n.Places.length:Int)≤k)
theorem QoQ {α:Type}{l:List α}(p:α→Bool){body:Int→Option (Int⊕(Int⊕Unit))}(hs:∀(i:Nat) x,i<l.length→l[i]? = some x→body (i:Int)=some (bif p x then .inr (.inl (i:Int))else .inl ((i+1:Nat):Int)))(hf:body (l.length:Int)=some (.inr (.inr ()))):
  QD body 0=some ((Qdd (fun _ x=>p x) 0 l).elim (.inr ()) fun i=>.inl (i:Int)):=
 QyI (ρ:=Int⊕Unit) (fun i:Nat=>(i:Int)) (fun _ x=>p x) (fun i=>Sum.inl (i:Int)) (Sum.inr ()) hs hf rfl
theorem Qv8 {α:Type}{p:Nat→α→Bool}:∀{l:List α} {k n:Nat},Qdd p k l=some n→∀i x,k+i<n→l[i]? = some x→p (k+i) x=false:=by
 intro l
 induction l with
 | nil=>intro k n h;cases h
 | cons y l ih=>
  intro k n h i x hi hx
  rw [Qdd]at h
  cases hp:p k y with
  | true=>rw [hp]at h;cases h;omega
  | false=>
   rw [hp]at h
   cases i with
   | zero=>cases hx;exact hp
   | succ i=>
    have:=ih h i x (by omega) hx
    rwa [show k+1+i=k+(i+1) by omega]at this
theorem Qts {α:Type}(p:α→Bool)(l:List α):(decide (0≤(Qdd (fun _ x=>p x) 0 l).elim (-1:Int) fun i=>(i:Int)))=l.any p:=by
 cases h:Qdd (fun _ x=>p x) 0 l with
 | none=>
  have h2:=QpJ h
  show decide ((0:Int)≤-1)=_
  rw [eq_comm,show decide ((0:Int)≤-1)=false from rfl,List.any_eq_false]
  intro x hx
  obtain⟨i,hi⟩:=Qps hx
  rw [h2 i x hi];simp
 | some i=>
  obtain⟨j,x,_,h3,h4⟩:=QpI h
  show decide ((0:Int)≤(i:Int))=_
  rw [QaS (by omega),eq_comm,Qnc]
  exact⟨x,QaA h3,h4⟩
theorem QyO (l:List Int)(n:Qk)(hl:l.length≤maxLen):QcT l n=some ((Qdd (fun _ x=>QgT n x) 0 l).elim (-1) fun i=>(i:Int)):=by
 unfold QcT
 rw [QoQ (l:=l) (QgT n) (fun i x hi hx=>by
  show QaI l n i=_
  unfold QaI
  rw [QaS (by omega),cond_true,QO,hx,Qi,show Qef x n=some (QgT n x)from rfl,Qi,Qw hi hl]
  cases QgT n x<;>rfl) (by
  show QaI l n l.length=_
  unfold QaI
  rw [Qbs (by omega),cond_false])]
 cases Qdd (fun _ x=>QgT n x) 0 l<;>rfl
theorem QDG (n:Qk)(l:List Int)(hl:l.length≤1000):Qf (Qa0 l n) fun r=>r.length≤1000∧∀k∈r,QgT n k=false:=by
 unfold Qa0
 rw [QyO l n (by unfold maxLen;omega),Qi]
 cases hs:Qdd (fun _ x=>QgT n x) 0 l with
 | none=>
  refine T1 (fun _=>T2 ⟨hl,fun k hk=>?_⟩) fun hc=>by cases hc
  obtain⟨i,hi⟩:=Qps hk
  have:=QpJ hs i k hi
  exact this
 | some i0=>
  obtain⟨i1,x0,e0,hx0,_⟩:=QpI hs
  have hi0:i0<l.length:=by have:=(QQ.1 hx0).1;omega
  refine T1 (fun hc=>by simp at hc) fun _=>?_
  show Qf ((QD _ ((i0:Int),w64 ((i0:Int)+1),l)).bind _) _
  have hw:w64 ((i0:Int)+1)=(i0:Int)+1:=Q3 (by omega)
  refine T0 (Qf.up (l.length-(i0+1)) (fun st=>st.2.1-((i0:Int)+1)) (fun st=>0≤st.1∧st.1<st.2.1∧st.2.2.length=l.length∧∀k∈st.2.2.take st.1.toNat,QgT n k=false) (Q:=fun q:Int×List Int=>0≤q.1∧q.1≤(l.length:Int)∧q.2.length=l.length∧∀k∈q.2.take q.1.toNat,QgT n k=false) (by show w64 ((i0:Int)+1)-((i0:Int)+1)=0;omega) ⟨by show(0:Int)≤i0;omega,by show(i0:Int)<w64 ((i0:Int)+1);omega,rfl,?_⟩ (fun i st hi hn hJ=>?_)) (fun q hq=>?_)
  ·show ∀k∈l.take (i0:Int).toNat,QgT n k=false
   rw [Qcs]
   intro k hk
   obtain⟨i,hi⟩:=Qps hk
   have hlt:=(QQ.1 hi).1
   rw [QeY]at hlt
   rw [Qct,if_pos (by omega)]at hi
   exact Qv8 hs i k (by omega) hi
  ·obtain⟨a,j,l2⟩:=st
   replace hi:j-((i0:Int)+1)=i:=hi
   obtain⟨j1,j2,j3,j4⟩:0≤a∧a<j∧l2.length=l.length∧∀k∈l2.take a.toNat,QgT n k=false:=hJ
   show Qf (Qay n a j l2) _
   unfold Qay
   refine T1 (fun hc=>?_) (fun hc=>T2 (Qn ⟨j1,?_,j3,j4⟩))
   ·simp only [Qz]at hc
    have hj:j.toNat<l2.length:=by omega
    have hw2:w64 (j+1)=j+1:=Q3 (by omega)
    have hw3:w64 (a+1)=a+1:=Q3 (by omega)
    rw [QqB (by omega) (by omega),Qi,show Qef l2[j.toNat] n=some (QgT n l2[j.toNat])from rfl,Qi]
    refine T1 (fun hc2=>?_) fun hc2=>?_
    ·have hc2:QgT n l2[j.toNat]=false:=by simpa using hc2
     refine T0 (T4 (by omega) (by omega)) fun _ _=>?_
     refine T2 (QA ⟨by omega,by show w64 (j+1)-((i0:Int)+1)=_;omega,by show 0≤w64 (a+1);omega,by show w64 (a+1)<w64 (j+1);omega,by simpa using j3,?_⟩)
     show ∀k∈(l2.set a.toNat l2[j.toNat]).take (w64 (a+1)).toNat,QgT n k=false
     rw [hw3,show(a+1).toNat=a.toNat+1 by omega,QdQ,Qq0 (by omega),List.take_set_of_le (Qb4 _)]
     intro k hk
     rcases QcR.1 hk with hk | hk
     ·exact j4 k hk
     simp at hk;subst hk;exact hc2
    exact T2 (QA ⟨by omega,by show w64 (j+1)-((i0:Int)+1)=_;omega,j1,by show a<w64 (j+1);omega,j3,j4⟩)
   simp only [Q0]at hc
   omega
  obtain⟨a,l2⟩:=q
  obtain⟨q1,q2,q3,q4⟩:0≤a∧a≤(l.length:Int)∧l2.length=l.length∧∀k∈l2.take a.toNat,QgT n k=false:=hq
  show Qf (Qaz a l2) _
  unfold Qaz
  refine T0 (T5 (by simp;omega)) fun _ _=>?_
  refine T0 (T5 (by simp;omega)) fun _ _=>T2 ?_
  rw [QsK (by simp;omega),List.take_take,Nat.min_self]
  exact⟨by simp;omega,q4⟩
theorem QCA {l:List Int}{x:Int}(h:x∈Qez l):x∈l:=by
 unfold Qez Lib.compact Lib.compactUpTo at h
 rw [QG]at h
 obtain⟨j,hj,rfl⟩:=h
 have hj:=QiE.1 (Qhl.1 hj).1
 rw [getElem!_pos l.toArray j (by simpa using hj)]
 simp
theorem QAb (n:Qk)(h:QaQ n)(ht:n.Tasks.length≤8):Qf (Qau n) fun r=>r.length≤1000∧∀k∈r,0≤k∧k<(n.Places.length:Int):=by
 unfold Qau
 refine T0 (Qf.up n.Tasks.length (fun st=>st.1) (fun st=>(st.2.length:Int)≤16*st.1) (Q:=fun l:List Int=>l.length≤128) rfl (by simp) (fun i st hi2 hn hJ=>?_)) fun l hl=>?_
 ·obtain⟨x,l⟩:=st
  replace hi2:x=(i:Int):=hi2
  subst hi2
  replace hJ:(l.length:Int)≤16*(i:Int):=hJ
  show Qf (QdK n i l) _
  unfold QdK
  refine T1 (fun hc=>?_) (fun hc=>T2 (Qn (by omega)))
  simp only [Qz]at hc
  refine T0 (T4 (by omega) hc) fun t htm=>?_
  have:=(h.tk t htm).2.2.2
  refine T0 (T5 (by simp;omega)) fun _ _=>?_
  have hw:w64 ((i:Int)+1)=(i:Int)+1:=Q3 (by omega)
  refine T2 (QA ⟨by omega,hw,?_⟩)
  show((l++t.Cancel).length:Int)≤16*w64 ((i:Int)+1)
  rw [hw,Qfm];omega
 show Qf (QdL n l) _
 unfold QdL Qa1 Qd5
 refine T0 (QDG n l (by omega)) fun l1 h1=>?_
 rw [QnN (by omega),Qi,Qi]
 refine T0 (T5 (by simp [Qho])) fun _ _=>?_
 rw [QnN (by rw [Qho];omega),Qi,Qi]
 refine T2 ⟨?_,fun k hk=>?_⟩
 ·refine Qaa ?_ h1.1
  rw [←Qho l1]
  unfold Qez Lib.compact Lib.compactUpTo
  rw [Qk6]
  refine Qaa (Qvg _ _) ?_
  simp
 have:=h1.2 k ((QpB l1).mem_iff.1 (QCA hk))
 unfold QgT at this
 simp at this
 omega
end Go.Proofs
noncomputable section
namespace Go.Proofs
open Go Go.RowKit Go.Vm
theorem QxL {τ ρ π:Type}{body:τ→π→Option (τ⊕ρ)}{s:τ}{p q:π}{o:τ⊕ρ}(h1:QbE body s [p,q]=some o)(h2:QbE body s [q,p]=some o):QcJ body s [p,q]=some o:=by
 refine Qd4.2 ⟨fun l hl=>?_,h1⟩
 have hlen:=hl.length_eq
 match l,hl,hlen with
 | [a,b],hl,_=>
  have ha:a∈[p,q]:=hl.mem_iff.1 Q9
  simp only [Qab,List.not_mem_nil,or_false]at ha
  rcases ha with rfl | rfl
  ·have:=List.perm_singleton.1 ((List.perm_cons a).1 hl)
   rw [this]
  have:=List.perm_singleton.1 ((List.perm_cons a).1 (hl.trans (List.Perm.swap a p [])))
  rw [this,h2,h1]
def Qr3 : Qk:=(Qou).getD (Qk.mk [] [] [] 0 0)
def Qu9 : List (Int×List Int):=[(0,[-1,1,0]),(2,[0,0,1])]
theorem QBJ : QcE 3 Qu9 1=some [1,1,0]:=by
 unfold QcE
 rw [show Qu9=[(0,[-1,1,0]),(2,[0,0,1])]from rfl,QxL (o:=.inl 1) (by kernel_rfl) (by kernel_rfl),Qi]
 show Qcz 3 1 _ 1=_
 unfold Qcz
 rw [show chk (decide ((0:Int)≤3)&&decide ((3:Int)≤3)&&decide ((3:Int)≤4294967296))=some () by kernel_rfl,Qi,show idx (List.replicate (3:Int).toNat (0:Int)) 1=some 0 by kernel_rfl,Qi,
  QxL (o:=.inl [1,1,0]) (by kernel_rfl) (by kernel_rfl)]
 rfl
theorem QAG : QfI Qr3=some ([[1,1,0]],0):=by
 have h1:QfI Qr3=QgB Qr3 Qu9:=by kernel_rfl
 rw [h1]
 unfold QgB
 have b0:Qa2 Qr3 Qu9 0 []=some (.inl (1,[])):=by kernel_rfl
 have b1:Qa2 Qr3 Qu9 1 []=some (.inl (2,[[1,1,0]])):=by
  unfold Qa2
  rw [show decide ((1:Int)<(Qr3.Places.length:Int))=true by kernel_rfl,cond_true,show(QR Qu9 1).isSome=false by kernel_rfl,cond_false,show(Qr3.Places.length:Int)=3 by kernel_rfl,QBJ]
  kernel_rfl
 have b2:Qa2 Qr3 Qu9 2 [[1,1,0]]=some (.inl (3,[[1,1,0]])):=by kernel_rfl
 have b3:Qa2 Qr3 Qu9 3 [[1,1,0]]=some (.inr [[1,1,0]]):=by kernel_rfl
 rw [QcC,b0];simp only [Qi]
 rw [QcC,b1];simp only [Qi]
 rw [QcC,b2];simp only [Qi]
 rw [QcC,b3]
 rfl
theorem QBK : Qmv=some true:=by
 unfold Qmv
 rw [show Qou=some Qr3 by kernel_rfl,Qi,QAG,Qi]
 kernel_rfl
end Go.Proofs
noncomputable section
namespace Go.Proofs
open Go Go.RowKit Go.Vm
theorem QDH (E w:List Int)(hl:E.length≤1000)(hE:∀k∈E,0≤k∧k<(w.length:Int)):Qci E w=some (E.any fun k=>w.getD k.toNat 0 != 0):=by
 unfold Qci Qev
 rw [QoQ (l:=E) (fun k=>w.getD k.toNat 0 != 0) (fun i x hi hx=>by
  show QaJ E w i=_
  have hk:=hE x (QaA hx)
  unfold QaJ Qnt
  rw [QaS (by omega),cond_true,QO,hx,Qi,QqB hk.1 hk.2,Qi,Qi,Qw hi (by unfold maxLen;omega),show w.getD x.toNat 0=w[x.toNat] by rw [Qfl,QF (by omega:x.toNat<w.length)];rfl]
  cases (w[x.toNat] != 0)<;>rfl) (by
  show QaJ E w E.length=_
  unfold QaJ
  rw [Qbs (by omega),cond_false]),←Qts]
 cases Qdd (fun _ x=>w.getD x.toNat 0 != 0) 0 E<;>rfl
def Qg8 (E:List Int)(F:List (List Int))(w:List Int):Prop:=(∀k∈E,w.getD k.toNat 0=0)∧∀e∈F,Qav w e=0
theorem QEp : ∀(v w e:List Int),v.length=w.length→Qav (List.zipWith (·+·) v w) e=Qav v e+Qav w e:=by
 intro v
 induction v with
 | nil=>intro w e h;cases w with
  | nil=>cases e<;>rfl
  | cons _ _=>cases h
 | cons x v ih=>
  intro w e h
  cases w with
  | nil=>cases h
  | cons y w=>
   cases e with
   | nil=>rfl
   | cons z e=>
    simp only [Qex,Nat.succ.injEq]at h
    rw [List.zipWith_cons_cons,Qav,Qav,Qav,ih w e h,Int.add_mul]
    omega
theorem QEq (c:Int):∀(v e:List Int),Qav (v.map (c*·)) e=c*Qav v e:=by
 intro v
 induction v with
 | nil=>intro e;cases e<;>simp [Qav]
 | cons x v ih=>
  intro e
  cases e with
  | nil=>simp [Qav]
  | cons z e=>rw [QaW,Qav,Qav,ih e,Qol,QfP]
theorem QDI (c:Int)(v:List Int)(k:Nat):(v.map (c*·)).getD k 0=c*v.getD k 0:=by
 rw [Qfl,Qfl,Qao]
 cases v[k]? <;> simp
theorem QDJ (v w:List Int)(h:v.length=w.length)(k:Nat):(List.zipWith (·+·) v w).getD k 0=v.getD k 0+w.getD k 0:=by
 rw [Qfl,Qfl,Qfl]
 by_cases hk:k<v.length
 ·rw [QF hk,QF (by omega:k<w.length),QF (by simp;omega)]
  simp
 rw [Qve (by omega:v.length≤k),Qve (by omega:w.length≤k),Qve (by simp;omega:(List.zipWith (·+·) v w).length≤k)]
 rfl
theorem QDK {E:List Int}{F:List (List Int)}{v:List Int}{c:Int}(hc:c≠0):Qg8 E F (v.map (c*·))↔Qg8 E F v:=by
 unfold Qg8
 refine and_congr (forall_congr' fun k=>imp_congr_right fun _=>?_) (forall_congr' fun e=>imp_congr_right fun _=>?_)
 ·rw [QDI,QhT];exact or_iff_right hc
 rw [QEq,QhT];exact or_iff_right hc
theorem QDL {E:List Int}{F:List (List Int)}{v w:List Int}(hl:v.length=w.length)(h:Qg8 E F v):Qg8 E F (List.zipWith (·+·) v w)↔Qg8 E F w:=by
 unfold Qg8
 refine and_congr (forall_congr' fun k=>imp_congr_right fun hk=>?_) (forall_congr' fun e=>imp_congr_right fun he=>?_)
 ·rw [QDJ v w hl,h.1 k hk,Int.zero_add]
 rw [QEp v w e hl,h.2 e he,Int.zero_add]
theorem QDM (n:Nat):∀e:List Int,Qav (List.replicate n 0) e=0:=by
 induction n with
 | zero=>intro e;cases e<;>rfl
 | succ n ih=>intro e;cases e with
  | nil=>rfl
  | cons z e=>rw [List.replicate_succ,Qav,ih e];simp
theorem QCB {E:List Int}{F:List (List Int)}(n:Nat):Qg8 E F (List.replicate n 0):=by
 refine⟨fun k _=>?_,fun e _=>QDM n e⟩
 rw [Qfl,List.getElem?_replicate]
 split<;>rfl
end Go.Proofs
namespace Go.Vm
abbrev Vec : Type:=Nat→Int
def dexp : (List Nat→Int)→Vec→List Nat→Int
 | _,_,[]=>0
 | f,v,c::cs=>v c*f cs-dexp (fun l=>f (c::l)) v cs
def det : List Vec→List Nat→Int
 | [],[]=>1
 | [],_::_=>0
 | v::vs,cs=>dexp (det vs) v cs
theorem QAc (v:Vec):∀(cs:List Nat) (f:List Nat→Int),dexp (fun l=>-f l) v cs=-dexp f v cs
 | [],f=>rfl
 | c::cs,f=>by
  rw [dexp,dexp,QAc v cs (fun l=>f (c::l)),Int.mul_neg];omega
theorem QBL (v:Vec){cs:List Nat}{f g:List Nat→Int}(h:∀l,f l=g l):dexp f v cs=dexp g v cs:=by
 rw [show f=g from funext h]
def QgU (f:List Nat→Int):Prop:=∀p a b s,f (p++a::b::s)=-f (p++b::a::s)
theorem QgU.cons {f:List Nat→Int}(h:QgU f)(c:Nat):QgU fun l=>f (c::l):=fun p a b s=>h (c::p) a b s
theorem QgU.app {f:List Nat→Int}(h:QgU f)(q:List Nat):QgU fun l=>f (q++l):=fun p a b s=>by
 have:=h (q++p) a b s
 simpa [Qhk] using this
theorem QgU.dexp (v:Vec):∀(p:List Nat) {f:List Nat→Int},QgU f→∀a b s,dexp f v (p++a::b::s)=-dexp f v (p++b::a::s)
 | [],f,h,a,b,s=>by
  show v a*f (b::s)-(v b*f (a::s)-Vm.dexp (fun l=>f (a::b::l)) v s)=-(v b*f (a::s)-(v a*f (b::s)-Vm.dexp (fun l=>f (b::a::l)) v s))
  rw [QBL v (f:=fun l=>f (a::b::l)) (g:=fun l=>-f (b::a::l)) fun l=>h [] a b l,QAc v s (fun l=>f (b::a::l))]
  omega
 | c::p,f,h,a,b,s=>by
  show v c*f (p++a::b::s)-Vm.dexp (fun l=>f (c::l)) v (p++a::b::s)=-(v c*f (p++b::a::s)-Vm.dexp (fun l=>f (c::l)) v (p++b::a::s))
  rw [h p a b s,QgU.dexp v p (h.cons c) a b s,Int.mul_neg]
  omega
theorem Qtt : ∀vs:List Vec,QgU (det vs)
 | []=>fun p a b s=>by cases p<;>rfl
 | v::vs=>fun p a b s=>QgU.dexp v p (Qtt vs) a b s
def sg : List Nat→Int
 | []=>1
 | _::p=>-sg p
theorem QCC (p:List Nat):sg p=1∨sg p=-1:=by
 induction p with
 | nil=>exact .inl rfl
 | cons _ p ih=>rcases ih with h | h<;>simp [sg,h]
theorem QgU.front : ∀(p:List Nat) {f:List Nat→Int},QgU f→∀a s,f (p++a::s)=sg p*f (a::(p++s))
 | [],f,h,a,s=>by simp [sg]
 | c::p,f,h,a,s=>by
  have h1:=QgU.front p (h.cons c) a s
  have h2:=h [] c a (p++s)
  show f (c::(p++a::s))=-sg p*f (a::c::(p++s))
  rw [h1]
  show sg p*f (c::a::(p++s))=_
  rw [show f (c::a::(p++s))=-f (a::c::(p++s))from h2]
  simp [Int.mul_neg,Int.neg_mul]
theorem QgU.twice {f:List Nat→Int}(h:QgU f)(a:Nat){l:List Nat}(hl:a∈l):f (a::l)=0:=by
 obtain⟨q,s,rfl⟩:=Qvc hl
 have h1:=QgU.front q (h.cons a) a s
 have h2:f (a::a::(q++s))=-f (a::a::(q++s)):=h [] a a (q++s)
 have h3:f (a::a::(q++s))=0:=by omega
 show f (a::(q++a::s))=0
 rw [h1]
 show sg q*f (a::a::(q++s))=0
 rw [h3,Qhj]
theorem QgU.at {f:List Nat→Int}(h:QgU f)(p s:List Nat){a:Nat}(ha:a∈p++s):f (p++a::s)=0:=by
 rw [QgU.front p h a s,h.twice a ha,Qhj]
inductive Qap (vs:List Vec):Vec→Prop where
 | zero:Qap vs (fun _=>0)
 | mem (v:Vec):v∈vs→Qap vs v
 | lin (a b:Int) (x y:Vec):Qap vs x→Qap vs y→Qap vs (fun j=>a*x j+b*y j)
theorem Qap.smul {vs:List Vec}{x:Vec}(h:Qap vs x)(a:Int):Qap vs fun j=>a*x j:=by
 have:=Qap.lin a 0 x x h h
 simpa using this
theorem Qap.sub {vs:List Vec}{x y:Vec}(a b:Int)(hx:Qap vs x)(hy:Qap vs y):Qap vs fun j=>a*x j-b*y j:=by
 have:=Qap.lin a (-b) x y hx hy
 have e:(fun j=>a*x j-b*y j)=fun j=>a*x j+-b*y j:=by
  funext j;rw [Int.neg_mul];rfl
 rw [e];exact this
theorem Qap.mono {vs ws:List Vec}(h:∀v∈vs,Qap ws v){x:Vec}(hx:Qap vs x):Qap ws x:=by
 induction hx with
 | zero=>exact .zero
 | mem v hv=>exact h v hv
 | lin a b x y _ _ h1 h2=>exact .lin a b x y h1 h2
theorem Qap.dexp {vs:List Vec}(v:Vec):∀(cs:List Nat) (f:Nat→List Nat→Int),(∀l,Qap vs fun j=>f j l)→Qap vs fun j=>dexp (f j) v cs
 | [],f,h=>.zero
 | c::cs,f,h=>by
  have h1:=Qap.dexp v cs (fun j l=>f j (c::l)) fun l=>h (c::l)
  have:=Qap.sub (v c) 1 (h cs) h1
  simpa [Vm.dexp] using this
theorem Qap.det : ∀(vs:List Vec) (cs:List Nat),Qap vs fun j=>det vs (j::cs)
 | [],cs=>by
  show Qap [] fun _=>0
  exact .zero
 | v::vs,cs=>by
  have up:∀{x},Qap vs x→Qap (v::vs) x:=fun h=>h.mono fun u hu=>.mem u (Qah _ hu)
  have h1:Qap (v::vs) fun j=>Vm.dexp (fun l=>Vm.det vs (j::l)) v cs:=up (Qap.dexp v cs (fun j l=>Vm.det vs (j::l)) fun l=>Qap.det vs l)
  have:=Qap.sub (Vm.det vs cs) 1 (Qap.mem v (Q9 (l:=vs))) h1
  have e:(fun j=>Vm.det (v::vs) (j::cs))=fun j=>Vm.det vs cs*v j-1*Vm.dexp (fun l=>Vm.det vs (j::l)) v cs:=by
   funext j
   show v j*Vm.det vs cs-Vm.dexp (fun l=>Vm.det vs (j::l)) v cs=_
   rw [Qk3 (v j),Int.one_mul]
  rw [e];exact this
def fac : Nat→Nat
 | 0=>1
 | n+1=>(n+1)*fac n
theorem QAT {m B:Nat}{v:Vec}(hv:∀j,(v j).natAbs≤m):∀(cs:List Nat) (f:List Nat→Int),(∀l,l.length+1=cs.length→(f l).natAbs≤B)→(dexp f v cs).natAbs≤cs.length*(m*B)
 | [],f,h=>by simp [dexp]
 | c::cs,f,h=>by
  have h1:=QAT hv cs (fun l=>f (c::l)) (fun l hl=>h (c::l) (by simp;omega))
  have h2:=h cs rfl
  have h3:(v c*f cs).natAbs≤m*B:=by rw [QfQ];exact Ql3 (hv c) h2
  rw [dexp,Qex,QcH,Nat.one_mul]
  have:=Int.natAbs_sub_le (v c*f cs) (dexp (fun l=>f (c::l)) v cs)
  omega
theorem QsE {m:Nat}:∀(vs:List Vec) (cs:List Nat),(∀v∈vs,∀j,(v j).natAbs≤m)→cs.length=vs.length→(det vs cs).natAbs≤fac vs.length*m ^ vs.length
 | [],[],_,_=>by simp [det,fac]
 | [],_::_,_,h=>by simp at h
 | v::vs,cs,hv,hl=>by
  have h1:=QAT (B:=fac vs.length*m ^ vs.length) (hv v Q9) cs (det vs) (fun l h=>QsE vs l (fun u hu=>hv u (Qah _ hu)) (by simp at hl;omega))
  rw [det]
  refine Qaa h1 ?_
  rw [hl,Qex,fac,Nat.pow_succ]
  apply Nat.le_of_eq
  simp [QoC,Ql2,Nat.mul_left_comm]
abbrev Piv : Type:=List (Nat×Vec)
structure Red (rs:Piv):Prop where
 nd:(rs.map Prod.fst).Nodup
 ne:∀q∈rs,q.2 q.1≠0
 zr:∀q∈rs,∀p∈rs,p.1≠q.1→q.2 p.1=0
def comb (c:Nat→Int)(rs:Piv):Vec:=fun j=>(rs.map fun q=>c q.1*q.2 j).sum
theorem QAd (a b:Int)(c d:Nat→Int)(rs:Piv)(j:Nat):comb (fun p=>a*c p+b*d p) rs j=a*comb c rs j+b*comb d rs j:=by
 unfold comb
 induction rs with
 | nil=>simp
 | cons q rs ih=>
  simp only [QaW,List.sum_cons,ih]
  rw [Int.add_mul,Qol,Qol,QfP,QfP]
  omega
theorem QDN {rs:Piv}(p:Nat):∀(hn:(rs.map Prod.fst).Nodup) (r:Vec),(p,r)∈rs→∀j,comb (fun k=>if k=p then 1 else 0) rs j=r j:=by
 induction rs with
 | nil=>intro _ r h;cases h
 | cons q rs ih=>
  intro hn r h j
  rw [QaW,Qds]at hn
  unfold comb at ih ⊢
  rw [QaW,List.sum_cons]
  rcases Qab.1 h with e | h
  ·subst e
   have:(rs.map fun q=>(if q.1=p then(1:Int)else 0)*q.2 j).sum=0:=by
    have key:∀l:Piv,(∀q∈l,q.1≠p)→(l.map fun q=>(if q.1=p then(1:Int)else 0)*q.2 j).sum=0:=by
     intro l
     induction l with
     | nil=>intro _;rfl
     | cons u l ih2=>
      intro hl
      rw [QaW,List.sum_cons,if_neg (hl u Q9),ih2 fun x hx=>hl x (Qah _ hx)]
      simp
    exact key rs fun u hu e=>hn.1 (QG.2 ⟨u,hu,e⟩)
   rw [this];simp
  have hne:q.1≠p:=fun e=>hn.1 (QG.2 ⟨(p,r),h,e.symm⟩)
  have i2:=ih hn.2 r h j
  rw [i2]
  show(if q.1=p then(1:Int)else 0)*q.2 j+r j=r j
  rw [if_neg hne];simp
theorem Qap.comb {rs:Piv}(hn:(rs.map Prod.fst).Nodup){x:Vec}(h:Qap (rs.map Prod.snd) x):∃c:Nat→Int,∀j,x j=comb c rs j:=by
 induction h with
 | zero=>
  refine⟨fun _=>0,fun j=>?_⟩
  have:=QAd 0 0 (fun _=>0) (fun _=>0) rs j
  simpa using this.symm
 | mem v hv=>
  obtain⟨q,hq,rfl⟩:=QG.1 hv
  exact⟨fun k=>if k=q.1 then 1 else 0,fun j=>(QDN q.1 hn q.2 hq j).symm⟩
 | lin a b x y _ _ h1 h2=>
  obtain⟨c,hc⟩:=h1
  obtain⟨d,hd⟩:=h2
  exact⟨fun p=>a*c p+b*d p,fun j=>by show a*x j+b*y j=_;rw [QAd,hc,hd]⟩
theorem QAU {rs:Piv}(h:Red rs)(c:Nat→Int){q:Nat×Vec}(hq:q∈rs):comb c rs q.1=c q.1*q.2 q.1:=by
 have key:∀l:Piv,(l.map Prod.fst).Nodup→(∀u∈l,u∈rs)→(l.map fun u=>c u.1*u.2 q.1).sum=if q.1∈l.map Prod.fst then c q.1*q.2 q.1 else 0:=by
  intro l
  induction l with
  | nil=>intro _ _;rfl
  | cons u l ih=>
   intro hn hm
   rw [QaW,Qds]at hn
   rw [QaW,List.sum_cons,ih hn.2 fun x hx=>hm x (Qah _ hx)]
   by_cases e:u.1=q.1
   ·have hu:u=q:=by
     have:=hm u Q9
     have nd:=h.nd
     rw [List.nodup_iff_pairwise_ne]at nd
     clear ih
     have inj:∀(l:Piv),(l.map Prod.fst).Nodup→∀a∈l,∀b∈l,a.1=b.1→a=b:=by
      intro l
      induction l with
      | nil=>intro _ a ha;cases ha
      | cons z l ih3=>
       intro hn a ha b hb e
       rw [QaW,Qds]at hn
       rcases Qab.1 ha with ha | ha
       ·rcases Qab.1 hb with hb | hb
        ·rw [ha,hb]
        exact absurd (QG.2 ⟨b,hb,by rw [←e,ha]⟩) hn.1
       rcases Qab.1 hb with hb | hb
       ·exact absurd (QG.2 ⟨a,ha,by rw [e,hb]⟩) hn.1
       exact ih3 hn.2 a ha b hb e
     exact inj rs h.nd u this q hq e
    subst hu
    rw [if_neg hn.1,if_pos (by simp)];omega
   have hz:u.2 q.1=0:=h.zr u (hm u Q9) q hq (fun e2=>e e2.symm)
   rw [hz,Qhj,Int.zero_add]
   by_cases hi:q.1∈l.map Prod.fst
   ·rw [if_pos hi,if_pos (by simp only [QaW];exact Qah _ hi)]
   rw [if_neg hi,if_neg (by simp only [QaW];intro hh;exact(Qab.1 hh).elim (fun hh=>e hh.symm) hi)]
 have:=key rs h.nd fun u hu=>hu
 rw [if_pos (QG.2 ⟨q,hq,rfl⟩)]at this
 exact this
theorem Red.inj {rs:Piv}(h:Red rs){x:Vec}(hx:Qap (rs.map Prod.snd) x)(hz:∀q∈rs,x q.1=0):∀j,x j=0:=by
 obtain⟨c,hc⟩:=hx.comb h.nd
 have h0:∀q∈rs,c q.1=0:=fun q hq=>by
  have h1:=hz q hq
  rw [hc,QAU h c hq]at h1
  rcases QhT.1 h1 with h2 | h2
  ·exact h2
  exact absurd h2 (h.ne q hq)
 intro j
 rw [hc]
 unfold comb
 have key:∀l:Piv,(∀q∈l,c q.1=0)→(l.map fun q=>c q.1*q.2 j).sum=0:=by
  intro l
  induction l with
  | nil=>intro _;rfl
  | cons u l ih=>intro hl;rw [QaW,List.sum_cons,hl u Q9,ih fun x hx=>hl x (Qah _ hx)];simp
 exact key rs h0
def Qac (vs:List Vec)(x:Vec):Prop:=∃a:Int,a≠0∧Qap vs fun j=>a*x j
theorem Red.line {rs:Piv}(h:Red rs){x:Vec}(hx:Qac (rs.map Prod.snd) x){q:Nat×Vec}(hq:q∈rs)(hz:∀p∈rs,p.1≠q.1→x p.1=0)(j:Nat):q.2 q.1*x j=x q.1*q.2 j:=by
 obtain⟨a,ha,hs⟩:=hx
 have h1:=Qap.sub (q.2 q.1) (a*x q.1) hs (Qap.mem q.2 (QG.2 ⟨q,hq,rfl⟩))
 have h2:=h.inj h1 (fun p hp=>by
  by_cases e:p.1=q.1
  ·rw [e,Qk3 (a*x q.1)];simp
  rw [hz p hp e,h.zr q hq p hp e];simp) j
 have h3:a*(q.2 q.1*x j)=a*(x q.1*q.2 j):=by
  have e1:q.2 q.1*(a*x j)=a*(q.2 q.1*x j):=by rw [Qk4]
  have e2:a*x q.1*q.2 j=a*(x q.1*q.2 j):=QfP _ _ _
  rw [e1,e2]at h2
  omega
 exact Int.eq_of_mul_eq_mul_left ha h3
theorem Qac.of {vs:List Vec}{x:Vec}(h:Qap vs x):Qac vs x:=⟨1,by decide,by simpa using h⟩
theorem Qac.zero {vs:List Vec}:Qac vs fun _=>0:=.of .zero
theorem Qac.lin {vs:List Vec}{x y:Vec}(a b:Int)(hx:Qac vs x)(hy:Qac vs y):Qac vs fun j=>a*x j+b*y j:=by
 obtain⟨c,hc,h1⟩:=hx
 obtain⟨d,hd,h2⟩:=hy
 refine⟨c*d,Int.mul_ne_zero hc hd,?_⟩
 have:=Qap.lin (d*a) (c*b) _ _ h1 h2
 have e:(fun j=>c*d*(a*x j+b*y j))=fun j=>d*a*(c*x j)+c*b*(d*y j):=by
  funext j
  rw [Qol]
  congr 1
  ·rw [QfP,QfP,Qk4 c d,Qk4 c a]
  rw [QfP,QfP,Qk4 d b]
 rw [e];exact this
theorem Qac.trans {vs ws:List Vec}{x:Vec}(h:Qap vs x)(hv:∀v∈vs,Qac ws v):Qac ws x:=by
 induction h with
 | zero=>exact .zero
 | mem v h=>exact hv v h
 | lin a b x y _ _ h1 h2=>exact h1.lin a b h2
theorem Qac.div {vs:List Vec}{x:Vec}{a:Int}(ha:a≠0)(h:Qac vs fun j=>a*x j):Qac vs x:=by
 obtain⟨c,hc,h1⟩:=h
 refine⟨c*a,Int.mul_ne_zero hc ha,?_⟩
 have e:(fun j=>c*a*x j)=fun j=>c*(a*x j):=by funext j;exact QfP _ _ _
 rw [e];exact h1
theorem Qac.transQ {vs ws:List Vec}{x:Vec}(h:Qac vs x)(hv:∀v∈vs,Qac ws v):Qac ws x:=by
 obtain⟨c,hc,h1⟩:=h
 exact Qac.div hc (Qac.trans h1 hv)
def QnT (x:Vec):Prop:=∀d:Nat,(∀j,d ∣ (x j).natAbs)→d=1
theorem QnT.fits {r R:Vec}{x y:Int}(hp:QnT r)(hx:x≠0)(hy:y≠0)(h:∀j,x*r j=y*R j):∃t:Int,t≠0∧x=y*t∧∀j,R j=t*r j:=by
 have hA:y.natAbs ∣ x.natAbs:=by
  have hy0:0<y.natAbs:=QqW.2 hy
  have hg:0<Nat.gcd y.natAbs x.natAbs:=QwR _ hy0
  have cop:=Nat.coprime_div_gcd_div_gcd hg
  obtain⟨y',ey⟩:=Nat.gcd_dvd_left y.natAbs x.natAbs
  obtain⟨x',ex⟩:=Nat.gcd_dvd_right y.natAbs x.natAbs
  generalize Nat.gcd y.natAbs x.natAbs=g at *
  have dy:y.natAbs / g=y':=by rw [ey];exact Qr6 _ hg
  have dx:x.natAbs / g=x':=by rw [ex];exact Qr6 _ hg
  rw [dy,dx]at cop
  have all:∀j,y' ∣ (r j).natAbs:=fun j=>by
   have h1:x.natAbs*(r j).natAbs=y.natAbs*(R j).natAbs:=by rw [←QfQ,←QfQ,h j]
   rw [ex,ey,QoC,QoC]at h1
   have h2:x'*(r j).natAbs=y'*(R j).natAbs:=Nat.eq_of_mul_eq_mul_left hg h1
   exact cop.dvd_of_dvd_mul_left ⟨_,h2⟩
  have:=hp y' all
  rw [ey,this,ex,Nat.mul_one];exact⟨x',rfl⟩
 obtain⟨t,ht⟩:=Int.natAbs_dvd_natAbs.1 hA
 refine⟨t,fun e=>hx (by rw [ht,e,Qhj]),ht,fun j=>?_⟩
 have h1:=h j
 rw [ht,QfP]at h1
 exact(Int.eq_of_mul_eq_mul_left hy h1).symm
theorem Qo3 {t a:Int}(ht:t≠0):a.natAbs≤(t*a).natAbs:=by
 rw [QfQ]
 exact Nat.le_mul_of_pos_left _ (QqW.2 ht)
structure Qok (vs:List Vec) (rs:Piv):Prop where
 red:Red rs
 prim:∀q∈rs,QnT q.2
 spn:∀v∈vs,Qac (rs.map Prod.snd) v
 det:det vs (rs.map Prod.fst)≠0
 len:vs.length=rs.length
theorem Qok.cram {vs:List Vec}{rs:Piv}(h:Qok vs rs){p s:Piv}{q:Nat×Vec}(e:rs=p++q::s):
  ∃t:Int,t≠0∧Vm.det vs (rs.map Prod.fst)=q.2 q.1*t∧∀j,Vm.det vs (p.map Prod.fst++j::s.map Prod.fst)=t*q.2 j:=by
 have hq:q∈rs:=by rw [e];simp
 have hm:rs.map Prod.fst=p.map Prod.fst++q.1::s.map Prod.fst:=by rw [e];simp
 have hR:Qap vs fun j=>Vm.det vs (p.map Prod.fst++j::s.map Prod.fst):=by
  have:=(Qap.det vs (p.map Prod.fst++s.map Prod.fst)).smul (sg (p.map Prod.fst))
  have e2:(fun j=>Vm.det vs (p.map Prod.fst++j::s.map Prod.fst))=fun j=>sg (p.map Prod.fst)*Vm.det vs (j::(p.map Prod.fst++s.map Prod.fst)):=by
   funext j;exact QgU.front _ (Qtt vs) j _
  rw [e2];exact this
 have hl:=h.red.line (x:=fun j=>Vm.det vs (p.map Prod.fst++j::s.map Prod.fst)) (Qac.trans hR h.spn) hq (fun u hu hne=>by
  refine QgU.at (Qtt vs) _ _ ?_
  have:u.1∈rs.map Prod.fst:=QG.2 ⟨u,hu,rfl⟩
  rw [hm]at this
  rcases QcR.1 this with h1 | h1
  ·exact Qoo _ h1
  rcases Qab.1 h1 with h1 | h1
  ·exact absurd h1 hne
  exact QwQ _ h1)
 have hd:=h.det
 rw [hm]at hd
 obtain⟨t,t1,t2,t3⟩:=(h.prim q hq).fits (x:=Vm.det vs (p.map Prod.fst++q.1::s.map Prod.fst)) (y:=q.2 q.1) (R:=fun j=>Vm.det vs (p.map Prod.fst++j::s.map Prod.fst)) hd (h.red.ne q hq) (fun j=>(hl j).symm)
 exact⟨t,t1,by rw [hm];exact t2,t3⟩
theorem Qok.le {m:Nat}{vs:List Vec}{rs:Piv}(h:Qok vs rs)(hv:∀v∈vs,∀j,(v j).natAbs≤m){q:Nat×Vec}(hq:q∈rs)(j:Nat):(q.2 j).natAbs≤fac vs.length*m ^ vs.length:=by
 obtain⟨p,s,e⟩:=Qvc hq
 obtain⟨t,t1,_,t3⟩:=h.cram e
 refine Qaa (Qo3 t1) ?_
 rw [←t3 j]
 refine QsE vs _ hv ?_
 rw [h.len,e];simp
theorem QrG (x:Vec):∀(cs:List Nat) (f:List Nat→Int),(∀c∈cs,x c=0)→dexp f x cs=0
 | [],_,_=>rfl
 | c::cs,f,h=>by
  rw [dexp,h c Q9,QrG x cs _ fun d hd=>h d (Qah _ hd)];simp
theorem Qv9 (x:Vec)(a:Nat)(s:List Nat)(hs:∀c∈s,x c=0):∀(p:List Nat) (f:List Nat→Int),(∀c∈p,x c=0)→dexp f x (p++a::s)=sg p*(x a*f (p++s))
 | [],f,_=>by
  show x a*f s-dexp (fun l=>f (a::l)) x s=_
  rw [QrG x s _ hs];simp [sg]
 | c::p,f,h=>by
  show x c*f (p++a::s)-dexp (fun l=>f (c::l)) x (p++a::s)=_
  rw [h c Q9,Qv9 x a s hs p _ fun d hd=>h d (Qah _ hd)]
  simp [sg,Int.neg_mul]
theorem QwL (a b:Int)(x y:Vec):∀(cs:List Nat) (f:List Nat→Int),dexp f (fun j=>a*x j+b*y j) cs=a*dexp f x cs+b*dexp f y cs
 | [],f=>by simp [dexp]
 | c::cs,f=>by
  rw [dexp,dexp,dexp,QwL a b x y cs]
  rw [Int.add_mul,Int.mul_sub,Int.mul_sub,QfP,QfP]
  omega
theorem Qok.nil {vs:List Vec}{rs:Piv}(h:Qok vs rs)(q:Nat){x:Vec}(hx:Qap (rs.map Prod.snd) x):dexp (Vm.det vs) x (q::rs.map Prod.fst)=0:=by
 induction hx with
 | zero=>exact QrG _ _ _ fun _ _=>rfl
 | lin a b x y _ _ h1 h2=>rw [QwL,h1,h2];simp
 | mem v hv=>
  obtain⟨u,hu,rfl⟩:=QG.1 hv
  obtain⟨p,s,e⟩:=Qvc hu
  obtain⟨t,t1,t2,t3⟩:=h.cram e
  have hm:rs.map Prod.fst=p.map Prod.fst++u.1::s.map Prod.fst:=by rw [e];simp
  have z:∀c,c∈p.map Prod.fst∨c∈s.map Prod.fst→u.2 c=0:=fun c hc=>by
   have nd:=h.red.nd
   rw [hm]at nd
   obtain⟨w,hw,rfl⟩:∃w∈rs,w.1=c:=by
    rcases hc with hc | hc<;>(obtain⟨w,hw,rfl⟩:=QG.1 hc;exact⟨w,by rw [e];simp [hw],rfl⟩)
   refine h.red.zr u hu w hw fun e2=>?_
   rw [List.nodup_append]at nd
   obtain⟨n1,n2,n3⟩:=nd
   rw [Qds]at n2
   rcases hc with hc | hc
   ·exact n3 w.1 hc u.1 Q9 e2
   rw [e2]at hc;exact n2.1 hc
  rw [dexp,hm,Qv9 u.2 u.1 (s.map Prod.fst) (fun c hc=>z c (.inr hc)) (p.map Prod.fst) _ (fun c hc=>z c (.inl hc)),←hm,t2]
  have hq:Vm.det vs (q::(p.map Prod.fst++s.map Prod.fst))=sg (p.map Prod.fst)*(t*u.2 q):=by
   rw [←t3 q,QgU.front _ (Qtt vs) q]
   rcases QCC (p.map Prod.fst)with h1 | h1<;>rw [h1]<;>simp
  rw [hq]
  rcases QCC (p.map Prod.fst)with h1 | h1<;>rw [h1]<;>simp only [Int.one_mul,Int.neg_mul,Int.mul_neg,Int.neg_neg]
  ·rw [Qk4 (u.2 q),Qk3 t,Qk3 (u.2 q) t];omega
  rw [Qk4 (u.2 q),Qk3 t,Qk3 (u.2 q) t];omega
theorem Qok.add {vs:List Vec}{rs:Piv}(h:Qok vs rs){v y:Vec}{q:Nat}{al be:Int}(ha:al≠0)(hb:be≠0)(hs:Qap (rs.map Prod.snd) fun j=>al*v j-be*y j)(hz:∀u∈rs,y u.1=0)(hq:y q≠0)(hp:QnT y)
  (up:Nat×Vec→Vec) (hu:∀u∈rs,QnT (up u)∧up u q=0∧∃g b c:Int,g≠0∧b≠0∧∀j,g*up u j=b*u.2 j-c*y j):Qok (v::vs) ((q,y)::rs.map fun u=>(u.1,up u)):=by
 have hf:(rs.map fun u=>(u.1,up u)).map Prod.fst=rs.map Prod.fst:=by simp
 have hqn:q ∉ rs.map Prod.fst:=fun hm=>by
  obtain⟨u,hu1,rfl⟩:=QG.1 hm
  exact hq (hz u hu1)
 have at_:∀u∈rs,∀w∈rs,w.1≠u.1→up u w.1=0:=fun u hu1 w hw hne=>by
  obtain⟨_,_,g,b,c,hg,hb,he⟩:=hu u hu1
  have:=he w.1
  rw [h.red.zr u hu1 w hw hne,hz w hw]at this
  rw [Qhj,Qhj,Int.sub_zero]at this
  exact(QhT.1 this).resolve_left hg
 have own:∀u∈rs,up u u.1≠0:=fun u hu1 e=>by
  obtain⟨_,_,g,b,c,hg,hb,he⟩:=hu u hu1
  have:=he u.1
  rw [hz u hu1,e]at this
  rw [Qhj,Qhj,Int.sub_zero]at this
  rcases QhT.1 this.symm with h1 | h1
  ·exact hb h1
  exact h.red.ne u hu1 h1
 have red:Red ((q,y)::rs.map fun u=>(u.1,up u)):=by
  refine⟨?_,?_,?_⟩
  ·rw [QaW,hf,Qds];exact⟨hqn,h.red.nd⟩
  ·intro u hm
   rcases Qab.1 hm with rfl | hm
   ·exact hq
   obtain⟨w,hw,rfl⟩:=QG.1 hm
   exact own w hw
  intro u hm w hm2 hne
  rcases Qab.1 hm with rfl | hm
  ·rcases Qab.1 hm2 with rfl | hm2
   ·exact absurd rfl hne
   obtain⟨x,hx,rfl⟩:=QG.1 hm2
   exact hz x hx
  obtain⟨x,hx,rfl⟩:=QG.1 hm
  rcases Qab.1 hm2 with rfl | hm2
  ·exact(hu x hx).2.1
  obtain⟨z,hz2,rfl⟩:=QG.1 hm2
  exact at_ x hx z hz2 hne
 have my:Qac (((q,y)::rs.map fun u=>(u.1,up u)).map Prod.snd) y:=.of (.mem _ (by simp))
 have old:∀r∈rs.map Prod.snd,Qac (((q,y)::rs.map fun u=>(u.1,up u)).map Prod.snd) r:=fun r hr=>by
  obtain⟨u,hu1,rfl⟩:=QG.1 hr
  obtain⟨_,_,g,b,c,hg,hb,he⟩:=hu u hu1
  refine Qac.div hb ?_
  have mu:Qac (((q,y)::rs.map fun u=>(u.1,up u)).map Prod.snd) (up u):=.of (.mem _ (by
   rw [QaW,Qey]
   exact Qah _ (QG.2 ⟨u,hu1,rfl⟩)))
  have:=Qac.lin g c mu my
  have e:(fun j=>b*u.2 j)=fun j=>g*up u j+c*y j:=by
   funext j;rw [he j];omega
  rw [e];exact this
 refine⟨red,?_,?_,?_,by simp [h.len]⟩
 ·intro u hm
  rcases Qab.1 hm with rfl | hm
  ·exact hp
  obtain⟨w,hw,rfl⟩:=QG.1 hm
  exact(hu w hw).1
 ·intro w hw
  rcases Qab.1 hw with rfl | hw
  ·refine Qac.div ha ?_
   have:=Qac.lin 1 be (Qac.trans hs old) my
   have e:(fun j=>al*w j)=fun j=>1*(al*w j-be*y j)+be*y j:=by funext j;omega
   rw [e];exact this
  exact(h.spn w hw).transQ old
 rw [QaW,hf]
 show dexp (Vm.det vs) v (q::rs.map Prod.fst)≠0
 have h1:=h.nil q hs
 have e:(fun j=>al*v j-be*y j)=fun j=>al*v j+(-be)*y j:=by funext j;rw [Int.neg_mul];rfl
 rw [e,QwL]at h1
 have h2:dexp (Vm.det vs) y (q::rs.map Prod.fst)=y q*Vm.det vs (rs.map Prod.fst):=by
  rw [dexp,QrG y (rs.map Prod.fst) _ fun c hc=>by
   obtain⟨u,hu1,rfl⟩:=QG.1 hc
   exact hz u hu1]
  omega
 rw [h2]at h1
 intro h3
 rw [h3,Qhj,Int.zero_add,Int.neg_mul]at h1
 rcases QhT.1 (Int.neg_eq_zero.1 h1)with h1 | h1
 ·exact hb h1
 rcases QhT.1 h1 with h1 | h1
 ·exact hq h1
 exact h.det h1
theorem Qok.mid {m B:Nat}{vs:List Vec}{rs:Piv}(h:Qok vs rs)(hB:fac vs.length*m ^ vs.length≤B)(hv:∀v∈vs,∀j,(v j).natAbs≤m){v w:Vec}(hm:∀j,(v j).natAbs≤m){al be:Int}(ha:al≠0)(hb:be≠0){S:Piv}(hS:∀u∈S,u∈rs)(hn:(S.map Prod.fst).Nodup)
  (hs:Qap (S.map Prod.snd) fun j=>al*v j-be*w j) (hz:∀u∈S,w u.1=0) (hp:QnT w) (j:Nat):(w j).natAbs≤(S.length+1)*(m*B):=by
 have rS:Red S:=⟨hn,fun u hu=>h.red.ne u (hS u hu),fun u hu x hx=>h.red.zr u (hS u hu) x (hS x hx)⟩
 obtain⟨c,hc⟩:=hs.comb hn
 have hci:∀u∈S,al*v u.1=c u.1*u.2 u.1:=fun u hu=>by
  have:=hc u.1
  rw [QAU rS c hu,hz u hu]at this
  omega
 have key:∀T:Piv,(∀u∈T,u∈S)→∃W:Vec,∀j,Vm.det vs (rs.map Prod.fst)*comb c T j=al*W j∧(W j).natAbs≤T.length*(m*B):=by
  intro T
  induction T with
  | nil=>intro _;exact⟨fun _=>0,fun j=>⟨by simp [comb],by simp⟩⟩
  | cons u T ih=>
   intro hT
   obtain⟨W,hW⟩:=ih fun x hx=>hT x (Qah _ hx)
   have hu:=hT u Q9
   obtain⟨p,s,e⟩:=Qvc (hS u hu)
   obtain⟨t,t1,t2,t3⟩:=h.cram e
   refine⟨fun j=>v u.1*(t*u.2 j)+W j,fun j=>⟨?_,?_⟩⟩
   ·have e1:comb c (u::T) j=c u.1*u.2 j+comb c T j:=by simp [comb]
    rw [e1,Qol,Qol,(hW j).1]
    congr 1
    rw [t2]
    have:=hci u hu
    have e2:u.2 u.1*t*(c u.1*u.2 j)=c u.1*u.2 u.1*(t*u.2 j):=by
     simp [QfP,Qk3,Qk4]
    rw [e2,←this,QfP]
   have h1:(t*u.2 j).natAbs≤B:=by
    rw [←t3 j]
    exact Qaa (QsE vs _ hv (by rw [h.len,e];simp)) hB
   have h2:(v u.1*(t*u.2 j)).natAbs≤m*B:=by rw [QfQ];exact Ql3 (hm _) h1
   have h3:=(hW j).2
   have:=Int.natAbs_add_le (v u.1*(t*u.2 j)) (W j)
   rw [Qex,QcH,Nat.one_mul]
   show(v u.1*(t*u.2 j)+W j).natAbs≤_
   omega
 obtain⟨W,hW⟩:=key S fun u hu=>hu
 have hD:(Vm.det vs (rs.map Prod.fst)).natAbs≤B:=Qaa (QsE vs _ hv (by rw [h.len];simp)) hB
 obtain⟨t,t1,_,t3⟩:=hp.fits (x:=Vm.det vs (rs.map Prod.fst)*be) (y:=al) (R:=fun j=>Vm.det vs (rs.map Prod.fst)*v j-W j) (Int.mul_ne_zero h.det hb) ha (fun j=>by
  have h1:=(hW j).1
  rw [←hc j,Int.mul_sub]at h1
  rw [Int.mul_sub,←h1]
  have e1:Vm.det vs (rs.map Prod.fst)*(al*v j)=al*(Vm.det vs (rs.map Prod.fst)*v j):=Qk4 _ _ _
  have e2:Vm.det vs (rs.map Prod.fst)*(be*w j)=Vm.det vs (rs.map Prod.fst)*be*w j:=(QfP _ _ _).symm
  omega)
 refine Qaa (Qo3 t1) ?_
 rw [←t3 j]
 have h1:(Vm.det vs (rs.map Prod.fst)*v j).natAbs≤m*B:=by
  rw [QfQ,Ql2 m B];exact Ql3 hD (hm j)
 have h2:=(hW j).2
 have:=Int.natAbs_sub_le (Vm.det vs (rs.map Prod.fst)*v j) (W j)
 rw [QcH,Nat.one_mul]
 omega
theorem Qac.keep {rs:Piv}{y:Vec}{q:Nat}{up:Nat×Vec→Vec}(hu:∀u∈rs,∃g b c:Int,b≠0∧∀j,g*up u j=b*u.2 j-c*y j){x:Vec}(hx:Qac (rs.map Prod.snd) x):Qac (((q,y)::rs.map fun u=>(u.1,up u)).map Prod.snd) x:=
 hx.transQ fun r hr=>by
  obtain⟨u,hu1,rfl⟩:=QG.1 hr
  obtain⟨g,b,c,hb,he⟩:=hu u hu1
  refine Qac.div hb ?_
  have my:Qac (((q,y)::rs.map fun u=>(u.1,up u)).map Prod.snd) y:=.of (.mem _ (by simp))
  have mu:Qac (((q,y)::rs.map fun u=>(u.1,up u)).map Prod.snd) (up u):=.of (.mem _ (by
   rw [QaW,Qey]
   exact Qah _ (QG.2 ⟨u,hu1,rfl⟩)))
  have:=Qac.lin g c mu my
  have e:(fun j=>b*u.2 j)=fun j=>g*up u j+c*y j:=by
   funext j;rw [he j];omega
  rw [e];exact this
theorem Qac.sub {vs ws:List Vec}(h:∀v∈vs,v∈ws){x:Vec}(hx:Qac vs x):Qac ws x:=hx.transQ fun v hv=>.of (.mem v (h v hv))
end Go.Vm
noncomputable section
namespace Go.Proofs
open Go Go.RowKit Go.Vm
def Sm (n:Int):Prop:=n.natAbs≤9223372036854775807
theorem Sm.w {n:Int}(h:Sm n):w64 n=n:=Q3 (by unfold Sm at h;omega)
theorem QDO : ∀(n:Nat) (a b:Int),b.natAbs=n→Sm a→Sm b→∃g,QD (fun st=>Qie st.1 st.2) (a,b)=some g∧g.natAbs=Nat.gcd a.natAbs b.natAbs:=by
 intro n
 induction n using Nat.strongRecOn with
 | ind n ih=>
  intro a b hb sa sb
  rw [QcC]
  show ∃g,(Qie a b).bind _=some g∧_
  unfold Qie
  by_cases h0:b=0
  ·subst h0
   rw [show((0:Int) != 0)=false from rfl]
   exact⟨a,rfl,by simp⟩
  have e:(b != 0)=true:=by simpa using h0
  rw [e,cond_true,Qkn rfl,Qi]
  have hm:(Int.tmod a b).natAbs=a.natAbs % b.natAbs:=Int.natAbs_tmod a b
  have hlt:a.natAbs % b.natAbs<b.natAbs:=Nat.mod_lt _ (QqW.2 h0)
  obtain⟨g,h1,h2⟩:=ih (Int.tmod a b).natAbs (by omega) b (Int.tmod a b) rfl sb (by unfold Sm at *;omega)
  refine⟨g,h1,?_⟩
  rw [h2,hm,Nat.gcd_comm,←Nat.gcd_rec,Nat.gcd_comm]
theorem QAe {a b:Int}(ha:Sm a)(hb:Sm b):Qju a b=some (Nat.gcd a.natAbs b.natAbs:Int):=by
 unfold Qju
 obtain⟨g,h1,h2⟩:=QDO _ a b rfl ha hb
 rw [h1,Qi]
 unfold Qn5
 have hg:g.natAbs≤9223372036854775807:=by
  rw [h2]
  rcases Nat.eq_zero_or_pos b.natAbs with h0 | h0
  ·rw [h0,Nat.gcd_zero_right];exact ha
  exact Qaa (Nat.le_of_dvd h0 (Nat.gcd_dvd_right _ _)) hb
 rw [Q3 (by omega)]
 congr 1
 unfold max2
 split<;>omega
def QcG (row:List Int):Nat:=row.foldl (fun d x=>Nat.gcd d x.natAbs) 0
theorem Qtu (row:List Int):∀x∈row,QcG row ∣ x.natAbs:=by
 have key:∀(row:List Int) (d:Nat),(row.foldl (fun d x=>Nat.gcd d x.natAbs) d ∣ d)∧∀x∈row,row.foldl (fun d x=>Nat.gcd d x.natAbs) d ∣ x.natAbs:=by
  intro row
  induction row with
  | nil=>intro d;exact⟨Nat.dvd_refl _,fun x h=>by cases h⟩
  | cons y row ih=>
   intro d
   obtain⟨h1,h2⟩:=ih (Nat.gcd d y.natAbs)
   refine⟨Nat.dvd_trans h1 (Nat.gcd_dvd_left _ _),fun x hx=>?_⟩
   rcases Qab.1 hx with rfl | hx
   ·exact Nat.dvd_trans h1 (Nat.gcd_dvd_right _ _)
   exact h2 x hx
 exact(key row 0).2
theorem QAf {row:List Int}{k:Nat}(h:∀x∈row,k ∣ x.natAbs):k ∣ QcG row:=by
 have key:∀(row:List Int) (d:Nat),k ∣ d→(∀x∈row,k ∣ x.natAbs)→k ∣ row.foldl (fun d x=>Nat.gcd d x.natAbs) d:=by
  intro row
  induction row with
  | nil=>intro d hd _;exact hd
  | cons y row ih=>intro d hd h;exact ih _ (Nat.dvd_gcd hd (h y Q9)) fun x hx=>h x (Qah _ hx)
 exact key row 0 (Nat.dvd_zero _) h
def QgV (row:List Int):List Int:=if QcG row=0 then row else row.map fun x=>Int.tdiv x (QcG row)
def QD1 (row:List Int):Prop:=∀x∈row,Sm x
theorem QCD {row:List Int}{i:Nat}{x:Int}(h:row[i]? = some x):QcG (row.take (i+1))=Nat.gcd (QcG (row.take i)) x.natAbs:=by
 rw [QdQ,h];simp [QcG]
theorem QEr {row:List Int}(h:QD1 row):QcG row≤9223372036854775807:=by
 by_cases h0:∃x∈row,x≠0
 ·obtain⟨x,hx,hne⟩:=h0
  exact Qaa (Nat.le_of_dvd (QqW.2 hne) (Qtu row x hx)) (h x hx)
 have:0 ∣ QcG row:=QAf fun x hx=>by
  have:x=0:=by
   cases Decidable.em (x=0)with
   | inl e=>exact e
   | inr e=>exact absurd ⟨x,hx,e⟩ h0
  rw [this];exact Nat.dvd_refl 0
 rw [Nat.eq_zero_of_zero_dvd this];omega
theorem QxM {row:List Int}(h:QD1 row)(hl:row.length≤4000000):Qfq row=some (QgV row):=by
 unfold Qfq
 have mx:(4000000:Nat)≤maxLen:=by decide
 have h1:=Qjx (body:=fun st:Int×Int=>QcW row st.1 st.2) row.length (fun i s=>s=((i:Int),(QcG (row.take i):Int))) (fun r=>r=(QcG row:Int)) (fun i s hi hs=>by
  subst hs
  left
  have hx:row[i]? = some row[i]:=QF hi
  show ∃s',QcW row (i:Int) (QcG (row.take i):Int)=_∧_
  unfold QcW
  have hs2:Sm (QcG (row.take i):Int):=by
   have:=QEr (row:=row.take i) fun x hx=>h x (QgW hx)
   unfold Sm;omega
  rw [QaS (show(i:Int)<(row.length:Int) by omega),cond_true,QO,hx,Qi,QAe hs2 (h _ (QaV hi)),Qi]
  refine⟨_,rfl,?_⟩
  rw [Qw hi (by omega),QCD hx];simp) (fun s hs=>by
  subst hs
  refine⟨_,?_,rfl⟩
  show QcW row (row.length:Int) (QcG (row.take row.length):Int)=_
  unfold QcW
  rw [Qbs (by omega),Qk9];rfl) (0,0) (by simp [QcG])
 obtain⟨r,hr,rfl⟩:=h1
 rw [hr,Qi]
 unfold QkI QgV
 by_cases h0:QcG row=0
 ·rw [h0,if_pos rfl];rfl
 have e:((QcG row:Int)==0)=false:=by simpa using h0
 rw [e,cond_false,if_neg h0]
 unfold QhF
 rw [Qkn (by simp;omega),Qi]
 have h2:=Qjx (body:=fun st:Int×List Int=>Qba row (QcG row:Int) st.1 st.2) row.length (fun i s=>s=((i:Int),(row.take i).map (fun x=>Int.tdiv x (QcG row))++List.replicate (row.length-i) 0)) (fun r=>r=row.map fun x=>Int.tdiv x (QcG row)) (fun i s hi hs=>by
  subst hs
  left
  have hx:row[i]? = some row[i]:=QF hi
  show ∃s',Qba row (QcG row:Int) (i:Int) _=_∧_
  unfold Qba QlW
  have ln:((row.take i).map fun x=>Int.tdiv x (QcG row)).length=i:=by simp;omega
  have hr2:List.replicate (row.length-i) (0:Int)=0::List.replicate (row.length-(i+1)) 0:=by
   rw [show row.length-i=(row.length-(i+1))+1 by omega];rfl
  have ne:((QcG row:Int) != 0)=true:=by simpa using h0
  rw [QaS (show(i:Int)<(row.length:Int) by omega),cond_true,QO,hx,Qi,Qkn ne,Qi,Qi,QO,hr2,Qcd (by omega),ln,Nat.sub_self]
  refine⟨_,rfl,?_⟩
  have sm:Sm (Int.tdiv row[i] (QcG row)):=by
   have:=h _ (QaV hi)
   unfold Sm at *
   rw [Int.natAbs_tdiv]
   exact Qaa (Nat.div_le_self _ _) this
  rw [Qw hi (by omega),sm.w,QdQ,hx]
  rw [Prod.mk.injEq]
  refine⟨rfl,?_⟩
  rw [Qcs,List.set_append_right _ _ (by omega),ln,Nat.sub_self,List.map_append,Qhk]
  rfl) (fun s hs=>by
  subst hs
  refine⟨_,?_,rfl⟩
  show Qba row (QcG row:Int) (row.length:Int) _=_
  unfold Qba
  rw [Qbs (by omega)];simp) (0,List.replicate ((row.length:Int)).toNat 0) (by simp)
 obtain⟨r,hr,rfl⟩:=h2
 rw [hr];rfl
end Go.Proofs
noncomputable section
namespace Go.Proofs
open Go Go.RowKit Go.Vm
def vec (row:List Int):Vec:=fun j=>row.getD j 0
theorem Qcr {row:List Int}{j:Nat}(h:j<row.length):vec row j=row[j]:=by
 unfold vec;rw [Qfl,QF h];rfl
theorem Qdl {row:List Int}{j:Nat}(h:row.length≤j):vec row j=0:=by
 unfold vec;rw [Qfl,Qve h];rfl
theorem QcQ {row:List Int}{j:Nat}(h:j<row.length):row[j]? = some (vec row j):=by rw [Qcr h];exact QF h
theorem Qyr {a b:List Int}(hl:a.length=b.length)(h:∀j,vec a j=vec b j):a=b:=by
 refine List.ext_getElem hl fun j h1 h2=>?_
 rw [←Qcr h1,←Qcr h2,h j]
theorem QAg (row:List Int):(QgV row).length=row.length:=by unfold QgV;split<;>simp
theorem QwM (row:List Int):∃c:Nat,0<c∧∀j,vec row j=(c:Int)*vec (QgV row) j:=by
 unfold QgV
 by_cases h:QcG row=0
 ·rw [if_pos h];exact⟨1,by omega,fun j=>by simp⟩
 rw [if_neg h]
 refine⟨QcG row,QpP h,fun j=>?_⟩
 by_cases hj:j<row.length
 ·rw [Qcr hj,Qcr (by simpa using hj),List.getElem_map]
  have:(QcG row:Int) ∣ row[j]:=Int.natAbs_dvd_natAbs.1 (Qtu row _ (QaV hj))
  exact(Int.mul_tdiv_cancel' this).symm
 rw [Qdl (by omega),Qdl (by simpa using hj)];simp
theorem Qvw (row:List Int)(j:Nat):(vec (QgV row) j).natAbs≤(vec row j).natAbs:=by
 obtain⟨c,hc,h⟩:=QwM row
 rw [h j]
 exact Qo3 (by omega)
theorem QyP {row:List Int}(h:∃j,vec row j≠0):QnT (vec (QgV row)):=by
 intro d hd
 have hg:QcG row≠0:=fun e=>by
  obtain⟨j,hj⟩:=h
  by_cases hlt:j<row.length
  ·rw [Qcr hlt]at hj
   have:=Qtu row _ (QaV hlt)
   rw [e]at this
   exact hj (Int.natAbs_eq_zero.1 (Nat.eq_zero_of_zero_dvd this))
  exact hj (Qdl (by omega))
 have h1:∀x∈row,QcG row*d ∣ x.natAbs:=fun x hx=>by
  obtain⟨j,hj,rfl⟩:=Qk7.1 hx
  have h2:=hd j
  have e:vec (QgV row) j=Int.tdiv row[j] (QcG row):=by
   unfold QgV
   rw [if_neg hg,Qcr (by simpa using hj),List.getElem_map]
  rw [e,Int.natAbs_tdiv]at h2
  have h3:(Int.natAbs (QcG row:Int))=QcG row:=rfl
  rw [h3]at h2
  obtain⟨k,hk⟩:=h2
  obtain⟨l,hl⟩:=Qtu row _ (QaV hj)
  refine⟨k,?_⟩
  have hk:QcG row*l / QcG row=d*k:=by rw [←hl];exact hk
  rw [Qr6 _ (QpP hg)]at hk
  rw [hl,hk,QoC]
 obtain⟨k,hk⟩:=QAf h1
 have h2:QcG row*1=QcG row*(d*k):=by rw [Nat.mul_one,←QoC];exact hk
 have h3:=Nat.eq_of_mul_eq_mul_left (QpP hg) h2
 exact Nat.eq_one_of_mul_eq_one_right h3.symm
def Qk2 (n:Nat)(row by_:List Int)(k:Nat):List Int:=(List.range n).map fun j=>vec row j*vec by_ k-vec by_ j*vec row k
def QbT (n:Nat)(row by_:List Int)(k:Nat):List Int:=if vec row k=0 then row else QgV (Qk2 n row by_ k)
theorem QmX (n:Nat)(row by_:List Int)(k:Nat):(Qk2 n row by_ k).length=n:=by simp [Qk2]
theorem QAh {n:Nat}{row by_:List Int}{k:Nat}(h:row.length=n):(QbT n row by_ k).length=n:=by
 unfold QbT;split
 ·exact h
 rw [QAg,QmX]
theorem Qtv {n:Nat}{row by_:List Int}{k:Nat}(hr:row.length=n)(hb:by_.length=n)(j:Nat):vec (Qk2 n row by_ k) j=vec row j*vec by_ k-vec by_ j*vec row k:=by
 by_cases hj:j<n
 ·rw [Qcr (by rw [QmX];exact hj)];simp [Qk2]
 rw [Qdl (by rw [QmX];omega),Qdl (row:=row) (j:=j) (by omega),Qdl (row:=by_) (j:=j) (by omega)];simp
theorem QAi {n k:Nat}{row by_:List Int}(hr:row.length=n)(hb:by_.length=n)(hk:k<n)(hn:n≤4000000)
  (h1:∀j,(vec row j*vec by_ k).natAbs≤4611686018427387903) (h2:∀j,(vec by_ j*vec row k).natAbs≤4611686018427387903):Qat (n:Int) row by_ (k:Int)=some (QbT n row by_ k):=by
 have mx:(4000000:Nat)≤maxLen:=by decide
 unfold Qat QbT
 rw [QO,QcQ (by omega),Qi]
 by_cases h0:vec row k=0
 ·rw [h0,if_pos rfl];rfl
 have e:(vec row k==0)=false:=by simpa using h0
 rw [e,cond_false,if_neg h0,Qkn (by simp;omega),Qi]
 have h:=Qjx (body:=fun st:Int×List Int=>Qby (n:Int) row by_ (k:Int) st.1 st.2) n (fun i s=>s=((i:Int),(Qk2 n row by_ k).take i++List.replicate (n-i) 0)) (fun r=>r=Qk2 n row by_ k) (fun i s hi hs=>by
  subst hs
  left
  show ∃s',Qby (n:Int) row by_ (k:Int) (i:Int) _=_∧_
  unfold Qby
  have ln:((Qk2 n row by_ k).take i).length=i:=by rw [QeY,QmX];omega
  have hr2:List.replicate (n-i) (0:Int)=0::List.replicate (n-(i+1)) 0:=by
   rw [show n-i=(n-(i+1))+1 by omega];rfl
  rw [QaS (show(i:Int)<((List.replicate (n:Int).toNat (0:Int)).length:Int) by simp;omega),cond_true,QO,QcQ (row:=row) (by omega),Qi,QO,QcQ (row:=by_) (by omega),Qi,QO,QcQ (row:=by_) (by omega),Qi,QO,QcQ (row:=row) (by omega),Qi,QO,hr2,Qcd (by omega),ln,Nat.sub_self]
  refine⟨_,rfl,?_⟩
  have b1:=h1 i
  have b2:=h2 i
  have e1:w64 (vec row i*vec by_ k)=vec row i*vec by_ k:=Q3 (by omega)
  have e2:w64 (vec by_ i*vec row k)=vec by_ i*vec row k:=Q3 (by omega)
  have e3:w64 (vec row i*vec by_ k-vec by_ i*vec row k)=vec (Qk2 n row by_ k) i:=by rw [Qtv hr hb,Q3 (by omega)]
  have tk:(Qk2 n row by_ k).take (i+1)=(Qk2 n row by_ k).take i++[vec (Qk2 n row by_ k) i]:=by
   rw [QdQ,QcQ (by rw [QmX];exact hi)];rfl
  rw [Qw hi (by omega),e1,e2,e3,Qcs,List.set_append_right _ _ (by omega),ln,Nat.sub_self,tk,Qhk]
  rfl) (fun s hs=>by
  subst hs
  refine⟨_,?_,rfl⟩
  show Qby (n:Int) row by_ (k:Int) (n:Int) _=_
  unfold Qby
  rw [Qbs (by simp),QeZ (by rw [QmX];omega)];simp) (0,List.replicate (n:Int).toNat 0) (by simp)
 obtain⟨r,hr',rfl⟩:=h
 rw [hr',Qi]
 unfold Qg9
 rw [QxM (fun x hx=>by
  obtain⟨j,hj,rfl⟩:=Qk7.1 hx
  have:=Qtv (k:=k) hr hb j
  rw [Qcr hj]at this
  rw [this]
  have b1:=h1 j
  have b2:=h2 j
  unfold Sm;omega) (by rw [QmX];exact hn)]
 rfl
theorem QAV {n k:Nat}{row by_:List Int}(hr:row.length=n)(hb:by_.length=n)(h0:vec row k≠0):∃c:Nat,0<c∧∀j,(c:Int)*vec (QbT n row by_ k) j=vec by_ k*vec row j-vec row k*vec by_ j:=by
 unfold QbT
 rw [if_neg h0]
 obtain⟨c,hc,h⟩:=QwM (Qk2 n row by_ k)
 refine⟨c,hc,fun j=>?_⟩
 rw [←h j,Qtv hr hb,Qk3 (vec row j),Qk3 (vec by_ j)]
theorem QFl {n k:Nat}{row by_:List Int}(hr:row.length=n)(hb:by_.length=n)(j:Nat)(h0:vec row k≠0):(vec (QbT n row by_ k) j).natAbs≤(vec row j*vec by_ k-vec by_ j*vec row k).natAbs:=by
 unfold QbT
 rw [if_neg h0,←Qtv hr hb]
 exact Qvw _ j
theorem QAj {n k:Nat}{row by_:List Int}(h:QnT (vec row)∨∀j,vec row j=0):QnT (vec (QbT n row by_ k))∨∀j,vec (QbT n row by_ k) j=0:=by
 unfold QbT
 split
 ·exact h
 by_cases hz:∃j,vec (Qk2 n row by_ k) j≠0
 ·exact .inl (QyP hz)
 right;intro j
 have h1:vec (Qk2 n row by_ k) j=0:=by
  cases Decidable.em (vec (Qk2 n row by_ k) j=0)with
  | inl e=>exact e
  | inr e=>exact absurd ⟨j,e⟩ hz
 have h2:=Qvw (Qk2 n row by_ k) j
 rw [h1]at h2
 exact Int.natAbs_eq_zero.1 (by simpa using h2)
end Go.Proofs
