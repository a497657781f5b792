/- A part of the proof; what it holds is told at each theorem. -/
import Derived.Test.YtbfgchciebcbpaaGreatDoorH2P1
import Derived.Test.YtbfgchciebcbpaaGreatDoorH2T3
import Derived.KernelRfl
import Derived.Test.YtbfgchciebcbpaaGreatDoorH2P1
import Derived.Test.YtbfgchciebcbpaaGreatDoorH2P1
import Derived.Test.YtbfgchciebcbpaaGreatDoorH2P1
import Derived.Test.YtbfgchciebcbpaaGreatDoorH2XPlA
set_option linter.unusedVariables false
set_option linter.unusedSimpArgs false
set_option linter.unusedSectionVars false
set_option linter.deprecated false
noncomputable section
namespace Go.Proofs
open Go Go.RowKit Go.Vm
theorem QCv {σ ρ:Type}{body:σ→Option (σ⊕ρ)}(mu:σ→Nat)(J:σ→Prop){Q:ρ→Prop}{s0:σ}(hJ:J s0)
  (step:∀s,J s→Qf (body s) fun o=>(∀s',o=.inl s'→mu s'<mu s∧J s')∧∀r,o=.inr r→Q r):Qf (QE body s0) Q:=by
 have key:∀k s,mu s≤k→J s→Qf (QE body s) Q:=by
  intro k
  induction k with
  | zero=>
   intro s hk hj
   obtain⟨o,ho,h1,h2⟩:=step s hj
   cases o with
   | inl s'=>have:=(h1 s' rfl).1;omega
   | inr r=>exact⟨r,by rw [Qcx,ho];rfl,h2 r rfl⟩
  | succ k ih=>
   intro s hk hj
   obtain⟨o,ho,h1,h2⟩:=step s hj
   cases o with
   | inl s'=>
    obtain⟨h3,h4⟩:=h1 s' rfl
    obtain⟨r,h5,h6⟩:=ih s' (by omega) h4
    exact⟨r,by rw [Qcx,ho];exact h5,h6⟩
   | inr r=>exact⟨r,by rw [Qcx,ho];rfl,h2 r rfl⟩
 exact key _ s0 (QbY _) hJ
def QjF : List Int→Nat
 | []=>0
 | d::r=>d.toNat*1025 ^ r.length+QjF r
theorem QAV {l:List Int}(h:∀d∈l,0≤d∧d≤1024):QjF l<1025 ^ l.length:=by
 induction l with
 | nil=>simp [QjF]
 | cons d l ih=>
  have h1:=ih fun x hx=>h x (Qab _ hx)
  have h2:=h d Q5
  simp only [QjF,QeU,Nat.pow_succ]
  have h3:d.toNat*1025 ^ l.length≤1024*1025 ^ l.length:=Qb3 _ (by omega)
  omega
theorem Qz3 (a b:List Int):QjF (a++b)=QjF a*1025 ^ b.length+QjF b:=by
 induction a with
 | nil=>simp [QjF]
 | cons d a ih=>
  simp only [Qoj,QjF,ih,QfJ,Nat.pow_add,QcC,Qox]
  omega
theorem Qz4 {l:List Int}{k:Nat}(hk:k<l.length)(Z:List Int)(x:Int):(l.take (k+1)++Z).set k x=l.take k++x::Z:=by
 have e:l.take (k+1)=l.take k++[l[k]]:=by rw [Qdp,QD hk];rfl
 rw [e,QhT,List.set_append,if_neg (by simp;omega)]
 have:k-(l.take k).length=0:=by simp;omega
 rw [this];rfl
theorem QEU (t:QA)(n:Qk)(l:List Int)(h:QU n)(hl:l.length=t.Vars.length)(hv:t.Vars.length≤16)(hd:∀d∈l,0≤d∧d≤1024):
  Qf (QE (fun st=>Qd9 t n st.1 st.2) ((w64 ((l.length:Int)-1)),l)) fun q=>-1≤q.1∧q.1<l.length∧q.2=l.take (q.1+1).toNat++List.replicate (l.length-(q.1+1).toNat) 0∧∀d,0≤q.1→l[q.1.toNat]? = some d→d<1024:=by
 have hw:w64 ((l.length:Int)-1)=(l.length:Int)-1:=Q6 (by omega)
 refine Qf.up l.length (fun st=>(l.length:Int)-1-st.1) (fun st=>st.2=l.take (st.1+1).toNat++List.replicate (l.length-(st.1+1).toNat) 0) (by rw [hw];omega) (by
  rw [hw]
  show l=_
  rw [show((l.length:Int)-1+1).toNat=l.length by omega,Qk3,Nat.sub_self];simp) (fun i st hi hn hJ=>?_)
 obtain⟨a,d⟩:=st
 replace hi:(l.length:Int)-1-a=i:=hi
 replace hJ:d=l.take (a+1).toNat++List.replicate (l.length-(a+1).toNat) 0:=hJ
 have hdl:d.length=l.length:=by rw [hJ];simp;omega
 show Qf (Qd9 t n a d) _
 unfold Qd9
 refine T0 (P:=fun x=>(x=true→0≤a)∧(x=false→∀e,0≤a→l[a.toNat]? = some e→e<1024)) ?_ fun x hx=>?_
 ·unfold QnC
  refine T1 (fun hc=>?_) fun hc=>T2 ⟨fun h=>(by cases h),fun _ e he=>?_⟩
  ·simp only [Qx]at hc
   have hlt:a.toNat<l.length:=by omega
   have ed:idx d a=some l[a.toNat]:=by
    rw [Qm3 hc,hJ,QbR (by simp;omega),Qcn,if_pos (by omega),QD hlt]
   rw [ed,Qi]
   refine T0 (T4 (by omega) (by omega)) fun v _=>?_
   refine T0 (Qkj _ _ h.1) fun z hz=>?_
   have h2:=hd _ (QaQ hlt)
   refine T2 ⟨fun _=>hc,fun hf e _ he=>?_⟩
   rw [QD hlt]at he
   cases he
   rw [Q6 (by omega)]at hf
   simp only [QY]at hf
   omega
  simp only [QY]at hc;omega
 unfold QfU
 refine T1 (fun hc=>?_) fun hc=>?_
 ·have ha:=hx.1 hc
  refine T0 (T4 ha (by omega)) fun _ _=>?_
  have hw2:w64 (a-1)=a-1:=Q6 (by omega)
  refine T2 (Qy ⟨by omega,?_,?_⟩)
  ·show(l.length:Int)-1-w64 (a-1)=_
   rw [hw2];omega
  show d.set a.toNat 0=l.take (w64 (a-1)+1).toNat++List.replicate (l.length-(w64 (a-1)+1).toNat) 0
  rw [hw2,hJ,show(a+1).toNat=a.toNat+1 by omega,Qz4 (by omega),show(a-1+1).toNat=a.toNat by omega]
  rw [show l.length-a.toNat=(l.length-(a.toNat+1))+1 by omega,List.replicate_succ]
 exact T2 (Qn ⟨by omega,by omega,hJ,hx.2 hc⟩)
def Qkk (n:Qk)(most:Int)(l:List Qq):Prop:=(l.length:Int)<most∧∀o∈l,QbN n o
def Qtp (n:Qk)(most:Int)(l:List Qq):Prop:=(l.length:Int)≤most∧∀o∈l,QbN n o
theorem QDw (n:Qk)(m:List (List (Int×Int)))(b:QP)(l:List (List Int))(h:Qay n)(hb:BOk n m b)(hl:QkV l):Qf (QcF l b) fun r=>r=-1∨(0≤r∧r<l.length):=by
 have hl1:=hl.1
 unfold QcF
 refine T0 (Qf.up l.length (fun st=>st) (fun _=>True) (Q:=fun q:Int⊕Unit=>∀x,q=.inl x→0≤x∧x<(l.length:Int)) rfl trivial (fun i st hi hn hJ=>?_)) (fun q hq=>?_)
 ·show Qf (Qb0 l b st) _
  unfold Qb0 Qir
  refine T1 (fun hc=>?_) (fun _=>T2 (Qn fun x h=>by cases h))
  simp only [Qx]at hc
  refine T0 (T4 (by omega) (by omega)) fun e he=>?_
  have:=hl.2 e he
  refine T0 (T0 (Qyl n m b e h hb (by omega)) fun _ _=>T3) fun _ _=>?_
  exact T1 (fun _=>T2 (Qn fun x h=>by cases h;omega)) fun _=>T2 (Qy ⟨by omega,by rw [hi];exact Qw (by omega) (by unfold maxLen;omega:l.length≤maxLen),trivial⟩)
 rcases q with q | q
 ·exact T2 (.inr (hq q rfl))
 exact T2 (.inl rfl)
theorem QDx (n:Qk)(m:List (List (Int×Int)))(b:QP)(l:List (List Int))(h:Qay n)(hb:BOk n m b)(hl:QkV l):Qf (QcG l b) QkV:=by
 have hl1:=hl.1
 unfold QcG
 refine T0 (QDw n m b l h hb hl) fun x hx=>?_
 refine T1 (fun _=>T2 hl) fun hc=>?_
 simp only [beq_eq_false_iff_ne]at hc
 have hx:0≤x∧x<l.length:=by omega
 have hw:w64 (x+1)=x+1:=Q6 (by omega)
 refine T0 (Qf.up (l.length-(x+1).toNat) (fun st=>st.2.1-(x+1)) (fun st=>0≤st.1∧st.1<st.2.1∧st.2.2.length=l.length∧∀row∈st.2.2,row.length≤16) (Q:=fun q:Int×List (List Int)=>0≤q.1∧q.1≤(l.length:Int)∧q.2.length=l.length∧∀row∈q.2,row.length≤16) (by show w64 (x+1)-(x+1)=0;omega) ⟨hx.1,by show x<w64 (x+1);omega,rfl,hl.2⟩ (fun i st hi hn hJ=>?_)) (fun q hq=>?_)
 ·obtain⟨a,j,l2⟩:=st
  replace hi:j-(x+1)=i:=hi
  obtain⟨j1,j2,j3,j4⟩:0≤a∧a<j∧l2.length=l.length∧∀row∈l2,row.length≤16:=hJ
  show Qf (Qb1 b a j l2) _
  unfold Qb1 Qir
  refine T1 (fun hc=>?_) (fun hc=>T2 (Qn ⟨j1,?_,j3,j4⟩))
  ·simp only [Qx]at hc
   refine T0 (T4 (by omega) (by omega)) fun e he=>?_
   have:=j4 e he
   refine T0 (T0 (Qyl n m b e h hb (by omega)) fun _ _=>T3) fun _ _=>?_
   have hw2:w64 (j+1)=j+1:=Q6 (by omega)
   have hw3:w64 (a+1)=a+1:=Q6 (by omega)
   refine T1 (fun _=>?_) fun _=>?_
   ·refine T0 (T4 (by omega) (by omega)) fun _ _=>?_
    refine T2 (Qy ⟨by omega,by show w64 (j+1)-(x+1)=_;omega,by show 0≤w64 (a+1);omega,by show w64 (a+1)<w64 (j+1);omega,by simpa using j3,fun row hr=>?_⟩)
    rcases Qod hr with rfl | hr
    ·exact this
    exact j4 row hr
   exact T2 (Qy ⟨by omega,by show w64 (j+1)-(x+1)=_;omega,j1,by show a<w64 (j+1);omega,j3,j4⟩)
  simp only [QY]at hc
  show a≤_
  omega
 obtain⟨q1,q2⟩:=q
 obtain⟨h1,h2,h3,h4⟩:0≤q1∧q1≤l.length∧q2.length=l.length∧∀row∈q2,row.length≤16:=hq
 show Qf (Qb2 q1 q2) _
 unfold Qb2
 refine T0 (T5 (by simp only [Qz,Qx];omega)) fun _ _=>?_
 refine T0 (T5 (by simp only [Qz,Qx,QfJ,Qfh,Qpn];omega)) fun _ _=>?_
 refine T2 ⟨by simp;omega,fun row hr=>?_⟩
 rw [QsK (by simp;omega)]at hr
 exact h4 row (QgS (QgS hr))
theorem QD9 (n:Qk)(m:List (List (Int×Int)))(task most:Int)(l5 l8:List Qq)(ins outs:List (List Int))(p:List Int)(h:Qay n)(hm:QM (QM fun _=>True) m)(hmost:most≤4294967296)
  (hi:QkV ins) (ho:QkV outs) (hp:p.length≤16) (ha:Qkk n most l8):
  Qf (Qfw n m task most l5 ins outs l8 p) fun r=>(∀a,r=.inl a→Qtp n most a)∧∀a,r=.inr a→Qkk n most a:=by
 have hil:=hi.1
 have hol:=ho.1
 unfold Qfw
 refine T0 (QAS n m task p h) fun x hx=>?_
 refine T0 (P:=fun y=>y=false→BOk n m x.2) ?_ fun y hy=>?_
 ·unfold QkL
  refine T1 (fun _=>T2 fun h=>by cases h) fun hc=>?_
  have hb:=hx (by simpa using hc)
  exact T0 (QyJ n m x.2 h hb) fun _ _=>T2 fun _=>hb
 unfold Qd8
 refine T1 (fun _=>T2 ⟨fun a h=>(by cases h),fun a h=>(by cases h;exact ha)⟩) fun hc=>?_
 have hb:=hy hc
 refine T0 (P:=QkV) (by unfold QdV;exact T0 (T5 (by simp;omega)) fun _ _=>T2 ho) fun x19 h19=>?_
 refine T0 (QDx n m x.2 x19 h hb h19) fun x20 h20=>?_
 have h20l:=h20.1
 refine T0 (Qf.up ins.length (fun st=>st.1) (fun st=>Qkk n most st.2) (Q:=fun q=>(∀a,q=.inl a→Qtp n most a)∧∀a,q=.inr a→Qkk n most a) rfl ha (fun i st hi2 hn hJ=>?_)) (fun q hq=>?_)
 ·obtain⟨j,l⟩:=st
  replace hi2:j=(i:Int):=hi2
  replace hJ:Qkk n most l:=hJ
  show Qf (Qd7 ins x x20 p task most j l) _
  unfold Qd7
  refine T1 (fun hc=>?_) (fun _=>T2 (Qn ⟨fun a h=>(by cases h),fun a h=>(by cases h;exact hJ)⟩))
  simp only [Qx]at hc
  refine T0 (T4 (by omega) (by omega)) fun e he=>?_
  have hel:=hi.2 e he
  have next:∀l,Qkk n most l→Qf (QcW j l) fun o=>(∀s',o=.inl s'→i<ins.length∧s'.1=((i+1:Nat):Int)∧Qkk n most s'.2)∧∀r:List Qq⊕List Qq,o=.inr r→(∀a,r=.inl a→Qtp n most a)∧∀a,r=.inr a→Qkk n most a:=fun l hl=>by
   unfold QcW
   exact T2 (Qy (ix:=fun st:Int×List Qq=>st.1) (J:=fun st:Int×List Qq=>Qkk n most st.2) ⟨by omega,by subst hi2;exact Qw (by omega) (by unfold maxLen;omega:ins.length≤maxLen),hl⟩)
  refine T0 (QAT n m x.2 e h hb hm (by omega)) fun z _=>?_
  refine T1 (fun _=>next l hJ) fun _=>?_
  refine T0 (Qf.up x20.length (fun st=>st.1) (fun st=>Qkk n most st.2) (Q:=fun q=>(∀a,q=.inl a→Qtp n most a)∧∀a,q=.inr a→Qkk n most a) rfl hJ (fun i2 st hi3 hn2 hJ2=>?_)) (fun q hq=>?_)
  ·obtain⟨j2,l2⟩:=st
   replace hi3:j2=(i2:Int):=hi3
   replace hJ2:Qkk n most l2:=hJ2
   have hlt:=hJ2.1
   show Qf (Qd6 x20 p e task most j2 l2) _
   unfold Qd6
   refine T1 (fun hc=>?_) (fun _=>T2 (Qn ⟨fun a h=>(by cases h),fun a h=>(by cases h;exact hJ2)⟩))
   simp only [Qx]at hc
   refine T0 (T4 (by omega) (by omega)) fun e2 he2=>?_
   have hel2:=h20.2 e2 he2
   rw [QoL p (by omega),Qi,QoL e (by omega),Qi,QoL e2 (by omega),Qi]
   refine T0 (T5 (by simp;omega)) fun _ _=>?_
   have hall:∀o∈l2++[Qq.mk task p e e2],QbN n o:=fun o ho=>by
    rcases Qco.1 ho with ho | ho
    ·exact hJ2.2 o ho
    simp at ho;subst ho;exact⟨by show p.length≤20;omega,by show e.length≤20;omega,by show e2.length≤20;omega⟩
   refine T1 (fun hc2=>T2 (Qn ⟨fun a h=>(by cases h;exact⟨by simp only [beq_iff_eq]at hc2;omega,hall⟩),fun a h=>(by cases h)⟩)) fun hc2=>?_
   simp only [beq_eq_false_iff_ne]at hc2
   exact T2 (Qy ⟨by omega,by subst hi3;exact Qw (by omega) (by unfold maxLen;omega:x20.length≤maxLen),by simp at hc2 ⊢;omega,hall⟩)
  rcases q with q | q
  ·have:=hq.1 q rfl
   exact T2 (Qn ⟨fun a h=>(by cases h;exact this),fun a h=>(by cases h)⟩)
  exact next q (hq.2 q rfl)
 rcases q with q | q
 ·have:=hq.1 q rfl
  exact T2 ⟨fun a h=>(by cases h;exact this),fun a h=>(by cases h)⟩
 have:=hq.2 q rfl
 exact T2 ⟨fun a h=>(by cases h),fun a h=>(by cases h;exact this)⟩
theorem QBD (n:Qk)(m:List (List (Int×Int)))(task most:Int)(l5:List Qq)(ins outs:List (List Int))(t:QA)(h:Qay n)(hm:QM (QM fun _=>True) m)(hmost:most≤4294967296)(h1:1≤most)
  (hi:QkV ins) (ho:QkV outs) (ht:t∈n.Tasks):Qf (Qia n m task most l5 ins outs [] t n) fun r=>∀a,r=.inl a∨r=.inr a→Qtp n most a:=by
 have hv:=(h.tk t ht).1
 unfold Qia
 refine T0 (T5 (by simp only [Qz,Qx];omega)) fun _ _=>?_
 refine T0 (QCv (fun st=>1025 ^ t.Vars.length-QjF st.1) (fun st=>st.1.length=t.Vars.length∧(∀d∈st.1,0≤d∧d≤1024)∧Qkk n most st.2) (Q:=fun q=>∀a,q=.inl a∨q=.inr a→Qtp n most a)
  ⟨by simp,fun d hd=>by have:=QqS hd;omega,by simp;omega,fun o h=>by cases h⟩ (fun st hJ=>?_)) (fun q hq=>?_)
 ·obtain⟨d,l⟩:=st
  obtain⟨j1,j2,j3⟩:d.length=t.Vars.length∧(∀d'∈d,0≤d'∧d'≤1024)∧Qkk n most l:=hJ
  show Qf (QfX n m task most l5 ins outs t n d l) _
  unfold QfX
  rw [QoL d (by omega),Qi]
  refine T0 (QD9 n m task most l5 l ins outs d h hm hmost hi ho (by omega) j3) fun r hr=>?_
  rcases r with r | r
  ·have:=hr.1 r rfl
   exact T2 ⟨fun s' e=>(by cases e),fun q e=>(by cases e;exact fun a ha=>by rcases ha with ha | ha<;>cases ha;exact this)⟩
  have hacc:=hr.2 r rfl
  show Qf (QfW t n d r) _
  unfold QfW
  refine T0 (QEU t n d h.k j1 hv j2) fun q hq=>?_
  obtain⟨a,d2⟩:=q
  obtain⟨q1,q2,q3,q4⟩:-1≤a∧a<d.length∧d2=d.take (a+1).toNat++List.replicate (d.length-(a+1).toNat) 0∧∀e,0≤a→d[a.toNat]? = some e→e<1024:=hq
  show Qf (QfV r a d2) _
  unfold QfV
  refine T1 (fun _=>T2 ⟨fun s' e=>(by cases e),fun q e=>(by cases e;exact fun a ha=>by rcases ha with ha | ha<;>cases ha;exact⟨by have:=hacc.1;omega,hacc.2⟩)⟩) fun hc=>?_
  simp only [QY]at hc
  have hlt:a.toNat<d.length:=by omega
  have ed:idx d2 a=some d[a.toNat]:=by
   rw [Qm3 (by omega),q3,QbR (by simp;omega),Qcn,if_pos (by omega),QD hlt]
  rw [ed,Qi,Qi]
  have h9:=q4 _ (by omega) (QD hlt)
  have h10:=j2 _ (QaQ hlt)
  rw [Q6 (by omega)]
  have e3:d2.set a.toNat (d[a.toNat]+1)=d.take a.toNat++(d[a.toNat]+1)::List.replicate (d.length-(a.toNat+1)) 0:=by
   rw [q3,show(a+1).toNat=a.toNat+1 by omega,Qz4 hlt]
  rw [e3]
  have hd3:∀x∈d.take a.toNat++(d[a.toNat]+1)::List.replicate (d.length-(a.toNat+1)) 0,0≤x∧x≤1024:=fun x hx=>by
   rcases Qco.1 hx with hx | hx
   ·exact j2 x (QgS hx)
   rcases Qaa.1 hx with rfl | hx
   ·omega
   have:=QqS hx;omega
  have hlen:(d.take a.toNat++(d[a.toNat]+1)::List.replicate (d.length-(a.toNat+1)) 0).length=t.Vars.length:=by simp;omega
  have hmu:1025 ^ t.Vars.length-QjF (d.take a.toNat++(d[a.toNat]+1)::List.replicate (d.length-(a.toNat+1)) 0)<1025 ^ t.Vars.length-QjF d:=by
   have u1:=QAV hd3
   rw [hlen]at u1
   have u2:QjF d<QjF (d.take a.toNat++(d[a.toNat]+1)::List.replicate (d.length-(a.toNat+1)) 0):=by
    have e5:d=d.take a.toNat++d[a.toNat]::d.drop (a.toNat+1):=by
     rw [←Qvd hlt,List.take_append_drop]
    have u3:=QAV (l:=d.drop (a.toNat+1)) fun x hx=>j2 x (Qpp hx)
    have u4:QjF d=QjF (d.take a.toNat++d[a.toNat]::d.drop (a.toNat+1)):=congrArg QjF e5
    rw [u4,Qz3,Qz3]
    simp only [QjF,QeU,Qpn,Qmr]at u3 ⊢
    have e6:(d[a.toNat]+1).toNat=(d[a.toNat]).toNat+1:=by omega
    rw [e6,QcC]
    omega
   omega
  exact T2 ⟨fun s' e=>(by cases e;exact⟨hmu,hlen,hd3,hacc⟩),fun q e=>(by cases e)⟩
 rcases q with q | q
 ·have:=hq q (.inl rfl)
  exact T2 fun a ha=>by rcases ha with ha | ha<;>cases ha;exact this
 have:=hq q (.inr rfl)
 exact T2 fun a ha=>by rcases ha with ha | ha<;>cases ha;exact this
theorem QEa (n:Qk)(m:List (List (Int×Int)))(task most:Int)(h:Qay n)(hm:QM (QM fun _=>True) m)(hmost:most≤4294967296):Qf (QkQ n m task most) fun r=>(r.length:Int)≤max2 most 0∧∀o∈r,QbN n o:=by
 unfold QkQ
 refine T1 (fun _=>T2 ⟨by simp [max2];split<;>omega,fun o h=>by cases h⟩) fun hc=>?_
 simp only [QcZ,QY]at hc
 refine T0 (T4 (by omega) (by omega)) fun e he=>?_
 refine T0 (QrA _ _) fun x hx=>?_
 refine T0 (QrA _ _) fun y hy=>?_
 refine T0 (P:=fun z=>z=(n,e)) (T2 rfl) fun z hz=>?_
 subst hz
 refine T0 (QBD n m task most [] x y e h hm hmost (by omega) hx hy he) fun r hr=>?_
 have fin:∀a,Qtp n most a→(a.length:Int)≤max2 most 0∧∀o∈a,QbN n o:=fun a ha=>⟨by have:=ha.1;unfold max2;split<;>omega,ha.2⟩
 rcases r with r | r
 ·exact T2 (fin r (hr r (.inl rfl)))
 exact T2 (fin r (hr r (.inr rfl)))
theorem QFK (n:Qk)(m:List (List (Int×Int)))(most:Int)(h:Qay n)(hm:QM (QM fun _=>True) m)(h0:0≤most)(hmost:most≤4294967296):Qf (QpA n m most) fun r=>(r.length:Int)≤most∧∀o∈r,QbN n o:=by
 unfold QpA
 refine T0 (Qf.up n.Tasks.length (fun st=>st.1) (fun st=>(st.2.length:Int)≤most∧∀o∈st.2,QbN n o) (Q:=fun q=>(q.length:Int)≤most∧∀o∈q,QbN n o) rfl ⟨by simpa using h0,fun o h=>by cases h⟩ (fun i st hi hn hJ=>?_)) (fun q hq=>T2 hq)
 obtain⟨x,l⟩:=st
 replace hi:x=(i:Int):=hi
 obtain⟨j1,j2⟩:(l.length:Int)≤most∧∀o∈l,QbN n o:=hJ
 show Qf (QmF n m most x l) _
 unfold QmF
 refine T1 (fun hc=>?_) (fun _=>T2 (Qn ⟨j1,j2⟩))
 simp only [Qx]at hc
 have hw:w64 (most-(l.length:Int))=most-(l.length:Int):=Q6 (by omega)
 rw [hw]
 refine T0 (QEa n m x _ h hm (by omega)) fun y hy=>?_
 have hy1:=hy.1
 unfold max2 at hy1
 have hy2:(y.length:Int)≤most-l.length:=by split at hy1<;>omega
 refine T0 (T5 (by simp;omega)) fun _ _=>?_
 refine T2 (Qy ⟨by omega,by subst hi;exact Qw (by omega) h.k.2.2.1.1,by simp;omega,fun o ho=>?_⟩)
 rcases Qco.1 ho with ho | ho
 ·exact j2 o ho
 exact hy.2 o ho
end Go.Proofs
noncomputable section
namespace Go.Proofs
open Go Go.RowKit Go.Vm
theorem QqD (m:List (List (Int×Int)))(h:m.length≤4294967296)(hb:∀b∈m,b.length≤4294967296):Qmj m=some m:=by
 unfold Qmj QbU
 rw [QnH (by simp;omega)]
 simp only [Qi,List.nil_append]
 obtain⟨r,h1,h2⟩:=(Qf.up (body:=fun st=>Qis m st.1 st.2) m.length (fun st=>st.1) (fun st=>st.2=m) (Q:=fun q=>q=m) (s0:=(0,m)) rfl rfl (fun i st hi hn hJ=>by
  obtain⟨x,l⟩:=st
  replace hi:x=(i:Int):=hi
  replace hJ:l=m:=hJ
  subst hJ
  show Qf (Qis l x l) _
  unfold Qis
  refine T1 (fun hc=>?_) (fun _=>T2 (Qn rfl))
  simp only [Qx]at hc
  have hlt:i<l.length:=by omega
  rw [hi,QN,QD hlt,Qi]
  unfold Qc5
  rw [QnH (by have:=hb _ (QaQ hlt);simp;omega)]
  simp only [Qi,List.nil_append]
  exact T2 (Qy ⟨hlt,Qw hlt (by unfold maxLen;omega),by simp⟩)))
 rw [h1,h2];rfl
theorem QDy (n:Qk)(a b:List (List (Int×Int)))(c d:Nat)(h:Qay n)(ha:MOk n c a)(hb:MOk n d b)(hcd:c+d≤1000000):Qf (QfE a b) fun r=>r.2=0→MOk n (c+d) r.1:=by
 have hpl:=h.pl
 have ha1:=ha.1
 have hb1:=hb.1
 have hmin:min2 (a.length:Int) (b.length:Int)=(n.Places.length:Int):=by unfold min2;split<;>omega
 unfold QfE
 rw [hmin]
 refine T0 (T5 (by simp only [Qz,Qx];omega)) fun _ _=>?_
 refine T0 (Qf.up n.Places.length (fun st=>st.1) (fun st=>st.2.length=n.Places.length∧∀b∈st.2,Rt b∧b.length≤c+d) (Q:=fun q:Int⊕List (List (Int×Int))=>(∀x,q=.inl x→x≠0)∧∀m,q=.inr m→MOk n (c+d) m) rfl ⟨by simp,fun b hb=>?_⟩ (fun i st hi hn hJ=>?_)) (fun q hq=>?_)
 ·have:=QqS hb
  subst this
  exact⟨Rt.nil,by simp⟩
 ·obtain⟨x,m⟩:=st
  replace hi:x=(i:Int):=hi
  obtain⟨hJ1,hJ2⟩:m.length=n.Places.length∧∀b∈m,Rt b∧b.length≤c+d:=hJ
  show Qf (QeR a b x m) _
  unfold QeR
  rw [hmin]
  refine T1 (fun hc=>?_) (fun hc=>T2 (Qn ⟨fun x e=>(by cases e),fun m' e=>(by cases e;exact⟨hJ1,hJ2⟩)⟩))
  simp only [Qx,Qpn]at hc
  refine T0 (T4 (by omega) (by omega)) fun u hu=>?_
  refine T0 (T4 (by omega) (by omega)) fun v hv=>?_
  have hu2:=ha.2 u hu
  have hv2:=hb.2 v hv
  have key:∃s,Qcg u v=some s∧(s.2=0→Rt s.1∧s.1.length≤c+d):=by
   rcases QoX u v (by omega)with⟨_,e⟩|⟨_,_,_,e⟩|⟨_,_,_,r,e,h1,_,h2⟩
   ·exact⟨_,e,fun h=>by cases h⟩
   ·exact⟨_,e,fun h=>by cases h⟩
   exact⟨_,e,fun _=>⟨h1,by show r.length≤_;omega⟩⟩
  obtain⟨s,es,hs⟩:=key
  rw [es,Qi]
  refine T0 (T4 (by omega) (by omega)) fun _ _=>?_
  refine T1 (fun hc5=>T2 (Qn ⟨fun x e=>(by cases e;simpa using hc5),fun m' e=>(by cases e)⟩)) fun hc5=>?_
  have hs:=hs (by simpa using hc5)
  refine T2 (Qy ⟨by omega,by subst hi;exact Qw (by omega) (by unfold maxLen;omega:n.Places.length≤maxLen),by simpa using hJ1,fun b hb'=>?_⟩)
  rcases Qod hb' with rfl | hb'
  ·exact hs
  exact hJ2 b hb'
 rcases q with q | q
 ·exact T2 fun h=>absurd h (hq.1 q rfl)
 exact T2 fun _=>hq.2 q rfl
theorem QCw (n:Qk)(a b:List (List (Int×Int)))(c d:Nat)(h:Qay n)(ha:MOk n c a)(hb:MOk n d b)(hcd:c+d≤1000000):Qf (QdA a b) fun r=>r.2=0→MOk n (c+d) r.1:=by
 have hpl:=h.pl
 have ha1:=ha.1
 have hb1:=hb.1
 have hmin:min2 (a.length:Int) (b.length:Int)=(n.Places.length:Int):=by unfold min2;split<;>omega
 unfold QdA
 rw [hmin]
 refine T0 (T5 (by simp only [Qz,Qx];omega)) fun _ _=>?_
 refine T0 (Qf.up n.Places.length (fun st=>st.1) (fun st=>st.2.length=n.Places.length∧∀b∈st.2,Rt b∧b.length≤c+d) (Q:=fun q:Int⊕List (List (Int×Int))=>(∀x,q=.inl x→x≠0)∧∀m,q=.inr m→MOk n (c+d) m) rfl ⟨by simp,fun b hb=>?_⟩ (fun i st hi hn hJ=>?_)) (fun q hq=>?_)
 ·have:=QqS hb
  subst this
  exact⟨Rt.nil,by simp⟩
 ·obtain⟨x,m⟩:=st
  replace hi:x=(i:Int):=hi
  obtain⟨hJ1,hJ2⟩:m.length=n.Places.length∧∀b∈m,Rt b∧b.length≤c+d:=hJ
  show Qf (Qde a b x m) _
  unfold Qde
  rw [hmin]
  refine T1 (fun hc=>?_) (fun hc=>T2 (Qn ⟨fun x e=>(by cases e),fun m' e=>(by cases e;exact⟨hJ1,hJ2⟩)⟩))
  simp only [Qx,Qpn]at hc
  refine T0 (T4 (by omega) (by omega)) fun u hu=>?_
  refine T0 (T4 (by omega) (by omega)) fun v hv=>?_
  have hu2:=ha.2 u hu
  have hv2:=hb.2 v hv
  have key:∃s,QbQ u v=some s∧(s.2=0→Rt s.1∧s.1.length≤c+d):=by
   rcases QkU u v (by omega)with⟨_,e⟩|⟨_,_,_,e⟩|⟨_,_,r,e,h1,_,h2⟩
   ·exact⟨_,e,fun h=>by cases h⟩
   ·exact⟨_,e,fun h=>by cases h⟩
   exact⟨_,e,fun _=>⟨h1,by show r.length≤_;omega⟩⟩
  obtain⟨s,es,hs⟩:=key
  rw [es,Qi]
  refine T0 (T4 (by omega) (by omega)) fun _ _=>?_
  refine T1 (fun hc5=>T2 (Qn ⟨fun x e=>(by cases e;simpa using hc5),fun m' e=>(by cases e)⟩)) fun hc5=>?_
  have hs:=hs (by simpa using hc5)
  refine T2 (Qy ⟨by omega,by subst hi;exact Qw (by omega) (by unfold maxLen;omega:n.Places.length≤maxLen),by simpa using hJ1,fun b hb'=>?_⟩)
  rcases Qod hb' with rfl | hb'
  ·exact hs
  exact hJ2 b hb'
 rcases q with q | q
 ·exact T2 fun h=>absurd h (hq.1 q rfl)
 exact T2 fun _=>hq.2 q rfl
theorem QCx (n:Qk)(m:List (List (Int×Int)))(o:Qq)(c:Nat)(h:Qay n)(hm:MOk n c m)(hc:c≤900000)(ho:QbN n o):Qf (QhI n m o) fun r=>r.2=0→MOk n (c+20) r.1:=by
 unfold QhI
 refine T0 (QD8 n m o h (hm.len h (by omega)) ho) fun x _=>?_
 refine T1 (fun hc=>T2 fun h=>absurd h (by simpa using hc)) fun _=>?_
 refine T0 (QAU n o h ho) fun y hy=>?_
 refine T1 (fun hc=>T2 fun h=>absurd h (by simpa using hc)) fun hc2=>?_
 exact T0 (QDy n m y.1 c 20 h hm (hy (by simpa using hc2)).1 (by omega)) fun z hz=>T2 hz
theorem QEV (n:Qk)(m:List (List (Int×Int)))(o:Qq)(c:Nat)(h:Qay n)(hm:MOk n c m)(hc:c≤900000)(ho:QbN n o):Qf (QhJ n m o) fun r=>r.2=0→MOk n (c+20) r.1:=by
 have hpl:=h.pl
 have hm1:=hm.1
 unfold QhJ
 refine T0 (Qym n o h ho) fun y hy=>?_
 refine T1 (fun hc=>T2 fun h=>absurd h (by simpa using hc)) fun hc2=>?_
 obtain⟨⟨hy,_⟩,h1,h2⟩:=hy (by simpa using hc2)
 rw [QqD m (by omega) (fun b hb=>by have:=(hm.2 b hb).2;omega),Qi]
 refine T0 (T4 h1 h2) fun e he=>?_
 have hcl:=(h.tk e he).2.2.2
 refine T0 (Qf.up e.Cancel.length (fun st=>st.1) (fun st=>MOk n c st.2) (Q:=fun q=>MOk n c q) rfl hm (fun i st hi hn hJ=>?_)) (fun q hq=>?_)
 ·obtain⟨x,l⟩:=st
  replace hi:x=(i:Int):=hi
  replace hJ:MOk n c l:=hJ
  show Qf (Qga e x l) _
  unfold Qga
  refine T1 (fun hc=>?_) (fun _=>T2 (Qn hJ))
  simp only [Qx]at hc
  refine T0 (T4 (by omega) (by omega)) fun k _=>?_
  have next:∀l,MOk n c l→Qf (QeS x l) fun o=>(∀s',o=.inl s'→i<e.Cancel.length∧s'.1=((i+1:Nat):Int)∧MOk n c s'.2)∧∀r:List (List (Int×Int)),o=.inr r→MOk n c r:=fun l hl=>by
   unfold QeS
   exact T2 (Qy (ix:=fun st:Int×List (List (Int×Int))=>st.1) (J:=fun st:Int×List (List (Int×Int))=>MOk n c st.2) ⟨by omega,by subst hi;exact Qw (by omega) (by unfold maxLen;omega:e.Cancel.length≤maxLen),hl⟩)
  refine T1 (fun hc3=>?_) fun _=>next l hJ
  simp only [Qz,Qx]at hc3
  refine T0 (T4 hc3.1 hc3.2) fun _ _=>?_
  refine next _ ⟨by simpa using hJ.1,fun b hb=>?_⟩
  rcases Qod hb with rfl | hb
  ·exact⟨Rt.nil,by simp⟩
  exact hJ.2 b hb
 show Qf (Qgb y q) _
 unfold Qgb
 exact T0 (QCw n q y.1 c 20 h hq hy (by omega)) fun z hz=>T2 hz
theorem QBE (n:Qk)(m:List (List (Int×Int)))(o:Qq)(c:Nat)(h:Qay n)(hm:MOk n c m)(hc:c≤800000)(ho:QbN n o):Qf (Qek n m o) fun r=>r.2=0→MOk n (c+40) r.1:=by
 unfold Qek
 refine T0 (QCx n m o c h hm (by omega) ho) fun x hx=>?_
 refine T1 (fun hc=>T2 fun h=>absurd h (by simpa using hc)) fun hc2=>?_
 exact T0 (QEV n x.1 o (c+20) h (hx (by simpa using hc2)) (by omega) ho) fun z hz=>T2 hz
def Qe5 (n:Qk):List (List (Int×Int))→List Qq→Option (List (List (Int×Int)))
 | m,[]=>some m
 | m,o::l=>(Qek n m o).bind fun x=>bif x.2==0 then Qe5 n x.1 l else none
theorem QCy (n:Qk):∀(l k:List Qq) (m:List (List (Int×Int))),Qe5 n m (l++k)=(Qe5 n m l).bind fun x=>Qe5 n x k:=by
 intro l
 induction l with
 | nil=>intro k m;rfl
 | cons o l ih=>
  intro k m
  simp only [Qoj,Qe5]
  cases Qek n m o with
  | none=>rfl
  | some x=>
   simp only [Qi]
   cases x.2==0 with
   | true=>exact ih k x.1
   | false=>rfl
theorem Qtq {n:Qk}{m x:List (List (Int×Int))}{o:Qq}{l:List Qq}(h:Qe5 n m (o::l)=some x):∃y,Qek n m o=some (y,0)∧Qe5 n y l=some x:=by
 rw [Qe5]at h
 obtain⟨r,hr,h⟩:=Qc h
 obtain⟨a,b⟩:=r
 rcases Qt h with⟨c,h⟩|⟨_,h⟩
 ·simp only [beq_iff_eq]at c
  subst c
  exact⟨a,hr,h⟩
 cases h
theorem Qz5 {n:Qk}(h:Qay n):∀(l:List Qq) (c:Nat) (m x:List (List (Int×Int))),MOk n c m→(∀o∈l,QbN n o)→c+40*l.length≤800000→Qe5 n m l=some x→MOk n (c+40*l.length) x:=by
 intro l
 induction l with
 | nil=>intro c m x hm _ _ e;cases e;exact hm
 | cons o l ih=>
  intro c m x hm ho hc e
  obtain⟨y,h1,h2⟩:=Qtq e
  simp only [QeU]at hc ⊢
  have hy:=Qee (QBE n m o c h hm (by omega) (ho o Q5)) h1 rfl
  exact(ih (c+40) y x hy (fun o' ho'=>ho o' (Qab _ ho')) (by omega) h2).mono (by omega)
theorem QEW {n:Qk}(h:Qay n){l:List Qq}{c:Nat}{m x:List (List (Int×Int))}(hm:MOk n c m)(hc:c≤1000000)(hl:l.length≤4294967296)(e:Qe5 n m l=some x):QpC n m l=some (x,(l.length:Int)):=by
 have hpl:=h.pl
 have hm1:=hm.1
 unfold QpC
 rw [QqD m (by omega) (fun b hb=>by have:=(hm.2 b hb).2;omega),Qi]
 obtain⟨r,h1,h2⟩:=QlH (body:=fun st=>QfF l n st.1 st.2) l.length (fun i s=>s.2=(i:Int)∧Qe5 n s.1 (l.drop i)=some x) (fun r=>r=.inr x)
  (fun i s hi hs=>by
   obtain⟨a,j⟩:=s
   obtain⟨rfl,hs⟩:j=(i:Int)∧Qe5 n a (l.drop i)=some x:=hs
   rw [Qvd hi]at hs
   obtain⟨y,g1,g2⟩:=Qtq hs
   refine .inl ⟨(y,((i+1:Nat):Int)),?_,rfl,g2⟩
   show QfF l n a i=_
   unfold QfF
   rw [Qa4 (by omega:(i:Int)<l.length),cond_true,QN,QD hi,Qi,g1,Qi]
   show some (Sum.inl (y,w64 ((i:Int)+1)))=_
   rw [Qw hi (by unfold maxLen;omega)])
  (fun s hs=>by
   obtain⟨a,j⟩:=s
   obtain⟨rfl,hs⟩:j=(l.length:Int)∧Qe5 n a (l.drop l.length)=some x:=hs
   rw [List.drop_length]at hs
   cases hs
   refine⟨_,?_,rfl⟩
   show QfF l n _ l.length=_
   unfold QfF
   rw [Qa8 (by omega)];rfl) (m,0) ⟨rfl,by rw [List.drop_zero];exact e⟩
 rw [h1,h2];rfl
theorem QEb (n:Qk)(m:List (List (Int×Int)))(picks:List Int)(h:Qay n)(hm:MOk n 1024 m)(hp:picks.length≤8):Qf (QnG n m picks) fun l=>l.length≤picks.length∧(∀o∈l,QbN n o)∧∃x,Qe5 n m l=some x:=by
 unfold QnG
 refine T0 (Qf.up picks.length (fun st=>st.2.1) (fun st=>(st.2.2.length:Int)≤st.2.1∧(∀o∈st.2.2,QbN n o)∧Qe5 n m st.2.2=some st.1) (Q:=fun q:List Qq⊕List Qq=>∀l,q=.inl l∨q=.inr l→l.length≤picks.length∧(∀o∈l,QbN n o)∧∃x,Qe5 n m l=some x) rfl ⟨by simp,fun o h=>(by cases h),rfl⟩ (fun i st hi hn hJ=>?_)) (fun q hq=>?_)
 ·obtain⟨a,x,l⟩:=st
  replace hi:x=(i:Int):=hi
  obtain⟨j1,j2,j3⟩:(l.length:Int)≤x∧(∀o∈l,QbN n o)∧Qe5 n m l=some a:=hJ
  have ha:=Qz5 h l 1024 m a hm j2 (by omega) j3
  have done:l.length≤picks.length∧(∀o∈l,QbN n o)∧∃x,Qe5 n m l=some x:=⟨by omega,j2,a,j3⟩
  show Qf (Qki picks n a x l) _
  unfold Qki
  refine T1 (fun hc=>?_) (fun _=>T2 (Qn fun l' e=>(by rcases e with e | e<;>cases e;exact done)))
  simp only [Qx]at hc
  refine T0 (T4 (by omega) (by omega)) fun p _=>?_
  refine T0 (QFK n a 4096 h (ha.len h (by omega)) (by decide) (by decide)) fun y hy=>?_
  refine T1 (fun _=>T2 (Qn fun l' e=>(by rcases e with e | e<;>cases e;exact done))) fun hc2=>?_
  simp only [beq_eq_false_iff_ne]at hc2
  refine T0 (T5 (by simpa using hc2)) fun _ _=>?_
  refine T0 (T5 (by simpa using hc2)) fun _ _=>?_
  have hy1:=hy.1
  have hpos:0<(y.length:Int):=by omega
  have g1:-(y.length:Int)<Int.tmod p y.length∧Int.tmod p y.length<y.length:=by
   have:=Int.tmod_lt_of_pos p hpos
   have h3:=Int.lt_tmod_of_pos p hpos
   omega
  rw [Q6 (by omega)]
  have g2:=Int.tmod_nonneg (a:=Int.tmod p y.length+y.length) (y.length:Int) (by omega)
  have g3:=Int.tmod_lt_of_pos (Int.tmod p y.length+y.length) hpos
  refine T0 (T4 g2 g3) fun o ho=>?_
  have hoo:=hy.2 o ho
  refine T0 (QBE n a o _ h ha (by omega) hoo).self fun z hz=>?_
  refine T1 (fun _=>T2 (Qn fun l' e=>(by rcases e with e | e<;>cases e;exact done))) fun hc3=>?_
  simp only [bne_eq_false_iff_eq]at hc3
  refine T0 (T5 (by simp;omega)) fun _ _=>?_
  have hw:w64 (x+1)=x+1:=Q6 (by omega)
  refine T2 (Qy ⟨by omega,by show w64 (x+1)=_;omega,?_,fun o' ho'=>?_,?_⟩)
  ·show((l++[o]).length:Int)≤w64 (x+1)
   simp;omega
  ·rcases Qco.1 ho' with ho' | ho'
   ·exact j2 o' ho'
   simp at ho';subst ho';exact hoo
  show Qe5 n m (l++[o])=some z.1
  rw [QCy,j3,Qi,Qe5,hz.1,Qi,hc3];rfl
 rcases q with q | q
 ·exact T2 (hq q (.inl rfl))
 exact T2 (hq q (.inr rfl))
end Go.Proofs
noncomputable section
namespace Go.Proofs
open Go Go.RowKit Go.Vm
end Go.Proofs
noncomputable section
namespace Go.Proofs
open Go Go.RowKit Go.Vm
abbrev Bag := List (Int×Int)
def QBF (how:Bag→Bag→Option (Bag×Int))(a b r:List Bag):Prop:=∀(j:Nat) x y,a[j]? = some x→b[j]? = some y→∃z,r[j]? = some z∧how x y=some (z,0)
def Can (how:Bag→Bag→Option (Bag×Int))(a b:List Bag):Prop:=∀(j:Nat) x y,a[j]? = some x→b[j]? = some y→∃z,how x y=some (z,0)
theorem Qoe {α:Type}{l:List α}{i:Nat}(h:i<l.length):l[i]? = some l[i]:=QD h
theorem QEX {a b r:Bag}(h:a.length+b.length≤4294967296)(e:QbQ a b=some (r,0)):Rt a∧Rt b∧Rt r∧∀k,QI r k=QI a k+QI b k:=by
 rcases QkU a b h with⟨_,e'⟩|⟨_,_,_,e'⟩|⟨h1,h2,r',e',h3,h4,_⟩
 ·rw [e]at e';cases e'
 ·rw [e]at e';cases e'
 rw [e]at e';cases e';exact⟨h1,h2,h3,h4⟩
theorem QEc {a b r:Bag}(h:a.length+b.length≤4294967296)(e:Qcg a b=some (r,0)):Rt a∧Rt b∧Rt r∧(∀k,QI b k≤QI a k)∧∀k,QI r k=QI a k-QI b k:=by
 rcases QoX a b h with⟨_,e'⟩|⟨_,_,_,e'⟩|⟨h1,h2,h5,r',e',h3,h4,_⟩
 ·rw [e]at e';cases e'
 ·rw [e]at e';cases e'
 rw [e]at e';cases e';exact⟨h1,h2,h3,h5,h4⟩
theorem QBG {n:Qk}{c:Nat}{m:List Bag}(hm:MOk n c m){j:Nat}(hj:j<n.Places.length):∃b,m[j]? = some b∧Rt b∧b.length≤c:=by
 have:j<m.length:=by have:=hm.1;omega
 exact⟨m[j],Qoe this,hm.2 _ (QaQ this)⟩
theorem QFL {n:Qk}{c:Nat}{m:List Bag}(hm:MOk n c m){j:Nat}{b:Bag}(h:m[j]? = some b):j<n.Places.length∧Rt b∧b.length≤c:=by
 obtain⟨h1,rfl⟩:=QQ.1 h
 exact⟨by have:=hm.1;omega,hm.2 _ (QaQ h1)⟩
end Go.Proofs
noncomputable section
namespace Go.Proofs
open Go Go.RowKit Go.Vm
theorem QAH (n:Qk)(a b:List Bag)(c d:Nat)(h:Qay n)(ha:MOk n c a)(hb:MOk n d b)(hcd:c+d≤1000000):Qf (QfE a b) fun r=>(r.2=0→r.1.length=n.Places.length∧QBF Qcg a b r.1)∧(Can Qcg a b→r.2=0):=by
 have hpl:=h.pl
 have ha1:=ha.1
 have hb1:=hb.1
 have hmin:min2 (a.length:Int) (b.length:Int)=(n.Places.length:Int):=by unfold min2;split<;>omega
 unfold QfE
 rw [hmin]
 refine T0 (T5 (by simp only [Qz,Qx];omega)) fun _ _=>?_
 refine T0 (Qf.up n.Places.length (fun st=>st.1) (fun st=>st.2.length=n.Places.length∧∀(j:Nat) x y,(j:Int)<st.1→a[j]? = some x→b[j]? = some y→∃z,st.2[j]? = some z∧Qcg x y=some (z,0)) (Q:=fun q:Int⊕List Bag=>(∀x,q=.inl x→x≠0∧¬Can Qcg a b)∧∀m,q=.inr m→m.length=n.Places.length∧QBF Qcg a b m) rfl ⟨by simp,fun j x y hj=>by omega⟩ (fun i st hi hn hJ=>?_)) (fun q hq=>?_)
 ·obtain⟨x,m⟩:=st
  replace hi:x=(i:Int):=hi
  obtain⟨hJ1,hJ2⟩:m.length=n.Places.length∧∀(j:Nat) u v,(j:Int)<x→a[j]? = some u→b[j]? = some v→∃z,m[j]? = some z∧Qcg u v=some (z,0):=hJ
  show Qf (QeR a b x m) _
  unfold QeR
  rw [hmin]
  refine T1 (fun hc=>?_) (fun hc=>T2 (Qn ⟨fun x e=>(by cases e),fun m' e=>(by cases e;exact⟨hJ1,fun j u v hu hv=>hJ2 j u v (by
   simp only [QY,Qpn]at hc
   have:=(QQ.1 hu).1
   omega) hu hv⟩)⟩))
  simp only [Qx,Qpn]at hc
  have i1:i<a.length:=by omega
  have i2:i<b.length:=by omega
  rw [hi,QN,Qoe i1,Qi,QN,Qoe i2,Qi]
  have hu2:=ha.2 _ (QaQ i1)
  have hv2:=hb.2 _ (QaQ i2)
  have key:∃s,Qcg a[i] b[i]=some s:=by
   rcases QoX a[i] b[i] (by omega)with⟨_,e⟩|⟨_,_,_,e⟩|⟨_,_,_,r,e,h1,_,h2⟩
   ·exact⟨_,e⟩
   ·exact⟨_,e⟩
   exact⟨_,e⟩
  obtain⟨s,es⟩:=key
  rw [es,Qi]
  refine T0 (T4 (by omega) (by omega)) fun _ _=>?_
  refine T1 (fun hc5=>T2 (Qn ⟨fun x e=>(by cases e;exact⟨by simpa using hc5,fun hcan=>by
   obtain⟨z,hz⟩:=hcan i _ _ (Qoe i1) (Qoe i2)
   rw [es]at hz
   cases hz
   simp at hc5⟩),fun m' e=>(by cases e)⟩)) fun hc5=>?_
  simp only [bne_eq_false_iff_eq]at hc5
  refine T2 (Qy ⟨by omega,Qw (by omega) (by unfold maxLen;omega:n.Places.length≤maxLen),by simpa using hJ1,fun j u v hj hu hv=>?_⟩)
  have hj:(j:Int)<w64 ((i:Int)+1):=hj
  rw [Qw (show i<n.Places.length by omega) (by unfold maxLen;omega)]at hj
  show ∃z,(m.set (i:Int).toNat s.1)[j]? = some z∧_
  by_cases cj:j=i
  ·subst cj
   rw [Qoe i1]at hu;rw [Qoe i2]at hv
   cases hu;cases hv
   refine⟨s.1,by rw [show((j:Int)).toNat=j from QcL j];exact QqU (by omega),?_⟩
   rw [es,←hc5]
  obtain⟨z,h1,h2⟩:=hJ2 j u v (by omega) hu hv
  exact⟨z,by rw [QqT (by simp;omega)];exact h1,h2⟩
 rcases q with q | q
 ·have:=hq.1 q rfl
  exact T2 ⟨fun h=>absurd h this.1,fun h=>absurd h this.2⟩
 exact T2 ⟨fun _=>hq.2 q rfl,fun _=>rfl⟩
theorem Qu7 (n:Qk)(a b:List Bag)(c d:Nat)(h:Qay n)(ha:MOk n c a)(hb:MOk n d b)(hcd:c+d≤1000000):Qf (QdA a b) fun r=>(r.2=0→r.1.length=n.Places.length∧QBF QbQ a b r.1)∧(Can QbQ a b→r.2=0):=by
 have hpl:=h.pl
 have ha1:=ha.1
 have hb1:=hb.1
 have hmin:min2 (a.length:Int) (b.length:Int)=(n.Places.length:Int):=by unfold min2;split<;>omega
 unfold QdA
 rw [hmin]
 refine T0 (T5 (by simp only [Qz,Qx];omega)) fun _ _=>?_
 refine T0 (Qf.up n.Places.length (fun st=>st.1) (fun st=>st.2.length=n.Places.length∧∀(j:Nat) x y,(j:Int)<st.1→a[j]? = some x→b[j]? = some y→∃z,st.2[j]? = some z∧QbQ x y=some (z,0)) (Q:=fun q:Int⊕List Bag=>(∀x,q=.inl x→x≠0∧¬Can QbQ a b)∧∀m,q=.inr m→m.length=n.Places.length∧QBF QbQ a b m) rfl ⟨by simp,fun j x y hj=>by omega⟩ (fun i st hi hn hJ=>?_)) (fun q hq=>?_)
 ·obtain⟨x,m⟩:=st
  replace hi:x=(i:Int):=hi
  obtain⟨hJ1,hJ2⟩:m.length=n.Places.length∧∀(j:Nat) u v,(j:Int)<x→a[j]? = some u→b[j]? = some v→∃z,m[j]? = some z∧QbQ u v=some (z,0):=hJ
  show Qf (Qde a b x m) _
  unfold Qde
  rw [hmin]
  refine T1 (fun hc=>?_) (fun hc=>T2 (Qn ⟨fun x e=>(by cases e),fun m' e=>(by cases e;exact⟨hJ1,fun j u v hu hv=>hJ2 j u v (by
   simp only [QY,Qpn]at hc
   have:=(QQ.1 hu).1
   omega) hu hv⟩)⟩))
  simp only [Qx,Qpn]at hc
  have i1:i<a.length:=by omega
  have i2:i<b.length:=by omega
  rw [hi,QN,Qoe i1,Qi,QN,Qoe i2,Qi]
  have hu2:=ha.2 _ (QaQ i1)
  have hv2:=hb.2 _ (QaQ i2)
  have key:∃s,QbQ a[i] b[i]=some s:=by
   rcases QkU a[i] b[i] (by omega)with⟨_,e⟩|⟨_,_,_,e⟩|⟨_,_,r,e,h1,_,h2⟩
   ·exact⟨_,e⟩
   ·exact⟨_,e⟩
   exact⟨_,e⟩
  obtain⟨s,es⟩:=key
  rw [es,Qi]
  refine T0 (T4 (by omega) (by omega)) fun _ _=>?_
  refine T1 (fun hc5=>T2 (Qn ⟨fun x e=>(by cases e;exact⟨by simpa using hc5,fun hcan=>by
   obtain⟨z,hz⟩:=hcan i _ _ (Qoe i1) (Qoe i2)
   rw [es]at hz
   cases hz
   simp at hc5⟩),fun m' e=>(by cases e)⟩)) fun hc5=>?_
  simp only [bne_eq_false_iff_eq]at hc5
  refine T2 (Qy ⟨by omega,Qw (by omega) (by unfold maxLen;omega:n.Places.length≤maxLen),by simpa using hJ1,fun j u v hj hu hv=>?_⟩)
  have hj:(j:Int)<w64 ((i:Int)+1):=hj
  rw [Qw (show i<n.Places.length by omega) (by unfold maxLen;omega)]at hj
  show ∃z,(m.set (i:Int).toNat s.1)[j]? = some z∧_
  by_cases cj:j=i
  ·subst cj
   rw [Qoe i1]at hu;rw [Qoe i2]at hv
   cases hu;cases hv
   refine⟨s.1,by rw [show((j:Int)).toNat=j from QcL j];exact QqU (by omega),?_⟩
   rw [es,←hc5]
  obtain⟨z,h1,h2⟩:=hJ2 j u v (by omega) hu hv
  exact⟨z,by rw [QqT (by simp;omega)];exact h1,h2⟩
 rcases q with q | q
 ·have:=hq.1 q rfl
  exact T2 ⟨fun h=>absurd h this.1,fun h=>absurd h this.2⟩
 exact T2 ⟨fun _=>hq.2 q rfl,fun _=>rfl⟩
theorem QBH {n:Qk}{m t:List Bag}{o:Qq}(h:QhI n m o=some (t,0)):Qfd n m o=some 0∧∃need,QgK n o=some (need,0)∧QfE m need=some (t,0):=by
 unfold QhI at h
 obtain⟨x,hx,h⟩:=Qc h
 rcases Qt h with⟨c,h⟩|⟨c,h⟩
 ·simp only [Option.some.injEq,Prod.mk.injEq]at h
  rw [h.2]at c;cases c
 simp only [bne_eq_false_iff_eq]at c
 subst c
 obtain⟨y,hy,h⟩:=Qc h
 obtain⟨y1,y2⟩:=y
 rcases Qt h with⟨c,h⟩|⟨c,h⟩
 ·simp only [Option.some.injEq,Prod.mk.injEq]at h
  simp only [h.2]at c;cases c
 simp only [bne_eq_false_iff_eq]at c
 subst c
 obtain⟨z,hz,h⟩:=Qc h
 obtain⟨z1,z2⟩:=z
 simp only [Option.some.injEq,Prod.mk.injEq]at h
 obtain⟨rfl,rfl⟩:=h
 exact⟨hx,y1,hy,hz⟩
theorem QDz {n:Qk}{m x:List Bag}{o:Qq}(h:Qek n m o=some (x,0)):∃t,QhI n m o=some (t,0)∧QhJ n t o=some (x,0):=by
 unfold Qek at h
 obtain⟨y,hy,h⟩:=Qc h
 obtain⟨y1,y2⟩:=y
 rcases Qt h with⟨c,h⟩|⟨c,h⟩
 ·simp only [Option.some.injEq,Prod.mk.injEq]at h
  simp only [h.2]at c;cases c
 simp only [bne_eq_false_iff_eq]at c
 subst c
 obtain⟨z,hz,h⟩:=Qc h
 obtain⟨z1,z2⟩:=z
 simp only [Option.some.injEq,Prod.mk.injEq]at h
 obtain⟨rfl,rfl⟩:=h
 exact⟨y1,hy,hz⟩
end Go.Proofs
noncomputable section
namespace Go.Proofs
open Go Go.RowKit Go.Vm
def QaS : Bag→Int
 | []=>0
 | p::l=>p.2+QaS l
theorem QCz {l m:Bag}(h:l.Perm m):QaS l=QaS m:=by
 induction h with
 | nil=>rfl
 | cons p _ ih=>simp only [QaS,ih]
 | swap p q l=>simp only [QaS];omega
 | trans _ _ ih1 ih2=>rw [ih1,ih2]
theorem Qz6 (b:Bag)(hr:Rt b)(h:b.length≤maxLen):Qjt b=some (w64 (QaS b)):=by
 unfold Qjt
 rw [Qrz b h,QgN.2 hr]
 show Qlc b=_
 unfold Qlc
 have run:∀(l:Bag) (s:Int),QbA (fun st (p:Int×Int)=>QeM st p.1 p.2) (w64 s) l=some (.inl (w64 (s+QaS l))):=by
  intro l
  induction l with
  | nil=>intro s;simp [QbA,QaS]
  | cons p l ih=>
   intro s
   simp only [QbA]
   rw [show QeM (w64 s) p.1 p.2=some (.inl (w64 (s+p.2)))from by unfold QeM;rw [QD1]]
   simp only [Qi,Sum.elim_inl]
   rw [ih,QaS,Int.add_assoc]
 have h0:QcE (fun st (p:Int×Int)=>QeM st p.1 p.2) (0:Int) b=some (.inl (w64 (QaS b))):=by
  have e0:(0:Int)=w64 0:=by decide
  rw [e0]
  refine Qd0.2 ⟨fun l' hp=>?_,by rw [run];simp⟩
  rw [run,run,QCz hp]
 rw [h0];rfl
def cS (f:Int→Int):Nat→Int
 | 0=>0
 | K+1=>cS f K+f K
theorem QEY {f g r:Int→Int}(h:∀k,r k=f k+g k)(K:Nat):cS r K=cS f K+cS g K:=by
 induction K with
 | zero=>rfl
 | succ K ih=>simp only [cS,ih,h];omega
theorem QDA {f g:Int→Int}{K:Nat}(h:∀k:Nat,k<K→f k=g k):cS f K=cS g K:=by
 induction K with
 | zero=>rfl
 | succ K ih=>simp only [cS];rw [ih fun k hk=>h k (by omega),h K (by omega)]
theorem QEZ {f:Int→Int}{a v:Int}(ha:0≤a)(hf:f a=0){K:Nat}(hK:a<K):cS (fun k=>if a=k then v else f k) K=cS f K+v:=by
 induction K with
 | zero=>omega
 | succ K ih=>
  simp only [cS]
  by_cases c:a=K
  ·subst c
   rw [if_pos rfl,hf,QDA (g:=f) fun k hk=>by rw [if_neg (by omega)]]
   omega
  rw [if_neg c,ih (by omega)];omega
theorem QEd (K:Nat):cS (fun _=>0) K=0:=by
 induction K with
 | zero=>rfl
 | succ K ih=>simp only [cS,ih];rfl
theorem Qyn {l:Bag}(hn:QnJ l){K:Nat}(h:∀p∈l,0≤p.1∧p.1<K):QaS l=cS (QI l) K:=by
 induction l with
 | nil=>exact(QEd K).symm
 | cons p l ih=>
  obtain⟨h1,h2⟩:=Qyf.1 hn
  have hp:=h p Q5
  have e:QI (p::l)=fun k=>if p.1=k then p.2 else QI l k:=by
   funext k
   obtain⟨a,x⟩:=p
   unfold QI
   rw [Qaf]
   by_cases c:a=k
   ·rw [if_pos c,if_pos c];rfl
   rw [if_neg c,if_neg c]
  rw [e,QEZ hp.1 (by unfold QI;rw [Qvs.2 fun q hq=>Ne.symm (h1 q hq)];rfl) hp.2,QaS,ih h2 fun q hq=>h q (Qab _ hq)]
  omega
theorem Qyo (l:Bag):∃K:Nat,∀p∈l,p.1<K:=by
 induction l with
 | nil=>exact⟨0,fun p h=>by cases h⟩
 | cons p l ih=>
  obtain⟨K,hK⟩:=ih
  refine⟨K+p.1.toNat+1,fun q hq=>?_⟩
  rcases Qaa.1 hq with rfl | hq
  ·omega
  have:=hK q hq;omega
theorem QwL {a b r:Bag}(ha:Rt a)(hb:Rt b)(hr:Rt r)(h:∀k,QI r k=QI a k+QI b k):QaS r=QaS a+QaS b:=by
 obtain⟨K1,h1⟩:=Qyo a
 obtain⟨K2,h2⟩:=Qyo b
 obtain⟨K3,h3⟩:=Qyo r
 rw [Qyn ha.1.nd (K:=K1+K2+K3) fun p hp=>⟨(ha.2 p hp).1,by have:=h1 p hp;omega⟩,Qyn hb.1.nd (K:=K1+K2+K3) fun p hp=>⟨(hb.2 p hp).1,by have:=h2 p hp;omega⟩,Qyn hr.1.nd (K:=K1+K2+K3) fun p hp=>⟨(hr.2 p hp).1,by have:=h3 p hp;omega⟩]
 exact QEY h _
end Go.Proofs
noncomputable section
namespace Go.Proofs
open Go Go.RowKit Go.Vm
def szB (n:Qk)(t:QA):List Int:=t.Vars.map fun v=>(Qbd n.Colours v.Colour).getD 0
def gdB (b:QP)(r:List Int):Bool:=decide (QaB b r=some 0)
def Qz7 (n:Qk)(m:List (List (Int×Int)))(task:Int)(ins outs:List (List Int))(p:List Int):List Qq:=match Qcl n m task p with
 | some (c,b)=>if c=0∧Qam b=some 0 then ins.flatMap fun e=>if Qap b e=some 0 then(outs.filter (gdB b)).map fun o=>Qq.mk task p e o else []else []
 | none=>[]
end Go.Proofs
noncomputable section
namespace Go.Proofs
open Go Go.RowKit Go.Vm
def chC (kind arcs:Int):List (List Int):=(QaF kind arcs).getD []
def Qz8 (n:Qk)(m:List (List (Int×Int)))(task:Int):List Qq:=match idx n.Tasks task with
 | some t=>(binds (szB n t)).flatMap (Qz7 n m task (chC t.Join t.Ins.length) (chC t.Split t.Outs.length))
 | none=>[]
end Go.Proofs
noncomputable section
namespace Go.Proofs
open Go Go.RowKit Go.Vm
theorem QCA {n:Qk}{m:List (List (Int×Int))}{task:Int}{ins outs:List (List Int)}{p:List Int}{o:Qq}:
  o∈Qz7 n m task ins outs p↔o.Task=task∧o.Vars=p∧o.Ins∈ins∧o.Outs∈outs∧∃b,Qcl n m task p=some (0,b)∧Qam b=some 0∧Qap b o.Ins=some 0∧QaB b o.Outs=some 0:=by
 unfold Qz7
 cases hb:Qcl n m task p with
 | none=>simp
 | some x=>
  obtain⟨c,b⟩:=x
  simp only
  by_cases hc:c=0∧Qam b=some 0
  ·rw [if_pos hc]
   obtain⟨rfl,hg⟩:=hc
   simp only [List.mem_flatMap]
   constructor
   ·rintro ⟨e,he,h⟩
    by_cases ht:Qap b e=some 0
    ·rw [if_pos ht]at h
     obtain⟨r,hr,rfl⟩:=QG.1 h
     obtain⟨h1,h2⟩:=Qhe.1 hr
     exact⟨rfl,rfl,he,h1,b,rfl,hg,ht,QV h2⟩
    rw [if_neg ht]at h;cases h
   rintro ⟨h1,h2,h3,h4,b',h5,h6,h7,h8⟩
   cases h5
   refine⟨o.Ins,h3,?_⟩
   rw [if_pos h7]
   refine QG.2 ⟨o.Outs,Qhe.2 ⟨h4,Qa4 h8⟩,?_⟩
   cases o
   simp only at h1 h2
   subst h1;subst h2;rfl
  rw [if_neg hc]
  constructor
  ·intro h;cases h
  rintro ⟨_,_,_,_,b',h5,h6,_⟩
  cases h5
  exact absurd ⟨rfl,h6⟩ hc
theorem QyK {n:Qk}{m:List (List (Int×Int))}{task:Int}{o:Qq}:
  o∈Qz8 n m task↔o.Task=task∧∃e,idx n.Tasks task=some e∧inB (szB n e) o.Vars∧o.Ins∈chC e.Join e.Ins.length∧o.Outs∈chC e.Split e.Outs.length∧∃b,Qcl n m task o.Vars=some (0,b)∧Qam b=some 0∧Qap b o.Ins=some 0∧QaB b o.Outs=some 0:=by
 unfold Qz8
 cases he:idx n.Tasks task with
 | none=>simp
 | some e=>
  simp only [List.mem_flatMap,QCs,QCA,Option.some.injEq,exists_eq_left']
  constructor
  ·rintro ⟨p,h1,h2,rfl,h3,h4,h5⟩
   exact⟨h2,h1,h3,h4,h5⟩
  rintro ⟨h1,h2,h3,h4,h5⟩
  exact⟨o.Vars,h2,h1,rfl,h3,h4,h5⟩
theorem QBI (a b:List Int)(ha:a.length≤maxLen):QbB a b=some (decide (a=b)):=by
 have key:Qf (QbB a b) fun r=>r=decide (a=b):=by
  unfold QbB
  refine T1 (fun hc=>T2 ?_) fun hc=>?_
  ·rw [Qa8 fun e=>by subst e;simp at hc]
  simp only [bne_eq_false_iff_eq]at hc
  have hc:a.length=b.length:=by omega
  refine T0 (Qf.up a.length (fun st=>st) (fun st=>a.take st.toNat=b.take st.toNat) (Q:=fun q:Unit⊕Unit=>(q=.inl ()→a≠b)∧(q=.inr ()→a=b)) rfl rfl (fun i st hi hn hJ=>?_)) (fun q hq=>?_)
  ·replace hi:st=(i:Int):=hi
   subst hi
   replace hJ:a.take (i:Int).toNat=b.take (i:Int).toNat:=hJ
   rw [QcL]at hJ
   show Qf (QbL a b i) _
   unfold QbL
   refine T1 (fun hc2=>?_) (fun hc2=>T2 (Qn ⟨fun e=>(by cases e),fun _=>?_⟩))
   ·simp only [Qx]at hc2
    have i1:i<a.length:=by omega
    have i2:i<b.length:=by omega
    rw [QN,QD i1,Qi,QN,QD i2,Qi]
    refine T1 (fun hc3=>T2 (Qn ⟨fun _ e=>?_,fun e=>by cases e⟩)) fun hc3=>?_
    ·subst e;simp at hc3
    have hw:w64 ((i:Int)+1)=((i+1:Nat):Int):=Qw i1 ha
    refine T2 (Qy ⟨i1,hw,?_⟩)
    show a.take (w64 ((i:Int)+1)).toNat=b.take (w64 ((i:Int)+1)).toNat
    rw [hw,QcL,Qdp,Qdp,hJ,QD i1,QD i2]
    simp only [bne_eq_false_iff_eq]at hc3
    rw [hc3]
   simp only [QY]at hc2
   rwa [QeV (by omega),QeV (by omega)]at hJ
  rcases q with q | q
  ·exact T2 (Qa8 (hq.1 rfl)).symm
  exact T2 (Qa4 (hq.2 rfl)).symm
 obtain⟨r,h1,h2⟩:=key
 rw [h1,h2]
theorem QE0 (kind arcs:Int):QaF kind arcs=some (chC kind arcs)∧QkV (chC kind arcs):=by
 obtain⟨r,h1,h2⟩:=QrA kind arcs
 unfold chC
 rw [h1]
 exact⟨rfl,h2⟩
theorem Qov (kind arcs:Int)(row:List Int):Qej kind arcs row=some (decide (row∈chC kind arcs)):=by
 have key:Qf (Qej kind arcs row) fun r=>r=decide (row∈chC kind arcs):=by
  unfold Qej Qcf QcH
  obtain⟨e,hx⟩:=QE0 kind arcs
  rw [e,Qi]
  generalize chC kind arcs=x at hx
  have hl:=hx.1
  have key:Qf ((QE (fun st=>Qai x row st) 0)) fun q:Int⊕Unit=>(∀k,q=.inl k→0≤k∧row∈x)∧(q=.inr ()→row ∉ x):=by
   refine Qf.up x.length (fun st=>st) (fun st=>row ∉ x.take st.toNat) rfl (by simp) (fun i st hi hn hJ=>?_)
   replace hi:st=(i:Int):=hi
   subst hi
   replace hJ:row ∉ x.take (i:Int).toNat:=hJ
   rw [QcL]at hJ
   show Qf (Qai x row i) _
   unfold Qai Qkg
   refine T1 (fun hc=>?_) (fun hc=>T2 (Qn ⟨fun k e=>(by cases e),fun _=>?_⟩))
   ·simp only [Qx]at hc
    have i1:i<x.length:=by omega
    have:=hx.2 _ (QaQ i1)
    rw [QN,QD i1,Qi,QBI _ _ (by unfold maxLen;omega)]
    simp only [Qi]
    refine T1 (fun hc2=>T2 (Qn ⟨fun k e=>(by cases e;exact⟨by omega,by rw [←QV hc2];exact QaQ i1⟩),fun e=>by cases e⟩)) fun hc2=>?_
    have hw:w64 ((i:Int)+1)=((i+1:Nat):Int):=Qw i1 (by unfold maxLen;omega:x.length≤maxLen)
    refine T2 (Qy ⟨i1,hw,?_⟩)
    show row ∉ x.take (w64 ((i:Int)+1)).toNat
    rw [hw,QcL,Qdp,QD i1]
    simp only [Option.toList_some,Qco,Qk2,not_or]
    exact⟨hJ,fun e=>of_decide_eq_false hc2 e.symm⟩
   simp only [QY]at hc
   rwa [QeV (by omega)]at hJ
  obtain⟨q,hq1,hq2⟩:=key
  rw [hq1]
  rcases q with q | q
  ·have:=hq2.1 q rfl
   refine T2 ?_
   rw [Qa4 this.2]
   exact Qa4 this.1
  refine T2 ?_
  rw [Qa8 (hq2.2 rfl)];rfl
 obtain⟨r,h1,h2⟩:=key
 rw [h1,h2]
theorem QCB (l:List QO)(k m:Int)(hl:QM Qcw l):Qf (Qfu l k m) fun r=>r.2=true→0≤m∧∃z,Qbd l k=some z∧m<z:=by
 unfold Qfu Qbd
 refine T0 (Qjq l k hl).self fun x hx=>?_
 obtain⟨hxe,hx⟩:=hx
 refine T0 (P:=fun r=>r=false→x.1=true∧0≤m∧∃h:0≤k∧k<(x.2.sizes.length:Int),m<x.2.sizes[k.toNat]'(by omega)) ?_ fun r hr=>?_
 ·unfold QkJ
  refine T1 (fun _=>T2 fun h=>by cases h) fun hc=>?_
  have hc:x.1=true:=by simpa using hc
  have h:=hx.2 hc
  have hk:k.toNat<x.2.sizes.length:=by omega
  have ei:idx x.2.sizes k=some x.2.sizes[k.toNat]:=Qsw h.1.1 h.1.2
  refine T0 (P:=fun y=>y=true→0≤m∧m<x.2.sizes[k.toNat]) ?_ fun y hy=>T2 fun hf=>?_
  ·unfold Qdz
   refine T0 (P:=fun y=>y=true→0≤m∧m<x.2.sizes[k.toNat]) ?_ fun y hy=>T2 hy
   unfold Qg2
   refine T1 (fun hc2=>?_) fun _=>T2 fun h=>by cases h
   rw [h.2.1,ei,Qi]
   exact T2 fun h=>⟨by simpa using hc2,by simpa using h⟩
  have:=hy (by simpa using hf)
  exact⟨hc,this.1,h.1,this.2⟩
 unfold Qfb
 refine T1 (fun _=>T2 fun h=>by cases h) fun hc=>?_
 obtain⟨h1,h2,h3,h4⟩:=hr hc
 have h:=hx.2 h1
 have fin:0≤m∧∃z,((Qf3 l k).bind fun x5=>bif (!x5.1)then some 0 else(idx x5.2.sizes k).bind fun e7=>some e7)=some z∧m<z:=⟨h2,x.2.sizes[k.toNat]'(by omega),by
  rw [hxe,Qi,h1]
  simp only [Qoh,cond_false]
  rw [Qsw h3.1 h3.2];rfl,h4⟩
 refine T0 (Qiu x.2 (by omega)) fun _ _=>?_
 refine T1 (fun _=>?_) fun _=>T2 fun _=>fin
 exact T0 (Qiu x.2 (by omega)) fun _ _=>T2 fun _=>fin
theorem QE1 {l d:List Int}(h:d.length=l.length)(hk:∀(j:Nat) x s,d[j]? = some x→l[j]? = some s→0≤x∧x<s):inB l d:=by
 induction l generalizing d with
 | nil=>cases d with
  | nil=>trivial
  | cons x d=>simp at h
 | cons s r ih=>cases d with
  | nil=>simp at h
  | cons x d=>
   have:=hk 0 x s rfl rfl
   exact⟨this.1,.inr this.2,ih (by simpa using h) fun j y z h1 h2=>hk (j+1) y z (by simpa using h1) (by simpa using h2)⟩
theorem QE2 (n:Qk)(task:Int)(vars:List Int)(h:Qay n):Qf (QfT n task vars) fun r=>r.2=0→∃e,idx n.Tasks task=some e∧e∈n.Tasks∧inB (szB n e) vars∧∀s∈szB n e,0<s:=by
 unfold QfT
 refine T1 (fun _=>T2 fun h=>by cases h) fun hc=>?_
 simp only [QcZ,QY]at hc
 refine T0 (T4 (by omega) (by omega)).self fun e he=>?_
 have hv:=(h.tk e he.2).1
 have ke:=h.k.2.2.1.2 e he.2
 refine T1 (fun _=>T2 fun h=>by cases h) fun hl=>?_
 simp only [bne_eq_false_iff_eq]at hl
 have hl:vars.length=e.Vars.length:=by omega
 refine T0 (T5 (by simp only [Qz,Qx];omega)) fun _ _=>?_
 refine T0 (Qf.up e.Vars.length (fun st=>st.1) (fun st=>st.2.length=e.Vars.length∧∀(j:Nat) x s,(j:Int)<st.1→vars[j]? = some x→(szB n e)[j]? = some s→0≤x∧x<s) (Q:=fun q:Unit⊕List Int=>∀out,q=.inr out→inB (szB n e) vars∧∀s∈szB n e,0<s) rfl ⟨by simp,fun j x s hj=>by simp at hj;omega⟩ (fun i st hi hn hJ=>?_)) (fun q hq=>?_)
 ·obtain⟨x,l⟩:=st
  replace hi:x=(i:Int):=hi
  subst hi
  obtain⟨hJ,hJ2⟩:l.length=e.Vars.length∧∀(j:Nat) x s,(j:Int)<(i:Int)→vars[j]? = some x→(szB n e)[j]? = some s→0≤x∧x<s:=hJ
  show Qf (Qhb e vars n i l) _
  unfold Qhb
  refine T1 (fun hc=>?_) (fun hc=>T2 (Qn fun out _=>?_))
  ·simp only [Qx]at hc
   have i1:i<e.Vars.length:=by omega
   have i2:i<vars.length:=by omega
   rw [QN,QD i1,Qi,QN,QD i2,Qi]
   refine T0 (QCB _ _ _ h.k.1) fun c hc3=>?_
   refine T1 (fun _=>T2 (Qn fun out e=>by cases e)) fun hc4=>?_
   obtain⟨h1,z,h2,h3⟩:=hc3 (by simpa using hc4)
   refine T0 (T4 (by omega) (by omega)) fun d _=>?_
   have hw:w64 ((i:Int)+1)=((i+1:Nat):Int):=Qw i1 (by unfold maxLen;omega:e.Vars.length≤maxLen)
   refine T2 (Qy ⟨i1,hw,by simpa using hJ,fun j x s hj hx hs=>?_⟩)
   replace hj:(j:Int)<w64 ((i:Int)+1):=hj
   rw [hw]at hj
   by_cases cj:j=i
   ·subst cj
    rw [QD i2]at hx
    cases hx
    unfold szB at hs
    rw [Qan,QD i1,QdY,h2]at hs
    cases hs
    exact⟨h1,h3⟩
   exact hJ2 j x s (by omega) hx hs
  simp only [QY]at hc
  have hb:∀(j:Nat) x s,vars[j]? = some x→(szB n e)[j]? = some s→0≤x∧x<s:=fun j x s hx hs=>hJ2 j x s (by have:=(QQ.1 hx).1;omega) hx hs
  refine⟨QE1 (by simp [szB,hl]) hb,fun s hs=>?_⟩
  obtain⟨j,hj,rfl⟩:=Qk1.1 hs
  have hj2:j<vars.length:=by simp [szB]at hj;omega
  have:=hb j _ _ (QD hj2) (QD hj)
  omega
 rcases q with q | q
 ·exact T2 fun h=>by cases h
 exact T2 fun _=>⟨e,he.1,he.2,hq q rfl⟩
theorem QxI {n:Qk}{m:List (List (Int×Int))}{task:Int}{vars:List Int}{b:QP}(h:Qay n)(e:Qcl n m task vars=some (0,b)):idx n.Tasks task=some b.task∧b.task∈n.Tasks∧b.net=n∧b.m=m∧(inB (szB n b.task) vars∧∀s∈szB n b.task,0<s)∧QfT n task vars=some (b.env,0):=by
 unfold Qcl at e
 obtain⟨x,hx,e⟩:=Qc e
 obtain⟨x1,x2⟩:=x
 rcases Qt e with⟨c,e⟩|⟨c,e⟩
 ·simp only [Option.some.injEq,Prod.mk.injEq]at e
  simp only [e.1]at c;cases c
 simp only [bne_eq_false_iff_eq]at c
 subst c
 obtain⟨t,ht,h1,h2⟩:=Qee (QE2 n task vars h) hx rfl
 rw [ht,Qi]at e
 simp only [Option.some.injEq,Prod.mk.injEq,true_and]at e
 subst e
 exact⟨ht,h1,rfl,rfl,h2,hx⟩
theorem QCC {n:Qk}{m:List (List (Int×Int))}{o:Qq}(h:Qay n)(hm:QM (QM fun _=>True) m)(ho:QbN n o):Qfd n m o=some 0↔o∈Qz8 n m o.Task:=by
 rw [QyK]
 constructor
 ·intro e
  unfold Qfd at e
  obtain⟨x,hx,e⟩:=Qc e
  obtain⟨c,b⟩:=x
  have k3:∀g,Qdc (c,b) o g=some 0→g=0∧o.Ins∈chC b.task.Join b.task.Ins.length∧o.Outs∈chC b.task.Split b.task.Outs.length∧Qap b o.Ins=some 0∧QaB b o.Outs=some 0:=fun g e=>by
   unfold Qdc at e
   rcases Qt e with⟨c2,e⟩|⟨c2,e⟩
   ·simp only [Option.some.injEq]at e;rw [e]at c2;cases c2
   simp only [bne_eq_false_iff_eq]at c2
   obtain⟨y,hy,e⟩:=Qc e
   unfold Qkh at hy
   rw [Qov,Qi]at hy
   unfold Qfx at e
   rcases Qt e with⟨_,e⟩|⟨c3,e⟩
   ·cases e
   subst c3
   rcases Qt hy with⟨_,hy⟩|⟨c4,hy⟩
   ·cases hy
   rw [Qov,Qi]at hy
   simp only [QiB,Qx]at c4
   simp only [Option.some.injEq,QiB,Qx]at hy
   obtain⟨z,hz,e⟩:=Qc e
   rcases Qt e with⟨c5,e⟩|⟨c5,e⟩
   ·simp only [Option.some.injEq]at e;rw [e]at c5;cases c5
   simp only [bne_eq_false_iff_eq]at c5
   subst c5
   obtain⟨w,hw,e⟩:=Qc e
   simp only [Option.some.injEq]at e
   subst e
   exact⟨c2,c4,hy,hz,hw⟩
  have fin:c=0→Qam b=some 0→(o.Ins∈chC b.task.Join b.task.Ins.length∧o.Outs∈chC b.task.Split b.task.Outs.length∧Qap b o.Ins=some 0∧QaB b o.Outs=some 0)→o.Task=o.Task∧∃e,idx n.Tasks o.Task=some e∧inB (szB n e) o.Vars∧o.Ins∈chC e.Join e.Ins.length∧o.Outs∈chC e.Split e.Outs.length∧∃b,Qcl n m o.Task o.Vars=some (0,b)∧Qam b=some 0∧Qap b o.Ins=some 0∧QaB b o.Outs=some 0:=fun hc hg q=>by
   subst hc
   obtain⟨h1,_,_,_,h2,_⟩:=QxI h hx
   exact⟨rfl,b.task,h1,h2.1,q.1,q.2.1,b,hx,hg,q.2.2.1,q.2.2.2⟩
  rcases Qt e with⟨c1,e⟩|⟨c1,e⟩
  ·simp only [beq_iff_eq]at c1
   obtain⟨g,hg,e⟩:=Qc e
   obtain⟨rfl,q⟩:=k3 g e
   exact fin c1 hg q
  have e1:=(k3 _ e).1
  simp only [beq_eq_false_iff_ne]at c1
  exact absurd e1 c1
 rintro ⟨_,e,he,h1,h2,h3,b,hb,hg,ht,hv⟩
 obtain⟨k1,k2,_⟩:=QxI h hb
 rw [he]at k1;cases k1
 unfold Qfd
 rw [hb,Qi]
 simp only [show((0:Int)==0)=true from rfl,cond_true,hg,Qi]
 unfold Qdc
 simp only [show((0:Int) != 0)=false from rfl,cond_false]
 unfold Qkh
 rw [Qov,Qi,Qa4 h2]
 simp only [Qoh,cond_false]
 rw [Qov,Qi,Qa4 h3,Qi]
 unfold Qfx
 simp only [Qoh,cond_false,ht,Qi,show((0:Int) != 0)=false from rfl,hv]
end Go.Proofs
noncomputable section
namespace Go.Proofs
open Go Go.RowKit Go.Vm
def InI (a:Int):Prop:=-9223372036854775808≤a∧a≤9223372036854775807
instance (a : Int):Decidable (InI a):=by unfold InI;infer_instance
theorem Qvu (x:Int):IntKind.u64.wrap x=x % 18446744073709551616:=rfl
theorem Qja {x:Int}(h:0≤x∧x<18446744073709551616):IntKind.u64.wrap x=x:=by rw [Qvu];omega
theorem QxJ {x:Int}(h:0≤x):Qem .u64 x 32=x / 4294967296:=by
 unfold Qem
 rw [show min ((32:Int).toNat) (IntKind.bits .u64)=32 from rfl,Int.fdiv_eq_ediv_of_nonneg _ (by decide)]
 rfl
theorem QBJ {x:Int}(h:0≤x∧x<18446744073709551616):QdW .u64 x 4294967295=x % 4294967296:=by
 unfold QdW
 have e:((BitVec.ofInt (IntKind.bits .u64) x &&& BitVec.ofInt (IntKind.bits .u64) 4294967295).toNat:Int)=x % 4294967296:=by
  rw [BitVec.toNat_and,BitVec.toNat_ofInt,BitVec.toNat_ofInt]
  have h1:(x % ((2:Nat) ^ (IntKind.bits .u64):Nat)).toNat=x.toNat:=by
   show(x % 18446744073709551616).toNat=x.toNat
   omega
  have h2:((4294967295:Int) % ((2:Nat) ^ (IntKind.bits .u64):Nat)).toNat=2 ^ 32-1:=by decide
  rw [h1,h2,Nat.and_two_pow_sub_one_eq_mod]
  omega
 rw [e]
 exact Qja (by omega)
theorem QxK {x y:Int}(hx:0≤x∧x≤4294967295)(hy:0≤y∧y≤4294967295):0≤x*y∧x*y≤18446744065119617025:=by
 refine⟨Int.mul_nonneg hx.1 hy.1,?_⟩
 have:=Int.mul_le_mul hx.2 hy.2 hy.1 (by decide)
 omega
theorem QBK {x y:Int}(hx:0≤x∧x<18446744073709551616)(hy:0≤y∧y<18446744073709551616):Qec x y=some (x*y / 18446744073709551616,x*y % 18446744073709551616):=by
 unfold Qec
 rw [QxJ hx.1,QxJ hy.1,QBJ hx,QBJ hy,Qvu (x*y)]
 have e:x*y=(x / 4294967296)*(y / 4294967296)*18446744073709551616+((x / 4294967296)*(y % 4294967296)+(x % 4294967296)*(y / 4294967296))*4294967296+(x % 4294967296)*(y % 4294967296):=by
  have h1:x=(x / 4294967296)*4294967296+x % 4294967296:=by omega
  have h2:y=(y / 4294967296)*4294967296+y % 4294967296:=by omega
  generalize x / 4294967296=a at *
  generalize x % 4294967296=b at *
  generalize y / 4294967296=c at *
  generalize y % 4294967296=d at *
  subst h1 h2
  grind
 rw [e]
 have b1:=QxK (x:=x / 4294967296) (y:=y / 4294967296) (by omega) (by omega)
 have b2:=QxK (x:=x / 4294967296) (y:=y % 4294967296) (by omega) (by omega)
 have b3:=QxK (x:=x % 4294967296) (y:=y / 4294967296) (by omega) (by omega)
 have b4:=QxK (x:=x % 4294967296) (y:=y % 4294967296) (by omega) (by omega)
 generalize x / 4294967296*(y / 4294967296)=p at *
 generalize x / 4294967296*(y % 4294967296)=q at *
 generalize x % 4294967296*(y / 4294967296)=r at *
 generalize x % 4294967296*(y % 4294967296)=s at *
 rw [Qja (x:=s) (by omega),QxJ (x:=s) (by omega),Qja (x:=q) (by omega),Qja (x:=q+s / 4294967296) (by omega),QxJ (x:=q+s / 4294967296) (by omega),QBJ (x:=q+s / 4294967296) (by omega),Qja (x:=r) (by omega),Qja (x:=p) (by omega),
  Qja (x:=(q+s / 4294967296) % 4294967296+r) (by omega),QxJ (x:=(q+s / 4294967296) % 4294967296+r) (by omega),Qja (x:=p+(q+s / 4294967296) / 4294967296) (by omega),Qja (by omega)]
 congr 2
 omega
def QmX (a:Int):Int:=if a<0 then -a else a
theorem QyL {a:Int}(h:InI a):QhE a=some (QmX a):=by
 unfold QhE QmX InI at *
 by_cases c:a<0
 ·rw [Qa4 c,cond_true,if_pos c,Qvu,Qvu];congr 1;omega
 rw [Qa8 c,cond_false,if_neg c,Qvu];congr 1;omega
theorem QEe (a b:Int):QmX a*QmX b=QmX (a*b):=by
 unfold QmX
 by_cases c1:a<0<;>by_cases c2:b<0
 ·rw [if_pos c1,if_pos c2,if_neg (by have:=Int.mul_pos_of_neg_of_neg c1 c2;omega),Int.neg_mul_neg]
 ·rw [if_pos c1,if_neg c2]
  by_cases c3:b=0
  ·subst c3;simp
  rw [if_pos (Int.mul_neg_of_neg_of_pos c1 (by omega)),Int.neg_mul]
 ·rw [if_neg c1,if_pos c2]
  by_cases c3:a=0
  ·subst c3;simp
  rw [if_pos (Int.mul_neg_of_pos_of_neg (by omega) c2),Int.mul_neg]
 rw [if_neg c1,if_neg c2,if_neg (by have:=Int.mul_nonneg (show 0≤a by omega) (show 0≤b by omega);omega)]
def QBL (a b:Int):Int×Int:=if InI (a*b)then(a*b,0)else(0,6)
theorem Qz9 {a b:Int}(ha:InI a)(hb:InI b):Qf9 a b=some (QBL a b):=by
 unfold Qf9
 have h1:0≤QmX a∧QmX a≤9223372036854775808:=by unfold QmX InI at *;split<;>omega
 have h2:0≤QmX b∧QmX b≤9223372036854775808:=by unfold QmX InI at *;split<;>omega
 have h3:0≤QmX a*QmX b:=Int.mul_nonneg h1.1 h2.1
 rw [QyL ha,Qi,QyL hb,Qi,QBK (by omega) (by omega),Qi]
 rw [QEe]at h3 ⊢
 have sg:(decide (a<0) != decide (b<0))=true∨(decide (a<0) != decide (b<0))=false:=by cases (decide (a<0) != decide (b<0))<;>simp
 have hsg:(decide (a<0) != decide (b<0))=true→a*b≤0:=fun h=>by
  by_cases c1:a<0<;>by_cases c2:b<0<;>simp [c1,c2]at h
  ·exact Int.mul_nonpos_of_nonpos_of_nonneg (by omega) (by omega)
  exact Int.mul_nonpos_of_nonneg_of_nonpos (by omega) (by omega)
 have hsg2:(decide (a<0) != decide (b<0))=false→0≤a*b:=fun h=>by
  by_cases c1:a<0<;>by_cases c2:b<0<;>simp [c1,c2]at h
  ·have:=Int.mul_pos_of_neg_of_neg c1 c2;omega
  exact Int.mul_nonneg (by omega) (by omega)
 have hw:InI (a*b)→w64 (a*b)=a*b:=fun h=>Q6 h
 generalize hm:a*b=m at *
 unfold QBL
 rw [hm]
 unfold QmX at h3 ⊢
 rcases sg with c | c
 ·rw [c,cond_true]
  have:=hsg c
  unfold Qc7
  rw [hm,Qvu]
  simp only
  by_cases ci:InI m
  ·rw [if_pos ci,hw ci]
   unfold InI at ci
   rw [Qa8 (by split<;>omega),Qa8 (by split<;>omega)];rfl
  rw [if_neg ci]
  have:decide (0<(if m<0 then -m else m) / 18446744073709551616)=true∨decide ((9223372036854775807+1) % 18446744073709551616<(if m<0 then -m else m) % 18446744073709551616)=true:=by
   unfold InI at ci
   rw [Qx,Qx]
   split<;>omega
  rcases this with h | h
  ·rw [h];rfl
  rw [h,Bool.or_true];rfl
 rw [c,cond_false]
 have:=hsg2 c
 unfold Qc7
 rw [hm]
 simp only
 by_cases ci:InI m
 ·rw [if_pos ci,hw ci]
  unfold InI at ci
  rw [Qa8 (by split<;>omega),Qa8 (by split<;>omega)];rfl
 rw [if_neg ci]
 have:decide (0<(if m<0 then -m else m) / 18446744073709551616)=true∨decide ((9223372036854775807:Int)<(if m<0 then -m else m) % 18446744073709551616)=true:=by
  unfold InI at ci
  rw [Qx,Qx]
  split<;>omega
 rcases this with h | h
 ·rw [h];rfl
 rw [h,Bool.or_true];rfl
def QBM (a b:Int):Int×Int:=if InI (a+b)then(a+b,0)else(0,6)
theorem QDB {a b:Int}(ha:InI a)(hb:InI b):Qld a b=some (QBM a b):=by
 unfold Qld QBM
 by_cases ci:InI (a+b)
 ·rw [if_pos ci,Q6 ci]
  have:((decide (a<0)==decide (b<0))&&(decide (a+b<0) != decide (a<0)))=false:=by
   by_cases c1:a<0<;>by_cases c2:b<0<;>simp [c1,c2]<;>omega
  rw [this];rfl
 rw [if_neg ci]
 have hw:w64 (a+b)=if a+b<0 then a+b+18446744073709551616 else a+b-18446744073709551616:=by
  rw [Qtk];unfold wrap64 InI at *;split<;>omega
 have:((decide (a<0)==decide (b<0))&&(decide (w64 (a+b)<0) != decide (a<0)))=true:=by
  rw [hw]
  unfold InI at *
  by_cases c1:a<0<;>by_cases c2:b<0<;>by_cases c3:a+b<0<;>simp [c1,c2,c3]<;>omega
 rw [this];rfl
theorem QE3 {a b:Int}(ha:InI a)(hb:InI b):QcR 3 a b=some (QBL a b):=by
 unfold QcR
 rw [show((3:Int)==1)=false from rfl,cond_false,show((3:Int)==2)=false from rfl,cond_false,show((3:Int)==3)=true from rfl,cond_true,Qz9 ha hb];rfl
theorem QE4 {a b:Int}(ha:InI a)(hb:InI b):QcR 1 a b=some (QBM a b):=by
 unfold QcR
 rw [show((1:Int)==1)=true from rfl,cond_true,QDB ha hb];rfl
end Go.Proofs
noncomputable section
namespace Go.Proofs
open Go Go.RowKit Go.Vm
def QnM : Int→List (Int×Int)→Int×Int
 | n,[]=>(n,0)
 | n,p::r=>if InI (p.1*p.2)then(if InI (n+p.1*p.2)then QnM (n+p.1*p.2) r else(0,6))else(0,6)
theorem QDC {x y t:Int}(v1 v2:Int)(hx:InI x)(hy:InI y)(ht:InI t):QfP v1 v2 t (QhB.mk x y)=some (if InI (x*y)then(if InI (t+x*y)then .inr (t+x*y)else .inl (0,6))else .inl (0,6)):=by
 unfold QfP
 show(QcR 3 x y).bind _=_
 rw [QE3 hx hy,Qi]
 unfold QBL
 by_cases c:InI (x*y)
 ·rw [if_pos c,if_pos c]
  show(QcR 1 t (x*y)).bind _=_
  rw [QE4 ht c,Qi]
  unfold QBM
  by_cases c2:InI (t+x*y)
  ·rw [if_pos c2,if_pos c2];rfl
  rw [if_neg c2,if_neg c2];rfl
 rw [if_neg c,if_neg c];rfl
theorem QEf (a b:List Int)(ha:∀x∈a,InI x)(hb:∀x∈b,InI x)(hl:a.length≤maxLen):(Qjf 0 0 0 a b).bind (Sum.elim (fun q=>Qle q) (fun q=>Qlf q))=some (QnM 0 (a.zip b)):=by
 unfold Qjf
 have hlen:((a.zip b).length:Int)=min2 (a.length:Int) (b.length:Int):=by rw [List.length_zip];unfold min2;split<;>omega
 have main:=Qxp (body:=fun st:Int×Int=>Qdx a b 0 0 st.1 st.2) (l:=a.zip b) (fun _ (t:Int)=>InI t) (fun i t=>((i:Int),t))
  (fun _ t (p:Int×Int)=>if InI (p.1*p.2)∧InI (t+p.1*p.2)then .inl (t+p.1*p.2)else .inr (.inl (0,6,t))) (fun t=>(.inr t:(Int×Int×Int)⊕Int))
  (fun i t p ht hi hp=>by
   obtain⟨h1,h2⟩:=List.getElem?_zip_eq_some.1 hp
   have hx:=ha _ (QaL h1)
   have hy:=hb _ (QaL h2)
   refine⟨?_,fun t' e=>?_⟩
   ·show Qdx a b 0 0 (i:Int) t=_
    unfold Qdx
    rw [Qa4 (by rw [←hlen];omega),cond_true,QN,h1,Qi,QN,h2,Qi,QDC 0 0 hx hy ht,Qi]
    have hw:w64 ((i:Int)+1)=((i+1:Nat):Int):=Qw (n:=a.length) (QQ.1 h1).1 hl
    by_cases c:InI (p.1*p.2)
    ·by_cases c2:InI (t+p.1*p.2)
     ·rw [if_pos c,if_pos c2,if_pos ⟨c,c2⟩]
      show QiK i _=_
      unfold QiK;rw [hw];rfl
     rw [if_pos c,if_neg c2,if_neg fun h=>c2 h.2];rfl
    rw [if_neg c,if_neg fun h=>c h.1];rfl
   replace e:(if InI (p.1*p.2)∧InI (t+p.1*p.2)then Sum.inl (t+p.1*p.2)else Sum.inr (.inl (0,6,t)):Int⊕((Int×Int×Int)⊕Int))=.inl t':=e
   split at e
   ·rename_i c;cases e;exact c.2
   cases e)
  (fun t _=>by
   show Qdx a b 0 0 ((a.zip b).length:Int) t=_
   unfold Qdx
   rw [Qa8 (by rw [hlen];omega),cond_false]) 0 (by unfold InI;omega) (s0:=(0,0)) rfl
 rw [main,Qi]
 have key:∀(l:List (Int×Int)) (i:Nat) (t:Int),(Sum.elim (fun q:Int×Int×Int=>QmO q.1 q.2.1 q.2.2) (fun q=>QmP q) (QnI (fun (_:Nat) (t:Int) (p:Int×Int)=>if InI (p.1*p.2)∧InI (t+p.1*p.2)then .inl (t+p.1*p.2)else .inr (.inl (0,6,t))) (fun t=>(.inr t:(Int×Int×Int)⊕Int)) i t l)).bind (Sum.elim (fun q=>Qle q) (fun q=>Qlf q))=some (QnM t l):=by
  intro l
  induction l with
  | nil=>intro i t;rfl
  | cons p l ih=>
   intro i t
   rw [QnI,QnM]
   by_cases c:InI (p.1*p.2)
   ·by_cases c2:InI (t+p.1*p.2)
    ·rw [if_pos ⟨c,c2⟩,if_pos c,if_pos c2];exact ih _ _
    rw [if_neg fun h=>c2 h.2,if_pos c,if_neg c2];rfl
   rw [if_neg fun h=>c h.1,if_neg c];rfl
 exact key _ _ _
theorem QE5 {a b:List Int}(ha:∀x∈a,InI x)(hb:∀x∈b,InI x)(hl:a.length≤maxLen):Ql4 a b=some (QnM 0 (a.zip b)):=by
 unfold Ql4
 show(Qjf 0 0 0 a b).bind _=_
 exact QEf a b ha hb hl
def Qch : List Int→List Int→Int
 | x::a,y::b=>x*y+Qch a b
 | _,_=>0
end Go.Proofs
noncomputable section
namespace Go.Proofs
open Go Go.RowKit Go.Vm
theorem QE6 (n1:Qk)(h:QU n1):Qf (Qnu n1) fun r=>r=true→Qay n1∧n1.Places.length≤12∧n1.Tasks.length≤8:=by
 unfold Qnu
 refine T0 (QAR n1 h) fun x5 h5=>?_
 refine T1 (fun _=>T2 fun h=>by cases h) fun hc=>?_
 simp only [QcZ,QiB,QY]at hc
 have h5:=h5 hc.1
 refine T0 (QtN n1 h).self fun x11 h11=>T2 fun he=>?_
 obtain⟨a,b⟩:=x11
 have:a=0:=by simpa using he
 subst this
 exact⟨⟨h,h5.2.1,by omega,QyH n1 h h11.1⟩,by omega,by omega⟩
def RowsIn (arcs:Int)(r:List (List Int)):Prop:=r.length≤16∧∀row∈r,row.length≤16∧∀k∈row,0≤k∧k<arcs
def chI (arcs:Int)(o:Option (List (List Int))):Bool:=match o with
 | some r=>decide (r.length≤16)&&r.all fun row=>decide (row.length≤16)&&row.all fun k=>decide (0≤k)&&decide (k<arcs)
 | none=>false
theorem QAa {arcs:Int}{o:Option (List (List Int))}(h:chI arcs o=true):Qf o (RowsIn arcs):=by
 cases o with
 | none=>cases h
 | some r=>
  simp only [chI,Qz,Qx,Qac]at h
  exact T2 h
theorem QDR {arcs:Int}(h0:¬arcs<0)(h1:¬16<arcs):arcs=0∨arcs=1∨arcs=2∨arcs=3∨arcs=4∨arcs=5∨arcs=6∨arcs=7∨arcs=8∨arcs=9∨arcs=10∨arcs=11∨arcs=12∨arcs=13∨arcs=14∨arcs=15∨arcs=16:=by omega
set_option maxRecDepth 100000 in
theorem Qvv (kind arcs:Int):Qf (QaF kind arcs) (RowsIn arcs):=by
 by_cases hg:((decide (arcs<0))||((decide (16<arcs))||((kind==3)&&(decide (4<arcs)))))=true
 ·unfold QaF
  rw [hg]
  exact T2 ⟨by simp,fun r h=>by cases h⟩
 simp only [QdN,Qz,Qx,beq_iff_eq,not_or,not_and]at hg
 obtain⟨h0,h1,h2⟩:=hg
 by_cases e1:kind=1
 ·subst e1
  rcases QDR h0 h1 with rfl | rfl | rfl | rfl | rfl | rfl | rfl | rfl | rfl | rfl | rfl | rfl | rfl | rfl | rfl | rfl | rfl<;>exact QAa (by kernel_rfl)
 by_cases e2:kind=2
 ·subst e2
  rcases QDR h0 h1 with rfl | rfl | rfl | rfl | rfl | rfl | rfl | rfl | rfl | rfl | rfl | rfl | rfl | rfl | rfl | rfl | rfl<;>exact QAa (by kernel_rfl)
 by_cases e3:kind=3
 ·subst e3
  have h3:=h2 rfl
  have:arcs=0∨arcs=1∨arcs=2∨arcs=3∨arcs=4:=by omega
  rcases this with rfl | rfl | rfl | rfl | rfl<;>exact QAa (by kernel_rfl)
 have f1:(kind==1)=false:=by simpa using e1
 have f2:(kind==2)=false:=by simpa using e2
 have f3:(kind==3)=false:=by simpa using e3
 unfold QaF Qea
 rw [f1,f2,f3]
 exact T1 (fun _=>T2 ⟨by simp,fun r h=>by cases h⟩) fun _=>T2 ⟨by simp,fun r h=>by cases h⟩
def Eff (n:Qk)(b:Int)(e:List Int):Prop:=e.length=n.Places.length∧∀x∈e,-b≤x∧x≤b
theorem Eff.mono {n:Qk}{a b:Int}{e:List Int}(h:Eff n a e)(hb:a≤b):Eff n b e:=⟨h.1,fun x hx=>by have:=h.2 x hx;omega⟩
theorem Qtr (l:List Int)(p k B:Int)(hB:0≤B∧B≤1000)(hk:-1≤k∧k≤1)(hl:∀x∈l,-B≤x∧x≤B):Qf (QeL l p k) fun r=>r.length=l.length∧∀x∈r,-(B+1)≤x∧x≤B+1:=by
 unfold QeL
 refine T1 (fun hc=>?_) fun _=>T2 ⟨rfl,fun x hx=>by have:=hl x hx;omega⟩
 simp only [Qz,Qx]at hc
 refine T0 (T4 hc.1 hc.2) fun e he=>?_
 have:=hl e he
 refine T0 (T4 hc.1 hc.2) fun _ _=>T2 ⟨by simp,fun x hx=>?_⟩
 rcases Qzc hx with hx | rfl
 ·have:=hl x hx;omega
 rw [Q6 (by omega)];omega
theorem QE7 (n:Qk)(t:QA)(row l:List Int)(hr:row.length≤16)(hk:∀k∈row,0≤k∧k<(t.Ins.length:Int))(hl:Eff n 0 l):Qf (QE (fun st=>Qb4 row t st.1 st.2) (0,l)) (Eff n 16):=by
 refine Qf.up row.length (fun st=>st.1) (fun st=>Eff n st.1 st.2) rfl hl (fun i st hi hn hJ=>?_)
 obtain⟨x,l⟩:=st
 replace hi:x=(i:Int):=hi
 subst hi
 replace hJ:Eff n (i:Int) l:=hJ
 show Qf (Qb4 row t i l) _
 unfold Qb4
 refine T1 (fun hc=>?_) (fun hc=>T2 (Qn (hJ.mono (by omega))))
 simp only [Qx]at hc
 refine T0 (T4 (by omega) hc) fun k hk'=>?_
 have:=hk k hk'
 refine T0 (T4 this.1 this.2) fun a _=>?_
 refine T0 (Qtr l a.Place (-1) i (by omega) (by omega) hJ.2) fun l' hl'=>?_
 refine T0 (T5 (by simpa using hl'.1)) fun _ _=>?_
 have hw:w64 ((i:Int)+1)=(i:Int)+1:=Q6 (by omega)
 refine T2 (Qy ⟨by omega,hw,hl'.1.trans hJ.1,?_⟩)
 show ∀x∈l',-(w64 ((i:Int)+1))≤x∧x≤w64 ((i:Int)+1)
 rw [hw];exact hl'.2
theorem QE8 (n:Qk)(t:QA)(row l:List Int)(hr:row.length≤16)(hk:∀k∈row,0≤k∧k<(t.Outs.length:Int))(hl:Eff n 16 l):Qf (QE (fun st=>Qb5 row t st.1 st.2) (0,l)) (Eff n 32):=by
 refine Qf.up row.length (fun st=>st.1) (fun st=>Eff n (16+st.1) st.2) rfl hl (fun i st hi hn hJ=>?_)
 obtain⟨x,l⟩:=st
 replace hi:x=(i:Int):=hi
 subst hi
 replace hJ:Eff n (16+(i:Int)) l:=hJ
 show Qf (Qb5 row t i l) _
 unfold Qb5
 refine T1 (fun hc=>?_) (fun hc=>T2 (Qn (hJ.mono (by omega))))
 simp only [Qx]at hc
 refine T0 (T4 (by omega) hc) fun k hk'=>?_
 have:=hk k hk'
 refine T0 (T4 this.1 this.2) fun a _=>?_
 refine T0 (Qtr l a.Place 1 (16+i) (by omega) (by omega) hJ.2) fun l' hl'=>?_
 refine T0 (T5 (by simpa using hl'.1)) fun _ _=>?_
 have hw:w64 ((i:Int)+1)=(i:Int)+1:=Q6 (by omega)
 refine T2 (Qy ⟨by omega,hw,hl'.1.trans hJ.1,?_⟩)
 show ∀x∈l',-(16+w64 ((i:Int)+1))≤x∧x≤16+w64 ((i:Int)+1)
 rw [hw];intro x hx;have:=hl'.2 x hx;omega
def Qc9 (n:Qk)(m:Int)(l:List (List Int)):Prop:=(l.length:Int)≤m∧∀e∈l,Eff n 32 e
theorem Qc9.mono {n:Qk}{a b:Int}{l:List (List Int)}(h:Qc9 n a l)(hb:a≤b):Qc9 n b l:=⟨by have:=h.1;omega,h.2⟩
theorem QE9 (n:Qk)(t:QA)(ins:List Int)(outs l:List (List Int))(m:Int)(hp:n.Places.length≤12)(hi:ins.length≤16∧∀k∈ins,0≤k∧k<(t.Ins.length:Int))(ho:RowsIn (t.Outs.length:Int) outs)(hm:m≤100000)(hl:Qc9 n m l):Qf (QE (fun st=>Qb6 outs n ins t st.1 st.2) (0,l)) (Qc9 n (m+16)):=by
 have ho1:=ho.1
 refine Qf.up outs.length (fun st=>st.1) (fun st=>Qc9 n (m+st.1) st.2) rfl (hl.mono (by show m≤m+0;omega)) (fun i st hi2 hn hJ=>?_)
 obtain⟨x,l⟩:=st
 replace hi2:x=(i:Int):=hi2
 subst hi2
 replace hJ:Qc9 n (m+(i:Int)) l:=hJ
 show Qf (Qb6 outs n ins t i l) _
 unfold Qb6
 refine T1 (fun hc=>?_) (fun hc=>T2 (Qn (hJ.mono (by omega))))
 simp only [Qx]at hc
 refine T0 (T4 (by omega) hc) fun row hrow=>?_
 have hrow:=ho.2 row hrow
 refine T0 (T5 (by simp;omega)) fun _ _=>?_
 refine T0 (QE7 n t ins _ hi.1 hi.2 ⟨by simp,fun x hx=>by have:=(List.mem_replicate.1 hx).2;omega⟩) fun l1 h1=>?_
 show Qf (QdE row t l i l1) _
 unfold QdE
 refine T0 (QE8 n t row l1 hrow.1 hrow.2 h1) fun l2 h2=>?_
 show Qf (QdD l i l2) _
 unfold QdD
 have:=hJ.1
 refine T0 (T5 (by simp;omega)) fun _ _=>?_
 have hw:w64 ((i:Int)+1)=(i:Int)+1:=Q6 (by omega)
 refine T2 (Qy ⟨by omega,hw,?_,fun e he=>?_⟩)
 ·show((l++[l2]).length:Int)≤m+w64 ((i:Int)+1)
  rw [hw,QfJ,Qnb];omega
 rcases Qco.1 he with he | he
 ·exact hJ.2 e he
 rw [Qk2.1 he];exact h2
theorem QFa (n:Qk)(t:QA)(ins l:List (List Int))(m:Int)(hp:n.Places.length≤12)(hi:RowsIn (t.Ins.length:Int) ins)(hm:m≤10000)(hl:Qc9 n m l):Qf (QE (fun st=>Qb7 ins t n st.1 st.2) (0,l)) (Qc9 n (m+256)):=by
 have hi1:=hi.1
 refine Qf.up ins.length (fun st=>st.1) (fun st=>Qc9 n (m+16*st.1) st.2) rfl (hl.mono (by show m≤m+16*0;omega)) (fun i st hi2 hn hJ=>?_)
 obtain⟨x,l⟩:=st
 replace hi2:x=(i:Int):=hi2
 subst hi2
 replace hJ:Qc9 n (m+16*(i:Int)) l:=hJ
 show Qf (Qb7 ins t n i l) _
 unfold Qb7
 refine T1 (fun hc=>?_) (fun hc=>T2 (Qn (hJ.mono (by omega))))
 simp only [Qx]at hc
 refine T0 (T4 (by omega) hc) fun row hrow=>?_
 refine T0 (Qvv _ _) fun outs ho=>?_
 refine T0 (QE9 n t row outs l _ hp (hi.2 row hrow) ho (by omega) hJ) fun l1 h1=>?_
 show Qf (QdF i l1) _
 unfold QdF
 have hw:w64 ((i:Int)+1)=(i:Int)+1:=Q6 (by omega)
 refine T2 (Qy ⟨by omega,hw,?_⟩)
 show Qc9 n (m+16*w64 ((i:Int)+1)) l1
 rw [hw];exact h1.mono (by omega)
theorem QAb (n:Qk)(hp:n.Places.length≤12)(ht:n.Tasks.length≤8):Qf (Qbc n) (Qc9 n 2048):=by
 unfold Qbc
 refine T0 (Qf.up n.Tasks.length (fun st=>st.1) (fun st=>Qc9 n (256*st.1) st.2) (Q:=Qc9 n 2048) rfl ⟨by simp,fun e he=>by cases he⟩ (fun i st hi2 hn hJ=>?_)) fun q hq=>T2 hq
 obtain⟨x,l⟩:=st
 replace hi2:x=(i:Int):=hi2
 subst hi2
 replace hJ:Qc9 n (256*(i:Int)) l:=hJ
 show Qf (QdH n i l) _
 unfold QdH
 refine T1 (fun hc=>?_) (fun hc=>T2 (Qn (hJ.mono (by omega))))
 simp only [Qx]at hc
 refine T0 (T4 (by omega) hc) fun t _=>?_
 refine T0 (Qvv _ _) fun ins hins=>?_
 refine T0 (QFa n t ins l _ hp hins (by omega) hJ) fun l1 h1=>?_
 show Qf (QdG i l1) _
 unfold QdG
 have hw:w64 ((i:Int)+1)=(i:Int)+1:=Q6 (by omega)
 refine T2 (Qy ⟨by omega,hw,?_⟩)
 show Qc9 n (256*w64 ((i:Int)+1)) l1
 rw [hw];exact h1.mono (by omega)
def QgO (n:Qk)(k:Int):Bool:=decide (k<0)||decide ((n.Places.length:Int)≤k)
theorem QrB {α:Type}{l:List α}(p:α→Bool){body:Int→Option (Int⊕(Int⊕Unit))}(hs:∀(i:Nat) x,i<l.length→l[i]? = some x→body (i:Int)=some (bif p x then .inr (.inl (i:Int))else .inl ((i+1:Nat):Int)))(hf:body (l.length:Int)=some (.inr (.inr ()))):
  QE body 0=some ((Qdt (fun _ x=>p x) 0 l).elim (.inr ()) fun i=>.inl (i:Int)):=
 QyG (ρ:=Int⊕Unit) (fun i:Nat=>(i:Int)) (fun _ x=>p x) (fun i=>Sum.inl (i:Int)) (Sum.inr ()) hs hf rfl
theorem Qv8 {α:Type}{p:Nat→α→Bool}:∀{l:List α} {k n:Nat},Qdt p k l=some n→∀i x,k+i<n→l[i]? = some x→p (k+i) x=false:=by
 intro l
 induction l with
 | nil=>intro k n h;cases h
 | cons y l ih=>
  intro k n h i x hi hx
  rw [Qdt]at h
  cases hp:p k y with
  | true=>rw [hp]at h;cases h;omega
  | false=>
   rw [hp]at h
   cases i with
   | zero=>cases hx;exact hp
   | succ i=>
    have:=ih h i x (by omega) hx
    rwa [show k+1+i=k+(i+1) by omega]at this
theorem QAc {α:Type}(p:α→Bool)(l:List α):(decide (0≤(Qdt (fun _ x=>p x) 0 l).elim (-1:Int) fun i=>(i:Int)))=l.any p:=by
 cases h:Qdt (fun _ x=>p x) 0 l with
 | none=>
  have h2:=QpE h
  show decide ((0:Int)≤-1)=_
  rw [eq_comm,show decide ((0:Int)≤-1)=false from rfl,List.any_eq_false]
  intro x hx
  obtain⟨i,hi⟩:=Qpm hx
  rw [h2 i x hi];simp
 | some i=>
  obtain⟨j,x,_,h3,h4⟩:=QpD h
  show decide ((0:Int)≤(i:Int))=_
  rw [Qa4 (by omega),eq_comm,Qm8]
  exact⟨x,QaL h3,h4⟩
theorem QyM (l:List Int)(n:Qk)(hl:l.length≤maxLen):QcN l n=some ((Qdt (fun _ x=>QgO n x) 0 l).elim (-1) fun i=>(i:Int)):=by
 unfold QcN
 rw [QrB (l:=l) (QgO n) (fun i x hi hx=>by
  show QaH l n i=_
  unfold QaH
  rw [Qa4 (by omega),cond_true,QN,hx,Qi,show Qeb x n=some (QgO n x)from rfl,Qi,Qw hi hl]
  cases QgO n x<;>rfl) (by
  show QaH l n l.length=_
  unfold QaH
  rw [Qa8 (by omega),cond_false])]
 cases Qdt (fun _ x=>QgO n x) 0 l<;>rfl
theorem QDD (n:Qk)(l:List Int)(hl:l.length≤1000):Qf (QaV l n) fun r=>r.length≤1000∧∀k∈r,QgO n k=false:=by
 unfold QaV
 rw [QyM l n (by unfold maxLen;omega),Qi]
 cases hs:Qdt (fun _ x=>QgO n x) 0 l with
 | none=>
  refine T1 (fun _=>T2 ⟨hl,fun k hk=>?_⟩) fun hc=>by cases hc
  obtain⟨i,hi⟩:=Qpm hk
  have:=QpE hs i k hi
  exact this
 | some i0=>
  obtain⟨i1,x0,e0,hx0,_⟩:=QpD hs
  have hi0:i0<l.length:=by have:=(QQ.1 hx0).1;omega
  refine T1 (fun hc=>by simp at hc) fun _=>?_
  show Qf ((QE _ ((i0:Int),w64 ((i0:Int)+1),l)).bind _) _
  have hw:w64 ((i0:Int)+1)=(i0:Int)+1:=Q6 (by omega)
  refine T0 (Qf.up (l.length-(i0+1)) (fun st=>st.2.1-((i0:Int)+1)) (fun st=>0≤st.1∧st.1<st.2.1∧st.2.2.length=l.length∧∀k∈st.2.2.take st.1.toNat,QgO n k=false) (Q:=fun q:Int×List Int=>0≤q.1∧q.1≤(l.length:Int)∧q.2.length=l.length∧∀k∈q.2.take q.1.toNat,QgO n k=false) (by show w64 ((i0:Int)+1)-((i0:Int)+1)=0;omega) ⟨by show(0:Int)≤i0;omega,by show(i0:Int)<w64 ((i0:Int)+1);omega,rfl,?_⟩ (fun i st hi hn hJ=>?_)) (fun q hq=>?_)
  ·show ∀k∈l.take (i0:Int).toNat,QgO n k=false
   rw [QcL]
   intro k hk
   obtain⟨i,hi⟩:=Qpm hk
   have hlt:=(QQ.1 hi).1
   rw [Qfh]at hlt
   rw [Qcn,if_pos (by omega)]at hi
   exact Qv8 hs i k (by omega) hi
  ·obtain⟨a,j,l2⟩:=st
   replace hi:j-((i0:Int)+1)=i:=hi
   obtain⟨j1,j2,j3,j4⟩:0≤a∧a<j∧l2.length=l.length∧∀k∈l2.take a.toNat,QgO n k=false:=hJ
   show Qf (Qau n a j l2) _
   unfold Qau
   refine T1 (fun hc=>?_) (fun hc=>T2 (Qn ⟨j1,?_,j3,j4⟩))
   ·simp only [Qx]at hc
    have hj:j.toNat<l2.length:=by omega
    have hw2:w64 (j+1)=j+1:=Q6 (by omega)
    have hw3:w64 (a+1)=a+1:=Q6 (by omega)
    rw [Qsw (by omega) (by omega),Qi,show Qeb l2[j.toNat] n=some (QgO n l2[j.toNat])from rfl,Qi]
    refine T1 (fun hc2=>?_) fun hc2=>?_
    ·have hc2:QgO n l2[j.toNat]=false:=by simpa using hc2
     refine T0 (T4 (by omega) (by omega)) fun _ _=>?_
     refine T2 (Qy ⟨by omega,by show w64 (j+1)-((i0:Int)+1)=_;omega,by show 0≤w64 (a+1);omega,by show w64 (a+1)<w64 (j+1);omega,by simpa using j3,?_⟩)
     show ∀k∈(l2.set a.toNat l2[j.toNat]).take (w64 (a+1)).toNat,QgO n k=false
     rw [hw3,show(a+1).toNat=a.toNat+1 by omega,Qdp,QqU (by omega),List.take_set_of_le (QbY _)]
     intro k hk
     rcases Qco.1 hk with hk | hk
     ·exact j4 k hk
     simp at hk;subst hk;exact hc2
    exact T2 (Qy ⟨by omega,by show w64 (j+1)-((i0:Int)+1)=_;omega,j1,by show a<w64 (j+1);omega,j3,j4⟩)
   simp only [QY]at hc
   omega
  obtain⟨a,l2⟩:=q
  obtain⟨q1,q2,q3,q4⟩:0≤a∧a≤(l.length:Int)∧l2.length=l.length∧∀k∈l2.take a.toNat,QgO n k=false:=hq
  show Qf (Qav a l2) _
  unfold Qav
  refine T0 (T5 (by simp;omega)) fun _ _=>?_
  refine T0 (T5 (by simp;omega)) fun _ _=>T2 ?_
  rw [QsK (by simp;omega),List.take_take,Nat.min_self]
  exact⟨by simp;omega,q4⟩
theorem QCD {l:List Int}{x:Int}(h:x∈Qes l):x∈l:=by
 unfold Qes Lib.compact Lib.compactUpTo at h
 rw [QG]at h
 obtain⟨j,hj,rfl⟩:=h
 have hj:=QiD.1 (Qhe.1 hj).1
 rw [getElem!_pos l.toArray j (by simpa using hj)]
 simp
theorem QAd (n:Qk)(h:Qay n)(ht:n.Tasks.length≤8):Qf (QaD n) fun r=>r.length≤1000∧∀k∈r,0≤k∧k<(n.Places.length:Int):=by
 unfold QaD
 refine T0 (Qf.up n.Tasks.length (fun st=>st.1) (fun st=>(st.2.length:Int)≤16*st.1) (Q:=fun l:List Int=>l.length≤128) rfl (by simp) (fun i st hi2 hn hJ=>?_)) fun l hl=>?_
 ·obtain⟨x,l⟩:=st
  replace hi2:x=(i:Int):=hi2
  subst hi2
  replace hJ:(l.length:Int)≤16*(i:Int):=hJ
  show Qf (QdI n i l) _
  unfold QdI
  refine T1 (fun hc=>?_) (fun hc=>T2 (Qn (by omega)))
  simp only [Qx]at hc
  refine T0 (T4 (by omega) hc) fun t htm=>?_
  have:=(h.tk t htm).2.2.2
  refine T0 (T5 (by simp;omega)) fun _ _=>?_
  have hw:w64 ((i:Int)+1)=(i:Int)+1:=Q6 (by omega)
  refine T2 (Qy ⟨by omega,hw,?_⟩)
  show((l++t.Cancel).length:Int)≤16*w64 ((i:Int)+1)
  rw [hw,QfJ];omega
 show Qf (QdJ n l) _
 unfold QdJ QaW Qd1
 refine T0 (QDD n l (by omega)) fun l1 h1=>?_
 rw [QnH (by omega),Qi,Qi]
 refine T0 (T5 (by simp [Qhi])) fun _ _=>?_
 rw [QnH (by rw [Qhi];omega),Qi,Qi]
 refine T2 ⟨?_,fun k hk=>?_⟩
 ·refine Qaw ?_ h1.1
  rw [←Qhi l1]
  unfold Qes Lib.compact Lib.compactUpTo
  rw [Qk0]
  refine Qaw (Qvg _ _) ?_
  simp
 have:=h1.2 k ((Qpv l1).mem_iff.1 (QCD hk))
 unfold QgO at this
 simp at this
 omega
end Go.Proofs
noncomputable section
namespace Go.Proofs
open Go Go.RowKit Go.Vm
theorem QxL {τ ρ π:Type}{body:τ→π→Option (τ⊕ρ)}{s:τ}{p q:π}{o:τ⊕ρ}(h1:QbA body s [p,q]=some o)(h2:QbA body s [q,p]=some o):QcE body s [p,q]=some o:=by
 refine Qd0.2 ⟨fun l hl=>?_,h1⟩
 have hlen:=hl.length_eq
 match l,hl,hlen with
 | [a,b],hl,_=>
  have ha:a∈[p,q]:=hl.mem_iff.1 Q5
  simp only [Qaa,List.not_mem_nil,or_false]at ha
  rcases ha with rfl | rfl
  ·have:=List.perm_singleton.1 ((List.perm_cons a).1 hl)
   rw [this]
  have:=List.perm_singleton.1 ((List.perm_cons a).1 (hl.trans (List.Perm.swap a p [])))
  rw [this,h2,h1]
def Qr1 : Qk:=(Qoq).getD (Qk.mk [] [] [] 0 0)
def Qu8 : List (Int×List Int):=[(0,[-1,1,0]),(2,[0,0,1])]
theorem QBN : Qcz 3 Qu8 1=some [1,1,0]:=by
 unfold Qcz
 rw [show Qu8=[(0,[-1,1,0]),(2,[0,0,1])]from rfl,QxL (o:=.inl 1) (by kernel_rfl) (by kernel_rfl),Qi]
 show Qcu 3 1 _ 1=_
 unfold Qcu
 rw [show chk (decide ((0:Int)≤3)&&decide ((3:Int)≤3)&&decide ((3:Int)≤4294967296))=some () by kernel_rfl,Qi,show idx (List.replicate (3:Int).toNat (0:Int)) 1=some 0 by kernel_rfl,Qi,
  QxL (o:=.inl [1,1,0]) (by kernel_rfl) (by kernel_rfl)]
 rfl
theorem QAI : QfB Qr1=some ([[1,1,0]],0):=by
 have h1:QfB Qr1=Qgv Qr1 Qu8:=by kernel_rfl
 rw [h1]
 unfold Qgv
 have b0:QaX Qr1 Qu8 0 []=some (.inl (1,[])):=by kernel_rfl
 have b1:QaX Qr1 Qu8 1 []=some (.inl (2,[[1,1,0]])):=by
  unfold QaX
  rw [show decide ((1:Int)<(Qr1.Places.length:Int))=true by kernel_rfl,cond_true,show(QR Qu8 1).isSome=false by kernel_rfl,cond_false,show(Qr1.Places.length:Int)=3 by kernel_rfl,QBN]
  kernel_rfl
 have b2:QaX Qr1 Qu8 2 [[1,1,0]]=some (.inl (3,[[1,1,0]])):=by kernel_rfl
 have b3:QaX Qr1 Qu8 3 [[1,1,0]]=some (.inr [[1,1,0]]):=by kernel_rfl
 rw [Qcx,b0];simp only [Qi]
 rw [Qcx,b1];simp only [Qi]
 rw [Qcx,b2];simp only [Qi]
 rw [Qcx,b3]
 rfl
theorem QBO : Qmv=some true:=by
 unfold Qmv
 rw [show Qoq=some Qr1 by kernel_rfl,Qi,QAI,Qi]
 kernel_rfl
end Go.Proofs
noncomputable section
namespace Go.Proofs
open Go Go.RowKit Go.Vm
def Qzj (E:List Int)(F:List (List Int))(w:List Int):Prop:=(∀k∈E,w.getD k.toNat 0=0)∧∀e∈F,Qch w e=0
end Go.Proofs
namespace Go.Vm
abbrev Vec : Type:=Nat→Int
def dexp : (List Nat→Int)→Vec→List Nat→Int
 | _,_,[]=>0
 | f,v,c::cs=>v c*f cs-dexp (fun l=>f (c::l)) v cs
def det : List Vec→List Nat→Int
 | [],[]=>1
 | [],_::_=>0
 | v::vs,cs=>dexp (det vs) v cs
theorem QAe (v:Vec):∀(cs:List Nat) (f:List Nat→Int),dexp (fun l=>-f l) v cs=-dexp f v cs
 | [],f=>rfl
 | c::cs,f=>by
  rw [dexp,dexp,QAe v cs (fun l=>f (c::l)),Int.mul_neg];omega
theorem QBP (v:Vec){cs:List Nat}{f g:List Nat→Int}(h:∀l,f l=g l):dexp f v cs=dexp g v cs:=by
 rw [show f=g from funext h]
def QgP (f:List Nat→Int):Prop:=∀p a b s,f (p++a::b::s)=-f (p++b::a::s)
theorem QgP.cons {f:List Nat→Int}(h:QgP f)(c:Nat):QgP fun l=>f (c::l):=fun p a b s=>h (c::p) a b s
theorem QgP.app {f:List Nat→Int}(h:QgP f)(q:List Nat):QgP fun l=>f (q++l):=fun p a b s=>by
 have:=h (q++p) a b s
 simpa [QhT] using this
theorem QgP.dexp (v:Vec):∀(p:List Nat) {f:List Nat→Int},QgP f→∀a b s,dexp f v (p++a::b::s)=-dexp f v (p++b::a::s)
 | [],f,h,a,b,s=>by
  show v a*f (b::s)-(v b*f (a::s)-Vm.dexp (fun l=>f (a::b::l)) v s)=-(v b*f (a::s)-(v a*f (b::s)-Vm.dexp (fun l=>f (b::a::l)) v s))
  rw [QBP v (f:=fun l=>f (a::b::l)) (g:=fun l=>-f (b::a::l)) fun l=>h [] a b l,QAe v s (fun l=>f (b::a::l))]
  omega
 | c::p,f,h,a,b,s=>by
  show v c*f (p++a::b::s)-Vm.dexp (fun l=>f (c::l)) v (p++a::b::s)=-(v c*f (p++b::a::s)-Vm.dexp (fun l=>f (c::l)) v (p++b::a::s))
  rw [h p a b s,QgP.dexp v p (h.cons c) a b s,Int.mul_neg]
  omega
theorem Qts : ∀vs:List Vec,QgP (det vs)
 | []=>fun p a b s=>by cases p<;>rfl
 | v::vs=>fun p a b s=>QgP.dexp v p (Qts vs) a b s
def sg : List Nat→Int
 | []=>1
 | _::p=>-sg p
theorem QCE (p:List Nat):sg p=1∨sg p=-1:=by
 induction p with
 | nil=>exact .inl rfl
 | cons _ p ih=>rcases ih with h | h<;>simp [sg,h]
theorem QgP.front : ∀(p:List Nat) {f:List Nat→Int},QgP f→∀a s,f (p++a::s)=sg p*f (a::(p++s))
 | [],f,h,a,s=>by simp [sg]
 | c::p,f,h,a,s=>by
  have h1:=QgP.front p (h.cons c) a s
  have h2:=h [] c a (p++s)
  show f (c::(p++a::s))=-sg p*f (a::c::(p++s))
  rw [h1]
  show sg p*f (c::a::(p++s))=_
  rw [show f (c::a::(p++s))=-f (a::c::(p++s))from h2]
  simp [Int.mul_neg,Int.neg_mul]
theorem QgP.twice {f:List Nat→Int}(h:QgP f)(a:Nat){l:List Nat}(hl:a∈l):f (a::l)=0:=by
 obtain⟨q,s,rfl⟩:=Qvc hl
 have h1:=QgP.front q (h.cons a) a s
 have h2:f (a::a::(q++s))=-f (a::a::(q++s)):=h [] a a (q++s)
 have h3:f (a::a::(q++s))=0:=by omega
 show f (a::(q++a::s))=0
 rw [h1]
 show sg q*f (a::a::(q++s))=0
 rw [h3,Qhd]
theorem QgP.at {f:List Nat→Int}(h:QgP f)(p s:List Nat){a:Nat}(ha:a∈p++s):f (p++a::s)=0:=by
 rw [QgP.front p h a s,h.twice a ha,Qhd]
inductive Qao (vs:List Vec):Vec→Prop where
 | zero:Qao vs (fun _=>0)
 | mem (v:Vec):v∈vs→Qao vs v
 | lin (a b:Int) (x y:Vec):Qao vs x→Qao vs y→Qao vs (fun j=>a*x j+b*y j)
theorem Qao.smul {vs:List Vec}{x:Vec}(h:Qao vs x)(a:Int):Qao vs fun j=>a*x j:=by
 have:=Qao.lin a 0 x x h h
 simpa using this
theorem Qao.sub {vs:List Vec}{x y:Vec}(a b:Int)(hx:Qao vs x)(hy:Qao vs y):Qao vs fun j=>a*x j-b*y j:=by
 have:=Qao.lin a (-b) x y hx hy
 have e:(fun j=>a*x j-b*y j)=fun j=>a*x j+-b*y j:=by
  funext j;rw [Int.neg_mul];rfl
 rw [e];exact this
theorem Qao.mono {vs ws:List Vec}(h:∀v∈vs,Qao ws v){x:Vec}(hx:Qao vs x):Qao ws x:=by
 induction hx with
 | zero=>exact .zero
 | mem v hv=>exact h v hv
 | lin a b x y _ _ h1 h2=>exact .lin a b x y h1 h2
theorem Qao.dexp {vs:List Vec}(v:Vec):∀(cs:List Nat) (f:Nat→List Nat→Int),(∀l,Qao vs fun j=>f j l)→Qao vs fun j=>dexp (f j) v cs
 | [],f,h=>.zero
 | c::cs,f,h=>by
  have h1:=Qao.dexp v cs (fun j l=>f j (c::l)) fun l=>h (c::l)
  have:=Qao.sub (v c) 1 (h cs) h1
  simpa [Vm.dexp] using this
theorem Qao.det : ∀(vs:List Vec) (cs:List Nat),Qao vs fun j=>det vs (j::cs)
 | [],cs=>by
  show Qao [] fun _=>0
  exact .zero
 | v::vs,cs=>by
  have up:∀{x},Qao vs x→Qao (v::vs) x:=fun h=>h.mono fun u hu=>.mem u (Qab _ hu)
  have h1:Qao (v::vs) fun j=>Vm.dexp (fun l=>Vm.det vs (j::l)) v cs:=up (Qao.dexp v cs (fun j l=>Vm.det vs (j::l)) fun l=>Qao.det vs l)
  have:=Qao.sub (Vm.det vs cs) 1 (Qao.mem v (Q5 (l:=vs))) h1
  have e:(fun j=>Vm.det (v::vs) (j::cs))=fun j=>Vm.det vs cs*v j-1*Vm.dexp (fun l=>Vm.det vs (j::l)) v cs:=by
   funext j
   show v j*Vm.det vs cs-Vm.dexp (fun l=>Vm.det vs (j::l)) v cs=_
   rw [QkX (v j),Int.one_mul]
  rw [e];exact this
def fac : Nat→Nat
 | 0=>1
 | n+1=>(n+1)*fac n
theorem QAW {m B:Nat}{v:Vec}(hv:∀j,(v j).natAbs≤m):∀(cs:List Nat) (f:List Nat→Int),(∀l,l.length+1=cs.length→(f l).natAbs≤B)→(dexp f v cs).natAbs≤cs.length*(m*B)
 | [],f,h=>by simp [dexp]
 | c::cs,f,h=>by
  have h1:=QAW hv cs (fun l=>f (c::l)) (fun l hl=>h (c::l) (by simp;omega))
  have h2:=h cs rfl
  have h3:(v c*f cs).natAbs≤m*B:=by rw [QhS];exact QpJ (hv c) h2
  rw [dexp,QeU,QcC,Nat.one_mul]
  have:=Int.natAbs_sub_le (v c*f cs) (dexp (fun l=>f (c::l)) v cs)
  omega
theorem QsE {m:Nat}:∀(vs:List Vec) (cs:List Nat),(∀v∈vs,∀j,(v j).natAbs≤m)→cs.length=vs.length→(det vs cs).natAbs≤fac vs.length*m ^ vs.length
 | [],[],_,_=>by simp [det,fac]
 | [],_::_,_,h=>by simp at h
 | v::vs,cs,hv,hl=>by
  have h1:=QAW (B:=fac vs.length*m ^ vs.length) (hv v Q5) cs (det vs) (fun l h=>QsE vs l (fun u hu=>hv u (Qab _ hu)) (by simp at hl;omega))
  rw [det]
  refine Qaw h1 ?_
  rw [hl,QeU,fac,Nat.pow_succ]
  apply Nat.le_of_eq
  simp [Qox,QlY,Nat.mul_left_comm]
abbrev Piv : Type:=List (Nat×Vec)
structure Red (rs:Piv):Prop where
 nd:(rs.map Prod.fst).Nodup
 ne:∀q∈rs,q.2 q.1≠0
 zr:∀q∈rs,∀p∈rs,p.1≠q.1→q.2 p.1=0
def comb (c:Nat→Int)(rs:Piv):Vec:=fun j=>(rs.map fun q=>c q.1*q.2 j).sum
theorem QAf (a b:Int)(c d:Nat→Int)(rs:Piv)(j:Nat):comb (fun p=>a*c p+b*d p) rs j=a*comb c rs j+b*comb d rs j:=by
 unfold comb
 induction rs with
 | nil=>simp
 | cons q rs ih=>
  simp only [QaZ,List.sum_cons,ih]
  rw [Int.add_mul,Int.mul_add,Int.mul_add,QgR,QgR]
  omega
theorem QDE {rs:Piv}(p:Nat):∀(hn:(rs.map Prod.fst).Nodup) (r:Vec),(p,r)∈rs→∀j,comb (fun k=>if k=p then 1 else 0) rs j=r j:=by
 induction rs with
 | nil=>intro _ r h;cases h
 | cons q rs ih=>
  intro hn r h j
  rw [QaZ,Qdo]at hn
  unfold comb at ih ⊢
  rw [QaZ,List.sum_cons]
  rcases Qaa.1 h with e | h
  ·subst e
   have:(rs.map fun q=>(if q.1=p then(1:Int)else 0)*q.2 j).sum=0:=by
    have key:∀l:Piv,(∀q∈l,q.1≠p)→(l.map fun q=>(if q.1=p then(1:Int)else 0)*q.2 j).sum=0:=by
     intro l
     induction l with
     | nil=>intro _;rfl
     | cons u l ih2=>
      intro hl
      rw [QaZ,List.sum_cons,if_neg (hl u Q5),ih2 fun x hx=>hl x (Qab _ hx)]
      simp
    exact key rs fun u hu e=>hn.1 (QG.2 ⟨u,hu,e⟩)
   rw [this];simp
  have hne:q.1≠p:=fun e=>hn.1 (QG.2 ⟨(p,r),h,e.symm⟩)
  have i2:=ih hn.2 r h j
  rw [i2]
  show(if q.1=p then(1:Int)else 0)*q.2 j+r j=r j
  rw [if_neg hne];simp
theorem Qao.comb {rs:Piv}(hn:(rs.map Prod.fst).Nodup){x:Vec}(h:Qao (rs.map Prod.snd) x):∃c:Nat→Int,∀j,x j=comb c rs j:=by
 induction h with
 | zero=>
  refine⟨fun _=>0,fun j=>?_⟩
  have:=QAf 0 0 (fun _=>0) (fun _=>0) rs j
  simpa using this.symm
 | mem v hv=>
  obtain⟨q,hq,rfl⟩:=QG.1 hv
  exact⟨fun k=>if k=q.1 then 1 else 0,fun j=>(QDE q.1 hn q.2 hq j).symm⟩
 | lin a b x y _ _ h1 h2=>
  obtain⟨c,hc⟩:=h1
  obtain⟨d,hd⟩:=h2
  exact⟨fun p=>a*c p+b*d p,fun j=>by show a*x j+b*y j=_;rw [QAf,hc,hd]⟩
theorem QAX {rs:Piv}(h:Red rs)(c:Nat→Int){q:Nat×Vec}(hq:q∈rs):comb c rs q.1=c q.1*q.2 q.1:=by
 have key:∀l:Piv,(l.map Prod.fst).Nodup→(∀u∈l,u∈rs)→(l.map fun u=>c u.1*u.2 q.1).sum=if q.1∈l.map Prod.fst then c q.1*q.2 q.1 else 0:=by
  intro l
  induction l with
  | nil=>intro _ _;rfl
  | cons u l ih=>
   intro hn hm
   rw [QaZ,Qdo]at hn
   rw [QaZ,List.sum_cons,ih hn.2 fun x hx=>hm x (Qab _ hx)]
   by_cases e:u.1=q.1
   ·have hu:u=q:=by
     have:=hm u Q5
     have nd:=h.nd
     rw [List.nodup_iff_pairwise_ne]at nd
     clear ih
     have inj:∀(l:Piv),(l.map Prod.fst).Nodup→∀a∈l,∀b∈l,a.1=b.1→a=b:=by
      intro l
      induction l with
      | nil=>intro _ a ha;cases ha
      | cons z l ih3=>
       intro hn a ha b hb e
       rw [QaZ,Qdo]at hn
       rcases Qaa.1 ha with ha | ha
       ·rcases Qaa.1 hb with hb | hb
        ·rw [ha,hb]
        exact absurd (QG.2 ⟨b,hb,by rw [←e,ha]⟩) hn.1
       rcases Qaa.1 hb with hb | hb
       ·exact absurd (QG.2 ⟨a,ha,by rw [e,hb]⟩) hn.1
       exact ih3 hn.2 a ha b hb e
     exact inj rs h.nd u this q hq e
    subst hu
    rw [if_neg hn.1,if_pos (by simp)];omega
   have hz:u.2 q.1=0:=h.zr u (hm u Q5) q hq (fun e2=>e e2.symm)
   rw [hz,Qhd,Int.zero_add]
   by_cases hi:q.1∈l.map Prod.fst
   ·rw [if_pos hi,if_pos (by simp only [QaZ];exact Qab _ hi)]
   rw [if_neg hi,if_neg (by simp only [QaZ];intro hh;exact(Qaa.1 hh).elim (fun hh=>e hh.symm) hi)]
 have:=key rs h.nd fun u hu=>hu
 rw [if_pos (QG.2 ⟨q,hq,rfl⟩)]at this
 exact this
theorem Red.inj {rs:Piv}(h:Red rs){x:Vec}(hx:Qao (rs.map Prod.snd) x)(hz:∀q∈rs,x q.1=0):∀j,x j=0:=by
 obtain⟨c,hc⟩:=hx.comb h.nd
 have h0:∀q∈rs,c q.1=0:=fun q hq=>by
  have h1:=hz q hq
  rw [hc,QAX h c hq]at h1
  rcases QjG.1 h1 with h2 | h2
  ·exact h2
  exact absurd h2 (h.ne q hq)
 intro j
 rw [hc]
 unfold comb
 have key:∀l:Piv,(∀q∈l,c q.1=0)→(l.map fun q=>c q.1*q.2 j).sum=0:=by
  intro l
  induction l with
  | nil=>intro _;rfl
  | cons u l ih=>intro hl;rw [QaZ,List.sum_cons,hl u Q5,ih fun x hx=>hl x (Qab _ hx)];simp
 exact key rs h0
def Qae (vs:List Vec)(x:Vec):Prop:=∃a:Int,a≠0∧Qao vs fun j=>a*x j
theorem Red.line {rs:Piv}(h:Red rs){x:Vec}(hx:Qae (rs.map Prod.snd) x){q:Nat×Vec}(hq:q∈rs)(hz:∀p∈rs,p.1≠q.1→x p.1=0)(j:Nat):q.2 q.1*x j=x q.1*q.2 j:=by
 obtain⟨a,ha,hs⟩:=hx
 have h1:=Qao.sub (q.2 q.1) (a*x q.1) hs (Qao.mem q.2 (QG.2 ⟨q,hq,rfl⟩))
 have h2:=h.inj h1 (fun p hp=>by
  by_cases e:p.1=q.1
  ·rw [e,QkX (a*x q.1)];simp
  rw [hz p hp e,h.zr q hq p hp e];simp) j
 have h3:a*(q.2 q.1*x j)=a*(x q.1*q.2 j):=by
  have e1:q.2 q.1*(a*x j)=a*(q.2 q.1*x j):=by rw [QkY]
  have e2:a*x q.1*q.2 j=a*(x q.1*q.2 j):=QgR _ _ _
  rw [e1,e2]at h2
  omega
 exact Int.eq_of_mul_eq_mul_left ha h3
theorem Qae.of {vs:List Vec}{x:Vec}(h:Qao vs x):Qae vs x:=⟨1,by decide,by simpa using h⟩
theorem Qae.zero {vs:List Vec}:Qae vs fun _=>0:=.of .zero
theorem Qae.lin {vs:List Vec}{x y:Vec}(a b:Int)(hx:Qae vs x)(hy:Qae vs y):Qae vs fun j=>a*x j+b*y j:=by
 obtain⟨c,hc,h1⟩:=hx
 obtain⟨d,hd,h2⟩:=hy
 refine⟨c*d,Int.mul_ne_zero hc hd,?_⟩
 have:=Qao.lin (d*a) (c*b) _ _ h1 h2
 have e:(fun j=>c*d*(a*x j+b*y j))=fun j=>d*a*(c*x j)+c*b*(d*y j):=by
  funext j
  rw [Int.mul_add]
  congr 1
  ·rw [QgR,QgR,QkY c d,QkY c a]
  rw [QgR,QgR,QkY d b]
 rw [e];exact this
theorem Qae.trans {vs ws:List Vec}{x:Vec}(h:Qao vs x)(hv:∀v∈vs,Qae ws v):Qae ws x:=by
 induction h with
 | zero=>exact .zero
 | mem v h=>exact hv v h
 | lin a b x y _ _ h1 h2=>exact h1.lin a b h2
theorem Qae.div {vs:List Vec}{x:Vec}{a:Int}(ha:a≠0)(h:Qae vs fun j=>a*x j):Qae vs x:=by
 obtain⟨c,hc,h1⟩:=h
 refine⟨c*a,Int.mul_ne_zero hc ha,?_⟩
 have e:(fun j=>c*a*x j)=fun j=>c*(a*x j):=by funext j;exact QgR _ _ _
 rw [e];exact h1
theorem Qae.transQ {vs ws:List Vec}{x:Vec}(h:Qae vs x)(hv:∀v∈vs,Qae ws v):Qae ws x:=by
 obtain⟨c,hc,h1⟩:=h
 exact Qae.div hc (Qae.trans h1 hv)
def QnN (x:Vec):Prop:=∀d:Nat,(∀j,d ∣ (x j).natAbs)→d=1
theorem QnN.fits {r R:Vec}{x y:Int}(hp:QnN r)(hx:x≠0)(hy:y≠0)(h:∀j,x*r j=y*R j):∃t:Int,t≠0∧x=y*t∧∀j,R j=t*r j:=by
 have hA:y.natAbs ∣ x.natAbs:=by
  have hy0:0<y.natAbs:=QqR.2 hy
  have hg:0<Nat.gcd y.natAbs x.natAbs:=QwS _ hy0
  have cop:=Nat.coprime_div_gcd_div_gcd hg
  obtain⟨y',ey⟩:=Nat.gcd_dvd_left y.natAbs x.natAbs
  obtain⟨x',ex⟩:=Nat.gcd_dvd_right y.natAbs x.natAbs
  generalize Nat.gcd y.natAbs x.natAbs=g at *
  have dy:y.natAbs / g=y':=by rw [ey];exact Qr4 _ hg
  have dx:x.natAbs / g=x':=by rw [ex];exact Qr4 _ hg
  rw [dy,dx]at cop
  have all:∀j,y' ∣ (r j).natAbs:=fun j=>by
   have h1:x.natAbs*(r j).natAbs=y.natAbs*(R j).natAbs:=by rw [←QhS,←QhS,h j]
   rw [ex,ey,Qox,Qox]at h1
   have h2:x'*(r j).natAbs=y'*(R j).natAbs:=Nat.eq_of_mul_eq_mul_left hg h1
   exact cop.dvd_of_dvd_mul_left ⟨_,h2⟩
  have:=hp y' all
  rw [ey,this,ex,Nat.mul_one];exact⟨x',rfl⟩
 obtain⟨t,ht⟩:=Int.natAbs_dvd_natAbs.1 hA
 refine⟨t,fun e=>hx (by rw [ht,e,Qhd]),ht,fun j=>?_⟩
 have h1:=h j
 rw [ht,QgR]at h1
 exact(Int.eq_of_mul_eq_mul_left hy h1).symm
theorem QoY {t a:Int}(ht:t≠0):a.natAbs≤(t*a).natAbs:=by
 rw [QhS]
 exact Nat.le_mul_of_pos_left _ (QqR.2 ht)
structure Qof (vs:List Vec) (rs:Piv):Prop where
 red:Red rs
 prim:∀q∈rs,QnN q.2
 spn:∀v∈vs,Qae (rs.map Prod.snd) v
 det:det vs (rs.map Prod.fst)≠0
 len:vs.length=rs.length
theorem Qof.cram {vs:List Vec}{rs:Piv}(h:Qof vs rs){p s:Piv}{q:Nat×Vec}(e:rs=p++q::s):
  ∃t:Int,t≠0∧Vm.det vs (rs.map Prod.fst)=q.2 q.1*t∧∀j,Vm.det vs (p.map Prod.fst++j::s.map Prod.fst)=t*q.2 j:=by
 have hq:q∈rs:=by rw [e];simp
 have hm:rs.map Prod.fst=p.map Prod.fst++q.1::s.map Prod.fst:=by rw [e];simp
 have hR:Qao vs fun j=>Vm.det vs (p.map Prod.fst++j::s.map Prod.fst):=by
  have:=(Qao.det vs (p.map Prod.fst++s.map Prod.fst)).smul (sg (p.map Prod.fst))
  have e2:(fun j=>Vm.det vs (p.map Prod.fst++j::s.map Prod.fst))=fun j=>sg (p.map Prod.fst)*Vm.det vs (j::(p.map Prod.fst++s.map Prod.fst)):=by
   funext j;exact QgP.front _ (Qts vs) j _
  rw [e2];exact this
 have hl:=h.red.line (x:=fun j=>Vm.det vs (p.map Prod.fst++j::s.map Prod.fst)) (Qae.trans hR h.spn) hq (fun u hu hne=>by
  refine QgP.at (Qts vs) _ _ ?_
  have:u.1∈rs.map Prod.fst:=QG.2 ⟨u,hu,rfl⟩
  rw [hm]at this
  rcases Qco.1 this with h1 | h1
  ·exact Qok _ h1
  rcases Qaa.1 h1 with h1 | h1
  ·exact absurd h1 hne
  exact QwR _ h1)
 have hd:=h.det
 rw [hm]at hd
 obtain⟨t,t1,t2,t3⟩:=(h.prim q hq).fits (x:=Vm.det vs (p.map Prod.fst++q.1::s.map Prod.fst)) (y:=q.2 q.1) (R:=fun j=>Vm.det vs (p.map Prod.fst++j::s.map Prod.fst)) hd (h.red.ne q hq) (fun j=>(hl j).symm)
 exact⟨t,t1,by rw [hm];exact t2,t3⟩
theorem Qof.le {m:Nat}{vs:List Vec}{rs:Piv}(h:Qof vs rs)(hv:∀v∈vs,∀j,(v j).natAbs≤m){q:Nat×Vec}(hq:q∈rs)(j:Nat):(q.2 j).natAbs≤fac vs.length*m ^ vs.length:=by
 obtain⟨p,s,e⟩:=Qvc hq
 obtain⟨t,t1,_,t3⟩:=h.cram e
 refine Qaw (QoY t1) ?_
 rw [←t3 j]
 refine QsE vs _ hv ?_
 rw [h.len,e];simp
theorem QrC (x:Vec):∀(cs:List Nat) (f:List Nat→Int),(∀c∈cs,x c=0)→dexp f x cs=0
 | [],_,_=>rfl
 | c::cs,f,h=>by
  rw [dexp,h c Q5,QrC x cs _ fun d hd=>h d (Qab _ hd)];simp
theorem Qv9 (x:Vec)(a:Nat)(s:List Nat)(hs:∀c∈s,x c=0):∀(p:List Nat) (f:List Nat→Int),(∀c∈p,x c=0)→dexp f x (p++a::s)=sg p*(x a*f (p++s))
 | [],f,_=>by
  show x a*f s-dexp (fun l=>f (a::l)) x s=_
  rw [QrC x s _ hs];simp [sg]
 | c::p,f,h=>by
  show x c*f (p++a::s)-dexp (fun l=>f (c::l)) x (p++a::s)=_
  rw [h c Q5,Qv9 x a s hs p _ fun d hd=>h d (Qab _ hd)]
  simp [sg,Int.neg_mul]
theorem QwM (a b:Int)(x y:Vec):∀(cs:List Nat) (f:List Nat→Int),dexp f (fun j=>a*x j+b*y j) cs=a*dexp f x cs+b*dexp f y cs
 | [],f=>by simp [dexp]
 | c::cs,f=>by
  rw [dexp,dexp,dexp,QwM a b x y cs]
  rw [Int.add_mul,Int.mul_sub,Int.mul_sub,QgR,QgR]
  omega
theorem Qof.nil {vs:List Vec}{rs:Piv}(h:Qof vs rs)(q:Nat){x:Vec}(hx:Qao (rs.map Prod.snd) x):dexp (Vm.det vs) x (q::rs.map Prod.fst)=0:=by
 induction hx with
 | zero=>exact QrC _ _ _ fun _ _=>rfl
 | lin a b x y _ _ h1 h2=>rw [QwM,h1,h2];simp
 | mem v hv=>
  obtain⟨u,hu,rfl⟩:=QG.1 hv
  obtain⟨p,s,e⟩:=Qvc hu
  obtain⟨t,t1,t2,t3⟩:=h.cram e
  have hm:rs.map Prod.fst=p.map Prod.fst++u.1::s.map Prod.fst:=by rw [e];simp
  have z:∀c,c∈p.map Prod.fst∨c∈s.map Prod.fst→u.2 c=0:=fun c hc=>by
   have nd:=h.red.nd
   rw [hm]at nd
   obtain⟨w,hw,rfl⟩:∃w∈rs,w.1=c:=by
    rcases hc with hc | hc<;>(obtain⟨w,hw,rfl⟩:=QG.1 hc;exact⟨w,by rw [e];simp [hw],rfl⟩)
   refine h.red.zr u hu w hw fun e2=>?_
   rw [List.nodup_append]at nd
   obtain⟨n1,n2,n3⟩:=nd
   rw [Qdo]at n2
   rcases hc with hc | hc
   ·exact n3 w.1 hc u.1 Q5 e2
   rw [e2]at hc;exact n2.1 hc
  rw [dexp,hm,Qv9 u.2 u.1 (s.map Prod.fst) (fun c hc=>z c (.inr hc)) (p.map Prod.fst) _ (fun c hc=>z c (.inl hc)),←hm,t2]
  have hq:Vm.det vs (q::(p.map Prod.fst++s.map Prod.fst))=sg (p.map Prod.fst)*(t*u.2 q):=by
   rw [←t3 q,QgP.front _ (Qts vs) q]
   rcases QCE (p.map Prod.fst)with h1 | h1<;>rw [h1]<;>simp
  rw [hq]
  rcases QCE (p.map Prod.fst)with h1 | h1<;>rw [h1]<;>simp only [Int.one_mul,Int.neg_mul,Int.mul_neg,Int.neg_neg]
  ·rw [QkY (u.2 q),QkX t,QkX (u.2 q) t];omega
  rw [QkY (u.2 q),QkX t,QkX (u.2 q) t];omega
theorem Qof.add {vs:List Vec}{rs:Piv}(h:Qof vs rs){v y:Vec}{q:Nat}{al be:Int}(ha:al≠0)(hb:be≠0)(hs:Qao (rs.map Prod.snd) fun j=>al*v j-be*y j)(hz:∀u∈rs,y u.1=0)(hq:y q≠0)(hp:QnN y)
  (up:Nat×Vec→Vec) (hu:∀u∈rs,QnN (up u)∧up u q=0∧∃g b c:Int,g≠0∧b≠0∧∀j,g*up u j=b*u.2 j-c*y j):Qof (v::vs) ((q,y)::rs.map fun u=>(u.1,up u)):=by
 have hf:(rs.map fun u=>(u.1,up u)).map Prod.fst=rs.map Prod.fst:=by simp
 have hqn:q ∉ rs.map Prod.fst:=fun hm=>by
  obtain⟨u,hu1,rfl⟩:=QG.1 hm
  exact hq (hz u hu1)
 have at_:∀u∈rs,∀w∈rs,w.1≠u.1→up u w.1=0:=fun u hu1 w hw hne=>by
  obtain⟨_,_,g,b,c,hg,hb,he⟩:=hu u hu1
  have:=he w.1
  rw [h.red.zr u hu1 w hw hne,hz w hw]at this
  rw [Qhd,Qhd,Int.sub_zero]at this
  exact(QjG.1 this).resolve_left hg
 have own:∀u∈rs,up u u.1≠0:=fun u hu1 e=>by
  obtain⟨_,_,g,b,c,hg,hb,he⟩:=hu u hu1
  have:=he u.1
  rw [hz u hu1,e]at this
  rw [Qhd,Qhd,Int.sub_zero]at this
  rcases QjG.1 this.symm with h1 | h1
  ·exact hb h1
  exact h.red.ne u hu1 h1
 have red:Red ((q,y)::rs.map fun u=>(u.1,up u)):=by
  refine⟨?_,?_,?_⟩
  ·rw [QaZ,hf,Qdo];exact⟨hqn,h.red.nd⟩
  ·intro u hm
   rcases Qaa.1 hm with rfl | hm
   ·exact hq
   obtain⟨w,hw,rfl⟩:=QG.1 hm
   exact own w hw
  intro u hm w hm2 hne
  rcases Qaa.1 hm with rfl | hm
  ·rcases Qaa.1 hm2 with rfl | hm2
   ·exact absurd rfl hne
   obtain⟨x,hx,rfl⟩:=QG.1 hm2
   exact hz x hx
  obtain⟨x,hx,rfl⟩:=QG.1 hm
  rcases Qaa.1 hm2 with rfl | hm2
  ·exact(hu x hx).2.1
  obtain⟨z,hz2,rfl⟩:=QG.1 hm2
  exact at_ x hx z hz2 hne
 have my:Qae (((q,y)::rs.map fun u=>(u.1,up u)).map Prod.snd) y:=.of (.mem _ (by simp))
 have old:∀r∈rs.map Prod.snd,Qae (((q,y)::rs.map fun u=>(u.1,up u)).map Prod.snd) r:=fun r hr=>by
  obtain⟨u,hu1,rfl⟩:=QG.1 hr
  obtain⟨_,_,g,b,c,hg,hb,he⟩:=hu u hu1
  refine Qae.div hb ?_
  have mu:Qae (((q,y)::rs.map fun u=>(u.1,up u)).map Prod.snd) (up u):=.of (.mem _ (by
   rw [QaZ,Qer]
   exact Qab _ (QG.2 ⟨u,hu1,rfl⟩)))
  have:=Qae.lin g c mu my
  have e:(fun j=>b*u.2 j)=fun j=>g*up u j+c*y j:=by
   funext j;rw [he j];omega
  rw [e];exact this
 refine⟨red,?_,?_,?_,by simp [h.len]⟩
 ·intro u hm
  rcases Qaa.1 hm with rfl | hm
  ·exact hp
  obtain⟨w,hw,rfl⟩:=QG.1 hm
  exact(hu w hw).1
 ·intro w hw
  rcases Qaa.1 hw with rfl | hw
  ·refine Qae.div ha ?_
   have:=Qae.lin 1 be (Qae.trans hs old) my
   have e:(fun j=>al*w j)=fun j=>1*(al*w j-be*y j)+be*y j:=by funext j;omega
   rw [e];exact this
  exact(h.spn w hw).transQ old
 rw [QaZ,hf]
 show dexp (Vm.det vs) v (q::rs.map Prod.fst)≠0
 have h1:=h.nil q hs
 have e:(fun j=>al*v j-be*y j)=fun j=>al*v j+(-be)*y j:=by funext j;rw [Int.neg_mul];rfl
 rw [e,QwM]at h1
 have h2:dexp (Vm.det vs) y (q::rs.map Prod.fst)=y q*Vm.det vs (rs.map Prod.fst):=by
  rw [dexp,QrC y (rs.map Prod.fst) _ fun c hc=>by
   obtain⟨u,hu1,rfl⟩:=QG.1 hc
   exact hz u hu1]
  omega
 rw [h2]at h1
 intro h3
 rw [h3,Qhd,Int.zero_add,Int.neg_mul]at h1
 rcases QjG.1 (Int.neg_eq_zero.1 h1)with h1 | h1
 ·exact hb h1
 rcases QjG.1 h1 with h1 | h1
 ·exact hq h1
 exact h.det h1
theorem Qof.mid {m B:Nat}{vs:List Vec}{rs:Piv}(h:Qof vs rs)(hB:fac vs.length*m ^ vs.length≤B)(hv:∀v∈vs,∀j,(v j).natAbs≤m){v w:Vec}(hm:∀j,(v j).natAbs≤m){al be:Int}(ha:al≠0)(hb:be≠0){S:Piv}(hS:∀u∈S,u∈rs)(hn:(S.map Prod.fst).Nodup)
  (hs:Qao (S.map Prod.snd) fun j=>al*v j-be*w j) (hz:∀u∈S,w u.1=0) (hp:QnN w) (j:Nat):(w j).natAbs≤(S.length+1)*(m*B):=by
 have rS:Red S:=⟨hn,fun u hu=>h.red.ne u (hS u hu),fun u hu x hx=>h.red.zr u (hS u hu) x (hS x hx)⟩
 obtain⟨c,hc⟩:=hs.comb hn
 have hci:∀u∈S,al*v u.1=c u.1*u.2 u.1:=fun u hu=>by
  have:=hc u.1
  rw [QAX rS c hu,hz u hu]at this
  omega
 have key:∀T:Piv,(∀u∈T,u∈S)→∃W:Vec,∀j,Vm.det vs (rs.map Prod.fst)*comb c T j=al*W j∧(W j).natAbs≤T.length*(m*B):=by
  intro T
  induction T with
  | nil=>intro _;exact⟨fun _=>0,fun j=>⟨by simp [comb],by simp⟩⟩
  | cons u T ih=>
   intro hT
   obtain⟨W,hW⟩:=ih fun x hx=>hT x (Qab _ hx)
   have hu:=hT u Q5
   obtain⟨p,s,e⟩:=Qvc (hS u hu)
   obtain⟨t,t1,t2,t3⟩:=h.cram e
   refine⟨fun j=>v u.1*(t*u.2 j)+W j,fun j=>⟨?_,?_⟩⟩
   ·have e1:comb c (u::T) j=c u.1*u.2 j+comb c T j:=by simp [comb]
    rw [e1,Int.mul_add,Int.mul_add,(hW j).1]
    congr 1
    rw [t2]
    have:=hci u hu
    have e2:u.2 u.1*t*(c u.1*u.2 j)=c u.1*u.2 u.1*(t*u.2 j):=by
     simp [QgR,QkX,QkY]
    rw [e2,←this,QgR]
   have h1:(t*u.2 j).natAbs≤B:=by
    rw [←t3 j]
    exact Qaw (QsE vs _ hv (by rw [h.len,e];simp)) hB
   have h2:(v u.1*(t*u.2 j)).natAbs≤m*B:=by rw [QhS];exact QpJ (hm _) h1
   have h3:=(hW j).2
   have:=Int.natAbs_add_le (v u.1*(t*u.2 j)) (W j)
   rw [QeU,QcC,Nat.one_mul]
   show(v u.1*(t*u.2 j)+W j).natAbs≤_
   omega
 obtain⟨W,hW⟩:=key S fun u hu=>hu
 have hD:(Vm.det vs (rs.map Prod.fst)).natAbs≤B:=Qaw (QsE vs _ hv (by rw [h.len];simp)) hB
 obtain⟨t,t1,_,t3⟩:=hp.fits (x:=Vm.det vs (rs.map Prod.fst)*be) (y:=al) (R:=fun j=>Vm.det vs (rs.map Prod.fst)*v j-W j) (Int.mul_ne_zero h.det hb) ha (fun j=>by
  have h1:=(hW j).1
  rw [←hc j,Int.mul_sub]at h1
  rw [Int.mul_sub,←h1]
  have e1:Vm.det vs (rs.map Prod.fst)*(al*v j)=al*(Vm.det vs (rs.map Prod.fst)*v j):=QkY _ _ _
  have e2:Vm.det vs (rs.map Prod.fst)*(be*w j)=Vm.det vs (rs.map Prod.fst)*be*w j:=(QgR _ _ _).symm
  omega)
 refine Qaw (QoY t1) ?_
 rw [←t3 j]
 have h1:(Vm.det vs (rs.map Prod.fst)*v j).natAbs≤m*B:=by
  rw [QhS,QlY m B];exact QpJ hD (hm j)
 have h2:=(hW j).2
 have:=Int.natAbs_sub_le (Vm.det vs (rs.map Prod.fst)*v j) (W j)
 rw [QcC,Nat.one_mul]
 omega
theorem Qae.keep {rs:Piv}{y:Vec}{q:Nat}{up:Nat×Vec→Vec}(hu:∀u∈rs,∃g b c:Int,b≠0∧∀j,g*up u j=b*u.2 j-c*y j){x:Vec}(hx:Qae (rs.map Prod.snd) x):Qae (((q,y)::rs.map fun u=>(u.1,up u)).map Prod.snd) x:=
 hx.transQ fun r hr=>by
  obtain⟨u,hu1,rfl⟩:=QG.1 hr
  obtain⟨g,b,c,hb,he⟩:=hu u hu1
  refine Qae.div hb ?_
  have my:Qae (((q,y)::rs.map fun u=>(u.1,up u)).map Prod.snd) y:=.of (.mem _ (by simp))
  have mu:Qae (((q,y)::rs.map fun u=>(u.1,up u)).map Prod.snd) (up u):=.of (.mem _ (by
   rw [QaZ,Qer]
   exact Qab _ (QG.2 ⟨u,hu1,rfl⟩)))
  have:=Qae.lin g c mu my
  have e:(fun j=>b*u.2 j)=fun j=>g*up u j+c*y j:=by
   funext j;rw [he j];omega
  rw [e];exact this
theorem Qae.sub {vs ws:List Vec}(h:∀v∈vs,v∈ws){x:Vec}(hx:Qae vs x):Qae ws x:=hx.transQ fun v hv=>.of (.mem v (h v hv))
end Go.Vm
noncomputable section
namespace Go.Proofs
open Go Go.RowKit Go.Vm
def Sm (n:Int):Prop:=n.natAbs≤9223372036854775807
theorem Sm.w {n:Int}(h:Sm n):w64 n=n:=Q6 (by unfold Sm at h;omega)
theorem QDF : ∀(n:Nat) (a b:Int),b.natAbs=n→Sm a→Sm b→∃g,QE (fun st=>Qie st.1 st.2) (a,b)=some g∧g.natAbs=Nat.gcd a.natAbs b.natAbs:=by
 intro n
 induction n using Nat.strongRecOn with
 | ind n ih=>
  intro a b hb sa sb
  rw [Qcx]
  show ∃g,(Qie a b).bind _=some g∧_
  unfold Qie
  by_cases h0:b=0
  ·subst h0
   rw [show((0:Int) != 0)=false from rfl]
   exact⟨a,rfl,by simp⟩
  have e:(b != 0)=true:=by simpa using h0
  rw [e,cond_true,QlG rfl,Qi]
  have hm:(Int.tmod a b).natAbs=a.natAbs % b.natAbs:=Int.natAbs_tmod a b
  have hlt:a.natAbs % b.natAbs<b.natAbs:=Nat.mod_lt _ (QqR.2 h0)
  obtain⟨g,h1,h2⟩:=ih (Int.tmod a b).natAbs (by omega) b (Int.tmod a b) rfl sb (by unfold Sm at *;omega)
  refine⟨g,h1,?_⟩
  rw [h2,hm,Nat.gcd_comm,←Nat.gcd_rec,Nat.gcd_comm]
theorem QAg {a b:Int}(ha:Sm a)(hb:Sm b):Qjs a b=some (Nat.gcd a.natAbs b.natAbs:Int):=by
 unfold Qjs
 obtain⟨g,h1,h2⟩:=QDF _ a b rfl ha hb
 rw [h1,Qi]
 unfold QnZ
 have hg:g.natAbs≤9223372036854775807:=by
  rw [h2]
  rcases Nat.eq_zero_or_pos b.natAbs with h0 | h0
  ·rw [h0,Nat.gcd_zero_right];exact ha
  exact Qaw (Nat.le_of_dvd h0 (Nat.gcd_dvd_right _ _)) hb
 rw [Q6 (by omega)]
 congr 1
 unfold max2
 split<;>omega
def QcB (row:List Int):Nat:=row.foldl (fun d x=>Nat.gcd d x.natAbs) 0
theorem Qtt (row:List Int):∀x∈row,QcB row ∣ x.natAbs:=by
 have key:∀(row:List Int) (d:Nat),(row.foldl (fun d x=>Nat.gcd d x.natAbs) d ∣ d)∧∀x∈row,row.foldl (fun d x=>Nat.gcd d x.natAbs) d ∣ x.natAbs:=by
  intro row
  induction row with
  | nil=>intro d;exact⟨Nat.dvd_refl _,fun x h=>by cases h⟩
  | cons y row ih=>
   intro d
   obtain⟨h1,h2⟩:=ih (Nat.gcd d y.natAbs)
   refine⟨Nat.dvd_trans h1 (Nat.gcd_dvd_left _ _),fun x hx=>?_⟩
   rcases Qaa.1 hx with rfl | hx
   ·exact Nat.dvd_trans h1 (Nat.gcd_dvd_right _ _)
   exact h2 x hx
 exact(key row 0).2
theorem QAh {row:List Int}{k:Nat}(h:∀x∈row,k ∣ x.natAbs):k ∣ QcB row:=by
 have key:∀(row:List Int) (d:Nat),k ∣ d→(∀x∈row,k ∣ x.natAbs)→k ∣ row.foldl (fun d x=>Nat.gcd d x.natAbs) d:=by
  intro row
  induction row with
  | nil=>intro d hd _;exact hd
  | cons y row ih=>intro d hd h;exact ih _ (Nat.dvd_gcd hd (h y Q5)) fun x hx=>h x (Qab _ hx)
 exact key row 0 (Nat.dvd_zero _) h
def QgQ (row:List Int):List Int:=if QcB row=0 then row else row.map fun x=>Int.tdiv x (QcB row)
def QDS (row:List Int):Prop:=∀x∈row,Sm x
theorem QCF {row:List Int}{i:Nat}{x:Int}(h:row[i]? = some x):QcB (row.take (i+1))=Nat.gcd (QcB (row.take i)) x.natAbs:=by
 rw [Qdp,h];simp [QcB]
theorem QEg {row:List Int}(h:QDS row):QcB row≤9223372036854775807:=by
 by_cases h0:∃x∈row,x≠0
 ·obtain⟨x,hx,hne⟩:=h0
  exact Qaw (Nat.le_of_dvd (QqR.2 hne) (Qtt row x hx)) (h x hx)
 have:0 ∣ QcB row:=QAh fun x hx=>by
  have:x=0:=by
   cases Decidable.em (x=0)with
   | inl e=>exact e
   | inr e=>exact absurd ⟨x,hx,e⟩ h0
  rw [this];exact Nat.dvd_refl 0
 rw [Nat.eq_zero_of_zero_dvd this];omega
theorem QxM {row:List Int}(h:QDS row)(hl:row.length≤4000000):Qfl row=some (QgQ row):=by
 unfold Qfl
 have mx:(4000000:Nat)≤maxLen:=by decide
 have h1:=QlH (body:=fun st:Int×Int=>QcQ row st.1 st.2) row.length (fun i s=>s=((i:Int),(QcB (row.take i):Int))) (fun r=>r=(QcB row:Int)) (fun i s hi hs=>by
  subst hs
  left
  have hx:row[i]? = some row[i]:=QD hi
  show ∃s',QcQ row (i:Int) (QcB (row.take i):Int)=_∧_
  unfold QcQ
  have hs2:Sm (QcB (row.take i):Int):=by
   have:=QEg (row:=row.take i) fun x hx=>h x (QgS hx)
   unfold Sm;omega
  rw [Qa4 (show(i:Int)<(row.length:Int) by omega),cond_true,QN,hx,Qi,QAg hs2 (h _ (QaQ hi)),Qi]
  refine⟨_,rfl,?_⟩
  rw [Qw hi (by omega),QCF hx];simp) (fun s hs=>by
  subst hs
  refine⟨_,?_,rfl⟩
  show QcQ row (row.length:Int) (QcB (row.take row.length):Int)=_
  unfold QcQ
  rw [Qa8 (by omega),Qk3];rfl) (0,0) (by simp [QcB])
 obtain⟨r,hr,rfl⟩:=h1
 rw [hr,Qi]
 unfold QkD QgQ
 by_cases h0:QcB row=0
 ·rw [h0,if_pos rfl];rfl
 have e:((QcB row:Int)==0)=false:=by simpa using h0
 rw [e,cond_false,if_neg h0]
 unfold QhC
 rw [QlG (by simp;omega),Qi]
 have h2:=QlH (body:=fun st:Int×List Int=>Qa7 row (QcB row:Int) st.1 st.2) row.length (fun i s=>s=((i:Int),(row.take i).map (fun x=>Int.tdiv x (QcB row))++List.replicate (row.length-i) 0)) (fun r=>r=row.map fun x=>Int.tdiv x (QcB row)) (fun i s hi hs=>by
  subst hs
  left
  have hx:row[i]? = some row[i]:=QD hi
  show ∃s',Qa7 row (QcB row:Int) (i:Int) _=_∧_
  unfold Qa7 QlR
  have ln:((row.take i).map fun x=>Int.tdiv x (QcB row)).length=i:=by simp;omega
  have hr2:List.replicate (row.length-i) (0:Int)=0::List.replicate (row.length-(i+1)) 0:=by
   rw [show row.length-i=(row.length-(i+1))+1 by omega];rfl
  have ne:((QcB row:Int) != 0)=true:=by simpa using h0
  rw [Qa4 (show(i:Int)<(row.length:Int) by omega),cond_true,QN,hx,Qi,QlG ne,Qi,Qi,QN,hr2,Qcm (by omega),ln,Nat.sub_self]
  refine⟨_,rfl,?_⟩
  have sm:Sm (Int.tdiv row[i] (QcB row)):=by
   have:=h _ (QaQ hi)
   unfold Sm at *
   rw [Int.natAbs_tdiv]
   exact Qaw (Nat.div_le_self _ _) this
  rw [Qw hi (by omega),sm.w,Qdp,hx]
  rw [Prod.mk.injEq]
  refine⟨rfl,?_⟩
  rw [QcL,List.set_append_right _ _ (by omega),ln,Nat.sub_self,List.map_append,QhT]
  rfl) (fun s hs=>by
  subst hs
  refine⟨_,?_,rfl⟩
  show Qa7 row (QcB row:Int) (row.length:Int) _=_
  unfold Qa7
  rw [Qa8 (by omega)];simp) (0,List.replicate ((row.length:Int)).toNat 0) (by simp)
 obtain⟨r,hr,rfl⟩:=h2
 rw [hr];rfl
end Go.Proofs
noncomputable section
namespace Go.Proofs
open Go Go.RowKit Go.Vm
def vec (row:List Int):Vec:=fun j=>row.getD j 0
theorem QdM {row:List Int}{j:Nat}(h:j<row.length):vec row j=row[j]:=by
 unfold vec;rw [QkZ,QD h];rfl
theorem QeT {row:List Int}{j:Nat}(h:row.length≤j):vec row j=0:=by
 unfold vec;rw [QkZ,List.getElem?_eq_none h];rfl
theorem Qc6 {row:List Int}{j:Nat}(h:j<row.length):row[j]? = some (vec row j):=by rw [QdM h];exact QD h
theorem Qyp {a b:List Int}(hl:a.length=b.length)(h:∀j,vec a j=vec b j):a=b:=by
 refine List.ext_getElem hl fun j h1 h2=>?_
 rw [←QdM h1,←QdM h2,h j]
theorem QAi (row:List Int):(QgQ row).length=row.length:=by unfold QgQ;split<;>simp
theorem QwN (row:List Int):∃c:Nat,0<c∧∀j,vec row j=(c:Int)*vec (QgQ row) j:=by
 unfold QgQ
 by_cases h:QcB row=0
 ·rw [if_pos h];exact⟨1,by omega,fun j=>by simp⟩
 rw [if_neg h]
 refine⟨QcB row,QpK h,fun j=>?_⟩
 by_cases hj:j<row.length
 ·rw [QdM hj,QdM (by simpa using hj),List.getElem_map]
  have:(QcB row:Int) ∣ row[j]:=Int.natAbs_dvd_natAbs.1 (Qtt row _ (QaQ hj))
  exact(Int.mul_tdiv_cancel' this).symm
 rw [QeT (by omega),QeT (by simpa using hj)];simp
theorem Qvw (row:List Int)(j:Nat):(vec (QgQ row) j).natAbs≤(vec row j).natAbs:=by
 obtain⟨c,hc,h⟩:=QwN row
 rw [h j]
 exact QoY (by omega)
theorem QyN {row:List Int}(h:∃j,vec row j≠0):QnN (vec (QgQ row)):=by
 intro d hd
 have hg:QcB row≠0:=fun e=>by
  obtain⟨j,hj⟩:=h
  by_cases hlt:j<row.length
  ·rw [QdM hlt]at hj
   have:=Qtt row _ (QaQ hlt)
   rw [e]at this
   exact hj (Int.natAbs_eq_zero.1 (Nat.eq_zero_of_zero_dvd this))
  exact hj (QeT (by omega))
 have h1:∀x∈row,QcB row*d ∣ x.natAbs:=fun x hx=>by
  obtain⟨j,hj,rfl⟩:=Qk1.1 hx
  have h2:=hd j
  have e:vec (QgQ row) j=Int.tdiv row[j] (QcB row):=by
   unfold QgQ
   rw [if_neg hg,QdM (by simpa using hj),List.getElem_map]
  rw [e,Int.natAbs_tdiv]at h2
  have h3:(Int.natAbs (QcB row:Int))=QcB row:=rfl
  rw [h3]at h2
  obtain⟨k,hk⟩:=h2
  obtain⟨l,hl⟩:=Qtt row _ (QaQ hj)
  refine⟨k,?_⟩
  have hk:QcB row*l / QcB row=d*k:=by rw [←hl];exact hk
  rw [Qr4 _ (QpK hg)]at hk
  rw [hl,hk,Qox]
 obtain⟨k,hk⟩:=QAh h1
 have h2:QcB row*1=QcB row*(d*k):=by rw [Nat.mul_one,←Qox];exact hk
 have h3:=Nat.eq_of_mul_eq_mul_left (QpK hg) h2
 exact Nat.eq_one_of_mul_eq_one_right h3.symm
def QkW (n:Nat)(row by_:List Int)(k:Nat):List Int:=(List.range n).map fun j=>vec row j*vec by_ k-vec by_ j*vec row k
def QbP (n:Nat)(row by_:List Int)(k:Nat):List Int:=if vec row k=0 then row else QgQ (QkW n row by_ k)
theorem QmY (n:Nat)(row by_:List Int)(k:Nat):(QkW n row by_ k).length=n:=by simp [QkW]
theorem QAj {n:Nat}{row by_:List Int}{k:Nat}(h:row.length=n):(QbP n row by_ k).length=n:=by
 unfold QbP;split
 ·exact h
 rw [QAi,QmY]
theorem Qtu {n:Nat}{row by_:List Int}{k:Nat}(hr:row.length=n)(hb:by_.length=n)(j:Nat):vec (QkW n row by_ k) j=vec row j*vec by_ k-vec by_ j*vec row k:=by
 by_cases hj:j<n
 ·rw [QdM (by rw [QmY];exact hj)];simp [QkW]
 rw [QeT (by rw [QmY];omega),QeT (row:=row) (j:=j) (by omega),QeT (row:=by_) (j:=j) (by omega)];simp
theorem QAk {n k:Nat}{row by_:List Int}(hr:row.length=n)(hb:by_.length=n)(hk:k<n)(hn:n≤4000000)
  (h1:∀j,(vec row j*vec by_ k).natAbs≤4611686018427387903) (h2:∀j,(vec by_ j*vec row k).natAbs≤4611686018427387903):Qas (n:Int) row by_ (k:Int)=some (QbP n row by_ k):=by
 have mx:(4000000:Nat)≤maxLen:=by decide
 unfold Qas QbP
 rw [QN,Qc6 (by omega),Qi]
 by_cases h0:vec row k=0
 ·rw [h0,if_pos rfl];rfl
 have e:(vec row k==0)=false:=by simpa using h0
 rw [e,cond_false,if_neg h0,QlG (by simp;omega),Qi]
 have h:=QlH (body:=fun st:Int×List Int=>Qbu (n:Int) row by_ (k:Int) st.1 st.2) n (fun i s=>s=((i:Int),(QkW n row by_ k).take i++List.replicate (n-i) 0)) (fun r=>r=QkW n row by_ k) (fun i s hi hs=>by
  subst hs
  left
  show ∃s',Qbu (n:Int) row by_ (k:Int) (i:Int) _=_∧_
  unfold Qbu
  have ln:((QkW n row by_ k).take i).length=i:=by rw [Qfh,QmY];omega
  have hr2:List.replicate (n-i) (0:Int)=0::List.replicate (n-(i+1)) 0:=by
   rw [show n-i=(n-(i+1))+1 by omega];rfl
  rw [Qa4 (show(i:Int)<((List.replicate (n:Int).toNat (0:Int)).length:Int) by simp;omega),cond_true,QN,Qc6 (row:=row) (by omega),Qi,QN,Qc6 (row:=by_) (by omega),Qi,QN,Qc6 (row:=by_) (by omega),Qi,QN,Qc6 (row:=row) (by omega),Qi,QN,hr2,Qcm (by omega),ln,Nat.sub_self]
  refine⟨_,rfl,?_⟩
  have b1:=h1 i
  have b2:=h2 i
  have e1:w64 (vec row i*vec by_ k)=vec row i*vec by_ k:=Q6 (by omega)
  have e2:w64 (vec by_ i*vec row k)=vec by_ i*vec row k:=Q6 (by omega)
  have e3:w64 (vec row i*vec by_ k-vec by_ i*vec row k)=vec (QkW n row by_ k) i:=by rw [Qtu hr hb,Q6 (by omega)]
  have tk:(QkW n row by_ k).take (i+1)=(QkW n row by_ k).take i++[vec (QkW n row by_ k) i]:=by
   rw [Qdp,Qc6 (by rw [QmY];exact hi)];rfl
  rw [Qw hi (by omega),e1,e2,e3,QcL,List.set_append_right _ _ (by omega),ln,Nat.sub_self,tk,QhT]
  rfl) (fun s hs=>by
  subst hs
  refine⟨_,?_,rfl⟩
  show Qbu (n:Int) row by_ (k:Int) (n:Int) _=_
  unfold Qbu
  rw [Qa8 (by simp),QeV (by rw [QmY];omega)];simp) (0,List.replicate (n:Int).toNat 0) (by simp)
 obtain⟨r,hr',rfl⟩:=h
 rw [hr',Qi]
 unfold Qg4
 rw [QxM (fun x hx=>by
  obtain⟨j,hj,rfl⟩:=Qk1.1 hx
  have:=Qtu (k:=k) hr hb j
  rw [QdM hj]at this
  rw [this]
  have b1:=h1 j
  have b2:=h2 j
  unfold Sm;omega) (by rw [QmY];exact hn)]
 rfl
theorem QAY {n k:Nat}{row by_:List Int}(hr:row.length=n)(hb:by_.length=n)(h0:vec row k≠0):∃c:Nat,0<c∧∀j,(c:Int)*vec (QbP n row by_ k) j=vec by_ k*vec row j-vec row k*vec by_ j:=by
 unfold QbP
 rw [if_neg h0]
 obtain⟨c,hc,h⟩:=QwN (QkW n row by_ k)
 refine⟨c,hc,fun j=>?_⟩
 rw [←h j,Qtu hr hb,QkX (vec row j),QkX (vec by_ j)]
theorem QFb {n k:Nat}{row by_:List Int}(hr:row.length=n)(hb:by_.length=n)(j:Nat)(h0:vec row k≠0):(vec (QbP n row by_ k) j).natAbs≤(vec row j*vec by_ k-vec by_ j*vec row k).natAbs:=by
 unfold QbP
 rw [if_neg h0,←Qtu hr hb]
 exact Qvw _ j
theorem QAl {n k:Nat}{row by_:List Int}(h:QnN (vec row)∨∀j,vec row j=0):QnN (vec (QbP n row by_ k))∨∀j,vec (QbP n row by_ k) j=0:=by
 unfold QbP
 split
 ·exact h
 by_cases hz:∃j,vec (QkW n row by_ k) j≠0
 ·exact .inl (QyN hz)
 right;intro j
 have h1:vec (QkW n row by_ k) j=0:=by
  cases Decidable.em (vec (QkW n row by_ k) j=0)with
  | inl e=>exact e
  | inr e=>exact absurd ⟨j,e⟩ hz
 have h2:=Qvw (QkW n row by_ k) j
 rw [h1]at h2
 exact Int.natAbs_eq_zero.1 (by simpa using h2)
end Go.Proofs
