/- A part of the proof; what it holds is told at each theorem. -/
import Derived.Test.YtmhljalpjhdpeaaGreatDoorM1P1
import Derived.Test.YtmhljalpjhdpeaaGreatDoorM1P1
import Derived.KernelRfl
import Derived.Test.YtmhljalpjhdpeaaGreatDoorM1T3
import Derived.Test.YtmhljalpjhdpeaaGreatDoorM1P1
import Derived.Test.YtmhljalpjhdpeaaGreatDoorM1P1
set_option linter.unusedVariables false
set_option linter.unusedSimpArgs false
set_option linter.unusedSectionVars false
set_option linter.deprecated false
noncomputable section
namespace Go.Proofs
open Go Go.RowKit Go.Vm
theorem QuA {σ ρ:Type}{body:σ->Option (σ⊕ρ)}(mu:σ->Nat)(J:σ->Prop){Q:ρ->Prop}{s0:σ}(hJ:J s0)
  (step:∀s,J s->Qg (body s) fun o=>(∀s',o=.inl s'->mu s'<mu s/\J s')/\∀r,o=.inr r->Q r):Qg (Qz body s0) Q:=by
 have key:∀k s,mu s<=k->J s->Qg (Qz body s) Q:=by
  intro k
  induction k with
  | zero=>
   intro s hk hj
   obtain⟨o,ho,h1,h2⟩:=step s hj
   cases o with
   | inl s'=>have:=(h1 s' rfl).1;omega
   | inr r=>exact⟨r,by rw [QaU,ho];rfl,h2 r rfl⟩
  | succ k ih=>
   intro s hk hj
   obtain⟨o,ho,h1,h2⟩:=step s hj
   cases o with
   | inl s'=>
    obtain⟨h3,h4⟩:=h1 s' rfl
    obtain⟨r,h5,h6⟩:=ih s' (by omega) h4
    exact⟨r,by rw [QaU,ho];exact h5,h6⟩
   | inr r=>exact⟨r,by rw [QaU,ho];rfl,h2 r rfl⟩
 exact key _ s0 (Qb2 _) hJ
def QiW : List Int->Nat
 | []=>0
 | d::r=>d.toNat*1025 ^ r.length+QiW r
theorem QzV {l:List Int}(h:∀d∈l,0<=d/\d<=1024):QiW l<1025 ^ l.length:=by
 induction l with
 | nil=>simp [QiW]
 | cons d l ih=>
  have h1:=ih fun x hx=>h x (Qb1 _ hx)
  have h2:=h d Qbz
  simp only [QiW,QeP,Nat.pow_succ]
  have h3:d.toNat*1025 ^ l.length<=1024*1025 ^ l.length:=Qct _ (by omega)
  omega
theorem Qzp (a b:List Int):QiW (a++b)=QiW a*1025 ^ b.length+QiW b:=by
 induction a with
 | nil=>simp [QiW]
 | cons d a ih=>
  simp only [Qr7,QiW,ih,Qb0,Nat.pow_add,QcI,Nat.mul_assoc]
  omega
theorem Qp9 {l:List Int}{k:Nat}(hk:k<l.length)(Z:List Int)(x:Int):(l.take (k+1)++Z).set k x=l.take k++x::Z:=by
 have e:l.take (k+1)=l.take k++[l[k]]:=by rw [QhW,QG hk];rfl
 rw [e,Qgb,List.set_append,if_neg (by simp;omega)]
 have:k-(l.take k).length=0:=by simp;omega
 rw [this];rfl
theorem QDF (t:QF)(n:Qn)(l:List Int)(h:QX n)(hl:l.length=t.Vars.length)(hv:t.Vars.length<=16)(hd:∀d∈l,0<=d/\d<=1024):
  Qg (Qz (fun st=>Qax t n st.1 st.2) ((w64 ((l.length:Int)-1)),l)) fun q=>-1<=q.1/\q.1<l.length/\q.2=l.take (q.1+1).toNat++List.replicate (l.length-(q.1+1).toNat) 0/\∀d,0<=q.1->l[q.1.toNat]? = some d->d<1024:=by
 have hw:w64 ((l.length:Int)-1)=(l.length:Int)-1:=Q7 (by omega)
 refine Qg.up l.length (fun st=>(l.length:Int)-1-st.1) (fun st=>st.2=l.take (st.1+1).toNat++List.replicate (l.length-(st.1+1).toNat) 0) (by rw [hw];omega) (by
  rw [hw]
  show l=_
  rw [show((l.length:Int)-1+1).toNat=l.length by omega,Qi2,Nat.sub_self];simp) (fun i st hi hn hJ=>?_)
 obtain⟨a,d⟩:=st
 replace hi:(l.length:Int)-1-a=i:=hi
 replace hJ:d=l.take (a+1).toNat++List.replicate (l.length-(a+1).toNat) 0:=hJ
 have hdl:d.length=l.length:=by rw [hJ];simp;omega
 show Qg (Qax t n a d) _
 unfold Qax
 refine T0 (P:=fun x=>(x=true->0<=a)/\(x=false->∀e,0<=a->l[a.toNat]? = some e->e<1024)) ?_ fun x hx=>?_
 ·unfold Qfz
  refine T1 (fun hc=>?_) fun hc=>T2 ⟨fun h=>(by cases h),fun _ e he=>?_⟩
  ·simp only [QQ]at hc
   have hlt:a.toNat<l.length:=by omega
   have ed:idx d a=some l[a.toNat]:=by
    rw [QeN hc,hJ,Qbf (by simp;omega),Qbx,if_pos (by omega),QG hlt]
   rw [ed,Ql]
   refine T0 (T4 (by omega) (by omega)) fun v _=>?_
   refine T0 (Qff _ _ h.1) fun z hz=>?_
   have h2:=hd _ (Qby hlt)
   refine T2 ⟨fun _=>hc,fun hf e _ he=>?_⟩
   rw [QG hlt]at he
   cases he
   rw [Q7 (by omega)]at hf
   simp only [Qal]at hf
   omega
  simp only [Qal]at hc;omega
 unfold QdY
 refine T1 (fun hc=>?_) fun hc=>?_
 ·have ha:=hx.1 hc
  refine T0 (T4 ha (by omega)) fun _ _=>?_
  have hw2:w64 (a-1)=a-1:=Q7 (by omega)
  refine T2 (QN ⟨by omega,?_,?_⟩)
  ·show(l.length:Int)-1-w64 (a-1)=_
   rw [hw2];omega
  show d.set a.toNat 0=l.take (w64 (a-1)+1).toNat++List.replicate (l.length-(w64 (a-1)+1).toNat) 0
  rw [hw2,hJ,show(a+1).toNat=a.toNat+1 by omega,Qp9 (by omega),show(a-1+1).toNat=a.toNat by omega]
  rw [show l.length-a.toNat=(l.length-(a.toNat+1))+1 by omega,List.replicate_succ]
 exact T2 (Qt ⟨by omega,by omega,hJ,hx.2 hc⟩)
def QjG (n:Qn)(most:Int)(l:List Qi):Prop:=(l.length:Int)<most/\∀o∈l,Qfs n o
def QsX (n:Qn)(most:Int)(l:List Qi):Prop:=(l.length:Int)<=most/\∀o∈l,Qfs n o
theorem QCw (n:Qn)(m:List (List (Int×Int)))(b:QM)(l:List (List Int))(h:QaT n)(hb:BOk n m b)(hl:Qd8 l):Qg (Qa3 l b) fun r=>r=-1\/(0<=r/\r<l.length):=by
 have hl1:=hl.1
 unfold Qa3
 refine T0 (Qg.up l.length (fun st=>st) (fun _=>True) (Q:=fun q:Int⊕Unit=>∀x,q=.inl x->0<=x/\x<(l.length:Int)) rfl trivial (fun i st hi hn hJ=>?_)) (fun q hq=>?_)
 ·show Qg (QaI l b st) _
  unfold QaI QeE
  refine T1 (fun hc=>?_) (fun _=>T2 (Qt fun x h=>by cases h))
  simp only [QQ]at hc
  refine T0 (T4 (by omega) (by omega)) fun e he=>?_
  have:=hl.2 e he
  refine T0 (T0 (Qr2 n m b e h hb (by omega)) fun _ _=>T3) fun _ _=>?_
  exact T1 (fun _=>T2 (Qt fun x h=>by cases h;omega)) fun _=>T2 (QN ⟨by omega,by rw [hi];exact Qy (by omega) (by unfold maxLen;omega:l.length<=maxLen),trivial⟩)
 rcases q with q | q
 ·exact T2 (.inr (hq q rfl))
 exact T2 (.inl rfl)
theorem QCx (n:Qn)(m:List (List (Int×Int)))(b:QM)(l:List (List Int))(h:QaT n)(hb:BOk n m b)(hl:Qd8 l):Qg (QaS l b) Qd8:=by
 have hl1:=hl.1
 unfold QaS
 refine T0 (QCw n m b l h hb hl) fun x hx=>?_
 refine T1 (fun _=>T2 hl) fun hc=>?_
 simp only [beq_eq_false_iff_ne]at hc
 have hx:0<=x/\x<l.length:=by omega
 have hw:w64 (x+1)=x+1:=Q7 (by omega)
 refine T0 (Qg.up (l.length-(x+1).toNat) (fun st=>st.2.1-(x+1)) (fun st=>0<=st.1/\st.1<st.2.1/\st.2.2.length=l.length/\∀row∈st.2.2,row.length<=16) (Q:=fun q:Int×List (List Int)=>0<=q.1/\q.1<=(l.length:Int)/\q.2.length=l.length/\∀row∈q.2,row.length<=16) (by show w64 (x+1)-(x+1)=0;omega) ⟨hx.1,by show x<w64 (x+1);omega,rfl,hl.2⟩ (fun i st hi hn hJ=>?_)) (fun q hq=>?_)
 ·obtain⟨a,j,l2⟩:=st
  replace hi:j-(x+1)=i:=hi
  obtain⟨j1,j2,j3,j4⟩:0<=a/\a<j/\l2.length=l.length/\∀row∈l2,row.length<=16:=hJ
  show Qg (QaB b a j l2) _
  unfold QaB QeE
  refine T1 (fun hc=>?_) (fun hc=>T2 (Qt ⟨j1,?_,j3,j4⟩))
  ·simp only [QQ]at hc
   refine T0 (T4 (by omega) (by omega)) fun e he=>?_
   have:=j4 e he
   refine T0 (T0 (Qr2 n m b e h hb (by omega)) fun _ _=>T3) fun _ _=>?_
   have hw2:w64 (j+1)=j+1:=Q7 (by omega)
   have hw3:w64 (a+1)=a+1:=Q7 (by omega)
   refine T1 (fun _=>?_) fun _=>?_
   ·refine T0 (T4 (by omega) (by omega)) fun _ _=>?_
    refine T2 (QN ⟨by omega,by show w64 (j+1)-(x+1)=_;omega,by show 0<=w64 (a+1);omega,by show w64 (a+1)<w64 (j+1);omega,by simpa using j3,fun row hr=>?_⟩)
    rcases Qx0 hr with rfl | hr
    ·exact this
    exact j4 row hr
   exact T2 (QN ⟨by omega,by show w64 (j+1)-(x+1)=_;omega,j1,by show a<w64 (j+1);omega,j3,j4⟩)
  simp only [Qal]at hc
  show a<=_
  omega
 obtain⟨q1,q2⟩:=q
 obtain⟨h1,h2,h3,h4⟩:0<=q1/\q1<=l.length/\q2.length=l.length/\∀row∈q2,row.length<=16:=hq
 show Qg (QaC q1 q2) _
 unfold QaC
 refine T0 (T5 (by simp only [QB,QQ];omega)) fun _ _=>?_
 refine T0 (T5 (by simp only [QB,QQ,Qb0,QdI,List.length_replicate];omega)) fun _ _=>?_
 refine T2 ⟨by simp;omega,fun row hr=>?_⟩
 rw [Qsa (by simp;omega)]at hr
 exact h4 row (QeQ (QeQ hr))
theorem QC5 (n:Qn)(m:List (List (Int×Int)))(task most:Int)(l5 l8:List Qi)(ins outs:List (List Int))(p:List Int)(h:QaT n)(hm:QH (QH fun _=>True) m)(hmost:most<=4294967296)
  (hi:Qd8 ins) (ho:Qd8 outs) (hp:p.length<=16) (ha:QjG n most l8):
  Qg (QcE n m task most l5 ins outs l8 p) fun r=>(∀a,r=.inl a->QsX n most a)/\∀a,r=.inr a->QjG n most a:=by
 have hil:=hi.1
 have hol:=ho.1
 unfold QcE
 refine T0 (Qx1 n m task p h) fun x hx=>?_
 refine T0 (P:=fun y=>y=false->BOk n m x.2) ?_ fun y hy=>?_
 ·unfold Qf2
  refine T1 (fun _=>T2 fun h=>by cases h) fun hc=>?_
  have hb:=hx (by simpa using hc)
  exact T0 (Quz n m x.2 h hb) fun _ _=>T2 fun _=>hb
 unfold QcM
 refine T1 (fun _=>T2 ⟨fun a h=>(by cases h),fun a h=>(by cases h;exact ha)⟩) fun hc=>?_
 have hb:=hy hc
 refine T0 (P:=Qd8) (by unfold QcB;exact T0 (T5 (by simp;omega)) fun _ _=>T2 ho) fun x19 h19=>?_
 refine T0 (QCx n m x.2 x19 h hb h19) fun x20 h20=>?_
 have h20l:=h20.1
 refine T0 (Qg.up ins.length (fun st=>st.1) (fun st=>QjG n most st.2) (Q:=fun q=>(∀a,q=.inl a->QsX n most a)/\∀a,q=.inr a->QjG n most a) rfl ha (fun i st hi2 hn hJ=>?_)) (fun q hq=>?_)
 ·obtain⟨j,l⟩:=st
  replace hi2:j=(i:Int):=hi2
  replace hJ:QjG n most l:=hJ
  show Qg (QbS ins x x20 p task most j l) _
  unfold QbS
  refine T1 (fun hc=>?_) (fun _=>T2 (Qt ⟨fun a h=>(by cases h),fun a h=>(by cases h;exact hJ)⟩))
  simp only [QQ]at hc
  refine T0 (T4 (by omega) (by omega)) fun e he=>?_
  have hel:=hi.2 e he
  have next:∀l,QjG n most l->Qg (Qbd j l) fun o=>(∀s',o=.inl s'->i<ins.length/\s'.1=((i+1:Nat):Int)/\QjG n most s'.2)/\∀r:List Qi⊕List Qi,o=.inr r->(∀a,r=.inl a->QsX n most a)/\∀a,r=.inr a->QjG n most a:=fun l hl=>by
   unfold Qbd
   exact T2 (QN (ix:=fun st:Int×List Qi=>st.1) (J:=fun st:Int×List Qi=>QjG n most st.2) ⟨by omega,by subst hi2;exact Qy (by omega) (by unfold maxLen;omega:ins.length<=maxLen),hl⟩)
  refine T0 (Qx2 n m x.2 e h hb hm (by omega)) fun z _=>?_
  refine T1 (fun _=>next l hJ) fun _=>?_
  refine T0 (Qg.up x20.length (fun st=>st.1) (fun st=>QjG n most st.2) (Q:=fun q=>(∀a,q=.inl a->QsX n most a)/\∀a,q=.inr a->QjG n most a) rfl hJ (fun i2 st hi3 hn2 hJ2=>?_)) (fun q hq=>?_)
  ·obtain⟨j2,l2⟩:=st
   replace hi3:j2=(i2:Int):=hi3
   replace hJ2:QjG n most l2:=hJ2
   have hlt:=hJ2.1
   show Qg (QbR x20 p e task most j2 l2) _
   unfold QbR
   refine T1 (fun hc=>?_) (fun _=>T2 (Qt ⟨fun a h=>(by cases h),fun a h=>(by cases h;exact hJ2)⟩))
   simp only [QQ]at hc
   refine T0 (T4 (by omega) (by omega)) fun e2 he2=>?_
   have hel2:=h20.2 e2 he2
   rw [QfL p (by omega),Ql,QfL e (by omega),Ql,QfL e2 (by omega),Ql]
   refine T0 (T5 (by simp;omega)) fun _ _=>?_
   have hall:∀o∈l2++[Qi.mk task p e e2],Qfs n o:=fun o ho=>by
    rcases QcH.1 ho with ho | ho
    ·exact hJ2.2 o ho
    simp at ho;subst ho;exact⟨by show p.length<=20;omega,by show e.length<=20;omega,by show e2.length<=20;omega⟩
   refine T1 (fun hc2=>T2 (Qt ⟨fun a h=>(by cases h;exact⟨by simp only [beq_iff_eq]at hc2;omega,hall⟩),fun a h=>(by cases h)⟩)) fun hc2=>?_
   simp only [beq_eq_false_iff_ne]at hc2
   exact T2 (QN ⟨by omega,by subst hi3;exact Qy (by omega) (by unfold maxLen;omega:x20.length<=maxLen),by simp at hc2 ⊢;omega,hall⟩)
  rcases q with q | q
  ·have:=hq.1 q rfl
   exact T2 (Qt ⟨fun a h=>(by cases h;exact this),fun a h=>(by cases h)⟩)
  exact next q (hq.2 q rfl)
 rcases q with q | q
 ·have:=hq.1 q rfl
  exact T2 ⟨fun a h=>(by cases h;exact this),fun a h=>(by cases h)⟩
 have:=hq.2 q rfl
 exact T2 ⟨fun a h=>(by cases h),fun a h=>(by cases h;exact this)⟩
theorem QAG (n:Qn)(m:List (List (Int×Int)))(task most:Int)(l5:List Qi)(ins outs:List (List Int))(t:QF)(h:QaT n)(hm:QH (QH fun _=>True) m)(hmost:most<=4294967296)(h1:1<=most)
  (hi:Qd8 ins) (ho:Qd8 outs) (ht:t∈n.Tasks):Qg (Qea n m task most l5 ins outs [] t n) fun r=>∀a,r=.inl a\/r=.inr a->QsX n most a:=by
 have hv:=(h.tk t ht).1
 unfold Qea
 refine T0 (T5 (by simp only [QB,QQ];omega)) fun _ _=>?_
 refine T0 (QuA (fun st=>1025 ^ t.Vars.length-QiW st.1) (fun st=>st.1.length=t.Vars.length/\(∀d∈st.1,0<=d/\d<=1024)/\QjG n most st.2) (Q:=fun q=>∀a,q=.inl a\/q=.inr a->QsX n most a)
  ⟨by simp,fun d hd=>by have:=Qni hd;omega,by simp;omega,fun o h=>by cases h⟩ (fun st hJ=>?_)) (fun q hq=>?_)
 ·obtain⟨d,l⟩:=st
  obtain⟨j1,j2,j3⟩:d.length=t.Vars.length/\(∀d'∈d,0<=d'/\d'<=1024)/\QjG n most l:=hJ
  show Qg (Qc2 n m task most l5 ins outs t n d l) _
  unfold Qc2
  rw [QfL d (by omega),Ql]
  refine T0 (QC5 n m task most l5 l ins outs d h hm hmost hi ho (by omega) j3) fun r hr=>?_
  rcases r with r | r
  ·have:=hr.1 r rfl
   exact T2 ⟨fun s' e=>(by cases e),fun q e=>(by cases e;exact fun a ha=>by rcases ha with ha | ha<;>cases ha;exact this)⟩
  have hacc:=hr.2 r rfl
  show Qg (Qc1 t n d r) _
  unfold Qc1
  refine T0 (QDF t n d h.k j1 hv j2) fun q hq=>?_
  obtain⟨a,d2⟩:=q
  obtain⟨q1,q2,q3,q4⟩:-1<=a/\a<d.length/\d2=d.take (a+1).toNat++List.replicate (d.length-(a+1).toNat) 0/\∀e,0<=a->d[a.toNat]? = some e->e<1024:=hq
  show Qg (Qc0 r a d2) _
  unfold Qc0
  refine T1 (fun _=>T2 ⟨fun s' e=>(by cases e),fun q e=>(by cases e;exact fun a ha=>by rcases ha with ha | ha<;>cases ha;exact⟨by have:=hacc.1;omega,hacc.2⟩)⟩) fun hc=>?_
  simp only [Qal]at hc
  have hlt:a.toNat<d.length:=by omega
  have ed:idx d2 a=some d[a.toNat]:=by
   rw [QeN (by omega),q3,Qbf (by simp;omega),Qbx,if_pos (by omega),QG hlt]
  rw [ed,Ql,Ql]
  have h9:=q4 _ (by omega) (QG hlt)
  have h10:=j2 _ (Qby hlt)
  rw [Q7 (by omega)]
  have e3:d2.set a.toNat (d[a.toNat]+1)=d.take a.toNat++(d[a.toNat]+1)::List.replicate (d.length-(a.toNat+1)) 0:=by
   rw [q3,show(a+1).toNat=a.toNat+1 by omega,Qp9 hlt]
  rw [e3]
  have hd3:∀x∈d.take a.toNat++(d[a.toNat]+1)::List.replicate (d.length-(a.toNat+1)) 0,0<=x/\x<=1024:=fun x hx=>by
   rcases QcH.1 hx with hx | hx
   ·exact j2 x (QeQ hx)
   rcases QaK.1 hx with rfl | hx
   ·omega
   have:=Qni hx;omega
  have hlen:(d.take a.toNat++(d[a.toNat]+1)::List.replicate (d.length-(a.toNat+1)) 0).length=t.Vars.length:=by simp;omega
  have hmu:1025 ^ t.Vars.length-QiW (d.take a.toNat++(d[a.toNat]+1)::List.replicate (d.length-(a.toNat+1)) 0)<1025 ^ t.Vars.length-QiW d:=by
   have u1:=QzV hd3
   rw [hlen]at u1
   have u2:QiW d<QiW (d.take a.toNat++(d[a.toNat]+1)::List.replicate (d.length-(a.toNat+1)) 0):=by
    have e5:d=d.take a.toNat++d[a.toNat]::d.drop (a.toNat+1):=by
     rw [<-Qnh hlt,List.take_append_drop]
    have u3:=QzV (l:=d.drop (a.toNat+1)) fun x hx=>j2 x (QoI hx)
    have u4:QiW d=QiW (d.take a.toNat++d[a.toNat]::d.drop (a.toNat+1)):=congrArg QiW e5
    rw [u4,Qzp,Qzp]
    simp only [QiW,QeP,List.length_replicate,Qll]at u3 ⊢
    have e6:(d[a.toNat]+1).toNat=(d[a.toNat]).toNat+1:=by omega
    rw [e6,QcI]
    omega
   omega
  exact T2 ⟨fun s' e=>(by cases e;exact⟨hmu,hlen,hd3,hacc⟩),fun q e=>(by cases e)⟩
 rcases q with q | q
 ·have:=hq q (.inl rfl)
  exact T2 fun a ha=>by rcases ha with ha | ha<;>cases ha;exact this
 have:=hq q (.inr rfl)
 exact T2 fun a ha=>by rcases ha with ha | ha<;>cases ha;exact this
theorem QC6 (n:Qn)(m:List (List (Int×Int)))(task most:Int)(h:QaT n)(hm:QH (QH fun _=>True) m)(hmost:most<=4294967296):Qg (QbT n m task most) fun r=>(r.length:Int)<=max2 most 0/\∀o∈r,Qfs n o:=by
 unfold QbT
 refine T1 (fun _=>T2 ⟨by simp [max2];split<;>omega,fun o h=>by cases h⟩) fun hc=>?_
 simp only [QcV,Qal]at hc
 refine T0 (T4 (by omega) (by omega)) fun e he=>?_
 refine T0 (Ql8 _ _) fun x hx=>?_
 refine T0 (Ql8 _ _) fun y hy=>?_
 refine T0 (P:=fun z=>z=(n,e)) (T2 rfl) fun z hz=>?_
 subst hz
 refine T0 (QAG n m task most [] x y e h hm hmost (by omega) hx hy he) fun r hr=>?_
 have fin:∀a,QsX n most a->(a.length:Int)<=max2 most 0/\∀o∈a,Qfs n o:=fun a ha=>⟨by have:=ha.1;unfold max2;split<;>omega,ha.2⟩
 rcases r with r | r
 ·exact T2 (fin r (hr r (.inl rfl)))
 exact T2 (fin r (hr r (.inr rfl)))
end Go.Proofs
noncomputable section
namespace Go.Proofs
open Go Go.RowKit Go.Vm
def szB (n:Qn)(t:QF):List Int:=t.Vars.map fun v=>(QaJ n.Colours v.Colour).getD 0
def gdB (b:QM)(r:List Int):Bool:=decide (Qam b r=some 0)
def Qdm (n:Qn)(m:List (List (Int×Int)))(task:Int)(ins outs:List (List Int))(p:List Int):List Qi:=match Qa1 n m task p with
 | some (c,b)=>if c=0/\Q5 b=some 0 then ins.flatMap fun e=>if Q3 b e=some 0 then(outs.filter (gdB b)).map fun o=>Qi.mk task p e o else []else []
 | none=>[]
theorem ne0 (g:Int):(g != 0)=!decide (some g=some (0:Int)):=by by_cases h:g=0<;>simp [h]
theorem Qyj (t:QF)(n:Qn)(l:List Int)(h:QX n)(hl:l.length=t.Vars.length)(hv:t.Vars.length<=16)(hd:∀d∈l,0<=d/\d<=1024):
  Qg (Qz (fun st=>Qax t n st.1 st.2) ((w64 ((l.length:Int)-1)),l)) fun q=>(-1<=q.1/\q.1<l.length/\q.2=l.take (q.1+1).toNat++List.replicate (l.length-(q.1+1).toNat) 0)/\(∀(j:Nat) x s,q.1<(j:Int)->l[j]? = some x->(szB n t)[j]? = some s->¬x+1<s)/\∀x s,0<=q.1->l[q.1.toNat]? = some x->(szB n t)[q.1.toNat]? = some s->x+1<s/\x<1024:=by
 have hw:w64 ((l.length:Int)-1)=(l.length:Int)-1:=Q7 (by omega)
 refine Qg.up l.length (fun st=>(l.length:Int)-1-st.1) (fun st=>st.2=l.take (st.1+1).toNat++List.replicate (l.length-(st.1+1).toNat) 0/\∀(j:Nat) x s,st.1<(j:Int)->l[j]? = some x->(szB n t)[j]? = some s->¬x+1<s) (by rw [hw];omega) ⟨by
  rw [hw]
  show l=_
  rw [show((l.length:Int)-1+1).toNat=l.length by omega,Qi2,Nat.sub_self];simp,fun j x s hj hx=>by
  replace hj:w64 ((l.length:Int)-1)<(j:Int):=hj
  have:=(QT.1 hx).1
  omega⟩ (fun i st hi hn hJ=>?_)
 obtain⟨a,d⟩:=st
 replace hi:(l.length:Int)-1-a=i:=hi
 obtain⟨hJ,hJ2⟩:d=l.take (a+1).toNat++List.replicate (l.length-(a+1).toNat) 0/\∀(j:Nat) x s,a<(j:Int)->l[j]? = some x->(szB n t)[j]? = some s->¬x+1<s:=hJ
 have hdl:d.length=l.length:=by rw [hJ];simp;omega
 show Qg (Qax t n a d) _
 unfold Qax
 refine T0 (P:=fun x=>(x=true->0<=a/\∀e s,l[a.toNat]? = some e->(szB n t)[a.toNat]? = some s->¬e+1<s)/\(x=false->∀e s,0<=a->l[a.toNat]? = some e->(szB n t)[a.toNat]? = some s->e+1<s/\e<1024)) ?_ fun x hx=>?_
 ·unfold Qfz
  refine T1 (fun hc=>?_) fun hc=>T2 ⟨fun h=>(by cases h),fun _ e s he=>?_⟩
  ·simp only [QQ]at hc
   have hlt:a.toNat<l.length:=by omega
   have hlv:a.toNat<t.Vars.length:=by omega
   have ed:idx d a=some l[a.toNat]:=by
    rw [QeN hc,hJ,Qbf (by simp;omega),Qbx,if_pos (by omega),QG hlt]
   have ev:idx t.Vars a=some t.Vars[a.toNat]:=by rw [QeN hc,QG hlv]
   rw [ed,Ql,ev,Ql]
   refine T0 (Qff _ _ h.1).self fun z hz=>?_
   obtain⟨hze,hz⟩:=hz
   have hsz:(szB n t)[a.toNat]? = some z:=by
    unfold szB
    rw [Qak,QG hlv,Qfu,hze];rfl
   have h2:=hd _ (Qby hlt)
   rw [Q7 (by omega)]
   refine T2 ⟨fun ht=>⟨hc,fun e s he hs=>?_⟩,fun hf e s _ he hs=>?_⟩
   ·rw [QG hlt]at he
    cases he
    rw [hsz]at hs;cases hs
    simp only [QQ]at ht
    omega
   rw [QG hlt]at he
   cases he
   rw [hsz]at hs;cases hs
   simp only [Qal]at hf
   omega
  simp only [Qal]at hc;omega
 unfold QdY
 refine T1 (fun hc=>?_) fun hc=>?_
 ·obtain⟨ha,ha2⟩:=hx.1 hc
  refine T0 (T4 ha (by omega)) fun _ _=>?_
  have hw2:w64 (a-1)=a-1:=Q7 (by omega)
  refine T2 (QN ⟨by omega,?_,?_,fun j x s hj hx hs=>?_⟩)
  ·show(l.length:Int)-1-w64 (a-1)=_
   rw [hw2];omega
  ·show d.set a.toNat 0=l.take (w64 (a-1)+1).toNat++List.replicate (l.length-(w64 (a-1)+1).toNat) 0
   rw [hw2,hJ,show(a+1).toNat=a.toNat+1 by omega,Qp9 (by omega),show(a-1+1).toNat=a.toNat by omega]
   rw [show l.length-a.toNat=(l.length-(a.toNat+1))+1 by omega,List.replicate_succ]
  replace hj:w64 (a-1)<(j:Int):=hj
  rw [hw2]at hj
  by_cases c:a<(j:Int)
  ·exact hJ2 j x s c hx hs
  have:a.toNat=j:=by omega
  subst this
  exact ha2 x s hx hs
 exact T2 (Qt ⟨⟨by omega,by omega,hJ⟩,hJ2,hx.2 hc⟩)
theorem QzL (n:Qn)(m:List (List (Int×Int)))(b:QM)(l:List (List Int))(h:QaT n)(hb:BOk n m b)(hl:Qd8 l):Qg (Qa3 l b) fun r=>(r=-1/\∀row∈l,gdB b row=true)\/∃i:Nat,r=(i:Int)/\i<l.length/\(∀row∈l.take i,gdB b row=true)/\∀row,l[i]? = some row->gdB b row=false:=by
 have hl1:=hl.1
 unfold Qa3
 refine T0 (Qg.up l.length (fun st=>st) (fun st=>∀row∈l.take st.toNat,gdB b row=true) (Q:=fun q:Int⊕Unit=>(∀x,q=.inl x->∃i:Nat,x=(i:Int)/\i<l.length/\(∀row∈l.take i,gdB b row=true)/\∀row,l[i]? = some row->gdB b row=false)/\(q=.inr ()->∀row∈l,gdB b row=true)) rfl (fun row h=>by cases h) (fun i st hi hn hJ=>?_)) (fun q hq=>?_)
 ·replace hi:st=(i:Int):=hi
  subst hi
  replace hJ:∀row∈l.take (i:Int).toNat,gdB b row=true:=hJ
  rw [Qg7]at hJ
  show Qg (QaI l b i) _
  unfold QaI QeE
  refine T1 (fun hc=>?_) (fun hc=>T2 (Qt ⟨fun x h=>(by cases h),fun _=>?_⟩))
  ·simp only [QQ]at hc
   have hlt:i<l.length:=by omega
   rw [Qae,QG hlt,Ql]
   have:=hl.2 _ (Qby hlt)
   refine T0 (P:=fun c:Bool=>c=!gdB b l[i]) ?_ fun c hcc=>?_
   ·refine T0 (Qr2 n m b l[i] h hb (by omega)).self fun g hg=>T2 ?_
    unfold gdB
    rw [hg.1];exact ne0 g
   subst hcc
   refine T1 (fun hc2=>T2 (Qt ⟨fun x e=>(by cases e;exact⟨i,rfl,hlt,hJ,fun row hr=>by rw [QG hlt]at hr;cases hr;simpa using hc2⟩),fun e=>by cases e⟩)) fun hc2=>?_
   have hw:w64 ((i:Int)+1)=((i+1:Nat):Int):=Qy hlt (by unfold maxLen;omega:l.length<=maxLen)
   refine T2 (QN ⟨hlt,hw,?_⟩)
   show ∀row∈l.take (w64 ((i:Int)+1)).toNat,gdB b row=true
   rw [hw,Qg7,QhW,QG hlt]
   intro row hr
   rcases QcH.1 hr with hr | hr
   ·exact hJ row hr
   simp at hr;subst hr;simpa using hc2
  simp only [Qal]at hc
  rwa [QgB (by omega)]at hJ
 rcases q with q | q
 ·exact T2 (.inr (hq.1 q rfl))
 exact T2 (.inl ⟨rfl,hq.2 rfl⟩)
theorem QzM (n:Qn)(m:List (List (Int×Int)))(b:QM)(l:List (List Int))(h:QaT n)(hb:BOk n m b)(hl:Qd8 l):Qg (QaS l b) fun r=>r=l.filter (gdB b):=by
 have hl1:=hl.1
 unfold QaS
 refine T0 (QzL n m b l h hb hl) fun x hx=>?_
 rcases hx with⟨rfl,hx⟩|⟨i0,rfl,hi0,hx1,hx2⟩
 ·exact T1 (fun _=>T2 (List.filter_eq_self.2 hx).symm) fun hc=>by simp at hc
 refine T1 (fun hc=>by simp at hc) fun _=>?_
 have hw:w64 ((i0:Int)+1)=(i0:Int)+1:=Q7 (by omega)
 have hbad:=hx2 _ (QG hi0)
 refine T0 (Qg.up (l.length-(i0+1)) (fun st=>st.2.1-((i0:Int)+1)) (fun st=>0<=st.1/\st.1<st.2.1/\st.2.2.length=l.length/\st.2.2.take st.1.toNat=(l.take st.2.1.toNat).filter (gdB b)/\st.2.2.drop st.2.1.toNat=l.drop st.2.1.toNat) (Q:=fun q:Int×List (List Int)=>0<=q.1/\q.1<=(l.length:Int)/\q.2.length=l.length/\q.2.take q.1.toNat=l.filter (gdB b)) (by show w64 ((i0:Int)+1)-((i0:Int)+1)=0;omega) ⟨by show(0:Int)<=i0;omega,by show(i0:Int)<w64 ((i0:Int)+1);omega,rfl,?_,rfl⟩ (fun i st hi hn hJ=>?_)) (fun q hq=>?_)
 ·show l.take (i0:Int).toNat=(l.take (w64 ((i0:Int)+1)).toNat).filter (gdB b)
  rw [hw,Qg7,show((i0:Int)+1).toNat=i0+1 by omega,QhW,QG hi0,List.filter_append,List.filter_eq_self.2 hx1]
  show l.take i0=l.take i0++List.filter (gdB b) [l[i0]]
  rw [Qlk,hbad]
  exact(List.append_nil _).symm
 ·obtain⟨a,j,l2⟩:=st
  replace hi:j-((i0:Int)+1)=i:=hi
  obtain⟨j1,j2,j3,j4,j5⟩:0<=a/\a<j/\l2.length=l.length/\l2.take a.toNat=(l.take j.toNat).filter (gdB b)/\l2.drop j.toNat=l.drop j.toNat:=hJ
  show Qg (QaB b a j l2) _
  unfold QaB QeE
  refine T1 (fun hc=>?_) (fun hc=>T2 (Qt ⟨j1,?_,j3,?_⟩))
  ·simp only [QQ]at hc
   have hj:j.toNat<l2.length:=by omega
   have hj':j.toNat<l.length:=by omega
   have ej:l2[j.toNat]=l[j.toNat]:=by
    have:=congrArg List.head? j5
    rw [Qnh hj,Qnh hj']at this
    exact Option.some.inj this
   have ej5:l2.drop (j.toNat+1)=l.drop (j.toNat+1):=by
    have:=congrArg List.tail j5
    simpa using this
   rw [QmM (by omega) (by omega),Ql]
   have:=hl.2 _ (Qby hj')
   have hw2:w64 (j+1)=j+1:=Q7 (by omega)
   have hw3:w64 (a+1)=a+1:=Q7 (by omega)
   have tk:l.take (j+1).toNat=l.take j.toNat++[l[j.toNat]]:=by
    rw [show(j+1).toNat=j.toNat+1 by omega,QhW,QG hj'];rfl
   refine T0 (P:=fun c:Bool=>c=!gdB b l[j.toNat]) ?_ fun c hcc=>?_
   ·rw [ej]
    refine T0 (Qr2 n m b l[j.toNat] h hb (by omega)).self fun g hg=>T2 ?_
    unfold gdB
    rw [hg.1];exact ne0 g
   subst hcc
   refine T1 (fun hc2=>?_) fun hc2=>?_
   ·have hc2:gdB b l[j.toNat]=true:=by simpa using hc2
    refine T0 (T4 (by omega) (by omega)) fun _ _=>?_
    refine T2 (QN ⟨by omega,by show w64 (j+1)-((i0:Int)+1)=_;omega,by show 0<=w64 (a+1);omega,by show w64 (a+1)<w64 (j+1);omega,by simpa using j3,?_,?_⟩)
    ·show(l2.set a.toNat l2[j.toNat]).take (w64 (a+1)).toNat=(l.take (w64 (j+1)).toNat).filter (gdB b)
     rw [hw2,hw3,tk,List.filter_append,<-j4,show(a+1).toNat=a.toNat+1 by omega,QhW,List.getElem?_set_self (by omega),List.take_set_of_le (Qb2 _),ej]
     simp [hc2]
    show(l2.set a.toNat l2[j.toNat]).drop (w64 (j+1)).toNat=l.drop (w64 (j+1)).toNat
    rw [hw2,show(j+1).toNat=j.toNat+1 by omega,List.drop_set_of_lt (by omega),ej5]
   have hc2:gdB b l[j.toNat]=false:=by simpa using hc2
   refine T2 (QN ⟨by omega,by show w64 (j+1)-((i0:Int)+1)=_;omega,j1,by show a<w64 (j+1);omega,j3,?_,?_⟩)
   ·show l2.take a.toNat=(l.take (w64 (j+1)).toNat).filter (gdB b)
    rw [hw2,tk,List.filter_append,<-j4]
    simp [hc2]
   show l2.drop (w64 (j+1)).toNat=l.drop (w64 (j+1)).toNat
   rw [hw2,show(j+1).toNat=j.toNat+1 by omega,ej5]
  ·simp only [Qal]at hc
   show a<=_
   omega
  simp only [Qal]at hc
  show l2.take a.toNat=_
  rw [j4,QgB (by omega)]
 obtain⟨q1,q2⟩:=q
 obtain⟨h1,h2,h3,h4⟩:0<=q1/\q1<=l.length/\q2.length=l.length/\q2.take q1.toNat=l.filter (gdB b):=hq
 show Qg (QaC q1 q2) _
 unfold QaC
 refine T0 (T5 (by simp only [QB,QQ];omega)) fun _ _=>?_
 refine T0 (T5 (by simp only [QB,QQ,Qb0,QdI,List.length_replicate];omega)) fun _ _=>?_
 refine T2 ?_
 rw [Qsa (by simp;omega),List.take_take,Nat.min_self,h4]
end Go.Proofs
noncomputable section
namespace Go.Proofs
open Go Go.RowKit Go.Vm
theorem QAH (n:Qn)(m:List (List (Int×Int)))(task most:Int)(l5 l8:List Qi)(ins outs:List (List Int))(p:List Int)(h:QaT n)(hm:QH (QH fun _=>True) m)(hmost:most<=4294967296\/l8.length+(Qdm n m task ins outs p).length<=4294967296)
  (hi:Qd8 ins) (ho:Qd8 outs) (hp:p.length<=16) (ha:(l8.length:Int)<most):
  Qg (QcE n m task most l5 ins outs l8 p) fun r=>r=adv most.toNat l8 (Qdm n m task ins outs p):=by
 have hil:=hi.1
 have hol:=ho.1
 unfold QcE
 refine T0 (Qx1 n m task p h).self fun x hx=>?_
 obtain⟨c,b⟩:=x
 obtain⟨hxe,hx⟩:=hx
 refine T0 (P:=fun y=>(y=true->Qdm n m task ins outs p=[])/\(y=false->BOk n m b/\c=0/\Q5 b=some 0)) ?_ fun y hy=>?_
 ·unfold Qf2
  refine T1 (fun hc=>T2 ⟨fun _=>?_,fun h=>by cases h⟩) fun hc=>?_
  ·unfold Qdm
   rw [hxe]
   simp only
   rw [if_neg fun e=>by simp [e.1]at hc]
  have hc:c=0:=by simpa using hc
  have hb:=hx hc
  refine T0 (Quz n m b h hb).self fun g hg=>T2 ⟨fun hg2=>?_,fun hg2=>⟨hb,hc,?_⟩⟩
  ·unfold Qdm
   rw [hxe]
   simp only
   rw [if_neg fun e=>by rw [hg.1]at e;simp at e;simp [e.2]at hg2]
  rw [hg.1];simpa using hg2
 unfold QcM
 refine T1 (fun hc=>T2 ?_) fun hc=>?_
 ·rw [hy.1 hc,Ql7 (by omega)]
 obtain⟨hb,hc0,hgd⟩:=hy.2 hc
 refine T0 (P:=fun z=>z=outs) (by unfold QcB;exact T0 (T5 (by simp;omega)) fun _ _=>T2 rfl) fun x19 h19=>?_
 rw [h19]
 refine T0 (QzM n m b outs h hb ho) fun x20 h20=>?_
 have h20l:x20.length<=16:=by rw [h20];exact QbM (Qwu _ _) ho.1
 have h20e:∀r∈x20,r.length<=16:=fun r hr=>by rw [h20]at hr;exact ho.2 r (Qnj.1 hr).1
 have hR:Qdm n m task ins outs p=ins.flatMap fun e=>if Q3 b e=some 0 then x20.map (fun o=>Qi.mk task p e o)else []:=by
  unfold Qdm
  rw [hxe]
  simp only
  rw [if_pos ⟨hc0,hgd⟩,h20]
 rw [hR]at hmost ⊢
 generalize hg:(fun e=>if Q3 b e=some 0 then x20.map (fun o=>Qi.mk task p e o)else [])=g at hmost ⊢
 refine T0 (Qg.up ins.length (fun st=>st.1) (fun st=>(st.2.length:Int)<most/\adv most.toNat st.2 ((ins.drop st.1.toNat).flatMap g)=adv most.toNat l8 (ins.flatMap g)/\st.2.length+((ins.drop st.1.toNat).flatMap g).length=l8.length+(ins.flatMap g).length) (Q:=fun q=>q=adv most.toNat l8 (ins.flatMap g)) rfl ⟨ha,rfl,rfl⟩ (fun i st hi2 hn hJ=>?_)) (fun q hq=>?_)
 ·obtain⟨j,l⟩:=st
  replace hi2:j=(i:Int):=hi2
  subst hi2
  obtain⟨hJ1,hJ2,hJ3⟩:(l.length:Int)<most/\adv most.toNat l ((ins.drop (i:Int).toNat).flatMap g)=adv most.toNat l8 (ins.flatMap g)/\l.length+((ins.drop (i:Int).toNat).flatMap g).length=l8.length+(ins.flatMap g).length:=hJ
  rw [Qg7]at hJ2 hJ3
  show Qg (QbS ins (c,b) x20 p task most i l) _
  unfold QbS
  refine T1 (fun hc=>?_) (fun hc=>T2 (Qt ?_))
  ·simp only [QQ]at hc
   have hlt:i<ins.length:=by omega
   have hel:=hi.2 _ (Qby hlt)
   rw [Qae,QG hlt,Ql]
   rw [Qnh hlt,QhV,QuQ]at hJ2
   rw [Qnh hlt,QhV,Qb0]at hJ3
   have next:∀l',(l'.length:Int)<most->adv most.toNat l' ((ins.drop (i+1)).flatMap g)=adv most.toNat l8 (ins.flatMap g)->l'.length+((ins.drop (i+1)).flatMap g).length=l8.length+(ins.flatMap g).length->Qg (Qbd i l') fun o=>(∀s',o=.inl s'->i<ins.length/\s'.1=((i+1:Nat):Int)/\(s'.2.length:Int)<most/\adv most.toNat s'.2 ((ins.drop s'.1.toNat).flatMap g)=adv most.toNat l8 (ins.flatMap g)/\s'.2.length+((ins.drop s'.1.toNat).flatMap g).length=l8.length+(ins.flatMap g).length)/\∀r:List Qi⊕List Qi,o=.inr r->r=adv most.toNat l8 (ins.flatMap g):=fun l' hl1 hl2 hl3=>by
    have hw:w64 ((i:Int)+1)=((i+1:Nat):Int):=Qy hlt (by unfold maxLen;omega:ins.length<=maxLen)
    unfold Qbd
    exact T2 (QN (ix:=fun st:Int×List Qi=>st.1) (J:=fun st:Int×List Qi=>(st.2.length:Int)<most/\adv most.toNat st.2 ((ins.drop st.1.toNat).flatMap g)=adv most.toNat l8 (ins.flatMap g)/\st.2.length+((ins.drop st.1.toNat).flatMap g).length=l8.length+(ins.flatMap g).length) ⟨hlt,hw,hl1,by
     show adv most.toNat l' ((ins.drop (w64 ((i:Int)+1)).toNat).flatMap g)=_/\l'.length+((ins.drop (w64 ((i:Int)+1)).toNat).flatMap g).length=_
     rw [hw,Qg7];exact⟨hl2,hl3⟩⟩)
   refine T0 (Qx2 n m b ins[i] h hb hm (by omega)).self fun z hz=>?_
   refine T1 (fun hc2=>?_) fun hc2=>?_
   ·have:g ins[i]=[]:=by
     rw [<-hg];simp only
     rw [if_neg fun e=>by rw [hz.1]at e;simp at e;simp [e]at hc2]
    rw [this,Ql7 (by omega)]at hJ2
    rw [this]at hJ3
    exact next l hJ1 hJ2 (by simpa using hJ3)
   have hge:g ins[i]=x20.map (fun o=>Qi.mk task p ins[i] o):=by
    rw [<-hg];simp only
    rw [if_pos (by rw [hz.1];simpa using hc2)]
   rw [hge]at hJ2 hJ3
   rw [Qlm]at hJ3
   refine T0 (Qg.up x20.length (fun st=>st.1) (fun st=>(st.2.length:Int)<most/\adv most.toNat st.2 ((x20.drop st.1.toNat).map fun o=>Qi.mk task p ins[i] o)=adv most.toNat l (x20.map fun o=>Qi.mk task p ins[i] o)/\(st.2.length:Int)=l.length+st.1) (Q:=fun q=>q=adv most.toNat l (x20.map fun o=>Qi.mk task p ins[i] o)) rfl ⟨hJ1,rfl,by simp⟩ (fun i2 st hi3 hn2 hK=>?_)) (fun q hq=>?_)
   ·obtain⟨j2,l2⟩:=st
    replace hi3:j2=(i2:Int):=hi3
    subst hi3
    obtain⟨hK1,hK2,hK3⟩:(l2.length:Int)<most/\adv most.toNat l2 ((x20.drop (i2:Int).toNat).map fun o=>Qi.mk task p ins[i] o)=adv most.toNat l (x20.map fun o=>Qi.mk task p ins[i] o)/\(l2.length:Int)=l.length+(i2:Int):=hK
    rw [Qg7]at hK2
    show Qg (QbR x20 p ins[i] task most i2 l2) _
    unfold QbR
    refine T1 (fun hc=>?_) (fun hc=>T2 (Qt ?_))
    ·simp only [QQ]at hc
     have hlt2:i2<x20.length:=by omega
     have hel2:=h20e _ (Qby hlt2)
     rw [Qae,QG hlt2,Ql]
     rw [Qnh hlt2,Qgc,QCr]at hK2
     rw [QfL p (by omega),Ql,QfL ins[i] (by omega),Ql,QfL x20[i2] (by omega),Ql]
     refine T0 (T5 (by simp;omega)) fun _ _=>?_
     refine T1 (fun hc2=>T2 (Qt ?_)) fun hc2=>?_
     ·simp only [beq_iff_eq,Qb0,Qi0]at hc2
      rw [QCq (by simp;omega)]at hK2
      exact hK2
     simp only [beq_eq_false_iff_ne,Qb0,Qi0]at hc2
     have hw:w64 ((i2:Int)+1)=((i2+1:Nat):Int):=Qy hlt2 (by unfold maxLen;omega:x20.length<=maxLen)
     refine T2 (QN ⟨hlt2,hw,by show((l2++[_]).length:Int)<most;simp;omega,?_,by show((l2++[_]).length:Int)=l.length+w64 ((i2:Int)+1);rw [hw];simp;omega⟩)
     show adv most.toNat (l2++[_]) ((x20.drop (w64 ((i2:Int)+1)).toNat).map _)=_
     rw [hw,Qg7];exact hK2
    simp only [Qal]at hc
    rw [List.drop_of_length_le (by omega),List.map_nil,Ql7 (by omega)]at hK2
    exact hK2
   rw [<-hq]at hJ2
   rcases q with q | q
   ·exact T2 (Qt hJ2)
   exact next q (by have:=Qw1 hq.symm;omega) hJ2 (by
    have e:=congrArg List.length (QuR hq.symm)
    rw [Qb0,Qlm]at e
    omega)
  simp only [Qal]at hc
  rw [List.drop_of_length_le (by omega),List.flatMap_nil,Ql7 (by omega)]at hJ2
  exact hJ2
 rcases q with q | q
 ·exact T2 hq
 exact T2 hq
theorem QyE (n:Qn)(m:List (List (Int×Int)))(task most:Int)(l5:List Qi)(ins outs:List (List Int))(t:QF)(h:QaT n)(hm:QH (QH fun _=>True) m)(hmost:most<=4294967296\/((binds (szB n t)).flatMap (Qdm n m task ins outs)).length<=4294967296)(h1:1<=most)
  (hi:Qd8 ins) (ho:Qd8 outs) (ht:t∈n.Tasks):Qg (Qea n m task most l5 ins outs [] t n) fun r=>∀a,r=.inl a\/r=.inr a->a=((binds (szB n t)).flatMap (Qdm n m task ins outs)).take most.toNat:=by
 have hv:=(h.tk t ht).1
 have hsz:(szB n t).length=t.Vars.length:=by simp [szB]
 generalize hrl:Qdm n m task ins outs=rl at hmost ⊢
 have fin:∀q:List Qi⊕List Qi,q.swap=adv most.toNat [] ((binds (szB n t)).flatMap rl)->∀a,q=.inl a\/q=.inr a->a=((binds (szB n t)).flatMap rl).take most.toNat:=fun q hq a ha=>by
  rw [<-Qzg (by omega:0<most.toNat),<-hq]
  rcases ha with rfl | rfl<;>rfl
 unfold Qea
 refine T0 (T5 (by simp only [QB,QQ];omega)) fun _ _=>?_
 refine T0 (QuA (fun st=>(Qbj (szB n t) st.1).length) (fun st=>st.1.length=t.Vars.length/\(∀d∈st.1,0<=d/\d<=1024)/\(st.2.length:Int)<most/\adv most.toNat st.2 ((st.1::Qbj (szB n t) st.1).flatMap rl)=adv most.toNat [] ((binds (szB n t)).flatMap rl)/\st.2.length+((st.1::Qbj (szB n t) st.1).flatMap rl).length=((binds (szB n t)).flatMap rl).length) (Q:=fun q:List Qi⊕List Qi=>q.swap=adv most.toNat [] ((binds (szB n t)).flatMap rl))
  ⟨by simp,fun d hd=>by have:=Qni hd;omega,by simp;omega,?_⟩ (fun st hJ=>?_)) (fun q hq=>?_)
 ·show adv most.toNat [] ((List.replicate (t.Vars.length:Int).toNat 0::Qbj (szB n t) (List.replicate (t.Vars.length:Int).toNat 0)).flatMap rl)=_/\0+((List.replicate (t.Vars.length:Int).toNat 0::Qbj (szB n t) (List.replicate (t.Vars.length:Int).toNat 0)).flatMap rl).length=_
  rw [Qro (szB n t),QiC,hsz,Qg7,Qlr]
  exact⟨rfl,rfl⟩
 ·obtain⟨d,l⟩:=st
  obtain⟨j1,j2,j3,j4,j5⟩:d.length=t.Vars.length/\(∀d'∈d,0<=d'/\d'<=1024)/\(l.length:Int)<most/\adv most.toNat l ((d::Qbj (szB n t) d).flatMap rl)=adv most.toNat [] ((binds (szB n t)).flatMap rl)/\l.length+((d::Qbj (szB n t) d).flatMap rl).length=((binds (szB n t)).flatMap rl).length:=hJ
  rw [QhV,Qb0]at j5
  show Qg (Qc2 n m task most l5 ins outs t n d l) _
  unfold Qc2
  rw [QfL d (by omega),Ql]
  refine T0 (QAH n m task most l5 l ins outs d h hm (by rw [hrl];omega) hi ho (by omega) j3) fun r hr=>?_
  rw [hrl]at hr
  rw [QhV,QuQ,<-hr]at j4
  rcases r with r | r
  ·exact T2 ⟨fun s' e=>(by cases e),fun q e=>(by cases e;exact j4)⟩
  have hacc:=Qw1 hr.symm
  have hlen:=congrArg List.length (QuR hr.symm)
  rw [Qb0]at hlen
  replace j4:adv most.toNat r ((Qbj (szB n t) d).flatMap rl)=adv most.toNat [] ((binds (szB n t)).flatMap rl):=j4
  show Qg (Qc1 t n d r) _
  unfold Qc1
  refine T0 (Qyj t n d h.k j1 hv j2) fun q hq=>?_
  obtain⟨a,d2⟩:=q
  obtain⟨⟨q1,q2,q3⟩,q4,q5⟩:(-1<=a/\a<d.length/\d2=d.take (a+1).toNat++List.replicate (d.length-(a+1).toNat) 0)/\(∀(j:Nat) x s,a<(j:Int)->d[j]? = some x->(szB n t)[j]? = some s->¬x+1<s)/\∀x s,0<=a->d[a.toNat]? = some x->(szB n t)[a.toNat]? = some s->x+1<s/\x<1024:=hq
  have hnx:=Qw0 (szB n t) d
  show Qg (Qc0 r a d2) _
  unfold Qc0
  refine T1 (fun hc=>T2 ⟨fun s' e=>(by cases e),fun q e=>(by
   cases e
   simp only [QQ]at hc
   rw [Quj (szB n t) d fun j x s=>q4 j x s (by omega)]at hnx
   simp only at hnx
   rw [hnx,List.flatMap_nil,Ql7 hacc]at j4
   exact j4)⟩) fun hc=>?_
  simp only [Qal]at hc
  have hlt:a.toNat<d.length:=by omega
  have hls:a.toNat<(szB n t).length:=by omega
  have ed:idx d2 a=some d[a.toNat]:=by
   rw [QeN (by omega),q3,Qbf (by simp;omega),Qbx,if_pos (by omega),QG hlt]
  rw [ed,Ql,Ql]
  have h9:=q5 _ _ (by omega) (QG hlt) (QG hls)
  have h10:=j2 _ (Qby hlt)
  rw [Q7 (by omega)]
  have e3:d2.set a.toNat (d[a.toNat]+1)=d.take a.toNat++(d[a.toNat]+1)::List.replicate (d.length-(a.toNat+1)) 0:=by
   rw [q3,show(a+1).toNat=a.toNat+1 by omega,Qp9 hlt]
  rw [e3]
  have hd3:∀x∈d.take a.toNat++(d[a.toNat]+1)::List.replicate (d.length-(a.toNat+1)) 0,0<=x/\x<=1024:=fun x hx=>by
   rcases QcH.1 hx with hx | hx
   ·exact j2 x (QeQ hx)
   rcases QaK.1 hx with rfl | hx
   ·omega
   have:=Qni hx;omega
  have hlen2:(d.take a.toNat++(d[a.toNat]+1)::List.replicate (d.length-(a.toNat+1)) 0).length=t.Vars.length:=by simp;omega
  rw [QzT a.toNat (szB n t) d _ _ (by omega) (QG hlt) (QG hls) h9.1 fun j y z hj=>q4 j y z (by omega)]at hnx
  simp only at hnx
  rw [hnx]at j4
  exact T2 ⟨fun s' e=>(by
   cases e
   refine⟨?_,hlen2,hd3,by show(r.length:Int)<most;omega,j4,by show r.length+(List.flatMap rl (_::_)).length=_;rw [<-hnx];omega⟩
   show(Qbj (szB n t) (d.take a.toNat++(d[a.toNat]+1)::List.replicate (d.length-(a.toNat+1)) 0)).length<(Qbj (szB n t) d).length
   rw [hnx,QeP];omega),fun q e=>(by cases e)⟩
 rcases q with q | q
 ·exact T2 fun a ha=>fin _ hq a (by rcases ha with ha | ha<;>cases ha;exact .inl rfl)
 exact T2 fun a ha=>fin _ hq a (by rcases ha with ha | ha<;>cases ha;exact .inr rfl)
def chC (kind arcs:Int):List (List Int):=(Qay kind arcs).getD []
def QaP (n:Qn)(m:List (List (Int×Int)))(task:Int):List Qi:=match idx n.Tasks task with
 | some t=>(binds (szB n t)).flatMap (Qdm n m task (chC t.Join t.Ins.length) (chC t.Split t.Outs.length))
 | none=>[]
theorem QmP (n:Qn)(m:List (List (Int×Int)))(task most:Int)(h:QaT n)(hm:QH (QH fun _=>True) m)(hmost:most<=4294967296\/(QaP n m task).length<=4294967296):QbT n m task most=some ((QaP n m task).take most.toNat):=by
 have key:Qg (QbT n m task most) fun r=>r=(QaP n m task).take most.toNat:=by
  unfold QbT
  refine T1 (fun hc=>T2 ?_) fun hc=>?_
  ·simp only [Qcs,QQ]at hc
   rcases hc with hc | hc | hc
   ·unfold QaP idx
    rw [if_neg (by omega)];simp
   ·unfold QaP idx
    rw [if_pos (by omega),List.getElem?_eq_none (by omega)];simp
   rw [show most.toNat=0 by omega,Qsb]
  simp only [QcV,Qal]at hc
  refine T0 (T4 (by omega) (by omega)).self fun e he=>?_
  refine T0 (Ql8 _ _).self fun x hx=>?_
  refine T0 (Ql8 _ _).self fun y hy=>?_
  refine T0 (P:=fun z=>z=(n,e)) (T2 rfl) fun z hz=>?_
  subst hz
  have hml:QaP n m task=(binds (szB n e)).flatMap (Qdm n m task x y):=by
   unfold QaP chC
   rw [he.1]
   simp only
   rw [hx.1,hy.1];rfl
  refine T0 (QyE n m task most [] x y e h hm (by rw [<-hml];exact hmost) (by omega) hx.2 hy.2 he.2) fun r hr=>?_
  rw [hml]
  rcases r with r | r
  ·exact T2 (hr r (.inl rfl))
  exact T2 (hr r (.inr rfl))
 obtain⟨r,h1,h2⟩:=key
 rw [h1,h2]
end Go.Proofs
noncomputable section
namespace Go.Proofs
open Go Go.RowKit Go.Vm
theorem QBz {n:Qn}{m:List (List (Int×Int))}{task:Int}{ins outs:List (List Int)}{p:List Int}{o:Qi}:
  o∈Qdm n m task ins outs p↔o.Task=task/\o.Vars=p/\o.Ins∈ins/\o.Outs∈outs/\∃b,Qa1 n m task p=some (0,b)/\Q5 b=some 0/\Q3 b o.Ins=some 0/\Qam b o.Outs=some 0:=by
 unfold Qdm
 cases hb:Qa1 n m task p with
 | none=>simp
 | some x=>
  obtain⟨c,b⟩:=x
  simp only
  by_cases hc:c=0/\Q5 b=some 0
  ·rw [if_pos hc]
   obtain⟨rfl,hg⟩:=hc
   simp only [List.mem_flatMap]
   constructor
   ·rintro ⟨e,he,h⟩
    by_cases ht:Q3 b e=some 0
    ·rw [if_pos ht]at h
     obtain⟨r,hr,rfl⟩:=QaE.1 h
     obtain⟨h1,h2⟩:=Qnj.1 hr
     exact⟨rfl,rfl,he,h1,b,rfl,hg,ht,Qap h2⟩
    rw [if_neg ht]at h;cases h
   rintro ⟨h1,h2,h3,h4,b',h5,h6,h7,h8⟩
   cases h5
   refine⟨o.Ins,h3,?_⟩
   rw [if_pos h7]
   refine QaE.2 ⟨o.Outs,Qnj.2 ⟨h4,QI h8⟩,?_⟩
   cases o
   simp only at h1 h2
   subst h1;subst h2;rfl
  rw [if_neg hc]
  constructor
  ·intro h;cases h
  rintro ⟨_,_,_,_,b',h5,h6,_⟩
  cases h5
  exact absurd ⟨rfl,h6⟩ hc
theorem QuB {n:Qn}{m:List (List (Int×Int))}{task:Int}{o:Qi}:
  o∈QaP n m task↔o.Task=task/\∃e,idx n.Tasks task=some e/\inB (szB n e) o.Vars/\o.Ins∈chC e.Join e.Ins.length/\o.Outs∈chC e.Split e.Outs.length/\∃b,Qa1 n m task o.Vars=some (0,b)/\Q5 b=some 0/\Q3 b o.Ins=some 0/\Qam b o.Outs=some 0:=by
 unfold QaP
 cases he:idx n.Tasks task with
 | none=>simp
 | some e=>
  simp only [List.mem_flatMap,QBu,QBz,Option.some.injEq,exists_eq_left']
  constructor
  ·rintro ⟨p,h1,h2,rfl,h3,h4,h5⟩
   exact⟨h2,h1,h3,h4,h5⟩
  rintro ⟨h1,h2,h3,h4,h5⟩
  exact⟨o.Vars,h2,h1,rfl,h3,h4,h5⟩
theorem Qxg (a b:List Int)(ha:a.length<=maxLen):Qbv a b=some (decide (a=b)):=by
 have key:Qg (Qbv a b) fun r=>r=decide (a=b):=by
  unfold Qbv
  refine T1 (fun hc=>T2 ?_) fun hc=>?_
  ·rw [QP fun e=>by subst e;simp at hc]
  simp only [bne_eq_false_iff_eq]at hc
  have hc:a.length=b.length:=by omega
  refine T0 (Qg.up a.length (fun st=>st) (fun st=>a.take st.toNat=b.take st.toNat) (Q:=fun q:Unit⊕Unit=>(q=.inl ()->a≠b)/\(q=.inr ()->a=b)) rfl rfl (fun i st hi hn hJ=>?_)) (fun q hq=>?_)
  ·replace hi:st=(i:Int):=hi
   subst hi
   replace hJ:a.take (i:Int).toNat=b.take (i:Int).toNat:=hJ
   rw [Qg7]at hJ
   show Qg (QbA a b i) _
   unfold QbA
   refine T1 (fun hc2=>?_) (fun hc2=>T2 (Qt ⟨fun e=>(by cases e),fun _=>?_⟩))
   ·simp only [QQ]at hc2
    have i1:i<a.length:=by omega
    have i2:i<b.length:=by omega
    rw [Qae,QG i1,Ql,Qae,QG i2,Ql]
    refine T1 (fun hc3=>T2 (Qt ⟨fun _ e=>?_,fun e=>by cases e⟩)) fun hc3=>?_
    ·subst e;simp at hc3
    have hw:w64 ((i:Int)+1)=((i+1:Nat):Int):=Qy i1 ha
    refine T2 (QN ⟨i1,hw,?_⟩)
    show a.take (w64 ((i:Int)+1)).toNat=b.take (w64 ((i:Int)+1)).toNat
    rw [hw,Qg7,QhW,QhW,hJ,QG i1,QG i2]
    simp only [bne_eq_false_iff_eq]at hc3
    rw [hc3]
   simp only [Qal]at hc2
   rwa [QgB (by omega),QgB (by omega)]at hJ
  rcases q with q | q
  ·exact T2 (QP (hq.1 rfl)).symm
  exact T2 (QI (hq.2 rfl)).symm
 obtain⟨r,h1,h2⟩:=key
 rw [h1,h2]
theorem QnR (kind arcs:Int):Qay kind arcs=some (chC kind arcs)/\Qd8 (chC kind arcs):=by
 obtain⟨r,h1,h2⟩:=Ql8 kind arcs
 unfold chC
 rw [h1]
 exact⟨rfl,h2⟩
theorem QiM (kind arcs:Int)(row:List Int):Qeh kind arcs row=some (decide (row∈chC kind arcs)):=by
 have key:Qg (Qeh kind arcs row) fun r=>r=decide (row∈chC kind arcs):=by
  unfold Qeh QcK QcJ
  obtain⟨e,hx⟩:=QnR kind arcs
  rw [e,Ql]
  generalize chC kind arcs=x at hx
  have hl:=hx.1
  have key:Qg ((Qz (fun st=>Qar x row st) 0)) fun q:Int⊕Unit=>(∀k,q=.inl k->0<=k/\row∈x)/\(q=.inr ()->row ∉ x):=by
   refine Qg.up x.length (fun st=>st) (fun st=>row ∉ x.take st.toNat) rfl (by simp) (fun i st hi hn hJ=>?_)
   replace hi:st=(i:Int):=hi
   subst hi
   replace hJ:row ∉ x.take (i:Int).toNat:=hJ
   rw [Qg7]at hJ
   show Qg (Qar x row i) _
   unfold Qar Qja
   refine T1 (fun hc=>?_) (fun hc=>T2 (Qt ⟨fun k e=>(by cases e),fun _=>?_⟩))
   ·simp only [QQ]at hc
    have i1:i<x.length:=by omega
    have:=hx.2 _ (Qby i1)
    rw [Qae,QG i1,Ql,Qxg _ _ (by unfold maxLen;omega)]
    simp only [Ql]
    refine T1 (fun hc2=>T2 (Qt ⟨fun k e=>(by cases e;exact⟨by omega,by rw [<-Qap hc2];exact Qby i1⟩),fun e=>by cases e⟩)) fun hc2=>?_
    have hw:w64 ((i:Int)+1)=((i+1:Nat):Int):=Qy i1 (by unfold maxLen;omega:x.length<=maxLen)
    refine T2 (QN ⟨i1,hw,?_⟩)
    show row ∉ x.take (w64 ((i:Int)+1)).toNat
    rw [hw,Qg7,QhW,QG i1]
    simp only [Option.toList_some,QcH,Qnk,not_or]
    exact⟨hJ,fun e=>of_decide_eq_false hc2 e.symm⟩
   simp only [Qal]at hc
   rwa [QgB (by omega)]at hJ
  obtain⟨q,hq1,hq2⟩:=key
  rw [hq1]
  rcases q with q | q
  ·have:=hq2.1 q rfl
   refine T2 ?_
   rw [QI this.2]
   exact QI this.1
  refine T2 ?_
  rw [QP (hq2.2 rfl)];rfl
 obtain⟨r,h1,h2⟩:=key
 rw [h1,h2]
theorem QBA (l:List QD)(k m:Int)(hl:QH Qa5 l):Qg (Qdd l k m) fun r=>r.2=true->0<=m/\∃z,QaJ l k=some z/\m<z:=by
 unfold Qdd QaJ
 refine T0 (QiF l k hl).self fun x hx=>?_
 obtain⟨hxe,hx⟩:=hx
 refine T0 (P:=fun r=>r=false->x.1=true/\0<=m/\∃h:0<=k/\k<(x.2.sizes.length:Int),m<x.2.sizes[k.toNat]'(by omega)) ?_ fun r hr=>?_
 ·unfold QgE
  refine T1 (fun _=>T2 fun h=>by cases h) fun hc=>?_
  have hc:x.1=true:=by simpa using hc
  have h:=hx.2 hc
  have hk:k.toNat<x.2.sizes.length:=by omega
  have ei:idx x.2.sizes k=some x.2.sizes[k.toNat]:=QmM h.1.1 h.1.2
  refine T0 (P:=fun y=>y=true->0<=m/\m<x.2.sizes[k.toNat]) ?_ fun y hy=>T2 fun hf=>?_
  ·unfold Qb5
   refine T0 (P:=fun y=>y=true->0<=m/\m<x.2.sizes[k.toNat]) ?_ fun y hy=>T2 hy
   unfold Qex
   refine T1 (fun hc2=>?_) fun _=>T2 fun h=>by cases h
   rw [h.2.1,ei,Ql]
   exact T2 fun h=>⟨by simpa using hc2,by simpa using h⟩
  have:=hy (by simpa using hf)
  exact⟨hc,this.1,h.1,this.2⟩
 unfold QdC
 refine T1 (fun _=>T2 fun h=>by cases h) fun hc=>?_
 obtain⟨h1,h2,h3,h4⟩:=hr hc
 have h:=hx.2 h1
 have fin:0<=m/\∃z,((Qdg l k).bind fun x5=>bif (!x5.1)then some 0 else(idx x5.2.sizes k).bind fun e7=>some e7)=some z/\m<z:=⟨h2,x.2.sizes[k.toNat]'(by omega),by
  rw [hxe,Ql,h1]
  simp only [Qft,cond_false]
  rw [QmM h3.1 h3.2];rfl,h4⟩
 refine T0 (QhM x.2 (by omega)) fun _ _=>?_
 refine T1 (fun _=>?_) fun _=>T2 fun _=>fin
 exact T0 (QhM x.2 (by omega)) fun _ _=>T2 fun _=>fin
theorem QDG {l d:List Int}(h:d.length=l.length)(hk:∀(j:Nat) x s,d[j]? = some x->l[j]? = some s->0<=x/\x<s):inB l d:=by
 induction l generalizing d with
 | nil=>cases d with
  | nil=>trivial
  | cons x d=>simp at h
 | cons s r ih=>cases d with
  | nil=>simp at h
  | cons x d=>
   have:=hk 0 x s rfl rfl
   exact⟨this.1,.inr this.2,ih (by simpa using h) fun j y z h1 h2=>hk (j+1) y z (by simpa using h1) (by simpa using h2)⟩
theorem QDH (n:Qn)(task:Int)(vars:List Int)(h:QaT n):Qg (QdW n task vars) fun r=>r.2=0->∃e,idx n.Tasks task=some e/\e∈n.Tasks/\inB (szB n e) vars/\∀s∈szB n e,0<s:=by
 unfold QdW
 refine T1 (fun _=>T2 fun h=>by cases h) fun hc=>?_
 simp only [QcV,Qal]at hc
 refine T0 (T4 (by omega) (by omega)).self fun e he=>?_
 have hv:=(h.tk e he.2).1
 have ke:=h.k.2.2.1.2 e he.2
 refine T1 (fun _=>T2 fun h=>by cases h) fun hl=>?_
 simp only [bne_eq_false_iff_eq]at hl
 have hl:vars.length=e.Vars.length:=by omega
 refine T0 (T5 (by simp only [QB,QQ];omega)) fun _ _=>?_
 refine T0 (Qg.up e.Vars.length (fun st=>st.1) (fun st=>st.2.length=e.Vars.length/\∀(j:Nat) x s,(j:Int)<st.1->vars[j]? = some x->(szB n e)[j]? = some s->0<=x/\x<s) (Q:=fun q:Unit⊕List Int=>∀out,q=.inr out->inB (szB n e) vars/\∀s∈szB n e,0<s) rfl ⟨by simp,fun j x s hj=>by simp at hj;omega⟩ (fun i st hi hn hJ=>?_)) (fun q hq=>?_)
 ·obtain⟨x,l⟩:=st
  replace hi:x=(i:Int):=hi
  subst hi
  obtain⟨hJ,hJ2⟩:l.length=e.Vars.length/\∀(j:Nat) x s,(j:Int)<(i:Int)->vars[j]? = some x->(szB n e)[j]? = some s->0<=x/\x<s:=hJ
  show Qg (QcT e vars n i l) _
  unfold QcT
  refine T1 (fun hc=>?_) (fun hc=>T2 (Qt fun out _=>?_))
  ·simp only [QQ]at hc
   have i1:i<e.Vars.length:=by omega
   have i2:i<vars.length:=by omega
   rw [Qae,QG i1,Ql,Qae,QG i2,Ql]
   refine T0 (QBA _ _ _ h.k.1) fun c hc3=>?_
   refine T1 (fun _=>T2 (Qt fun out e=>by cases e)) fun hc4=>?_
   obtain⟨h1,z,h2,h3⟩:=hc3 (by simpa using hc4)
   refine T0 (T4 (by omega) (by omega)) fun d _=>?_
   have hw:w64 ((i:Int)+1)=((i+1:Nat):Int):=Qy i1 (by unfold maxLen;omega:e.Vars.length<=maxLen)
   refine T2 (QN ⟨i1,hw,by simpa using hJ,fun j x s hj hx hs=>?_⟩)
   replace hj:(j:Int)<w64 ((i:Int)+1):=hj
   rw [hw]at hj
   by_cases cj:j=i
   ·subst cj
    rw [QG i2]at hx
    cases hx
    unfold szB at hs
    rw [Qak,QG i1,Qfu,h2]at hs
    cases hs
    exact⟨h1,h3⟩
   exact hJ2 j x s (by omega) hx hs
  simp only [Qal]at hc
  have hb:∀(j:Nat) x s,vars[j]? = some x->(szB n e)[j]? = some s->0<=x/\x<s:=fun j x s hx hs=>hJ2 j x s (by have:=(QT.1 hx).1;omega) hx hs
  refine⟨QDG (by simp [szB,hl]) hb,fun s hs=>?_⟩
  obtain⟨j,hj,rfl⟩:=Qr9.1 hs
  have hj2:j<vars.length:=by simp [szB]at hj;omega
  have:=hb j _ _ (QG hj2) (QG hj)
  omega
 rcases q with q | q
 ·exact T2 fun h=>by cases h
 exact T2 fun _=>⟨e,he.1,he.2,hq q rfl⟩
theorem QoV {n:Qn}{m:List (List (Int×Int))}{task:Int}{vars:List Int}{b:QM}(h:QaT n)(e:Qa1 n m task vars=some (0,b)):idx n.Tasks task=some b.task/\b.task∈n.Tasks/\b.net=n/\b.m=m/\(inB (szB n b.task) vars/\∀s∈szB n b.task,0<s)/\QdW n task vars=some (b.env,0):=by
 unfold Qa1 at e
 obtain⟨x,hx,e⟩:=Qb e
 obtain⟨x1,x2⟩:=x
 rcases Qm e with⟨c,e⟩|⟨c,e⟩
 ·simp only [Option.some.injEq,Prod.mk.injEq]at e
  simp only [e.1]at c;cases c
 simp only [bne_eq_false_iff_eq]at c
 subst c
 obtain⟨t,ht,h1,h2⟩:=Qr1 (QDH n task vars h) hx rfl
 rw [ht,Ql]at e
 simp only [Option.some.injEq,Prod.mk.injEq,true_and]at e
 subst e
 exact⟨ht,h1,rfl,rfl,h2,hx⟩
theorem QBB {n:Qn}{m:List (List (Int×Int))}{o:Qi}(h:QaT n)(hm:QH (QH fun _=>True) m)(ho:Qfs n o):Qcc n m o=some 0↔o∈QaP n m o.Task:=by
 rw [QuB]
 constructor
 ·intro e
  unfold Qcc at e
  obtain⟨x,hx,e⟩:=Qb e
  obtain⟨c,b⟩:=x
  have k3:∀g,Qbt (c,b) o g=some 0->g=0/\o.Ins∈chC b.task.Join b.task.Ins.length/\o.Outs∈chC b.task.Split b.task.Outs.length/\Q3 b o.Ins=some 0/\Qam b o.Outs=some 0:=fun g e=>by
   unfold Qbt at e
   rcases Qm e with⟨c2,e⟩|⟨c2,e⟩
   ·simp only [Option.some.injEq]at e;rw [e]at c2;cases c2
   simp only [bne_eq_false_iff_eq]at c2
   obtain⟨y,hy,e⟩:=Qb e
   unfold QgG at hy
   rw [QiM,Ql]at hy
   unfold QdZ at e
   rcases Qm e with⟨_,e⟩|⟨c3,e⟩
   ·cases e
   subst c3
   rcases Qm hy with⟨_,hy⟩|⟨c4,hy⟩
   ·cases hy
   rw [QiM,Ql]at hy
   simp only [QiX,QQ]at c4
   simp only [Option.some.injEq,QiX,QQ]at hy
   obtain⟨z,hz,e⟩:=Qb e
   rcases Qm e with⟨c5,e⟩|⟨c5,e⟩
   ·simp only [Option.some.injEq]at e;rw [e]at c5;cases c5
   simp only [bne_eq_false_iff_eq]at c5
   subst c5
   obtain⟨w,hw,e⟩:=Qb e
   simp only [Option.some.injEq]at e
   subst e
   exact⟨c2,c4,hy,hz,hw⟩
  have fin:c=0->Q5 b=some 0->(o.Ins∈chC b.task.Join b.task.Ins.length/\o.Outs∈chC b.task.Split b.task.Outs.length/\Q3 b o.Ins=some 0/\Qam b o.Outs=some 0)->o.Task=o.Task/\∃e,idx n.Tasks o.Task=some e/\inB (szB n e) o.Vars/\o.Ins∈chC e.Join e.Ins.length/\o.Outs∈chC e.Split e.Outs.length/\∃b,Qa1 n m o.Task o.Vars=some (0,b)/\Q5 b=some 0/\Q3 b o.Ins=some 0/\Qam b o.Outs=some 0:=fun hc hg q=>by
   subst hc
   obtain⟨h1,_,_,_,h2,_⟩:=QoV h hx
   exact⟨rfl,b.task,h1,h2.1,q.1,q.2.1,b,hx,hg,q.2.2.1,q.2.2.2⟩
  rcases Qm e with⟨c1,e⟩|⟨c1,e⟩
  ·simp only [beq_iff_eq]at c1
   obtain⟨g,hg,e⟩:=Qb e
   obtain⟨rfl,q⟩:=k3 g e
   exact fin c1 hg q
  have e1:=(k3 _ e).1
  simp only [beq_eq_false_iff_ne]at c1
  exact absurd e1 c1
 rintro ⟨_,e,he,h1,h2,h3,b,hb,hg,ht,hv⟩
 obtain⟨k1,k2,_⟩:=QoV h hb
 rw [he]at k1;cases k1
 unfold Qcc
 rw [hb,Ql]
 simp only [show((0:Int)==0)=true from rfl,cond_true,hg,Ql]
 unfold Qbt
 simp only [show((0:Int) != 0)=false from rfl,cond_false]
 unfold QgG
 rw [QiM,Ql,QI h2]
 simp only [Qft,cond_false]
 rw [QiM,Ql,QI h3,Ql]
 unfold QdZ
 simp only [Qft,cond_false,ht,Ql,show((0:Int) != 0)=false from rfl,hv]
end Go.Proofs
noncomputable section
namespace Go.Proofs
open Go Go.RowKit Go.Vm
end Go.Proofs
noncomputable section
namespace Go.Proofs
open Go Go.RowKit Go.Vm
set_option maxRecDepth 100000 in
theorem QAI : QnX=some true:=by kernel_rfl
end Go.Proofs
noncomputable section
namespace Go.Proofs
open Go Go.RowKit Go.Vm
def InI (a:Int):Prop:=-9223372036854775808<=a/\a<=9223372036854775807
instance (a : Int):Decidable (InI a):=by unfold InI;infer_instance
theorem QoW (x:Int):IntKind.u64.wrap x=x % 18446744073709551616:=rfl
theorem Qit {x:Int}(h:0<=x/\x<18446744073709551616):IntKind.u64.wrap x=x:=by rw [QoW];omega
theorem Qxh {x:Int}(h:0<=x):Qen .u64 x 32=x / 4294967296:=by
 unfold Qen
 rw [show min ((32:Int).toNat) (IntKind.bits .u64)=32 from rfl,Int.fdiv_eq_ediv_of_nonneg _ (by decide)]
 rfl
theorem QAJ {x:Int}(h:0<=x/\x<18446744073709551616):QdQ .u64 x 4294967295=x % 4294967296:=by
 unfold QdQ
 have e:((BitVec.ofInt (IntKind.bits .u64) x &&& BitVec.ofInt (IntKind.bits .u64) 4294967295).toNat:Int)=x % 4294967296:=by
  rw [BitVec.toNat_and,BitVec.toNat_ofInt,BitVec.toNat_ofInt]
  have h1:(x % ((2:Nat) ^ (IntKind.bits .u64):Nat)).toNat=x.toNat:=by
   show(x % 18446744073709551616).toNat=x.toNat
   omega
  have h2:((4294967295:Int) % ((2:Nat) ^ (IntKind.bits .u64):Nat)).toNat=2 ^ 32-1:=by decide
  rw [h1,h2,Nat.and_two_pow_sub_one_eq_mod]
  omega
 rw [e]
 exact Qit (by omega)
theorem Qxi {x y:Int}(hx:0<=x/\x<=4294967295)(hy:0<=y/\y<=4294967295):0<=x*y/\x*y<=18446744065119617025:=by
 refine⟨Int.mul_nonneg hx.1 hy.1,?_⟩
 have:=Int.mul_le_mul hx.2 hy.2 hy.1 (by decide)
 omega
theorem QAK {x y:Int}(hx:0<=x/\x<18446744073709551616)(hy:0<=y/\y<18446744073709551616):Qd9 x y=some (x*y / 18446744073709551616,x*y % 18446744073709551616):=by
 unfold Qd9
 rw [Qxh hx.1,Qxh hy.1,QAJ hx,QAJ hy,QoW (x*y)]
 have e:x*y=(x / 4294967296)*(y / 4294967296)*18446744073709551616+((x / 4294967296)*(y % 4294967296)+(x % 4294967296)*(y / 4294967296))*4294967296+(x % 4294967296)*(y % 4294967296):=by
  have h1:x=(x / 4294967296)*4294967296+x % 4294967296:=by omega
  have h2:y=(y / 4294967296)*4294967296+y % 4294967296:=by omega
  generalize x / 4294967296=a at *
  generalize x % 4294967296=b at *
  generalize y / 4294967296=c at *
  generalize y % 4294967296=d at *
  subst h1 h2
  grind
 rw [e]
 have b1:=Qxi (x:=x / 4294967296) (y:=y / 4294967296) (by omega) (by omega)
 have b2:=Qxi (x:=x / 4294967296) (y:=y % 4294967296) (by omega) (by omega)
 have b3:=Qxi (x:=x % 4294967296) (y:=y / 4294967296) (by omega) (by omega)
 have b4:=Qxi (x:=x % 4294967296) (y:=y % 4294967296) (by omega) (by omega)
 generalize x / 4294967296*(y / 4294967296)=p at *
 generalize x / 4294967296*(y % 4294967296)=q at *
 generalize x % 4294967296*(y / 4294967296)=r at *
 generalize x % 4294967296*(y % 4294967296)=s at *
 rw [Qit (x:=s) (by omega),Qxh (x:=s) (by omega),Qit (x:=q) (by omega),Qit (x:=q+s / 4294967296) (by omega),Qxh (x:=q+s / 4294967296) (by omega),QAJ (x:=q+s / 4294967296) (by omega),Qit (x:=r) (by omega),Qit (x:=p) (by omega),
  Qit (x:=(q+s / 4294967296) % 4294967296+r) (by omega),Qxh (x:=(q+s / 4294967296) % 4294967296+r) (by omega),Qit (x:=p+(q+s / 4294967296) / 4294967296) (by omega),Qit (by omega)]
 congr 2
 omega
def QeO (a:Int):Int:=if a<0 then -a else a
theorem Qyk {a:Int}(h:InI a):Qg0 a=some (QeO a):=by
 unfold Qg0 QeO InI at *
 by_cases c:a<0
 ·rw [QI c,cond_true,if_pos c,QoW,QoW];congr 1;omega
 rw [QP c,cond_false,if_neg c,QoW];congr 1;omega
theorem QzW (a b:Int):QeO a*QeO b=QeO (a*b):=by
 unfold QeO
 by_cases c1:a<0<;>by_cases c2:b<0
 ·rw [if_pos c1,if_pos c2,if_neg (by have:=Int.mul_pos_of_neg_of_neg c1 c2;omega),Int.neg_mul_neg]
 ·rw [if_pos c1,if_neg c2]
  by_cases c3:b=0
  ·subst c3;simp
  rw [if_pos (Int.mul_neg_of_neg_of_pos c1 (by omega)),Int.neg_mul]
 ·rw [if_neg c1,if_pos c2]
  by_cases c3:a=0
  ·subst c3;simp
  rw [if_pos (Int.mul_neg_of_pos_of_neg (by omega) c2),Int.mul_neg]
 rw [if_neg c1,if_neg c2,if_neg (by have:=Int.mul_nonneg (show 0<=a by omega) (show 0<=b by omega);omega)]
def Qnd (a b:Int):Int×Int:=if InI (a*b)then(a*b,0)else(0,6)
theorem QuC {a b:Int}(ha:InI a)(hb:InI b):QfP a b=some (Qnd a b):=by
 unfold QfP
 have h1:0<=QeO a/\QeO a<=9223372036854775808:=by unfold QeO InI at *;split<;>omega
 have h2:0<=QeO b/\QeO b<=9223372036854775808:=by unfold QeO InI at *;split<;>omega
 have h3:0<=QeO a*QeO b:=Int.mul_nonneg h1.1 h2.1
 rw [Qyk ha,Ql,Qyk hb,Ql,QAK (by omega) (by omega),Ql]
 rw [QzW]at h3 ⊢
 have sg:(decide (a<0) != decide (b<0))=true\/(decide (a<0) != decide (b<0))=false:=by cases (decide (a<0) != decide (b<0))<;>simp
 have hsg:(decide (a<0) != decide (b<0))=true->a*b<=0:=fun h=>by
  by_cases c1:a<0<;>by_cases c2:b<0<;>simp [c1,c2]at h
  ·exact Int.mul_nonpos_of_nonpos_of_nonneg (by omega) (by omega)
  exact Int.mul_nonpos_of_nonneg_of_nonpos (by omega) (by omega)
 have hsg2:(decide (a<0) != decide (b<0))=false->0<=a*b:=fun h=>by
  by_cases c1:a<0<;>by_cases c2:b<0<;>simp [c1,c2]at h
  ·have:=Int.mul_pos_of_neg_of_neg c1 c2;omega
  exact Int.mul_nonneg (by omega) (by omega)
 have hw:InI (a*b)->w64 (a*b)=a*b:=fun h=>Q7 h
 generalize hm:a*b=m at *
 unfold Qnd
 rw [hm]
 unfold QeO at h3 ⊢
 rcases sg with c | c
 ·rw [c,cond_true]
  have:=hsg c
  unfold Qc6
  rw [hm,QoW]
  simp only
  by_cases ci:InI m
  ·rw [if_pos ci,hw ci]
   unfold InI at ci
   rw [QP (by split<;>omega),QP (by split<;>omega)];rfl
  rw [if_neg ci]
  have:decide (0<(if m<0 then -m else m) / 18446744073709551616)=true\/decide ((9223372036854775807+1) % 18446744073709551616<(if m<0 then -m else m) % 18446744073709551616)=true:=by
   unfold InI at ci
   rw [QQ,QQ]
   split<;>omega
  rcases this with h | h
  ·rw [h];rfl
  rw [h,Bool.or_true];rfl
 rw [c,cond_false]
 have:=hsg2 c
 unfold Qc6
 rw [hm]
 simp only
 by_cases ci:InI m
 ·rw [if_pos ci,hw ci]
  unfold InI at ci
  rw [QP (by split<;>omega),QP (by split<;>omega)];rfl
 rw [if_neg ci]
 have:decide (0<(if m<0 then -m else m) / 18446744073709551616)=true\/decide ((9223372036854775807:Int)<(if m<0 then -m else m) % 18446744073709551616)=true:=by
  unfold InI at ci
  rw [QQ,QQ]
  split<;>omega
 rcases this with h | h
 ·rw [h];rfl
 rw [h,Bool.or_true];rfl
def Qzq (a b:Int):Int×Int:=if InI (a+b)then(a+b,0)else(0,6)
theorem QCy {a b:Int}(ha:InI a)(hb:InI b):Qh1 a b=some (Qzq a b):=by
 unfold Qh1 Qzq
 by_cases ci:InI (a+b)
 ·rw [if_pos ci,Q7 ci]
  have:((decide (a<0)==decide (b<0))&&(decide (a+b<0) != decide (a<0)))=false:=by
   by_cases c1:a<0<;>by_cases c2:b<0<;>simp [c1,c2]<;>omega
  rw [this];rfl
 rw [if_neg ci]
 have hw:w64 (a+b)=if a+b<0 then a+b+18446744073709551616 else a+b-18446744073709551616:=by
  rw [Qv8];unfold wrap64 InI at *;split<;>omega
 have:((decide (a<0)==decide (b<0))&&(decide (w64 (a+b)<0) != decide (a<0)))=true:=by
  rw [hw]
  unfold InI at *
  by_cases c1:a<0<;>by_cases c2:b<0<;>by_cases c3:a+b<0<;>simp [c1,c2,c3]<;>omega
 rw [this];rfl
theorem QDI {a b:Int}(ha:InI a)(hb:InI b):QbK 3 a b=some (Qnd a b):=by
 unfold QbK
 rw [show((3:Int)==1)=false from rfl,cond_false,show((3:Int)==2)=false from rfl,cond_false,show((3:Int)==3)=true from rfl,cond_true,QuC ha hb];rfl
theorem QDJ {a b:Int}(ha:InI a)(hb:InI b):QbK 1 a b=some (Qzq a b):=by
 unfold QbK
 rw [show((1:Int)==1)=true from rfl,cond_true,QCy ha hb];rfl
end Go.Proofs
noncomputable section
namespace Go.Proofs
open Go Go.RowKit Go.Vm
theorem QC7 {a b:Int}(ha:InI a)(hb:InI b):Qdt 1 a b=some (Qzq a b):=by
 unfold Qdt
 show(Qlg a b).bind _=_
 unfold Qlg Qzq
 have hc:(bif (decide (0<b))then((decide ((w64 (9223372036854775807-b))<a))||((decide (b<0))&&(decide (a<(w64 ((-9223372036854775808)-b))))))else((decide (b<0))&&(decide (a<(w64 ((-9223372036854775808)-b))))))=decide (¬InI (a+b)):=by
  unfold InI at *
  by_cases b1:0<b
  ·rw [QI b1,cond_true,QP (by omega:¬b<0),Qnf,Bool.or_false,Q7 (by omega)]
   exact decide_eq_decide.2 (by omega)
  rw [QP b1,cond_false]
  by_cases b2:b<0
  ·rw [QI b2,QoH,Q7 (by omega)]
   exact decide_eq_decide.2 (by omega)
  rw [QP b2,Qnf,eq_comm,Qal]
  omega
 rw [hc]
 by_cases c:InI (a+b)
 ·rw [QP (by simpa using c),cond_false,Q7 c,if_pos c];rfl
 rw [QI c,cond_true,if_neg c];rfl
theorem QBC {x y a b:Int}(hx:0<=x/\x<=9223372036854775807)(hy:0<y/\y<=9223372036854775807)(ha:x=QeO a)(hb:y=QeO b)(ha0:a≠0):(QfR x a b y).bind (fun x16=>Qgy x16.1 x16.2)=some (Qnd a b):=by
 have hm:x*y=QeO (a*b):=by rw [ha,hb,QzW]
 unfold QfR
 rw [Qq0 (by simpa using (by omega:y≠0)),Ql,Int.tdiv_eq_ediv_of_nonneg (by decide)]
 have d1:0<=9223372036854775807 / y:=Int.ediv_nonneg (by decide) (by omega)
 have d2:9223372036854775807 / y<=9223372036854775807:=Int.ediv_le_self _ (by decide)
 rw [Q7 (by omega)]
 have le1:x<=9223372036854775807 / y↔x*y<=9223372036854775807:=Int.le_ediv_iff_mul_le hy.1
 by_cases c:x<=9223372036854775807 / y
 ·have:=le1.1 c
  have hin:InI (a*b):=by unfold InI QeO at *;split at hm<;>omega
  rw [QI c,cond_true,Q7 hin]
  unfold Qnd;rw [if_pos hin];rfl
 have:=fun h=>c (le1.2 h)
 rw [QP c,cond_false]
 unfold QrM
 have sg:(bif (decide (a<0))then((decide (0<b))||((decide (0<a))&&(decide (b<0))))else((decide (0<a))&&(decide (b<0))))=decide (a*b<0):=by
  have hb0:b≠0:=by intro h;subst h;unfold QeO at hb;simp at hb;omega
  by_cases c1:a<0<;>by_cases c2:b<0
  ·have:=Int.mul_pos_of_neg_of_neg c1 c2
   rw [QI c1,QP (by omega:¬0<b),QP (by omega:¬0<a),QP (by omega:¬a*b<0)];rfl
  ·have:=Int.mul_neg_of_neg_of_pos c1 (by omega:0<b)
   rw [QI c1,QI (by omega:0<b),QI this];rfl
  ·have:=Int.mul_neg_of_pos_of_neg (by omega:0<a) c2
   rw [QP c1,QI (by omega:0<a),QI c2,QI this];rfl
  have:=Int.mul_nonneg (by omega:0<=a) (by omega:0<=b)
  rw [QP c1,QP c2,QP (by omega:¬a*b<0),Bool.and_false];rfl
 rw [sg]
 by_cases c3:a*b<0
 ·rw [QI c3,cond_true,Qq0 (by simpa using (by omega:y≠0)),Ql,Q7 (by omega:-9223372036854775808<=y-1/\y-1<=9223372036854775807),Q7 (by omega:-9223372036854775808<=9223372036854775807-(y-1)/\9223372036854775807-(y-1)<=9223372036854775807),Q7 (by omega:-9223372036854775808<=x-1/\x-1<=9223372036854775807),Int.tdiv_eq_ediv_of_nonneg (by omega)]
  have d3:0<=(9223372036854775807-(y-1)) / y:=Int.ediv_nonneg (by omega) (by omega)
  have d4:(9223372036854775807-(y-1)) / y<=9223372036854775807-(y-1):=Int.ediv_le_self _ (by omega)
  rw [Q7 (by omega)]
  have le2:x-1<=(9223372036854775807-(y-1)) / y↔(x-1)*y<=9223372036854775807-(y-1):=Int.le_ediv_iff_mul_le hy.1
  have e3:(x-1)*y=x*y-y:=by rw [Int.sub_mul,Int.one_mul]
  rw [e3]at le2
  unfold QeO at hm
  rw [if_pos c3]at hm
  unfold Qnd
  by_cases c4:x-1<=(9223372036854775807-(y-1)) / y
  ·have h4:=le2.1 c4
   have e4:x*y=9223372036854775808:=by omega
   rw [QI c4,cond_true,e4,if_pos (by unfold InI;omega),show a*b=-9223372036854775808 by omega]
   rfl
  have h4:=fun h=>c4 (le2.2 h)
  rw [QP c4,cond_false,if_neg (by unfold InI;omega)]
  rfl
 rw [QP c3,cond_false]
 unfold QeO at hm
 rw [if_neg c3]at hm
 unfold Qnd
 rw [if_neg (by unfold InI;omega)]
 rfl
theorem QC8 {a b:Int}(ha:InI a)(hb:InI b):Qdt 3 a b=some (Qnd a b):=by
 unfold Qdt
 show(Qnu a b).bind _=_
 unfold Qnu
 by_cases z:a=0\/b=0
 ·rw [show((a==0)||(b==0))=true by simpa using z,cond_true]
  have:a*b=0:=Int.mul_eq_zero.2 z
  unfold Qnd
  rw [this];rfl
 rw [show((a==0)||(b==0))=false by simpa using z,cond_false]
 simp only [not_or]at z
 by_cases m:a=-9223372036854775808\/b=-9223372036854775808
 ·rw [show((a==(-9223372036854775808))||(b==(-9223372036854775808)))=true by simpa using m,cond_true]
  by_cases o:a=1\/b=1
  ·rw [show((a==1)||(b==1))=true by simpa using o,cond_true]
   have hin:InI (a*b):=by
    rcases o with rfl | rfl
    ·rwa [Int.one_mul]
    rwa [Int.mul_one]
   rw [Q7 hin]
   unfold Qnd;rw [if_pos hin];rfl
  rw [show((a==1)||(b==1))=false by simpa using o,cond_false]
  simp only [not_or]at o
  have hin:¬InI (a*b):=by
   unfold InI
   rcases m with rfl | rfl
   ·omega
   omega
  unfold Qnd;rw [if_neg hin];rfl
 rw [show((a==(-9223372036854775808))||(b==(-9223372036854775808)))=false by simpa using m,cond_false]
 simp only [not_or]at m
 unfold InI at ha hb
 have k4:∀x,0<=x/\x<=9223372036854775807->x=QeO a->(QhG b a x).bind (fun x16=>Qgy x16.1 x16.2)=some (Qnd a b):=fun x hx he=>by
  unfold QhG
  by_cases c:b<0
  ·rw [QI c,cond_true,Q7 (by omega)]
   exact QBC hx (by omega) he (by unfold QeO;rw [if_pos c];omega) z.1
  rw [QP c,cond_false]
  exact QBC hx (by omega) he (by unfold QeO;rw [if_neg c]) z.1
 by_cases c:a<0
 ·rw [QI c,cond_true,Q7 (by omega)]
  exact k4 _ (by omega) (by unfold QeO;rw [if_pos c];omega)
 rw [QP c,cond_false]
 exact k4 _ (by omega) (by unfold QeO;rw [if_neg c])
theorem eqO {o p:Option (List (List Int))}(h:decide (o=p)=true):o=p:=Qap h
set_option maxRecDepth 100000 in
theorem Qqa (kind arcs:Int):Qdf kind arcs=Qay kind arcs:=by
 by_cases hg:((decide (arcs<0))||((decide (16<arcs))||((kind==3)&&(decide (4<arcs)))))=true
 ·unfold Qay Qdf
  rw [hg,cond_true,cond_true]
 have hg':=hg
 simp only [Qcs,QB,QQ,beq_iff_eq,not_or,not_and]at hg
 obtain⟨h0,h1,h2⟩:=hg
 by_cases e1:kind=1
 ·subst e1
  rcases Qzn h0 h1 with rfl | rfl | rfl | rfl | rfl | rfl | rfl | rfl | rfl | rfl | rfl | rfl | rfl | rfl | rfl | rfl | rfl<;>exact eqO (by kernel_rfl)
 by_cases e2:kind=2
 ·subst e2
  rcases Qzn h0 h1 with rfl | rfl | rfl | rfl | rfl | rfl | rfl | rfl | rfl | rfl | rfl | rfl | rfl | rfl | rfl | rfl | rfl<;>exact eqO (by kernel_rfl)
 by_cases e3:kind=3
 ·subst e3
  have h3:=h2 rfl
  have:arcs=0\/arcs=1\/arcs=2\/arcs=3\/arcs=4:=by omega
  rcases this with rfl | rfl | rfl | rfl | rfl<;>exact eqO (by kernel_rfl)
 have f1:(kind==1)=false:=by simpa using e1
 have f2:(kind==2)=false:=by simpa using e2
 have f3:(kind==3)=false:=by simpa using e3
 have t0:∃l,Qz (fun st=>Qj3 arcs st.1 st.2) (0,([]:List Int))=some l:=by
  rcases Qzn h0 h1 with rfl | rfl | rfl | rfl | rfl | rfl | rfl | rfl | rfl | rfl | rfl | rfl | rfl | rfl | rfl | rfl | rfl<;>exact Option.isSome_iff_exists.1 (by kernel_rfl)
 obtain⟨l,hl⟩:=t0
 rw [QiY]at hg'
 unfold Qay Qdf
 rw [hg',cond_false,cond_false,hl,Ql]
 unfold QiU
 rw [f1,f2,f3]
 rfl
theorem QC9 {a b:Int}(ha:InI a)(hb:InI b):Qdt 2 a b=QbK 2 a b:=by
 unfold Qdt QbK
 show(Qlh a b).bind _=(Qc5 a b).bind _
 unfold Qlh Qc5
 have hc:(bif (decide (b<0))then((decide ((w64 (9223372036854775807+b))<a))||((decide (0<b))&&(decide (a<(w64 ((-9223372036854775808)+b))))))else((decide (0<b))&&(decide (a<(w64 ((-9223372036854775808)+b))))))=decide (¬InI (a-b)):=by
  unfold InI at *
  by_cases b1:b<0
  ·rw [QI b1,cond_true,QP (by omega:¬0<b),Qnf,Bool.or_false,Q7 (by omega)]
   exact decide_eq_decide.2 (by omega)
  rw [QP b1,cond_false]
  by_cases b2:0<b
  ·rw [QI b2,QoH,Q7 (by omega)]
   exact decide_eq_decide.2 (by omega)
  rw [QP b2,Qnf,eq_comm,Qal]
  omega
 have hd:(((decide (a<0)) != (decide (b<0)))&&((decide ((w64 (a-b))<0)) != (decide (a<0))))=decide (¬InI (a-b)):=by
  have e:w64 (a-b)=wrap64 (a-b):=Qv8 _
  rw [e]
  unfold wrap64 InI at *
  apply Qr6.2
  simp only [QB,bne_iff_ne,ne_eq,decide_eq_decide,QQ]
  omega
 rw [hc,hd]
 by_cases c:InI (a-b)
 ·rw [QP (by simpa using c),cond_false,cond_false];rfl
 rw [QI c,cond_true,cond_true];rfl
theorem QBD {op a b:Int}(ha:InI a)(hb:InI b):Qdt op a b=QbK op a b:=by
 by_cases h1:op=1
 ·subst h1;rw [QC7 ha hb,QDJ ha hb]
 by_cases h2:op=2
 ·subst h2;exact QC9 ha hb
 by_cases h3:op=3
 ·subst h3;rw [QC8 ha hb,QDI ha hb]
 unfold Qdt QbK
 have b1:(op==1)=false:=by simpa using h1
 have b2:(op==2)=false:=by simpa using h2
 have b3:(op==3)=false:=by simpa using h3
 have y:∀c:Bool,QdS c=some (bif c then 1 else 0)/\QbP c=some (bif c then 1 else 0,0):=fun c=>by cases c<;>exact⟨rfl,rfl⟩
 rw [b1,b2,b3]
 simp only [cond_false]
 by_cases h4:op=4
 ·subst h4
  unfold Qgz QcA
  rw [show((4:Int)==4)=true from rfl,cond_true,cond_true,cond_true]
  by_cases c:b=0
  ·subst c;rfl
  rw [show(b==0)=false by simpa using c,cond_false,cond_false,Qq0 (by simpa using c)]
  cases ((a==(-9223372036854775808))&&(b==(-1)))<;>rfl
 by_cases h5:op=5
 ·subst h5
  unfold Qgz QcA
  rw [show((5:Int)==4)=false from rfl,show((5:Int)==5)=true from rfl,cond_false,cond_true,cond_true,cond_false,cond_false]
  by_cases c:b=0
  ·subst c;rfl
  rw [show(b==0)=false by simpa using c,cond_false,cond_false,Qq0 (by simpa using c)]
  cases ((a==(-9223372036854775808))&&(b==(-1)))<;>rfl
 have b4:(op==4)=false:=by simpa using h4
 have b5:(op==5)=false:=by simpa using h5
 rw [b4,b5]
 unfold Qgz Qtd QlF Qte QlG Qmu QjT Qmv QjU
 simp only [cond_false,fun c=>(y c).1,fun c=>(y c).2,Ql]
 cases (op==6)<;>cases (op==7)<;>cases (op==8)<;>cases (op==9)<;>cases (op==10)<;>cases (op==11)<;>cases (a != 0)<;>rfl
theorem QyK (x:Int):InI (w64 x):=by
 have e:w64 x=wrap64 x:=Qv8 _
 rw [e];unfold wrap64 InI;omega
theorem QCM {op a b:Int}(ha:InI a)(hb:InI b){r:Int×Int}(h:QbK op a b=some r):InI r.1:=by
 have z:InI 0:=by unfold InI;omega
 have o:InI 1:=by unfold InI;omega
 have y:∀c:Bool,∃n,QbP c=some (n,0)/\InI n:=fun c=>by cases c;exact⟨0,rfl,z⟩;exact⟨1,rfl,o⟩
 have yy:∀(c:Bool) {r:Int×Int},((QbP c).bind fun x=>some (x.1,x.2))=some r->InI r.1:=fun c r h=>by
  obtain⟨n,e,hn⟩:=y c
  rw [e]at h;cases h;exact hn
 have tm:InI (Int.tmod a b):=by
  by_cases hb0:b=0
  ·subst hb0;rw [Int.tmod_zero];exact ha
  unfold InI at *
  have h2:(Int.tmod a b).natAbs<b.natAbs:=by rw [Int.natAbs_tmod];exact Nat.mod_lt _ (by omega)
  omega
 have q:∀{r:Int×Int×Int},QcA a b=some r->InI r.1/\InI r.2.1:=fun {r} h=>by
  unfold QcA at h
  rcases Qm h with⟨_,h⟩|⟨_,h⟩
  ·cases h;exact⟨z,z⟩
  rcases Qm h with⟨_,h⟩|⟨_,h⟩
  ·cases h;exact⟨z,z⟩
  obtain⟨_,_,h⟩:=Qb h
  obtain⟨_,_,h⟩:=Qb h
  cases h;exact⟨QyK _,tm⟩
 unfold QbK at h
 rcases Qm h with⟨_,h⟩|⟨_,h⟩
 ·obtain⟨x,hx,h⟩:=Qb h
  cases h
  unfold Qh1 at hx
  rcases Qm hx with⟨_,h⟩|⟨_,h⟩<;>cases h
  ·exact z
  exact QyK _
 rcases Qm h with⟨_,h⟩|⟨_,h⟩
 ·obtain⟨x,hx,h⟩:=Qb h
  cases h
  unfold Qc5 at hx
  rcases Qm hx with⟨_,h⟩|⟨_,h⟩<;>cases h
  ·exact z
  exact QyK _
 rcases Qm h with⟨_,h⟩|⟨_,h⟩
 ·obtain⟨x,hx,h⟩:=Qb h
  cases h
  rw [QuC ha hb]at hx
  unfold Qnd at hx
  split at hx<;>cases hx
  ·assumption
  exact z
 rcases Qm h with⟨_,h⟩|⟨_,h⟩
 ·obtain⟨x,hx,h⟩:=Qb h
  cases h;exact(q hx).1
 rcases Qm h with⟨_,h⟩|⟨_,h⟩
 ·obtain⟨x,hx,h⟩:=Qb h
  cases h;exact(q hx).2
 iterate 4
  rcases Qm h with⟨_,h⟩|⟨_,h⟩
  ·exact yy _ h
 rcases Qm h with⟨_,h⟩|⟨_,h⟩
 ·obtain⟨x,hx,h⟩:=Qb h
  cases h
  unfold Qmu at hx
  rcases Qm hx with⟨_,h⟩|⟨_,h⟩<;>exact yy _ h
 rcases Qm h with⟨_,h⟩|⟨_,h⟩
 ·obtain⟨x,hx,h⟩:=Qb h
  cases h
  unfold Qmv at hx
  rcases Qm hx with⟨_,h⟩|⟨_,h⟩<;>exact yy _ h
 cases h;exact z
end Go.Proofs
noncomputable section
namespace Go.Proofs
open Go Go.RowKit Go.Vm
theorem QBE {α:Type}{l:List α}(p:α->Bool){body:Int->Option (Int⊕(Int⊕Unit))}(hs:∀(i:Nat) x,i<l.length->l[i]? = some x->body (i:Int)=some (bif p x then .inr (.inl (i:Int))else .inl ((i+1:Nat):Int)))(hf:body (l.length:Int)=some (.inr (.inr ()))):
  Qz body 0=some ((QkM (fun _ x=>p x) 0 l).elim (Sum.inr ()) fun i=>Sum.inl (i:Int)):=
 QBq (fun i:Nat=>(i:Int)) (fun _ x=>p x) (fun i=>Sum.inl (i:Int)) (Sum.inr ()) hs hf rfl
theorem QCN {α:Type}(p:α->Bool)(l:List α):decide (0<=(QkM (fun _ x=>p x) 0 l).elim (-1:Int) fun i=>(i:Int))=l.any p:=by
 cases h:QkM (fun _ x=>p x) 0 l with
 | none=>
  have:=QAC h
  symm
  rw [show decide ((0:Int)<=(none:Option Nat).elim (-1:Int) fun i=>(i:Int))=false from rfl,List.any_eq_false]
  intro x hx
  obtain⟨i,hi⟩:=Qlo.1 hx
  simpa using this i x hi
 | some n=>
  obtain⟨i,x,h1,h2,h3⟩:=QAB h
  symm
  rw [show decide ((0:Int)<=(some n).elim (-1:Int) fun i=>(i:Int))=true from QI (Int.natCast_nonneg n),Qma]
  exact⟨x,Qaa h2,h3⟩
theorem QzX {α:Type}(f:α->Bool):∀(l:List α) (k:Nat) (t:Bool),QgT (fun (_:Nat) (t:Bool) x=>(bif t then .inl (f x)else .inr t:Bool⊕Bool)) (fun t=>t) k t l=(t&&l.all f)
 | [],_,t=>by simp [QgT]
 | x::l,k,t=>by
  rw [QgT]
  cases t with
  | true=>rw [cond_true,Sum.elim_inl,QzX f l];simp
  | false=>rfl
theorem QAL (n:Nat)(e:Qh):Qd2 n e=Qck n e:=by
 have:∀n,Qd2 n=Qck n:=fun n=>by
  induction n with
  | zero=>rfl
  | succ n ih=>
   funext e
   show QmJ (Qd2 n) e=Qki (Qck n) e
   rw [ih];rfl
 rw [this]
theorem QBF (n:Nat)(e:Qh):QeJ n e=QcU n e:=by
 have:∀n,QeJ n=QcU n:=fun n=>by
  induction n with
  | zero=>rfl
  | succ n ih=>
   funext e
   show Qm8 (QeJ n) e=Qlu (QcU n) e
   rw [ih];rfl
 rw [this]
theorem QAM {e:Qh}{rec_:Qh->Int->Option Bool}{v:Int}{p:Qh->Bool}(hl:e.Kids.length<=maxLen)(h:∀k∈e.Kids,rec_ k v=some (p k))(ok:Bool):Qb9 e rec_ v ok=some (ok&&e.Kids.all p):=by
 unfold Qb9
 rw [Ql6 (body:=fun st=>Qdy e rec_ v st.1 st.2) (l:=e.Kids) (fun i (t:Bool)=>(t,(i:Int))) (fun _ t x=>bif t then .inl (p x)else .inr t) (fun t=>t) (fun i t x hi hx=>by
  show Qdy e rec_ v t (i:Int)=_
  unfold Qdy
  rw [QI (by omega),QoH]
  cases t with
  | false=>rfl
  | true=>rw [cond_true,Qae,hx,Ql,h x (Qaa hx),Ql,Qy hi hl];rfl) (fun t=>by
  show Qdy e rec_ v t (e.Kids.length:Int)=_
  unfold Qdy
  rw [QP (by omega),Qnf];rfl) ok (s0:=(ok,0)) rfl,QzX]
 rfl
theorem QBG {l:List Qh}{rec_:Qh->Int->Option Bool}{v:Int}{p:Qh->Bool}(hl:l.length<=maxLen)(h:∀k∈l,rec_ k v=some (p k)):Qac rec_ l v=some (!(l.all p)):=by
 unfold Qac Qbs
 rw [QBE (l:=l) (fun k=>!p k) (fun i x hi hx=>by
  show Q1 l rec_ v i=_
  unfold Q1 Qkk
  rw [QI (by omega),cond_true,Qae,hx,Ql,h x (Qaa hx),Ql,Ql,Qy hi hl]
  cases p x<;>rfl) (by
  show Q1 l rec_ v l.length=_
  unfold Q1
  rw [QP (by omega),cond_false])]
 have e:(!(l.all p))=l.any fun k=>!p k:=by rw [List.all_eq_not_any_not,Bool.not_not]
 rw [e,<-QCN]
 cases QkM (fun _ k=>!p k) 0 l<;>rfl
theorem Qxj : ∀(n:Nat) (e:Qh) (v:Int),QcG e->SizeOf.sizeOf e<=n->Qd3 n e v=QaR n e v
 | 0,e,_,_,h=>absurd e.pos (by omega)
 | n+1,e,v,he,h=>by
  have hkl:=(QcR he).1
  have tot:∀k∈e.Kids,QaR n k v=some ((QaR n k v).getD false):=fun k hk=>by
   obtain⟨r,hr,_⟩:=Ql2 n k v ((QcR he).2 k hk) (by have:=QnQ hk;omega)
   rw [hr];rfl
  have tot2:∀k∈e.Kids,Qd3 n k v=some ((QaR n k v).getD false):=fun k hk=>by
   rw [Qxj n k v ((QcR he).2 k hk) (by have:=QnQ hk;omega)];exact tot k hk
  show QjA (Qd3 n) e v=Qhy (QaR n) e v
  have k3:=QAM hkl tot2
  generalize hp:(fun k=>(QaR n k v).getD false)=p at *
  have c3:Qac (QaR n) e.Kids v=some (!(e.Kids.all p)):=QBG hkl fun k hk=>by rw [<-hp];exact tot k hk
  unfold QjA Qin QpK Qf6 Qhy Qmp QgF Qn2 QjS Qk5 QfO QfN
  rw [c3]
  simp only [k3,Ql]
  by_cases h1:e.Kind=1
  ·simp only [h1,show((1:Int)==1)=true from rfl,show((1:Int)==2)=false from rfl,show((1:Int)==5)=false from rfl,cond_true,cond_false,Ql,Qnf]
   by_cases c:(e.Kids.length:Int)=0
   ·rw [show((e.Kids.length:Int)==0)=true by simpa using c,show((e.Kids.length:Int) != 0)=false by simpa using c];simp
   rw [show((e.Kids.length:Int)==0)=false by simpa using c,show((e.Kids.length:Int) != 0)=true by simpa using c];rfl
  by_cases h2:e.Kind=2
  ·simp only [h2,show((2:Int)==1)=false from rfl,show((2:Int)==2)=true from rfl,show((2:Int)==5)=false from rfl,cond_true,cond_false,Ql,QoH]
   by_cases c:(e.Kids.length:Int)=0
   ·rw [show((e.Kids.length:Int)==0)=true by simpa using c,show((e.Kids.length:Int) != 0)=false by simpa using c]
    by_cases d:0<=e.Num
    ·by_cases f:e.Num<v
     ·rw [QI d,QI f,QP (by omega:¬e.Num<0),QP (by omega:¬v<=e.Num)];simp
     rw [QI d,QP f,QP (by omega:¬e.Num<0),QI (by omega:v<=e.Num)];simp
    rw [QP d,QI (by omega:e.Num<0)];simp
   rw [show((e.Kids.length:Int)==0)=false by simpa using c,show((e.Kids.length:Int) != 0)=true by simpa using c];simp
  have b1:(e.Kind==1)=false:=by simpa using h1
  have b2:(e.Kind==2)=false:=by simpa using h2
  simp only [b1,b2,cond_false,Qnf]
  have two:∀(m:Int) (q:Bool),((bif ((e.Kids.length:Int) != m)then some false else(bif q then some false else some (!(!(e.Kids.all p))))):Option Bool)=some ((((e.Kids.length:Int)==m)&&!q)&&e.Kids.all p):=fun m q=>by
   by_cases c:(e.Kids.length:Int)=m
   ·rw [show((e.Kids.length:Int)==m)=true by simpa using c,show((e.Kids.length:Int) != m)=false by simpa using c];cases q<;>simp
   rw [show((e.Kids.length:Int)==m)=false by simpa using c,show((e.Kids.length:Int) != m)=true by simpa using c];rfl
  have neg:((e.Kids.length:Int) != -1)=true:=by simp
  by_cases h3:e.Kind=3
  ·have:=two 1 false
   simp only [h3,show((3:Int)==3)=true from rfl,show((3:Int)==5)=false from rfl,cond_true,cond_false,Ql]at this ⊢
   rw [this];simp
  by_cases h4:e.Kind=4
  ·have:=two 1 false
   simp only [h4,show((4:Int)==3)=false from rfl,show((4:Int)==4)=true from rfl,show((4:Int)==5)=false from rfl,cond_true,cond_false,Ql]at this ⊢
   rw [this];simp
  have b3:(e.Kind==3)=false:=by simpa using h3
  have b4:(e.Kind==4)=false:=by simpa using h4
  simp only [b3,b4,cond_false]
  by_cases h5:e.Kind=5
  ·have:=two 2 (!((decide (1<=e.Num))&&(decide (e.Num<=11))))
   simp only [h5,show((5:Int)==5)=true from rfl,cond_true,cond_false,Ql]at this ⊢
   rw [this]
   cases ((e.Kids.length:Int)==2)<;>simp
  have b5:(e.Kind==5)=false:=by simpa using h5
  simp only [b5,cond_false]
  by_cases h6:e.Kind=6
  ·have:=two 3 false
   simp only [h6,show((6:Int)==6)=true from rfl,cond_true,cond_false,Ql]at this ⊢
   rw [this];simp
  have b6:(e.Kind==6)=false:=by simpa using h6
  simp only [b6,cond_false,Ql,neg,cond_true,Qnf]
theorem QAN (e:Qh)(v:Int)(h:QcG e):QlE e v=QeZ e v:=by
 unfold QlE QeZ QpL Qmr Qn1 Qmo QpI Qnq Qn3 Qmq
 rw [QAL,QBF,Qxj _ e v h (Qb2 _)]
 rfl
inductive RE : Qh->Prop where
 | mk (e:Qh):InI e.Num->(∀k∈e.Kids,RE k)->RE e
theorem Qyl : ∀(n:Nat) (v:List Int) (e:Qh),POk v.length e->RE e->(∀x∈v,InI x)->SizeOf.sizeOf e<=n->∃r,Q9 n v e=some r/\QeK n e v=some r/\InI r.1
 | 0,_,e,_,_,_,h=>absurd e.pos (by omega)
 | n+1,v,e,he,hr,hv,h=>by
  cases he with
  | mk _ hk h2 h3 h5 h6 hp=>
  cases hr with
  | mk _ hnum hkr=>
  have z:InI 0:=by unfold InI;omega
  have o:InI 1:=by unfold InI;omega
  have sub:∀(j:Nat) (hj:j<e.Kids.length),∃r,Q9 n v (e.Kids[j])=some r/\QeK n (e.Kids[j]) v=some r/\InI r.1:=fun j hj=>
   Qyl n v _ (hp _ (Qby hj)) (hkr _ (Qby hj)) hv (by have:=QnQ (Qby hj);omega)
  have kid:∀(j:Nat) (hj:j<e.Kids.length),idx e.Kids (j:Int)=some e.Kids[j]:=fun j hj=>by rw [Qae,QG hj]
  show ∃r,Qfp (Q9 n) v e=some r/\QkH (QeK n) e v=some r/\InI r.1
  unfold Qfp QkH Qcz QbX
  by_cases k1:e.Kind=1
  ·rw [k1]
   exact⟨(e.Num,0),rfl,rfl,hnum⟩
  by_cases k2:e.Kind=2
  ·have hh:=h2 k2
   have hx:idx v e.Num=some (v[e.Num.toNat]'(by omega)):=QmM hh.1 hh.2
   rw [k2]
   refine⟨(v[e.Num.toNat]'(by omega),0),?_,?_,hv _ (Qby _)⟩
   ·show(QdD e v)=_
    unfold QdD Qge
    rw [hx];rfl
   show(idx v e.Num).bind _=_
   rw [hx];rfl
  have b1:(e.Kind==1)=false:=by simpa using k1
  have b2:(e.Kind==2)=false:=by simpa using k2
  have l1:1<=e.Kids.length:=by
   by_cases k3:e.Kind=3\/e.Kind=4
   ·have:=h3 k3;omega
   by_cases k5:e.Kind=5
   ·have:=h5 k5;omega
   have:=h6 (by omega);omega
  obtain⟨a,a1,a2,a3⟩:=sub 0 (by omega)
  have kid0:idx e.Kids 0=some (e.Kids[0]'(by omega)):=kid 0 (by omega)
  rw [b1,b2]
  simp only [cond_false,kid0,Ql,a2]
  by_cases k34:e.Kind=3\/e.Kind=4
  ·have ed:((bif e.Kind==3 then bif e.Kind==3 then some (.inr (.inr (.inl v)))else bif e.Kind==5 then some (.inr (.inr (.inr (.inl v))))else some (.inr (.inr (.inr (.inr v))))else bif e.Kind==4 then some (.inr (.inr (.inl v)))else bif e.Kind==5 then some (.inr (.inr (.inr (.inl v))))else some (.inr (.inr (.inr (.inr v))))):Option ((List Int)⊕((List Int)⊕((List Int)⊕((List Int)⊕(List Int))))))=some (.inr (.inr (.inl v))):=by
    rcases k34 with k | k<;>rw [k]<;>rfl
   rw [ed]
   show ∃r,QbY (Q9 n) e v=some r/\_
   unfold QbY Qfo
   rw [kid0,Ql,a1,Ql]
   cases hz:(a.2 != 0)with
   | true=>exact⟨(0,a.2),rfl,rfl,z⟩
   | false=>
    simp only [cond_false]
    rcases k34 with k | k
    ·rw [k]
     simp only [show((3:Int)==3)=true from rfl,cond_true]
     unfold Qmx
     rw [QBD z a3]
     have hd:=Qg5 2 0 a.1
     obtain⟨d,hd,_⟩:=hd
     rw [hd]
     exact⟨d,rfl,rfl,QCM z a3 hd⟩
    rw [k]
    simp only [show((4:Int)==3)=false from rfl,show((4:Int)==4)=true from rfl,cond_true,cond_false]
    by_cases c:a.1=0
    ·rw [c];exact⟨(1,0),rfl,rfl,o⟩
    have:(a.1==0)=false:=by simpa using c
    rw [this]
    refine⟨(0,0),?_,rfl,z⟩
    show(((QbP (a.1==0)).bind _).bind _).bind _=_
    rw [this];rfl
  have n3:¬e.Kind=3:=fun k=>k34 (.inl k)
  have n4:¬e.Kind=4:=fun k=>k34 (.inr k)
  have b3:(e.Kind==3)=false:=by simpa using n3
  have b4:(e.Kind==4)=false:=by simpa using n4
  rw [b3,b4]
  simp only [cond_false]
  by_cases k5:e.Kind=5
  ·have hl:=h5 k5
   obtain⟨b,c1,c2,c3⟩:=sub 1 (by omega)
   have kid1:idx e.Kids 1=some (e.Kids[1]'(by omega)):=kid 1 (by omega)
   rw [k5]
   show ∃r,QdE (Q9 n) e v=some r/\_
   unfold QdE Qkl Qc7
   simp only [kid0,kid1,Ql,a1,c1,c2,show((5:Int)==6)=false from rfl,cond_false]
   cases hz:(a.2 != 0)with
   | true=>exact⟨(0,a.2),rfl,rfl,z⟩
   | false=>
    simp only [cond_false]
    cases hq:((e.Num==10)&&(a.1==0))with
    | true=>
     have:a.1=0:=by simp at hq;exact hq.2
     rw [this];exact⟨(0,0),rfl,rfl,z⟩
    | false=>
     simp only [cond_false]
     have rest:∃r,((bif (b.2 != 0)then some (0,b.2)else(QbK e.Num a.1 b.1).bind fun x16=>some (x16.1,x16.2)):Option (Int×Int))=some r/\((bif (b.2 != 0)then some (0,b.2)else(Qdt e.Num a.1 b.1).bind fun x16=>some (x16.1,x16.2)):Option (Int×Int))=some r/\InI r.1:=by
      rw [QBD a3 c3]
      obtain⟨d,hd,_⟩:=Qg5 e.Num a.1 b.1
      rw [hd]
      cases (b.2 != 0)with
      | true=>exact⟨(0,b.2),rfl,rfl,z⟩
      | false=>exact⟨d,rfl,rfl,QCM a3 c3 hd⟩
     obtain⟨r,r1,r2,r3⟩:=rest
     cases h11:(e.Num==11)with
     | false=>
      simp only [cond_false,Qnf]
      exact⟨r,by rw [r1];rfl,r2,r3⟩
     | true=>
      simp only [cond_true,QoH]
      cases ha:(a.1 != 0)with
      | true=>
       refine⟨(1,0),?_,rfl,o⟩
       simp only [cond_true]
       show(((QbP (a.1 != 0)).bind _).bind _).bind _=_
       rw [ha];rfl
      | false=>
       simp only [cond_false]
       exact⟨r,by rw [r1];rfl,r2,r3⟩
  have k6:e.Kind=6:=by omega
  have hl:=h6 k6
  obtain⟨b,c1,c2,c3⟩:=sub 1 (by omega)
  obtain⟨d,d1,d2,d3⟩:=sub 2 (by omega)
  have kid1:idx e.Kids 1=some (e.Kids[1]'(by omega)):=kid 1 (by omega)
  have kid2:idx e.Kids 2=some (e.Kids[2]'(by omega)):=kid 2 (by omega)
  rw [k6]
  show ∃r,QdF (Q9 n) e v=some r/\_
  unfold QdF Qhe
  simp only [kid0,kid1,kid2,Ql,a1,c1,c2,d1,d2,show((6:Int)==6)=true from rfl,cond_true]
  cases hz:(a.2 != 0)with
  | true=>exact⟨(0,a.2),rfl,rfl,z⟩
  | false=>
   simp only [cond_false]
   cases (a.1 != 0)with
   | true=>exact⟨b,rfl,rfl,c3⟩
   | false=>exact⟨d,rfl,rfl,d3⟩
theorem Qym {e:Qh}{v:List Int}(h:QcG e)(hr:RE e)(hv:∀x∈v,InI x):∃r,Qg1 e v=some r/\Qj8 e v=some r/\InI r.1:=by
 unfold Qg1 Qj8 Qi6 QpM
 rw [QAN e _ h]
 obtain⟨b,hb,hb2⟩:=QkQ e v.length h
 rw [hb,Ql,Ql]
 cases b with
 | false=>exact⟨(0,1),rfl,rfl,by unfold InI;decide⟩
 | true=>
  obtain⟨r,r1,r2,r3⟩:=Qyl _ v e (hb2 rfl) hr hv (Qb2 _)
  rw [r1,r2]
  exact⟨r,rfl,rfl,r3⟩
end Go.Proofs
noncomputable section
namespace Go.Proofs
open Go Go.RowKit Go.Vm
theorem Qwp {σ τ ρ π:Type}{b1:σ->Option (σ⊕ρ)}{b2:τ->Option (τ⊕π)}(n:Nat)(I:Nat->σ->τ->Prop)(Post:ρ->π->Prop)
  (step:∀i s t,i<=n->I i s t->(i<n/\∃s' t',b1 s=some (.inl s')/\b2 t=some (.inl t')/\I (i+1) s' t')\/∃r q,b1 s=some (.inr r)/\b2 t=some (.inr q)/\Post r q):∀s t,I 0 s t->∃r q,Qz b1 s=some r/\Qz b2 t=some q/\Post r q:=by
 have key:∀k i s t,i+k=n->I i s t->∃r q,Qz b1 s=some r/\Qz b2 t=some q/\Post r q:=by
  intro k
  induction k with
  | zero=>
   intro i s t hk hI
   rcases step i s t (by omega) hI with⟨h,_⟩|⟨r,q,h1,h2,h3⟩
   ·omega
   exact⟨r,q,by rw [QaU,h1];rfl,by rw [QaU,h2];rfl,h3⟩
  | succ k ih=>
   intro i s t hk hI
   rcases step i s t (by omega) hI with⟨_,s',t',h1,h2,h3⟩|⟨r,q,h1,h2,h3⟩
   ·obtain⟨r,q,e1,e2,e3⟩:=ih (i+1) s' t' (by omega) h3
    exact⟨r,q,by rw [QaU,h1];exact e1,by rw [QaU,h2];exact e2,e3⟩
   exact⟨r,q,by rw [QaU,h1];rfl,by rw [QaU,h2];rfl,h3⟩
 exact fun s t h=>key n 0 s t (by omega) h
theorem QuD {a b:ByteArray}:QbW a b=true↔a=b:=by
 unfold QbW
 rw [beq_iff_eq,ByteArray.toList_eq,ByteArray.toList_eq]
 exact⟨fun h=>ByteArray.ext (Array.toList_inj.1 h),fun h=>by rw [h]⟩
theorem Qzr (a b:ByteArray):QbW a b=decide (a=b):=by
 by_cases h:a=b
 ·rw [QI h];exact QuD.2 h
 rw [QP h,<-QiY,QuD];exact h
theorem Qyn (s:ByteArray):Qj7 s=Qdn s:=by
 have e0:decide ((s.size:Int)<1)=QbW s (⟨#[]⟩:ByteArray):=by
  rw [Qzr]
  apply decide_eq_decide.2
  constructor
  ·intro h
   obtain⟨a⟩:=s
   have:a=#[]:=Qxp (by have h:((a.size:Nat):Int)<1:=h;omega)
   rw [this]
  intro h;subst h;decide
 have g1:QmH s=QhY s:=by
  unfold QmH QhY
  rw [e0];rfl
 have l4:∀i,QgP s i=Qdu s i:=fun i=>by
  unfold QgP Qdu QqO
  cases h:sidx s i with
  | none=>rfl
  | some c=>
   simp only [Ql]
   congr 1
   unfold QlP QhF QdV Qn0 Qjy QfX
   simp only [Ql]
   generalize (bif (decide (97<=c))then((decide (c<=122))||((decide (65<=c))&&(decide (c<=90))))else((decide (65<=c))&&(decide (c<=90))))=q
   cases q with
   | true=>rfl
   | false=>
    by_cases h1:c<48
    ·rw [QI h1,QP (by omega:¬48<=c)];rfl
    rw [QP h1,QI (by omega:48<=c)]
    by_cases h2:57<c
    ·rw [QI h2,QP (by omega:¬c<=57)];rfl
    rw [QP h2,QI (by omega:c<=57)];rfl
 unfold Qj7 Qdn Qjz QfY
 rw [g1,show(fun st=>QgP s st)=fun st=>Qdu s st from funext l4]
 rfl
theorem Qx3 {α:Type}(f:α->Bool):∀(l:List α) (k:Nat) (t:Bool),QgT (fun (_:Nat) (t:Bool) x=>(.inl (t&&f x):Bool⊕Bool)) (fun t=>t) k t l=(t&&l.all f)
 | [],_,t=>by simp [QgT]
 | x::l,k,t=>by rw [QgT,Sum.elim_inl,Qx3 f l];simp [Bool.and_assoc]
def Had (m:List (ByteArray×Bool))(l:List ByteArray):Prop:=∀k,(Q0 m k).getD false=l.any fun e=>QbW e k
theorem Had.add {m:List (ByteArray×Bool)}{l:List ByteArray}(h:Had m l)(x:ByteArray):Had (QcX ltS m x true) (l++[x]):=fun k=>by
 rw [Ql5,List.any_append,<-h k]
 by_cases e:k=x
 ·subst e
  rw [if_pos rfl]
  have:QbW k k=true:=QuD.2 rfl
  simp [this]
 rw [if_neg e]
 have:QbW x k=false:=by rw [Qzr];exact QP fun h=>e h.symm
 simp [this]
theorem QAO {l:List ByteArray}(h:QH Qfe l):∃b,QfM l=some b/\QlC l=some b:=by
 have nm:∀x∈l,∃b,Qdn x=some b:=fun x hx=>(QgU x (h.2 x hx)).tot
 obtain⟨r,q,e1,e2,e3⟩:=Qwp (b1:=fun st:Int×List (ByteArray×Bool)=>Qcn l st.1 st.2) (b2:=fun st:Int=>QeH l st) l.length (fun i s t=>s.1=(i:Int)/\t=(i:Int)/\Had s.2 (l.take i)) (fun r q=>r=q) (fun i s t hi hI=>by
  obtain⟨a,m⟩:=s
  obtain⟨h1,h2,h3⟩:=hI
  replace h1:a=(i:Int):=h1
  subst h1 h2
  replace h3:Had m (l.take i):=h3
  show(i<l.length/\∃s' t',Qcn l i m=_/\QeH l i=_/\_)\/∃r q,Qcn l i m=_/\QeH l i=_/\_
  unfold Qcn QeH QkW Qfm
  by_cases hlt:i<l.length
  ·have hx:l[i]? = some l[i]:=QG hlt
   obtain⟨b,hb⟩:=nm _ (Qby hlt)
   have il:=Ql6 (body:=fun st:Bool×Int=>Qdw i l st.1 st.2) (l:=l.take i) (fun k (t:Bool)=>(t,(k:Int))) (fun _ t e=>.inl (t&&!QbW e l[i])) (fun t=>t) (fun k t x hk hkx=>by
    rw [QdI]at hk
    have hkx:l[k]? = some x:=by rw [Qbx,if_pos (by omega)]at hkx;exact hkx
    show Qdw i l t (k:Int)=_
    unfold Qdw QpA Qik
    rw [QI (by omega),cond_true,Qae,hkx,Qae,hx,Qy hlt h.1 |> fun _=>Qy (show k<l.length by omega) h.1]
    cases t<;>rfl) (fun t=>by
    show Qdw i l t ((l.take i).length:Int)=_
    unfold Qdw
    rw [QdI,QP (by omega)];rfl) b (s0:=(b,0)) rfl
   rw [Qx3]at il
   rw [QI (show(i:Int)<(l.length:Int) by omega),cond_true,cond_true,Qae,hx,Ql,Ql,Qyn,hb,Ql,Ql,il,Ql,Qy hlt h.1]
   unfold QlW
   rw [h3 l[i],Qy hlt h.1]
   have ea:(l.take i).all (fun e=>!QbW e l[i])=!((l.take i).any fun e=>QbW e l[i]):=by rw [List.not_any_eq_all_not]
   rw [ea]
   cases b with
   | false=>right;exact⟨_,_,rfl,rfl,rfl⟩
   | true=>
    cases hq:(l.take i).any fun e=>QbW e l[i]with
    | true=>right;exact⟨_,_,rfl,rfl,rfl⟩
    | false=>
     left
     refine⟨hlt,_,_,rfl,rfl,rfl,rfl,?_⟩
     rw [QhW,hx]
     exact h3.add _
  right
  rw [QP (show ¬(i:Int)<(l.length:Int) by omega)]
  exact⟨_,_,rfl,rfl,rfl⟩) (0,[]) 0 ⟨rfl,rfl,fun k=>rfl⟩
 subst e3
 unfold QfM QlC
 rw [e1,e2]
 rcases r with r | r
 ·exact⟨false,rfl,rfl⟩
 exact⟨true,rfl,rfl⟩
structure QuE (c:QD) (s:Int):Prop where
 b:1<=s/\s<=1024
 i:c.Kind=1->c.Lo<=c.Hi/\s=c.Hi-c.Lo+1
def IC (c:QD):Prop:=InI c.Lo/\InI c.Hi
theorem QDa {lo hi:Int}(hl:InI lo)(hh:InI hi):Qgw lo hi=some (if hi<lo then 0 else if hi-lo<1024 then hi-lo+1 else 1025):=by
 unfold Qgw
 by_cases h:hi<lo
 ·rw [QI h,if_pos h];rfl
 rw [QP h,if_neg h,cond_false]
 have e:IntKind.u64.wrap (IntKind.u64.wrap hi-IntKind.u64.wrap lo)=hi-lo:=by
  rw [QoW,QoW,QoW];unfold InI at *;omega
 rw [e]
 unfold min2
 by_cases h2:hi-lo<1024
 ·rw [if_pos h2]
  by_cases h3:1024<hi-lo
  ·omega
  rw [if_neg h3,Q7 (n:=hi-lo) (by omega),Q7 (by omega)]
 rw [if_neg h2]
 split
 ·rfl
 have:hi-lo=1024:=by omega
 rw [this];rfl
def Qkb (n:Int):Bool:=decide (n<1)||decide (1024<n)
theorem QzY {n:Int}(h:Qkb n=false):1<=n/\n<=1024:=by
 unfold Qkb at h
 simp only [QcV,Qal]at h
 omega
theorem QEb {c:QD}{out:List Int}{i:Nat}(hc:IC c)(hN:QH Qfe c.Names)(ho:out.length=i):∃n n',Qgx c out=some n/\(∀ok,Qim c out (i:Int) ok=Qbe ok out i n')/\((n'=n/\(Qkb n=false->QuE c n))\/(Qkb n=true/\Qkb n'=true)):=by
 unfold Qgx Qim
 have z:Qkb 0=true:=rfl
 by_cases k1:c.Kind=1
 ·rw [show(c.Kind==1)=true by simpa using k1]
  simp only [cond_true]
  rw [QDa hc.1 hc.2,Ql]
  obtain⟨c1,c2⟩:=hc
  unfold InI at c1 c2
  by_cases a1:c.Hi<c.Lo
  ·rw [if_pos a1,QP (by omega:¬c.Lo<=c.Hi),Qnf]
   exact⟨0,0,rfl,fun _=>rfl,.inr ⟨z,z⟩⟩
  rw [if_neg a1,QI (by omega:c.Lo<=c.Hi),QoH]
  by_cases a2:0<=c.Lo\/c.Hi<c.Lo+1024
  ·have hcond:(decide (0<=c.Lo)||decide (c.Hi<w64 (c.Lo+1024)))=true:=by
    by_cases a3:0<=c.Lo
    ·rw [QI a3,Bool.true_or]
    rw [Q7 (by omega),QI (by omega:c.Hi<c.Lo+1024),Bool.or_true]
   rw [hcond]
   simp only [cond_true]
   have e1:w64 (c.Hi-c.Lo)=c.Hi-c.Lo:=Q7 (by omega)
   rw [e1]
   unfold min2
   by_cases a4:c.Hi-c.Lo<1024
   ·rw [if_pos a4,if_neg (by omega:¬1024<c.Hi-c.Lo),Q7 (by omega)]
    exact⟨_,_,rfl,fun _=>rfl,.inl ⟨rfl,fun hb=>⟨QzY hb,fun _=>⟨by omega,rfl⟩⟩⟩⟩
   rw [if_neg a4]
   refine⟨_,_,rfl,fun _=>rfl,.inr ⟨rfl,?_⟩⟩
   have:(if (1024:Int)<c.Hi-c.Lo then 1024 else c.Hi-c.Lo)=1024:=by split<;>omega
   rw [this];rfl
  rw [QP (by omega:¬0<=c.Lo),Bool.false_or,Q7 (by omega),QP (by omega:¬c.Hi<c.Lo+1024),if_neg (by omega)]
  exact⟨_,_,rfl,fun _=>rfl,.inr ⟨rfl,z⟩⟩
 rw [show(c.Kind==1)=false by simpa using k1]
 simp only [cond_false]
 have nk:∀n,Qkb n=false->QuE c n:=fun n hb=>⟨QzY hb,fun h=>absurd h k1⟩
 by_cases k2:c.Kind=2
 ·rw [show(c.Kind==2)=true by simpa using k2]
  simp only [cond_true]
  obtain⟨b,b1,b2⟩:=QAO hN
  rw [b1,b2]
  cases b with
  | true=>exact⟨_,_,rfl,fun _=>rfl,.inl ⟨rfl,nk _⟩⟩
  | false=>exact⟨0,0,rfl,fun _=>rfl,.inr ⟨z,z⟩⟩
 rw [show(c.Kind==2)=false by simpa using k2]
 simp only [cond_false]
 by_cases k3:c.Kind=3
 ·rw [show(c.Kind==3)=true by simpa using k3]
  simp only [cond_true]
  have hcond:((decide (0<=min2 c.First c.Then))&&(decide (max2 c.First c.Then<(out.length:Int))))=((decide (0<=c.First))&&((decide (c.First<(i:Int)))&&((decide (0<=c.Then))&&(decide (c.Then<(i:Int)))))):=by
   apply Qr6.2
   simp only [QB,QQ,QkN,QkO,ho]
   omega
  rw [hcond]
  cases hq:((decide (0<=c.First))&&((decide (c.First<(i:Int)))&&((decide (0<=c.Then))&&(decide (c.Then<(i:Int))))))with
  | false=>exact⟨0,0,rfl,fun _=>rfl,.inr ⟨z,z⟩⟩
  | true=>
   simp only [QB,QQ]at hq
   simp only [cond_true]
   rw [QmM hq.1 (by omega),QmM hq.2.2.1 (by omega)]
   exact⟨_,_,rfl,fun _=>rfl,.inl ⟨rfl,nk _⟩⟩
 rw [show(c.Kind==3)=false by simpa using k3]
 exact⟨0,0,rfl,fun _=>rfl,.inr ⟨z,z⟩⟩
theorem QAP {l:List QD}(h:QH Qa5 l)(hc:∀c∈l,IC c):∃x b,QeD l=some (x,b)/\QlD l=some x/\(b=false->x=[])/\(b=true->x.length=l.length/\∀(j:Nat) c s,l[j]? = some c->x[j]? = some s->QuE c s):=by
 unfold QeD QlD
 by_cases h32:32<l.length
 ·rw [QI (show(32:Int)<(l.length:Int) by omega)]
  exact⟨[],false,rfl,rfl,fun _=>rfl,fun h=>by cases h⟩
 rw [QP (show ¬(32:Int)<(l.length:Int) by omega),cond_false,cond_false]
 have hm:(2048:Nat)<=maxLen:=by decide
 obtain⟨r,q,e1,e2,e3⟩:=Qwp (b1:=fun st:Int×List (ByteArray×Bool)×List Int=>Qco l st.1 st.2.1 st.2.2) (b2:=fun st:Int×List Int=>QeI l st.1 st.2) l.length
  (fun i s t=>s.1=(i:Int)/\t=((i:Int),s.2.2)/\Had s.2.1 ((l.take i).map QD.Name)/\s.2.2.length=i/\∀(j:Nat) c z,l[j]? = some c->s.2.2[j]? = some z->QuE c z)
  (fun r q=>r=q/\∀x,r=.inr x->x.length=l.length/\∀(j:Nat) c z,l[j]? = some c->x[j]? = some z->QuE c z) (fun i s t hi hI=>by
  obtain⟨a,m,out⟩:=s
  obtain⟨h1,h2,h3,h4,h5⟩:=hI
  replace h1:a=(i:Int):=h1
  subst h1 h2
  replace h3:Had m ((l.take i).map QD.Name):=h3
  replace h4:out.length=i:=h4
  replace h5:∀(j:Nat) c z,l[j]? = some c->out[j]? = some z->QuE c z:=h5
  show(i<l.length/\∃s' t',Qco l i m out=_/\QeI l i out=_/\_)\/∃r q,Qco l i m out=_/\QeI l i out=_/\_
  unfold Qco QeI QkX Qfn
  by_cases hlt:i<l.length
  ·have hx:l[i]? = some l[i]:=QG hlt
   have hmem:=Qby hlt
   obtain⟨b,hb,_⟩:=QgU l[i].Name (h.2 _ hmem).1
   have il:=Ql6 (body:=fun st:Bool×Int=>Qdx i l l[i] st.1 st.2) (l:=l.take i) (fun k (t:Bool)=>(t,(k:Int))) (fun _ t e=>.inl (t&&!QbW e.Name l[i].Name)) (fun t=>t) (fun k t x hk hkx=>by
    rw [QdI]at hk
    have hkx:l[k]? = some x:=by rw [Qbx,if_pos (by omega)]at hkx;exact hkx
    show Qdx i l l[i] t (k:Int)=_
    unfold Qdx QpD Qil
    rw [QI (by omega),cond_true,Qae,hkx,Qy (show k<l.length by omega) h.1]
    cases t<;>rfl) (fun t=>by
    show Qdx i l l[i] t ((l.take i).length:Int)=_
    unfold Qdx
    rw [QdI,QP (by omega)];rfl) b (s0:=(b,0)) rfl
   rw [Qx3]at il
   rw [QI (show(i:Int)<(l.length:Int) by omega),cond_true,cond_true,Qae,hx,Ql,Ql,Qyn,hb]
   have ea:(l.take i).all (fun e=>!QbW e.Name l[i].Name)=!(((l.take i).map QD.Name).any fun e=>QbW e l[i].Name):=by rw [List.any_map,List.not_any_eq_all_not];rfl
   generalize hq:((l.take i).map QD.Name).any (fun e=>QbW e l[i].Name)=had
   obtain⟨n,n',s1,s2,s3⟩:=QEb (i:=i) (hc _ hmem) (h.2 _ hmem).2.2.2.2.1 h4
   rw [s1]
   simp only [Ql]
   rw [il]
   simp only [Ql]
   rw [h3 l[i].Name,ea,hq,s2]
   unfold Qbe
   have hbs:∀n,((decide (n<1))||(decide (1024<n)))=Qkb n:=fun _=>rfl
   rw [hbs]
   have ebad:((bif !b then some true else bif had then some true else bif decide (n<1)then some true else some (decide (1024<n))):Option Bool)=some (!b||(had||Qkb n)):=by
    unfold Qkb
    cases b<;>cases had<;>cases decide (n<1)<;>rfl
   rw [ebad,Ql]
   have stop:∀n n':Int,Qkb n'=true\/(b&&!had)=false->(!b||(had||Qkb n))=true->∃(r:Unit⊕List Int) (q:Unit⊕List Int),((bif (!b||(had||Qkb n))then some (.inr (.inl ()))else(chk (decide (out.length+[n].length<=4294967296))).bind fun _=>some (.inl (w64 ((i:Int)+1),QcX ltS m l[i].Name true,out++[n]))):Option ((Int×List (ByteArray×Bool)×List Int)⊕(Unit⊕List Int)))=some (.inr r)/\((bif (!(b&&!had)||Qkb n')then some (.inr (.inl ()))else(chk (decide (out.length+[n'].length<=4294967296))).bind fun _=>some (.inl (w64 ((i:Int)+1),out++[n']))):Option ((Int×List Int)⊕(Unit⊕List Int)))=some (.inr q)/\r=q/\∀x,r=.inr x->x.length=l.length/\∀(j:Nat) c z,l[j]? = some c->x[j]? = some z->QuE c z:=fun n n' h1 h2=>by
    refine⟨.inl (),.inl (),by rw [h2];rfl,?_,rfl,fun x hx=>by cases hx⟩
    rcases h1 with h1 | h1<;>rw [h1]<;>simp
   by_cases hg:b=true/\had=false/\Qkb n=false
   ·obtain⟨g1,g2,g3⟩:=hg
    rcases s3 with⟨s4,s5⟩|⟨s4,_⟩
    ·subst s4 g1 g2
     rw [g3]
     simp only [Qft,Bool.not_false,Bool.and_true,Bool.or_false,cond_false]
     left
     rw [QkL (by simp;omega),Ql,Ql]
     refine⟨hlt,_,_,rfl,rfl,Qy hlt h.1,by rw [Qy hlt h.1],?_,by simp;omega,fun j c z hj hz=>?_⟩
     ·rw [QhW,hx,List.map_append]
      exact h3.add _
     replace hz:(out++[n'])[j]? = some z:=hz
     by_cases hjl:j<out.length
     ·rw [Qbf hjl]at hz
      exact h5 j c z hj hz
     rw [Qcf (by omega)]at hz
     have:j=i:=by
      have:=(QT.1 hz).1
      simp at this;omega
     subst this
     rw [hx]at hj
     cases hj
     rw [h4,Nat.sub_self]at hz
     cases hz
     exact s5 g3
    rw [g3]at s4;cases s4
   right
   refine stop n n' ?_ ?_
   ·rcases s3 with⟨s4,_⟩|⟨_,s4⟩
    ·subst s4
     cases b<;>cases had<;>cases hb2:Qkb n'<;>simp_all
    exact .inl s4
   cases b<;>cases had<;>cases hb2:Qkb n<;>simp_all
  right
  rw [QP (show ¬(i:Int)<(l.length:Int) by omega)]
  exact⟨_,_,rfl,rfl,rfl,fun x hx=>by cases hx;exact⟨by show out.length=_;omega,h5⟩⟩) (0,[],[]) (0,[]) ⟨rfl,rfl,fun k=>rfl,rfl,fun j c z _ h=>by simp at h⟩
 obtain⟨e3,e4⟩:=e3
 subst e3
 rw [e1,e2]
 rcases r with r | r
 ·exact⟨[],false,rfl,rfl,fun _=>rfl,fun h=>by cases h⟩
 exact⟨r,true,rfl,rfl,(fun h=>by cases h),fun _=>e4 r rfl⟩
theorem Qx4 {l:List QD}(h:QH Qa5 l)(hc:∀c∈l,IC c)(k:Int):
  (Qe2 l k=some 0/\∃x,Qdg l k=some (false,x))\/
  ∃c x s,l[k.toNat]? = some c/\0<=k/\k.toNat<l.length/\x[k.toNat]? = some s/\QuE c s/\Qe2 l k=some s/\Qdg l k=some (true,QaA.mk l x k):=by
 obtain⟨x,b,h1,h2,h3,h4⟩:=QAP h hc
 unfold Qe2 Qdg
 rw [h1,h2,Ql,Ql]
 cases b with
 | false=>
  rw [h3 rfl]
  refine .inl ⟨?_,_,rfl⟩
  have:((decide (k<0))||(decide ((([]:List Int).length:Int)<=k)))=true:=by simp;omega
  rw [this];rfl
 | true=>
  obtain⟨h5,h6⟩:=h4 rfl
  rw [h5]
  cases hq:((decide (k<0))||(decide ((l.length:Int)<=k)))with
  | true=>exact .inl ⟨rfl,_,rfl⟩
  | false=>
   simp only [QcV,Qal]at hq
   have e1:l[k.toNat]? = some (l[k.toNat]'(by omega)):=QG (by omega)
   have e2:x[k.toNat]? = some (x[k.toNat]'(by omega)):=QG (by omega)
   exact .inr ⟨_,x,_,e1,by omega,by omega,e2,h6 _ _ _ e1 e2,by rw [cond_false,QeN (by omega),e2];rfl,rfl⟩
theorem QBH {l:List QD}(h:QH Qa5 l)(hc:∀c∈l,IC c)(k:Int):Qe2 l k=QaJ l k:=by
 unfold QaJ
 rcases Qx4 h hc k with⟨e1,x,e2⟩|⟨c,x,s,h1,h2,h3,h4,h5,e1,e2⟩
 ·rw [e1,e2];rfl
 rw [e1,e2,Ql]
 show some s=(idx x k).bind _
 rw [QeN h2,h4];rfl
theorem Qzs {l:List QD}{x:List Int}{k s:Int}(h0:0<=k)(hs:x[k.toNat]? = some s)(m:Int):Qb5 (QaA.mk l x k) m=some (decide (0<=m)&&decide (m<s)):=by
 unfold Qb5 Qex Qgd
 by_cases h:0<=m
 ·rw [QI h,cond_true,QoH]
  show((idx x k).bind _).bind _=_
  rw [QeN h0,hs];rfl
 rw [QP h];rfl
theorem QBI {l:List QD}{x:List Int}{k:Int}{c:QD}(h0:0<=k)(hs:l[k.toNat]? = some c):QbJ (QaA.mk l x k)=some c:=by
 unfold QbJ
 show(idx l k).bind _=_
 rw [QeN h0,hs];rfl
theorem QzN {l:List QD}(h:QH Qa5 l)(hc:∀c∈l,IC c)(k m:Int):∃r,Qdd l k m=some r/\QkG l k m=some r/\InI r.1:=by
 have z:InI 0:=by unfold InI;omega
 unfold Qdd QkG Qok Qhk QgE QdC
 rcases Qx4 h hc k with⟨e1,x,e2⟩|⟨c,x,s,h1,h2,h3,h4,h5,e1,e2⟩
 ·rw [e1,e2,Ql,Ql]
  refine⟨(0,false),rfl,?_,z⟩
  by_cases hm:m<0
  ·rw [QI hm];rfl
  rw [QP hm,cond_false,Ql,QI (by omega:0<=m)];rfl
 rw [e1,e2,Ql,Ql]
 simp only [Qft,cond_false]
 rw [Qzs h2 h4,Ql,Ql]
 have e3:(bif decide (m<0)then some true else some (decide (s<=m)):Option Bool)=some (!(decide (0<=m)&&decide (m<s))):=by
  by_cases hm:m<0
  ·rw [QI hm,QP (by omega:¬0<=m)];rfl
  rw [QP hm,QI (by omega:0<=m)]
  by_cases hs:s<=m
  ·rw [QI hs,QP (by omega:¬m<s)];rfl
  rw [QP hs,QI (by omega:m<s)];rfl
 rw [e3,Ql,QeN h2,h1]
 cases hq:(!(decide (0<=m)&&decide (m<s)))with
 | true=>exact⟨(0,false),rfl,rfl,z⟩
 | false=>
  simp only [QiX,QB,QQ]at hq
  have hb:=h5.b
  rw [QBI h2 h1,Ql,Ql,cond_false]
  cases (c.Kind==1)with
  | true=>exact⟨_,rfl,rfl,QyK _⟩
  | false=>exact⟨_,rfl,rfl,by unfold InI;omega⟩
theorem Qwq {s first n:Int}(hs:s<=1024)(hf:InI first)(hl:first+s-1<=9223372036854775807):Qeb s n first=some (bif (decide (0<=n-first)&&decide (n-first<s))then(n-first,true)else(0,false)):=by
 unfold Qeb
 unfold InI at hf
 have hm:(2048:Nat)<=maxLen:=by decide
 obtain⟨r,hr,h1⟩:=Qnb (body:=fun st:Int=>Qcp s first n st) s.toNat (fun i st=>st=(i:Int)/\∀j:Nat,j<i->first+j≠n) (fun r=>r=bif (decide (0<=n-first)&&decide (n-first<s))then .inl (n-first)else .inr ()) (fun i st hi hI=>by
  obtain⟨rfl,hI⟩:=hI
  show(∃s',Qcp s first n i=_/\_)\/∃r,Qcp s first n i=_/\_
  unfold Qcp
  rw [QI (by omega),cond_true,Q7 (n:=first+i) (by omega)]
  by_cases e:first+i=n
  ·right
   rw [show(first+(i:Int)==n)=true by simpa using e,cond_true]
   refine⟨_,rfl,?_⟩
   rw [QI (by omega),QI (by omega),show n-first=(i:Int) by omega];rfl
  ·left
   rw [show(first+(i:Int)==n)=false by simpa using e,cond_false]
   refine⟨_,rfl,Q7 (by omega),fun j hj=>?_⟩
   by_cases hji:j=i
   ·subst hji;exact e
   exact hI j (by omega)) (fun st hI=>by
  obtain⟨rfl,hI⟩:=hI
  show ∃r,Qcp s first n (s.toNat:Int)=_/\_
  unfold Qcp
  rw [QP (by omega),cond_false]
  refine⟨_,rfl,?_⟩
  by_cases c:0<=n-first/\n-first<s
  ·have:=hI (n-first).toNat (by omega)
   omega
  have:(decide (0<=n-first)&&decide (n-first<s))=false:=by
   apply Bool.eq_false_iff.2
   simp only [ne_eq,QB,QQ];exact c
  rw [this];rfl) 0 ⟨rfl,fun j hj=>by omega⟩
 rw [hr,h1,Ql]
 cases (decide (0<=n-first)&&decide (n-first<s))<;>rfl
theorem QzO {l:List QD}(h:QH Qa5 l)(hc:∀c∈l,IC c)(k n:Int)(hn:InI n):∃r,Qde l k n=some r/\QkI l k n=some r:=by
 unfold Qde QkI Qos Qhl
 rcases Qx4 h hc k with⟨e1,x,e2⟩|⟨c,x,s,h1,h2,h3,h4,h5,e1,e2⟩
 ·rw [e1,e2,Ql,Ql]
  refine⟨(0,false),rfl,?_⟩
  show Qeb 0 n 0=_
  rw [Qwq (by omega) (by unfold InI;omega) (by omega)]
  have:(decide (0<=n-0)&&decide (n-0<0))=false:=by
   apply Bool.eq_false_iff.2
   simp only [ne_eq,QB,QQ];omega
  rw [this];rfl
 rw [e1,e2,Ql,Ql]
 simp only [Qft,cond_false]
 have hb:=h5.b
 have hmem:=Qaa h1
 obtain⟨c1,c2⟩:=hc c hmem
 rw [QBI h2 h1,Ql,QI (by omega:0<s),cond_true,QeN h2,h1]
 simp only [Ql]
 unfold QbZ
 by_cases k1:c.Kind=1
 ·rw [show(c.Kind==1)=true by simpa using k1]
  simp only [cond_true]
  obtain⟨g1,g2⟩:=h5.i k1
  unfold InI at c1 c2 hn
  rw [Qwq hb.2 c1 (by omega)]
  by_cases q:n<c.Lo\/c.Hi<n
  ·have:((decide (n<c.Lo))||(decide (c.Hi<n)))=true:=by simpa using q
   rw [this,cond_true]
   have:(decide (0<=n-c.Lo)&&decide (n-c.Lo<s))=false:=by
    apply Bool.eq_false_iff.2
    simp only [ne_eq,QB,QQ];omega
   rw [this]
   exact⟨_,rfl,rfl⟩
  have:((decide (n<c.Lo))||(decide (c.Hi<n)))=false:=by simpa using q
  rw [this,cond_false,Q7 (by omega),Qzs h2 h4,Ql,QI (by omega:0<=n-c.Lo),QI (by omega:n-c.Lo<s)]
  exact⟨_,rfl,rfl⟩
 rw [show(c.Kind==1)=false by simpa using k1]
 simp only [cond_false]
 rw [Qwq hb.2 (by unfold InI;omega) (by omega),Qzs h2 h4,Ql,show n-0=n by omega]
 cases (decide (0<=n)&&decide (n<s))with
 | true=>exact⟨_,rfl,rfl⟩
 | false=>exact⟨_,rfl,rfl⟩
end Go.Proofs
noncomputable section
namespace Go.Proofs
open Go Go.RowKit Go.Vm
theorem QgV {α:Type}{l:List α}{i:Nat}(h:i<l.length):l.take (i+1)=l.take i++[l[i]]:=by rw [QhW,QG h];rfl
theorem Qqb {l:List (Int×Int)}{x:Int×Int}:Asc (l++[x])↔Asc l/\∀p∈l,p.1<x.1:=by
 unfold Asc
 rw [List.pairwise_append]
 constructor
 ·rintro ⟨h1,_,h2⟩;exact⟨h1,fun p hp=>h2 p hp x (by simp)⟩
 rintro ⟨h1,h2⟩;exact⟨h1,by simp,fun p hp q hq=>by simp at hq;subst hq;exact h2 p hp⟩
theorem Qzt {b:List (Int×Int)}(h:Asc b){i:Nat}(hi:i<b.length):∀p∈b.take i,p.1<b[i].1:=by
 have:=h.sublist (List.take_sublist (i+1) b)
 rw [QgV hi]at this
 exact(Qqb.1 this).2
theorem QnS {b:List (Int×Int)}(h:b.length<=maxLen):Qei b=some (rtF (-1) b):=by
 unfold Qei
 obtain⟨r,hr,h1⟩:=Qnb (body:=fun st:Int=>QcO b st) b.length (fun i s=>s=(i:Int)/\Rt (b.take i)) (fun r=>r=bif rtF (-1) b then .inr ()else .inl ()) (fun i s hi hI=>by
  obtain⟨rfl,hI⟩:=hI
  have hx:b[i]? = some b[i]:=QG hi
  show(∃s',QcO b i=_/\_)\/∃r,QcO b i=_/\_
  unfold QcO QpN Qio
  rw [QI (by omega),cond_true,Qae,hx]
  simp only [Ql]
  have stop:¬Rt b->∃r:Unit⊕Unit,some (Sum.inr (Sum.inl ()))=(some (Sum.inr r):Option (Int⊕(Unit⊕Unit)))/\r=bif rtF (-1) b then .inr ()else .inl ():=fun hb=>by
   rw [<-Qdl,QiY]at hb
   rw [hb];exact⟨_,rfl,rfl⟩
  have hm:=Qby hi
  by_cases c1:b[i].1<0
  ·rw [QI c1]
   exact .inr (stop fun hb=>by have:=hb.2 _ hm;omega)
  rw [QP c1,cond_false]
  by_cases c2:b[i].2<1
  ·rw [QI c2]
   exact .inr (stop fun hb=>by have:=hb.2 _ hm;omega)
  rw [QP c2,cond_false]
  by_cases c3:1048576<b[i].2
  ·rw [QI c3]
   exact .inr (stop fun hb=>by have:=hb.2 _ hm;omega)
  rw [QP c3,cond_false]
  have go:(∀p∈b.take i,p.1<b[i].1)->Rt (b.take (i+1)):=fun hp=>by
   rw [QgV hi]
   refine⟨Qqb.2 ⟨hI.1,hp⟩,fun p hp=>?_⟩
   rcases QcH.1 hp with hp | hp
   ·exact hI.2 p hp
   simp at hp;subst hp;omega
  by_cases c4:0<i
  ·rw [QI (by omega:(0:Int)<(i:Int)),cond_true,Q7 (n:=(i:Int)-1) (by unfold maxLen at h;omega),show(i:Int)-1=((i-1:Nat):Int) by omega,Qae,QG (show i-1<b.length by omega)]
   simp only [Ql]
   by_cases c5:b[i].1<=(b[i-1]'(by omega)).1
   ·rw [QI c5]
    exact .inr (stop fun hb=>by
     have:=List.pairwise_iff_getElem.1 hb.1 (i-1) i (by omega) hi (by omega)
     omega)
   rw [QP c5]
   refine .inl ⟨_,rfl,Qy hi h,go fun p hp=>?_⟩
   obtain⟨j,hj,rfl⟩:=Qr9.1 hp
   rw [QdI]at hj
   rw [List.getElem_take]
   by_cases hji:j=i-1
   ·subst hji;omega
   have:=List.pairwise_iff_getElem.1 hI.1 j (i-1) (by simp;omega) (by simp;omega) (by omega)
   rw [List.getElem_take,List.getElem_take]at this
   omega
  ·rw [QP (by omega:¬(0:Int)<(i:Int)),cond_false]
   refine .inl ⟨_,rfl,Qy hi h,go fun p hp=>?_⟩
   rw [show i=0 by omega]at hp;cases hp) (fun s hI=>by
  obtain⟨rfl,hI⟩:=hI
  rw [Qi2]at hI
  refine⟨_,?_,rfl⟩
  show QcO b (b.length:Int)=_
  unfold QcO
  rw [QP (by omega),Qdl.2 hI];rfl) 0 ⟨rfl,Rt.nil⟩
 rw [hr,h1]
 cases rtF (-1) b<;>rfl
theorem Qyo {b:List (Int×Int)}(h:b.length<=maxLen)(hb:Rt b)(m:Int):QiB b m=some (QK b m):=by
 unfold QiB
 rw [QnS h,Qdl.2 hb,Ql]
 obtain⟨r,hr,h1⟩:=Qnb (body:=fun st:Int=>QcP b true m st) b.length (fun i s=>s=(i:Int)/\∀p∈b.take i,p.1≠m) (fun r=>r=.inl (QK b m)\/(r=.inr ()/\QK b m=0)) (fun i s hi hI=>by
  obtain⟨rfl,hI⟩:=hI
  have hx:b[i]? = some b[i]:=QG hi
  show(∃s',QcP b true m i=_/\_)\/∃r,QcP b true m i=_/\_
  unfold QcP
  rw [QI (by omega),QoH,cond_true,Qae,hx]
  simp only [Ql]
  by_cases e:b[i].1=m
  ·rw [show(b[i].1==m)=true by simpa using e]
   refine .inr ⟨_,rfl,.inl ?_⟩
   rw [<-e,QiL hb.1.nd (Qby hi)]
  ·rw [show(b[i].1==m)=false by simpa using e]
   refine .inl ⟨_,rfl,Qy hi h,fun p hp=>?_⟩
   rw [QgV hi]at hp
   rcases QcH.1 hp with hp | hp
   ·exact hI p hp
   simp at hp;subst hp;exact e) (fun s hI=>by
  obtain⟨rfl,hI⟩:=hI
  rw [Qi2]at hI
  refine⟨.inr (),?_,.inr ⟨rfl,?_⟩⟩
  ·show QcP b true m (b.length:Int)=_
   unfold QcP
   rw [QP (by omega)];rfl
  unfold QK;rw [QlK.2 hI];rfl) 0 ⟨rfl,fun p hp=>by cases hp⟩
 rw [hr]
 rcases h1 with rfl | ⟨rfl,e⟩
 ·rfl
 rw [e];rfl
theorem QCz {b:List (Int×Int)}(h:b.length<=4294967295)(hb:Rt b){m n:Int}(hm:0<=m)(hn:0<=n/\n<=1048576):∃r,QmK b m n=some r/\Rt r/\(∀k,QK r k=if k=m then n else QK b k)/\r.length<=b.length+1:=by
 have hl:b.length<=maxLen:=by unfold maxLen;omega
 unfold QmK
 obtain⟨⟨dn,out⟩,hr,h1,h2,h3,h4⟩:=Qnb (body:=fun st:Bool×Int×List (Int×Int)=>Qd4 b m n st.1 st.2.1 st.2.2) b.length
  (fun i s=>s.2.1=(i:Int)/\(s.1=true↔∃p∈b.take i,m<=p.1)/\Asc s.2.2/\(∀p,p∈s.2.2↔(p.1≠m/\p∈b.take i)\/(s.1=true/\0<n/\p=(m,n)))/\s.2.2.length<=i+(bif s.1 then 1 else 0))
  (fun r=>(r.1=true↔∃p∈b,m<=p.1)/\Asc r.2/\(∀p,p∈r.2↔(p.1≠m/\p∈b)\/(r.1=true/\0<n/\p=(m,n)))/\r.2.length<=b.length+(bif r.1 then 1 else 0)) (fun i s hi hI=>by
   obtain⟨d,a,out⟩:=s
   obtain⟨h1,h2,h3,h4,h5⟩:=hI
   replace h1:a=(i:Int):=h1
   subst h1
   replace h2:d=true↔∃p∈b.take i,m<=p.1:=h2
   replace h3:Asc out:=h3
   replace h4:∀p,p∈out↔(p.1≠m/\p∈b.take i)\/(d=true/\0<n/\p=(m,n)):=h4
   replace h5:out.length<=i+(bif d then 1 else 0):=h5
   have hx:b[i]? = some b[i]:=QG hi
   have hup:=Qzt hb.1 hi
   left
   show ∃s',Qd4 b m n d i out=_/\_
   unfold Qd4 QqY QjD QgR
   rw [QI (by omega),cond_true]
   have own:∀(d':Bool) (out':List (Int×Int)),(d'=true↔∃p∈b.take (i+1),m<=p.1)->Asc out'->(∀p,p∈out'↔(p.1≠m/\p∈b.take i)\/(d'=true/\0<n/\p=(m,n)))->out'.length<=i+(bif d' then 1 else 0)->(∀p∈out',b[i].1≠m->p.1<b[i].1)->
     ∃s',QgQ b i m d' out'=some (.inl s')/\(s'.2.1=((i+1:Nat):Int)/\(s'.1=true↔∃p∈b.take (i+1),m<=p.1)/\Asc s'.2.2/\(∀p,p∈s'.2.2↔(p.1≠m/\p∈b.take (i+1))\/(s'.1=true/\0<n/\p=(m,n)))/\s'.2.2.length<=i+1+(bif s'.1 then 1 else 0)):=fun d' out' g1 g2 g3 g4 g5=>by
    unfold QgQ QjC
    have hdl:(bif d' then 1 else 0:Nat)<=1:=by cases d'<;>decide
    rw [Qae,hx]
    simp only [Ql]
    by_cases e:b[i].1=m
    ·rw [show(b[i].1 != m)=false by simpa using e]
     refine⟨_,rfl,Qy hi hl,g1,g2,fun p=>?_,by show out'.length<=_;omega⟩
     show p∈out'↔_
     rw [g3,QgV hi,QcH,Qnk]
     constructor
     ·rintro (⟨x1,x2⟩|x)
      ·exact .inl ⟨x1,.inl x2⟩
      exact .inr x
     rintro (⟨x1,x2 | rfl⟩|x)
     ·exact .inl ⟨x1,x2⟩
     ·exact absurd e x1
     exact .inr x
    rw [show(b[i].1 != m)=true by simpa using e,cond_true,QkL (by simp;omega)]
    refine⟨_,rfl,Qy hi hl,g1,Qqb.2 ⟨g2,fun p hp=>g5 p hp e⟩,fun p=>?_,by show(out'++[b[i]]).length<=_;rw [Qb0];simp;omega⟩
    show p∈out'++[b[i]]↔_
    rw [QcH,Qnk,g3,QgV hi,QcH,Qnk]
    constructor
    ·rintro ((⟨x1,x2⟩|x) | rfl)
     ·exact .inl ⟨x1,.inl x2⟩
     ·exact .inr x
     exact .inl ⟨e,.inr rfl⟩
    rintro (⟨x1,x2 | x2⟩|x)
    ·exact .inl (.inl ⟨x1,x2⟩)
    ·exact .inr x2
    exact .inl (.inr x)
   have grow:∀p:Int×Int,p∈b.take (i+1)↔p∈b.take i\/p=b[i]:=fun p=>by rw [QgV hi,QcH,Qnk]
   cases d with
   | true=>
    obtain⟨q,hq,hq2⟩:=h2.1 rfl
    rw [show(!true)=false from rfl,cond_false,Ql,cond_false]
    exact own true out ⟨fun _=>⟨q,(grow q).2 (.inl hq),hq2⟩,fun _=>rfl⟩ h3 h4 h5 fun p hp _=>by
     rcases(h4 p).1 hp with⟨_,x⟩|⟨_,_,rfl⟩
     ·exact hup p x
     have:=hup q hq;show m<_;omega
   | false=>
    have low:∀p∈b.take i,p.1<m:=fun p hp=>by
     apply Classical.byContradiction
     intro hc
     have:=h2.2 ⟨p,hp,by omega⟩
     cases this
    rw [show(!false)=true from rfl,cond_true,Qae,hx]
    simp only [Ql]
    by_cases e:m<=b[i].1
    ·rw [QI e,cond_true]
     have g1:(true=true↔∃p∈b.take (i+1),m<=p.1):=⟨fun _=>⟨b[i],(grow _).2 (.inr rfl),e⟩,fun _=>rfl⟩
     by_cases hn0:0<n
     ·rw [QI hn0,cond_true,QkL (by simp only [cond_false]at h5;simp;omega),Ql]
      refine own true (out++[(m,n)]) g1 (Qqb.2 ⟨h3,fun p hp=>?_⟩) (fun p=>?_) (by simp only [cond_false]at h5;simp;omega) fun p hp he=>?_
      ·rcases(h4 p).1 hp with⟨_,x⟩|⟨x,_⟩
       ·exact low p x
       cases x
      ·rw [QcH,Qnk,h4]
       constructor
       ·rintro ((x | ⟨x,_⟩) | rfl)
        ·exact .inl x
        ·cases x
        exact .inr ⟨rfl,hn0,rfl⟩
       rintro (x | ⟨_,_,x⟩)
       ·exact .inl (.inl x)
       exact .inr x
      rcases QcH.1 hp with hp | hp
      ·rcases(h4 p).1 hp with⟨_,x⟩|⟨x,_⟩
       ·exact hup p x
       cases x
      simp at hp;subst hp;show m<_;omega
     rw [QP hn0,cond_false]
     refine own true out g1 h3 (fun p=>?_) (by simp only [cond_false]at h5;simp;omega) fun p hp he=>?_
     ·rw [h4]
      constructor
      ·rintro (x | ⟨x,_⟩)
       ·exact .inl x
       cases x
      rintro (x | ⟨_,x,_⟩)
      ·exact .inl x
      exact absurd x hn0
     rcases(h4 p).1 hp with⟨_,x⟩|⟨x,_⟩
     ·exact hup p x
     cases x
    rw [QP e,cond_false]
    refine own false out ⟨(fun x=>by cases x),fun ⟨p,hp,hp2⟩=>?_⟩ h3 h4 h5 fun p hp he=>?_
    ·rcases(grow p).1 hp with x | rfl
     ·have:=low p x;omega
     exact absurd hp2 e
    rcases(h4 p).1 hp with⟨_,x⟩|⟨x,_⟩
    ·exact hup p x
    cases x) (fun s hI=>by
   obtain⟨d,a,out⟩:=s
   obtain⟨h1,h2,h3,h4,h5⟩:=hI
   replace h1:a=(b.length:Int):=h1
   subst h1
   rw [Qi2]at h2 h4
   refine⟨(d,out),?_,h2,h3,h4,h5⟩
   show Qd4 b m n d b.length out=_
   unfold Qd4
   rw [QP (by omega)];rfl) (false,0,[]) ⟨rfl,by simp,by simp [Asc],by simp,by simp⟩
 rw [hr,Ql]
 show ∃r,QgS n m dn out=some r/\_
 unfold QgS QjE
 have fin:∀r:List (Int×Int),Asc r->(∀p,p∈r↔(p.1≠m/\p∈b)\/(0<n/\p=(m,n)))->Rt r/\∀k,QK r k=if k=m then n else QK b k:=fun r hA hmem=>by
  refine⟨⟨hA,fun p hp=>?_⟩,fun k=>?_⟩
  ·rcases(hmem p).1 hp with⟨_,x⟩|⟨x,rfl⟩
   ·exact hb.2 p x
   exact⟨hm,by show 1<=n;omega,hn.2⟩
  by_cases e:k=m
  ·subst e
   rw [if_pos rfl]
   by_cases hn0:0<n
   ·exact QiL hA.nd ((hmem (k,n)).2 (.inr ⟨hn0,rfl⟩))
   unfold QK
   rw [QlK.2 fun p hp=>?_]
   ·show(0:Int)=n;omega
   rcases(hmem p).1 hp with⟨x,_⟩|⟨x,_⟩
   ·exact x
   exact absurd x hn0
  rw [if_neg e]
  unfold QK
  congr 1
  cases hq:Q0 b k with
  | some v=>exact(QbL hA.nd).2 ((hmem (k,v)).2 (.inl ⟨e,(QbL hb.1.nd).1 hq⟩))
  | none=>
   refine QlK.2 fun p hp=>?_
   rcases(hmem p).1 hp with⟨_,x⟩|⟨_,rfl⟩
   ·exact QlK.1 hq p x
   exact fun x=>e x.symm
 cases dn with
 | true=>
  obtain⟨f1,f2⟩:=fin out h2 fun p=>by rw [h3];simp
  exact⟨out,rfl,f1,f2,by simpa using h4⟩
 | false=>
  have low:∀p∈b,p.1<m:=fun p hp=>by
   apply Classical.byContradiction
   intro hc
   have:=h1.2 ⟨p,hp,by omega⟩
   cases this
  by_cases hn0:0<n
  ·rw [QI hn0]
   simp only [cond_false,Qlq]at h4
   obtain⟨f1,f2⟩:=fin (out++[(m,n)]) (Qqb.2 ⟨h2,fun p hp=>by
    rcases(h3 p).1 hp with⟨_,x⟩|⟨x,_⟩
    ·exact low p x
    ·cases x⟩) fun p=>by
    rw [QcH,Qnk,h3]
    constructor
    ·rintro ((x | ⟨x,_⟩) | rfl)
     ·exact .inl x
     ·cases x
     exact .inr ⟨hn0,rfl⟩
    rintro (x | ⟨_,x⟩)
    ·exact .inl (.inl x)
    exact .inr x
   refine⟨out++[(m,n)],?_,f1,f2,by simp;omega⟩
   rw [show(!false&&true)=true from rfl,cond_true,QkL (by simp;omega)];rfl
  rw [QP hn0]
  obtain⟨f1,f2⟩:=fin out h2 fun p=>by
   rw [h3]
   constructor
   ·rintro (x | ⟨x,_⟩)
    ·exact .inl x
    cases x
   rintro (x | ⟨x,_⟩)
   ·exact .inl x
   exact absurd x hn0
  exact⟨out,rfl,f1,f2,by simp only [cond_false,Qlq]at h4;omega⟩
theorem QCA {b:List (Int×Int)}(hb:Asc b){i:Nat}(hi:i<b.length)(k:Int):QK (b.take (i+1)) k=if k=b[i].1 then b[i].2 else QK (b.take i) k:=by
 have ha:Asc (b.take (i+1)):=hb.sublist (List.take_sublist _ _)
 by_cases e:k=b[i].1
 ·subst e
  rw [if_pos rfl]
  exact QiL ha.nd (by rw [QgV hi];exact List.mem_append_right _ Qbz)
 rw [if_neg e]
 unfold QK
 congr 1
 have h0:Asc (b.take i):=hb.sublist (List.take_sublist _ _)
 cases hq:Q0 (b.take i) k with
 | some v=>exact(QbL ha.nd).2 (by rw [QgV hi];exact List.mem_append_left _ ((QbL h0.nd).1 hq))
 | none=>
  refine QlK.2 fun p hp=>?_
  rw [QgV hi]at hp
  rcases QcH.1 hp with hp | hp
  ·exact QlK.1 hq p hp
  simp at hp;subst hp;exact fun x=>e x.symm
theorem QDb {b:List (Int×Int)}(hb:Asc b){i:Nat}(hi:i<b.length):QK (b.take i) b[i].1=0:=by
 unfold QK
 rw [QlK.2 fun p hp=>by have:=Qzt hb hi p hp;omega];rfl
theorem QCB {a b:List (Int×Int)}(h:a.length+b.length<=4294967290):Qnv a b=QhS a b:=by
 unfold Qnv QrN QkJ
 have ha:a.length<=maxLen:=by unfold maxLen;omega
 have hb:b.length<=maxLen:=by unfold maxLen;omega
 rw [QnS ha,QnS hb,Ql]
 rcases Qp7 a b (by omega)with⟨h1,h2⟩|⟨h1,h2,⟨k,h3⟩,h4⟩|⟨h1,h2,r,h3,h4,h5,h6⟩
 ·rw [h2,<-Qdl,<-Qdl]at *
  cases ra:rtF (-1) a with
  | false=>rfl
  | true=>
   cases rb:rtF (-1) b with
   | false=>rfl
   | true=>exact absurd ⟨ra,rb⟩ h1
 all_goals
  rw [Qdl.2 h1,Qdl.2 h2]
  simp only [Qft,cond_false,Ql,List.nil_append,Qln,Qlr]
  rw [QkL (by omega),Ql]
  obtain⟨q,hq,hp⟩:=Qnb (body:=fun st:Int×List (Int×Int)=>QdH b st.1 st.2) b.length
   (fun i s=>s.1=(i:Int)/\Rt s.2/\(∀k,QK s.2 k=QK a k+QK (b.take i) k)/\s.2.length<=a.length+i)
   (fun q=>(q=.inl ()/\∃k,1048576<QK a k+QK b k)\/∃r,q=.inr r/\Rt r/\∀k,QK r k=QK a k+QK b k) (fun i s hi hI=>by
    obtain⟨x,out⟩:=s
    obtain⟨g1,g2,g3,g4⟩:=hI
    replace g1:x=(i:Int):=g1
    subst g1
    replace g2:Rt out:=g2
    replace g3:∀k,QK out k=QK a k+QK (b.take i) k:=g3
    replace g4:out.length<=a.length+i:=g4
    have hx:b[i]? = some b[i]:=QG hi
    have hbi:=‹Rt b›.2 _ (Qby hi)
    show(∃s',QdH b i out=_/\_)\/∃r,QdH b i out=_/\_
    unfold QdH
    rw [QI (by omega),cond_true,Qae,hx]
    simp only [Ql]
    have hc:=‹Rt a›.cnt b[i].1
    rw [Qyo (by unfold maxLen;omega) g2,Ql,g3,QDb ‹Rt b›.1 hi,Int.add_zero,Q7 (by omega)]
    by_cases e:1048576<QK a b[i].1+b[i].2
    ·rw [QI e]
     refine .inr ⟨_,rfl,.inl ⟨rfl,b[i].1,?_⟩⟩
     rw [QiL ‹Rt b›.1.nd (Qby hi)];exact e
    ·rw [QP e,cond_false]
     obtain⟨r,r1,r2,r3,r4⟩:=QCz (b:=out) (by omega) g2 (m:=b[i].1) (n:=QK a b[i].1+b[i].2) (by omega) (by omega)
     rw [r1,Ql]
     refine .inl ⟨_,rfl,Qy hi hb,r2,fun k=>?_,by show r.length<=_;omega⟩
     show QK r k=_
     rw [r3,QCA ‹Rt b›.1 hi,g3]
     by_cases ek:k=b[i].1
     ·subst ek;rw [if_pos rfl,if_pos rfl]
     rw [if_neg ek,if_neg ek]) (fun s hI=>by
    obtain⟨x,out⟩:=s
    obtain⟨g1,g2,g3,g4⟩:=hI
    replace g1:x=(b.length:Int):=g1
    subst g1
    rw [Qi2]at g3
    refine⟨.inr out,?_,.inr ⟨out,rfl,g2,g3⟩⟩
    show QdH b b.length out=_
    unfold QdH
    rw [QP (by omega)];rfl) (0,a) ⟨rfl,by assumption,fun k=>by simp [QK,Q0],by simp⟩
  rw [hq]
 ·rcases hp with⟨rfl,_⟩|⟨r,rfl,r1,r2⟩
  ·rw [h4];rfl
  have:=r1.cnt k
  rw [r2]at this;omega
 rcases hp with⟨rfl,k,hk⟩|⟨r',rfl,r1,r2⟩
 ·have:=h4.cnt k
  rw [h5]at this;omega
 have:r'=r:=QDC r1 h4 fun k=>by rw [r2,h5]
 subst this
 rw [h3];rfl
theorem QzP {a b:List (Int×Int)}(ha:a.length<=maxLen)(hb:b.length<=maxLen):QkK a b=QjX a b:=by
 unfold QkK Qov Qhm
 rw [QnS ha,QnS hb,Ql]
 obtain⟨r,h1,h2⟩:=Qq3 a b ha hb
 rw [h1]
 cases ra:rtF (-1) a with
 | false=>
  have:r=false:=by
   cases r with
   | false=>rfl
   | true=>have:=Qdl.2 (h2.1 rfl).1;rw [ra]at this;cases this
  rw [this];rfl
 | true=>
  cases rb:rtF (-1) b with
  | false=>
   have:r=false:=by
    cases r with
    | false=>rfl
    | true=>have:=Qdl.2 (h2.1 rfl).2.1;rw [rb]at this;cases this
   rw [this];rfl
  | true=>
   have h3:=Qdl.1 ra
   have h4:=Qdl.1 rb
   simp only [Qft,cond_false,Ql]
   rw [QsR (body:=fun st:Int=>Qc9 a b st) (l:=a) (fun i=>(i:Int)) (fun _ x=>decide (QK b x.1<x.2)) (.inl ()) (.inr ()) (fun i x hi hx=>by
    show Qc9 a b i=_
    unfold Qc9
    rw [QI (by omega),cond_true,Qae,hx]
    simp only [Ql]
    rw [Qyo hb h4,Ql,Qy hi ha]
    cases decide (QK b x.1<x.2)<;>rfl) (by
    show Qc9 a b a.length=_
    unfold Qc9
    rw [QP (by omega),cond_false]) (s0:=0) rfl,Ql]
   have e:∀(l:List (Int×Int)) (k:Nat),QmN (fun _ x=>decide (QK b x.1<x.2)) k l=l.any fun p=>decide (QK b p.1<p.2):=fun l=>by
    induction l with
    | nil=>intro k;rfl
    | cons x l ih=>intro k;rw [QmN,ih,List.any_cons]
   rw [e]
   have aw:=Qxf h3 h4
   cases hq:a.any fun p=>decide (QK b p.1<p.2)with
   | false=>rw [h2.2 ⟨h3,h4,aw.1 hq⟩];rfl
   | true=>
    have:r=false:=by
     cases r with
     | false=>rfl
     | true=>rw [aw.2 (h2.1 rfl).2.2]at hq;cases hq
    rw [this];rfl
end Go.Proofs
