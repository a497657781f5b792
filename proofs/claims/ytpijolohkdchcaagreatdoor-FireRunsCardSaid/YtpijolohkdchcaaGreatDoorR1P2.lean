/- A part of the proof; what it holds is told at each theorem. -/
import Derived.Test.YtpijolohkdchcaaGreatDoorR1P1
import Derived.Test.YtpijolohkdchcaaGreatDoorR1T3
import Derived.KernelRfl
import Derived.Test.YtpijolohkdchcaaGreatDoorR1P1
import Derived.Test.YtpijolohkdchcaaGreatDoorR1P1
set_option linter.unusedVariables false
set_option linter.unusedSimpArgs false
set_option linter.unusedSectionVars false
set_option linter.deprecated false
noncomputable section
namespace Go.Proofs
open Go Go.RowKit Go.Vm
theorem QvR {σ ρ:Type}{body:σ->Option (σ⊕ρ)}(mu:σ->Nat)(J:σ->Prop){Q:ρ->Prop}{s0:σ}(hJ:J s0)
  (step:∀s,J s->Qj (body s) fun o=>(∀s',o=.inl s'->mu s'<mu s/\J s')/\∀r,o=.inr r->Q r):Qj (Qw body s0) Q:=by
 have key:∀k s,mu s<=k->J s->Qj (Qw body s) Q:=by
  intro k
  induction k with
  | zero=>
   intro s hk hj
   obtain⟨o,ho,h1,h2⟩:=step s hj
   cases o with
   | inl s'=>have:=(h1 s' rfl).1;omega
   | inr r=>exact⟨r,by rw [QaR,ho];rfl,h2 r rfl⟩
  | succ k ih=>
   intro s hk hj
   obtain⟨o,ho,h1,h2⟩:=step s hj
   cases o with
   | inl s'=>
    obtain⟨h3,h4⟩:=h1 s' rfl
    obtain⟨r,h5,h6⟩:=ih s' (by omega) h4
    exact⟨r,by rw [QaR,ho];exact h5,h6⟩
   | inr r=>exact⟨r,by rw [QaR,ho];rfl,h2 r rfl⟩
 exact key _ s0 (QcR _) hJ
def Qjw : List Int->Nat
 | []=>0
 | d::r=>d.toNat*1025 ^ r.length+Qjw r
theorem QBB {l:List Int}(h:∀d∈l,0<=d/\d<=1024):Qjw l<1025 ^ l.length:=by
 induction l with
 | nil=>simp [Qjw]
 | cons d l ih=>
  have h1:=ih fun x hx=>h x (Qca _ hx)
  have h2:=h d QbE
  simp only [Qjw,Qfg,Nat.pow_succ]
  have h3:d.toNat*1025 ^ l.length<=1024*1025 ^ l.length:=Qdm _ (by omega)
  omega
theorem QAX (a b:List Int):Qjw (a++b)=Qjw a*1025 ^ b.length+Qjw b:=by
 induction a with
 | nil=>simp [Qjw]
 | cons d a ih=>
  simp only [Qti,Qjw,ih,QcQ,Nat.pow_add,Qdl,Nat.mul_assoc]
  omega
theorem Qra {l:List Int}{k:Nat}(hk:k<l.length)(Z:List Int)(x:Int):(l.take (k+1)++Z).set k x=l.take k++x::Z:=by
 have e:l.take (k+1)=l.take k++[l[k]]:=by rw [QjA,QH hk];rfl
 rw [e,Qgl,List.set_append,if_neg (by simp;omega)]
 have:k-(l.take k).length=0:=by simp;omega
 rw [this];rfl
theorem QFj (t:QG)(n:Qq)(l:List Int)(h:QY n)(hl:l.length=t.Vars.length)(hv:t.Vars.length<=16)(hd:∀d∈l,0<=d/\d<=1024):
  Qj (Qw (fun st=>Qav t n st.1 st.2) ((w64 ((l.length:Int)-1)),l)) fun q=>-1<=q.1/\q.1<l.length/\q.2=l.take (q.1+1).toNat++List.replicate (l.length-(q.1+1).toNat) 0/\∀d,0<=q.1->l[q.1.toNat]? = some d->d<1024:=by
 have hw:w64 ((l.length:Int)-1)=(l.length:Int)-1:=Q4 (by omega)
 refine Qj.up l.length (fun st=>(l.length:Int)-1-st.1) (fun st=>st.2=l.take (st.1+1).toNat++List.replicate (l.length-(st.1+1).toNat) 0) (by rw [hw];omega) (by
  rw [hw]
  show l=_
  rw [show((l.length:Int)-1+1).toNat=l.length by omega,Qht,Nat.sub_self];simp) (fun i st hi hn hJ=>?_)
 obtain⟨a,d⟩:=st
 replace hi:(l.length:Int)-1-a=i:=hi
 replace hJ:d=l.take (a+1).toNat++List.replicate (l.length-(a+1).toNat) 0:=hJ
 have hdl:d.length=l.length:=by rw [hJ];simp;omega
 show Qj (Qav t n a d) _
 unfold Qav
 refine T0 (P:=fun x=>(x=true->0<=a)/\(x=false->∀e,0<=a->l[a.toNat]? = some e->e<1024)) ?_ fun x hx=>?_
 ·unfold QfI
  refine T1 (fun hc=>?_) fun hc=>T2 ⟨fun h=>(by cases h),fun _ e he=>?_⟩
  ·simp only [QN]at hc
   have hlt:a.toNat<l.length:=by omega
   have ed:idx d a=some l[a.toNat]:=by
    rw [QeY hc,hJ,Qbw (by simp;omega),QbU,if_pos (by omega),QH hlt]
   rw [ed,Ql]
   refine T0 (T4 (by omega) (by omega)) fun v _=>?_
   refine T0 (Qhd _ _ h.1) fun z hz=>?_
   have h2:=hd _ (QaI hlt)
   refine T2 ⟨fun _=>hc,fun hf e _ he=>?_⟩
   rw [QH hlt]at he
   cases he
   rw [Q4 (by omega)]at hf
   simp only [Qah]at hf
   omega
  simp only [Qah]at hc;omega
 unfold Qeg
 refine T1 (fun hc=>?_) fun hc=>?_
 ·have ha:=hx.1 hc
  refine T0 (T4 ha (by omega)) fun _ _=>?_
  have hw2:w64 (a-1)=a-1:=Q4 (by omega)
  refine T2 (QL ⟨by omega,?_,?_⟩)
  ·show(l.length:Int)-1-w64 (a-1)=_
   rw [hw2];omega
  show d.set a.toNat 0=l.take (w64 (a-1)+1).toNat++List.replicate (l.length-(w64 (a-1)+1).toNat) 0
  rw [hw2,hJ,show(a+1).toNat=a.toNat+1 by omega,Qra (by omega),show(a-1+1).toNat=a.toNat by omega]
  rw [show l.length-a.toNat=(l.length-(a.toNat+1))+1 by omega,List.replicate_succ]
 exact T2 (Qt ⟨by omega,by omega,hJ,hx.2 hc⟩)
def Qki (n:Qq)(most:Int)(l:List Qh):Prop:=(l.length:Int)<most/\∀o∈l,QaY n o
def Qt7 (n:Qq)(most:Int)(l:List Qh):Prop:=(l.length:Int)<=most/\∀o∈l,QaY n o
theorem QEc (n:Qq)(m:List (List (Int×Int)))(b:QO)(l:List (List Int))(h:Qal n)(hb:BOk n m b)(hl:Qeq l):Qj (QaZ l b) fun r=>r=-1\/(0<=r/\r<l.length):=by
 have hl1:=hl.1
 unfold QaZ
 refine T0 (Qj.up l.length (fun st=>st) (fun _=>True) (Q:=fun q:Int⊕Unit=>∀x,q=.inl x->0<=x/\x<(l.length:Int)) rfl trivial (fun i st hi hn hJ=>?_)) (fun q hq=>?_)
 ·show Qj (QaG l b st) _
  unfold QaG QeR
  refine T1 (fun hc=>?_) (fun _=>T2 (Qt fun x h=>by cases h))
  simp only [QN]at hc
  refine T0 (T4 (by omega) (by omega)) fun e he=>?_
  have:=hl.2 e he
  refine T0 (T0 (Qtc n m b e h hb (by omega)) fun _ _=>T3) fun _ _=>?_
  exact T1 (fun _=>T2 (Qt fun x h=>by cases h;omega)) fun _=>T2 (QL ⟨by omega,by rw [hi];exact Qx (by omega) (by unfold maxLen;omega:l.length<=maxLen),trivial⟩)
 rcases q with q | q
 ·exact T2 (.inr (hq q rfl))
 exact T2 (.inl rfl)
theorem QEd (n:Qq)(m:List (List (Int×Int)))(b:QO)(l:List (List Int))(h:Qal n)(hb:BOk n m b)(hl:Qeq l):Qj (QaQ l b) Qeq:=by
 have hl1:=hl.1
 unfold QaQ
 refine T0 (QEc n m b l h hb hl) fun x hx=>?_
 refine T1 (fun _=>T2 hl) fun hc=>?_
 simp only [beq_eq_false_iff_ne]at hc
 have hx:0<=x/\x<l.length:=by omega
 have hw:w64 (x+1)=x+1:=Q4 (by omega)
 refine T0 (Qj.up (l.length-(x+1).toNat) (fun st=>st.2.1-(x+1)) (fun st=>0<=st.1/\st.1<st.2.1/\st.2.2.length=l.length/\∀row∈st.2.2,row.length<=16) (Q:=fun q:Int×List (List Int)=>0<=q.1/\q.1<=(l.length:Int)/\q.2.length=l.length/\∀row∈q.2,row.length<=16) (by show w64 (x+1)-(x+1)=0;omega) ⟨hx.1,by show x<w64 (x+1);omega,rfl,hl.2⟩ (fun i st hi hn hJ=>?_)) (fun q hq=>?_)
 ·obtain⟨a,j,l2⟩:=st
  replace hi:j-(x+1)=i:=hi
  obtain⟨j1,j2,j3,j4⟩:0<=a/\a<j/\l2.length=l.length/\∀row∈l2,row.length<=16:=hJ
  show Qj (Qay b a j l2) _
  unfold Qay QeR
  refine T1 (fun hc=>?_) (fun hc=>T2 (Qt ⟨j1,?_,j3,j4⟩))
  ·simp only [QN]at hc
   refine T0 (T4 (by omega) (by omega)) fun e he=>?_
   have:=j4 e he
   refine T0 (T0 (Qtc n m b e h hb (by omega)) fun _ _=>T3) fun _ _=>?_
   have hw2:w64 (j+1)=j+1:=Q4 (by omega)
   have hw3:w64 (a+1)=a+1:=Q4 (by omega)
   refine T1 (fun _=>?_) fun _=>?_
   ·refine T0 (T4 (by omega) (by omega)) fun _ _=>?_
    refine T2 (QL ⟨by omega,by show w64 (j+1)-(x+1)=_;omega,by show 0<=w64 (a+1);omega,by show w64 (a+1)<w64 (j+1);omega,by simpa using j3,fun row hr=>?_⟩)
    rcases Qn7 hr with rfl | hr
    ·exact this
    exact j4 row hr
   exact T2 (QL ⟨by omega,by show w64 (j+1)-(x+1)=_;omega,j1,by show a<w64 (j+1);omega,j3,j4⟩)
  simp only [Qah]at hc
  show a<=_
  omega
 obtain⟨q1,q2⟩:=q
 obtain⟨h1,h2,h3,h4⟩:0<=q1/\q1<=l.length/\q2.length=l.length/\∀row∈q2,row.length<=16:=hq
 show Qj (Qaz q1 q2) _
 unfold Qaz
 refine T0 (T5 (by simp only [QA,QN];omega)) fun _ _=>?_
 refine T0 (T5 (by simp only [QA,QN,QcQ,Qe0,Qtk];omega)) fun _ _=>?_
 refine T2 ⟨by simp;omega,fun row hr=>?_⟩
 rw [Qtl (by simp;omega)]at hr
 exact h4 row (QfC (QfC hr))
theorem QEK (n:Qq)(m:List (List (Int×Int)))(task most:Int)(l5 l8:List Qh)(ins outs:List (List Int))(p:List Int)(h:Qal n)(hm:QJ (QJ fun _=>True) m)(hmost:most<=4294967296)
  (hi:Qeq ins) (ho:Qeq outs) (hp:p.length<=16) (ha:Qki n most l8):
  Qj (QcM n m task most l5 ins outs l8 p) fun r=>(∀a,r=.inl a->Qt7 n most a)/\∀a,r=.inr a->Qki n most a:=by
 have hil:=hi.1
 have hol:=ho.1
 unfold QcM
 refine T0 (Qzt n m task p h) fun x hx=>?_
 refine T0 (P:=fun y=>y=false->BOk n m x.2) ?_ fun y hy=>?_
 ·unfold Qf9
  refine T1 (fun _=>T2 fun h=>by cases h) fun hc=>?_
  have hb:=hx (by simpa using hc)
  exact T0 (QvQ n m x.2 h hb) fun _ _=>T2 fun _=>hb
 unfold QcU
 refine T1 (fun _=>T2 ⟨fun a h=>(by cases h),fun a h=>(by cases h;exact ha)⟩) fun hc=>?_
 have hb:=hy hc
 refine T0 (P:=Qeq) (by unfold QcG;exact T0 (T5 (by simp;omega)) fun _ _=>T2 ho) fun x19 h19=>?_
 refine T0 (QEd n m x.2 x19 h hb h19) fun x20 h20=>?_
 have h20l:=h20.1
 refine T0 (Qj.up ins.length (fun st=>st.1) (fun st=>Qki n most st.2) (Q:=fun q=>(∀a,q=.inl a->Qt7 n most a)/\∀a,q=.inr a->Qki n most a) rfl ha (fun i st hi2 hn hJ=>?_)) (fun q hq=>?_)
 ·obtain⟨j,l⟩:=st
  replace hi2:j=(i:Int):=hi2
  replace hJ:Qki n most l:=hJ
  show Qj (Qb3 ins x x20 p task most j l) _
  unfold Qb3
  refine T1 (fun hc=>?_) (fun _=>T2 (Qt ⟨fun a h=>(by cases h),fun a h=>(by cases h;exact hJ)⟩))
  simp only [QN]at hc
  refine T0 (T4 (by omega) (by omega)) fun e he=>?_
  have hel:=hi.2 e he
  have next:∀l,Qki n most l->Qj (Qba j l) fun o=>(∀s',o=.inl s'->i<ins.length/\s'.1=((i+1:Nat):Int)/\Qki n most s'.2)/\∀r:List Qh⊕List Qh,o=.inr r->(∀a,r=.inl a->Qt7 n most a)/\∀a,r=.inr a->Qki n most a:=fun l hl=>by
   unfold Qba
   exact T2 (QL (ix:=fun st:Int×List Qh=>st.1) (J:=fun st:Int×List Qh=>Qki n most st.2) ⟨by omega,by subst hi2;exact Qx (by omega) (by unfold maxLen;omega:ins.length<=maxLen),hl⟩)
  refine T0 (Qzu n m x.2 e h hb hm (by omega)) fun z _=>?_
  refine T1 (fun _=>next l hJ) fun _=>?_
  refine T0 (Qj.up x20.length (fun st=>st.1) (fun st=>Qki n most st.2) (Q:=fun q=>(∀a,q=.inl a->Qt7 n most a)/\∀a,q=.inr a->Qki n most a) rfl hJ (fun i2 st hi3 hn2 hJ2=>?_)) (fun q hq=>?_)
  ·obtain⟨j2,l2⟩:=st
   replace hi3:j2=(i2:Int):=hi3
   replace hJ2:Qki n most l2:=hJ2
   have hlt:=hJ2.1
   show Qj (Qb2 x20 p e task most j2 l2) _
   unfold Qb2
   refine T1 (fun hc=>?_) (fun _=>T2 (Qt ⟨fun a h=>(by cases h),fun a h=>(by cases h;exact hJ2)⟩))
   simp only [QN]at hc
   refine T0 (T4 (by omega) (by omega)) fun e2 he2=>?_
   have hel2:=h20.2 e2 he2
   rw [QfO p (by omega),Ql,QfO e (by omega),Ql,QfO e2 (by omega),Ql]
   refine T0 (T5 (by simp;omega)) fun _ _=>?_
   have hall:∀o∈l2++[Qh.mk task p e e2],QaY n o:=fun o ho=>by
    rcases Qcm.1 ho with ho | ho
    ·exact hJ2.2 o ho
    simp at ho;subst ho;exact⟨by show p.length<=20;omega,by show e.length<=20;omega,by show e2.length<=20;omega⟩
   refine T1 (fun hc2=>T2 (Qt ⟨fun a h=>(by cases h;exact⟨by simp only [beq_iff_eq]at hc2;omega,hall⟩),fun a h=>(by cases h)⟩)) fun hc2=>?_
   simp only [beq_eq_false_iff_ne]at hc2
   exact T2 (QL ⟨by omega,by subst hi3;exact Qx (by omega) (by unfold maxLen;omega:x20.length<=maxLen),by simp at hc2 ⊢;omega,hall⟩)
  rcases q with q | q
  ·have:=hq.1 q rfl
   exact T2 (Qt ⟨fun a h=>(by cases h;exact this),fun a h=>(by cases h)⟩)
  exact next q (hq.2 q rfl)
 rcases q with q | q
 ·have:=hq.1 q rfl
  exact T2 ⟨fun a h=>(by cases h;exact this),fun a h=>(by cases h)⟩
 have:=hq.2 q rfl
 exact T2 ⟨fun a h=>(by cases h),fun a h=>(by cases h;exact this)⟩
theorem QCk (n:Qq)(m:List (List (Int×Int)))(task most:Int)(l5:List Qh)(ins outs:List (List Int))(t:QG)(h:Qal n)(hm:QJ (QJ fun _=>True) m)(hmost:most<=4294967296)(h1:1<=most)
  (hi:Qeq ins) (ho:Qeq outs) (ht:t∈n.Tasks):Qj (Qet n m task most l5 ins outs [] t n) fun r=>∀a,r=.inl a\/r=.inr a->Qt7 n most a:=by
 have hv:=(h.tk t ht).1
 unfold Qet
 refine T0 (T5 (by simp only [QA,QN];omega)) fun _ _=>?_
 refine T0 (QvR (fun st=>1025 ^ t.Vars.length-Qjw st.1) (fun st=>st.1.length=t.Vars.length/\(∀d∈st.1,0<=d/\d<=1024)/\Qki n most st.2) (Q:=fun q=>∀a,q=.inl a\/q=.inr a->Qt7 n most a)
  ⟨by simp,fun d hd=>by have:=Qma hd;omega,by simp;omega,fun o h=>by cases h⟩ (fun st hJ=>?_)) (fun q hq=>?_)
 ·obtain⟨d,l⟩:=st
  obtain⟨j1,j2,j3⟩:d.length=t.Vars.length/\(∀d'∈d,0<=d'/\d'<=1024)/\Qki n most l:=hJ
  show Qj (Qdb n m task most l5 ins outs t n d l) _
  unfold Qdb
  rw [QfO d (by omega),Ql]
  refine T0 (QEK n m task most l5 l ins outs d h hm hmost hi ho (by omega) j3) fun r hr=>?_
  rcases r with r | r
  ·have:=hr.1 r rfl
   exact T2 ⟨fun s' e=>(by cases e),fun q e=>(by cases e;exact fun a ha=>by rcases ha with ha | ha<;>cases ha;exact this)⟩
  have hacc:=hr.2 r rfl
  show Qj (Qda t n d r) _
  unfold Qda
  refine T0 (QFj t n d h.k j1 hv j2) fun q hq=>?_
  obtain⟨a,d2⟩:=q
  obtain⟨q1,q2,q3,q4⟩:-1<=a/\a<d.length/\d2=d.take (a+1).toNat++List.replicate (d.length-(a+1).toNat) 0/\∀e,0<=a->d[a.toNat]? = some e->e<1024:=hq
  show Qj (Qc9 r a d2) _
  unfold Qc9
  refine T1 (fun _=>T2 ⟨fun s' e=>(by cases e),fun q e=>(by cases e;exact fun a ha=>by rcases ha with ha | ha<;>cases ha;exact⟨by have:=hacc.1;omega,hacc.2⟩)⟩) fun hc=>?_
  simp only [Qah]at hc
  have hlt:a.toNat<d.length:=by omega
  have ed:idx d2 a=some d[a.toNat]:=by
   rw [QeY (by omega),q3,Qbw (by simp;omega),QbU,if_pos (by omega),QH hlt]
  rw [ed,Ql,Ql]
  have h9:=q4 _ (by omega) (QH hlt)
  have h10:=j2 _ (QaI hlt)
  rw [Q4 (by omega)]
  have e3:d2.set a.toNat (d[a.toNat]+1)=d.take a.toNat++(d[a.toNat]+1)::List.replicate (d.length-(a.toNat+1)) 0:=by
   rw [q3,show(a+1).toNat=a.toNat+1 by omega,Qra hlt]
  rw [e3]
  have hd3:∀x∈d.take a.toNat++(d[a.toNat]+1)::List.replicate (d.length-(a.toNat+1)) 0,0<=x/\x<=1024:=fun x hx=>by
   rcases Qcm.1 hx with hx | hx
   ·exact j2 x (QfC hx)
   rcases Qbm.1 hx with rfl | hx
   ·omega
   have:=Qma hx;omega
  have hlen:(d.take a.toNat++(d[a.toNat]+1)::List.replicate (d.length-(a.toNat+1)) 0).length=t.Vars.length:=by simp;omega
  have hmu:1025 ^ t.Vars.length-Qjw (d.take a.toNat++(d[a.toNat]+1)::List.replicate (d.length-(a.toNat+1)) 0)<1025 ^ t.Vars.length-Qjw d:=by
   have u1:=QBB hd3
   rw [hlen]at u1
   have u2:Qjw d<Qjw (d.take a.toNat++(d[a.toNat]+1)::List.replicate (d.length-(a.toNat+1)) 0):=by
    have e5:d=d.take a.toNat++d[a.toNat]::d.drop (a.toNat+1):=by
     rw [<-Qoc hlt,List.take_append_drop]
    have u3:=QBB (l:=d.drop (a.toNat+1)) fun x hx=>j2 x (QpK hx)
    have u4:Qjw d=Qjw (d.take a.toNat++d[a.toNat]::d.drop (a.toNat+1)):=congrArg Qjw e5
    rw [u4,QAX,QAX]
    simp only [Qjw,Qfg,Qtk,Qmc]at u3 ⊢
    have e6:(d[a.toNat]+1).toNat=(d[a.toNat]).toNat+1:=by omega
    rw [e6,Qdl]
    omega
   omega
  exact T2 ⟨fun s' e=>(by cases e;exact⟨hmu,hlen,hd3,hacc⟩),fun q e=>(by cases e)⟩
 rcases q with q | q
 ·have:=hq q (.inl rfl)
  exact T2 fun a ha=>by rcases ha with ha | ha<;>cases ha;exact this
 have:=hq q (.inr rfl)
 exact T2 fun a ha=>by rcases ha with ha | ha<;>cases ha;exact this
theorem QEL (n:Qq)(m:List (List (Int×Int)))(task most:Int)(h:Qal n)(hm:QJ (QJ fun _=>True) m)(hmost:most<=4294967296):Qj (Qeh n m task most) fun r=>(r.length:Int)<=max2 most 0/\∀o∈r,QaY n o:=by
 unfold Qeh
 refine T1 (fun _=>T2 ⟨by simp [max2];split<;>omega,fun o h=>by cases h⟩) fun hc=>?_
 simp only [QcP,Qah]at hc
 refine T0 (T4 (by omega) (by omega)) fun e he=>?_
 refine T0 (QmU _ _) fun x hx=>?_
 refine T0 (QmU _ _) fun y hy=>?_
 refine T0 (P:=fun z=>z=(n,e)) (T2 rfl) fun z hz=>?_
 subst hz
 refine T0 (QCk n m task most [] x y e h hm hmost (by omega) hx hy he) fun r hr=>?_
 have fin:∀a,Qt7 n most a->(a.length:Int)<=max2 most 0/\∀o∈a,QaY n o:=fun a ha=>⟨by have:=ha.1;unfold max2;split<;>omega,ha.2⟩
 rcases r with r | r
 ·exact T2 (fin r (hr r (.inl rfl)))
 exact T2 (fin r (hr r (.inr rfl)))
theorem QCl (n:Qq)(m:List (List (Int×Int)))(most:Int)(h:Qal n)(hm:QJ (QJ fun _=>True) m)(h0:0<=most)(hmost:most<=4294967296):Qj (Qk9 n m most) fun r=>(r.length:Int)<=most/\∀o∈r,QaY n o:=by
 unfold Qk9
 refine T0 (Qj.up n.Tasks.length (fun st=>st.1) (fun st=>(st.2.length:Int)<=most/\∀o∈st.2,QaY n o) (Q:=fun q=>(q.length:Int)<=most/\∀o∈q,QaY n o) rfl ⟨by simpa using h0,fun o h=>by cases h⟩ (fun i st hi hn hJ=>?_)) (fun q hq=>T2 hq)
 obtain⟨x,l⟩:=st
 replace hi:x=(i:Int):=hi
 obtain⟨j1,j2⟩:(l.length:Int)<=most/\∀o∈l,QaY n o:=hJ
 show Qj (QdD n m most x l) _
 unfold QdD
 refine T1 (fun hc=>?_) (fun _=>T2 (Qt ⟨j1,j2⟩))
 simp only [QN]at hc
 have hw:w64 (most-(l.length:Int))=most-(l.length:Int):=Q4 (by omega)
 rw [hw]
 refine T0 (QEL n m x _ h hm (by omega)) fun y hy=>?_
 have hy1:=hy.1
 unfold max2 at hy1
 have hy2:(y.length:Int)<=most-l.length:=by split at hy1<;>omega
 refine T0 (T5 (by simp;omega)) fun _ _=>?_
 refine T2 (QL ⟨by omega,by subst hi;exact Qx (by omega) h.k.2.2.1.1,by simp;omega,fun o ho=>?_⟩)
 rcases Qcm.1 ho with ho | ho
 ·exact j2 o ho
 exact hy.2 o ho
end Go.Proofs
noncomputable section
namespace Go.Proofs
open Go Go.RowKit Go.Vm
theorem Qrb (m:List (List (Int×Int)))(h:m.length<=4294967296)(hb:∀b∈m,b.length<=4294967296):Ql1 m=some m:=by
 unfold Ql1 QbY
 rw [QgA (by simp;omega)]
 simp only [Ql,Qoe]
 obtain⟨r,h1,h2⟩:=(Qj.up (body:=fun st=>Qh1 m st.1 st.2) m.length (fun st=>st.1) (fun st=>st.2=m) (Q:=fun q=>q=m) (s0:=(0,m)) rfl rfl (fun i st hi hn hJ=>by
  obtain⟨x,l⟩:=st
  replace hi:x=(i:Int):=hi
  replace hJ:l=m:=hJ
  subst hJ
  show Qj (Qh1 l x l) _
  unfold Qh1
  refine T1 (fun hc=>?_) (fun _=>T2 (Qt rfl))
  simp only [QN]at hc
  have hlt:i<l.length:=by omega
  rw [hi,Q1,QH hlt,Ql]
  unfold Qc8
  rw [QgA (by have:=hb _ (QaI hlt);simp;omega)]
  simp only [Ql,Qoe]
  exact T2 (QL ⟨hlt,Qx hlt (by unfold maxLen;omega),by simp⟩)))
 rw [h1,h2];rfl
theorem QEe (n:Qq)(a b:List (List (Int×Int)))(c d:Nat)(h:Qal n)(ha:MOk n c a)(hb:MOk n d b)(hcd:c+d<=1000000):Qj (QgO a b) fun r=>r.2=0->MOk n (c+d) r.1:=by
 have hpl:=h.pl
 have ha1:=ha.1
 have hb1:=hb.1
 have hmin:min2 (a.length:Int) (b.length:Int)=(n.Places.length:Int):=by unfold min2;split<;>omega
 unfold QgO
 rw [hmin]
 refine T0 (T5 (by simp only [QA,QN];omega)) fun _ _=>?_
 refine T0 (Qj.up n.Places.length (fun st=>st.1) (fun st=>st.2.length=n.Places.length/\∀b∈st.2,Rt b/\b.length<=c+d) (Q:=fun q:Int⊕List (List (Int×Int))=>(∀x,q=.inl x->x≠0)/\∀m,q=.inr m->MOk n (c+d) m) rfl ⟨by simp,fun b hb=>?_⟩ (fun i st hi hn hJ=>?_)) (fun q hq=>?_)
 ·have:=Qma hb
  subst this
  exact⟨Rt.nil,by simp⟩
 ·obtain⟨x,m⟩:=st
  replace hi:x=(i:Int):=hi
  obtain⟨hJ1,hJ2⟩:m.length=n.Places.length/\∀b∈m,Rt b/\b.length<=c+d:=hJ
  show Qj (QcT a b x m) _
  unfold QcT
  rw [hmin]
  refine T1 (fun hc=>?_) (fun hc=>T2 (Qt ⟨fun x e=>(by cases e),fun m' e=>(by cases e;exact⟨hJ1,hJ2⟩)⟩))
  simp only [QN,Qtk]at hc
  refine T0 (T4 (by omega) (by omega)) fun u hu=>?_
  refine T0 (T4 (by omega) (by omega)) fun v hv=>?_
  have hu2:=ha.2 u hu
  have hv2:=hb.2 v hv
  have key:∃s,QfH u v=some s/\(s.2=0->Rt s.1/\s.1.length<=c+d):=by
   rcases Qo1 u v (by omega)with⟨_,e⟩|⟨_,_,_,e⟩|⟨_,_,_,r,e,h1,_,h2⟩
   ·exact⟨_,e,fun h=>by cases h⟩
   ·exact⟨_,e,fun h=>by cases h⟩
   exact⟨_,e,fun _=>⟨h1,by show r.length<=_;omega⟩⟩
  obtain⟨s,es,hs⟩:=key
  rw [es,Ql]
  refine T0 (T4 (by omega) (by omega)) fun _ _=>?_
  refine T1 (fun hc5=>T2 (Qt ⟨fun x e=>(by cases e;simpa using hc5),fun m' e=>(by cases e)⟩)) fun hc5=>?_
  have hs:=hs (by simpa using hc5)
  refine T2 (QL ⟨by omega,by subst hi;exact Qx (by omega) (by unfold maxLen;omega:n.Places.length<=maxLen),by simpa using hJ1,fun b hb'=>?_⟩)
  rcases Qn7 hb' with rfl | hb'
  ·exact hs
  exact hJ2 b hb'
 rcases q with q | q
 ·exact T2 fun h=>absurd h (hq.1 q rfl)
 exact T2 fun _=>hq.2 q rfl
theorem QDf (n:Qq)(a b:List (List (Int×Int)))(c d:Nat)(h:Qal n)(ha:MOk n c a)(hb:MOk n d b)(hcd:c+d<=1000000):Qj (QdK a b) fun r=>r.2=0->MOk n (c+d) r.1:=by
 have hpl:=h.pl
 have ha1:=ha.1
 have hb1:=hb.1
 have hmin:min2 (a.length:Int) (b.length:Int)=(n.Places.length:Int):=by unfold min2;split<;>omega
 unfold QdK
 rw [hmin]
 refine T0 (T5 (by simp only [QA,QN];omega)) fun _ _=>?_
 refine T0 (Qj.up n.Places.length (fun st=>st.1) (fun st=>st.2.length=n.Places.length/\∀b∈st.2,Rt b/\b.length<=c+d) (Q:=fun q:Int⊕List (List (Int×Int))=>(∀x,q=.inl x->x≠0)/\∀m,q=.inr m->MOk n (c+d) m) rfl ⟨by simp,fun b hb=>?_⟩ (fun i st hi hn hJ=>?_)) (fun q hq=>?_)
 ·have:=Qma hb
  subst this
  exact⟨Rt.nil,by simp⟩
 ·obtain⟨x,m⟩:=st
  replace hi:x=(i:Int):=hi
  obtain⟨hJ1,hJ2⟩:m.length=n.Places.length/\∀b∈m,Rt b/\b.length<=c+d:=hJ
  show Qj (QbS a b x m) _
  unfold QbS
  rw [hmin]
  refine T1 (fun hc=>?_) (fun hc=>T2 (Qt ⟨fun x e=>(by cases e),fun m' e=>(by cases e;exact⟨hJ1,hJ2⟩)⟩))
  simp only [QN,Qtk]at hc
  refine T0 (T4 (by omega) (by omega)) fun u hu=>?_
  refine T0 (T4 (by omega) (by omega)) fun v hv=>?_
  have hu2:=ha.2 u hu
  have hv2:=hb.2 v hv
  have key:∃s,Qe9 u v=some s/\(s.2=0->Rt s.1/\s.1.length<=c+d):=by
   rcases QkP u v (by omega)with⟨_,e⟩|⟨_,_,_,e⟩|⟨_,_,r,e,h1,_,h2⟩
   ·exact⟨_,e,fun h=>by cases h⟩
   ·exact⟨_,e,fun h=>by cases h⟩
   exact⟨_,e,fun _=>⟨h1,by show r.length<=_;omega⟩⟩
  obtain⟨s,es,hs⟩:=key
  rw [es,Ql]
  refine T0 (T4 (by omega) (by omega)) fun _ _=>?_
  refine T1 (fun hc5=>T2 (Qt ⟨fun x e=>(by cases e;simpa using hc5),fun m' e=>(by cases e)⟩)) fun hc5=>?_
  have hs:=hs (by simpa using hc5)
  refine T2 (QL ⟨by omega,by subst hi;exact Qx (by omega) (by unfold maxLen;omega:n.Places.length<=maxLen),by simpa using hJ1,fun b hb'=>?_⟩)
  rcases Qn7 hb' with rfl | hb'
  ·exact hs
  exact hJ2 b hb'
 rcases q with q | q
 ·exact T2 fun h=>absurd h (hq.1 q rfl)
 exact T2 fun _=>hq.2 q rfl
theorem QDg (n:Qq)(m:List (List (Int×Int)))(o:Qh)(c:Nat)(h:Qal n)(hm:MOk n c m)(hc:c<=900000)(ho:QaY n o):Qj (Qhl n m o) fun r=>r.2=0->MOk n (c+20) r.1:=by
 unfold Qhl
 refine T0 (Qzv n m o h (hm.len h (by omega)) ho) fun x _=>?_
 refine T1 (fun hc=>T2 fun h=>absurd h (by simpa using hc)) fun _=>?_
 refine T0 (QBz n o h ho) fun y hy=>?_
 refine T1 (fun hc=>T2 fun h=>absurd h (by simpa using hc)) fun hc2=>?_
 exact T0 (QEe n m y.1 c 20 h hm (hy (by simpa using hc2)).1 (by omega)) fun z hz=>T2 hz
theorem QFk (n:Qq)(m:List (List (Int×Int)))(o:Qh)(c:Nat)(h:Qal n)(hm:MOk n c m)(hc:c<=900000)(ho:QaY n o):Qj (Qjf n m o) fun r=>r.2=0->MOk n (c+20) r.1:=by
 have hpl:=h.pl
 have hm1:=hm.1
 unfold Qjf
 refine T0 (QBA n o h ho) fun y hy=>?_
 refine T1 (fun hc=>T2 fun h=>absurd h (by simpa using hc)) fun hc2=>?_
 obtain⟨⟨hy,_⟩,h1,h2⟩:=hy (by simpa using hc2)
 rw [Qrb m (by omega) (fun b hb=>by have:=(hm.2 b hb).2;omega),Ql]
 refine T0 (T4 h1 h2) fun e he=>?_
 have hcl:=(h.tk e he).2.2.2
 refine T0 (Qj.up e.Cancel.length (fun st=>st.1) (fun st=>MOk n c st.2) (Q:=fun q=>MOk n c q) rfl hm (fun i st hi hn hJ=>?_)) (fun q hq=>?_)
 ·obtain⟨x,l⟩:=st
  replace hi:x=(i:Int):=hi
  replace hJ:MOk n c l:=hJ
  show Qj (Qbv e x l) _
  unfold Qbv
  refine T1 (fun hc=>?_) (fun _=>T2 (Qt hJ))
  simp only [QN]at hc
  refine T0 (T4 (by omega) (by omega)) fun k _=>?_
  have next:∀l,MOk n c l->Qj (QfU x l) fun o=>(∀s',o=.inl s'->i<e.Cancel.length/\s'.1=((i+1:Nat):Int)/\MOk n c s'.2)/\∀r:List (List (Int×Int)),o=.inr r->MOk n c r:=fun l hl=>by
   unfold QfU
   exact T2 (QL (ix:=fun st:Int×List (List (Int×Int))=>st.1) (J:=fun st:Int×List (List (Int×Int))=>MOk n c st.2) ⟨by omega,by subst hi;exact Qx (by omega) (by unfold maxLen;omega:e.Cancel.length<=maxLen),hl⟩)
  refine T1 (fun hc3=>?_) fun _=>next l hJ
  simp only [QA,QN]at hc3
  refine T0 (T4 hc3.1 hc3.2) fun _ _=>?_
  refine next _ ⟨by simpa using hJ.1,fun b hb=>?_⟩
  rcases Qn7 hb with rfl | hb
  ·exact⟨Rt.nil,by simp⟩
  exact hJ.2 b hb
 show Qj (Qh2 y q) _
 unfold Qh2
 exact T0 (QDf n q y.1 c 20 h hq hy (by omega)) fun z hz=>T2 hz
theorem QCm (n:Qq)(m:List (List (Int×Int)))(o:Qh)(c:Nat)(h:Qal n)(hm:MOk n c m)(hc:c<=800000)(ho:QaY n o):Qj (QdX n m o) fun r=>r.2=0->MOk n (c+40) r.1:=by
 unfold QdX
 refine T0 (QDg n m o c h hm (by omega) ho) fun x hx=>?_
 refine T1 (fun hc=>T2 fun h=>absurd h (by simpa using hc)) fun hc2=>?_
 exact T0 (QFk n x.1 o (c+20) h (hx (by simpa using hc2)) (by omega) ho) fun z hz=>T2 hz
def QhO (n:Qq):List (List (Int×Int))->List Qh->Option (List (List (Int×Int)))
 | m,[]=>some m
 | m,o::l=>(QdX n m o).bind fun x=>bif x.2==0 then QhO n x.1 l else none
theorem QDh (n:Qq):∀(l k:List Qh) (m:List (List (Int×Int))),QhO n m (l++k)=(QhO n m l).bind fun x=>QhO n x k:=by
 intro l
 induction l with
 | nil=>intro k m;rfl
 | cons o l ih=>
  intro k m
  simp only [Qti,QhO]
  cases QdX n m o with
  | none=>rfl
  | some x=>
   simp only [Ql]
   cases x.2==0 with
   | true=>exact ih k x.1
   | false=>rfl
theorem QCn {n:Qq}{m x:List (List (Int×Int))}{o:Qh}{l:List Qh}(h:QhO n m (o::l)=some x):∃y,QdX n m o=some (y,0)/\QhO n y l=some x:=by
 rw [QhO]at h
 obtain⟨r,hr,h⟩:=Qb h
 obtain⟨a,b⟩:=r
 rcases Qp h with⟨c,h⟩|⟨_,h⟩
 ·simp only [beq_iff_eq]at c
  subst c
  exact⟨a,hr,h⟩
 cases h
theorem QEf {n:Qq}(h:Qal n):∀(l:List Qh) (c:Nat) (m x:List (List (Int×Int))),MOk n c m->(∀o∈l,QaY n o)->c+40*l.length<=800000->QhO n m l=some x->MOk n (c+40*l.length) x:=by
 intro l
 induction l with
 | nil=>intro c m x hm _ _ e;cases e;exact hm
 | cons o l ih=>
  intro c m x hm ho hc e
  obtain⟨y,h1,h2⟩:=QCn e
  simp only [Qfg]at hc ⊢
  have hy:=QlC (QCm n m o c h hm (by omega) (ho o QbE)) h1 rfl
  exact(ih (c+40) y x hy (fun o' ho'=>ho o' (Qca _ ho')) (by omega) h2).mono (by omega)
theorem QEM (n:Qq)(m:List (List (Int×Int)))(picks:List Int)(h:Qal n)(hm:MOk n 1024 m)(hp:picks.length<=8):Qj (Qgb n m picks) fun l=>l.length<=picks.length/\(∀o∈l,QaY n o)/\∃x,QhO n m l=some x:=by
 unfold Qgb
 refine T0 (Qj.up picks.length (fun st=>st.2.1) (fun st=>(st.2.2.length:Int)<=st.2.1/\(∀o∈st.2.2,QaY n o)/\QhO n m st.2.2=some st.1) (Q:=fun q:List Qh⊕List Qh=>∀l,q=.inl l\/q=.inr l->l.length<=picks.length/\(∀o∈l,QaY n o)/\∃x,QhO n m l=some x) rfl ⟨by simp,fun o h=>(by cases h),rfl⟩ (fun i st hi hn hJ=>?_)) (fun q hq=>?_)
 ·obtain⟨a,x,l⟩:=st
  replace hi:x=(i:Int):=hi
  obtain⟨j1,j2,j3⟩:(l.length:Int)<=x/\(∀o∈l,QaY n o)/\QhO n m l=some a:=hJ
  have ha:=QEf h l 1024 m a hm j2 (by omega) j3
  have done:l.length<=picks.length/\(∀o∈l,QaY n o)/\∃x,QhO n m l=some x:=⟨by omega,j2,a,j3⟩
  show Qj (QcH picks n a x l) _
  unfold QcH
  refine T1 (fun hc=>?_) (fun _=>T2 (Qt fun l' e=>(by rcases e with e | e<;>cases e;exact done)))
  simp only [QN]at hc
  refine T0 (T4 (by omega) (by omega)) fun p _=>?_
  refine T0 (QCl n a 4096 h (ha.len h (by omega)) (by decide) (by decide)) fun y hy=>?_
  refine T1 (fun _=>T2 (Qt fun l' e=>(by rcases e with e | e<;>cases e;exact done))) fun hc2=>?_
  simp only [beq_eq_false_iff_ne]at hc2
  refine T0 (T5 (by simpa using hc2)) fun _ _=>?_
  refine T0 (T5 (by simpa using hc2)) fun _ _=>?_
  have hy1:=hy.1
  have hpos:0<(y.length:Int):=by omega
  have g1:-(y.length:Int)<Int.tmod p y.length/\Int.tmod p y.length<y.length:=by
   have:=Int.tmod_lt_of_pos p hpos
   have h3:=Int.lt_tmod_of_pos p hpos
   omega
  rw [Q4 (by omega)]
  have g2:=Int.tmod_nonneg (a:=Int.tmod p y.length+y.length) (y.length:Int) (by omega)
  have g3:=Int.tmod_lt_of_pos (Int.tmod p y.length+y.length) hpos
  refine T0 (T4 g2 g3) fun o ho=>?_
  have hoo:=hy.2 o ho
  refine T0 (QCm n a o _ h ha (by omega) hoo).self fun z hz=>?_
  refine T1 (fun _=>T2 (Qt fun l' e=>(by rcases e with e | e<;>cases e;exact done))) fun hc3=>?_
  simp only [bne_eq_false_iff_eq]at hc3
  refine T0 (T5 (by simp;omega)) fun _ _=>?_
  have hw:w64 (x+1)=x+1:=Q4 (by omega)
  refine T2 (QL ⟨by omega,by show w64 (x+1)=_;omega,?_,fun o' ho'=>?_,?_⟩)
  ·show((l++[o]).length:Int)<=w64 (x+1)
   simp;omega
  ·rcases Qcm.1 ho' with ho' | ho'
   ·exact j2 o' ho'
   simp at ho';subst ho';exact hoo
  show QhO n m (l++[o])=some z.1
  rw [QDh,j3,Ql,QhO,hz.1,Ql,hc3];rfl
 rcases q with q | q
 ·exact T2 (hq q (.inl rfl))
 exact T2 (hq q (.inr rfl))
end Go.Proofs
noncomputable section
namespace Go.Proofs
open Go Go.RowKit Go.Vm
set_option maxRecDepth 100000 in
theorem QCo : QoU=some true:=by kernel_rfl
end Go.Proofs
noncomputable section
namespace Go.Proofs
open Go Go.RowKit Go.Vm
def szB (n:Qq)(t:QG):List Int:=t.Vars.map fun v=>(QaH n.Colours v.Colour).getD 0
def gdB (b:QO)(r:List Int):Bool:=decide (Qaj b r=some 0)
def Qer (n:Qq)(m:List (List (Int×Int)))(task:Int)(ins outs:List (List Int))(p:List Int):List Qh:=match Qa9 n m task p with
 | some (c,b)=>if c=0/\Q7 b=some 0 then ins.flatMap fun e=>if Q0 b e=some 0 then(outs.filter (gdB b)).map fun o=>Qh.mk task p e o else []else []
 | none=>[]
theorem ne0 (g:Int):(g != 0)=!decide (some g=some (0:Int)):=by by_cases h:g=0<;>simp [h]
theorem QzM (t:QG)(n:Qq)(l:List Int)(h:QY n)(hl:l.length=t.Vars.length)(hv:t.Vars.length<=16)(hd:∀d∈l,0<=d/\d<=1024):
  Qj (Qw (fun st=>Qav t n st.1 st.2) ((w64 ((l.length:Int)-1)),l)) fun q=>(-1<=q.1/\q.1<l.length/\q.2=l.take (q.1+1).toNat++List.replicate (l.length-(q.1+1).toNat) 0)/\(∀(j:Nat) x s,q.1<(j:Int)->l[j]? = some x->(szB n t)[j]? = some s->¬x+1<s)/\∀x s,0<=q.1->l[q.1.toNat]? = some x->(szB n t)[q.1.toNat]? = some s->x+1<s/\x<1024:=by
 have hw:w64 ((l.length:Int)-1)=(l.length:Int)-1:=Q4 (by omega)
 refine Qj.up l.length (fun st=>(l.length:Int)-1-st.1) (fun st=>st.2=l.take (st.1+1).toNat++List.replicate (l.length-(st.1+1).toNat) 0/\∀(j:Nat) x s,st.1<(j:Int)->l[j]? = some x->(szB n t)[j]? = some s->¬x+1<s) (by rw [hw];omega) ⟨by
  rw [hw]
  show l=_
  rw [show((l.length:Int)-1+1).toNat=l.length by omega,Qht,Nat.sub_self];simp,fun j x s hj hx=>by
  replace hj:w64 ((l.length:Int)-1)<(j:Int):=hj
  have:=(Q2.1 hx).1
  omega⟩ (fun i st hi hn hJ=>?_)
 obtain⟨a,d⟩:=st
 replace hi:(l.length:Int)-1-a=i:=hi
 obtain⟨hJ,hJ2⟩:d=l.take (a+1).toNat++List.replicate (l.length-(a+1).toNat) 0/\∀(j:Nat) x s,a<(j:Int)->l[j]? = some x->(szB n t)[j]? = some s->¬x+1<s:=hJ
 have hdl:d.length=l.length:=by rw [hJ];simp;omega
 show Qj (Qav t n a d) _
 unfold Qav
 refine T0 (P:=fun x=>(x=true->0<=a/\∀e s,l[a.toNat]? = some e->(szB n t)[a.toNat]? = some s->¬e+1<s)/\(x=false->∀e s,0<=a->l[a.toNat]? = some e->(szB n t)[a.toNat]? = some s->e+1<s/\e<1024)) ?_ fun x hx=>?_
 ·unfold QfI
  refine T1 (fun hc=>?_) fun hc=>T2 ⟨fun h=>(by cases h),fun _ e s he=>?_⟩
  ·simp only [QN]at hc
   have hlt:a.toNat<l.length:=by omega
   have hlv:a.toNat<t.Vars.length:=by omega
   have ed:idx d a=some l[a.toNat]:=by
    rw [QeY hc,hJ,Qbw (by simp;omega),QbU,if_pos (by omega),QH hlt]
   have ev:idx t.Vars a=some t.Vars[a.toNat]:=by rw [QeY hc,QH hlv]
   rw [ed,Ql,ev,Ql]
   refine T0 (Qhd _ _ h.1).self fun z hz=>?_
   obtain⟨hze,hz⟩:=hz
   have hsz:(szB n t)[a.toNat]? = some z:=by
    unfold szB
    rw [Qa0,QH hlv,Qgn,hze];rfl
   have h2:=hd _ (QaI hlt)
   rw [Q4 (by omega)]
   refine T2 ⟨fun ht=>⟨hc,fun e s he hs=>?_⟩,fun hf e s _ he hs=>?_⟩
   ·rw [QH hlt]at he
    cases he
    rw [hsz]at hs;cases hs
    simp only [QN]at ht
    omega
   rw [QH hlt]at he
   cases he
   rw [hsz]at hs;cases hs
   simp only [Qah]at hf
   omega
  simp only [Qah]at hc;omega
 unfold Qeg
 refine T1 (fun hc=>?_) fun hc=>?_
 ·obtain⟨ha,ha2⟩:=hx.1 hc
  refine T0 (T4 ha (by omega)) fun _ _=>?_
  have hw2:w64 (a-1)=a-1:=Q4 (by omega)
  refine T2 (QL ⟨by omega,?_,?_,fun j x s hj hx hs=>?_⟩)
  ·show(l.length:Int)-1-w64 (a-1)=_
   rw [hw2];omega
  ·show d.set a.toNat 0=l.take (w64 (a-1)+1).toNat++List.replicate (l.length-(w64 (a-1)+1).toNat) 0
   rw [hw2,hJ,show(a+1).toNat=a.toNat+1 by omega,Qra (by omega),show(a-1+1).toNat=a.toNat by omega]
   rw [show l.length-a.toNat=(l.length-(a.toNat+1))+1 by omega,List.replicate_succ]
  replace hj:w64 (a-1)<(j:Int):=hj
  rw [hw2]at hj
  by_cases c:a<(j:Int)
  ·exact hJ2 j x s c hx hs
  have:a.toNat=j:=by omega
  subst this
  exact ha2 x s hx hs
 exact T2 (Qt ⟨⟨by omega,by omega,hJ⟩,hJ2,hx.2 hc⟩)
theorem QBq (n:Qq)(m:List (List (Int×Int)))(b:QO)(l:List (List Int))(h:Qal n)(hb:BOk n m b)(hl:Qeq l):Qj (QaZ l b) fun r=>(r=-1/\∀row∈l,gdB b row=true)\/∃i:Nat,r=(i:Int)/\i<l.length/\(∀row∈l.take i,gdB b row=true)/\∀row,l[i]? = some row->gdB b row=false:=by
 have hl1:=hl.1
 unfold QaZ
 refine T0 (Qj.up l.length (fun st=>st) (fun st=>∀row∈l.take st.toNat,gdB b row=true) (Q:=fun q:Int⊕Unit=>(∀x,q=.inl x->∃i:Nat,x=(i:Int)/\i<l.length/\(∀row∈l.take i,gdB b row=true)/\∀row,l[i]? = some row->gdB b row=false)/\(q=.inr ()->∀row∈l,gdB b row=true)) rfl (fun row h=>by cases h) (fun i st hi hn hJ=>?_)) (fun q hq=>?_)
 ·replace hi:st=(i:Int):=hi
  subst hi
  replace hJ:∀row∈l.take (i:Int).toNat,gdB b row=true:=hJ
  rw [Qff]at hJ
  show Qj (QaG l b i) _
  unfold QaG QeR
  refine T1 (fun hc=>?_) (fun hc=>T2 (Qt ⟨fun x h=>(by cases h),fun _=>?_⟩))
  ·simp only [QN]at hc
   have hlt:i<l.length:=by omega
   rw [Q1,QH hlt,Ql]
   have:=hl.2 _ (QaI hlt)
   refine T0 (P:=fun c:Bool=>c=!gdB b l[i]) ?_ fun c hcc=>?_
   ·refine T0 (Qtc n m b l[i] h hb (by omega)).self fun g hg=>T2 ?_
    unfold gdB
    rw [hg.1];exact ne0 g
   subst hcc
   refine T1 (fun hc2=>T2 (Qt ⟨fun x e=>(by cases e;exact⟨i,rfl,hlt,hJ,fun row hr=>by rw [QH hlt]at hr;cases hr;simpa using hc2⟩),fun e=>by cases e⟩)) fun hc2=>?_
   have hw:w64 ((i:Int)+1)=((i+1:Nat):Int):=Qx hlt (by unfold maxLen;omega:l.length<=maxLen)
   refine T2 (QL ⟨hlt,hw,?_⟩)
   show ∀row∈l.take (w64 ((i:Int)+1)).toNat,gdB b row=true
   rw [hw,Qff,QjA,QH hlt]
   intro row hr
   rcases Qcm.1 hr with hr | hr
   ·exact hJ row hr
   simp at hr;subst hr;simpa using hc2
  simp only [Qah]at hc
  rwa [Qip (by omega)]at hJ
 rcases q with q | q
 ·exact T2 (.inr (hq.1 q rfl))
 exact T2 (.inl ⟨rfl,hq.2 rfl⟩)
theorem QBr (n:Qq)(m:List (List (Int×Int)))(b:QO)(l:List (List Int))(h:Qal n)(hb:BOk n m b)(hl:Qeq l):Qj (QaQ l b) fun r=>r=l.filter (gdB b):=by
 have hl1:=hl.1
 unfold QaQ
 refine T0 (QBq n m b l h hb hl) fun x hx=>?_
 rcases hx with⟨rfl,hx⟩|⟨i0,rfl,hi0,hx1,hx2⟩
 ·exact T1 (fun _=>T2 (List.filter_eq_self.2 hx).symm) fun hc=>by simp at hc
 refine T1 (fun hc=>by simp at hc) fun _=>?_
 have hw:w64 ((i0:Int)+1)=(i0:Int)+1:=Q4 (by omega)
 have hbad:=hx2 _ (QH hi0)
 refine T0 (Qj.up (l.length-(i0+1)) (fun st=>st.2.1-((i0:Int)+1)) (fun st=>0<=st.1/\st.1<st.2.1/\st.2.2.length=l.length/\st.2.2.take st.1.toNat=(l.take st.2.1.toNat).filter (gdB b)/\st.2.2.drop st.2.1.toNat=l.drop st.2.1.toNat) (Q:=fun q:Int×List (List Int)=>0<=q.1/\q.1<=(l.length:Int)/\q.2.length=l.length/\q.2.take q.1.toNat=l.filter (gdB b)) (by show w64 ((i0:Int)+1)-((i0:Int)+1)=0;omega) ⟨by show(0:Int)<=i0;omega,by show(i0:Int)<w64 ((i0:Int)+1);omega,rfl,?_,rfl⟩ (fun i st hi hn hJ=>?_)) (fun q hq=>?_)
 ·show l.take (i0:Int).toNat=(l.take (w64 ((i0:Int)+1)).toNat).filter (gdB b)
  rw [hw,Qff,show((i0:Int)+1).toNat=i0+1 by omega,QjA,QH hi0,List.filter_append,List.filter_eq_self.2 hx1]
  show l.take i0=l.take i0++List.filter (gdB b) [l[i0]]
  rw [Qmb,hbad]
  exact(List.append_nil _).symm
 ·obtain⟨a,j,l2⟩:=st
  replace hi:j-((i0:Int)+1)=i:=hi
  obtain⟨j1,j2,j3,j4,j5⟩:0<=a/\a<j/\l2.length=l.length/\l2.take a.toNat=(l.take j.toNat).filter (gdB b)/\l2.drop j.toNat=l.drop j.toNat:=hJ
  show Qj (Qay b a j l2) _
  unfold Qay QeR
  refine T1 (fun hc=>?_) (fun hc=>T2 (Qt ⟨j1,?_,j3,?_⟩))
  ·simp only [QN]at hc
   have hj:j.toNat<l2.length:=by omega
   have hj':j.toNat<l.length:=by omega
   have ej:l2[j.toNat]=l[j.toNat]:=by
    have:=congrArg List.head? j5
    rw [Qoc hj,Qoc hj']at this
    exact Option.some.inj this
   have ej5:l2.drop (j.toNat+1)=l.drop (j.toNat+1):=by
    have:=congrArg List.tail j5
    simpa using this
   rw [Ql7 (by omega) (by omega),Ql]
   have:=hl.2 _ (QaI hj')
   have hw2:w64 (j+1)=j+1:=Q4 (by omega)
   have hw3:w64 (a+1)=a+1:=Q4 (by omega)
   have tk:l.take (j+1).toNat=l.take j.toNat++[l[j.toNat]]:=by
    rw [show(j+1).toNat=j.toNat+1 by omega,QjA,QH hj'];rfl
   refine T0 (P:=fun c:Bool=>c=!gdB b l[j.toNat]) ?_ fun c hcc=>?_
   ·rw [ej]
    refine T0 (Qtc n m b l[j.toNat] h hb (by omega)).self fun g hg=>T2 ?_
    unfold gdB
    rw [hg.1];exact ne0 g
   subst hcc
   refine T1 (fun hc2=>?_) fun hc2=>?_
   ·have hc2:gdB b l[j.toNat]=true:=by simpa using hc2
    refine T0 (T4 (by omega) (by omega)) fun _ _=>?_
    refine T2 (QL ⟨by omega,by show w64 (j+1)-((i0:Int)+1)=_;omega,by show 0<=w64 (a+1);omega,by show w64 (a+1)<w64 (j+1);omega,by simpa using j3,?_,?_⟩)
    ·show(l2.set a.toNat l2[j.toNat]).take (w64 (a+1)).toNat=(l.take (w64 (j+1)).toNat).filter (gdB b)
     rw [hw2,hw3,tk,List.filter_append,<-j4,show(a+1).toNat=a.toNat+1 by omega,QjA,List.getElem?_set_self (by omega),List.take_set_of_le (QcR _),ej]
     simp [hc2]
    show(l2.set a.toNat l2[j.toNat]).drop (w64 (j+1)).toNat=l.drop (w64 (j+1)).toNat
    rw [hw2,show(j+1).toNat=j.toNat+1 by omega,List.drop_set_of_lt (by omega),ej5]
   have hc2:gdB b l[j.toNat]=false:=by simpa using hc2
   refine T2 (QL ⟨by omega,by show w64 (j+1)-((i0:Int)+1)=_;omega,j1,by show a<w64 (j+1);omega,j3,?_,?_⟩)
   ·show l2.take a.toNat=(l.take (w64 (j+1)).toNat).filter (gdB b)
    rw [hw2,tk,List.filter_append,<-j4]
    simp [hc2]
   show l2.drop (w64 (j+1)).toNat=l.drop (w64 (j+1)).toNat
   rw [hw2,show(j+1).toNat=j.toNat+1 by omega,ej5]
  ·simp only [Qah]at hc
   show a<=_
   omega
  simp only [Qah]at hc
  show l2.take a.toNat=_
  rw [j4,Qip (by omega)]
 obtain⟨q1,q2⟩:=q
 obtain⟨h1,h2,h3,h4⟩:0<=q1/\q1<=l.length/\q2.length=l.length/\q2.take q1.toNat=l.filter (gdB b):=hq
 show Qj (Qaz q1 q2) _
 unfold Qaz
 refine T0 (T5 (by simp only [QA,QN];omega)) fun _ _=>?_
 refine T0 (T5 (by simp only [QA,QN,QcQ,Qe0,Qtk];omega)) fun _ _=>?_
 refine T2 ?_
 rw [Qtl (by simp;omega),List.take_take,Nat.min_self,h4]
end Go.Proofs
noncomputable section
namespace Go.Proofs
open Go Go.RowKit Go.Vm
theorem QCp (n:Qq)(m:List (List (Int×Int)))(task most:Int)(l5 l8:List Qh)(ins outs:List (List Int))(p:List Int)(h:Qal n)(hm:QJ (QJ fun _=>True) m)(hmost:most<=4294967296\/l8.length+(Qer n m task ins outs p).length<=4294967296)
  (hi:Qeq ins) (ho:Qeq outs) (hp:p.length<=16) (ha:(l8.length:Int)<most):
  Qj (QcM n m task most l5 ins outs l8 p) fun r=>r=adv most.toNat l8 (Qer n m task ins outs p):=by
 have hil:=hi.1
 have hol:=ho.1
 unfold QcM
 refine T0 (Qzt n m task p h).self fun x hx=>?_
 obtain⟨c,b⟩:=x
 obtain⟨hxe,hx⟩:=hx
 refine T0 (P:=fun y=>(y=true->Qer n m task ins outs p=[])/\(y=false->BOk n m b/\c=0/\Q7 b=some 0)) ?_ fun y hy=>?_
 ·unfold Qf9
  refine T1 (fun hc=>T2 ⟨fun _=>?_,fun h=>by cases h⟩) fun hc=>?_
  ·unfold Qer
   rw [hxe]
   simp only
   rw [if_neg fun e=>by simp [e.1]at hc]
  have hc:c=0:=by simpa using hc
  have hb:=hx hc
  refine T0 (QvQ n m b h hb).self fun g hg=>T2 ⟨fun hg2=>?_,fun hg2=>⟨hb,hc,?_⟩⟩
  ·unfold Qer
   rw [hxe]
   simp only
   rw [if_neg fun e=>by rw [hg.1]at e;simp at e;simp [e.2]at hg2]
  rw [hg.1];simpa using hg2
 unfold QcU
 refine T1 (fun hc=>T2 ?_) fun hc=>?_
 ·rw [hy.1 hc,QmT (by omega)]
 obtain⟨hb,hc0,hgd⟩:=hy.2 hc
 refine T0 (P:=fun z=>z=outs) (by unfold QcG;exact T0 (T5 (by simp;omega)) fun _ _=>T2 rfl) fun x19 h19=>?_
 rw [h19]
 refine T0 (QBr n m b outs h hb ho) fun x20 h20=>?_
 have h20l:x20.length<=16:=by rw [h20];exact QcB (List.length_filter_le _ _) ho.1
 have h20e:∀r∈x20,r.length<=16:=fun r hr=>by rw [h20]at hr;exact ho.2 r (QpJ.1 hr).1
 have hR:Qer n m task ins outs p=ins.flatMap fun e=>if Q0 b e=some 0 then x20.map (fun o=>Qh.mk task p e o)else []:=by
  unfold Qer
  rw [hxe]
  simp only
  rw [if_pos ⟨hc0,hgd⟩,h20]
 rw [hR]at hmost ⊢
 generalize hg:(fun e=>if Q0 b e=some 0 then x20.map (fun o=>Qh.mk task p e o)else [])=g at hmost ⊢
 refine T0 (Qj.up ins.length (fun st=>st.1) (fun st=>(st.2.length:Int)<most/\adv most.toNat st.2 ((ins.drop st.1.toNat).flatMap g)=adv most.toNat l8 (ins.flatMap g)/\st.2.length+((ins.drop st.1.toNat).flatMap g).length=l8.length+(ins.flatMap g).length) (Q:=fun q=>q=adv most.toNat l8 (ins.flatMap g)) rfl ⟨ha,rfl,rfl⟩ (fun i st hi2 hn hJ=>?_)) (fun q hq=>?_)
 ·obtain⟨j,l⟩:=st
  replace hi2:j=(i:Int):=hi2
  subst hi2
  obtain⟨hJ1,hJ2,hJ3⟩:(l.length:Int)<most/\adv most.toNat l ((ins.drop (i:Int).toNat).flatMap g)=adv most.toNat l8 (ins.flatMap g)/\l.length+((ins.drop (i:Int).toNat).flatMap g).length=l8.length+(ins.flatMap g).length:=hJ
  rw [Qff]at hJ2 hJ3
  show Qj (Qb3 ins (c,b) x20 p task most i l) _
  unfold Qb3
  refine T1 (fun hc=>?_) (fun hc=>T2 (Qt ?_))
  ·simp only [QN]at hc
   have hlt:i<ins.length:=by omega
   have hel:=hi.2 _ (QaI hlt)
   rw [Q1,QH hlt,Ql]
   rw [Qoc hlt,Qjy,Qwc]at hJ2
   rw [Qoc hlt,Qjy,QcQ]at hJ3
   have next:∀l',(l'.length:Int)<most->adv most.toNat l' ((ins.drop (i+1)).flatMap g)=adv most.toNat l8 (ins.flatMap g)->l'.length+((ins.drop (i+1)).flatMap g).length=l8.length+(ins.flatMap g).length->Qj (Qba i l') fun o=>(∀s',o=.inl s'->i<ins.length/\s'.1=((i+1:Nat):Int)/\(s'.2.length:Int)<most/\adv most.toNat s'.2 ((ins.drop s'.1.toNat).flatMap g)=adv most.toNat l8 (ins.flatMap g)/\s'.2.length+((ins.drop s'.1.toNat).flatMap g).length=l8.length+(ins.flatMap g).length)/\∀r:List Qh⊕List Qh,o=.inr r->r=adv most.toNat l8 (ins.flatMap g):=fun l' hl1 hl2 hl3=>by
    have hw:w64 ((i:Int)+1)=((i+1:Nat):Int):=Qx hlt (by unfold maxLen;omega:ins.length<=maxLen)
    unfold Qba
    exact T2 (QL (ix:=fun st:Int×List Qh=>st.1) (J:=fun st:Int×List Qh=>(st.2.length:Int)<most/\adv most.toNat st.2 ((ins.drop st.1.toNat).flatMap g)=adv most.toNat l8 (ins.flatMap g)/\st.2.length+((ins.drop st.1.toNat).flatMap g).length=l8.length+(ins.flatMap g).length) ⟨hlt,hw,hl1,by
     show adv most.toNat l' ((ins.drop (w64 ((i:Int)+1)).toNat).flatMap g)=_/\l'.length+((ins.drop (w64 ((i:Int)+1)).toNat).flatMap g).length=_
     rw [hw,Qff];exact⟨hl2,hl3⟩⟩)
   refine T0 (Qzu n m b ins[i] h hb hm (by omega)).self fun z hz=>?_
   refine T1 (fun hc2=>?_) fun hc2=>?_
   ·have:g ins[i]=[]:=by
     rw [<-hg];simp only
     rw [if_neg fun e=>by rw [hz.1]at e;simp at e;simp [e]at hc2]
    rw [this,QmT (by omega)]at hJ2
    rw [this]at hJ3
    exact next l hJ1 hJ2 (by simpa using hJ3)
   have hge:g ins[i]=x20.map (fun o=>Qh.mk task p ins[i] o):=by
    rw [<-hg];simp only
    rw [if_pos (by rw [hz.1];simpa using hc2)]
   rw [hge]at hJ2 hJ3
   rw [QpH]at hJ3
   refine T0 (Qj.up x20.length (fun st=>st.1) (fun st=>(st.2.length:Int)<most/\adv most.toNat st.2 ((x20.drop st.1.toNat).map fun o=>Qh.mk task p ins[i] o)=adv most.toNat l (x20.map fun o=>Qh.mk task p ins[i] o)/\(st.2.length:Int)=l.length+st.1) (Q:=fun q=>q=adv most.toNat l (x20.map fun o=>Qh.mk task p ins[i] o)) rfl ⟨hJ1,rfl,by simp⟩ (fun i2 st hi3 hn2 hK=>?_)) (fun q hq=>?_)
   ·obtain⟨j2,l2⟩:=st
    replace hi3:j2=(i2:Int):=hi3
    subst hi3
    obtain⟨hK1,hK2,hK3⟩:(l2.length:Int)<most/\adv most.toNat l2 ((x20.drop (i2:Int).toNat).map fun o=>Qh.mk task p ins[i] o)=adv most.toNat l (x20.map fun o=>Qh.mk task p ins[i] o)/\(l2.length:Int)=l.length+(i2:Int):=hK
    rw [Qff]at hK2
    show Qj (Qb2 x20 p ins[i] task most i2 l2) _
    unfold Qb2
    refine T1 (fun hc=>?_) (fun hc=>T2 (Qt ?_))
    ·simp only [QN]at hc
     have hlt2:i2<x20.length:=by omega
     have hel2:=h20e _ (QaI hlt2)
     rw [Q1,QH hlt2,Ql]
     rw [Qoc hlt2,Qgm,QD8]at hK2
     rw [QfO p (by omega),Ql,QfO ins[i] (by omega),Ql,QfO x20[i2] (by omega),Ql]
     refine T0 (T5 (by simp;omega)) fun _ _=>?_
     refine T1 (fun hc2=>T2 (Qt ?_)) fun hc2=>?_
     ·simp only [beq_iff_eq,QcQ,Qjz]at hc2
      rw [QD7 (by simp;omega)]at hK2
      exact hK2
     simp only [beq_eq_false_iff_ne,QcQ,Qjz]at hc2
     have hw:w64 ((i2:Int)+1)=((i2+1:Nat):Int):=Qx hlt2 (by unfold maxLen;omega:x20.length<=maxLen)
     refine T2 (QL ⟨hlt2,hw,by show((l2++[_]).length:Int)<most;simp;omega,?_,by show((l2++[_]).length:Int)=l.length+w64 ((i2:Int)+1);rw [hw];simp;omega⟩)
     show adv most.toNat (l2++[_]) ((x20.drop (w64 ((i2:Int)+1)).toNat).map _)=_
     rw [hw,Qff];exact hK2
    simp only [Qah]at hc
    rw [List.drop_of_length_le (by omega),List.map_nil,QmT (by omega)]at hK2
    exact hK2
   rw [<-hq]at hJ2
   rcases q with q | q
   ·exact T2 (Qt hJ2)
   exact next q (by have:=Qyt hq.symm;omega) hJ2 (by
    have e:=congrArg List.length (Qwd hq.symm)
    rw [QcQ,QpH]at e
    omega)
  simp only [Qah]at hc
  rw [List.drop_of_length_le (by omega),List.flatMap_nil,QmT (by omega)]at hJ2
  exact hJ2
 rcases q with q | q
 ·exact T2 hq
 exact T2 hq
theorem QAa (n:Qq)(m:List (List (Int×Int)))(task most:Int)(l5:List Qh)(ins outs:List (List Int))(t:QG)(h:Qal n)(hm:QJ (QJ fun _=>True) m)(hmost:most<=4294967296\/((binds (szB n t)).flatMap (Qer n m task ins outs)).length<=4294967296)(h1:1<=most)
  (hi:Qeq ins) (ho:Qeq outs) (ht:t∈n.Tasks):Qj (Qet n m task most l5 ins outs [] t n) fun r=>∀a,r=.inl a\/r=.inr a->a=((binds (szB n t)).flatMap (Qer n m task ins outs)).take most.toNat:=by
 have hv:=(h.tk t ht).1
 have hsz:(szB n t).length=t.Vars.length:=by simp [szB]
 generalize hrl:Qer n m task ins outs=rl at hmost ⊢
 have fin:∀q:List Qh⊕List Qh,q.swap=adv most.toNat [] ((binds (szB n t)).flatMap rl)->∀a,q=.inl a\/q=.inr a->a=((binds (szB n t)).flatMap rl).take most.toNat:=fun q hq a ha=>by
  rw [<-QAN (by omega:0<most.toNat),<-hq]
  rcases ha with rfl | rfl<;>rfl
 unfold Qet
 refine T0 (T5 (by simp only [QA,QN];omega)) fun _ _=>?_
 refine T0 (QvR (fun st=>(Qbl (szB n t) st.1).length) (fun st=>st.1.length=t.Vars.length/\(∀d∈st.1,0<=d/\d<=1024)/\(st.2.length:Int)<most/\adv most.toNat st.2 ((st.1::Qbl (szB n t) st.1).flatMap rl)=adv most.toNat [] ((binds (szB n t)).flatMap rl)/\st.2.length+((st.1::Qbl (szB n t) st.1).flatMap rl).length=((binds (szB n t)).flatMap rl).length) (Q:=fun q:List Qh⊕List Qh=>q.swap=adv most.toNat [] ((binds (szB n t)).flatMap rl))
  ⟨by simp,fun d hd=>by have:=Qma hd;omega,by simp;omega,?_⟩ (fun st hJ=>?_)) (fun q hq=>?_)
 ·show adv most.toNat [] ((List.replicate (t.Vars.length:Int).toNat 0::Qbl (szB n t) (List.replicate (t.Vars.length:Int).toNat 0)).flatMap rl)=_/\0+((List.replicate (t.Vars.length:Int).toNat 0::Qbl (szB n t) (List.replicate (t.Vars.length:Int).toNat 0)).flatMap rl).length=_
  rw [Qsv (szB n t),Qi8,hsz,Qff,QkW]
  exact⟨rfl,rfl⟩
 ·obtain⟨d,l⟩:=st
  obtain⟨j1,j2,j3,j4,j5⟩:d.length=t.Vars.length/\(∀d'∈d,0<=d'/\d'<=1024)/\(l.length:Int)<most/\adv most.toNat l ((d::Qbl (szB n t) d).flatMap rl)=adv most.toNat [] ((binds (szB n t)).flatMap rl)/\l.length+((d::Qbl (szB n t) d).flatMap rl).length=((binds (szB n t)).flatMap rl).length:=hJ
  rw [Qjy,QcQ]at j5
  show Qj (Qdb n m task most l5 ins outs t n d l) _
  unfold Qdb
  rw [QfO d (by omega),Ql]
  refine T0 (QCp n m task most l5 l ins outs d h hm (by rw [hrl];omega) hi ho (by omega) j3) fun r hr=>?_
  rw [hrl]at hr
  rw [Qjy,Qwc,<-hr]at j4
  rcases r with r | r
  ·exact T2 ⟨fun s' e=>(by cases e),fun q e=>(by cases e;exact j4)⟩
  have hacc:=Qyt hr.symm
  have hlen:=congrArg List.length (Qwd hr.symm)
  rw [QcQ]at hlen
  replace j4:adv most.toNat r ((Qbl (szB n t) d).flatMap rl)=adv most.toNat [] ((binds (szB n t)).flatMap rl):=j4
  show Qj (Qda t n d r) _
  unfold Qda
  refine T0 (QzM t n d h.k j1 hv j2) fun q hq=>?_
  obtain⟨a,d2⟩:=q
  obtain⟨⟨q1,q2,q3⟩,q4,q5⟩:(-1<=a/\a<d.length/\d2=d.take (a+1).toNat++List.replicate (d.length-(a+1).toNat) 0)/\(∀(j:Nat) x s,a<(j:Int)->d[j]? = some x->(szB n t)[j]? = some s->¬x+1<s)/\∀x s,0<=a->d[a.toNat]? = some x->(szB n t)[a.toNat]? = some s->x+1<s/\x<1024:=hq
  have hnx:=Qys (szB n t) d
  show Qj (Qc9 r a d2) _
  unfold Qc9
  refine T1 (fun hc=>T2 ⟨fun s' e=>(by cases e),fun q e=>(by
   cases e
   simp only [QN]at hc
   rw [QvA (szB n t) d fun j x s=>q4 j x s (by omega)]at hnx
   simp only at hnx
   rw [hnx,List.flatMap_nil,QmT hacc]at j4
   exact j4)⟩) fun hc=>?_
  simp only [Qah]at hc
  have hlt:a.toNat<d.length:=by omega
  have hls:a.toNat<(szB n t).length:=by omega
  have ed:idx d2 a=some d[a.toNat]:=by
   rw [QeY (by omega),q3,Qbw (by simp;omega),QbU,if_pos (by omega),QH hlt]
  rw [ed,Ql,Ql]
  have h9:=q5 _ _ (by omega) (QH hlt) (QH hls)
  have h10:=j2 _ (QaI hlt)
  rw [Q4 (by omega)]
  have e3:d2.set a.toNat (d[a.toNat]+1)=d.take a.toNat++(d[a.toNat]+1)::List.replicate (d.length-(a.toNat+1)) 0:=by
   rw [q3,show(a+1).toNat=a.toNat+1 by omega,Qra hlt]
  rw [e3]
  have hd3:∀x∈d.take a.toNat++(d[a.toNat]+1)::List.replicate (d.length-(a.toNat+1)) 0,0<=x/\x<=1024:=fun x hx=>by
   rcases Qcm.1 hx with hx | hx
   ·exact j2 x (QfC hx)
   rcases Qbm.1 hx with rfl | hx
   ·omega
   have:=Qma hx;omega
  have hlen2:(d.take a.toNat++(d[a.toNat]+1)::List.replicate (d.length-(a.toNat+1)) 0).length=t.Vars.length:=by simp;omega
  rw [QBx a.toNat (szB n t) d _ _ (by omega) (QH hlt) (QH hls) h9.1 fun j y z hj=>q4 j y z (by omega)]at hnx
  simp only at hnx
  rw [hnx]at j4
  exact T2 ⟨fun s' e=>(by
   cases e
   refine⟨?_,hlen2,hd3,by show(r.length:Int)<most;omega,j4,by show r.length+(List.flatMap rl (_::_)).length=_;rw [<-hnx];omega⟩
   show(Qbl (szB n t) (d.take a.toNat++(d[a.toNat]+1)::List.replicate (d.length-(a.toNat+1)) 0)).length<(Qbl (szB n t) d).length
   rw [hnx,Qfg];omega),fun q e=>(by cases e)⟩
 rcases q with q | q
 ·exact T2 fun a ha=>fin _ hq a (by rcases ha with ha | ha<;>cases ha;exact .inl rfl)
 exact T2 fun a ha=>fin _ hq a (by rcases ha with ha | ha<;>cases ha;exact .inr rfl)
def chC (kind arcs:Int):List (List Int):=(QaF kind arcs).getD []
def Qdd (n:Qq)(m:List (List (Int×Int)))(task:Int):List Qh:=match idx n.Tasks task with
 | some t=>(binds (szB n t)).flatMap (Qer n m task (chC t.Join t.Ins.length) (chC t.Split t.Outs.length))
 | none=>[]
theorem QyH (n:Qq)(m:List (List (Int×Int)))(task most:Int)(h:Qal n)(hm:QJ (QJ fun _=>True) m)(hmost:most<=4294967296\/(Qdd n m task).length<=4294967296):Qeh n m task most=some ((Qdd n m task).take most.toNat):=by
 have key:Qj (Qeh n m task most) fun r=>r=(Qdd n m task).take most.toNat:=by
  unfold Qeh
  refine T1 (fun hc=>T2 ?_) fun hc=>?_
  ·simp only [Qcz,QN]at hc
   rcases hc with hc | hc | hc
   ·unfold Qdd idx
    rw [if_neg (by omega)];simp
   ·unfold Qdd idx
    rw [if_pos (by omega),List.getElem?_eq_none (by omega)];simp
   rw [show most.toNat=0 by omega,Qtm]
  simp only [QcP,Qah]at hc
  refine T0 (T4 (by omega) (by omega)).self fun e he=>?_
  refine T0 (QmU _ _).self fun x hx=>?_
  refine T0 (QmU _ _).self fun y hy=>?_
  refine T0 (P:=fun z=>z=(n,e)) (T2 rfl) fun z hz=>?_
  subst hz
  have hml:Qdd n m task=(binds (szB n e)).flatMap (Qer n m task x y):=by
   unfold Qdd chC
   rw [he.1]
   simp only
   rw [hx.1,hy.1];rfl
  refine T0 (QAa n m task most [] x y e h hm (by rw [<-hml];exact hmost) (by omega) hx.2 hy.2 he.2) fun r hr=>?_
  rw [hml]
  rcases r with r | r
  ·exact T2 (hr r (.inl rfl))
  exact T2 (hr r (.inr rfl))
 obtain⟨r,h1,h2⟩:=key
 rw [h1,h2]
end Go.Proofs
noncomputable section
namespace Go.Proofs
open Go Go.RowKit Go.Vm
theorem QDi {n:Qq}{m:List (List (Int×Int))}{task:Int}{ins outs:List (List Int)}{p:List Int}{o:Qh}:
  o∈Qer n m task ins outs p↔o.Task=task/\o.Vars=p/\o.Ins∈ins/\o.Outs∈outs/\∃b,Qa9 n m task p=some (0,b)/\Q7 b=some 0/\Q0 b o.Ins=some 0/\Qaj b o.Outs=some 0:=by
 unfold Qer
 cases hb:Qa9 n m task p with
 | none=>simp
 | some x=>
  obtain⟨c,b⟩:=x
  simp only
  by_cases hc:c=0/\Q7 b=some 0
  ·rw [if_pos hc]
   obtain⟨rfl,hg⟩:=hc
   simp only [List.mem_flatMap]
   constructor
   ·rintro ⟨e,he,h⟩
    by_cases ht:Q0 b e=some 0
    ·rw [if_pos ht]at h
     obtain⟨r,hr,rfl⟩:=QbF.1 h
     obtain⟨h1,h2⟩:=QpJ.1 hr
     exact⟨rfl,rfl,he,h1,b,rfl,hg,ht,Qak h2⟩
    rw [if_neg ht]at h;cases h
   rintro ⟨h1,h2,h3,h4,b',h5,h6,h7,h8⟩
   cases h5
   refine⟨o.Ins,h3,?_⟩
   rw [if_pos h7]
   refine QbF.2 ⟨o.Outs,QpJ.2 ⟨h4,QI h8⟩,?_⟩
   cases o
   simp only at h1 h2
   subst h1;subst h2;rfl
  rw [if_neg hc]
  constructor
  ·intro h;cases h
  rintro ⟨_,_,_,_,b',h5,h6,_⟩
  cases h5
  exact absurd ⟨rfl,h6⟩ hc
theorem QvS {n:Qq}{m:List (List (Int×Int))}{task:Int}{o:Qh}:
  o∈Qdd n m task↔o.Task=task/\∃e,idx n.Tasks task=some e/\inB (szB n e) o.Vars/\o.Ins∈chC e.Join e.Ins.length/\o.Outs∈chC e.Split e.Outs.length/\∃b,Qa9 n m task o.Vars=some (0,b)/\Q7 b=some 0/\Q0 b o.Ins=some 0/\Qaj b o.Outs=some 0:=by
 unfold Qdd
 cases he:idx n.Tasks task with
 | none=>simp
 | some e=>
  simp only [List.mem_flatMap,QDa,QDi,Option.some.injEq,exists_eq_left']
  constructor
  ·rintro ⟨p,h1,h2,rfl,h3,h4,h5⟩
   exact⟨h2,h1,h3,h4,h5⟩
  rintro ⟨h1,h2,h3,h4,h5⟩
  exact⟨o.Vars,h2,h1,rfl,h3,h4,h5⟩
theorem QyI (a b:List Int)(ha:a.length<=maxLen):QbD a b=some (decide (a=b)):=by
 have key:Qj (QbD a b) fun r=>r=decide (a=b):=by
  unfold QbD
  refine T1 (fun hc=>T2 ?_) fun hc=>?_
  ·rw [QK fun e=>by subst e;simp at hc]
  simp only [bne_eq_false_iff_eq]at hc
  have hc:a.length=b.length:=by omega
  refine T0 (Qj.up a.length (fun st=>st) (fun st=>a.take st.toNat=b.take st.toNat) (Q:=fun q:Unit⊕Unit=>(q=.inl ()->a≠b)/\(q=.inr ()->a=b)) rfl rfl (fun i st hi hn hJ=>?_)) (fun q hq=>?_)
  ·replace hi:st=(i:Int):=hi
   subst hi
   replace hJ:a.take (i:Int).toNat=b.take (i:Int).toNat:=hJ
   rw [Qff]at hJ
   show Qj (QbH a b i) _
   unfold QbH
   refine T1 (fun hc2=>?_) (fun hc2=>T2 (Qt ⟨fun e=>(by cases e),fun _=>?_⟩))
   ·simp only [QN]at hc2
    have i1:i<a.length:=by omega
    have i2:i<b.length:=by omega
    rw [Q1,QH i1,Ql,Q1,QH i2,Ql]
    refine T1 (fun hc3=>T2 (Qt ⟨fun _ e=>?_,fun e=>by cases e⟩)) fun hc3=>?_
    ·subst e;simp at hc3
    have hw:w64 ((i:Int)+1)=((i+1:Nat):Int):=Qx i1 ha
    refine T2 (QL ⟨i1,hw,?_⟩)
    show a.take (w64 ((i:Int)+1)).toNat=b.take (w64 ((i:Int)+1)).toNat
    rw [hw,Qff,QjA,QjA,hJ,QH i1,QH i2]
    simp only [bne_eq_false_iff_eq]at hc3
    rw [hc3]
   simp only [Qah]at hc2
   rwa [Qip (by omega),Qip (by omega)]at hJ
  rcases q with q | q
  ·exact T2 (QK (hq.1 rfl)).symm
  exact T2 (QI (hq.2 rfl)).symm
 obtain⟨r,h1,h2⟩:=key
 rw [h1,h2]
theorem Qtd (kind arcs:Int):QaF kind arcs=some (chC kind arcs)/\Qeq (chC kind arcs):=by
 obtain⟨r,h1,h2⟩:=QmU kind arcs
 unfold chC
 rw [h1]
 exact⟨rfl,h2⟩
theorem Qjj (kind arcs:Int)(row:List Int):Qez kind arcs row=some (decide (row∈chC kind arcs)):=by
 have key:Qj (Qez kind arcs row) fun r=>r=decide (row∈chC kind arcs):=by
  unfold Qez QcS QdC
  obtain⟨e,hx⟩:=Qtd kind arcs
  rw [e,Ql]
  generalize chC kind arcs=x at hx
  have hl:=hx.1
  have key:Qj ((Qw (fun st=>Qaw x row st) 0)) fun q:Int⊕Unit=>(∀k,q=.inl k->0<=k/\row∈x)/\(q=.inr ()->row ∉ x):=by
   refine Qj.up x.length (fun st=>st) (fun st=>row ∉ x.take st.toNat) rfl (by simp) (fun i st hi hn hJ=>?_)
   replace hi:st=(i:Int):=hi
   subst hi
   replace hJ:row ∉ x.take (i:Int).toNat:=hJ
   rw [Qff]at hJ
   show Qj (Qaw x row i) _
   unfold Qaw QjH
   refine T1 (fun hc=>?_) (fun hc=>T2 (Qt ⟨fun k e=>(by cases e),fun _=>?_⟩))
   ·simp only [QN]at hc
    have i1:i<x.length:=by omega
    have:=hx.2 _ (QaI i1)
    rw [Q1,QH i1,Ql,QyI _ _ (by unfold maxLen;omega)]
    simp only [Ql]
    refine T1 (fun hc2=>T2 (Qt ⟨fun k e=>(by cases e;exact⟨by omega,by rw [<-Qak hc2];exact QaI i1⟩),fun e=>by cases e⟩)) fun hc2=>?_
    have hw:w64 ((i:Int)+1)=((i+1:Nat):Int):=Qx i1 (by unfold maxLen;omega:x.length<=maxLen)
    refine T2 (QL ⟨i1,hw,?_⟩)
    show row ∉ x.take (w64 ((i:Int)+1)).toNat
    rw [hw,Qff,QjA,QH i1]
    simp only [Option.toList_some,Qcm,Qod,not_or]
    exact⟨hJ,fun e=>of_decide_eq_false hc2 e.symm⟩
   simp only [Qah]at hc
   rwa [Qip (by omega)]at hJ
  obtain⟨q,hq1,hq2⟩:=key
  rw [hq1]
  rcases q with q | q
  ·have:=hq2.1 q rfl
   refine T2 ?_
   rw [QI this.2]
   exact QI this.1
  refine T2 ?_
  rw [QK (hq2.2 rfl)];rfl
 obtain⟨r,h1,h2⟩:=key
 rw [h1,h2]
theorem QDj (l:List QF)(k m:Int)(hl:QJ Qa3 l):Qj (Qdn l k m) fun r=>r.2=true->0<=m/\∃z,QaH l k=some z/\m<z:=by
 unfold Qdn QaH
 refine T0 (Qjb l k hl).self fun x hx=>?_
 obtain⟨hxe,hx⟩:=hx
 refine T0 (P:=fun r=>r=false->x.1=true/\0<=m/\∃h:0<=k/\k<(x.2.sizes.length:Int),m<x.2.sizes[k.toNat]'(by omega)) ?_ fun r hr=>?_
 ·unfold QgX
  refine T1 (fun _=>T2 fun h=>by cases h) fun hc=>?_
  have hc:x.1=true:=by simpa using hc
  have h:=hx.2 hc
  have hk:k.toNat<x.2.sizes.length:=by omega
  have ei:idx x.2.sizes k=some x.2.sizes[k.toNat]:=Ql7 h.1.1 h.1.2
  refine T0 (P:=fun y=>y=true->0<=m/\m<x.2.sizes[k.toNat]) ?_ fun y hy=>T2 fun hf=>?_
  ·unfold Qce
   refine T0 (P:=fun y=>y=true->0<=m/\m<x.2.sizes[k.toNat]) ?_ fun y hy=>T2 hy
   unfold QeL
   refine T1 (fun hc2=>?_) fun _=>T2 fun h=>by cases h
   rw [h.2.1,ei,Ql]
   exact T2 fun h=>⟨by simpa using hc2,by simpa using h⟩
  have:=hy (by simpa using hf)
  exact⟨hc,this.1,h.1,this.2⟩
 unfold QdT
 refine T1 (fun _=>T2 fun h=>by cases h) fun hc=>?_
 obtain⟨h1,h2,h3,h4⟩:=hr hc
 have h:=hx.2 h1
 have fin:0<=m/\∃z,((Qdq l k).bind fun x5=>bif (!x5.1)then some 0 else(idx x5.2.sizes k).bind fun e7=>some e7)=some z/\m<z:=⟨h2,x.2.sizes[k.toNat]'(by omega),by
  rw [hxe,Ql,h1]
  simp only [Qfe,cond_false]
  rw [Ql7 h3.1 h3.2];rfl,h4⟩
 refine T0 (Qif x.2 (by omega)) fun _ _=>?_
 refine T1 (fun _=>?_) fun _=>T2 fun _=>fin
 exact T0 (Qif x.2 (by omega)) fun _ _=>T2 fun _=>fin
theorem QFl {l d:List Int}(h:d.length=l.length)(hk:∀(j:Nat) x s,d[j]? = some x->l[j]? = some s->0<=x/\x<s):inB l d:=by
 induction l generalizing d with
 | nil=>cases d with
  | nil=>trivial
  | cons x d=>simp at h
 | cons s r ih=>cases d with
  | nil=>simp at h
  | cons x d=>
   have:=hk 0 x s rfl rfl
   exact⟨this.1,.inr this.2,ih (by simpa using h) fun j y z h1 h2=>hk (j+1) y z (by simpa using h1) (by simpa using h2)⟩
theorem QFm (n:Qq)(task:Int)(vars:List Int)(h:Qal n):Qj (QdB n task vars) fun r=>r.2=0->∃e,idx n.Tasks task=some e/\e∈n.Tasks/\inB (szB n e) vars/\∀s∈szB n e,0<s:=by
 unfold QdB
 refine T1 (fun _=>T2 fun h=>by cases h) fun hc=>?_
 simp only [QcP,Qah]at hc
 refine T0 (T4 (by omega) (by omega)).self fun e he=>?_
 have hv:=(h.tk e he.2).1
 have ke:=h.k.2.2.1.2 e he.2
 refine T1 (fun _=>T2 fun h=>by cases h) fun hl=>?_
 simp only [bne_eq_false_iff_eq]at hl
 have hl:vars.length=e.Vars.length:=by omega
 refine T0 (T5 (by simp only [QA,QN];omega)) fun _ _=>?_
 refine T0 (Qj.up e.Vars.length (fun st=>st.1) (fun st=>st.2.length=e.Vars.length/\∀(j:Nat) x s,(j:Int)<st.1->vars[j]? = some x->(szB n e)[j]? = some s->0<=x/\x<s) (Q:=fun q:Unit⊕List Int=>∀out,q=.inr out->inB (szB n e) vars/\∀s∈szB n e,0<s) rfl ⟨by simp,fun j x s hj=>by simp at hj;omega⟩ (fun i st hi hn hJ=>?_)) (fun q hq=>?_)
 ·obtain⟨x,l⟩:=st
  replace hi:x=(i:Int):=hi
  subst hi
  obtain⟨hJ,hJ2⟩:l.length=e.Vars.length/\∀(j:Nat) x s,(j:Int)<(i:Int)->vars[j]? = some x->(szB n e)[j]? = some s->0<=x/\x<s:=hJ
  show Qj (Qc1 e vars n i l) _
  unfold Qc1
  refine T1 (fun hc=>?_) (fun hc=>T2 (Qt fun out _=>?_))
  ·simp only [QN]at hc
   have i1:i<e.Vars.length:=by omega
   have i2:i<vars.length:=by omega
   rw [Q1,QH i1,Ql,Q1,QH i2,Ql]
   refine T0 (QDj _ _ _ h.k.1) fun c hc3=>?_
   refine T1 (fun _=>T2 (Qt fun out e=>by cases e)) fun hc4=>?_
   obtain⟨h1,z,h2,h3⟩:=hc3 (by simpa using hc4)
   refine T0 (T4 (by omega) (by omega)) fun d _=>?_
   have hw:w64 ((i:Int)+1)=((i+1:Nat):Int):=Qx i1 (by unfold maxLen;omega:e.Vars.length<=maxLen)
   refine T2 (QL ⟨i1,hw,by simpa using hJ,fun j x s hj hx hs=>?_⟩)
   replace hj:(j:Int)<w64 ((i:Int)+1):=hj
   rw [hw]at hj
   by_cases cj:j=i
   ·subst cj
    rw [QH i2]at hx
    cases hx
    unfold szB at hs
    rw [Qa0,QH i1,Qgn,h2]at hs
    cases hs
    exact⟨h1,h3⟩
   exact hJ2 j x s (by omega) hx hs
  simp only [Qah]at hc
  have hb:∀(j:Nat) x s,vars[j]? = some x->(szB n e)[j]? = some s->0<=x/\x<s:=fun j x s hx hs=>hJ2 j x s (by have:=(Q2.1 hx).1;omega) hx hs
  refine⟨QFl (by simp [szB,hl]) hb,fun s hs=>?_⟩
  obtain⟨j,hj,rfl⟩:=Qv1.1 hs
  have hj2:j<vars.length:=by simp [szB]at hj;omega
  have:=hb j _ _ (QH hj2) (QH hj)
  omega
 rcases q with q | q
 ·exact T2 fun h=>by cases h
 exact T2 fun _=>⟨e,he.1,he.2,hq q rfl⟩
theorem QpW {n:Qq}{m:List (List (Int×Int))}{task:Int}{vars:List Int}{b:QO}(h:Qal n)(e:Qa9 n m task vars=some (0,b)):idx n.Tasks task=some b.task/\b.task∈n.Tasks/\b.net=n/\b.m=m/\(inB (szB n b.task) vars/\∀s∈szB n b.task,0<s)/\QdB n task vars=some (b.env,0):=by
 unfold Qa9 at e
 obtain⟨x,hx,e⟩:=Qb e
 obtain⟨x1,x2⟩:=x
 rcases Qp e with⟨c,e⟩|⟨c,e⟩
 ·simp only [Option.some.injEq,Prod.mk.injEq]at e
  simp only [e.1]at c;cases c
 simp only [bne_eq_false_iff_eq]at c
 subst c
 obtain⟨t,ht,h1,h2⟩:=QlC (QFm n task vars h) hx rfl
 rw [ht,Ql]at e
 simp only [Option.some.injEq,Prod.mk.injEq,true_and]at e
 subst e
 exact⟨ht,h1,rfl,rfl,h2,hx⟩
theorem QzN {n:Qq}{m:List (List (Int×Int))}{o:Qh}(h:Qal n)(hm:QJ (QJ fun _=>True) m)(ho:QaY n o):Qck n m o=some 0↔o∈Qdd n m o.Task:=by
 rw [QvS]
 constructor
 ·intro e
  unfold Qck at e
  obtain⟨x,hx,e⟩:=Qb e
  obtain⟨c,b⟩:=x
  have k3:∀g,QbB (c,b) o g=some 0->g=0/\o.Ins∈chC b.task.Join b.task.Ins.length/\o.Outs∈chC b.task.Split b.task.Outs.length/\Q0 b o.Ins=some 0/\Qaj b o.Outs=some 0:=fun g e=>by
   unfold QbB at e
   rcases Qp e with⟨c2,e⟩|⟨c2,e⟩
   ·simp only [Option.some.injEq]at e;rw [e]at c2;cases c2
   simp only [bne_eq_false_iff_eq]at c2
   obtain⟨y,hy,e⟩:=Qb e
   unfold QgZ at hy
   rw [Qjj,Ql]at hy
   unfold Qef at e
   rcases Qp e with⟨_,e⟩|⟨c3,e⟩
   ·cases e
   subst c3
   rcases Qp hy with⟨_,hy⟩|⟨c4,hy⟩
   ·cases hy
   rw [Qjj,Ql]at hy
   simp only [Qio,QN]at c4
   simp only [Option.some.injEq,Qio,QN]at hy
   obtain⟨z,hz,e⟩:=Qb e
   rcases Qp e with⟨c5,e⟩|⟨c5,e⟩
   ·simp only [Option.some.injEq]at e;rw [e]at c5;cases c5
   simp only [bne_eq_false_iff_eq]at c5
   subst c5
   obtain⟨w,hw,e⟩:=Qb e
   simp only [Option.some.injEq]at e
   subst e
   exact⟨c2,c4,hy,hz,hw⟩
  have fin:c=0->Q7 b=some 0->(o.Ins∈chC b.task.Join b.task.Ins.length/\o.Outs∈chC b.task.Split b.task.Outs.length/\Q0 b o.Ins=some 0/\Qaj b o.Outs=some 0)->o.Task=o.Task/\∃e,idx n.Tasks o.Task=some e/\inB (szB n e) o.Vars/\o.Ins∈chC e.Join e.Ins.length/\o.Outs∈chC e.Split e.Outs.length/\∃b,Qa9 n m o.Task o.Vars=some (0,b)/\Q7 b=some 0/\Q0 b o.Ins=some 0/\Qaj b o.Outs=some 0:=fun hc hg q=>by
   subst hc
   obtain⟨h1,_,_,_,h2,_⟩:=QpW h hx
   exact⟨rfl,b.task,h1,h2.1,q.1,q.2.1,b,hx,hg,q.2.2.1,q.2.2.2⟩
  rcases Qp e with⟨c1,e⟩|⟨c1,e⟩
  ·simp only [beq_iff_eq]at c1
   obtain⟨g,hg,e⟩:=Qb e
   obtain⟨rfl,q⟩:=k3 g e
   exact fin c1 hg q
  have e1:=(k3 _ e).1
  simp only [beq_eq_false_iff_ne]at c1
  exact absurd e1 c1
 rintro ⟨_,e,he,h1,h2,h3,b,hb,hg,ht,hv⟩
 obtain⟨k1,k2,_⟩:=QpW h hb
 rw [he]at k1;cases k1
 unfold Qck
 rw [hb,Ql]
 simp only [show((0:Int)==0)=true from rfl,cond_true,hg,Ql]
 unfold QbB
 simp only [show((0:Int) != 0)=false from rfl,cond_false]
 unfold QgZ
 rw [Qjj,Ql,QI h2]
 simp only [Qfe,cond_false]
 rw [Qjj,Ql,QI h3,Ql]
 unfold Qef
 simp only [Qfe,cond_false,ht,Ql,show((0:Int) != 0)=false from rfl,hv]
end Go.Proofs
noncomputable section
namespace Go.Proofs
open Go Go.RowKit Go.Vm
def InI (a:Int):Prop:=-9223372036854775808<=a/\a<=9223372036854775807
instance (a : Int):Decidable (InI a):=by unfold InI;infer_instance
theorem QpX (x:Int):IntKind.u64.wrap x=x % 18446744073709551616:=rfl
theorem QiW {x:Int}(h:0<=x/\x<18446744073709551616):IntKind.u64.wrap x=x:=by rw [QpX];omega
theorem QyJ {x:Int}(h:0<=x):QeB .u64 x 32=x / 4294967296:=by
 unfold QeB
 rw [show min ((32:Int).toNat) (IntKind.bits .u64)=32 from rfl,Int.fdiv_eq_ediv_of_nonneg _ (by decide)]
 rfl
theorem QCq {x:Int}(h:0<=x/\x<18446744073709551616):Qd6 .u64 x 4294967295=x % 4294967296:=by
 unfold Qd6
 have e:((BitVec.ofInt (IntKind.bits .u64) x &&& BitVec.ofInt (IntKind.bits .u64) 4294967295).toNat:Int)=x % 4294967296:=by
  rw [BitVec.toNat_and,BitVec.toNat_ofInt,BitVec.toNat_ofInt]
  have h1:(x % ((2:Nat) ^ (IntKind.bits .u64):Nat)).toNat=x.toNat:=by
   show(x % 18446744073709551616).toNat=x.toNat
   omega
  have h2:((4294967295:Int) % ((2:Nat) ^ (IntKind.bits .u64):Nat)).toNat=2 ^ 32-1:=by decide
  rw [h1,h2,Nat.and_two_pow_sub_one_eq_mod]
  omega
 rw [e]
 exact QiW (by omega)
theorem QyK {x y:Int}(hx:0<=x/\x<=4294967295)(hy:0<=y/\y<=4294967295):0<=x*y/\x*y<=18446744065119617025:=by
 refine⟨Int.mul_nonneg hx.1 hy.1,?_⟩
 have:=Int.mul_le_mul hx.2 hy.2 hy.1 (by decide)
 omega
theorem QCr {x y:Int}(hx:0<=x/\x<18446744073709551616)(hy:0<=y/\y<18446744073709551616):Qes x y=some (x*y / 18446744073709551616,x*y % 18446744073709551616):=by
 unfold Qes
 rw [QyJ hx.1,QyJ hy.1,QCq hx,QCq hy,QpX (x*y)]
 have e:x*y=(x / 4294967296)*(y / 4294967296)*18446744073709551616+((x / 4294967296)*(y % 4294967296)+(x % 4294967296)*(y / 4294967296))*4294967296+(x % 4294967296)*(y % 4294967296):=by
  have h1:x=(x / 4294967296)*4294967296+x % 4294967296:=by omega
  have h2:y=(y / 4294967296)*4294967296+y % 4294967296:=by omega
  generalize x / 4294967296=a at *
  generalize x % 4294967296=b at *
  generalize y / 4294967296=c at *
  generalize y % 4294967296=d at *
  subst h1 h2
  grind
 rw [e]
 have b1:=QyK (x:=x / 4294967296) (y:=y / 4294967296) (by omega) (by omega)
 have b2:=QyK (x:=x / 4294967296) (y:=y % 4294967296) (by omega) (by omega)
 have b3:=QyK (x:=x % 4294967296) (y:=y / 4294967296) (by omega) (by omega)
 have b4:=QyK (x:=x % 4294967296) (y:=y % 4294967296) (by omega) (by omega)
 generalize x / 4294967296*(y / 4294967296)=p at *
 generalize x / 4294967296*(y % 4294967296)=q at *
 generalize x % 4294967296*(y / 4294967296)=r at *
 generalize x % 4294967296*(y % 4294967296)=s at *
 rw [QiW (x:=s) (by omega),QyJ (x:=s) (by omega),QiW (x:=q) (by omega),QiW (x:=q+s / 4294967296) (by omega),QyJ (x:=q+s / 4294967296) (by omega),QCq (x:=q+s / 4294967296) (by omega),QiW (x:=r) (by omega),QiW (x:=p) (by omega),
  QiW (x:=(q+s / 4294967296) % 4294967296+r) (by omega),QyJ (x:=(q+s / 4294967296) % 4294967296+r) (by omega),QiW (x:=p+(q+s / 4294967296) / 4294967296) (by omega),QiW (by omega)]
 congr 2
 omega
def QeZ (a:Int):Int:=if a<0 then -a else a
theorem QzO {a:Int}(h:InI a):Qhh a=some (QeZ a):=by
 unfold Qhh QeZ InI at *
 by_cases c:a<0
 ·rw [QI c,cond_true,if_pos c,QpX,QpX];congr 1;omega
 rw [QK c,cond_false,if_neg c,QpX];congr 1;omega
theorem QBC (a b:Int):QeZ a*QeZ b=QeZ (a*b):=by
 unfold QeZ
 by_cases c1:a<0<;>by_cases c2:b<0
 ·rw [if_pos c1,if_pos c2,if_neg (by have:=Int.mul_pos_of_neg_of_neg c1 c2;omega),Int.neg_mul_neg]
 ·rw [if_pos c1,if_neg c2]
  by_cases c3:b=0
  ·subst c3;simp
  rw [if_pos (Int.mul_neg_of_neg_of_pos c1 (by omega)),Int.neg_mul]
 ·rw [if_neg c1,if_pos c2]
  by_cases c3:a=0
  ·subst c3;simp
  rw [if_pos (Int.mul_neg_of_pos_of_neg (by omega) c2),Int.mul_neg]
 rw [if_neg c1,if_neg c2,if_neg (by have:=Int.mul_nonneg (show 0<=a by omega) (show 0<=b by omega);omega)]
def Qn8 (a b:Int):Int×Int:=if InI (a*b)then(a*b,0)else(0,6)
theorem QvT {a b:Int}(ha:InI a)(hb:InI b):QfT a b=some (Qn8 a b):=by
 unfold QfT
 have h1:0<=QeZ a/\QeZ a<=9223372036854775808:=by unfold QeZ InI at *;split<;>omega
 have h2:0<=QeZ b/\QeZ b<=9223372036854775808:=by unfold QeZ InI at *;split<;>omega
 have h3:0<=QeZ a*QeZ b:=Int.mul_nonneg h1.1 h2.1
 rw [QzO ha,Ql,QzO hb,Ql,QCr (by omega) (by omega),Ql]
 rw [QBC]at h3 ⊢
 have sg:(decide (a<0) != decide (b<0))=true\/(decide (a<0) != decide (b<0))=false:=by cases (decide (a<0) != decide (b<0))<;>simp
 have hsg:(decide (a<0) != decide (b<0))=true->a*b<=0:=fun h=>by
  by_cases c1:a<0<;>by_cases c2:b<0<;>simp [c1,c2]at h
  ·exact Int.mul_nonpos_of_nonpos_of_nonneg (by omega) (by omega)
  exact Int.mul_nonpos_of_nonneg_of_nonpos (by omega) (by omega)
 have hsg2:(decide (a<0) != decide (b<0))=false->0<=a*b:=fun h=>by
  by_cases c1:a<0<;>by_cases c2:b<0<;>simp [c1,c2]at h
  ·have:=Int.mul_pos_of_neg_of_neg c1 c2;omega
  exact Int.mul_nonneg (by omega) (by omega)
 have hw:InI (a*b)->w64 (a*b)=a*b:=fun h=>Q4 h
 generalize hm:a*b=m at *
 unfold Qn8
 rw [hm]
 unfold QeZ at h3 ⊢
 rcases sg with c | c
 ·rw [c,cond_true]
  have:=hsg c
  unfold Qdg
  rw [hm,QpX]
  simp only
  by_cases ci:InI m
  ·rw [if_pos ci,hw ci]
   unfold InI at ci
   rw [QK (by split<;>omega),QK (by split<;>omega)];rfl
  rw [if_neg ci]
  have:decide (0<(if m<0 then -m else m) / 18446744073709551616)=true\/decide ((9223372036854775807+1) % 18446744073709551616<(if m<0 then -m else m) % 18446744073709551616)=true:=by
   unfold InI at ci
   rw [QN,QN]
   split<;>omega
  rcases this with h | h
  ·rw [h];rfl
  rw [h,Bool.or_true];rfl
 rw [c,cond_false]
 have:=hsg2 c
 unfold Qdg
 rw [hm]
 simp only
 by_cases ci:InI m
 ·rw [if_pos ci,hw ci]
  unfold InI at ci
  rw [QK (by split<;>omega),QK (by split<;>omega)];rfl
 rw [if_neg ci]
 have:decide (0<(if m<0 then -m else m) / 18446744073709551616)=true\/decide ((9223372036854775807:Int)<(if m<0 then -m else m) % 18446744073709551616)=true:=by
  unfold InI at ci
  rw [QN,QN]
  split<;>omega
 rcases this with h | h
 ·rw [h];rfl
 rw [h,Bool.or_true];rfl
def QAY (a b:Int):Int×Int:=if InI (a+b)then(a+b,0)else(0,6)
theorem QEg {a b:Int}(ha:InI a)(hb:InI b):Qiw a b=some (QAY a b):=by
 unfold Qiw QAY
 by_cases ci:InI (a+b)
 ·rw [if_pos ci,Q4 ci]
  have:((decide (a<0)==decide (b<0))&&(decide (a+b<0) != decide (a<0)))=false:=by
   by_cases c1:a<0<;>by_cases c2:b<0<;>simp [c1,c2]<;>omega
  rw [this];rfl
 rw [if_neg ci]
 have hw:w64 (a+b)=if a+b<0 then a+b+18446744073709551616 else a+b-18446744073709551616:=by
  rw [Qxw];unfold wrap64 InI at *;split<;>omega
 have:((decide (a<0)==decide (b<0))&&(decide (w64 (a+b)<0) != decide (a<0)))=true:=by
  rw [hw]
  unfold InI at *
  by_cases c1:a<0<;>by_cases c2:b<0<;>by_cases c3:a+b<0<;>simp [c1,c2,c3]<;>omega
 rw [this];rfl
theorem QFn {a b:Int}(ha:InI a)(hb:InI b):QbR 3 a b=some (Qn8 a b):=by
 unfold QbR
 rw [show((3:Int)==1)=false from rfl,cond_false,show((3:Int)==2)=false from rfl,cond_false,show((3:Int)==3)=true from rfl,cond_true,QvT ha hb];rfl
theorem QFo {a b:Int}(ha:InI a)(hb:InI b):QbR 1 a b=some (QAY a b):=by
 unfold QbR
 rw [show((1:Int)==1)=true from rfl,cond_true,QEg ha hb];rfl
end Go.Proofs
noncomputable section
namespace Go.Proofs
open Go Go.RowKit Go.Vm
theorem QEN {a b:Int}(ha:InI a)(hb:InI b):QdH 1 a b=some (QAY a b):=by
 unfold QdH
 show(Ql5 a b).bind _=_
 unfold Ql5 QAY
 have hc:(bif (decide (0<b))then((decide ((w64 (9223372036854775807-b))<a))||((decide (b<0))&&(decide (a<(w64 ((-9223372036854775808)-b))))))else((decide (b<0))&&(decide (a<(w64 ((-9223372036854775808)-b))))))=decide (¬InI (a+b)):=by
  unfold InI at *
  by_cases b1:0<b
  ·rw [QI b1,cond_true,QK (by omega:¬b<0),Qoa,Bool.or_false,Q4 (by omega)]
   exact decide_eq_decide.2 (by omega)
  rw [QK b1,cond_false]
  by_cases b2:b<0
  ·rw [QI b2,QpF,Q4 (by omega)]
   exact decide_eq_decide.2 (by omega)
  rw [QK b2,Qoa,eq_comm,Qah]
  omega
 rw [hc]
 by_cases c:InI (a+b)
 ·rw [QK (by simpa using c),cond_false,Q4 c,if_pos c];rfl
 rw [QI c,cond_true,if_neg c];rfl
theorem QDk {x y a b:Int}(hx:0<=x/\x<=9223372036854775807)(hy:0<y/\y<=9223372036854775807)(ha:x=QeZ a)(hb:y=QeZ b)(ha0:a≠0):(QfW x a b y).bind (fun x16=>QgQ x16.1 x16.2)=some (Qn8 a b):=by
 have hm:x*y=QeZ (a*b):=by rw [ha,hb,QBC]
 unfold QfW
 rw [Qor (by simpa using (by omega:y≠0)),Ql,Int.tdiv_eq_ediv_of_nonneg (by decide)]
 have d1:0<=9223372036854775807 / y:=Int.ediv_nonneg (by decide) (by omega)
 have d2:9223372036854775807 / y<=9223372036854775807:=Int.ediv_le_self _ (by decide)
 rw [Q4 (by omega)]
 have le1:x<=9223372036854775807 / y↔x*y<=9223372036854775807:=Int.le_ediv_iff_mul_le hy.1
 by_cases c:x<=9223372036854775807 / y
 ·have:=le1.1 c
  have hin:InI (a*b):=by unfold InI QeZ at *;split at hm<;>omega
  rw [QI c,cond_true,Q4 hin]
  unfold Qn8;rw [if_pos hin];rfl
 have:=fun h=>c (le1.2 h)
 rw [QK c,cond_false]
 unfold QsV
 have sg:(bif (decide (a<0))then((decide (0<b))||((decide (0<a))&&(decide (b<0))))else((decide (0<a))&&(decide (b<0))))=decide (a*b<0):=by
  have hb0:b≠0:=by intro h;subst h;unfold QeZ at hb;simp at hb;omega
  by_cases c1:a<0<;>by_cases c2:b<0
  ·have:=Int.mul_pos_of_neg_of_neg c1 c2
   rw [QI c1,QK (by omega:¬0<b),QK (by omega:¬0<a),QK (by omega:¬a*b<0)];rfl
  ·have:=Int.mul_neg_of_neg_of_pos c1 (by omega:0<b)
   rw [QI c1,QI (by omega:0<b),QI this];rfl
  ·have:=Int.mul_neg_of_pos_of_neg (by omega:0<a) c2
   rw [QK c1,QI (by omega:0<a),QI c2,QI this];rfl
  have:=Int.mul_nonneg (by omega:0<=a) (by omega:0<=b)
  rw [QK c1,QK c2,QK (by omega:¬a*b<0),Bool.and_false];rfl
 rw [sg]
 by_cases c3:a*b<0
 ·rw [QI c3,cond_true,Qor (by simpa using (by omega:y≠0)),Ql,Q4 (by omega:-9223372036854775808<=y-1/\y-1<=9223372036854775807),Q4 (by omega:-9223372036854775808<=9223372036854775807-(y-1)/\9223372036854775807-(y-1)<=9223372036854775807),Q4 (by omega:-9223372036854775808<=x-1/\x-1<=9223372036854775807),Int.tdiv_eq_ediv_of_nonneg (by omega)]
  have d3:0<=(9223372036854775807-(y-1)) / y:=Int.ediv_nonneg (by omega) (by omega)
  have d4:(9223372036854775807-(y-1)) / y<=9223372036854775807-(y-1):=Int.ediv_le_self _ (by omega)
  rw [Q4 (by omega)]
  have le2:x-1<=(9223372036854775807-(y-1)) / y↔(x-1)*y<=9223372036854775807-(y-1):=Int.le_ediv_iff_mul_le hy.1
  have e3:(x-1)*y=x*y-y:=by rw [Int.sub_mul,Int.one_mul]
  rw [e3]at le2
  unfold QeZ at hm
  rw [if_pos c3]at hm
  unfold Qn8
  by_cases c4:x-1<=(9223372036854775807-(y-1)) / y
  ·have h4:=le2.1 c4
   have e4:x*y=9223372036854775808:=by omega
   rw [QI c4,cond_true,e4,if_pos (by unfold InI;omega),show a*b=-9223372036854775808 by omega]
   rfl
  have h4:=fun h=>c4 (le2.2 h)
  rw [QK c4,cond_false,if_neg (by unfold InI;omega)]
  rfl
 rw [QK c3,cond_false]
 unfold QeZ at hm
 rw [if_neg c3]at hm
 unfold Qn8
 rw [if_neg (by unfold InI;omega)]
 rfl
theorem QEO {a b:Int}(ha:InI a)(hb:InI b):QdH 3 a b=some (Qn8 a b):=by
 unfold QdH
 show(Qon a b).bind _=_
 unfold Qon
 by_cases z:a=0\/b=0
 ·rw [show((a==0)||(b==0))=true by simpa using z,cond_true]
  have:a*b=0:=Int.mul_eq_zero.2 z
  unfold Qn8
  rw [this];rfl
 rw [show((a==0)||(b==0))=false by simpa using z,cond_false]
 simp only [not_or]at z
 by_cases m:a=-9223372036854775808\/b=-9223372036854775808
 ·rw [show((a==(-9223372036854775808))||(b==(-9223372036854775808)))=true by simpa using m,cond_true]
  by_cases o:a=1\/b=1
  ·rw [show((a==1)||(b==1))=true by simpa using o,cond_true]
   have hin:InI (a*b):=by
    rcases o with rfl | rfl
    ·rwa [Int.one_mul]
    rwa [Int.mul_one]
   rw [Q4 hin]
   unfold Qn8;rw [if_pos hin];rfl
  rw [show((a==1)||(b==1))=false by simpa using o,cond_false]
  simp only [not_or]at o
  have hin:¬InI (a*b):=by
   unfold InI
   rcases m with rfl | rfl
   ·omega
   omega
  unfold Qn8;rw [if_neg hin];rfl
 rw [show((a==(-9223372036854775808))||(b==(-9223372036854775808)))=false by simpa using m,cond_false]
 simp only [not_or]at m
 unfold InI at ha hb
 have k4:∀x,0<=x/\x<=9223372036854775807->x=QeZ a->(Qh7 b a x).bind (fun x16=>QgQ x16.1 x16.2)=some (Qn8 a b):=fun x hx he=>by
  unfold Qh7
  by_cases c:b<0
  ·rw [QI c,cond_true,Q4 (by omega)]
   exact QDk hx (by omega) he (by unfold QeZ;rw [if_pos c];omega) z.1
  rw [QK c,cond_false]
  exact QDk hx (by omega) he (by unfold QeZ;rw [if_neg c]) z.1
 by_cases c:a<0
 ·rw [QI c,cond_true,Q4 (by omega)]
  exact k4 _ (by omega) (by unfold QeZ;rw [if_pos c];omega)
 rw [QK c,cond_false]
 exact k4 _ (by omega) (by unfold QeZ;rw [if_neg c])
theorem eqO {o p:Option (List (List Int))}(h:decide (o=p)=true):o=p:=Qak h
set_option maxRecDepth 100000 in
theorem Qrc (kind arcs:Int):Qdp kind arcs=QaF kind arcs:=by
 by_cases hg:((decide (arcs<0))||((decide (16<arcs))||((kind==3)&&(decide (4<arcs)))))=true
 ·unfold QaF Qdp
  rw [hg,cond_true,cond_true]
 have hg':=hg
 simp only [Qcz,QA,QN,beq_iff_eq,not_or,not_and]at hg
 obtain⟨h0,h1,h2⟩:=hg
 by_cases e1:kind=1
 ·subst e1
  rcases QAV h0 h1 with rfl | rfl | rfl | rfl | rfl | rfl | rfl | rfl | rfl | rfl | rfl | rfl | rfl | rfl | rfl | rfl | rfl<;>exact eqO (by kernel_rfl)
 by_cases e2:kind=2
 ·subst e2
  rcases QAV h0 h1 with rfl | rfl | rfl | rfl | rfl | rfl | rfl | rfl | rfl | rfl | rfl | rfl | rfl | rfl | rfl | rfl | rfl<;>exact eqO (by kernel_rfl)
 by_cases e3:kind=3
 ·subst e3
  have h3:=h2 rfl
  have:arcs=0\/arcs=1\/arcs=2\/arcs=3\/arcs=4:=by omega
  rcases this with rfl | rfl | rfl | rfl | rfl<;>exact eqO (by kernel_rfl)
 have f1:(kind==1)=false:=by simpa using e1
 have f2:(kind==2)=false:=by simpa using e2
 have f3:(kind==3)=false:=by simpa using e3
 have t0:∃l,Qw (fun st=>QkH arcs st.1 st.2) (0,([]:List Int))=some l:=by
  rcases QAV h0 h1 with rfl | rfl | rfl | rfl | rfl | rfl | rfl | rfl | rfl | rfl | rfl | rfl | rfl | rfl | rfl | rfl | rfl<;>exact Option.isSome_iff_exists.1 (by kernel_rfl)
 obtain⟨l,hl⟩:=t0
 rw [Qjx]at hg'
 unfold QaF Qdp
 rw [hg',cond_false,cond_false,hl,Ql]
 unfold Qjt
 rw [f1,f2,f3]
 rfl
theorem QEP {a b:Int}(ha:InI a)(hb:InI b):QdH 2 a b=QbR 2 a b:=by
 unfold QdH QbR
 show(Ql6 a b).bind _=(Qdf a b).bind _
 unfold Ql6 Qdf
 have hc:(bif (decide (b<0))then((decide ((w64 (9223372036854775807+b))<a))||((decide (0<b))&&(decide (a<(w64 ((-9223372036854775808)+b))))))else((decide (0<b))&&(decide (a<(w64 ((-9223372036854775808)+b))))))=decide (¬InI (a-b)):=by
  unfold InI at *
  by_cases b1:b<0
  ·rw [QI b1,cond_true,QK (by omega:¬0<b),Qoa,Bool.or_false,Q4 (by omega)]
   exact decide_eq_decide.2 (by omega)
  rw [QK b1,cond_false]
  by_cases b2:0<b
  ·rw [QI b2,QpF,Q4 (by omega)]
   exact decide_eq_decide.2 (by omega)
  rw [QK b2,Qoa,eq_comm,Qah]
  omega
 have hd:(((decide (a<0)) != (decide (b<0)))&&((decide ((w64 (a-b))<0)) != (decide (a<0))))=decide (¬InI (a-b)):=by
  have e:w64 (a-b)=wrap64 (a-b):=Qxw _
  rw [e]
  unfold wrap64 InI at *
  apply Qth.2
  simp only [QA,bne_iff_ne,ne_eq,decide_eq_decide,QN]
  omega
 rw [hc,hd]
 by_cases c:InI (a-b)
 ·rw [QK (by simpa using c),cond_false,cond_false];rfl
 rw [QI c,cond_true,cond_true];rfl
theorem QDl {op a b:Int}(ha:InI a)(hb:InI b):QdH op a b=QbR op a b:=by
 by_cases h1:op=1
 ·subst h1;rw [QEN ha hb,QFo ha hb]
 by_cases h2:op=2
 ·subst h2;exact QEP ha hb
 by_cases h3:op=3
 ·subst h3;rw [QEO ha hb,QFn ha hb]
 unfold QdH QbR
 have b1:(op==1)=false:=by simpa using h1
 have b2:(op==2)=false:=by simpa using h2
 have b3:(op==3)=false:=by simpa using h3
 have y:∀c:Bool,Qd9 c=some (bif c then 1 else 0)/\QbX c=some (bif c then 1 else 0,0):=fun c=>by cases c<;>exact⟨rfl,rfl⟩
 rw [b1,b2,b3]
 simp only [cond_false]
 by_cases h4:op=4
 ·subst h4
  unfold QgR QcE
  rw [show((4:Int)==4)=true from rfl,cond_true,cond_true,cond_true]
  by_cases c:b=0
  ·subst c;rfl
  rw [show(b==0)=false by simpa using c,cond_false,cond_false,Qor (by simpa using c)]
  cases ((a==(-9223372036854775808))&&(b==(-1)))<;>rfl
 by_cases h5:op=5
 ·subst h5
  unfold QgR QcE
  rw [show((5:Int)==4)=false from rfl,show((5:Int)==5)=true from rfl,cond_false,cond_true,cond_true,cond_false,cond_false]
  by_cases c:b=0
  ·subst c;rfl
  rw [show(b==0)=false by simpa using c,cond_false,cond_false,Qor (by simpa using c)]
  cases ((a==(-9223372036854775808))&&(b==(-1)))<;>rfl
 have b4:(op==4)=false:=by simpa using h4
 have b5:(op==5)=false:=by simpa using h5
 rw [b4,b5]
 unfold QgR Qut Qmq Quu Qmr Qng Qkt Qnh Qku
 simp only [cond_false,fun c=>(y c).1,fun c=>(y c).2,Ql]
 cases (op==6)<;>cases (op==7)<;>cases (op==8)<;>cases (op==9)<;>cases (op==10)<;>cases (op==11)<;>cases (a != 0)<;>rfl
theorem QAh (x:Int):InI (w64 x):=by
 have e:w64 x=wrap64 x:=Qxw _
 rw [e];unfold wrap64 InI;omega
theorem QEs {op a b:Int}(ha:InI a)(hb:InI b){r:Int×Int}(h:QbR op a b=some r):InI r.1:=by
 have z:InI 0:=by unfold InI;omega
 have o:InI 1:=by unfold InI;omega
 have y:∀c:Bool,∃n,QbX c=some (n,0)/\InI n:=fun c=>by cases c;exact⟨0,rfl,z⟩;exact⟨1,rfl,o⟩
 have yy:∀(c:Bool) {r:Int×Int},((QbX c).bind fun x=>some (x.1,x.2))=some r->InI r.1:=fun c r h=>by
  obtain⟨n,e,hn⟩:=y c
  rw [e]at h;cases h;exact hn
 have tm:InI (Int.tmod a b):=by
  by_cases hb0:b=0
  ·subst hb0;rw [Int.tmod_zero];exact ha
  unfold InI at *
  have h2:(Int.tmod a b).natAbs<b.natAbs:=by rw [Int.natAbs_tmod];exact Nat.mod_lt _ (by omega)
  omega
 have q:∀{r:Int×Int×Int},QcE a b=some r->InI r.1/\InI r.2.1:=fun {r} h=>by
  unfold QcE at h
  rcases Qp h with⟨_,h⟩|⟨_,h⟩
  ·cases h;exact⟨z,z⟩
  rcases Qp h with⟨_,h⟩|⟨_,h⟩
  ·cases h;exact⟨z,z⟩
  obtain⟨_,_,h⟩:=Qb h
  obtain⟨_,_,h⟩:=Qb h
  cases h;exact⟨QAh _,tm⟩
 unfold QbR at h
 rcases Qp h with⟨_,h⟩|⟨_,h⟩
 ·obtain⟨x,hx,h⟩:=Qb h
  cases h
  unfold Qiw at hx
  rcases Qp hx with⟨_,h⟩|⟨_,h⟩<;>cases h
  ·exact z
  exact QAh _
 rcases Qp h with⟨_,h⟩|⟨_,h⟩
 ·obtain⟨x,hx,h⟩:=Qb h
  cases h
  unfold Qdf at hx
  rcases Qp hx with⟨_,h⟩|⟨_,h⟩<;>cases h
  ·exact z
  exact QAh _
 rcases Qp h with⟨_,h⟩|⟨_,h⟩
 ·obtain⟨x,hx,h⟩:=Qb h
  cases h
  rw [QvT ha hb]at hx
  unfold Qn8 at hx
  split at hx<;>cases hx
  ·assumption
  exact z
 rcases Qp h with⟨_,h⟩|⟨_,h⟩
 ·obtain⟨x,hx,h⟩:=Qb h
  cases h;exact(q hx).1
 rcases Qp h with⟨_,h⟩|⟨_,h⟩
 ·obtain⟨x,hx,h⟩:=Qb h
  cases h;exact(q hx).2
 iterate 4
  rcases Qp h with⟨_,h⟩|⟨_,h⟩
  ·exact yy _ h
 rcases Qp h with⟨_,h⟩|⟨_,h⟩
 ·obtain⟨x,hx,h⟩:=Qb h
  cases h
  unfold Qng at hx
  rcases Qp hx with⟨_,h⟩|⟨_,h⟩<;>exact yy _ h
 rcases Qp h with⟨_,h⟩|⟨_,h⟩
 ·obtain⟨x,hx,h⟩:=Qb h
  cases h
  unfold Qnh at hx
  rcases Qp hx with⟨_,h⟩|⟨_,h⟩<;>exact yy _ h
 cases h;exact z
end Go.Proofs
noncomputable section
namespace Go.Proofs
open Go Go.RowKit Go.Vm
theorem QDm {α:Type}{l:List α}(p:α->Bool){body:Int->Option (Int⊕(Int⊕Unit))}(hs:∀(i:Nat) x,i<l.length->l[i]? = some x->body (i:Int)=some (bif p x then .inr (.inl (i:Int))else .inl ((i+1:Nat):Int)))(hf:body (l.length:Int)=some (.inr (.inr ()))):
  Qw body 0=some ((Qlx (fun _ x=>p x) 0 l).elim (Sum.inr ()) fun i=>Sum.inl (i:Int)):=
 QC4 (fun i:Nat=>(i:Int)) (fun _ x=>p x) (fun i=>Sum.inl (i:Int)) (Sum.inr ()) hs hf rfl
theorem QEt {α:Type}(p:α->Bool)(l:List α):decide (0<=(Qlx (fun _ x=>p x) 0 l).elim (-1:Int) fun i=>(i:Int))=l.any p:=by
 cases h:Qlx (fun _ x=>p x) 0 l with
 | none=>
  have:=QCg h
  symm
  rw [show decide ((0:Int)<=(none:Option Nat).elim (-1:Int) fun i=>(i:Int))=false from rfl,List.any_eq_false]
  intro x hx
  obtain⟨i,hi⟩:=Qmd.1 hx
  simpa using this i x hi
 | some n=>
  obtain⟨i,x,h1,h2,h3⟩:=QCf h
  symm
  rw [show decide ((0:Int)<=(some n).elim (-1:Int) fun i=>(i:Int))=true from QI (Int.natCast_nonneg n),Ql9]
  exact⟨x,Qae h2,h3⟩
theorem QBD {α:Type}(f:α->Bool):∀(l:List α) (k:Nat) (t:Bool),Qhb (fun (_:Nat) (t:Bool) x=>(bif t then .inl (f x)else .inr t:Bool⊕Bool)) (fun t=>t) k t l=(t&&l.all f)
 | [],_,t=>by simp [Qhb]
 | x::l,k,t=>by
  rw [Qhb]
  cases t with
  | true=>rw [cond_true,Sum.elim_inl,QBD f l];simp
  | false=>rfl
theorem QCs (n:Nat)(e:Qk):Qel n e=Qcr n e:=by
 have:∀n,Qel n=Qcr n:=fun n=>by
  induction n with
  | zero=>rfl
  | succ n ih=>
   funext e
   show Qny (Qel n) e=Qk1 (Qcr n) e
   rw [ih];rfl
 rw [this]
theorem QDn (n:Nat)(e:Qk):QeU n e=Qc2 n e:=by
 have:∀n,QeU n=Qc2 n:=fun n=>by
  induction n with
  | zero=>rfl
  | succ n ih=>
   funext e
   show Qn2 (QeU n) e=Qmf (Qc2 n) e
   rw [ih];rfl
 rw [this]
theorem QCt {e:Qk}{rec_:Qk->Int->Option Bool}{v:Int}{p:Qk->Bool}(hl:e.Kids.length<=maxLen)(h:∀k∈e.Kids,rec_ k v=some (p k))(ok:Bool):Qci e rec_ v ok=some (ok&&e.Kids.all p):=by
 unfold Qci
 rw [QmS (body:=fun st=>QdO e rec_ v st.1 st.2) (l:=e.Kids) (fun i (t:Bool)=>(t,(i:Int))) (fun _ t x=>bif t then .inl (p x)else .inr t) (fun t=>t) (fun i t x hi hx=>by
  show QdO e rec_ v t (i:Int)=_
  unfold QdO
  rw [QI (by omega),QpF]
  cases t with
  | false=>rfl
  | true=>rw [cond_true,Q1,hx,Ql,h x (Qae hx),Ql,Qx hi hl];rfl) (fun t=>by
  show QdO e rec_ v t (e.Kids.length:Int)=_
  unfold QdO
  rw [QK (by omega),Qoa];rfl) ok (s0:=(ok,0)) rfl,QBD]
 rfl
theorem QDo {l:List Qk}{rec_:Qk->Int->Option Bool}{v:Int}{p:Qk->Bool}(hl:l.length<=maxLen)(h:∀k∈l,rec_ k v=some (p k)):Qac rec_ l v=some (!(l.all p)):=by
 unfold Qac QbA
 rw [QDm (l:=l) (fun k=>!p k) (fun i x hi hx=>by
  show Q3 l rec_ v i=_
  unfold Q3 Qk3
  rw [QI (by omega),cond_true,Q1,hx,Ql,h x (Qae hx),Ql,Ql,Qx hi hl]
  cases p x<;>rfl) (by
  show Q3 l rec_ v l.length=_
  unfold Q3
  rw [QK (by omega),cond_false])]
 have e:(!(l.all p))=l.any fun k=>!p k:=by rw [List.all_eq_not_any_not,Bool.not_not]
 rw [e,<-QEt]
 cases Qlx (fun _ k=>!p k) 0 l<;>rfl
theorem QyL : ∀(n:Nat) (e:Qk) (v:Int),QcO e->SizeOf.sizeOf e<=n->Qem n e v=QaP n e v
 | 0,e,_,_,h=>absurd e.pos (by omega)
 | n+1,e,v,he,h=>by
  have hkl:=(QcZ he).1
  have tot:∀k∈e.Kids,QaP n k v=some ((QaP n k v).getD false):=fun k hk=>by
   obtain⟨r,hr,_⟩:=QmN n k v ((QcZ he).2 k hk) (by have:=QoL hk;omega)
   rw [hr];rfl
  have tot2:∀k∈e.Kids,Qem n k v=some ((QaP n k v).getD false):=fun k hk=>by
   rw [QyL n k v ((QcZ he).2 k hk) (by have:=QoL hk;omega)];exact tot k hk
  show Qj9 (Qem n) e v=QhX (QaP n) e v
  have k3:=QCt hkl tot2
  generalize hp:(fun k=>(QaP n k v).getD false)=p at *
  have c3:Qac (QaP n) e.Kids v=some (!(e.Kids.all p)):=QDo hkl fun k hk=>by rw [<-hp];exact tot k hk
  unfold Qj9 QiS QqJ Qge QhX Qnb QgY QoZ Qks QlS QfS QfR
  rw [c3]
  simp only [k3,Ql]
  by_cases h1:e.Kind=1
  ·simp only [h1,show((1:Int)==1)=true from rfl,show((1:Int)==2)=false from rfl,show((1:Int)==5)=false from rfl,cond_true,cond_false,Ql,Qoa]
   by_cases c:(e.Kids.length:Int)=0
   ·rw [show((e.Kids.length:Int)==0)=true by simpa using c,show((e.Kids.length:Int) != 0)=false by simpa using c];simp
   rw [show((e.Kids.length:Int)==0)=false by simpa using c,show((e.Kids.length:Int) != 0)=true by simpa using c];rfl
  by_cases h2:e.Kind=2
  ·simp only [h2,show((2:Int)==1)=false from rfl,show((2:Int)==2)=true from rfl,show((2:Int)==5)=false from rfl,cond_true,cond_false,Ql,QpF]
   by_cases c:(e.Kids.length:Int)=0
   ·rw [show((e.Kids.length:Int)==0)=true by simpa using c,show((e.Kids.length:Int) != 0)=false by simpa using c]
    by_cases d:0<=e.Num
    ·by_cases f:e.Num<v
     ·rw [QI d,QI f,QK (by omega:¬e.Num<0),QK (by omega:¬v<=e.Num)];simp
     rw [QI d,QK f,QK (by omega:¬e.Num<0),QI (by omega:v<=e.Num)];simp
    rw [QK d,QI (by omega:e.Num<0)];simp
   rw [show((e.Kids.length:Int)==0)=false by simpa using c,show((e.Kids.length:Int) != 0)=true by simpa using c];simp
  have b1:(e.Kind==1)=false:=by simpa using h1
  have b2:(e.Kind==2)=false:=by simpa using h2
  simp only [b1,b2,cond_false,Qoa]
  have two:∀(m:Int) (q:Bool),((bif ((e.Kids.length:Int) != m)then some false else(bif q then some false else some (!(!(e.Kids.all p))))):Option Bool)=some ((((e.Kids.length:Int)==m)&&!q)&&e.Kids.all p):=fun m q=>by
   by_cases c:(e.Kids.length:Int)=m
   ·rw [show((e.Kids.length:Int)==m)=true by simpa using c,show((e.Kids.length:Int) != m)=false by simpa using c];cases q<;>simp
   rw [show((e.Kids.length:Int)==m)=false by simpa using c,show((e.Kids.length:Int) != m)=true by simpa using c];rfl
  have neg:((e.Kids.length:Int) != -1)=true:=by simp
  by_cases h3:e.Kind=3
  ·have:=two 1 false
   simp only [h3,show((3:Int)==3)=true from rfl,show((3:Int)==5)=false from rfl,cond_true,cond_false,Ql]at this ⊢
   rw [this];simp
  by_cases h4:e.Kind=4
  ·have:=two 1 false
   simp only [h4,show((4:Int)==3)=false from rfl,show((4:Int)==4)=true from rfl,show((4:Int)==5)=false from rfl,cond_true,cond_false,Ql]at this ⊢
   rw [this];simp
  have b3:(e.Kind==3)=false:=by simpa using h3
  have b4:(e.Kind==4)=false:=by simpa using h4
  simp only [b3,b4,cond_false]
  by_cases h5:e.Kind=5
  ·have:=two 2 (!((decide (1<=e.Num))&&(decide (e.Num<=11))))
   simp only [h5,show((5:Int)==5)=true from rfl,cond_true,cond_false,Ql]at this ⊢
   rw [this]
   cases ((e.Kids.length:Int)==2)<;>simp
  have b5:(e.Kind==5)=false:=by simpa using h5
  simp only [b5,cond_false]
  by_cases h6:e.Kind=6
  ·have:=two 3 false
   simp only [h6,show((6:Int)==6)=true from rfl,cond_true,cond_false,Ql]at this ⊢
   rw [this];simp
  have b6:(e.Kind==6)=false:=by simpa using h6
  simp only [b6,cond_false,Ql,neg,cond_true,Qoa]
theorem QCu (e:Qk)(v:Int)(h:QcO e):Qmp e v=Qe7 e v:=by
 unfold Qmp Qe7 QqK Qnd QoY Qna QqH Qoj Qo0 Qnc
 rw [QCs,QDn,QyL _ e v h (QcR _)]
 rfl
inductive RE : Qk->Prop where
 | mk (e:Qk):InI e.Num->(∀k∈e.Kids,RE k)->RE e
theorem QzP : ∀(n:Nat) (v:List Int) (e:Qk),POk v.length e->RE e->(∀x∈v,InI x)->SizeOf.sizeOf e<=n->∃r,Qaa n v e=some r/\QeV n e v=some r/\InI r.1
 | 0,_,e,_,_,_,h=>absurd e.pos (by omega)
 | n+1,v,e,he,hr,hv,h=>by
  cases he with
  | mk _ hk h2 h3 h5 h6 hp=>
  cases hr with
  | mk _ hnum hkr=>
  have z:InI 0:=by unfold InI;omega
  have o:InI 1:=by unfold InI;omega
  have sub:∀(j:Nat) (hj:j<e.Kids.length),∃r,Qaa n v (e.Kids[j])=some r/\QeV n (e.Kids[j]) v=some r/\InI r.1:=fun j hj=>
   QzP n v _ (hp _ (QaI hj)) (hkr _ (QaI hj)) hv (by have:=QoL (QaI hj);omega)
  have kid:∀(j:Nat) (hj:j<e.Kids.length),idx e.Kids (j:Int)=some e.Kids[j]:=fun j hj=>by rw [Q1,QH hj]
  show ∃r,Qfz (Qaa n) v e=some r/\Qlt (QeV n) e v=some r/\InI r.1
  unfold Qfz Qlt QcD Qb7
  by_cases k1:e.Kind=1
  ·rw [k1]
   exact⟨(e.Num,0),rfl,rfl,hnum⟩
  by_cases k2:e.Kind=2
  ·have hh:=h2 k2
   have hx:idx v e.Num=some (v[e.Num.toNat]'(by omega)):=Ql7 hh.1 hh.2
   rw [k2]
   refine⟨(v[e.Num.toNat]'(by omega),0),?_,?_,hv _ (QaI _)⟩
   ·show(QdU e v)=_
    unfold QdU Qgp
    rw [hx];rfl
   show(idx v e.Num).bind _=_
   rw [hx];rfl
  have b1:(e.Kind==1)=false:=by simpa using k1
  have b2:(e.Kind==2)=false:=by simpa using k2
  have l1:1<=e.Kids.length:=by
   by_cases k3:e.Kind=3\/e.Kind=4
   ·have:=h3 k3;omega
   by_cases k5:e.Kind=5
   ·have:=h5 k5;omega
   have:=h6 (by omega);omega
  obtain⟨a,a1,a2,a3⟩:=sub 0 (by omega)
  have kid0:idx e.Kids 0=some (e.Kids[0]'(by omega)):=kid 0 (by omega)
  rw [b1,b2]
  simp only [cond_false,kid0,Ql,a2]
  by_cases k34:e.Kind=3\/e.Kind=4
  ·have ed:((bif e.Kind==3 then bif e.Kind==3 then some (.inr (.inr (.inl v)))else bif e.Kind==5 then some (.inr (.inr (.inr (.inl v))))else some (.inr (.inr (.inr (.inr v))))else bif e.Kind==4 then some (.inr (.inr (.inl v)))else bif e.Kind==5 then some (.inr (.inr (.inr (.inl v))))else some (.inr (.inr (.inr (.inr v))))):Option ((List Int)⊕((List Int)⊕((List Int)⊕((List Int)⊕(List Int))))))=some (.inr (.inr (.inl v))):=by
    rcases k34 with k | k<;>rw [k]<;>rfl
   rw [ed]
   show ∃r,Qb8 (Qaa n) e v=some r/\_
   unfold Qb8 Qfy
   rw [kid0,Ql,a1,Ql]
   cases hz:(a.2 != 0)with
   | true=>exact⟨(0,a.2),rfl,rfl,z⟩
   | false=>
    simp only [cond_false]
    rcases k34 with k | k
    ·rw [k]
     simp only [show((3:Int)==3)=true from rfl,cond_true]
     unfold Qnj
     rw [QDl z a3]
     have hd:=Qho 2 0 a.1
     obtain⟨d,hd,_⟩:=hd
     rw [hd]
     exact⟨d,rfl,rfl,QEs z a3 hd⟩
    rw [k]
    simp only [show((4:Int)==3)=false from rfl,show((4:Int)==4)=true from rfl,cond_true,cond_false]
    by_cases c:a.1=0
    ·rw [c];exact⟨(1,0),rfl,rfl,o⟩
    have:(a.1==0)=false:=by simpa using c
    rw [this]
    refine⟨(0,0),?_,rfl,z⟩
    show(((QbX (a.1==0)).bind _).bind _).bind _=_
    rw [this];rfl
  have n3:¬e.Kind=3:=fun k=>k34 (.inl k)
  have n4:¬e.Kind=4:=fun k=>k34 (.inr k)
  have b3:(e.Kind==3)=false:=by simpa using n3
  have b4:(e.Kind==4)=false:=by simpa using n4
  rw [b3,b4]
  simp only [cond_false]
  by_cases k5:e.Kind=5
  ·have hl:=h5 k5
   obtain⟨b,c1,c2,c3⟩:=sub 1 (by omega)
   have kid1:idx e.Kids 1=some (e.Kids[1]'(by omega)):=kid 1 (by omega)
   rw [k5]
   show ∃r,QdV (Qaa n) e v=some r/\_
   unfold QdV Qk4 Qdh
   simp only [kid0,kid1,Ql,a1,c1,c2,show((5:Int)==6)=false from rfl,cond_false]
   cases hz:(a.2 != 0)with
   | true=>exact⟨(0,a.2),rfl,rfl,z⟩
   | false=>
    simp only [cond_false]
    cases hq:((e.Num==10)&&(a.1==0))with
    | true=>
     have:a.1=0:=by simp at hq;exact hq.2
     rw [this];exact⟨(0,0),rfl,rfl,z⟩
    | false=>
     simp only [cond_false]
     have rest:∃r,((bif (b.2 != 0)then some (0,b.2)else(QbR e.Num a.1 b.1).bind fun x16=>some (x16.1,x16.2)):Option (Int×Int))=some r/\((bif (b.2 != 0)then some (0,b.2)else(QdH e.Num a.1 b.1).bind fun x16=>some (x16.1,x16.2)):Option (Int×Int))=some r/\InI r.1:=by
      rw [QDl a3 c3]
      obtain⟨d,hd,_⟩:=Qho e.Num a.1 b.1
      rw [hd]
      cases (b.2 != 0)with
      | true=>exact⟨(0,b.2),rfl,rfl,z⟩
      | false=>exact⟨d,rfl,rfl,QEs a3 c3 hd⟩
     obtain⟨r,r1,r2,r3⟩:=rest
     cases h11:(e.Num==11)with
     | false=>
      simp only [cond_false,Qoa]
      exact⟨r,by rw [r1];rfl,r2,r3⟩
     | true=>
      simp only [cond_true,QpF]
      cases ha:(a.1 != 0)with
      | true=>
       refine⟨(1,0),?_,rfl,o⟩
       simp only [cond_true]
       show(((QbX (a.1 != 0)).bind _).bind _).bind _=_
       rw [ha];rfl
      | false=>
       simp only [cond_false]
       exact⟨r,by rw [r1];rfl,r2,r3⟩
  have k6:e.Kind=6:=by omega
  have hl:=h6 k6
  obtain⟨b,c1,c2,c3⟩:=sub 1 (by omega)
  obtain⟨d,d1,d2,d3⟩:=sub 2 (by omega)
  have kid1:idx e.Kids 1=some (e.Kids[1]'(by omega)):=kid 1 (by omega)
  have kid2:idx e.Kids 2=some (e.Kids[2]'(by omega)):=kid 2 (by omega)
  rw [k6]
  show ∃r,QdW (Qaa n) e v=some r/\_
  unfold QdW QhB
  simp only [kid0,kid1,kid2,Ql,a1,c1,c2,d1,d2,show((6:Int)==6)=true from rfl,cond_true]
  cases hz:(a.2 != 0)with
  | true=>exact⟨(0,a.2),rfl,rfl,z⟩
  | false=>
   simp only [cond_false]
   cases (a.1 != 0)with
   | true=>exact⟨b,rfl,rfl,c3⟩
   | false=>exact⟨d,rfl,rfl,d3⟩
theorem QzQ {e:Qk}{v:List Int}(h:QcO e)(hr:RE e)(hv:∀x∈v,InI x):∃r,Qhi e v=some r/\QkG e v=some r/\InI r.1:=by
 unfold Qhi QkG QjE QqL
 rw [QCu e _ h]
 obtain⟨b,hb,hb2⟩:=QlB e v.length h
 rw [hb,Ql,Ql]
 cases b with
 | false=>exact⟨(0,1),rfl,rfl,by unfold InI;decide⟩
 | true=>
  obtain⟨r,r1,r2,r3⟩:=QzP _ v e (hb2 rfl) hr hv (QcR _)
  rw [r1,r2]
  exact⟨r,rfl,rfl,r3⟩
end Go.Proofs
noncomputable section
namespace Go.Proofs
open Go Go.RowKit Go.Vm
theorem Qrd {σ τ ρ π:Type}{b1:σ->Option (σ⊕ρ)}{b2:τ->Option (τ⊕π)}(n:Nat)(I:Nat->σ->τ->Prop)(Post:ρ->π->Prop)
  (step:∀i s t,i<=n->I i s t->(i<n/\∃s' t',b1 s=some (.inl s')/\b2 t=some (.inl t')/\I (i+1) s' t')\/∃r q,b1 s=some (.inr r)/\b2 t=some (.inr q)/\Post r q):∀s t,I 0 s t->∃r q,Qw b1 s=some r/\Qw b2 t=some q/\Post r q:=by
 have key:∀k i s t,i+k=n->I i s t->∃r q,Qw b1 s=some r/\Qw b2 t=some q/\Post r q:=by
  intro k
  induction k with
  | zero=>
   intro i s t hk hI
   rcases step i s t (by omega) hI with⟨h,_⟩|⟨r,q,h1,h2,h3⟩
   ·omega
   exact⟨r,q,by rw [QaR,h1];rfl,by rw [QaR,h2];rfl,h3⟩
  | succ k ih=>
   intro i s t hk hI
   rcases step i s t (by omega) hI with⟨_,s',t',h1,h2,h3⟩|⟨r,q,h1,h2,h3⟩
   ·obtain⟨r,q,e1,e2,e3⟩:=ih (i+1) s' t' (by omega) h3
    exact⟨r,q,by rw [QaR,h1];exact e1,by rw [QaR,h2];exact e2,e3⟩
   exact⟨r,q,by rw [QaR,h1];rfl,by rw [QaR,h2];rfl,h3⟩
 exact fun s t h=>key n 0 s t (by omega) h
theorem QvU {a b:ByteArray}:Qb6 a b=true↔a=b:=by
 unfold Qb6
 rw [beq_iff_eq,ByteArray.toList_eq,ByteArray.toList_eq]
 exact⟨fun h=>ByteArray.ext (Array.toList_inj.1 h),fun h=>by rw [h]⟩
theorem QAZ (a b:ByteArray):Qb6 a b=decide (a=b):=by
 by_cases h:a=b
 ·rw [QI h];exact QvU.2 h
 rw [QK h,<-Qjx,QvU];exact h
theorem QzR (s:ByteArray):QkF s=QdA s:=by
 have e0:decide ((s.size:Int)<1)=Qb6 s (⟨#[]⟩:ByteArray):=by
  rw [QAZ]
  apply decide_eq_decide.2
  constructor
  ·intro h
   obtain⟨a⟩:=s
   have:a=#[]:=QBG (by have h:((a.size:Nat):Int)<1:=h;omega)
   rw [this]
  intro h;subst h;decide
 have g1:Qnw s=Qit s:=by
  unfold Qnw Qit
  rw [e0];rfl
 have l4:∀i,Qg5 s i=QdI s i:=fun i=>by
  unfold Qg5 QdI QrS
  cases h:sidx s i with
  | none=>rfl
  | some c=>
   simp only [Ql]
   congr 1
   unfold QmC Qh6 Qed QoX Qj7 Qf4
   simp only [Ql]
   generalize (bif (decide (97<=c))then((decide (c<=122))||((decide (65<=c))&&(decide (c<=90))))else((decide (65<=c))&&(decide (c<=90))))=q
   cases q with
   | true=>rfl
   | false=>
    by_cases h1:c<48
    ·rw [QI h1,QK (by omega:¬48<=c)];rfl
    rw [QK h1,QI (by omega:48<=c)]
    by_cases h2:57<c
    ·rw [QI h2,QK (by omega:¬c<=57)];rfl
    rw [QK h2,QI (by omega:c<=57)];rfl
 unfold QkF QdA Qj8 Qf5
 rw [g1,show(fun st=>Qg5 s st)=fun st=>QdI s st from funext l4]
 rfl
theorem Qzw {α:Type}(f:α->Bool):∀(l:List α) (k:Nat) (t:Bool),Qhb (fun (_:Nat) (t:Bool) x=>(.inl (t&&f x):Bool⊕Bool)) (fun t=>t) k t l=(t&&l.all f)
 | [],_,t=>by simp [Qhb]
 | x::l,k,t=>by rw [Qhb,Sum.elim_inl,Qzw f l];simp [Bool.and_assoc]
def Had (m:List (ByteArray×Bool))(l:List ByteArray):Prop:=∀k,(QX m k).getD false=l.any fun e=>Qb6 e k
theorem Had.add {m:List (ByteArray×Bool)}{l:List ByteArray}(h:Had m l)(x:ByteArray):Had (QcJ ltS m x true) (l++[x]):=fun k=>by
 rw [QmR,List.any_append,<-h k]
 by_cases e:k=x
 ·subst e
  rw [if_pos rfl]
  have:Qb6 k k=true:=QvU.2 rfl
  simp [this]
 rw [if_neg e]
 have:Qb6 x k=false:=by rw [QAZ];exact QK fun h=>e h.symm
 simp [this]
theorem QCv {l:List ByteArray}(h:QJ Qfn l):∃b,QfQ l=some b/\Qmn l=some b:=by
 have nm:∀x∈l,∃b,QdA x=some b:=fun x hx=>(Qhc x (h.2 x hx)).tot
 obtain⟨r,q,e1,e2,e3⟩:=Qrd (b1:=fun st:Int×List (ByteArray×Bool)=>Qcu l st.1 st.2) (b2:=fun st:Int=>QeS l st) l.length (fun i s t=>s.1=(i:Int)/\t=(i:Int)/\Had s.2 (l.take i)) (fun r q=>r=q) (fun i s t hi hI=>by
  obtain⟨a,m⟩:=s
  obtain⟨h1,h2,h3⟩:=hI
  replace h1:a=(i:Int):=h1
  subst h1 h2
  replace h3:Had m (l.take i):=h3
  show(i<l.length/\∃s' t',Qcu l i m=_/\QeS l i=_/\_)\/∃r q,Qcu l i m=_/\QeS l i=_/\_
  unfold Qcu QeS QlG Qfw
  by_cases hlt:i<l.length
  ·have hx:l[i]? = some l[i]:=QH hlt
   obtain⟨b,hb⟩:=nm _ (QaI hlt)
   have il:=QmS (body:=fun st:Bool×Int=>QdM i l st.1 st.2) (l:=l.take i) (fun k (t:Bool)=>(t,(k:Int))) (fun _ t e=>.inl (t&&!Qb6 e l[i])) (fun t=>t) (fun k t x hk hkx=>by
    rw [Qe0]at hk
    have hkx:l[k]? = some x:=by rw [QbU,if_pos (by omega)]at hkx;exact hkx
    show QdM i l t (k:Int)=_
    unfold QdM Qqz QiP
    rw [QI (by omega),cond_true,Q1,hkx,Q1,hx,Qx hlt h.1 |> fun _=>Qx (show k<l.length by omega) h.1]
    cases t<;>rfl) (fun t=>by
    show QdM i l t ((l.take i).length:Int)=_
    unfold QdM
    rw [Qe0,QK (by omega)];rfl) b (s0:=(b,0)) rfl
   rw [Qzw]at il
   rw [QI (show(i:Int)<(l.length:Int) by omega),cond_true,cond_true,Q1,hx,Ql,Ql,QzR,hb,Ql,Ql,il,Ql,Qx hlt h.1]
   unfold QmH
   rw [h3 l[i],Qx hlt h.1]
   have ea:(l.take i).all (fun e=>!Qb6 e l[i])=!((l.take i).any fun e=>Qb6 e l[i]):=by rw [List.not_any_eq_all_not]
   rw [ea]
   cases b with
   | false=>right;exact⟨_,_,rfl,rfl,rfl⟩
   | true=>
    cases hq:(l.take i).any fun e=>Qb6 e l[i]with
    | true=>right;exact⟨_,_,rfl,rfl,rfl⟩
    | false=>
     left
     refine⟨hlt,_,_,rfl,rfl,rfl,rfl,?_⟩
     rw [QjA,hx]
     exact h3.add _
  right
  rw [QK (show ¬(i:Int)<(l.length:Int) by omega)]
  exact⟨_,_,rfl,rfl,rfl⟩) (0,[]) 0 ⟨rfl,rfl,fun k=>rfl⟩
 subst e3
 unfold QfQ Qmn
 rw [e1,e2]
 rcases r with r | r
 ·exact⟨false,rfl,rfl⟩
 exact⟨true,rfl,rfl⟩
structure QvV (c:QF) (s:Int):Prop where
 b:1<=s/\s<=1024
 i:c.Kind=1->c.Lo<=c.Hi/\s=c.Hi-c.Lo+1
def IC (c:QF):Prop:=InI c.Lo/\InI c.Hi
theorem QEQ {lo hi:Int}(hl:InI lo)(hh:InI hi):QgL lo hi=some (if hi<lo then 0 else if hi-lo<1024 then hi-lo+1 else 1025):=by
 unfold QgL
 by_cases h:hi<lo
 ·rw [QI h,if_pos h];rfl
 rw [QK h,if_neg h,cond_false]
 have e:IntKind.u64.wrap (IntKind.u64.wrap hi-IntKind.u64.wrap lo)=hi-lo:=by
  rw [QpX,QpX,QpX];unfold InI at *;omega
 rw [e]
 unfold min2
 by_cases h2:hi-lo<1024
 ·rw [if_pos h2]
  by_cases h3:1024<hi-lo
  ·omega
  rw [if_neg h3,Q4 (n:=hi-lo) (by omega),Q4 (by omega)]
 rw [if_neg h2]
 split
 ·rfl
 have:hi-lo=1024:=by omega
 rw [this];rfl
def QkQ (n:Int):Bool:=decide (n<1)||decide (1024<n)
theorem QBE {n:Int}(h:QkQ n=false):1<=n/\n<=1024:=by
 unfold QkQ at h
 simp only [QcP,Qah]at h
 omega
theorem QFM {c:QF}{out:List Int}{i:Nat}(hc:IC c)(hN:QJ Qfn c.Names)(ho:out.length=i):∃n n',QgM c out=some n/\(∀ok,QiR c out (i:Int) ok=Qbe ok out i n')/\((n'=n/\(QkQ n=false->QvV c n))\/(QkQ n=true/\QkQ n'=true)):=by
 unfold QgM QiR
 have z:QkQ 0=true:=rfl
 by_cases k1:c.Kind=1
 ·rw [show(c.Kind==1)=true by simpa using k1]
  simp only [cond_true]
  rw [QEQ hc.1 hc.2,Ql]
  obtain⟨c1,c2⟩:=hc
  unfold InI at c1 c2
  by_cases a1:c.Hi<c.Lo
  ·rw [if_pos a1,QK (by omega:¬c.Lo<=c.Hi),Qoa]
   exact⟨0,0,rfl,fun _=>rfl,.inr ⟨z,z⟩⟩
  rw [if_neg a1,QI (by omega:c.Lo<=c.Hi),QpF]
  by_cases a2:0<=c.Lo\/c.Hi<c.Lo+1024
  ·have hcond:(decide (0<=c.Lo)||decide (c.Hi<w64 (c.Lo+1024)))=true:=by
    by_cases a3:0<=c.Lo
    ·rw [QI a3,Bool.true_or]
    rw [Q4 (by omega),QI (by omega:c.Hi<c.Lo+1024),Bool.or_true]
   rw [hcond]
   simp only [cond_true]
   have e1:w64 (c.Hi-c.Lo)=c.Hi-c.Lo:=Q4 (by omega)
   rw [e1]
   unfold min2
   by_cases a4:c.Hi-c.Lo<1024
   ·rw [if_pos a4,if_neg (by omega:¬1024<c.Hi-c.Lo),Q4 (by omega)]
    exact⟨_,_,rfl,fun _=>rfl,.inl ⟨rfl,fun hb=>⟨QBE hb,fun _=>⟨by omega,rfl⟩⟩⟩⟩
   rw [if_neg a4]
   refine⟨_,_,rfl,fun _=>rfl,.inr ⟨rfl,?_⟩⟩
   have:(if (1024:Int)<c.Hi-c.Lo then 1024 else c.Hi-c.Lo)=1024:=by split<;>omega
   rw [this];rfl
  rw [QK (by omega:¬0<=c.Lo),Bool.false_or,Q4 (by omega),QK (by omega:¬c.Hi<c.Lo+1024),if_neg (by omega)]
  exact⟨_,_,rfl,fun _=>rfl,.inr ⟨rfl,z⟩⟩
 rw [show(c.Kind==1)=false by simpa using k1]
 simp only [cond_false]
 have nk:∀n,QkQ n=false->QvV c n:=fun n hb=>⟨QBE hb,fun h=>absurd h k1⟩
 by_cases k2:c.Kind=2
 ·rw [show(c.Kind==2)=true by simpa using k2]
  simp only [cond_true]
  obtain⟨b,b1,b2⟩:=QCv hN
  rw [b1,b2]
  cases b with
  | true=>exact⟨_,_,rfl,fun _=>rfl,.inl ⟨rfl,nk _⟩⟩
  | false=>exact⟨0,0,rfl,fun _=>rfl,.inr ⟨z,z⟩⟩
 rw [show(c.Kind==2)=false by simpa using k2]
 simp only [cond_false]
 by_cases k3:c.Kind=3
 ·rw [show(c.Kind==3)=true by simpa using k3]
  simp only [cond_true]
  have hcond:((decide (0<=min2 c.First c.Then))&&(decide (max2 c.First c.Then<(out.length:Int))))=((decide (0<=c.First))&&((decide (c.First<(i:Int)))&&((decide (0<=c.Then))&&(decide (c.Then<(i:Int)))))):=by
   apply Qth.2
   simp only [QA,QN,Qly,Qlz,ho]
   omega
  rw [hcond]
  cases hq:((decide (0<=c.First))&&((decide (c.First<(i:Int)))&&((decide (0<=c.Then))&&(decide (c.Then<(i:Int))))))with
  | false=>exact⟨0,0,rfl,fun _=>rfl,.inr ⟨z,z⟩⟩
  | true=>
   simp only [QA,QN]at hq
   simp only [cond_true]
   rw [Ql7 hq.1 (by omega),Ql7 hq.2.2.1 (by omega)]
   exact⟨_,_,rfl,fun _=>rfl,.inl ⟨rfl,nk _⟩⟩
 rw [show(c.Kind==3)=false by simpa using k3]
 exact⟨0,0,rfl,fun _=>rfl,.inr ⟨z,z⟩⟩
theorem QCw {l:List QF}(h:QJ Qa3 l)(hc:∀c∈l,IC c):∃x b,QeP l=some (x,b)/\Qmo l=some x/\(b=false->x=[])/\(b=true->x.length=l.length/\∀(j:Nat) c s,l[j]? = some c->x[j]? = some s->QvV c s):=by
 unfold QeP Qmo
 by_cases h32:32<l.length
 ·rw [QI (show(32:Int)<(l.length:Int) by omega)]
  exact⟨[],false,rfl,rfl,fun _=>rfl,fun h=>by cases h⟩
 rw [QK (show ¬(32:Int)<(l.length:Int) by omega),cond_false,cond_false]
 have hm:(2048:Nat)<=maxLen:=by decide
 obtain⟨r,q,e1,e2,e3⟩:=Qrd (b1:=fun st:Int×List (ByteArray×Bool)×List Int=>Qcv l st.1 st.2.1 st.2.2) (b2:=fun st:Int×List Int=>QeT l st.1 st.2) l.length
  (fun i s t=>s.1=(i:Int)/\t=((i:Int),s.2.2)/\Had s.2.1 ((l.take i).map QF.Name)/\s.2.2.length=i/\∀(j:Nat) c z,l[j]? = some c->s.2.2[j]? = some z->QvV c z)
  (fun r q=>r=q/\∀x,r=.inr x->x.length=l.length/\∀(j:Nat) c z,l[j]? = some c->x[j]? = some z->QvV c z) (fun i s t hi hI=>by
  obtain⟨a,m,out⟩:=s
  obtain⟨h1,h2,h3,h4,h5⟩:=hI
  replace h1:a=(i:Int):=h1
  subst h1 h2
  replace h3:Had m ((l.take i).map QF.Name):=h3
  replace h4:out.length=i:=h4
  replace h5:∀(j:Nat) c z,l[j]? = some c->out[j]? = some z->QvV c z:=h5
  show(i<l.length/\∃s' t',Qcv l i m out=_/\QeT l i out=_/\_)\/∃r q,Qcv l i m out=_/\QeT l i out=_/\_
  unfold Qcv QeT QlH Qfx
  by_cases hlt:i<l.length
  ·have hx:l[i]? = some l[i]:=QH hlt
   have hmem:=QaI hlt
   obtain⟨b,hb,_⟩:=Qhc l[i].Name (h.2 _ hmem).1
   have il:=QmS (body:=fun st:Bool×Int=>QdN i l l[i] st.1 st.2) (l:=l.take i) (fun k (t:Bool)=>(t,(k:Int))) (fun _ t e=>.inl (t&&!Qb6 e.Name l[i].Name)) (fun t=>t) (fun k t x hk hkx=>by
    rw [Qe0]at hk
    have hkx:l[k]? = some x:=by rw [QbU,if_pos (by omega)]at hkx;exact hkx
    show QdN i l l[i] t (k:Int)=_
    unfold QdN QqC QiQ
    rw [QI (by omega),cond_true,Q1,hkx,Qx (show k<l.length by omega) h.1]
    cases t<;>rfl) (fun t=>by
    show QdN i l l[i] t ((l.take i).length:Int)=_
    unfold QdN
    rw [Qe0,QK (by omega)];rfl) b (s0:=(b,0)) rfl
   rw [Qzw]at il
   rw [QI (show(i:Int)<(l.length:Int) by omega),cond_true,cond_true,Q1,hx,Ql,Ql,QzR,hb]
   have ea:(l.take i).all (fun e=>!Qb6 e.Name l[i].Name)=!(((l.take i).map QF.Name).any fun e=>Qb6 e l[i].Name):=by rw [List.any_map,List.not_any_eq_all_not];rfl
   generalize hq:((l.take i).map QF.Name).any (fun e=>Qb6 e l[i].Name)=had
   obtain⟨n,n',s1,s2,s3⟩:=QFM (i:=i) (hc _ hmem) (h.2 _ hmem).2.2.2.2.1 h4
   rw [s1]
   simp only [Ql]
   rw [il]
   simp only [Ql]
   rw [h3 l[i].Name,ea,hq,s2]
   unfold Qbe
   have hbs:∀n,((decide (n<1))||(decide (1024<n)))=QkQ n:=fun _=>rfl
   rw [hbs]
   have ebad:((bif !b then some true else bif had then some true else bif decide (n<1)then some true else some (decide (1024<n))):Option Bool)=some (!b||(had||QkQ n)):=by
    unfold QkQ
    cases b<;>cases had<;>cases decide (n<1)<;>rfl
   rw [ebad,Ql]
   have stop:∀n n':Int,QkQ n'=true\/(b&&!had)=false->(!b||(had||QkQ n))=true->∃(r:Unit⊕List Int) (q:Unit⊕List Int),((bif (!b||(had||QkQ n))then some (.inr (.inl ()))else(chk (decide (out.length+[n].length<=4294967296))).bind fun _=>some (.inl (w64 ((i:Int)+1),QcJ ltS m l[i].Name true,out++[n]))):Option ((Int×List (ByteArray×Bool)×List Int)⊕(Unit⊕List Int)))=some (.inr r)/\((bif (!(b&&!had)||QkQ n')then some (.inr (.inl ()))else(chk (decide (out.length+[n'].length<=4294967296))).bind fun _=>some (.inl (w64 ((i:Int)+1),out++[n']))):Option ((Int×List Int)⊕(Unit⊕List Int)))=some (.inr q)/\r=q/\∀x,r=.inr x->x.length=l.length/\∀(j:Nat) c z,l[j]? = some c->x[j]? = some z->QvV c z:=fun n n' h1 h2=>by
    refine⟨.inl (),.inl (),by rw [h2];rfl,?_,rfl,fun x hx=>by cases hx⟩
    rcases h1 with h1 | h1<;>rw [h1]<;>simp
   by_cases hg:b=true/\had=false/\QkQ n=false
   ·obtain⟨g1,g2,g3⟩:=hg
    rcases s3 with⟨s4,s5⟩|⟨s4,_⟩
    ·subst s4 g1 g2
     rw [g3]
     simp only [Qfe,Bool.not_false,Bool.and_true,Bool.or_false,cond_false]
     left
     rw [QgA (by simp;omega),Ql,Ql]
     refine⟨hlt,_,_,rfl,rfl,Qx hlt h.1,by rw [Qx hlt h.1],?_,by simp;omega,fun j c z hj hz=>?_⟩
     ·rw [QjA,hx,List.map_append]
      exact h3.add _
     replace hz:(out++[n'])[j]? = some z:=hz
     by_cases hjl:j<out.length
     ·rw [Qbw hjl]at hz
      exact h5 j c z hj hz
     rw [QcA (by omega)]at hz
     have:j=i:=by
      have:=(Q2.1 hz).1
      simp at this;omega
     subst this
     rw [hx]at hj
     cases hj
     rw [h4,Nat.sub_self]at hz
     cases hz
     exact s5 g3
    rw [g3]at s4;cases s4
   right
   refine stop n n' ?_ ?_
   ·rcases s3 with⟨s4,_⟩|⟨_,s4⟩
    ·subst s4
     cases b<;>cases had<;>cases hb2:QkQ n'<;>simp_all
    exact .inl s4
   cases b<;>cases had<;>cases hb2:QkQ n<;>simp_all
  right
  rw [QK (show ¬(i:Int)<(l.length:Int) by omega)]
  exact⟨_,_,rfl,rfl,rfl,fun x hx=>by cases hx;exact⟨by show out.length=_;omega,h5⟩⟩) (0,[],[]) (0,[]) ⟨rfl,rfl,fun k=>rfl,rfl,fun j c z _ h=>by simp at h⟩
 obtain⟨e3,e4⟩:=e3
 subst e3
 rw [e1,e2]
 rcases r with r | r
 ·exact⟨[],false,rfl,rfl,fun _=>rfl,fun h=>by cases h⟩
 exact⟨r,true,rfl,rfl,(fun h=>by cases h),fun _=>e4 r rfl⟩
theorem Qzx {l:List QF}(h:QJ Qa3 l)(hc:∀c∈l,IC c)(k:Int):
  (Qfb l k=some 0/\∃x,Qdq l k=some (false,x))\/
  ∃c x s,l[k.toNat]? = some c/\0<=k/\k.toNat<l.length/\x[k.toNat]? = some s/\QvV c s/\Qfb l k=some s/\Qdq l k=some (true,Qax.mk l x k):=by
 obtain⟨x,b,h1,h2,h3,h4⟩:=QCw h hc
 unfold Qfb Qdq
 rw [h1,h2,Ql,Ql]
 cases b with
 | false=>
  rw [h3 rfl]
  refine .inl ⟨?_,_,rfl⟩
  have:((decide (k<0))||(decide ((([]:List Int).length:Int)<=k)))=true:=by simp;omega
  rw [this];rfl
 | true=>
  obtain⟨h5,h6⟩:=h4 rfl
  rw [h5]
  cases hq:((decide (k<0))||(decide ((l.length:Int)<=k)))with
  | true=>exact .inl ⟨rfl,_,rfl⟩
  | false=>
   simp only [QcP,Qah]at hq
   have e1:l[k.toNat]? = some (l[k.toNat]'(by omega)):=QH (by omega)
   have e2:x[k.toNat]? = some (x[k.toNat]'(by omega)):=QH (by omega)
   exact .inr ⟨_,x,_,e1,by omega,by omega,e2,h6 _ _ _ e1 e2,by rw [cond_false,QeY (by omega),e2];rfl,rfl⟩
theorem QDp {l:List QF}(h:QJ Qa3 l)(hc:∀c∈l,IC c)(k:Int):Qfb l k=QaH l k:=by
 unfold QaH
 rcases Qzx h hc k with⟨e1,x,e2⟩|⟨c,x,s,h1,h2,h3,h4,h5,e1,e2⟩
 ·rw [e1,e2];rfl
 rw [e1,e2,Ql]
 show some s=(idx x k).bind _
 rw [QeY h2,h4];rfl
theorem QA0 {l:List QF}{x:List Int}{k s:Int}(h0:0<=k)(hs:x[k.toNat]? = some s)(m:Int):Qce (Qax.mk l x k) m=some (decide (0<=m)&&decide (m<s)):=by
 unfold Qce QeL Qgo
 by_cases h:0<=m
 ·rw [QI h,cond_true,QpF]
  show((idx x k).bind _).bind _=_
  rw [QeY h0,hs];rfl
 rw [QK h];rfl
theorem QDq {l:List QF}{x:List Int}{k:Int}{c:QF}(h0:0<=k)(hs:l[k.toNat]? = some c):QbQ (Qax.mk l x k)=some c:=by
 unfold QbQ
 show(idx l k).bind _=_
 rw [QeY h0,hs];rfl
theorem QBs {l:List QF}(h:QJ Qa3 l)(hc:∀c∈l,IC c)(k m:Int):∃r,Qdn l k m=some r/\Qls l k m=some r/\InI r.1:=by
 have z:InI 0:=by unfold InI;omega
 unfold Qdn Qls Qph QhH QgX QdT
 rcases Qzx h hc k with⟨e1,x,e2⟩|⟨c,x,s,h1,h2,h3,h4,h5,e1,e2⟩
 ·rw [e1,e2,Ql,Ql]
  refine⟨(0,false),rfl,?_,z⟩
  by_cases hm:m<0
  ·rw [QI hm];rfl
  rw [QK hm,cond_false,Ql,QI (by omega:0<=m)];rfl
 rw [e1,e2,Ql,Ql]
 simp only [Qfe,cond_false]
 rw [QA0 h2 h4,Ql,Ql]
 have e3:(bif decide (m<0)then some true else some (decide (s<=m)):Option Bool)=some (!(decide (0<=m)&&decide (m<s))):=by
  by_cases hm:m<0
  ·rw [QI hm,QK (by omega:¬0<=m)];rfl
  rw [QK hm,QI (by omega:0<=m)]
  by_cases hs:s<=m
  ·rw [QI hs,QK (by omega:¬m<s)];rfl
  rw [QK hs,QI (by omega:m<s)];rfl
 rw [e3,Ql,QeY h2,h1]
 cases hq:(!(decide (0<=m)&&decide (m<s)))with
 | true=>exact⟨(0,false),rfl,rfl,z⟩
 | false=>
  simp only [Qio,QA,QN]at hq
  have hb:=h5.b
  rw [QDq h2 h1,Ql,Ql,cond_false]
  cases (c.Kind==1)with
  | true=>exact⟨_,rfl,rfl,QAh _⟩
  | false=>exact⟨_,rfl,rfl,by unfold InI;omega⟩
theorem QxM {s first n:Int}(hs:s<=1024)(hf:InI first)(hl:first+s-1<=9223372036854775807):Qeu s n first=some (bif (decide (0<=n-first)&&decide (n-first<s))then(n-first,true)else(0,false)):=by
 unfold Qeu
 unfold InI at hf
 have hm:(2048:Nat)<=maxLen:=by decide
 obtain⟨r,hr,h1⟩:=Qlw (body:=fun st:Int=>Qcw s first n st) s.toNat (fun i st=>st=(i:Int)/\∀j:Nat,j<i->first+j≠n) (fun r=>r=bif (decide (0<=n-first)&&decide (n-first<s))then .inl (n-first)else .inr ()) (fun i st hi hI=>by
  obtain⟨rfl,hI⟩:=hI
  show(∃s',Qcw s first n i=_/\_)\/∃r,Qcw s first n i=_/\_
  unfold Qcw
  rw [QI (by omega),cond_true,Q4 (n:=first+i) (by omega)]
  by_cases e:first+i=n
  ·right
   rw [show(first+(i:Int)==n)=true by simpa using e,cond_true]
   refine⟨_,rfl,?_⟩
   rw [QI (by omega),QI (by omega),show n-first=(i:Int) by omega];rfl
  ·left
   rw [show(first+(i:Int)==n)=false by simpa using e,cond_false]
   refine⟨_,rfl,Q4 (by omega),fun j hj=>?_⟩
   by_cases hji:j=i
   ·subst hji;exact e
   exact hI j (by omega)) (fun st hI=>by
  obtain⟨rfl,hI⟩:=hI
  show ∃r,Qcw s first n (s.toNat:Int)=_/\_
  unfold Qcw
  rw [QK (by omega),cond_false]
  refine⟨_,rfl,?_⟩
  by_cases c:0<=n-first/\n-first<s
  ·have:=hI (n-first).toNat (by omega)
   omega
  have:(decide (0<=n-first)&&decide (n-first<s))=false:=by
   apply Bool.eq_false_iff.2
   simp only [ne_eq,QA,QN];exact c
  rw [this];rfl) 0 ⟨rfl,fun j hj=>by omega⟩
 rw [hr,h1,Ql]
 cases (decide (0<=n-first)&&decide (n-first<s))<;>rfl
theorem QBt {l:List QF}(h:QJ Qa3 l)(hc:∀c∈l,IC c)(k n:Int)(hn:InI n):∃r,Qdo l k n=some r/\Qlu l k n=some r:=by
 unfold Qdo Qlu Qpp QhI
 rcases Qzx h hc k with⟨e1,x,e2⟩|⟨c,x,s,h1,h2,h3,h4,h5,e1,e2⟩
 ·rw [e1,e2,Ql,Ql]
  refine⟨(0,false),rfl,?_⟩
  show Qeu 0 n 0=_
  rw [QxM (by omega) (by unfold InI;omega) (by omega)]
  have:(decide (0<=n-0)&&decide (n-0<0))=false:=by
   apply Bool.eq_false_iff.2
   simp only [ne_eq,QA,QN];omega
  rw [this];rfl
 rw [e1,e2,Ql,Ql]
 simp only [Qfe,cond_false]
 have hb:=h5.b
 have hmem:=Qae h1
 obtain⟨c1,c2⟩:=hc c hmem
 rw [QDq h2 h1,Ql,QI (by omega:0<s),cond_true,QeY h2,h1]
 simp only [Ql]
 unfold Qb9
 by_cases k1:c.Kind=1
 ·rw [show(c.Kind==1)=true by simpa using k1]
  simp only [cond_true]
  obtain⟨g1,g2⟩:=h5.i k1
  unfold InI at c1 c2 hn
  rw [QxM hb.2 c1 (by omega)]
  by_cases q:n<c.Lo\/c.Hi<n
  ·have:((decide (n<c.Lo))||(decide (c.Hi<n)))=true:=by simpa using q
   rw [this,cond_true]
   have:(decide (0<=n-c.Lo)&&decide (n-c.Lo<s))=false:=by
    apply Bool.eq_false_iff.2
    simp only [ne_eq,QA,QN];omega
   rw [this]
   exact⟨_,rfl,rfl⟩
  have:((decide (n<c.Lo))||(decide (c.Hi<n)))=false:=by simpa using q
  rw [this,cond_false,Q4 (by omega),QA0 h2 h4,Ql,QI (by omega:0<=n-c.Lo),QI (by omega:n-c.Lo<s)]
  exact⟨_,rfl,rfl⟩
 rw [show(c.Kind==1)=false by simpa using k1]
 simp only [cond_false]
 rw [QxM hb.2 (by unfold InI;omega) (by omega),QA0 h2 h4,Ql,show n-0=n by omega]
 cases (decide (0<=n)&&decide (n<s))with
 | true=>exact⟨_,rfl,rfl⟩
 | false=>exact⟨_,rfl,rfl⟩
end Go.Proofs
