/- A part of the proof; what it holds is told at each theorem. -/
import Derived.Test.YtpijolohkdchcaaGreatDoorFiD
set_option linter.unusedVariables false
set_option linter.unusedSimpArgs false
set_option linter.unusedSectionVars false
set_option linter.deprecated false
noncomputable section
namespace Go.Proofs
open Go Go.RowKit Go.Vm
theorem Qt7 {σ ρ:Type}{body:σ→Option (σ⊕ρ)}(mu:σ→Nat)(J:σ→Prop){Q:ρ→Prop}{s0:σ}(hJ:J s0)
  (step:∀s,J s→TotP (body s) fun o=>(∀s',o=.inl s'→mu s'<mu s∧J s')∧∀r,o=.inr r→Q r):TotP (QE body s0) Q:=by
 have key:∀k s,mu s≤k→J s→TotP (QE body s) Q:=by
  intro k
  induction k with
  | zero=>
   intro s hk hj
   obtain⟨o,ho,h1,h2⟩:=step s hj
   cases o with
   | inl s'=>have:=(h1 s' rfl).1;omega
   | inr r=>exact⟨r,by rw [Qdl,ho];rfl,h2 r rfl⟩
  | succ k ih=>
   intro s hk hj
   obtain⟨o,ho,h1,h2⟩:=step s hj
   cases o with
   | inl s'=>
    obtain⟨h3,h4⟩:=h1 s' rfl
    obtain⟨r,h5,h6⟩:=ih s' (by omega) h4
    exact⟨r,by rw [Qdl,ho];exact h5,h6⟩
   | inr r=>exact⟨r,by rw [Qdl,ho];rfl,h2 r rfl⟩
 exact key _ s0 (Nat.le_refl _) hJ
def valL : List Int→Nat
 | []=>0
 | d::r=>d.toNat*1025 ^ r.length+valL r
theorem QsR {l:List Int}(h:∀d∈l,0≤d∧d≤1024):valL l<1025 ^ l.length:=by
 induction l with
 | nil=>simp [valL]
 | cons d l ih=>
  have h1:=ih fun x hx=>h x (List.mem_cons_of_mem _ hx)
  have h2:=h d List.mem_cons_self
  simp only [valL,List.length_cons,Nat.pow_succ]
  have h3:d.toNat*1025 ^ l.length≤1024*1025 ^ l.length:=Nat.mul_le_mul_right _ (by omega)
  omega
theorem Qsv (a b:List Int):valL (a++b)=valL a*1025 ^ b.length+valL b:=by
 induction a with
 | nil=>simp [valL]
 | cons d a ih=>
  simp only [List.cons_append,valL,ih,List.length_append,Nat.pow_add,Nat.add_mul,Nat.mul_assoc]
  omega
theorem Qsw {l:List Int}{k:Nat}(hk:k<l.length)(Z:List Int)(x:Int):(l.take (k+1)++Z).set k x=l.take k++x::Z:=by
 have e:l.take (k+1)=l.take k++[l[k]]:=by rw [List.take_add_one,List.getElem?_eq_getElem hk];rfl
 rw [e,List.append_assoc,List.set_append,if_neg (by simp;omega)]
 have:k-(l.take k).length=0:=by simp;omega
 rw [this];rfl
theorem Qvz (t:Qr)(n:TNet)(l:List Int)(h:QH n)(hl:l.length=t.Vars.length)(hv:t.Vars.length≤16)(hd:∀d∈l,0≤d∧d≤1024):
  TotP (QE (fun st=>Qbk t n st.1 st.2) ((w64 ((l.length:Int)-1)),l)) fun q=>-1≤q.1∧q.1<l.length∧q.2=l.take (q.1+1).toNat++List.replicate (l.length-(q.1+1).toNat) 0∧∀d,0≤q.1→l[q.1.toNat]? = some d→d<1024:=by
 have hw:w64 ((l.length:Int)-1)=(l.length:Int)-1:=QdK (by omega)
 refine TotP.up l.length (fun st=>(l.length:Int)-1-st.1) (fun st=>st.2=l.take (st.1+1).toNat++List.replicate (l.length-(st.1+1).toNat) 0) (by rw [hw];omega) (by
  rw [hw]
  show l=_
  rw [show((l.length:Int)-1+1).toNat=l.length by omega,List.take_length,Nat.sub_self];simp) (fun i st hi hn hJ=>?_)
 obtain⟨a,d⟩:=st
 replace hi:(l.length:Int)-1-a=i:=hi
 replace hJ:d=l.take (a+1).toNat++List.replicate (l.length-(a+1).toNat) 0:=hJ
 have hdl:d.length=l.length:=by rw [hJ];simp;omega
 show TotP (Qbk t n a d) _
 unfold Qbk
 refine TotP.bind (P:=fun x=>(x=true→0≤a)∧(x=false→∀e,0≤a→l[a.toNat]? = some e→e<1024)) ?_ fun x hx=>?_
 ·unfold QgZ
  refine TotP.bif (fun hc=>?_) fun hc=>TotP.ok ⟨fun h=>(by cases h),fun _ e he=>?_⟩
  ·simp only [decide_eq_true_eq]at hc
   have hlt:a.toNat<l.length:=by omega
   have ed:idx d a=some l[a.toNat]:=by
    rw [QmU hc,hJ,List.getElem?_append_left (by simp;omega),List.getElem?_take,if_pos (by omega),List.getElem?_eq_getElem hlt]
   rw [ed,Option.bind_some]
   refine TotP.bind (TotP.idx (by omega) (by omega)) fun v _=>?_
   refine TotP.bind (QfV _ _ h.1) fun z hz=>?_
   have h2:=hd _ (List.getElem_mem hlt)
   refine TotP.ok ⟨fun _=>hc,fun hf e _ he=>?_⟩
   rw [List.getElem?_eq_getElem hlt]at he
   cases he
   rw [QdK (by omega)]at hf
   simp only [decide_eq_false_iff_not]at hf
   omega
  ·simp only [decide_eq_false_iff_not]at hc;omega
 ·unfold QcU
  refine TotP.bif (fun hc=>?_) fun hc=>?_
  ·have ha:=hx.1 hc
   refine TotP.bind (TotP.idx ha (by omega)) fun _ _=>?_
   have hw2:w64 (a-1)=a-1:=QdK (by omega)
   refine TotP.ok (Qz ⟨by omega,?_,?_⟩)
   ·show(l.length:Int)-1-w64 (a-1)=_
    rw [hw2];omega
   ·show d.set a.toNat 0=l.take (w64 (a-1)+1).toNat++List.replicate (l.length-(w64 (a-1)+1).toNat) 0
    rw [hw2,hJ,show(a+1).toNat=a.toNat+1 by omega,Qsw (by omega),show(a-1+1).toNat=a.toNat by omega]
    rw [show l.length-a.toNat=(l.length-(a.toNat+1))+1 by omega,List.replicate_succ]
  ·exact TotP.ok (Qm ⟨by omega,by omega,hJ,hx.2 hc⟩)
def QhO (n:TNet)(most:Int)(l:List Qk):Prop:=(l.length:Int)<most∧∀o∈l,QbV n o
def QnD (n:TNet)(most:Int)(l:List Qk):Prop:=(l.length:Int)≤most∧∀o∈l,QbV n o
theorem QuF (n:TNet)(m:List (List (Int×Int)))(b:QB)(l:List (List Int))(h:QaZ n)(hb:BOk n m b)(hl:QiZ l):TotP (QaU l b) fun r=>r=-1∨(0≤r∧r<l.length):=by
 have hl1:=hl.1
 unfold QaU
 refine TotP.bind (TotP.up l.length (fun st=>st) (fun _=>True) (Q:=fun q:Int⊕Unit=>∀x,q=.inl x→0≤x∧x<(l.length:Int)) rfl trivial (fun i st hi hn hJ=>?_)) (fun q hq=>?_)
 ·show TotP (Qae l b st) _
  unfold Qae QeB
  refine TotP.bif (fun hc=>?_) (fun _=>TotP.ok (Qm fun x h=>by cases h))
  simp only [decide_eq_true_eq]at hc
  refine TotP.bind (TotP.idx (by omega) (by omega)) fun e he=>?_
  have:=hl.2 e he
  refine TotP.bind (TotP.bind (Qrj n m b e h hb (by omega)) fun _ _=>TotP.okT) fun _ _=>?_
  exact TotP.bif (fun _=>TotP.ok (Qm fun x h=>by cases h;omega)) fun _=>TotP.ok (Qz ⟨by omega,by rw [hi];exact Qv (by omega) (by unfold maxLen;omega:l.length≤maxLen),trivial⟩)
 ·rcases q with q | q
  ·exact TotP.ok (.inr (hq q rfl))
  ·exact TotP.ok (.inl rfl)
theorem QuG (n:TNet)(m:List (List (Int×Int)))(b:QB)(l:List (List Int))(h:QaZ n)(hb:BOk n m b)(hl:QiZ l):TotP (QaP l b) QiZ:=by
 have hl1:=hl.1
 unfold QaP
 refine TotP.bind (QuF n m b l h hb hl) fun x hx=>?_
 refine TotP.bif (fun _=>TotP.ok hl) fun hc=>?_
 simp only [beq_eq_false_iff_ne]at hc
 have hx:0≤x∧x<l.length:=by omega
 have hw:w64 (x+1)=x+1:=QdK (by omega)
 refine TotP.bind (TotP.up (l.length-(x+1).toNat) (fun st=>st.2.1-(x+1)) (fun st=>0≤st.1∧st.1<st.2.1∧st.2.2.length=l.length∧∀row∈st.2.2,row.length≤16) (Q:=fun q:Int×List (List Int)=>0≤q.1∧q.1≤(l.length:Int)∧q.2.length=l.length∧∀row∈q.2,row.length≤16) (by show w64 (x+1)-(x+1)=0;omega) ⟨hx.1,by show x<w64 (x+1);omega,rfl,hl.2⟩ (fun i st hi hn hJ=>?_)) (fun q hq=>?_)
 ·obtain⟨a,j,l2⟩:=st
  replace hi:j-(x+1)=i:=hi
  obtain⟨j1,j2,j3,j4⟩:0≤a∧a<j∧l2.length=l.length∧∀row∈l2,row.length≤16:=hJ
  show TotP (Qab b a j l2) _
  unfold Qab QeB
  refine TotP.bif (fun hc=>?_) (fun hc=>TotP.ok (Qm ⟨j1,?_,j3,j4⟩))
  ·simp only [decide_eq_true_eq]at hc
   refine TotP.bind (TotP.idx (by omega) (by omega)) fun e he=>?_
   have:=j4 e he
   refine TotP.bind (TotP.bind (Qrj n m b e h hb (by omega)) fun _ _=>TotP.okT) fun _ _=>?_
   have hw2:w64 (j+1)=j+1:=QdK (by omega)
   have hw3:w64 (a+1)=a+1:=QdK (by omega)
   refine TotP.bif (fun _=>?_) fun _=>?_
   ·refine TotP.bind (TotP.idx (by omega) (by omega)) fun _ _=>?_
    refine TotP.ok (Qz ⟨by omega,by show w64 (j+1)-(x+1)=_;omega,by show 0≤w64 (a+1);omega,by show w64 (a+1)<w64 (j+1);omega,by simpa using j3,fun row hr=>?_⟩)
    rcases Qlu hr with rfl | hr
    ·exact this
    ·exact j4 row hr
   ·exact TotP.ok (Qz ⟨by omega,by show w64 (j+1)-(x+1)=_;omega,j1,by show a<w64 (j+1);omega,j3,j4⟩)
  ·simp only [decide_eq_false_iff_not]at hc
   show a≤_
   omega
 ·obtain⟨q1,q2⟩:=q
  obtain⟨h1,h2,h3,h4⟩:0≤q1∧q1≤l.length∧q2.length=l.length∧∀row∈q2,row.length≤16:=hq
  show TotP (QaB q1 q2) _
  unfold QaB
  refine TotP.bind (TotP.chk (by simp only [Bool.and_eq_true,decide_eq_true_eq];omega)) fun _ _=>?_
  refine TotP.bind (TotP.chk (by simp only [Bool.and_eq_true,decide_eq_true_eq,List.length_append,List.length_take,List.length_replicate];omega)) fun _ _=>?_
  refine TotP.ok ⟨by simp;omega,fun row hr=>?_⟩
  rw [List.take_append_of_le_length (by simp;omega)]at hr
  exact h4 row (List.mem_of_mem_take (List.mem_of_mem_take hr))
theorem Qu9 (n:TNet)(m:List (List (Int×Int)))(task most:Int)(l5 l8:List Qk)(ins outs:List (List Int))(p:List Int)(h:QaZ n)(hm:lenL (lenL fun _=>True) m)(hmost:most≤4294967296)
  (hi:QiZ ins) (ho:QiZ outs) (hp:p.length≤16) (ha:QhO n most l8):
  TotP (QcD n m task most l5 ins outs l8 p) fun r=>(∀a,r=.inl a→QnD n most a)∧∀a,r=.inr a→QhO n most a:=by
 have hil:=hi.1
 have hol:=ho.1
 unfold QcD
 refine TotP.bind (QsN n m task p h) fun x hx=>?_
 refine TotP.bind (P:=fun y=>y=false→BOk n m x.2) ?_ fun y hy=>?_
 ·unfold QeU
  refine TotP.bif (fun _=>TotP.ok fun h=>by cases h) fun hc=>?_
  have hb:=hx (by simpa using hc)
  exact TotP.bind (Qry n m x.2 h hb) fun _ _=>TotP.ok fun _=>hb
 unfold QbP
 refine TotP.bif (fun _=>TotP.ok ⟨fun a h=>(by cases h),fun a h=>(by cases h;exact ha)⟩) fun hc=>?_
 have hb:=hy hc
 refine TotP.bind (P:=QiZ) (by unfold QcM;exact TotP.bind (TotP.chk (by simp;omega)) fun _ _=>TotP.ok ho) fun x19 h19=>?_
 refine TotP.bind (QuG n m x.2 x19 h hb h19) fun x20 h20=>?_
 have h20l:=h20.1
 refine TotP.bind (TotP.up ins.length (fun st=>st.1) (fun st=>QhO n most st.2) (Q:=fun q=>(∀a,q=.inl a→QnD n most a)∧∀a,q=.inr a→QhO n most a) rfl ha (fun i st hi2 hn hJ=>?_)) (fun q hq=>?_)
 ·obtain⟨j,l⟩:=st
  replace hi2:j=(i:Int):=hi2
  replace hJ:QhO n most l:=hJ
  show TotP (Qa8 ins x x20 p task most j l) _
  unfold Qa8
  refine TotP.bif (fun hc=>?_) (fun _=>TotP.ok (Qm ⟨fun a h=>(by cases h),fun a h=>(by cases h;exact hJ)⟩))
  simp only [decide_eq_true_eq]at hc
  refine TotP.bind (TotP.idx (by omega) (by omega)) fun e he=>?_
  have hel:=hi.2 e he
  have next:∀l,QhO n most l→TotP (Qa6 j l) fun o=>(∀s',o=.inl s'→i<ins.length∧s'.1=((i+1:Nat):Int)∧QhO n most s'.2)∧∀r:List Qk⊕List Qk,o=.inr r→(∀a,r=.inl a→QnD n most a)∧∀a,r=.inr a→QhO n most a:=fun l hl=>by
   unfold Qa6
   exact TotP.ok (Qz (ix:=fun st:Int×List Qk=>st.1) (J:=fun st:Int×List Qk=>QhO n most st.2) ⟨by omega,by subst hi2;exact Qv (by omega) (by unfold maxLen;omega:ins.length≤maxLen),hl⟩)
  refine TotP.bind (QsO n m x.2 e h hb hm (by omega)) fun z _=>?_
  refine TotP.bif (fun _=>next l hJ) fun _=>?_
  refine TotP.bind (TotP.up x20.length (fun st=>st.1) (fun st=>QhO n most st.2) (Q:=fun q=>(∀a,q=.inl a→QnD n most a)∧∀a,q=.inr a→QhO n most a) rfl hJ (fun i2 st hi3 hn2 hJ2=>?_)) (fun q hq=>?_)
  ·obtain⟨j2,l2⟩:=st
   replace hi3:j2=(i2:Int):=hi3
   replace hJ2:QhO n most l2:=hJ2
   have hlt:=hJ2.1
   show TotP (Qa7 x20 p e task most j2 l2) _
   unfold Qa7
   refine TotP.bif (fun hc=>?_) (fun _=>TotP.ok (Qm ⟨fun a h=>(by cases h),fun a h=>(by cases h;exact hJ2)⟩))
   simp only [decide_eq_true_eq]at hc
   refine TotP.bind (TotP.idx (by omega) (by omega)) fun e2 he2=>?_
   have hel2:=h20.2 e2 he2
   rw [QkV p (by omega),Option.bind_some,QkV e (by omega),Option.bind_some,QkV e2 (by omega),Option.bind_some]
   refine TotP.bind (TotP.chk (by simp;omega)) fun _ _=>?_
   have hall:∀o∈l2++[Qk.mk task p e e2],QbV n o:=fun o ho=>by
    rcases List.mem_append.1 ho with ho | ho
    ·exact hJ2.2 o ho
    ·simp at ho;subst ho;exact⟨by show p.length≤20;omega,by show e.length≤20;omega,by show e2.length≤20;omega⟩
   refine TotP.bif (fun hc2=>TotP.ok (Qm ⟨fun a h=>(by cases h;exact⟨by simp only [beq_iff_eq]at hc2;omega,hall⟩),fun a h=>(by cases h)⟩)) fun hc2=>?_
   simp only [beq_eq_false_iff_ne]at hc2
   exact TotP.ok (Qz ⟨by omega,by subst hi3;exact Qv (by omega) (by unfold maxLen;omega:x20.length≤maxLen),by simp at hc2 ⊢;omega,hall⟩)
  ·rcases q with q | q
   ·have:=hq.1 q rfl
    exact TotP.ok (Qm ⟨fun a h=>(by cases h;exact this),fun a h=>(by cases h)⟩)
   ·exact next q (hq.2 q rfl)
 ·rcases q with q | q
  ·have:=hq.1 q rfl
   exact TotP.ok ⟨fun a h=>(by cases h;exact this),fun a h=>(by cases h)⟩
  ·have:=hq.2 q rfl
   exact TotP.ok ⟨fun a h=>(by cases h),fun a h=>(by cases h;exact this)⟩
theorem Qts (n:TNet)(m:List (List (Int×Int)))(task most:Int)(l5:List Qk)(ins outs:List (List Int))(t:Qr)(h:QaZ n)(hm:lenL (lenL fun _=>True) m)(hmost:most≤4294967296)(h1:1≤most)
  (hi:QiZ ins) (ho:QiZ outs) (ht:t∈n.Tasks):TotP (Qef n m task most l5 ins outs [] t n) fun r=>∀a,r=.inl a∨r=.inr a→QnD n most a:=by
 have hv:=(h.tk t ht).1
 unfold Qef
 refine TotP.bind (TotP.chk (by simp only [Bool.and_eq_true,decide_eq_true_eq];omega)) fun _ _=>?_
 refine TotP.bind (Qt7 (fun st=>1025 ^ t.Vars.length-valL st.1) (fun st=>st.1.length=t.Vars.length∧(∀d∈st.1,0≤d∧d≤1024)∧QhO n most st.2) (Q:=fun q=>∀a,q=.inl a∨q=.inr a→QnD n most a)
  ⟨by simp,fun d hd=>by have:=List.eq_of_mem_replicate hd;omega,by simp;omega,fun o h=>by cases h⟩ (fun st hJ=>?_)) (fun q hq=>?_)
 ·obtain⟨d,l⟩:=st
  obtain⟨j1,j2,j3⟩:d.length=t.Vars.length∧(∀d'∈d,0≤d'∧d'≤1024)∧QhO n most l:=hJ
  show TotP (QbZ n m task most l5 ins outs t n d l) _
  unfold QbZ
  rw [QkV d (by omega),Option.bind_some]
  refine TotP.bind (Qu9 n m task most l5 l ins outs d h hm hmost hi ho (by omega) j3) fun r hr=>?_
  rcases r with r | r
  ·have:=hr.1 r rfl
   exact TotP.ok ⟨fun s' e=>(by cases e),fun q e=>(by cases e;exact fun a ha=>by rcases ha with ha | ha<;>cases ha;exact this)⟩
  ·have hacc:=hr.2 r rfl
   show TotP (QcW t n d r) _
   unfold QcW
   refine TotP.bind (Qvz t n d h.k j1 hv j2) fun q hq=>?_
   obtain⟨a,d2⟩:=q
   obtain⟨q1,q2,q3,q4⟩:-1≤a∧a<d.length∧d2=d.take (a+1).toNat++List.replicate (d.length-(a+1).toNat) 0∧∀e,0≤a→d[a.toNat]? = some e→e<1024:=hq
   show TotP (QcV r a d2) _
   unfold QcV
   refine TotP.bif (fun _=>TotP.ok ⟨fun s' e=>(by cases e),fun q e=>(by cases e;exact fun a ha=>by rcases ha with ha | ha<;>cases ha;exact⟨by have:=hacc.1;omega,hacc.2⟩)⟩) fun hc=>?_
   simp only [decide_eq_false_iff_not]at hc
   have hlt:a.toNat<d.length:=by omega
   have ed:idx d2 a=some d[a.toNat]:=by
    rw [QmU (by omega),q3,List.getElem?_append_left (by simp;omega),List.getElem?_take,if_pos (by omega),List.getElem?_eq_getElem hlt]
   rw [ed,Option.bind_some,Option.bind_some]
   have h9:=q4 _ (by omega) (List.getElem?_eq_getElem hlt)
   have h10:=j2 _ (List.getElem_mem hlt)
   rw [QdK (by omega)]
   have e3:d2.set a.toNat (d[a.toNat]+1)=d.take a.toNat++(d[a.toNat]+1)::List.replicate (d.length-(a.toNat+1)) 0:=by
    rw [q3,show(a+1).toNat=a.toNat+1 by omega,Qsw hlt]
   rw [e3]
   have hd3:∀x∈d.take a.toNat++(d[a.toNat]+1)::List.replicate (d.length-(a.toNat+1)) 0,0≤x∧x≤1024:=fun x hx=>by
    rcases List.mem_append.1 hx with hx | hx
    ·exact j2 x (List.mem_of_mem_take hx)
    ·rcases List.mem_cons.1 hx with rfl | hx
     ·omega
     ·have:=List.eq_of_mem_replicate hx;omega
   have hlen:(d.take a.toNat++(d[a.toNat]+1)::List.replicate (d.length-(a.toNat+1)) 0).length=t.Vars.length:=by simp;omega
   have hmu:1025 ^ t.Vars.length-valL (d.take a.toNat++(d[a.toNat]+1)::List.replicate (d.length-(a.toNat+1)) 0)<1025 ^ t.Vars.length-valL d:=by
    have u1:=QsR hd3
    rw [hlen]at u1
    have u2:valL d<valL (d.take a.toNat++(d[a.toNat]+1)::List.replicate (d.length-(a.toNat+1)) 0):=by
     have e5:d=d.take a.toNat++d[a.toNat]::d.drop (a.toNat+1):=by
      rw [←List.drop_eq_getElem_cons hlt,List.take_append_drop]
     have u3:=QsR (l:=d.drop (a.toNat+1)) fun x hx=>j2 x (List.mem_of_mem_drop hx)
     have u4:valL d=valL (d.take a.toNat++d[a.toNat]::d.drop (a.toNat+1)):=congrArg valL e5
     rw [u4,Qsv,Qsv]
     simp only [valL,List.length_cons,List.length_replicate,List.length_drop]at u3 ⊢
     have e6:(d[a.toNat]+1).toNat=(d[a.toNat]).toNat+1:=by omega
     rw [e6,Nat.add_mul]
     omega
    omega
   exact TotP.ok ⟨fun s' e=>(by cases e;exact⟨hmu,hlen,hd3,hacc⟩),fun q e=>(by cases e)⟩
 ·rcases q with q | q
  ·have:=hq q (.inl rfl)
   exact TotP.ok fun a ha=>by rcases ha with ha | ha<;>cases ha;exact this
  ·have:=hq q (.inr rfl)
   exact TotP.ok fun a ha=>by rcases ha with ha | ha<;>cases ha;exact this
theorem Qva (n:TNet)(m:List (List (Int×Int)))(task most:Int)(h:QaZ n)(hm:lenL (lenL fun _=>True) m)(hmost:most≤4294967296):TotP (Qia n m task most) fun r=>(r.length:Int)≤max2 most 0∧∀o∈r,QbV n o:=by
 unfold Qia
 refine TotP.bif (fun _=>TotP.ok ⟨by simp [max2];split<;>omega,fun o h=>by cases h⟩) fun hc=>?_
 simp only [Bool.or_eq_false_iff,decide_eq_false_iff_not]at hc
 refine TotP.bind (TotP.idx (by omega) (by omega)) fun e he=>?_
 refine TotP.bind (QoR _ _) fun x hx=>?_
 refine TotP.bind (QoR _ _) fun y hy=>?_
 refine TotP.bind (P:=fun z=>z=(n,e)) (TotP.ok rfl) fun z hz=>?_
 subst hz
 refine TotP.bind (Qts n m task most [] x y e h hm hmost (by omega) hx hy he) fun r hr=>?_
 have fin:∀a,QnD n most a→(a.length:Int)≤max2 most 0∧∀o∈a,QbV n o:=fun a ha=>⟨by have:=ha.1;unfold max2;split<;>omega,ha.2⟩
 rcases r with r | r
 ·exact TotP.ok (fin r (hr r (.inl rfl)))
 ·exact TotP.ok (fin r (hr r (.inr rfl)))
theorem QvZ (n:TNet)(m:List (List (Int×Int)))(most:Int)(h:QaZ n)(hm:lenL (lenL fun _=>True) m)(h0:0≤most)(hmost:most≤4294967296):TotP (QjZ n m most) fun r=>(r.length:Int)≤most∧∀o∈r,QbV n o:=by
 unfold QjZ
 refine TotP.bind (TotP.up n.Tasks.length (fun st=>st.1) (fun st=>(st.2.length:Int)≤most∧∀o∈st.2,QbV n o) (Q:=fun q=>(q.length:Int)≤most∧∀o∈q,QbV n o) rfl ⟨by simpa using h0,fun o h=>by cases h⟩ (fun i st hi hn hJ=>?_)) (fun q hq=>TotP.ok hq)
 obtain⟨x,l⟩:=st
 replace hi:x=(i:Int):=hi
 obtain⟨j1,j2⟩:(l.length:Int)≤most∧∀o∈l,QbV n o:=hJ
 show TotP (Qfu n m most x l) _
 unfold Qfu
 refine TotP.bif (fun hc=>?_) (fun _=>TotP.ok (Qm ⟨j1,j2⟩))
 simp only [decide_eq_true_eq]at hc
 have hw:w64 (most-(l.length:Int))=most-(l.length:Int):=QdK (by omega)
 rw [hw]
 refine TotP.bind (Qva n m x _ h hm (by omega)) fun y hy=>?_
 have hy1:=hy.1
 unfold max2 at hy1
 have hy2:(y.length:Int)≤most-l.length:=by split at hy1<;>omega
 refine TotP.bind (TotP.chk (by simp;omega)) fun _ _=>?_
 refine TotP.ok (Qz ⟨by omega,by subst hi;exact Qv (by omega) h.k.2.2.1.1,by simp;omega,fun o ho=>?_⟩)
 rcases List.mem_append.1 ho with ho | ho
 ·exact j2 o ho
 ·exact hy.2 o ho
end Go.Proofs
