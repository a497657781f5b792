/- A part of the proof; what it holds is told at each theorem. -/
import Derived.Test.YtpijolohkdchcaaGreatDoorFiE
set_option linter.unusedVariables false
set_option linter.unusedSimpArgs false
set_option linter.unusedSectionVars false
set_option linter.deprecated false
noncomputable section
namespace Go.Proofs
open Go Go.RowKit Go.Vm
theorem Ql6 (m:List (List (Int×Int)))(h:m.length≤4294967296)(hb:∀b∈m,b.length≤4294967296):Qhr m=some m:=by
 unfold Qhr QaY
 rw [QqB (by simpa using h)]
 simp only [Option.bind_some,List.nil_append]
 obtain⟨r,h1,h2⟩:=(TotP.up (body:=fun st=>Qdr m st.1 st.2) m.length (fun st=>st.1) (fun st=>st.2=m) (Q:=fun q=>q=m) (s0:=(0,m)) rfl rfl (fun i st hi hn hJ=>by
  obtain⟨x,l⟩:=st
  replace hi:x=(i:Int):=hi
  replace hJ:l=m:=hJ
  subst hJ
  show TotP (Qdr l x l) _
  unfold Qdr
  refine TotP.bif (fun hc=>?_) (fun _=>TotP.ok (Qm rfl))
  simp only [decide_eq_true_eq]at hc
  have hlt:i<l.length:=by omega
  rw [hi,Qbu,List.getElem?_eq_getElem hlt,Option.bind_some]
  unfold QbY
  rw [QqB (by simpa using hb _ (List.getElem_mem hlt))]
  simp only [Option.bind_some,List.nil_append]
  exact TotP.ok (Qz ⟨hlt,Qv hlt (by unfold maxLen;omega),by simp⟩)))
 rw [h1,h2];rfl
theorem QuH (n:TNet)(a b:List (List (Int×Int)))(c d:Nat)(h:QaZ n)(ha:MOk n c a)(hb:MOk n d b)(hcd:c+d≤1000000):TotP (Qc9 a b) fun r=>r.2=0→MOk n (c+d) r.1:=by
 have hpl:=h.pl
 have ha1:=ha.1
 have hb1:=hb.1
 have hmin:min2 (a.length:Int) (b.length:Int)=(n.Places.length:Int):=by unfold min2;split<;>omega
 unfold Qc9
 rw [hmin]
 refine TotP.bind (TotP.chk (by simp only [Bool.and_eq_true,decide_eq_true_eq];omega)) fun _ _=>?_
 refine TotP.bind (TotP.up n.Places.length (fun st=>st.1) (fun st=>st.2.length=n.Places.length∧∀b∈st.2,Rt b∧b.length≤c+d) (Q:=fun q:Int⊕List (List (Int×Int))=>(∀x,q=.inl x→x≠0)∧∀m,q=.inr m→MOk n (c+d) m) rfl ⟨by simp,fun b hb=>?_⟩ (fun i st hi hn hJ=>?_)) (fun q hq=>?_)
 ·have:=List.eq_of_mem_replicate hb
  subst this
  exact⟨Rt.nil,by simp⟩
 ·obtain⟨x,m⟩:=st
  replace hi:x=(i:Int):=hi
  obtain⟨hJ1,hJ2⟩:m.length=n.Places.length∧∀b∈m,Rt b∧b.length≤c+d:=hJ
  show TotP (QbM a b x m) _
  unfold QbM
  rw [hmin]
  refine TotP.bif (fun hc=>?_) (fun hc=>TotP.ok (Qm ⟨fun x e=>(by cases e),fun m' e=>(by cases e;exact⟨hJ1,hJ2⟩)⟩))
  simp only [decide_eq_true_eq,List.length_replicate]at hc
  refine TotP.bind (TotP.idx (by omega) (by omega)) fun u hu=>?_
  refine TotP.bind (TotP.idx (by omega) (by omega)) fun v hv=>?_
  have hu2:=ha.2 u hu
  have hv2:=hb.2 v hv
  have key:∃s,QaX u v=some s∧(s.2=0→Rt s.1∧s.1.length≤c+d):=by
   rcases Qlc u v (by omega)with⟨_,e⟩|⟨_,_,_,e⟩|⟨_,_,_,r,e,h1,_,h2⟩
   ·exact⟨_,e,fun h=>by cases h⟩
   ·exact⟨_,e,fun h=>by cases h⟩
   ·exact⟨_,e,fun _=>⟨h1,by show r.length≤_;omega⟩⟩
  obtain⟨s,es,hs⟩:=key
  rw [es,Option.bind_some]
  refine TotP.bind (TotP.idx (by omega) (by omega)) fun _ _=>?_
  refine TotP.bif (fun hc5=>TotP.ok (Qm ⟨fun x e=>(by cases e;simpa using hc5),fun m' e=>(by cases e)⟩)) fun hc5=>?_
  have hs:=hs (by simpa using hc5)
  refine TotP.ok (Qz ⟨by omega,by subst hi;exact Qv (by omega) (by unfold maxLen;omega:n.Places.length≤maxLen),by simpa using hJ1,fun b hb'=>?_⟩)
  rcases Qlu hb' with rfl | hb'
  ·exact hs
  ·exact hJ2 b hb'
 ·rcases q with q | q
  ·exact TotP.ok fun h=>absurd h (hq.1 q rfl)
  ·exact TotP.ok fun _=>hq.2 q rfl
theorem Qt8 (n:TNet)(a b:List (List (Int×Int)))(c d:Nat)(h:QaZ n)(ha:MOk n c a)(hb:MOk n d b)(hcd:c+d≤1000000):TotP (QbN a b) fun r=>r.2=0→MOk n (c+d) r.1:=by
 have hpl:=h.pl
 have ha1:=ha.1
 have hb1:=hb.1
 have hmin:min2 (a.length:Int) (b.length:Int)=(n.Places.length:Int):=by unfold min2;split<;>omega
 unfold QbN
 rw [hmin]
 refine TotP.bind (TotP.chk (by simp only [Bool.and_eq_true,decide_eq_true_eq];omega)) fun _ _=>?_
 refine TotP.bind (TotP.up n.Places.length (fun st=>st.1) (fun st=>st.2.length=n.Places.length∧∀b∈st.2,Rt b∧b.length≤c+d) (Q:=fun q:Int⊕List (List (Int×Int))=>(∀x,q=.inl x→x≠0)∧∀m,q=.inr m→MOk n (c+d) m) rfl ⟨by simp,fun b hb=>?_⟩ (fun i st hi hn hJ=>?_)) (fun q hq=>?_)
 ·have:=List.eq_of_mem_replicate hb
  subst this
  exact⟨Rt.nil,by simp⟩
 ·obtain⟨x,m⟩:=st
  replace hi:x=(i:Int):=hi
  obtain⟨hJ1,hJ2⟩:m.length=n.Places.length∧∀b∈m,Rt b∧b.length≤c+d:=hJ
  show TotP (QaV a b x m) _
  unfold QaV
  rw [hmin]
  refine TotP.bif (fun hc=>?_) (fun hc=>TotP.ok (Qm ⟨fun x e=>(by cases e),fun m' e=>(by cases e;exact⟨hJ1,hJ2⟩)⟩))
  simp only [decide_eq_true_eq,List.length_replicate]at hc
  refine TotP.bind (TotP.idx (by omega) (by omega)) fun u hu=>?_
  refine TotP.bind (TotP.idx (by omega) (by omega)) fun v hv=>?_
  have hu2:=ha.2 u hu
  have hv2:=hb.2 v hv
  have key:∃s,QaO u v=some s∧(s.2=0→Rt s.1∧s.1.length≤c+d):=by
   rcases Qig u v (by omega)with⟨_,e⟩|⟨_,_,_,e⟩|⟨_,_,r,e,h1,_,h2⟩
   ·exact⟨_,e,fun h=>by cases h⟩
   ·exact⟨_,e,fun h=>by cases h⟩
   ·exact⟨_,e,fun _=>⟨h1,by show r.length≤_;omega⟩⟩
  obtain⟨s,es,hs⟩:=key
  rw [es,Option.bind_some]
  refine TotP.bind (TotP.idx (by omega) (by omega)) fun _ _=>?_
  refine TotP.bif (fun hc5=>TotP.ok (Qm ⟨fun x e=>(by cases e;simpa using hc5),fun m' e=>(by cases e)⟩)) fun hc5=>?_
  have hs:=hs (by simpa using hc5)
  refine TotP.ok (Qz ⟨by omega,by subst hi;exact Qv (by omega) (by unfold maxLen;omega:n.Places.length≤maxLen),by simpa using hJ1,fun b hb'=>?_⟩)
  rcases Qlu hb' with rfl | hb'
  ·exact hs
  ·exact hJ2 b hb'
 ·rcases q with q | q
  ·exact TotP.ok fun h=>absurd h (hq.1 q rfl)
  ·exact TotP.ok fun _=>hq.2 q rfl
theorem Qt9 (n:TNet)(m:List (List (Int×Int)))(o:Qk)(c:Nat)(h:QaZ n)(hm:MOk n c m)(hc:c≤900000)(ho:QbV n o):TotP (Qck n m o) fun r=>r.2=0→MOk n (c+20) r.1:=by
 unfold Qck
 refine TotP.bind (Qu8 n m o h (hm.len h (by omega)) ho) fun x _=>?_
 refine TotP.bif (fun hc=>TotP.ok fun h=>absurd h (by simpa using hc)) fun _=>?_
 refine TotP.bind (QsP n o h ho) fun y hy=>?_
 refine TotP.bif (fun hc=>TotP.ok fun h=>absurd h (by simpa using hc)) fun hc2=>?_
 exact TotP.bind (QuH n m y.1 c 20 h hm (hy (by simpa using hc2)).1 (by omega)) fun z hz=>TotP.ok hz
theorem QvA (n:TNet)(m:List (List (Int×Int)))(o:Qk)(c:Nat)(h:QaZ n)(hm:MOk n c m)(hc:c≤900000)(ho:QbV n o):TotP (Qew n m o) fun r=>r.2=0→MOk n (c+20) r.1:=by
 have hpl:=h.pl
 have hm1:=hm.1
 unfold Qew
 refine TotP.bind (QsQ n o h ho) fun y hy=>?_
 refine TotP.bif (fun hc=>TotP.ok fun h=>absurd h (by simpa using hc)) fun hc2=>?_
 obtain⟨⟨hy,_⟩,h1,h2⟩:=hy (by simpa using hc2)
 rw [Ql6 m (by omega) (fun b hb=>by have:=(hm.2 b hb).2;omega),Option.bind_some]
 refine TotP.bind (TotP.idx h1 h2) fun e he=>?_
 have hcl:=(h.tk e he).2.2.2
 refine TotP.bind (TotP.up e.Cancel.length (fun st=>st.1) (fun st=>MOk n c st.2) (Q:=fun q=>MOk n c q) rfl hm (fun i st hi hn hJ=>?_)) (fun q hq=>?_)
 ·obtain⟨x,l⟩:=st
  replace hi:x=(i:Int):=hi
  replace hJ:MOk n c l:=hJ
  show TotP (QcC e x l) _
  unfold QcC
  refine TotP.bif (fun hc=>?_) (fun _=>TotP.ok (Qm hJ))
  simp only [decide_eq_true_eq]at hc
  refine TotP.bind (TotP.idx (by omega) (by omega)) fun k _=>?_
  have next:∀l,MOk n c l→TotP (QcB x l) fun o=>(∀s',o=.inl s'→i<e.Cancel.length∧s'.1=((i+1:Nat):Int)∧MOk n c s'.2)∧∀r:List (List (Int×Int)),o=.inr r→MOk n c r:=fun l hl=>by
   unfold QcB
   exact TotP.ok (Qz (ix:=fun st:Int×List (List (Int×Int))=>st.1) (J:=fun st:Int×List (List (Int×Int))=>MOk n c st.2) ⟨by omega,by subst hi;exact Qv (by omega) (by unfold maxLen;omega:e.Cancel.length≤maxLen),hl⟩)
  refine TotP.bif (fun hc3=>?_) fun _=>next l hJ
  simp only [Bool.and_eq_true,decide_eq_true_eq]at hc3
  refine TotP.bind (TotP.idx hc3.1 hc3.2) fun _ _=>?_
  refine next _ ⟨by simpa using hJ.1,fun b hb=>?_⟩
  rcases Qlu hb with rfl | hb
  ·exact⟨Rt.nil,by simp⟩
  ·exact hJ.2 b hb
 ·show TotP (Qds y q) _
  unfold Qds
  exact TotP.bind (Qt8 n q y.1 c 20 h hq hy (by omega)) fun z hz=>TotP.ok hz
theorem t_Do (n:TNet)(m:List (List (Int×Int)))(o:Qk)(c:Nat)(h:QaZ n)(hm:MOk n c m)(hc:c≤800000)(ho:QbV n o):TotP (QbO n m o) fun r=>r.2=0→MOk n (c+40) r.1:=by
 unfold QbO
 refine TotP.bind (Qt9 n m o c h hm (by omega) ho) fun x hx=>?_
 refine TotP.bif (fun hc=>TotP.ok fun h=>absurd h (by simpa using hc)) fun hc2=>?_
 exact TotP.bind (QvA n x.1 o (c+20) h (hx (by simpa using hc2)) (by omega) ho) fun z hz=>TotP.ok hz
def Qct (n:TNet):List (List (Int×Int))→List Qk→Option (List (List (Int×Int)))
 | m,[]=>some m
 | m,o::l=>(QbO n m o).bind fun x=>bif x.2==0 then Qct n x.1 l else none
theorem Qua (n:TNet):∀(l k:List Qk) (m:List (List (Int×Int))),Qct n m (l++k)=(Qct n m l).bind fun x=>Qct n x k:=by
 intro l
 induction l with
 | nil=>intro k m;rfl
 | cons o l ih=>
  intro k m
  simp only [List.cons_append,Qct]
  cases QbO n m o with
  | none=>rfl
  | some x=>
   simp only [Option.bind_some]
   cases x.2==0 with
   | true=>exact ih k x.1
   | false=>rfl
theorem QnE {n:TNet}{m x:List (List (Int×Int))}{o:Qk}{l:List Qk}(h:Qct n m (o::l)=some x):∃y,QbO n m o=some (y,0)∧Qct n y l=some x:=by
 rw [Qct]at h
 obtain⟨r,hr,h⟩:=Qb h
 obtain⟨a,b⟩:=r
 rcases bifE h with⟨c,h⟩|⟨_,h⟩
 ·simp only [beq_iff_eq]at c
  subst c
  exact⟨a,hr,h⟩
 ·cases h
theorem QuI {n:TNet}(h:QaZ n):∀(l:List Qk) (c:Nat) (m x:List (List (Int×Int))),MOk n c m→(∀o∈l,QbV n o)→c+40*l.length≤800000→Qct n m l=some x→MOk n (c+40*l.length) x:=by
 intro l
 induction l with
 | nil=>intro c m x hm _ _ e;cases e;exact hm
 | cons o l ih=>
  intro c m x hm ho hc e
  obtain⟨y,h1,h2⟩:=QnE e
  simp only [List.length_cons]at hc ⊢
  have hy:=Qjw (t_Do n m o c h hm (by omega) (ho o List.mem_cons_self)) h1 rfl
  exact(ih (c+40) y x hy (fun o' ho'=>ho o' (List.mem_cons_of_mem _ ho')) (by omega) h2).mono (by omega)
theorem QvB {n:TNet}(h:QaZ n){l:List Qk}{c:Nat}{m x:List (List (Int×Int))}(hm:MOk n c m)(hc:c≤1000000)(hl:l.length≤4294967296)(e:Qct n m l=some x):Qis n m l=some (x,(l.length:Int)):=by
 have hpl:=h.pl
 have hm1:=hm.1
 unfold Qis
 rw [Ql6 m (by omega) (fun b hb=>by have:=(hm.2 b hb).2;omega),Option.bind_some]
 obtain⟨r,h1,h2⟩:=Qrb (body:=fun st=>Qcs l n st.1 st.2) l.length (fun i s=>s.2=(i:Int)∧Qct n s.1 (l.drop i)=some x) (fun r=>r=.inr x)
  (fun i s hi hs=>by
   obtain⟨a,j⟩:=s
   obtain⟨rfl,hs⟩:j=(i:Int)∧Qct n a (l.drop i)=some x:=hs
   rw [List.drop_eq_getElem_cons hi]at hs
   obtain⟨y,g1,g2⟩:=QnE hs
   refine .inl ⟨(y,((i+1:Nat):Int)),?_,rfl,g2⟩
   show Qcs l n a i=_
   unfold Qcs
   rw [decide_eq_true (by omega:(i:Int)<l.length),cond_true,Qbu,List.getElem?_eq_getElem hi,Option.bind_some,g1,Option.bind_some]
   show some (Sum.inl (y,w64 ((i:Int)+1)))=_
   rw [Qv hi (by unfold maxLen;omega)])
  (fun s hs=>by
   obtain⟨a,j⟩:=s
   obtain⟨rfl,hs⟩:j=(l.length:Int)∧Qct n a (l.drop l.length)=some x:=hs
   rw [List.drop_length]at hs
   cases hs
   refine⟨_,?_,rfl⟩
   show Qcs l n _ l.length=_
   unfold Qcs
   rw [decide_eq_false (by omega)];rfl) (m,0) ⟨rfl,by rw [List.drop_zero];exact e⟩
 rw [h1,h2];rfl
theorem Qvb (n:TNet)(m:List (List (Int×Int)))(picks:List Int)(h:QaZ n)(hm:MOk n 1024 m)(hp:picks.length≤8):TotP (Qgv n m picks) fun l=>l.length≤picks.length∧(∀o∈l,QbV n o)∧∃x,Qct n m l=some x:=by
 unfold Qgv
 refine TotP.bind (TotP.up picks.length (fun st=>st.2.1) (fun st=>(st.2.2.length:Int)≤st.2.1∧(∀o∈st.2.2,QbV n o)∧Qct n m st.2.2=some st.1) (Q:=fun q:List Qk⊕List Qk=>∀l,q=.inl l∨q=.inr l→l.length≤picks.length∧(∀o∈l,QbV n o)∧∃x,Qct n m l=some x) rfl ⟨by simp,fun o h=>(by cases h),rfl⟩ (fun i st hi hn hJ=>?_)) (fun q hq=>?_)
 ·obtain⟨a,x,l⟩:=st
  replace hi:x=(i:Int):=hi
  obtain⟨j1,j2,j3⟩:(l.length:Int)≤x∧(∀o∈l,QbV n o)∧Qct n m l=some a:=hJ
  have ha:=QuI h l 1024 m a hm j2 (by omega) j3
  have done:l.length≤picks.length∧(∀o∈l,QbV n o)∧∃x,Qct n m l=some x:=⟨by omega,j2,a,j3⟩
  show TotP (QdT picks n a x l) _
  unfold QdT
  refine TotP.bif (fun hc=>?_) (fun _=>TotP.ok (Qm fun l' e=>(by rcases e with e | e<;>cases e;exact done)))
  simp only [decide_eq_true_eq]at hc
  refine TotP.bind (TotP.idx (by omega) (by omega)) fun p _=>?_
  refine TotP.bind (QvZ n a 4096 h (ha.len h (by omega)) (by decide) (by decide)) fun y hy=>?_
  refine TotP.bif (fun _=>TotP.ok (Qm fun l' e=>(by rcases e with e | e<;>cases e;exact done))) fun hc2=>?_
  simp only [beq_eq_false_iff_ne]at hc2
  refine TotP.bind (TotP.chk (by simpa using hc2)) fun _ _=>?_
  refine TotP.bind (TotP.chk (by simpa using hc2)) fun _ _=>?_
  have hy1:=hy.1
  have hpos:0<(y.length:Int):=by omega
  have g1:-(y.length:Int)<Int.tmod p y.length∧Int.tmod p y.length<y.length:=by
   have:=Int.tmod_lt_of_pos p hpos
   have h3:=Int.lt_tmod_of_pos p hpos
   omega
  rw [QdK (by omega)]
  have g2:=Int.tmod_nonneg (a:=Int.tmod p y.length+y.length) (y.length:Int) (by omega)
  have g3:=Int.tmod_lt_of_pos (Int.tmod p y.length+y.length) hpos
  refine TotP.bind (TotP.idx g2 g3) fun o ho=>?_
  have hoo:=hy.2 o ho
  refine TotP.bind (t_Do n a o _ h ha (by omega) hoo).self fun z hz=>?_
  refine TotP.bif (fun _=>TotP.ok (Qm fun l' e=>(by rcases e with e | e<;>cases e;exact done))) fun hc3=>?_
  simp only [bne_eq_false_iff_eq]at hc3
  refine TotP.bind (TotP.chk (by simp;omega)) fun _ _=>?_
  have hw:w64 (x+1)=x+1:=QdK (by omega)
  refine TotP.ok (Qz ⟨by omega,by show w64 (x+1)=_;omega,?_,fun o' ho'=>?_,?_⟩)
  ·show((l++[o]).length:Int)≤w64 (x+1)
   simp;omega
  ·rcases List.mem_append.1 ho' with ho' | ho'
   ·exact j2 o' ho'
   ·simp at ho';subst ho';exact hoo
  ·show Qct n m (l++[o])=some z.1
   rw [Qua,j3,Option.bind_some,Qct,hz.1,Option.bind_some,hc3];rfl
 ·rcases q with q | q
  ·exact TotP.ok (hq q (.inl rfl))
  ·exact TotP.ok (hq q (.inr rfl))
theorem Qtt (b:List (Int×Int))(h:b.length≤maxLen):Qa9 b b=some true:=by
 unfold Qa9
 rw [show((b.length:Int) != (b.length:Int))=false by simp,cond_false]
 obtain⟨r,h1,h2⟩:=(TotP.up (body:=fun st=>QY b b st) b.length (fun st=>st) (fun _=>True) (Q:=fun q:Unit⊕Unit=>q=.inr ()) (s0:=(0:Int)) rfl trivial (fun i st hi hn hJ=>by
  show TotP (QY b b st) _
  unfold QY
  refine TotP.bif (fun hc=>?_) (fun _=>TotP.ok (Qm rfl))
  simp only [decide_eq_true_eq]at hc
  rw [hi,Qbu,List.getElem?_eq_getElem (by omega),Option.bind_some,Option.bind_some]
  rw [show(!(((b[i]'(by omega)).1==(b[i]'(by omega)).1)&&((b[i]'(by omega)).2==(b[i]'(by omega)).2)))=false by simp,cond_false]
  exact TotP.ok (Qz ⟨by omega,Qv (by omega) h,trivial⟩)))
 rw [h1,h2];rfl
theorem QrO (b:List (Int×Int))(hr:Rt b)(h:b.length≤maxLen):Qj4 b b=some true:=by
 unfold Qj4 Qla
 rw [Qkj b h,QdL.2 hr]
 simp only [Option.bind_some,cond_true]
 rw [Qtt b h];rfl
theorem Qm2 {n:TNet}(h:QaZ n){c:Nat}{m:List (List (Int×Int))}(hm:MOk n c m)(hc:c≤1000000):Qf4 m m=some true:=by
 have hpl:=h.pl
 have hm1:=hm.1
 unfold Qf4 QL
 rw [show((m.length:Int) != (m.length:Int))=false by simp,cond_false]
 obtain⟨r,h1,h2⟩:=(TotP.up (body:=fun st=>Qx m m st) m.length (fun st=>st) (fun _=>True) (Q:=fun q:Unit⊕Unit=>q=.inr ()) (s0:=(0:Int)) rfl trivial (fun i st hi hn hJ=>by
  show TotP (Qx m m st) _
  unfold Qx
  refine TotP.bif (fun hc=>?_) (fun _=>TotP.ok (Qm rfl))
  simp only [decide_eq_true_eq]at hc
  have hlt:i<m.length:=by omega
  have hb:=hm.2 _ (List.getElem_mem hlt)
  rw [hi,Qbu,List.getElem?_eq_getElem hlt,Option.bind_some,Option.bind_some,QrO _ hb.1 (by unfold maxLen;omega),Option.bind_some]
  exact TotP.ok (Qz ⟨hlt,Qv hlt (by unfold maxLen;omega),trivial⟩)))
 rw [h1,h2];rfl
end Go.Proofs
