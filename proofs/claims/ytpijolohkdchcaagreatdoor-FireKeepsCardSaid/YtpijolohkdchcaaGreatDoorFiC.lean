/- A part of the proof; what it holds is told at each theorem. -/
import Derived.Test.YtpijolohkdchcaaGreatDoorFiB
set_option linter.unusedVariables false
set_option linter.unusedSimpArgs false
set_option linter.unusedSectionVars false
set_option linter.deprecated false
noncomputable section
namespace Go.Proofs
open Go Go.RowKit Go.Vm
theorem Qrx (s:Qaa)(m:Int)(h:0≤s.k∧s.k<s.sizes.length):TotP (Qcu s m) fun r=>r=true→0≤m:=by
 unfold Qcu
 refine TotP.bind (P:=fun r=>r=true→0≤m) ?_ fun x hx=>TotP.ok hx
 unfold Qff
 refine TotP.bif (fun hc=>?_) fun _=>TotP.ok fun h=>by cases h
 exact TotP.bind (TotP.idx h.1 h.2) fun _ _=>TotP.ok fun _=>by simpa using hc
theorem Qkk (s:Qaa)(h:0≤s.k∧s.k<s.all.length):TotP (Qbw s) fun _=>True:=by
 unfold Qbw
 exact TotP.bind (TotP.idx h.1 h.2) fun _ _=>TotP.okT
theorem QuC (l:List Qy)(k m:Int)(hl:lenL QbU l):TotP (QfA l k m) fun _=>True:=by
 unfold QfA
 refine TotP.bind (Qi8 l k hl) fun x hx=>?_
 refine TotP.bind (P:=fun r=>r=false→x.1=true) ?_ fun r hr=>?_
 ·unfold QhX
  refine TotP.bif (fun _=>TotP.ok fun h=>by cases h) fun hc=>?_
  have hc:x.1=true:=by simpa using hc
  have h:=hx.2 hc
  exact TotP.bind (Qrx x.2 m (by omega)) fun _ _=>TotP.ok fun _=>hc
 ·unfold QdC
  refine TotP.bif (fun _=>TotP.okT) fun hc=>?_
  have h:=hx.2 (hr hc)
  refine TotP.bind (Qkk x.2 (by omega)) fun _ _=>?_
  refine TotP.bif (fun _=>?_) fun _=>TotP.okT
  exact TotP.bind (Qkk x.2 (by omega)) fun _ _=>TotP.okT
theorem QuD (l:List Qy)(k n:Int)(hl:lenL QbU l):TotP (QcS l k n) fun r=>r.2=true→0≤r.1:=by
 unfold QcS
 refine TotP.bind (Qi8 l k hl) fun x hx=>?_
 refine TotP.bif (fun _=>TotP.ok fun h=>by cases h) fun hc=>?_
 have h:=hx.2 (by simpa using hc)
 have k1:∀m,TotP (Qbf x m) fun r=>r.2=true→0≤r.1:=fun m=>by
  unfold Qbf
  refine TotP.bind (Qrx x.2 m (by omega)) fun y hy=>?_
  exact TotP.bif (fun _=>TotP.ok fun h=>by cases h) fun hc=>TotP.ok fun _=>hy (by simpa using hc)
 refine TotP.bind (Qkk x.2 (by omega)) fun _ _=>?_
 refine TotP.bif (fun _=>?_) fun _=>k1 _
 exact TotP.bif (fun _=>TotP.ok fun h=>by cases h) fun _=>k1 _
theorem Qt5 (l:List Qy)(k n:Int)(hl:lenL QbU l):TotP (QcS l k n) fun r=>r.2=true→∃z,Qa1 l k=some z∧r.1<z:=by
 unfold QcS Qa1
 refine TotP.bind (Qi8 l k hl).self fun x hx=>?_
 obtain⟨hxe,hx⟩:=hx
 refine TotP.bif (fun _=>TotP.ok fun h=>by cases h) fun hc=>?_
 have h:=hx.2 (by simpa using hc)
 have hk:k.toNat<x.2.sizes.length:=by omega
 have ei:idx x.2.sizes k=some x.2.sizes[k.toNat]:=QtV h.1.1 h.1.2
 have k1:∀m,TotP (Qbf x m) fun r=>r.2=true→∃z,((Qeu l k).bind fun x5=>bif (!x5.1)then some 0 else(idx x5.2.sizes k).bind fun e7=>some e7)=some z∧r.1<z:=fun m=>by
  unfold Qbf
  refine TotP.bind (P:=fun y=>y=true→m<x.2.sizes[k.toNat]) ?_ fun y hy=>?_
  ·unfold Qcu
   refine TotP.bind (P:=fun y=>y=true→m<x.2.sizes[k.toNat]) ?_ fun y hy=>TotP.ok hy
   unfold Qff
   refine TotP.bif (fun _=>?_) fun _=>TotP.ok fun h=>by cases h
   rw [h.2.1,ei,Option.bind_some]
   exact TotP.ok fun h=>by simpa using h
  ·refine TotP.bif (fun _=>TotP.ok fun h=>by cases h) fun hc2=>TotP.ok fun _=>⟨x.2.sizes[k.toNat],?_,hy (by simpa using hc2)⟩
   rw [hxe,Option.bind_some,hc,cond_false,ei];rfl
 refine TotP.bind (Qkk x.2 (by omega)) fun _ _=>?_
 refine TotP.bif (fun _=>?_) fun _=>k1 _
 exact TotP.bif (fun _=>TotP.ok fun h=>by cases h) fun _=>k1 _
theorem Qjw {α:Type}{o:Option α}{P:α→Prop}(h:TotP o P){r:α}(e:o=some r):P r:=by
 obtain⟨r',h1,h2⟩:=h
 rw [e]at h1;cases h1;exact h2
theorem Qsr : ∀(n:Nat) (v:List Int) (e:Qf),POk v.length e→SizeOf.sizeOf e≤n→TotP (Qai n v e) fun _=>True
 | 0,_,e,_,h=>absurd e.pos (by omega)
 | n+1,v,e,he,h=>by
  cases he with
  | mk _ hk h2 h3 h5 h6 hr=>
  unfold Qai Qgd
  have sub:∀(j:Nat) (hj:j<e.Kids.length),TotP (Qai n v (e.Kids[j])) fun _=>True:=fun j hj=>
   Qsr n v _ (hr _ (List.getElem_mem hj)) (by have:=QoD (List.getElem_mem hj);omega)
  have kid:∀(j:Nat) (hj:j<e.Kids.length),idx e.Kids (j:Int)=some e.Kids[j]:=fun j hj=>by rw [Qbu,List.getElem?_eq_getElem hj]
  rcases hk with hk | hk | hk | hk | hk | hk
  ·refine TotP.bind (P:=fun x=>x=.inl v) (by unfold Qbx;rw [hk];exact TotP.ok rfl) fun x hx=>?_
   subst hx
   exact TotP.okT
  ·refine TotP.bind (P:=fun x=>x=.inr (.inl v)) (by unfold Qbx;rw [hk];exact TotP.ok rfl) fun x hx=>?_
   subst hx
   show TotP (QdE e v) _
   unfold QdE Qfh
   have:=h2 hk
   exact TotP.bind (TotP.bind (TotP.idx (by omega) (by omega)) fun _ _=>TotP.okT) fun _ _=>TotP.okT
  ·refine TotP.bind (P:=fun x=>x=.inr (.inr (.inl v))) (by unfold Qbx Qbe;rw [hk];exact TotP.ok rfl) fun x hx=>?_
   subst hx
   show TotP (QbL (Qai n) e v) _
   unfold QbL Qee
   have hl:=h3 (.inl hk)
   refine TotP.bind (P:=fun _=>True) ?_ fun _ _=>TotP.okT
   rw [show idx e.Kids 0=some (e.Kids[0]'(by omega))from kid 0 (by omega),Option.bind_some]
   refine TotP.bind (sub 0 (by omega)) fun x _=>?_
   refine TotP.bif (fun _=>TotP.okT) fun _=>TotP.bif (fun _=>TotP.bind (QoQ _) fun _ _=>TotP.okT) fun _=>TotP.bind (QiY _ _ _) fun _ _=>TotP.okT
  ·refine TotP.bind (P:=fun x=>x=.inr (.inr (.inl v))) (by unfold Qbx Qbe;rw [hk];exact TotP.ok rfl) fun x hx=>?_
   subst hx
   show TotP (QbL (Qai n) e v) _
   unfold QbL Qee
   have hl:=h3 (.inr hk)
   refine TotP.bind (P:=fun _=>True) ?_ fun _ _=>TotP.okT
   rw [show idx e.Kids 0=some (e.Kids[0]'(by omega))from kid 0 (by omega),Option.bind_some]
   refine TotP.bind (sub 0 (by omega)) fun x _=>?_
   refine TotP.bif (fun _=>TotP.okT) fun _=>TotP.bif (fun _=>TotP.bind (QoQ _) fun _ _=>TotP.okT) fun _=>TotP.bind (QiY _ _ _) fun _ _=>TotP.okT
  ·refine TotP.bind (P:=fun x=>x=.inr (.inr (.inr (.inl v)))) (by unfold Qbx Qbe;rw [hk];exact TotP.ok rfl) fun x hx=>?_
   subst hx
   show TotP (QdF (Qai n) e v) _
   unfold QdF Qiq
   have hl:=h5 hk
   refine TotP.bind (P:=fun _=>True) ?_ fun _ _=>TotP.okT
   rw [show idx e.Kids 0=some (e.Kids[0]'(by omega))from kid 0 (by omega),Option.bind_some]
   refine TotP.bind (sub 0 (by omega)) fun x _=>?_
   have k1:∀b,TotP (Qb5 x e (Qai n) v b) fun _=>True:=fun b=>by
    unfold Qb5
    refine TotP.bif (fun _=>TotP.bind (QiY _ _ _) fun _ _=>TotP.okT) fun _=>?_
    rw [show idx e.Kids 1=some (e.Kids[1]'(by omega))from kid 1 (by omega),Option.bind_some]
    refine TotP.bind (sub 1 (by omega)) fun y _=>?_
    exact TotP.bif (fun _=>TotP.okT) fun _=>TotP.bind (QiY _ _ _) fun _ _=>TotP.okT
   exact TotP.bif (fun _=>TotP.okT) fun _=>TotP.bif (fun _=>k1 _) fun _=>TotP.bif (fun _=>k1 _) fun _=>k1 _
  ·refine TotP.bind (P:=fun x=>x=.inr (.inr (.inr (.inr v)))) (by unfold Qbx Qbe;rw [hk];exact TotP.ok rfl) fun x hx=>?_
   subst hx
   show TotP (QdG (Qai n) e v) _
   unfold QdG Qgc
   have hl:=h6 hk
   refine TotP.bind (P:=fun _=>True) ?_ fun _ _=>TotP.okT
   rw [show idx e.Kids 0=some (e.Kids[0]'(by omega))from kid 0 (by omega),Option.bind_some]
   refine TotP.bind (sub 0 (by omega)) fun x _=>?_
   refine TotP.bif (fun _=>TotP.okT) fun _=>TotP.bif (fun _=>?_) fun _=>?_
   ·rw [show idx e.Kids 1=some (e.Kids[1]'(by omega))from kid 1 (by omega),Option.bind_some]
    exact TotP.bind (sub 1 (by omega)) fun y _=>TotP.okT
   ·rw [show idx e.Kids 2=some (e.Kids[2]'(by omega))from kid 2 (by omega),Option.bind_some]
    exact TotP.bind (sub 2 (by omega)) fun y _=>TotP.okT
theorem Qt6 (e:Qf)(v:List Int)(h:QcK e):TotP (Qhq e v) fun _=>True:=by
 unfold Qhq
 refine TotP.bind (QkI e v.length h) fun x hx=>?_
 refine TotP.bif (fun _=>TotP.okT) fun hc=>?_
 unfold QjM
 exact TotP.bind (Qsr _ v e (hx (by simpa using hc)) (Nat.le_refl _)) fun _ _=>TotP.okT
theorem Qtq (n:TNet)(task:Int)(vars:List Int)(h:QaZ n):TotP (QgV n task vars) fun r=>r.2=0→0≤task∧task<n.Tasks.length:=by
 unfold QgV
 refine TotP.bif (fun _=>TotP.ok fun h=>by cases h) fun hc=>?_
 simp only [Bool.or_eq_false_iff,decide_eq_false_iff_not]at hc
 refine TotP.bind (TotP.idx (by omega) (by omega)) fun e he=>?_
 have hv:=(h.tk e he).1
 have ke:=h.k.2.2.1.2 e he
 refine TotP.bif (fun _=>TotP.ok fun h=>by cases h) fun hl=>?_
 simp only [bne_eq_false_iff_eq]at hl
 refine TotP.bind (TotP.chk (by simp only [Bool.and_eq_true,decide_eq_true_eq];omega)) fun _ _=>?_
 refine TotP.mono (P:=fun _=>True) ?_ fun _ _ _=>by omega
 refine TotP.bind (TotP.up e.Vars.length (fun st=>st.1) (fun st=>st.2.length=e.Vars.length) (Q:=fun _=>True) rfl (by simp) (fun i st hi hn hJ=>?_)) (fun q _=>?_)
 ·obtain⟨x,l⟩:=st
  replace hi:x=(i:Int):=hi
  replace hJ:l.length=e.Vars.length:=hJ
  show TotP (Qfr e vars n x l) _
  unfold Qfr
  refine TotP.bif (fun hc=>?_) (fun _=>TotP.ok (Qm trivial))
  simp only [decide_eq_true_eq]at hc
  refine TotP.bind (TotP.idx (by omega) (by omega)) fun a _=>?_
  refine TotP.bind (TotP.idx (by omega) (by omega)) fun b _=>?_
  refine TotP.bind (QuC _ _ _ h.k.1) fun c _=>?_
  refine TotP.bif (fun _=>TotP.ok (Qm trivial)) fun _=>?_
  refine TotP.bind (TotP.idx (by omega) (by omega)) fun d _=>?_
  exact TotP.ok (Qz ⟨by omega,by subst hi;exact Qv (by omega) (by unfold maxLen;omega:e.Vars.length≤maxLen),by simpa using hJ⟩)
 ·rcases q with q | q
  ·exact TotP.okT
  ·exact TotP.okT
theorem Qlu {α:Type}{l:List α}{i:Nat}{x y:α}(h:y∈l.set i x):y=x∨y∈l:=by
 rcases List.mem_or_eq_of_mem_set h with h | h
 ·exact .inr h
 ·exact .inl h
theorem Ql5 (n:TNet)(l:List TArc)(which env:List Int)(h:QaZ n)(hl:lenL Qid l)(hw:which.length≤1000):TotP (Qcr n l which env) fun r=>r.2=0→MOk n which.length r.1∧Low n r.1:=by
 unfold Qcr
 have hpl:=h.pl
 refine TotP.bind (TotP.chk (by simp only [Bool.and_eq_true,decide_eq_true_eq];omega)) fun _ _=>?_
 refine TotP.bind (TotP.up which.length (fun st=>st.1) (fun st=>(st.2.length=n.Places.length∧∀b∈st.2,Rt b∧(b.length:Int)≤st.1)∧Low n st.2) (Q:=fun q=>(∀x,q=.inl x→x≠0)∧∀m,q=.inr m→MOk n which.length m∧Low n m) rfl ⟨⟨by simp,fun b hb=>?_⟩,fun j b p hb hp k hk=>?_⟩ (fun i st hi hn hJ=>?_)) (fun q hq=>?_)
 ·have:=List.eq_of_mem_replicate hb
  subst this
  exact⟨Rt.nil,by simp⟩
 ·have:=List.eq_of_mem_replicate (List.mem_of_getElem? hb)
  subst this
  simp [cntL,mget]at hk
 ·obtain⟨x,m⟩:=st
  replace hi:x=(i:Int):=hi
  obtain⟨⟨hJ1,hJ2⟩,hJ3⟩:(m.length=n.Places.length∧∀b∈m,Rt b∧(b.length:Int)≤x)∧Low n m:=hJ
  have err:∀y:Int,y≠0→(∀s',(Sum.inr (Sum.inl y):(Int×List (List (Int×Int)))⊕(Int⊕List (List (Int×Int))))=.inl s'→i<which.length∧s'.1=((i+1:Nat):Int)∧(s'.2.length=n.Places.length∧∀b∈s'.2,Rt b∧(b.length:Int)≤s'.1)∧Low n s'.2)∧∀r,(Sum.inr (Sum.inl y):(Int×List (List (Int×Int)))⊕(Int⊕List (List (Int×Int))))=.inr r→(∀x,r=.inl x→x≠0)∧∀m,r=.inr m→MOk n which.length m∧Low n m:=
   fun y hy=>⟨fun s' e=>(by cases e),fun r e=>(by cases e;exact⟨fun x e=>(by cases e;exact hy),fun m e=>(by cases e)⟩)⟩
  show TotP (Qdq which l env n x m) _
  unfold Qdq
  refine TotP.bif (fun hc=>?_) (fun hc=>TotP.ok (Qm ⟨fun x e=>(by cases e),fun m' e=>?_⟩))
  ·simp only [decide_eq_true_eq]at hc
   refine TotP.bind (TotP.idx (by omega) (by omega)) fun e18 _=>?_
   refine TotP.bif (fun _=>TotP.ok (err _ (by decide))) fun hc1=>?_
   simp only [Bool.or_eq_false_iff,decide_eq_false_iff_not]at hc1
   refine TotP.bind (TotP.idx (by omega) (by omega)) fun e22 h22=>?_
   refine TotP.bind (Qt6 e22.Expr env (hl.2 e22 h22).2) fun x23 _=>?_
   refine TotP.bif (fun hc2=>TotP.ok (err _ (by simpa using hc2))) fun _=>?_
   refine TotP.bind (TotP.idx (by omega) (by omega)) fun e25 _=>?_
   refine TotP.bif (fun _=>TotP.ok (err _ (by decide))) fun hc3=>?_
   simp only [Bool.or_eq_false_iff,decide_eq_false_iff_not]at hc3
   refine TotP.bind (TotP.idx (by omega) (by omega)).self fun e29 h29=>?_
   refine TotP.bind (QuD _ _ _ h.k.1).self fun x30 h30=>?_
   refine TotP.bif (fun _=>TotP.ok (err _ (by decide))) fun hc4=>?_
   have hz:=Qjw (Qt5 _ _ _ h.k.1) h30.1 (by simpa using hc4)
   have h30:=h30.2 (by simpa using hc4)
   refine TotP.bind (TotP.idx (by omega) (by omega)).self fun e32 h32e=>?_
   have h32:=h32e.2
   have h32e:=h32e.1
   have h29:=h29.1
   rw [Qtp,decide_eq_true h30]
   simp only [cond_true,Option.bind_some]
   have hb:=hJ2 e32 h32
   have key:∃s,QaO e32 [(x30.1,1)]=some s∧(s.2=0→(Rt s.1∧s.1.length≤e32.length+1)∧∀k,cntL s.1 k=cntL e32 k+cntL [(x30.1,1)] k):=by
    rcases Qig e32 [(x30.1,1)] (by simp;omega)with⟨_,e⟩|⟨_,_,_,e⟩|⟨_,_,r,e,h1,hcn,h2⟩
    ·exact⟨_,e,fun h=>by cases h⟩
    ·exact⟨_,e,fun h=>by cases h⟩
    ·exact⟨_,e,fun _=>⟨⟨h1,by simpa using h2⟩,hcn⟩⟩
   obtain⟨s,es,hs⟩:=key
   rw [es,Option.bind_some]
   refine TotP.bind (TotP.idx (by omega) (by omega)) fun _ _=>?_
   refine TotP.bif (fun hc5=>TotP.ok (err _ (by simpa using hc5))) fun hc5=>?_
   obtain⟨hs,hcn⟩:=hs (by simpa using hc5)
   refine TotP.ok (Qz ⟨by omega,by subst hi;exact Qv (by omega) (by unfold maxLen;omega:which.length≤maxLen),⟨by simpa using hJ1,fun b hb'=>?_⟩,fun j b p hb' hp k hk=>?_⟩)
   ·subst hi
    show Rt b∧(b.length:Int)≤w64 ((i:Int)+1)
    rw [Qv (by omega) (by unfold maxLen;omega:which.length≤maxLen)]
    rcases Qlu hb' with rfl | hb'
    ·exact⟨hs.1,by omega⟩
    ·have:=hJ2 b hb'
     exact⟨this.1,by omega⟩
   ·have hb':(m.set e25.Place.toNat s.1)[j]? = some b:=hb'
    by_cases cj:e25.Place.toNat=j
    ·subst cj
     rw [List.getElem?_set_self (by omega)]at hb'
     cases hb'
     rw [QmU (by omega)]at h29 h32e
     rw [h29]at hp
     cases hp
     rw [hcn]at hk
     by_cases c0:0<cntL e32 k
     ·exact hJ3 _ e32 e29 h32e h29 k c0
     ·have h9:0<cntL [(x30.1,1)] k:=by omega
      have h8:x30.1=k:=by
       apply Decidable.byContradiction
       intro hne
       simp [cntL,mget,hne]at h9
      obtain⟨z,hz1,hz2⟩:=hz
      exact⟨z,hz1,by omega⟩
    ·rw [List.getElem?_set_ne cj]at hb'
     exact hJ3 j b p hb' hp k hk
  ·cases e
   exact⟨⟨hJ1,fun b hb=>⟨(hJ2 b hb).1,by have:=(hJ2 b hb).2;omega⟩⟩,hJ3⟩
 ·rcases q with q | q
  ·exact TotP.ok fun h=>absurd h (hq.1 q rfl)
  ·exact TotP.ok fun _=>hq.2 q rfl
theorem Qss (a m:List (List (Int×Int)))(ha:lenL (lenL fun _=>True) a)(hm:lenL (lenL fun _=>True) m):TotP (Qft a m) fun _=>True:=by
 unfold Qft QO
 refine TotP.bind (P:=fun _=>True) ?_ fun _ _=>TotP.okT
 refine TotP.bif (fun _=>TotP.okT) fun hc=>?_
 simp only [bne_eq_false_iff_eq]at hc
 refine TotP.bind (TotP.up a.length (fun st=>st) (fun _=>True) (Q:=fun _=>True) rfl trivial (fun i st hi hn hJ=>?_)) (fun q _=>?_)
 ·show TotP (QD a m st) _
  unfold QD
  refine TotP.bif (fun hc=>?_) (fun _=>TotP.ok (Qm trivial))
  simp only [decide_eq_true_eq]at hc
  refine TotP.bind (TotP.idx (by omega) (by omega)) fun x hx=>?_
  refine TotP.bind (TotP.idx (by omega) (by omega)) fun y hy=>?_
  refine TotP.bind (P:=fun _=>True) (by obtain⟨r,hr,_⟩:=QqR x y (ha.2 x hx).1 (hm.2 y hy).1;exact⟨r,hr,trivial⟩) fun _ _=>?_
  exact TotP.bif (fun _=>TotP.ok (Qm trivial)) fun _=>TotP.ok (Qz ⟨by omega,by rw [hi];exact Qv (by omega) ha.1,trivial⟩)
 ·rcases q with q | q
  ·exact TotP.okT
  ·exact TotP.okT
theorem MOk.len {n:TNet}{c:Nat}{m:List (List (Int×Int))}(h:MOk n c m)(hn:QaZ n)(hc:c≤1000000):lenL (lenL fun _=>True) m:=
 ⟨by have:=h.1;have:=hn.pl;unfold maxLen;omega,fun b hb=>⟨by have:=(h.2 b hb).2;unfold maxLen;omega,fun _ _=>trivial⟩⟩
end Go.Proofs
