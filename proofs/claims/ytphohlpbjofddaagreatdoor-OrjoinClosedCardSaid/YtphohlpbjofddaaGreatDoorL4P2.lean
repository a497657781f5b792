/- A part of the proof; what it holds is told at each theorem. -/
import Derived.Test.YtphohlpbjofddaaGreatDoorL4P1
import Derived.KernelRfl
import Derived.Test.YtphohlpbjofddaaGreatDoorL4T3
import Derived.Test.YtphohlpbjofddaaGreatDoorL4P1
import Derived.Test.YtphohlpbjofddaaGreatDoorL4P1
set_option linter.unusedVariables false
set_option linter.unusedSimpArgs false
set_option linter.unusedSectionVars false
set_option linter.deprecated false
noncomputable section
namespace Go.Proofs
open Go Go.RowKit Go.Vm
theorem QsZ (s:Qah)(m:Int)(h:0≤s.k∧s.k<s.sizes.length):TotP (Qb2 s m) fun r=>r=true→0≤m:=by
 unfold Qb2
 refine TotP.bind (P:=fun r=>r=true→0≤m) ?_ fun x hx=>TotP.ok hx
 unfold QdH
 refine TotP.bif (fun hc=>?_) fun _=>TotP.ok fun h=>by cases h
 exact TotP.bind (TotP.idx h.1 h.2) fun _ _=>TotP.ok fun _=>by simpa using hc
theorem Qhz (s:Qah)(h:0≤s.k∧s.k<s.all.length):TotP (QbN s) fun _=>True:=by
 unfold QbN
 exact TotP.bind (TotP.idx h.1 h.2) fun _ _=>TotP.okT
theorem QwR (l:List QB)(k m:Int)(hl:lenL QbM l):TotP (Qdg l k m) fun _=>True:=by
 unfold Qdg
 refine TotP.bind (Qig l k hl) fun x hx=>?_
 refine TotP.bind (P:=fun r=>r=false→x.1=true) ?_ fun r hr=>?_
 ·unfold Qgn
  refine TotP.bif (fun _=>TotP.ok fun h=>by cases h) fun hc=>?_
  have hc:x.1=true:=by simpa using hc
  have h:=hx.2 hc
  exact TotP.bind (QsZ x.2 m (by omega)) fun _ _=>TotP.ok fun _=>hc
 ·unfold QcW
  refine TotP.bif (fun _=>TotP.okT) fun hc=>?_
  have h:=hx.2 (hr hc)
  refine TotP.bind (Qhz x.2 (by omega)) fun _ _=>?_
  refine TotP.bif (fun _=>?_) fun _=>TotP.okT
  exact TotP.bind (Qhz x.2 (by omega)) fun _ _=>TotP.okT
theorem QwS (l:List QB)(k n:Int)(hl:lenL QbM l):TotP (Qdh l k n) fun r=>r.2=true→0≤r.1:=by
 unfold Qdh
 refine TotP.bind (Qig l k hl) fun x hx=>?_
 refine TotP.bif (fun _=>TotP.ok fun h=>by cases h) fun hc=>?_
 have h:=hx.2 (by simpa using hc)
 have k1:∀m,TotP (Qbu x m) fun r=>r.2=true→0≤r.1:=fun m=>by
  unfold Qbu
  refine TotP.bind (QsZ x.2 m (by omega)) fun y hy=>?_
  exact TotP.bif (fun _=>TotP.ok fun h=>by cases h) fun hc=>TotP.ok fun _=>hy (by simpa using hc)
 refine TotP.bind (Qhz x.2 (by omega)) fun _ _=>?_
 refine TotP.bif (fun _=>?_) fun _=>k1 _
 exact TotP.bif (fun _=>TotP.ok fun h=>by cases h) fun _=>k1 _
theorem Qv6 (l:List QB)(k n:Int)(hl:lenL QbM l):TotP (Qdh l k n) fun r=>r.2=true→∃z,QaG l k=some z∧r.1<z:=by
 unfold Qdh QaG
 refine TotP.bind (Qig l k hl).self fun x hx=>?_
 obtain⟨hxe,hx⟩:=hx
 refine TotP.bif (fun _=>TotP.ok fun h=>by cases h) fun hc=>?_
 have h:=hx.2 (by simpa using hc)
 have hk:k.toNat<x.2.sizes.length:=by omega
 have ei:idx x.2.sizes k=some x.2.sizes[k.toNat]:=QpM h.1.1 h.1.2
 have k1:∀m,TotP (Qbu x m) fun r=>r.2=true→∃z,((Qd1 l k).bind fun x5=>bif (!x5.1)then some 0 else(idx x5.2.sizes k).bind fun e7=>some e7)=some z∧r.1<z:=fun m=>by
  unfold Qbu
  refine TotP.bind (P:=fun y=>y=true→m<x.2.sizes[k.toNat]) ?_ fun y hy=>?_
  ·unfold Qb2
   refine TotP.bind (P:=fun y=>y=true→m<x.2.sizes[k.toNat]) ?_ fun y hy=>TotP.ok hy
   unfold QdH
   refine TotP.bif (fun _=>?_) fun _=>TotP.ok fun h=>by cases h
   rw [h.2.1,ei,Option.bind_some]
   exact TotP.ok fun h=>by simpa using h
  ·refine TotP.bif (fun _=>TotP.ok fun h=>by cases h) fun hc2=>TotP.ok fun _=>⟨x.2.sizes[k.toNat],?_,hy (by simpa using hc2)⟩
   rw [hxe,Option.bind_some,hc,cond_false,ei];rfl
 refine TotP.bind (Qhz x.2 (by omega)) fun _ _=>?_
 refine TotP.bif (fun _=>?_) fun _=>k1 _
 exact TotP.bif (fun _=>TotP.ok fun h=>by cases h) fun _=>k1 _
theorem QhA {α:Type}{o:Option α}{P:α→Prop}(h:TotP o P){r:α}(e:o=some r):P r:=by
 obtain⟨r',h1,h2⟩:=h
 rw [e]at h1;cases h1;exact h2
theorem QtU : ∀(n:Nat) (v:List Int) (e:Qg),POk v.length e→SizeOf.sizeOf e≤n→TotP (Qas n v e) fun _=>True
 | 0,_,e,_,h=>absurd e.pos (by omega)
 | n+1,v,e,he,h=>by
  cases he with
  | mk _ hk h2 h3 h5 h6 hr=>
  unfold Qas Qg1
  have sub:∀(j:Nat) (hj:j<e.Kids.length),TotP (Qas n v (e.Kids[j])) fun _=>True:=fun j hj=>
   QtU n v _ (hr _ (List.getElem_mem hj)) (by have:=QpN (List.getElem_mem hj);omega)
  have kid:∀(j:Nat) (hj:j<e.Kids.length),idx e.Kids (j:Int)=some e.Kids[j]:=fun j hj=>by rw [QX,List.getElem?_eq_getElem hj]
  rcases hk with hk | hk | hk | hk | hk | hk
  ·refine TotP.bind (P:=fun x=>x=.inl v) (by unfold QbP;rw [hk];exact TotP.ok rfl) fun x hx=>?_
   subst hx
   exact TotP.okT
  ·refine TotP.bind (P:=fun x=>x=.inr (.inl v)) (by unfold QbP;rw [hk];exact TotP.ok rfl) fun x hx=>?_
   subst hx
   show TotP (Qd9 e v) _
   unfold Qd9 QfY
   have:=h2 hk
   exact TotP.bind (TotP.bind (TotP.idx (by omega) (by omega)) fun _ _=>TotP.okT) fun _ _=>TotP.okT
  ·refine TotP.bind (P:=fun x=>x=.inr (.inr (.inl v))) (by unfold QbP Qbt;rw [hk];exact TotP.ok rfl) fun x hx=>?_
   subst hx
   show TotP (Qb3 (Qas n) e v) _
   unfold Qb3 QeI
   have hl:=h3 (.inl hk)
   refine TotP.bind (P:=fun _=>True) ?_ fun _ _=>TotP.okT
   rw [show idx e.Kids 0=some (e.Kids[0]'(by omega))from kid 0 (by omega),Option.bind_some]
   refine TotP.bind (sub 0 (by omega)) fun x _=>?_
   refine TotP.bif (fun _=>TotP.okT) fun _=>TotP.bif (fun _=>TotP.bind (Qp0 _) fun _ _=>TotP.okT) fun _=>TotP.bind (QjZ _ _ _) fun _ _=>TotP.okT
  ·refine TotP.bind (P:=fun x=>x=.inr (.inr (.inl v))) (by unfold QbP Qbt;rw [hk];exact TotP.ok rfl) fun x hx=>?_
   subst hx
   show TotP (Qb3 (Qas n) e v) _
   unfold Qb3 QeI
   have hl:=h3 (.inr hk)
   refine TotP.bind (P:=fun _=>True) ?_ fun _ _=>TotP.okT
   rw [show idx e.Kids 0=some (e.Kids[0]'(by omega))from kid 0 (by omega),Option.bind_some]
   refine TotP.bind (sub 0 (by omega)) fun x _=>?_
   refine TotP.bif (fun _=>TotP.okT) fun _=>TotP.bif (fun _=>TotP.bind (Qp0 _) fun _ _=>TotP.okT) fun _=>TotP.bind (QjZ _ _ _) fun _ _=>TotP.okT
  ·refine TotP.bind (P:=fun x=>x=.inr (.inr (.inr (.inl v)))) (by unfold QbP Qbt;rw [hk];exact TotP.ok rfl) fun x hx=>?_
   subst hx
   show TotP (Qea (Qas n) e v) _
   unfold Qea Qji
   have hl:=h5 hk
   refine TotP.bind (P:=fun _=>True) ?_ fun _ _=>TotP.okT
   rw [show idx e.Kids 0=some (e.Kids[0]'(by omega))from kid 0 (by omega),Option.bind_some]
   refine TotP.bind (sub 0 (by omega)) fun x _=>?_
   have k1:∀b,TotP (Qco x e (Qas n) v b) fun _=>True:=fun b=>by
    unfold Qco
    refine TotP.bif (fun _=>TotP.bind (QjZ _ _ _) fun _ _=>TotP.okT) fun _=>?_
    rw [show idx e.Kids 1=some (e.Kids[1]'(by omega))from kid 1 (by omega),Option.bind_some]
    refine TotP.bind (sub 1 (by omega)) fun y _=>?_
    exact TotP.bif (fun _=>TotP.okT) fun _=>TotP.bind (QjZ _ _ _) fun _ _=>TotP.okT
   exact TotP.bif (fun _=>TotP.okT) fun _=>TotP.bif (fun _=>k1 _) fun _=>TotP.bif (fun _=>k1 _) fun _=>k1 _
  ·refine TotP.bind (P:=fun x=>x=.inr (.inr (.inr (.inr v)))) (by unfold QbP Qbt;rw [hk];exact TotP.ok rfl) fun x hx=>?_
   subst hx
   show TotP (Qeb (Qas n) e v) _
   unfold Qeb Qg0
   have hl:=h6 hk
   refine TotP.bind (P:=fun _=>True) ?_ fun _ _=>TotP.okT
   rw [show idx e.Kids 0=some (e.Kids[0]'(by omega))from kid 0 (by omega),Option.bind_some]
   refine TotP.bind (sub 0 (by omega)) fun x _=>?_
   refine TotP.bif (fun _=>TotP.okT) fun _=>TotP.bif (fun _=>?_) fun _=>?_
   ·rw [show idx e.Kids 1=some (e.Kids[1]'(by omega))from kid 1 (by omega),Option.bind_some]
    exact TotP.bind (sub 1 (by omega)) fun y _=>TotP.okT
   ·rw [show idx e.Kids 2=some (e.Kids[2]'(by omega))from kid 2 (by omega),Option.bind_some]
    exact TotP.bind (sub 2 (by omega)) fun y _=>TotP.okT
theorem Qv7 (e:Qg)(v:List Int)(h:Qc6 e):TotP (Qim e v) fun _=>True:=by
 unfold Qim
 refine TotP.bind (QlI e v.length h) fun x hx=>?_
 refine TotP.bif (fun _=>TotP.okT) fun hc=>?_
 unfold QkY
 exact TotP.bind (QtU _ v e (hx (by simpa using hc)) (Nat.le_refl _)) fun _ _=>TotP.okT
theorem Qvi (n:TNet)(task:Int)(vars:List Int)(h:QY n):TotP (Qd2 n task vars) fun r=>r.2=0→0≤task∧task<n.Tasks.length:=by
 unfold Qd2
 refine TotP.bif (fun _=>TotP.ok fun h=>by cases h) fun hc=>?_
 simp only [Bool.or_eq_false_iff,decide_eq_false_iff_not]at hc
 refine TotP.bind (TotP.idx (by omega) (by omega)) fun e he=>?_
 have hv:=(h.tk e he).1
 have ke:=h.k.2.2.1.2 e he
 refine TotP.bif (fun _=>TotP.ok fun h=>by cases h) fun hl=>?_
 simp only [bne_eq_false_iff_eq]at hl
 refine TotP.bind (TotP.chk (by simp only [Bool.and_eq_true,decide_eq_true_eq];omega)) fun _ _=>?_
 refine TotP.mono (P:=fun _=>True) ?_ fun _ _ _=>by omega
 refine TotP.bind (TotP.up e.Vars.length (fun st=>st.1) (fun st=>st.2.length=e.Vars.length) (Q:=fun _=>True) rfl (by simp) (fun i st hi hn hJ=>?_)) (fun q _=>?_)
 ·obtain⟨x,l⟩:=st
  replace hi:x=(i:Int):=hi
  replace hJ:l.length=e.Vars.length:=hJ
  show TotP (Qdy e vars n x l) _
  unfold Qdy
  refine TotP.bif (fun hc=>?_) (fun _=>TotP.ok (Ql trivial))
  simp only [decide_eq_true_eq]at hc
  refine TotP.bind (TotP.idx (by omega) (by omega)) fun a _=>?_
  refine TotP.bind (TotP.idx (by omega) (by omega)) fun b _=>?_
  refine TotP.bind (QwR _ _ _ h.k.1) fun c _=>?_
  refine TotP.bif (fun _=>TotP.ok (Ql trivial)) fun _=>?_
  refine TotP.bind (TotP.idx (by omega) (by omega)) fun d _=>?_
  exact TotP.ok (Qx ⟨by omega,by subst hi;exact Qu (by omega) (by unfold maxLen;omega:e.Vars.length≤maxLen),by simpa using hJ⟩)
 ·rcases q with q | q
  ·exact TotP.okT
  ·exact TotP.okT
theorem Qoa {α:Type}{l:List α}{i:Nat}{x y:α}(h:y∈l.set i x):y=x∨y∈l:=by
 rcases List.mem_or_eq_of_mem_set h with h | h
 ·exact .inr h
 ·exact .inl h
theorem Qnb (n:TNet)(l:List TArc)(which env:List Int)(h:QY n)(hl:lenL Qi5 l)(hw:which.length≤1000):TotP (QcG n l which env) fun r=>r.2=0→MOk n which.length r.1∧Low n r.1:=by
 unfold QcG
 have hpl:=h.pl
 refine TotP.bind (TotP.chk (by simp only [Bool.and_eq_true,decide_eq_true_eq];omega)) fun _ _=>?_
 refine TotP.bind (TotP.up which.length (fun st=>st.1) (fun st=>(st.2.length=n.Places.length∧∀b∈st.2,Rt b∧(b.length:Int)≤st.1)∧Low n st.2) (Q:=fun q=>(∀x,q=.inl x→x≠0)∧∀m,q=.inr m→MOk n which.length m∧Low n m) rfl ⟨⟨by simp,fun b hb=>?_⟩,fun j b p hb hp k hk=>?_⟩ (fun i st hi hn hJ=>?_)) (fun q hq=>?_)
 ·have:=List.eq_of_mem_replicate hb
  subst this
  exact⟨Rt.nil,by simp⟩
 ·have:=List.eq_of_mem_replicate (List.mem_of_getElem? hb)
  subst this
  simp [cntL,mget]at hk
 ·obtain⟨x,m⟩:=st
  replace hi:x=(i:Int):=hi
  obtain⟨⟨hJ1,hJ2⟩,hJ3⟩:(m.length=n.Places.length∧∀b∈m,Rt b∧(b.length:Int)≤x)∧Low n m:=hJ
  have err:∀y:Int,y≠0→(∀s',(Sum.inr (Sum.inl y):(Int×List (List (Int×Int)))⊕(Int⊕List (List (Int×Int))))=.inl s'→i<which.length∧s'.1=((i+1:Nat):Int)∧(s'.2.length=n.Places.length∧∀b∈s'.2,Rt b∧(b.length:Int)≤s'.1)∧Low n s'.2)∧∀r,(Sum.inr (Sum.inl y):(Int×List (List (Int×Int)))⊕(Int⊕List (List (Int×Int))))=.inr r→(∀x,r=.inl x→x≠0)∧∀m,r=.inr m→MOk n which.length m∧Low n m:=
   fun y hy=>⟨fun s' e=>(by cases e),fun r e=>(by cases e;exact⟨fun x e=>(by cases e;exact hy),fun m e=>(by cases e)⟩)⟩
  show TotP (QdW which l env n x m) _
  unfold QdW
  refine TotP.bif (fun hc=>?_) (fun hc=>TotP.ok (Ql ⟨fun x e=>(by cases e),fun m' e=>?_⟩))
  ·simp only [decide_eq_true_eq]at hc
   refine TotP.bind (TotP.idx (by omega) (by omega)) fun e18 _=>?_
   refine TotP.bif (fun _=>TotP.ok (err _ (by decide))) fun hc1=>?_
   simp only [Bool.or_eq_false_iff,decide_eq_false_iff_not]at hc1
   refine TotP.bind (TotP.idx (by omega) (by omega)) fun e22 h22=>?_
   refine TotP.bind (Qv7 e22.Expr env (hl.2 e22 h22).2) fun x23 _=>?_
   refine TotP.bif (fun hc2=>TotP.ok (err _ (by simpa using hc2))) fun _=>?_
   refine TotP.bind (TotP.idx (by omega) (by omega)) fun e25 _=>?_
   refine TotP.bif (fun _=>TotP.ok (err _ (by decide))) fun hc3=>?_
   simp only [Bool.or_eq_false_iff,decide_eq_false_iff_not]at hc3
   refine TotP.bind (TotP.idx (by omega) (by omega)).self fun e29 h29=>?_
   refine TotP.bind (QwS _ _ _ h.k.1).self fun x30 h30=>?_
   refine TotP.bif (fun _=>TotP.ok (err _ (by decide))) fun hc4=>?_
   have hz:=QhA (Qv6 _ _ _ h.k.1) h30.1 (by simpa using hc4)
   have h30:=h30.2 (by simpa using hc4)
   refine TotP.bind (TotP.idx (by omega) (by omega)).self fun e32 h32e=>?_
   have h32:=h32e.2
   have h32e:=h32e.1
   have h29:=h29.1
   rw [Qvh,decide_eq_true h30]
   simp only [cond_true,Option.bind_some]
   have hb:=hJ2 e32 h32
   have key:∃s,Qba e32 [(x30.1,1)]=some s∧(s.2=0→(Rt s.1∧s.1.length≤e32.length+1)∧∀k,cntL s.1 k=cntL e32 k+cntL [(x30.1,1)] k):=by
    rcases Qlm e32 [(x30.1,1)] (by simp;omega)with⟨_,e⟩|⟨_,_,_,e⟩|⟨_,_,r,e,h1,hcn,h2⟩
    ·exact⟨_,e,fun h=>by cases h⟩
    ·exact⟨_,e,fun h=>by cases h⟩
    ·exact⟨_,e,fun _=>⟨⟨h1,by simpa using h2⟩,hcn⟩⟩
   obtain⟨s,es,hs⟩:=key
   rw [es,Option.bind_some]
   refine TotP.bind (TotP.idx (by omega) (by omega)) fun _ _=>?_
   refine TotP.bif (fun hc5=>TotP.ok (err _ (by simpa using hc5))) fun hc5=>?_
   obtain⟨hs,hcn⟩:=hs (by simpa using hc5)
   refine TotP.ok (Qx ⟨by omega,by subst hi;exact Qu (by omega) (by unfold maxLen;omega:which.length≤maxLen),⟨by simpa using hJ1,fun b hb'=>?_⟩,fun j b p hb' hp k hk=>?_⟩)
   ·subst hi
    show Rt b∧(b.length:Int)≤w64 ((i:Int)+1)
    rw [Qu (by omega) (by unfold maxLen;omega:which.length≤maxLen)]
    rcases Qoa hb' with rfl | hb'
    ·exact⟨hs.1,by omega⟩
    ·have:=hJ2 b hb'
     exact⟨this.1,by omega⟩
   ·have hb':(m.set e25.Place.toNat s.1)[j]? = some b:=hb'
    by_cases cj:e25.Place.toNat=j
    ·subst cj
     rw [List.getElem?_set_self (by omega)]at hb'
     cases hb'
     rw [QlG (by omega)]at h29 h32e
     rw [h29]at hp
     cases hp
     rw [hcn]at hk
     by_cases c0:0<cntL e32 k
     ·exact hJ3 _ e32 e29 h32e h29 k c0
     ·have h9:0<cntL [(x30.1,1)] k:=by omega
      have h8:x30.1=k:=by
       apply Decidable.byContradiction
       intro hne
       simp [cntL,mget,hne]at h9
      obtain⟨z,hz1,hz2⟩:=hz
      exact⟨z,hz1,by omega⟩
    ·rw [List.getElem?_set_ne cj]at hb'
     exact hJ3 j b p hb' hp k hk
  ·cases e
   exact⟨⟨hJ1,fun b hb=>⟨(hJ2 b hb).1,by have:=(hJ2 b hb).2;omega⟩⟩,hJ3⟩
 ·rcases q with q | q
  ·exact TotP.ok fun h=>absurd h (hq.1 q rfl)
  ·exact TotP.ok fun _=>hq.2 q rfl
theorem QtV (a m:List (List (Int×Int)))(ha:lenL (lenL fun _=>True) a)(hm:lenL (lenL fun _=>True) m):TotP (Qge a m) fun _=>True:=by
 unfold Qge QR
 refine TotP.bind (P:=fun _=>True) ?_ fun _ _=>TotP.okT
 refine TotP.bif (fun _=>TotP.okT) fun hc=>?_
 simp only [bne_eq_false_iff_eq]at hc
 refine TotP.bind (TotP.up a.length (fun st=>st) (fun _=>True) (Q:=fun _=>True) rfl trivial (fun i st hi hn hJ=>?_)) (fun q _=>?_)
 ·show TotP (QF a m st) _
  unfold QF
  refine TotP.bif (fun hc=>?_) (fun _=>TotP.ok (Ql trivial))
  simp only [decide_eq_true_eq]at hc
  refine TotP.bind (TotP.idx (by omega) (by omega)) fun x hx=>?_
  refine TotP.bind (TotP.idx (by omega) (by omega)) fun y hy=>?_
  refine TotP.bind (P:=fun _=>True) (by obtain⟨r,hr,_⟩:=Qse x y (ha.2 x hx).1 (hm.2 y hy).1;exact⟨r,hr,trivial⟩) fun _ _=>?_
  exact TotP.bif (fun _=>TotP.ok (Ql trivial)) fun _=>TotP.ok (Qx ⟨by omega,by rw [hi];exact Qu (by omega) ha.1,trivial⟩)
 ·rcases q with q | q
  ·exact TotP.okT
  ·exact TotP.okT
theorem MOk.len {n:TNet}{c:Nat}{m:List (List (Int×Int))}(h:MOk n c m)(hn:QY n)(hc:c≤1000000):lenL (lenL fun _=>True) m:=
 ⟨by have:=h.1;have:=hn.pl;unfold maxLen;omega,fun b hb=>⟨by have:=(h.2 b hb).2;unfold maxLen;omega,fun _ _=>trivial⟩⟩
end Go.Proofs
noncomputable section
namespace Go.Proofs
open Go Go.RowKit Go.Vm
structure BOk (n:TNet) (m:List (List (Int×Int))) (b:QD):Prop where
 net:b.net=n
 mm:b.m=m
 task:b.task∈n.Tasks
theorem Quz (n:TNet)(m:List (List (Int×Int)))(task:Int)(vars:List Int)(h:QY n):TotP (Qbj n m task vars) fun r=>r.1=0→BOk n m r.2:=by
 unfold Qbj
 refine TotP.bind (Qvi n task vars h) fun x hx=>?_
 refine TotP.bif (fun hc=>TotP.ok fun h=>absurd h (by simpa using hc)) fun hc=>?_
 have:=hx (by simpa using hc)
 exact TotP.bind (TotP.idx this.1 this.2) fun e he=>TotP.ok fun _=>⟨rfl,rfl,he⟩
theorem Qs0 (n:TNet)(m:List (List (Int×Int)))(b:QD)(h:QY n)(hb:BOk n m b):TotP (Q2 b) fun _=>True:=by
 unfold Q2
 refine TotP.bind (Qv7 _ _ (h.k.2.2.1.2 _ hb.task).2.2.1) fun x _=>?_
 exact TotP.bif (fun _=>TotP.okT) fun _=>TotP.bif (fun _=>TotP.okT) fun _=>TotP.okT
theorem QsG (n:TNet)(m:List (List (Int×Int)))(b:QD)(outs:List Int)(h:QY n)(hb:BOk n m b)(ho:outs.length≤1000):TotP (QaR b outs) fun _=>True:=by
 unfold QaR
 rw [hb.net]
 exact TotP.bind (Qnb n _ outs _ h (h.k.2.2.1.2 _ hb.task).2.2.2.2.2.2.1 ho) fun x _=>TotP.okT
theorem Qvj (l:List Int)(x:Int)(h:l.length≤maxLen):TotP (QaJ l x) fun _=>True:=QhH l x ⟨h,fun _ _=>trivial⟩
theorem QlW (l:List Int)(h:l.length≤4294967296):Qau l=some l:=by
 unfold Qau
 rw [QrW (by simpa using h)];rfl
theorem QwT (l:List Int)(h:l.length≤4294967296):QaS l=some (QeW l):=by
 unfold QaS
 rw [QrW (by omega)];rfl
theorem QuA (n:TNet)(m:List (List (Int×Int)))(b:QD)(ins:List Int)(h:QY n)(hb:BOk n m b)(hm:lenL (lenL fun _=>True) m)(hi:ins.length≤100):TotP (Q4 b ins) fun _=>True:=by
 have ki:=(h.k.2.2.1.2 _ hb.task).2.2.2.2.2.1
 have kl:=(h.tk _ hb.task).2.1
 unfold Q4
 rw [hb.net,hb.mm]
 refine TotP.bind (Qnb n _ ins _ h ki (by omega)) fun x hx=>?_
 refine TotP.bif (fun _=>TotP.okT) fun hc=>?_
 have hx:=hx (by simpa using hc)
 refine TotP.bind (QtV _ _ (hx.1.len h (by omega)) hm) fun y _=>?_
 refine TotP.bif (fun _=>TotP.okT) fun _=>TotP.bif (fun _=>TotP.okT) fun _=>?_
 refine TotP.bind (TotP.up b.task.Ins.length (fun st=>st) (fun _=>True) (Q:=fun _=>True) rfl trivial (fun i st hi hn _=>?_)) (fun q _=>?_)
 ·show TotP (QbK b ins st) _
  unfold QbK
  refine TotP.bif (fun hc=>?_) (fun _=>TotP.ok (Ql trivial))
  simp only [decide_eq_true_eq]at hc
  have step:TotP (Qcz st) fun o=>(∀s',o=.inl s'→i<b.task.Ins.length∧s'=((i+1:Nat):Int)∧True)∧∀r:Unit⊕Unit,o=.inr r→True:=
   TotP.ok (Qx (ix:=fun st=>st) (J:=fun _=>True) (Q:=fun _=>True) ⟨by omega,by rw [hi];exact Qu (by omega) ki.1,trivial⟩)
  refine TotP.bind (Qvj ins st (by unfold maxLen;omega)) fun z _=>?_
  refine TotP.bif (fun _=>step) fun _=>?_
  rw [QlW ins (by omega),Option.bind_some]
  refine TotP.bind (TotP.chk (by simp;omega)) fun _ _=>?_
  rw [QwT _ (by simp;omega),Option.bind_some]
  refine TotP.bind (TotP.chk (by simp [Qnu])) fun _ _=>?_
  rw [hb.net]
  refine TotP.bind (Qnb n _ _ _ h ki (by rw [Qnu];simp;omega)) fun u hu=>?_
  refine TotP.bind (P:=fun _=>True) ?_ fun v _=>?_
  ·unfold QgN
   rw [hb.mm]
   refine TotP.bif (fun hc2=>?_) fun _=>TotP.okT
   have hu:=hu (by simpa using hc2)
   refine TotP.bind (QtV _ _ (hu.1.len h (by rw [Qnu];simp;omega)) hm) fun _ _=>TotP.okT
  ·unfold QcA
   exact TotP.bif (fun _=>TotP.ok (Ql trivial)) fun _=>step
 ·rcases q with q | q
  ·exact TotP.okT
  ·exact TotP.okT
def Qln (r:List (List Int)):Prop:=r.length≤16∧∀row∈r,row.length≤16
def chB (o:Option (List (List Int))):Bool:=match o with
 | some r=>decide (r.length≤16)&&r.all fun row=>decide (row.length≤16)
 | none=>false
theorem QtW {o:Option (List (List Int))}(h:chB o=true):TotP o Qln:=by
 cases o with
 | none=>cases h
 | some r=>
  simp only [chB,Bool.and_eq_true,decide_eq_true_eq,List.all_eq_true]at h
  exact TotP.ok h
theorem near {arcs:Int}(h0:¬arcs<0)(h1:¬16<arcs):arcs=0∨arcs=1∨arcs=2∨arcs=3∨arcs=4∨arcs=5∨arcs=6∨arcs=7∨arcs=8∨arcs=9∨arcs=10∨arcs=11∨arcs=12∨arcs=13∨arcs=14∨arcs=15∨arcs=16:=by omega
set_option maxRecDepth 100000 in
theorem QnB (kind arcs:Int):TotP (QbI kind arcs) Qln:=by
 by_cases hg:((decide (arcs<0))||((decide (16<arcs))||((kind==3)&&(decide (4<arcs)))))=true
 ·unfold QbI
  rw [hg]
  exact TotP.ok ⟨by simp,fun r h=>by cases h⟩
 ·simp only [Bool.or_eq_true,Bool.and_eq_true,decide_eq_true_eq,beq_iff_eq,not_or,not_and]at hg
  obtain⟨h0,h1,h2⟩:=hg
  by_cases e1:kind=1
  ·subst e1
   rcases near h0 h1 with rfl | rfl | rfl | rfl | rfl | rfl | rfl | rfl | rfl | rfl | rfl | rfl | rfl | rfl | rfl | rfl | rfl<;>exact QtW (by kernel_rfl)
  ·by_cases e2:kind=2
   ·subst e2
    rcases near h0 h1 with rfl | rfl | rfl | rfl | rfl | rfl | rfl | rfl | rfl | rfl | rfl | rfl | rfl | rfl | rfl | rfl | rfl<;>exact QtW (by kernel_rfl)
   ·by_cases e3:kind=3
    ·subst e3
     have h3:=h2 rfl
     have:arcs=0∨arcs=1∨arcs=2∨arcs=3∨arcs=4:=by omega
     rcases this with rfl | rfl | rfl | rfl | rfl<;>exact QtW (by kernel_rfl)
    ·have f1:(kind==1)=false:=by simpa using e1
     have f2:(kind==2)=false:=by simpa using e2
     have f3:(kind==3)=false:=by simpa using e3
     unfold QbI Qdt
     rw [f1,f2,f3]
     exact TotP.bif (fun _=>TotP.ok ⟨by simp,fun r h=>by cases h⟩) fun _=>TotP.ok ⟨by simp,fun r h=>by cases h⟩
theorem Qxs (a b:List Int)(ha:a.length≤maxLen):TotP (QcB a b) fun _=>True:=by
 unfold QcB
 refine TotP.bif (fun _=>TotP.okT) fun hc=>?_
 simp only [bne_eq_false_iff_eq]at hc
 refine TotP.bind (TotP.up a.length (fun st=>st) (fun _=>True) (Q:=fun _=>True) rfl trivial (fun i st hi hn hJ=>?_)) (fun q _=>?_)
 ·show TotP (Qa7 a b st) _
  unfold Qa7
  refine TotP.bif (fun hc=>?_) (fun _=>TotP.ok (Ql trivial))
  simp only [decide_eq_true_eq]at hc
  refine TotP.bind (TotP.idx (by omega) (by omega)) fun x hx=>?_
  refine TotP.bind (TotP.idx (by omega) (by omega)) fun y hy=>?_
  exact TotP.bif (fun _=>TotP.ok (Ql trivial)) fun _=>TotP.ok (Qx ⟨by omega,by rw [hi];exact Qu (by omega) ha,trivial⟩)
 ·rcases q with q | q
  ·exact TotP.okT
  ·exact TotP.okT
theorem QtX (kind arcs:Int)(row:List Int):TotP (Qgg kind arcs row) fun _=>True:=by
 unfold Qgg QbY QbX
 refine TotP.bind (QnB kind arcs) fun x hx=>?_
 refine TotP.bind (P:=fun _=>True) ?_ fun _ _=>TotP.okT
 refine TotP.bind (P:=fun _=>True) ?_ fun _ _=>TotP.okT
 have hl:=hx.1
 refine TotP.bind (TotP.up x.length (fun st=>st) (fun _=>True) (Q:=fun _=>True) rfl trivial (fun i st hi hn hJ=>?_)) (fun q _=>?_)
 ·show TotP (Qao x row st) _
  unfold Qao QiE
  refine TotP.bif (fun hc=>?_) (fun _=>TotP.ok (Ql trivial))
  simp only [decide_eq_true_eq]at hc
  refine TotP.bind (TotP.idx (by omega) (by omega)) fun e he=>?_
  have:=hx.2 e he
  refine TotP.bind (TotP.bind (Qxs e row (by unfold maxLen;omega)) fun _ _=>TotP.okT) fun _ _=>?_
  exact TotP.bif (fun _=>TotP.ok (Ql trivial)) fun _=>TotP.ok (Qx ⟨by omega,by rw [hi];exact Qu (by omega) (by unfold maxLen;omega:x.length≤maxLen),trivial⟩)
 ·rcases q with q | q
  ·exact TotP.okT
  ·exact TotP.okT
def Qj0 (n:TNet)(o:Qk):Prop:=o.Vars.length≤20∧o.Ins.length≤20∧o.Outs.length≤20
theorem Qxt (n:TNet)(m:List (List (Int×Int)))(o:Qk)(h:QY n)(hm:lenL (lenL fun _=>True) m)(ho:Qj0 n o):TotP (QfD n m o) fun _=>True:=by
 unfold QfD
 refine TotP.bind (Quz n m o.Task o.Vars h) fun x hx=>?_
 have k3:∀e,(e=0→x.1=0)→TotP (Qek x o e) fun _=>True:=fun e he=>by
  unfold Qek
  refine TotP.bif (fun _=>TotP.okT) fun hc=>?_
  have hb:=hx (he (by simpa using hc))
  refine TotP.bind (P:=fun _=>True) ?_ fun y _=>?_
  ·unfold Qk8
   refine TotP.bind (QtX _ _ _) fun z _=>?_
   exact TotP.bif (fun _=>TotP.okT) fun _=>TotP.bind (QtX _ _ _) fun _ _=>TotP.okT
  ·unfold Qgp
   refine TotP.bif (fun _=>TotP.okT) fun _=>?_
   refine TotP.bind (QuA n m x.2 o.Ins h hb hm (by have:=ho.2.1;omega)) fun z _=>?_
   refine TotP.bif (fun _=>TotP.okT) fun _=>?_
   exact TotP.bind (QsG n m x.2 o.Outs h hb (by have:=ho.2.2;omega)) fun _ _=>TotP.okT
 refine TotP.bif (fun hc=>?_) fun hc=>k3 _ fun h=>h
 have hc:x.1=0:=by simpa using hc
 exact TotP.bind (Qs0 n m x.2 h (hx hc)) fun e _=>k3 e fun _=>hc
theorem QuB (n:TNet)(o:Qk)(h:QY n)(ho:Qj0 n o):TotP (Qhi n o) fun r=>r.2=0→MOk n 20 r.1∧Low n r.1:=by
 unfold Qhi
 refine TotP.bind (Qvi n o.Task o.Vars h) fun x hx=>?_
 refine TotP.bif (fun hc=>TotP.ok fun h=>absurd h (by simpa using hc)) fun hc=>?_
 have:=hx (by simpa using hc)
 refine TotP.bind (TotP.idx this.1 this.2) fun e he=>?_
 have hl:=ho.2.1
 exact TotP.bind (Qnb n _ _ _ h (h.k.2.2.1.2 _ he).2.2.2.2.2.1 (by omega)) fun y hy=>TotP.ok fun h0=>⟨(hy h0).1.mono hl,(hy h0).2⟩
theorem QuC (n:TNet)(o:Qk)(h:QY n)(ho:Qj0 n o):TotP (Qi0 n o) fun r=>r.2=0→(MOk n 20 r.1∧Low n r.1)∧0≤o.Task∧o.Task<n.Tasks.length:=by
 unfold Qi0
 refine TotP.bind (Qvi n o.Task o.Vars h) fun x hx=>?_
 refine TotP.bif (fun hc=>TotP.ok fun h=>absurd h (by simpa using hc)) fun hc=>?_
 have:=hx (by simpa using hc)
 refine TotP.bind (TotP.idx this.1 this.2) fun e he=>?_
 have hl:=ho.2.2
 exact TotP.bind (Qnb n _ _ _ h (h.k.2.2.1.2 _ he).2.2.2.2.2.2.1 (by omega)) fun y hy=>TotP.ok fun h0=>⟨⟨(hy h0).1.mono hl,(hy h0).2⟩,this⟩
end Go.Proofs
noncomputable section
namespace Go.Proofs
open Go Go.RowKit Go.Vm
theorem Qv8 {σ ρ:Type}{body:σ→Option (σ⊕ρ)}(mu:σ→Nat)(J:σ→Prop){Q:ρ→Prop}{s0:σ}(hJ:J s0)
  (step:∀s,J s→TotP (body s) fun o=>(∀s',o=.inl s'→mu s'<mu s∧J s')∧∀r,o=.inr r→Q r):TotP (QA body s0) Q:=by
 have key:∀k s,mu s≤k→J s→TotP (QA body s) Q:=by
  intro k
  induction k with
  | zero=>
   intro s hk hj
   obtain⟨o,ho,h1,h2⟩:=step s hj
   cases o with
   | inl s'=>have:=(h1 s' rfl).1;omega
   | inr r=>exact⟨r,by rw [QdR,ho];rfl,h2 r rfl⟩
  | succ k ih=>
   intro s hk hj
   obtain⟨o,ho,h1,h2⟩:=step s hj
   cases o with
   | inl s'=>
    obtain⟨h3,h4⟩:=h1 s' rfl
    obtain⟨r,h5,h6⟩:=ih s' (by omega) h4
    exact⟨r,by rw [QdR,ho];exact h5,h6⟩
   | inr r=>exact⟨r,by rw [QdR,ho];rfl,h2 r rfl⟩
 exact key _ s0 (Nat.le_refl _) hJ
theorem QtY {l:List Int}{k:Nat}(hk:k<l.length)(Z:List Int)(x:Int):(l.take (k+1)++Z).set k x=l.take k++x::Z:=by
 have e:l.take (k+1)=l.take k++[l[k]]:=by rw [List.take_add_one,List.getElem?_eq_getElem hk];rfl
 rw [e,List.append_assoc,List.set_append,if_neg (by simp;omega)]
 have:k-(l.take k).length=0:=by simp;omega
 rw [this];rfl
end Go.Proofs
noncomputable section
namespace Go.Proofs
open Go Go.RowKit Go.Vm
theorem Qnc (m:List (List (Int×Int)))(h:m.length≤4294967296)(hb:∀b∈m,b.length≤4294967296):Qik m=some m:=by
 unfold Qik Qbd
 rw [QrW (by simpa using h)]
 simp only [Option.bind_some,List.nil_append]
 obtain⟨r,h1,h2⟩:=(TotP.up (body:=fun st=>QdS m st.1 st.2) m.length (fun st=>st.1) (fun st=>st.2=m) (Q:=fun q=>q=m) (s0:=(0,m)) rfl rfl (fun i st hi hn hJ=>by
  obtain⟨x,l⟩:=st
  replace hi:x=(i:Int):=hi
  replace hJ:l=m:=hJ
  subst hJ
  show TotP (QdS l x l) _
  unfold QdS
  refine TotP.bif (fun hc=>?_) (fun _=>TotP.ok (Ql rfl))
  simp only [decide_eq_true_eq]at hc
  have hlt:i<l.length:=by omega
  rw [hi,QX,List.getElem?_eq_getElem hlt,Option.bind_some]
  unfold Qce
  rw [QrW (by simpa using hb _ (List.getElem_mem hlt))]
  simp only [Option.bind_some,List.nil_append]
  exact TotP.ok (Qx ⟨hlt,Qu hlt (by unfold maxLen;omega),by simp⟩)))
 rw [h1,h2];rfl
theorem QwU (n:TNet)(a b:List (List (Int×Int)))(c d:Nat)(h:QY n)(ha:MOk n c a)(hb:MOk n d b)(hcd:c+d≤1000000):TotP (QdA a b) fun r=>r.2=0→MOk n (c+d) r.1:=by
 have hpl:=h.pl
 have ha1:=ha.1
 have hb1:=hb.1
 have hmin:min2 (a.length:Int) (b.length:Int)=(n.Places.length:Int):=by unfold min2;split<;>omega
 unfold QdA
 rw [hmin]
 refine TotP.bind (TotP.chk (by simp only [Bool.and_eq_true,decide_eq_true_eq];omega)) fun _ _=>?_
 refine TotP.bind (TotP.up n.Places.length (fun st=>st.1) (fun st=>st.2.length=n.Places.length∧∀b∈st.2,Rt b∧b.length≤c+d) (Q:=fun q:Int⊕List (List (Int×Int))=>(∀x,q=.inl x→x≠0)∧∀m,q=.inr m→MOk n (c+d) m) rfl ⟨by simp,fun b hb=>?_⟩ (fun i st hi hn hJ=>?_)) (fun q hq=>?_)
 ·have:=List.eq_of_mem_replicate hb
  subst this
  exact⟨Rt.nil,by simp⟩
 ·obtain⟨x,m⟩:=st
  replace hi:x=(i:Int):=hi
  obtain⟨hJ1,hJ2⟩:m.length=n.Places.length∧∀b∈m,Rt b∧b.length≤c+d:=hJ
  show TotP (Qb5 a b x m) _
  unfold Qb5
  rw [hmin]
  refine TotP.bif (fun hc=>?_) (fun hc=>TotP.ok (Ql ⟨fun x e=>(by cases e),fun m' e=>(by cases e;exact⟨hJ1,hJ2⟩)⟩))
  simp only [decide_eq_true_eq,List.length_replicate]at hc
  refine TotP.bind (TotP.idx (by omega) (by omega)) fun u hu=>?_
  refine TotP.bind (TotP.idx (by omega) (by omega)) fun v hv=>?_
  have hu2:=ha.2 u hu
  have hv2:=hb.2 v hv
  have key:∃s,Qbe u v=some s∧(s.2=0→Rt s.1∧s.1.length≤c+d):=by
   rcases Qmc u v (by omega)with⟨_,e⟩|⟨_,_,_,e⟩|⟨_,_,_,r,e,h1,_,h2⟩
   ·exact⟨_,e,fun h=>by cases h⟩
   ·exact⟨_,e,fun h=>by cases h⟩
   ·exact⟨_,e,fun _=>⟨h1,by show r.length≤_;omega⟩⟩
  obtain⟨s,es,hs⟩:=key
  rw [es,Option.bind_some]
  refine TotP.bind (TotP.idx (by omega) (by omega)) fun _ _=>?_
  refine TotP.bif (fun hc5=>TotP.ok (Ql ⟨fun x e=>(by cases e;simpa using hc5),fun m' e=>(by cases e)⟩)) fun hc5=>?_
  have hs:=hs (by simpa using hc5)
  refine TotP.ok (Qx ⟨by omega,by subst hi;exact Qu (by omega) (by unfold maxLen;omega:n.Places.length≤maxLen),by simpa using hJ1,fun b hb'=>?_⟩)
  rcases Qoa hb' with rfl | hb'
  ·exact hs
  ·exact hJ2 b hb'
 ·rcases q with q | q
  ·exact TotP.ok fun h=>absurd h (hq.1 q rfl)
  ·exact TotP.ok fun _=>hq.2 q rfl
theorem Qv9 (n:TNet)(a b:List (List (Int×Int)))(c d:Nat)(h:QY n)(ha:MOk n c a)(hb:MOk n d b)(hcd:c+d≤1000000):TotP (QcP a b) fun r=>r.2=0→MOk n (c+d) r.1:=by
 have hpl:=h.pl
 have ha1:=ha.1
 have hb1:=hb.1
 have hmin:min2 (a.length:Int) (b.length:Int)=(n.Places.length:Int):=by unfold min2;split<;>omega
 unfold QcP
 rw [hmin]
 refine TotP.bind (TotP.chk (by simp only [Bool.and_eq_true,decide_eq_true_eq];omega)) fun _ _=>?_
 refine TotP.bind (TotP.up n.Places.length (fun st=>st.1) (fun st=>st.2.length=n.Places.length∧∀b∈st.2,Rt b∧b.length≤c+d) (Q:=fun q:Int⊕List (List (Int×Int))=>(∀x,q=.inl x→x≠0)∧∀m,q=.inr m→MOk n (c+d) m) rfl ⟨by simp,fun b hb=>?_⟩ (fun i st hi hn hJ=>?_)) (fun q hq=>?_)
 ·have:=List.eq_of_mem_replicate hb
  subst this
  exact⟨Rt.nil,by simp⟩
 ·obtain⟨x,m⟩:=st
  replace hi:x=(i:Int):=hi
  obtain⟨hJ1,hJ2⟩:m.length=n.Places.length∧∀b∈m,Rt b∧b.length≤c+d:=hJ
  show TotP (Qbb a b x m) _
  unfold Qbb
  rw [hmin]
  refine TotP.bif (fun hc=>?_) (fun hc=>TotP.ok (Ql ⟨fun x e=>(by cases e),fun m' e=>(by cases e;exact⟨hJ1,hJ2⟩)⟩))
  simp only [decide_eq_true_eq,List.length_replicate]at hc
  refine TotP.bind (TotP.idx (by omega) (by omega)) fun u hu=>?_
  refine TotP.bind (TotP.idx (by omega) (by omega)) fun v hv=>?_
  have hu2:=ha.2 u hu
  have hv2:=hb.2 v hv
  have key:∃s,Qba u v=some s∧(s.2=0→Rt s.1∧s.1.length≤c+d):=by
   rcases Qlm u v (by omega)with⟨_,e⟩|⟨_,_,_,e⟩|⟨_,_,r,e,h1,_,h2⟩
   ·exact⟨_,e,fun h=>by cases h⟩
   ·exact⟨_,e,fun h=>by cases h⟩
   ·exact⟨_,e,fun _=>⟨h1,by show r.length≤_;omega⟩⟩
  obtain⟨s,es,hs⟩:=key
  rw [es,Option.bind_some]
  refine TotP.bind (TotP.idx (by omega) (by omega)) fun _ _=>?_
  refine TotP.bif (fun hc5=>TotP.ok (Ql ⟨fun x e=>(by cases e;simpa using hc5),fun m' e=>(by cases e)⟩)) fun hc5=>?_
  have hs:=hs (by simpa using hc5)
  refine TotP.ok (Qx ⟨by omega,by subst hi;exact Qu (by omega) (by unfold maxLen;omega:n.Places.length≤maxLen),by simpa using hJ1,fun b hb'=>?_⟩)
  rcases Qoa hb' with rfl | hb'
  ·exact hs
  ·exact hJ2 b hb'
 ·rcases q with q | q
  ·exact TotP.ok fun h=>absurd h (hq.1 q rfl)
  ·exact TotP.ok fun _=>hq.2 q rfl
theorem Qwa (n:TNet)(m:List (List (Int×Int)))(o:Qk)(c:Nat)(h:QY n)(hm:MOk n c m)(hc:c≤900000)(ho:Qj0 n o):TotP (Qe3 n m o) fun r=>r.2=0→MOk n (c+20) r.1:=by
 unfold Qe3
 refine TotP.bind (Qxt n m o h (hm.len h (by omega)) ho) fun x _=>?_
 refine TotP.bif (fun hc=>TotP.ok fun h=>absurd h (by simpa using hc)) fun _=>?_
 refine TotP.bind (QuB n o h ho) fun y hy=>?_
 refine TotP.bif (fun hc=>TotP.ok fun h=>absurd h (by simpa using hc)) fun hc2=>?_
 exact TotP.bind (QwU n m y.1 c 20 h hm (hy (by simpa using hc2)).1 (by omega)) fun z hz=>TotP.ok hz
theorem QxU (n:TNet)(m:List (List (Int×Int)))(o:Qk)(c:Nat)(h:QY n)(hm:MOk n c m)(hc:c≤900000)(ho:Qj0 n o):TotP (Qe4 n m o) fun r=>r.2=0→MOk n (c+20) r.1:=by
 have hpl:=h.pl
 have hm1:=hm.1
 unfold Qe4
 refine TotP.bind (QuC n o h ho) fun y hy=>?_
 refine TotP.bif (fun hc=>TotP.ok fun h=>absurd h (by simpa using hc)) fun hc2=>?_
 obtain⟨⟨hy,_⟩,h1,h2⟩:=hy (by simpa using hc2)
 rw [Qnc m (by omega) (fun b hb=>by have:=(hm.2 b hb).2;omega),Option.bind_some]
 refine TotP.bind (TotP.idx h1 h2) fun e he=>?_
 have hcl:=(h.tk e he).2.2.2
 refine TotP.bind (TotP.up e.Cancel.length (fun st=>st.1) (fun st=>MOk n c st.2) (Q:=fun q=>MOk n c q) rfl hm (fun i st hi hn hJ=>?_)) (fun q hq=>?_)
 ·obtain⟨x,l⟩:=st
  replace hi:x=(i:Int):=hi
  replace hJ:MOk n c l:=hJ
  show TotP (QcZ e x l) _
  unfold QcZ
  refine TotP.bif (fun hc=>?_) (fun _=>TotP.ok (Ql hJ))
  simp only [decide_eq_true_eq]at hc
  refine TotP.bind (TotP.idx (by omega) (by omega)) fun k _=>?_
  have next:∀l,MOk n c l→TotP (QcY x l) fun o=>(∀s',o=.inl s'→i<e.Cancel.length∧s'.1=((i+1:Nat):Int)∧MOk n c s'.2)∧∀r:List (List (Int×Int)),o=.inr r→MOk n c r:=fun l hl=>by
   unfold QcY
   exact TotP.ok (Qx (ix:=fun st:Int×List (List (Int×Int))=>st.1) (J:=fun st:Int×List (List (Int×Int))=>MOk n c st.2) ⟨by omega,by subst hi;exact Qu (by omega) (by unfold maxLen;omega:e.Cancel.length≤maxLen),hl⟩)
  refine TotP.bif (fun hc3=>?_) fun _=>next l hJ
  simp only [Bool.and_eq_true,decide_eq_true_eq]at hc3
  refine TotP.bind (TotP.idx hc3.1 hc3.2) fun _ _=>?_
  refine next _ ⟨by simpa using hJ.1,fun b hb=>?_⟩
  rcases Qoa hb with rfl | hb
  ·exact⟨Rt.nil,by simp⟩
  ·exact hJ.2 b hb
 ·show TotP (QdX y q) _
  unfold QdX
  exact TotP.bind (Qv9 n q y.1 c 20 h hq hy (by omega)) fun z hz=>TotP.ok hz
theorem t_Do (n:TNet)(m:List (List (Int×Int)))(o:Qk)(c:Nat)(h:QY n)(hm:MOk n c m)(hc:c≤800000)(ho:Qj0 n o):TotP (QdB n m o) fun r=>r.2=0→MOk n (c+40) r.1:=by
 unfold QdB
 refine TotP.bind (Qwa n m o c h hm (by omega) ho) fun x hx=>?_
 refine TotP.bif (fun hc=>TotP.ok fun h=>absurd h (by simpa using hc)) fun hc2=>?_
 exact TotP.bind (QxU n x.1 o (c+20) h (hx (by simpa using hc2)) (by omega) ho) fun z hz=>TotP.ok hz
theorem Qvk (b:List (Int×Int))(h:b.length≤maxLen):Q3 b b=some true:=by
 unfold Q3
 rw [show((b.length:Int) != (b.length:Int))=false by simp,cond_false]
 obtain⟨r,h1,h2⟩:=(TotP.up (body:=fun st=>QO b b st) b.length (fun st=>st) (fun _=>True) (Q:=fun q:Unit⊕Unit=>q=.inr ()) (s0:=(0:Int)) rfl trivial (fun i st hi hn hJ=>by
  show TotP (QO b b st) _
  unfold QO
  refine TotP.bif (fun hc=>?_) (fun _=>TotP.ok (Ql rfl))
  simp only [decide_eq_true_eq]at hc
  rw [hi,QX,List.getElem?_eq_getElem (by omega),Option.bind_some,Option.bind_some]
  rw [show(!(((b[i]'(by omega)).1==(b[i]'(by omega)).1)&&((b[i]'(by omega)).2==(b[i]'(by omega)).2)))=false by simp,cond_false]
  exact TotP.ok (Qx ⟨by omega,Qu (by omega) h,trivial⟩)))
 rw [h1,h2];rfl
theorem Qtf (b:List (Int×Int))(hr:Rt b)(h:b.length≤maxLen):Qjo b b=some true:=by
 unfold Qjo Qkb
 rw [Qhy b h,Qdr.2 hr]
 simp only [Option.bind_some,cond_true]
 rw [Qvk b h];rfl
theorem QsH {n:TNet}(h:QY n){c:Nat}{m:List (List (Int×Int))}(hm:MOk n c m)(hc:c≤1000000):Qe5 m m=some true:=by
 have hpl:=h.pl
 have hm1:=hm.1
 unfold Qe5 QK
 rw [show((m.length:Int) != (m.length:Int))=false by simp,cond_false]
 obtain⟨r,h1,h2⟩:=(TotP.up (body:=fun st=>Qt m m st) m.length (fun st=>st) (fun _=>True) (Q:=fun q:Unit⊕Unit=>q=.inr ()) (s0:=(0:Int)) rfl trivial (fun i st hi hn hJ=>by
  show TotP (Qt m m st) _
  unfold Qt
  refine TotP.bif (fun hc=>?_) (fun _=>TotP.ok (Ql rfl))
  simp only [decide_eq_true_eq]at hc
  have hlt:i<m.length:=by omega
  have hb:=hm.2 _ (List.getElem_mem hlt)
  rw [hi,QX,List.getElem?_eq_getElem hlt,Option.bind_some,Option.bind_some,Qtf _ hb.1 (by unfold maxLen;omega),Option.bind_some]
  exact TotP.ok (Qx ⟨hlt,Qu hlt (by unfold maxLen;omega),trivial⟩)))
 rw [h1,h2];rfl
end Go.Proofs
noncomputable section
namespace Go.Proofs
open Go Go.RowKit Go.Vm
end Go.Proofs
noncomputable section
namespace Go.Proofs
open Go Go.RowKit Go.Vm
abbrev Bag := List (Int×Int)
def Each (how:Bag→Bag→Option (Bag×Int))(a b r:List Bag):Prop:=∀(j:Nat) x y,a[j]? = some x→b[j]? = some y→∃z,r[j]? = some z∧how x y=some (z,0)
def Can (how:Bag→Bag→Option (Bag×Int))(a b:List Bag):Prop:=∀(j:Nat) x y,a[j]? = some x→b[j]? = some y→∃z,how x y=some (z,0)
theorem getq {α:Type}{l:List α}{i:Nat}(h:i<l.length):l[i]? = some l[i]:=List.getElem?_eq_getElem h
theorem QxV {a b r:Bag}(h:a.length+b.length≤4294967296)(e:Qba a b=some (r,0)):Rt a∧Rt b∧Rt r∧∀k,cntL r k=cntL a k+cntL b k:=by
 rcases Qlm a b h with⟨_,e'⟩|⟨_,_,_,e'⟩|⟨h1,h2,r',e',h3,h4,_⟩
 ·rw [e]at e';cases e'
 ·rw [e]at e';cases e'
 ·rw [e]at e';cases e';exact⟨h1,h2,h3,h4⟩
theorem Qxu {a b r:Bag}(h:a.length+b.length≤4294967296)(e:Qbe a b=some (r,0)):Rt a∧Rt b∧Rt r∧(∀k,cntL b k≤cntL a k)∧∀k,cntL r k=cntL a k-cntL b k:=by
 rcases Qmc a b h with⟨_,e'⟩|⟨_,_,_,e'⟩|⟨h1,h2,h5,r',e',h3,h4,_⟩
 ·rw [e]at e';cases e'
 ·rw [e]at e';cases e'
 ·rw [e]at e';cases e';exact⟨h1,h2,h3,h5,h4⟩
theorem Qto {n:TNet}{c:Nat}{m:List Bag}(hm:MOk n c m){j:Nat}(hj:j<n.Places.length):∃b,m[j]? = some b∧Rt b∧b.length≤c:=by
 have:j<m.length:=by have:=hm.1;omega
 exact⟨m[j],getq this,hm.2 _ (List.getElem_mem this)⟩
end Go.Proofs
noncomputable section
namespace Go.Proofs
open Go Go.RowKit Go.Vm
theorem Qun (n:TNet)(a b:List Bag)(c d:Nat)(h:QY n)(ha:MOk n c a)(hb:MOk n d b)(hcd:c+d≤1000000):TotP (QdA a b) fun r=>(r.2=0→r.1.length=n.Places.length∧Each Qbe a b r.1)∧(Can Qbe a b→r.2=0):=by
 have hpl:=h.pl
 have ha1:=ha.1
 have hb1:=hb.1
 have hmin:min2 (a.length:Int) (b.length:Int)=(n.Places.length:Int):=by unfold min2;split<;>omega
 unfold QdA
 rw [hmin]
 refine TotP.bind (TotP.chk (by simp only [Bool.and_eq_true,decide_eq_true_eq];omega)) fun _ _=>?_
 refine TotP.bind (TotP.up n.Places.length (fun st=>st.1) (fun st=>st.2.length=n.Places.length∧∀(j:Nat) x y,(j:Int)<st.1→a[j]? = some x→b[j]? = some y→∃z,st.2[j]? = some z∧Qbe x y=some (z,0)) (Q:=fun q:Int⊕List Bag=>(∀x,q=.inl x→x≠0∧¬Can Qbe a b)∧∀m,q=.inr m→m.length=n.Places.length∧Each Qbe a b m) rfl ⟨by simp,fun j x y hj=>by omega⟩ (fun i st hi hn hJ=>?_)) (fun q hq=>?_)
 ·obtain⟨x,m⟩:=st
  replace hi:x=(i:Int):=hi
  obtain⟨hJ1,hJ2⟩:m.length=n.Places.length∧∀(j:Nat) u v,(j:Int)<x→a[j]? = some u→b[j]? = some v→∃z,m[j]? = some z∧Qbe u v=some (z,0):=hJ
  show TotP (Qb5 a b x m) _
  unfold Qb5
  rw [hmin]
  refine TotP.bif (fun hc=>?_) (fun hc=>TotP.ok (Ql ⟨fun x e=>(by cases e),fun m' e=>(by cases e;exact⟨hJ1,fun j u v hu hv=>hJ2 j u v (by
   simp only [decide_eq_false_iff_not,List.length_replicate]at hc
   have:=(List.getElem?_eq_some_iff.1 hu).1
   omega) hu hv⟩)⟩))
  simp only [decide_eq_true_eq,List.length_replicate]at hc
  have i1:i<a.length:=by omega
  have i2:i<b.length:=by omega
  rw [hi,QX,getq i1,Option.bind_some,QX,getq i2,Option.bind_some]
  have hu2:=ha.2 _ (List.getElem_mem i1)
  have hv2:=hb.2 _ (List.getElem_mem i2)
  have key:∃s,Qbe a[i] b[i]=some s:=by
   rcases Qmc a[i] b[i] (by omega)with⟨_,e⟩|⟨_,_,_,e⟩|⟨_,_,_,r,e,h1,_,h2⟩
   ·exact⟨_,e⟩
   ·exact⟨_,e⟩
   ·exact⟨_,e⟩
  obtain⟨s,es⟩:=key
  rw [es,Option.bind_some]
  refine TotP.bind (TotP.idx (by omega) (by omega)) fun _ _=>?_
  refine TotP.bif (fun hc5=>TotP.ok (Ql ⟨fun x e=>(by cases e;exact⟨by simpa using hc5,fun hcan=>by
   obtain⟨z,hz⟩:=hcan i _ _ (getq i1) (getq i2)
   rw [es]at hz
   cases hz
   simp at hc5⟩),fun m' e=>(by cases e)⟩)) fun hc5=>?_
  simp only [bne_eq_false_iff_eq]at hc5
  refine TotP.ok (Qx ⟨by omega,Qu (by omega) (by unfold maxLen;omega:n.Places.length≤maxLen),by simpa using hJ1,fun j u v hj hu hv=>?_⟩)
  have hj:(j:Int)<w64 ((i:Int)+1):=hj
  rw [Qu (show i<n.Places.length by omega) (by unfold maxLen;omega)]at hj
  show ∃z,(m.set (i:Int).toNat s.1)[j]? = some z∧_
  by_cases cj:j=i
  ·subst cj
   rw [getq i1]at hu;rw [getq i2]at hv
   cases hu;cases hv
   refine⟨s.1,by rw [show((j:Int)).toNat=j from Int.toNat_natCast j];exact List.getElem?_set_self (by omega),?_⟩
   rw [es,←hc5]
  ·obtain⟨z,h1,h2⟩:=hJ2 j u v (by omega) hu hv
   exact⟨z,by rw [List.getElem?_set_ne (by simp;omega)];exact h1,h2⟩
 ·rcases q with q | q
  ·have:=hq.1 q rfl
   exact TotP.ok ⟨fun h=>absurd h this.1,fun h=>absurd h this.2⟩
  ·exact TotP.ok ⟨fun _=>hq.2 q rfl,fun _=>rfl⟩
theorem QtZ (n:TNet)(a b:List Bag)(c d:Nat)(h:QY n)(ha:MOk n c a)(hb:MOk n d b)(hcd:c+d≤1000000):TotP (QcP a b) fun r=>(r.2=0→r.1.length=n.Places.length∧Each Qba a b r.1)∧(Can Qba a b→r.2=0):=by
 have hpl:=h.pl
 have ha1:=ha.1
 have hb1:=hb.1
 have hmin:min2 (a.length:Int) (b.length:Int)=(n.Places.length:Int):=by unfold min2;split<;>omega
 unfold QcP
 rw [hmin]
 refine TotP.bind (TotP.chk (by simp only [Bool.and_eq_true,decide_eq_true_eq];omega)) fun _ _=>?_
 refine TotP.bind (TotP.up n.Places.length (fun st=>st.1) (fun st=>st.2.length=n.Places.length∧∀(j:Nat) x y,(j:Int)<st.1→a[j]? = some x→b[j]? = some y→∃z,st.2[j]? = some z∧Qba x y=some (z,0)) (Q:=fun q:Int⊕List Bag=>(∀x,q=.inl x→x≠0∧¬Can Qba a b)∧∀m,q=.inr m→m.length=n.Places.length∧Each Qba a b m) rfl ⟨by simp,fun j x y hj=>by omega⟩ (fun i st hi hn hJ=>?_)) (fun q hq=>?_)
 ·obtain⟨x,m⟩:=st
  replace hi:x=(i:Int):=hi
  obtain⟨hJ1,hJ2⟩:m.length=n.Places.length∧∀(j:Nat) u v,(j:Int)<x→a[j]? = some u→b[j]? = some v→∃z,m[j]? = some z∧Qba u v=some (z,0):=hJ
  show TotP (Qbb a b x m) _
  unfold Qbb
  rw [hmin]
  refine TotP.bif (fun hc=>?_) (fun hc=>TotP.ok (Ql ⟨fun x e=>(by cases e),fun m' e=>(by cases e;exact⟨hJ1,fun j u v hu hv=>hJ2 j u v (by
   simp only [decide_eq_false_iff_not,List.length_replicate]at hc
   have:=(List.getElem?_eq_some_iff.1 hu).1
   omega) hu hv⟩)⟩))
  simp only [decide_eq_true_eq,List.length_replicate]at hc
  have i1:i<a.length:=by omega
  have i2:i<b.length:=by omega
  rw [hi,QX,getq i1,Option.bind_some,QX,getq i2,Option.bind_some]
  have hu2:=ha.2 _ (List.getElem_mem i1)
  have hv2:=hb.2 _ (List.getElem_mem i2)
  have key:∃s,Qba a[i] b[i]=some s:=by
   rcases Qlm a[i] b[i] (by omega)with⟨_,e⟩|⟨_,_,_,e⟩|⟨_,_,r,e,h1,_,h2⟩
   ·exact⟨_,e⟩
   ·exact⟨_,e⟩
   ·exact⟨_,e⟩
  obtain⟨s,es⟩:=key
  rw [es,Option.bind_some]
  refine TotP.bind (TotP.idx (by omega) (by omega)) fun _ _=>?_
  refine TotP.bif (fun hc5=>TotP.ok (Ql ⟨fun x e=>(by cases e;exact⟨by simpa using hc5,fun hcan=>by
   obtain⟨z,hz⟩:=hcan i _ _ (getq i1) (getq i2)
   rw [es]at hz
   cases hz
   simp at hc5⟩),fun m' e=>(by cases e)⟩)) fun hc5=>?_
  simp only [bne_eq_false_iff_eq]at hc5
  refine TotP.ok (Qx ⟨by omega,Qu (by omega) (by unfold maxLen;omega:n.Places.length≤maxLen),by simpa using hJ1,fun j u v hj hu hv=>?_⟩)
  have hj:(j:Int)<w64 ((i:Int)+1):=hj
  rw [Qu (show i<n.Places.length by omega) (by unfold maxLen;omega)]at hj
  show ∃z,(m.set (i:Int).toNat s.1)[j]? = some z∧_
  by_cases cj:j=i
  ·subst cj
   rw [getq i1]at hu;rw [getq i2]at hv
   cases hu;cases hv
   refine⟨s.1,by rw [show((j:Int)).toNat=j from Int.toNat_natCast j];exact List.getElem?_set_self (by omega),?_⟩
   rw [es,←hc5]
  ·obtain⟨z,h1,h2⟩:=hJ2 j u v (by omega) hu hv
   exact⟨z,by rw [List.getElem?_set_ne (by simp;omega)];exact h1,h2⟩
 ·rcases q with q | q
  ·have:=hq.1 q rfl
   exact TotP.ok ⟨fun h=>absurd h this.1,fun h=>absurd h this.2⟩
  ·exact TotP.ok ⟨fun _=>hq.2 q rfl,fun _=>rfl⟩
theorem Qvl {n:TNet}{m t:List Bag}{o:Qk}(h:Qe3 n m o=some (t,0)):QfD n m o=some 0∧∃need,Qhi n o=some (need,0)∧QdA m need=some (t,0):=by
 unfold Qe3 at h
 obtain⟨x,hx,h⟩:=Qb h
 rcases bifE h with⟨c,h⟩|⟨c,h⟩
 ·simp only [Option.some.injEq,Prod.mk.injEq]at h
  rw [h.2]at c;cases c
 simp only [bne_eq_false_iff_eq]at c
 subst c
 obtain⟨y,hy,h⟩:=Qb h
 obtain⟨y1,y2⟩:=y
 rcases bifE h with⟨c,h⟩|⟨c,h⟩
 ·simp only [Option.some.injEq,Prod.mk.injEq]at h
  simp only [h.2]at c;cases c
 simp only [bne_eq_false_iff_eq]at c
 subst c
 obtain⟨z,hz,h⟩:=Qb h
 obtain⟨z1,z2⟩:=z
 simp only [Option.some.injEq,Prod.mk.injEq]at h
 obtain⟨rfl,rfl⟩:=h
 exact⟨hx,y1,hy,hz⟩
theorem QwV {n:TNet}{m x:List Bag}{o:Qk}(h:QdB n m o=some (x,0)):∃t,Qe3 n m o=some (t,0)∧Qe4 n t o=some (x,0):=by
 unfold QdB at h
 obtain⟨y,hy,h⟩:=Qb h
 obtain⟨y1,y2⟩:=y
 rcases bifE h with⟨c,h⟩|⟨c,h⟩
 ·simp only [Option.some.injEq,Prod.mk.injEq]at h
  simp only [h.2]at c;cases c
 simp only [bne_eq_false_iff_eq]at c
 subst c
 obtain⟨z,hz,h⟩:=Qb h
 obtain⟨z1,z2⟩:=z
 simp only [Option.some.injEq,Prod.mk.injEq]at h
 obtain⟨rfl,rfl⟩:=h
 exact⟨y1,hy,hz⟩
end Go.Proofs
noncomputable section
namespace Go.Proofs
open Go Go.RowKit Go.Vm
def sumV : Bag→Int
 | []=>0
 | p::l=>p.2+sumV l
theorem Qwb {l m:Bag}(h:l.Perm m):sumV l=sumV m:=by
 induction h with
 | nil=>rfl
 | cons p _ ih=>simp only [sumV,ih]
 | swap p q l=>simp only [sumV];omega
 | trans _ _ ih1 ih2=>rw [ih1,ih2]
theorem Qt0 (b:Bag)(hr:Rt b)(h:b.length≤maxLen):QjX b=some (w64 (sumV b)):=by
 unfold QjX
 rw [QnA b h,Qdr.2 hr]
 show Qhv b=_
 unfold Qhv
 have run:∀(l:Bag) (s:Int),runL (fun st (p:Int×Int)=>Qc5 st p.1 p.2) (w64 s) l=some (.inl (w64 (s+sumV l))):=by
  intro l
  induction l with
  | nil=>intro s;simp [runL,sumV]
  | cons p l ih=>
   intro s
   simp only [runL]
   rw [show Qc5 (w64 s) p.1 p.2=some (.inl (w64 (s+p.2)))from by unfold Qc5;rw [QsA]]
   simp only [Option.bind_some,Sum.elim_inl]
   rw [ih,sumV,Int.add_assoc]
 have h0:Qh3 (fun st (p:Int×Int)=>Qc5 st p.1 p.2) (0:Int) b=some (.inl (w64 (sumV b))):=by
  have e0:(0:Int)=w64 0:=by decide
  rw [e0]
  refine Qi9.2 ⟨fun l' hp=>?_,by rw [run];simp⟩
  rw [run,run,Qwb hp]
 rw [h0];rfl
def tS (m:List Bag):Nat→Int
 | 0=>0
 | i+1=>tS m i+sumV (m.getD i [])
theorem Qtg {n:TNet}{c:Nat}{m:List Bag}(h:QY n)(hm:MOk n c m)(hc:c≤1000000):Qi3 m=some (w64 (tS m m.length)):=by
 have hpl:=h.pl
 have hm1:=hm.1
 unfold Qi3
 obtain⟨r,h1,h2⟩:=(TotP.up (body:=fun st=>Qdq m st.1 st.2) m.length (fun st=>st.2) (fun st=>st.1=w64 (tS m st.2.toNat)) (Q:=fun q=>q=w64 (tS m m.length)) (s0:=((0:Int),(0:Int))) rfl (by show(0:Int)=w64 0;decide) (fun i st hi hn hJ=>by
  obtain⟨a,x⟩:=st
  replace hi:x=(i:Int):=hi
  replace hJ:a=w64 (tS m x.toNat):=hJ
  subst hi
  show TotP (Qdq m a i) _
  unfold Qdq
  refine TotP.bif (fun hc=>?_) (fun hc=>TotP.ok (Ql ?_))
  ·simp only [decide_eq_true_eq]at hc
   have i1:i<m.length:=by omega
   have hb:=hm.2 _ (List.getElem_mem i1)
   rw [QX,getq i1,Option.bind_some,Qt0 _ hb.1 (by have:=hb.2;unfold maxLen;omega),Option.bind_some]
   have hw:w64 ((i:Int)+1)=((i+1:Nat):Int):=Qu i1 (by unfold maxLen;omega)
   refine TotP.ok (Qx ⟨i1,hw,?_⟩)
   show w64 (a+w64 (sumV m[i]))=w64 (tS m (w64 ((i:Int)+1)).toNat)
   rw [hw,hJ,QsA,Int.add_comm,QsA,Int.toNat_natCast,Int.toNat_natCast,tS,List.getD_eq_getElem?_getD,getq i1,Int.add_comm];rfl
  ·simp only [decide_eq_false_iff_not]at hc
   rw [hJ,show(i:Int).toNat=m.length by omega]))
 rw [h1,h2];rfl
theorem QwW (n:TNet)(m:List Bag)(o:Qk)(c:Nat)(h:QY n)(hm:MOk n c m)(hl:Low n m)(hc:c≤900000)(ho:Qj0 n o):TotP (Qe4 n m o) fun r=>r.2=0→Low n r.1:=by
 have hpl:=h.pl
 have hm1:=hm.1
 unfold Qe4
 refine TotP.bind (QuC n o h ho) fun y hy=>?_
 refine TotP.bif (fun hc=>TotP.ok fun h=>absurd h (by simpa using hc)) fun hc2=>?_
 obtain⟨⟨hy,hyl⟩,h1,h2⟩:=hy (by simpa using hc2)
 rw [Qnc m (by omega) (fun b hb=>by have:=(hm.2 b hb).2;omega),Option.bind_some]
 refine TotP.bind (TotP.idx h1 h2) fun e he=>?_
 have hcl:=(h.tk e he).2.2.2
 refine TotP.bind (TotP.up e.Cancel.length (fun st=>st.1) (fun st=>MOk n c st.2∧Low n st.2) (Q:=fun q=>MOk n c q∧Low n q) rfl ⟨hm,hl⟩ (fun i st hi hn hJ=>?_)) (fun q hq=>?_)
 ·obtain⟨x,l⟩:=st
  replace hi:x=(i:Int):=hi
  replace hJ:MOk n c l∧Low n l:=hJ
  show TotP (QcZ e x l) _
  unfold QcZ
  refine TotP.bif (fun hc=>?_) (fun _=>TotP.ok (Ql hJ))
  simp only [decide_eq_true_eq]at hc
  refine TotP.bind (TotP.idx (by omega) (by omega)) fun k _=>?_
  have next:∀l,MOk n c l∧Low n l→TotP (QcY x l) fun o=>(∀s',o=.inl s'→i<e.Cancel.length∧s'.1=((i+1:Nat):Int)∧MOk n c s'.2∧Low n s'.2)∧∀r:List (List (Int×Int)),o=.inr r→MOk n c r∧Low n r:=fun l hl=>by
   unfold QcY
   exact TotP.ok (Qx (ix:=fun st:Int×List (List (Int×Int))=>st.1) (J:=fun st:Int×List (List (Int×Int))=>MOk n c st.2∧Low n st.2) ⟨by omega,by subst hi;exact Qu (by omega) (by unfold maxLen;omega:e.Cancel.length≤maxLen),hl⟩)
  refine TotP.bif (fun hc3=>?_) fun _=>next l hJ
  simp only [Bool.and_eq_true,decide_eq_true_eq]at hc3
  refine TotP.bind (TotP.idx hc3.1 hc3.2) fun _ _=>?_
  refine next _ ⟨⟨by simpa using hJ.1.1,fun b hb=>?_⟩,fun j b p hb hp k' hk=>?_⟩
  ·rcases Qoa hb with rfl | hb
   ·exact⟨Rt.nil,by simp⟩
   ·exact hJ.1.2 b hb
  ·by_cases cj:k.toNat=j
   ·subst cj
    rw [List.getElem?_set_self (by omega)]at hb
    cases hb
    simp [cntL,mget]at hk
   ·rw [List.getElem?_set_ne cj]at hb
    exact hJ.2 j b p hb hp k' hk
 ·show TotP (QdX y q) _
  unfold QdX
  refine TotP.bind (QtZ n q y.1 c 20 h hq.1 hy (by omega)) fun z hz=>TotP.ok fun hz0=>?_
  obtain⟨zl,ze⟩:=hz.1 hz0
  intro j b p hb hp k hk
  have hj:j<n.Places.length:=(List.getElem?_eq_some_iff.1 hp).1
  obtain⟨u,hu,hu1,hu2⟩:=Qto hq.1 hj
  obtain⟨v,hv,hv1,hv2⟩:=Qto hy hj
  obtain⟨s,hs1,hs2⟩:=ze j u v hu hv
  have hs1:z.1[j]? = some s:=hs1
  have hb:z.1[j]? = some b:=hb
  rw [hb]at hs1;cases hs1
  have q:=(QxV (by omega) hs2).2.2.2 k
  by_cases c0:0<cntL u k
  ·exact hq.2 j u p hu hp k c0
  ·exact hyl j v p hv hp k (by omega)
end Go.Proofs
noncomputable section
namespace Go.Proofs
open Go Go.RowKit Go.Vm
def szB (n:TNet)(t:Qr):List Int:=t.Vars.map fun v=>(QaG n.Colours v.Colour).getD 0
def gdB (b:QD)(r:List Int):Bool:=decide (QaR b r=some 0)
def QeR (n:TNet)(m:List (List (Int×Int)))(task:Int)(ins outs:List (List Int))(p:List Int):List Qk:=match Qbj n m task p with
 | some (c,b)=>if c=0∧Q2 b=some 0 then ins.flatMap fun e=>if Q4 b e=some 0 then(outs.filter (gdB b)).map fun o=>Qk.mk task p e o else []else []
 | none=>[]
theorem ne0 (g:Int):(g != 0)=!decide (some g=some (0:Int)):=by by_cases h:g=0<;>simp [h]
theorem Qwc (t:Qr)(n:TNet)(l:List Int)(h:QJ n)(hl:l.length=t.Vars.length)(hv:t.Vars.length≤16)(hd:∀d∈l,0≤d∧d≤1024):
  TotP (QA (fun st=>Qbz t n st.1 st.2) ((w64 ((l.length:Int)-1)),l)) fun q=>(-1≤q.1∧q.1<l.length∧q.2=l.take (q.1+1).toNat++List.replicate (l.length-(q.1+1).toNat) 0)∧(∀(j:Nat) x s,q.1<(j:Int)→l[j]? = some x→(szB n t)[j]? = some s→¬x+1<s)∧∀x s,0≤q.1→l[q.1.toNat]? = some x→(szB n t)[q.1.toNat]? = some s→x+1<s∧x<1024:=by
 have hw:w64 ((l.length:Int)-1)=(l.length:Int)-1:=Qcn (by omega)
 refine TotP.up l.length (fun st=>(l.length:Int)-1-st.1) (fun st=>st.2=l.take (st.1+1).toNat++List.replicate (l.length-(st.1+1).toNat) 0∧∀(j:Nat) x s,st.1<(j:Int)→l[j]? = some x→(szB n t)[j]? = some s→¬x+1<s) (by rw [hw];omega) ⟨by
  rw [hw]
  show l=_
  rw [show((l.length:Int)-1+1).toNat=l.length by omega,List.take_length,Nat.sub_self];simp,fun j x s hj hx=>by
  replace hj:w64 ((l.length:Int)-1)<(j:Int):=hj
  have:=(List.getElem?_eq_some_iff.1 hx).1
  omega⟩ (fun i st hi hn hJ=>?_)
 obtain⟨a,d⟩:=st
 replace hi:(l.length:Int)-1-a=i:=hi
 obtain⟨hJ,hJ2⟩:d=l.take (a+1).toNat++List.replicate (l.length-(a+1).toNat) 0∧∀(j:Nat) x s,a<(j:Int)→l[j]? = some x→(szB n t)[j]? = some s→¬x+1<s:=hJ
 have hdl:d.length=l.length:=by rw [hJ];simp;omega
 show TotP (Qbz t n a d) _
 unfold Qbz
 refine TotP.bind (P:=fun x=>(x=true→0≤a∧∀e s,l[a.toNat]? = some e→(szB n t)[a.toNat]? = some s→¬e+1<s)∧(x=false→∀e s,0≤a→l[a.toNat]? = some e→(szB n t)[a.toNat]? = some s→e+1<s∧e<1024)) ?_ fun x hx=>?_
 ·unfold QhT
  refine TotP.bif (fun hc=>?_) fun hc=>TotP.ok ⟨fun h=>(by cases h),fun _ e s he=>?_⟩
  ·simp only [decide_eq_true_eq]at hc
   have hlt:a.toNat<l.length:=by omega
   have hlv:a.toNat<t.Vars.length:=by omega
   have ed:idx d a=some l[a.toNat]:=by
    rw [QlG hc,hJ,List.getElem?_append_left (by simp;omega),List.getElem?_take,if_pos (by omega),List.getElem?_eq_getElem hlt]
   have ev:idx t.Vars a=some t.Vars[a.toNat]:=by rw [QlG hc,List.getElem?_eq_getElem hlv]
   rw [ed,Option.bind_some,ev,Option.bind_some]
   refine TotP.bind (Qct _ _ h.1).self fun z hz=>?_
   obtain⟨hze,hz⟩:=hz
   have hsz:(szB n t)[a.toNat]? = some z:=by
    unfold szB
    rw [List.getElem?_map,List.getElem?_eq_getElem hlv,Option.map_some,hze];rfl
   have h2:=hd _ (List.getElem_mem hlt)
   rw [Qcn (by omega)]
   refine TotP.ok ⟨fun ht=>⟨hc,fun e s he hs=>?_⟩,fun hf e s _ he hs=>?_⟩
   ·rw [List.getElem?_eq_getElem hlt]at he
    cases he
    rw [hsz]at hs;cases hs
    simp only [decide_eq_true_eq]at ht
    omega
   ·rw [List.getElem?_eq_getElem hlt]at he
    cases he
    rw [hsz]at hs;cases hs
    simp only [decide_eq_false_iff_not]at hf
    omega
  ·simp only [decide_eq_false_iff_not]at hc;omega
 ·unfold Qdi
  refine TotP.bif (fun hc=>?_) fun hc=>?_
  ·obtain⟨ha,ha2⟩:=hx.1 hc
   refine TotP.bind (TotP.idx ha (by omega)) fun _ _=>?_
   have hw2:w64 (a-1)=a-1:=Qcn (by omega)
   refine TotP.ok (Qx ⟨by omega,?_,?_,fun j x s hj hx hs=>?_⟩)
   ·show(l.length:Int)-1-w64 (a-1)=_
    rw [hw2];omega
   ·show d.set a.toNat 0=l.take (w64 (a-1)+1).toNat++List.replicate (l.length-(w64 (a-1)+1).toNat) 0
    rw [hw2,hJ,show(a+1).toNat=a.toNat+1 by omega,QtY (by omega),show(a-1+1).toNat=a.toNat by omega]
    rw [show l.length-a.toNat=(l.length-(a.toNat+1))+1 by omega,List.replicate_succ]
   ·replace hj:w64 (a-1)<(j:Int):=hj
    rw [hw2]at hj
    by_cases c:a<(j:Int)
    ·exact hJ2 j x s c hx hs
    ·have:a.toNat=j:=by omega
     subst this
     exact ha2 x s hx hs
  ·exact TotP.ok (Ql ⟨⟨by omega,by omega,hJ⟩,hJ2,hx.2 hc⟩)
theorem Quo (n:TNet)(m:List (List (Int×Int)))(b:QD)(l:List (List Int))(h:QY n)(hb:BOk n m b)(hl:Qln l):TotP (Qa9 l b) fun r=>(r=-1∧∀row∈l,gdB b row=true)∨∃i:Nat,r=(i:Int)∧i<l.length∧(∀row∈l.take i,gdB b row=true)∧∀row,l[i]? = some row→gdB b row=false:=by
 have hl1:=hl.1
 unfold Qa9
 refine TotP.bind (TotP.up l.length (fun st=>st) (fun st=>∀row∈l.take st.toNat,gdB b row=true) (Q:=fun q:Int⊕Unit=>(∀x,q=.inl x→∃i:Nat,x=(i:Int)∧i<l.length∧(∀row∈l.take i,gdB b row=true)∧∀row,l[i]? = some row→gdB b row=false)∧(q=.inr ()→∀row∈l,gdB b row=true)) rfl (fun row h=>by cases h) (fun i st hi hn hJ=>?_)) (fun q hq=>?_)
 ·replace hi:st=(i:Int):=hi
  subst hi
  replace hJ:∀row∈l.take (i:Int).toNat,gdB b row=true:=hJ
  rw [Int.toNat_natCast]at hJ
  show TotP (Qan l b i) _
  unfold Qan Qfb
  refine TotP.bif (fun hc=>?_) (fun hc=>TotP.ok (Ql ⟨fun x h=>(by cases h),fun _=>?_⟩))
  ·simp only [decide_eq_true_eq]at hc
   have hlt:i<l.length:=by omega
   rw [QX,List.getElem?_eq_getElem hlt,Option.bind_some]
   have:=hl.2 _ (List.getElem_mem hlt)
   refine TotP.bind (P:=fun c:Bool=>c=!gdB b l[i]) ?_ fun c hcc=>?_
   ·refine TotP.bind (QsG n m b l[i] h hb (by omega)).self fun g hg=>TotP.ok ?_
    unfold gdB
    rw [hg.1];exact ne0 g
   ·subst hcc
    refine TotP.bif (fun hc2=>TotP.ok (Ql ⟨fun x e=>(by cases e;exact⟨i,rfl,hlt,hJ,fun row hr=>by rw [List.getElem?_eq_getElem hlt]at hr;cases hr;simpa using hc2⟩),fun e=>by cases e⟩)) fun hc2=>?_
    have hw:w64 ((i:Int)+1)=((i+1:Nat):Int):=Qu hlt (by unfold maxLen;omega:l.length≤maxLen)
    refine TotP.ok (Qx ⟨hlt,hw,?_⟩)
    show ∀row∈l.take (w64 ((i:Int)+1)).toNat,gdB b row=true
    rw [hw,Int.toNat_natCast,List.take_add_one,List.getElem?_eq_getElem hlt]
    intro row hr
    rcases List.mem_append.1 hr with hr | hr
    ·exact hJ row hr
    ·simp at hr;subst hr;simpa using hc2
  ·simp only [decide_eq_false_iff_not]at hc
   rwa [List.take_of_length_le (by omega)]at hJ
 ·rcases q with q | q
  ·exact TotP.ok (.inr (hq.1 q rfl))
  ·exact TotP.ok (.inl ⟨rfl,hq.2 rfl⟩)
theorem Qup (n:TNet)(m:List (List (Int×Int)))(b:QD)(l:List (List Int))(h:QY n)(hb:BOk n m b)(hl:Qln l):TotP (Qa3 l b) fun r=>r=l.filter (gdB b):=by
 have hl1:=hl.1
 unfold Qa3
 refine TotP.bind (Quo n m b l h hb hl) fun x hx=>?_
 rcases hx with⟨rfl,hx⟩|⟨i0,rfl,hi0,hx1,hx2⟩
 ·exact TotP.bif (fun _=>TotP.ok (List.filter_eq_self.2 hx).symm) fun hc=>by simp at hc
 refine TotP.bif (fun hc=>by simp at hc) fun _=>?_
 have hw:w64 ((i0:Int)+1)=(i0:Int)+1:=Qcn (by omega)
 have hbad:=hx2 _ (List.getElem?_eq_getElem hi0)
 refine TotP.bind (TotP.up (l.length-(i0+1)) (fun st=>st.2.1-((i0:Int)+1)) (fun st=>0≤st.1∧st.1<st.2.1∧st.2.2.length=l.length∧st.2.2.take st.1.toNat=(l.take st.2.1.toNat).filter (gdB b)∧st.2.2.drop st.2.1.toNat=l.drop st.2.1.toNat) (Q:=fun q:Int×List (List Int)=>0≤q.1∧q.1≤(l.length:Int)∧q.2.length=l.length∧q.2.take q.1.toNat=l.filter (gdB b)) (by show w64 ((i0:Int)+1)-((i0:Int)+1)=0;omega) ⟨by show(0:Int)≤i0;omega,by show(i0:Int)<w64 ((i0:Int)+1);omega,rfl,?_,rfl⟩ (fun i st hi hn hJ=>?_)) (fun q hq=>?_)
 ·show l.take (i0:Int).toNat=(l.take (w64 ((i0:Int)+1)).toNat).filter (gdB b)
  rw [hw,Int.toNat_natCast,show((i0:Int)+1).toNat=i0+1 by omega,List.take_add_one,List.getElem?_eq_getElem hi0,List.filter_append,List.filter_eq_self.2 hx1]
  show l.take i0=l.take i0++List.filter (gdB b) [l[i0]]
  rw [List.filter_cons,hbad]
  exact(List.append_nil _).symm
 ·obtain⟨a,j,l2⟩:=st
  replace hi:j-((i0:Int)+1)=i:=hi
  obtain⟨j1,j2,j3,j4,j5⟩:0≤a∧a<j∧l2.length=l.length∧l2.take a.toNat=(l.take j.toNat).filter (gdB b)∧l2.drop j.toNat=l.drop j.toNat:=hJ
  show TotP (Qai b a j l2) _
  unfold Qai Qfb
  refine TotP.bif (fun hc=>?_) (fun hc=>TotP.ok (Ql ⟨j1,?_,j3,?_⟩))
  ·simp only [decide_eq_true_eq]at hc
   have hj:j.toNat<l2.length:=by omega
   have hj':j.toNat<l.length:=by omega
   have ej:l2[j.toNat]=l[j.toNat]:=by
    have:=congrArg List.head? j5
    rw [List.drop_eq_getElem_cons hj,List.drop_eq_getElem_cons hj']at this
    exact Option.some.inj this
   have ej5:l2.drop (j.toNat+1)=l.drop (j.toNat+1):=by
    have:=congrArg List.tail j5
    simpa using this
   rw [QpM (by omega) (by omega),Option.bind_some]
   have:=hl.2 _ (List.getElem_mem hj')
   have hw2:w64 (j+1)=j+1:=Qcn (by omega)
   have hw3:w64 (a+1)=a+1:=Qcn (by omega)
   have tk:l.take (j+1).toNat=l.take j.toNat++[l[j.toNat]]:=by
    rw [show(j+1).toNat=j.toNat+1 by omega,List.take_add_one,List.getElem?_eq_getElem hj'];rfl
   refine TotP.bind (P:=fun c:Bool=>c=!gdB b l[j.toNat]) ?_ fun c hcc=>?_
   ·rw [ej]
    refine TotP.bind (QsG n m b l[j.toNat] h hb (by omega)).self fun g hg=>TotP.ok ?_
    unfold gdB
    rw [hg.1];exact ne0 g
   subst hcc
   refine TotP.bif (fun hc2=>?_) fun hc2=>?_
   ·have hc2:gdB b l[j.toNat]=true:=by simpa using hc2
    refine TotP.bind (TotP.idx (by omega) (by omega)) fun _ _=>?_
    refine TotP.ok (Qx ⟨by omega,by show w64 (j+1)-((i0:Int)+1)=_;omega,by show 0≤w64 (a+1);omega,by show w64 (a+1)<w64 (j+1);omega,by simpa using j3,?_,?_⟩)
    ·show(l2.set a.toNat l2[j.toNat]).take (w64 (a+1)).toNat=(l.take (w64 (j+1)).toNat).filter (gdB b)
     rw [hw2,hw3,tk,List.filter_append,←j4,show(a+1).toNat=a.toNat+1 by omega,List.take_add_one,List.getElem?_set_self (by omega),List.take_set_of_le (Nat.le_refl _),ej]
     simp [hc2]
    ·show(l2.set a.toNat l2[j.toNat]).drop (w64 (j+1)).toNat=l.drop (w64 (j+1)).toNat
     rw [hw2,show(j+1).toNat=j.toNat+1 by omega,List.drop_set_of_lt (by omega),ej5]
   ·have hc2:gdB b l[j.toNat]=false:=by simpa using hc2
    refine TotP.ok (Qx ⟨by omega,by show w64 (j+1)-((i0:Int)+1)=_;omega,j1,by show a<w64 (j+1);omega,j3,?_,?_⟩)
    ·show l2.take a.toNat=(l.take (w64 (j+1)).toNat).filter (gdB b)
     rw [hw2,tk,List.filter_append,←j4]
     simp [hc2]
    ·show l2.drop (w64 (j+1)).toNat=l.drop (w64 (j+1)).toNat
     rw [hw2,show(j+1).toNat=j.toNat+1 by omega,ej5]
  ·simp only [decide_eq_false_iff_not]at hc
   show a≤_
   omega
  ·simp only [decide_eq_false_iff_not]at hc
   show l2.take a.toNat=_
   rw [j4,List.take_of_length_le (by omega)]
 ·obtain⟨q1,q2⟩:=q
  obtain⟨h1,h2,h3,h4⟩:0≤q1∧q1≤l.length∧q2.length=l.length∧q2.take q1.toNat=l.filter (gdB b):=hq
  show TotP (QaK q1 q2) _
  unfold QaK
  refine TotP.bind (TotP.chk (by simp only [Bool.and_eq_true,decide_eq_true_eq];omega)) fun _ _=>?_
  refine TotP.bind (TotP.chk (by simp only [Bool.and_eq_true,decide_eq_true_eq,List.length_append,List.length_take,List.length_replicate];omega)) fun _ _=>?_
  refine TotP.ok ?_
  rw [List.take_append_of_le_length (by simp;omega),List.take_take,Nat.min_self,h4]
end Go.Proofs
noncomputable section
namespace Go.Proofs
open Go Go.RowKit Go.Vm
theorem Qvm (n:TNet)(m:List (List (Int×Int)))(task most:Int)(l5 l8:List Qk)(ins outs:List (List Int))(p:List Int)(h:QY n)(hm:lenL (lenL fun _=>True) m)(hmost:most≤4294967296∨l8.length+(QeR n m task ins outs p).length≤4294967296)
  (hi:Qln ins) (ho:Qln outs) (hp:p.length≤16) (ha:(l8.length:Int)<most):
  TotP (QcX n m task most l5 ins outs l8 p) fun r=>r=adv most.toNat l8 (QeR n m task ins outs p):=by
 have hil:=hi.1
 have hol:=ho.1
 unfold QcX
 refine TotP.bind (Quz n m task p h).self fun x hx=>?_
 obtain⟨c,b⟩:=x
 obtain⟨hxe,hx⟩:=hx
 refine TotP.bind (P:=fun y=>(y=true→QeR n m task ins outs p=[])∧(y=false→BOk n m b∧c=0∧Q2 b=some 0)) ?_ fun y hy=>?_
 ·unfold Qfy
  refine TotP.bif (fun hc=>TotP.ok ⟨fun _=>?_,fun h=>by cases h⟩) fun hc=>?_
  ·unfold QeR
   rw [hxe]
   simp only
   rw [if_neg fun e=>by simp [e.1]at hc]
  have hc:c=0:=by simpa using hc
  have hb:=hx hc
  refine TotP.bind (Qs0 n m b h hb).self fun g hg=>TotP.ok ⟨fun hg2=>?_,fun hg2=>⟨hb,hc,?_⟩⟩
  ·unfold QeR
   rw [hxe]
   simp only
   rw [if_neg fun e=>by rw [hg.1]at e;simp at e;simp [e.2]at hg2]
  ·rw [hg.1];simpa using hg2
 unfold Qb4
 refine TotP.bif (fun hc=>TotP.ok ?_) fun hc=>?_
 ·rw [hy.1 hc,Qn2 (by omega)]
 obtain⟨hb,hc0,hgd⟩:=hy.2 hc
 refine TotP.bind (P:=fun z=>z=outs) (by unfold Qc8;exact TotP.bind (TotP.chk (by simp;omega)) fun _ _=>TotP.ok rfl) fun x19 h19=>?_
 rw [h19]
 refine TotP.bind (Qup n m b outs h hb ho) fun x20 h20=>?_
 have h20l:x20.length≤16:=by rw [h20];exact Nat.le_trans (List.length_filter_le _ _) ho.1
 have h20e:∀r∈x20,r.length≤16:=fun r hr=>by rw [h20]at hr;exact ho.2 r (List.mem_filter.1 hr).1
 have hR:QeR n m task ins outs p=ins.flatMap fun e=>if Q4 b e=some 0 then x20.map (fun o=>Qk.mk task p e o)else []:=by
  unfold QeR
  rw [hxe]
  simp only
  rw [if_pos ⟨hc0,hgd⟩,h20]
 rw [hR]at hmost ⊢
 generalize hg:(fun e=>if Q4 b e=some 0 then x20.map (fun o=>Qk.mk task p e o)else [])=g at hmost ⊢
 refine TotP.bind (TotP.up ins.length (fun st=>st.1) (fun st=>(st.2.length:Int)<most∧adv most.toNat st.2 ((ins.drop st.1.toNat).flatMap g)=adv most.toNat l8 (ins.flatMap g)∧st.2.length+((ins.drop st.1.toNat).flatMap g).length=l8.length+(ins.flatMap g).length) (Q:=fun q=>q=adv most.toNat l8 (ins.flatMap g)) rfl ⟨ha,rfl,rfl⟩ (fun i st hi2 hn hJ=>?_)) (fun q hq=>?_)
 ·obtain⟨j,l⟩:=st
  replace hi2:j=(i:Int):=hi2
  subst hi2
  obtain⟨hJ1,hJ2,hJ3⟩:(l.length:Int)<most∧adv most.toNat l ((ins.drop (i:Int).toNat).flatMap g)=adv most.toNat l8 (ins.flatMap g)∧l.length+((ins.drop (i:Int).toNat).flatMap g).length=l8.length+(ins.flatMap g).length:=hJ
  rw [Int.toNat_natCast]at hJ2 hJ3
  show TotP (Qbm ins (c,b) x20 p task most i l) _
  unfold Qbm
  refine TotP.bif (fun hc=>?_) (fun hc=>TotP.ok (Ql ?_))
  ·simp only [decide_eq_true_eq]at hc
   have hlt:i<ins.length:=by omega
   have hel:=hi.2 _ (List.getElem_mem hlt)
   rw [QX,List.getElem?_eq_getElem hlt,Option.bind_some]
   rw [List.drop_eq_getElem_cons hlt,List.flatMap_cons,Quv]at hJ2
   rw [List.drop_eq_getElem_cons hlt,List.flatMap_cons,List.length_append]at hJ3
   have next:∀l',(l'.length:Int)<most→adv most.toNat l' ((ins.drop (i+1)).flatMap g)=adv most.toNat l8 (ins.flatMap g)→l'.length+((ins.drop (i+1)).flatMap g).length=l8.length+(ins.flatMap g).length→TotP (Qbk i l') fun o=>(∀s',o=.inl s'→i<ins.length∧s'.1=((i+1:Nat):Int)∧(s'.2.length:Int)<most∧adv most.toNat s'.2 ((ins.drop s'.1.toNat).flatMap g)=adv most.toNat l8 (ins.flatMap g)∧s'.2.length+((ins.drop s'.1.toNat).flatMap g).length=l8.length+(ins.flatMap g).length)∧∀r:List Qk⊕List Qk,o=.inr r→r=adv most.toNat l8 (ins.flatMap g):=fun l' hl1 hl2 hl3=>by
    have hw:w64 ((i:Int)+1)=((i+1:Nat):Int):=Qu hlt (by unfold maxLen;omega:ins.length≤maxLen)
    unfold Qbk
    exact TotP.ok (Qx (ix:=fun st:Int×List Qk=>st.1) (J:=fun st:Int×List Qk=>(st.2.length:Int)<most∧adv most.toNat st.2 ((ins.drop st.1.toNat).flatMap g)=adv most.toNat l8 (ins.flatMap g)∧st.2.length+((ins.drop st.1.toNat).flatMap g).length=l8.length+(ins.flatMap g).length) ⟨hlt,hw,hl1,by
     show adv most.toNat l' ((ins.drop (w64 ((i:Int)+1)).toNat).flatMap g)=_∧l'.length+((ins.drop (w64 ((i:Int)+1)).toNat).flatMap g).length=_
     rw [hw,Int.toNat_natCast];exact⟨hl2,hl3⟩⟩)
   refine TotP.bind (QuA n m b ins[i] h hb hm (by omega)).self fun z hz=>?_
   refine TotP.bif (fun hc2=>?_) fun hc2=>?_
   ·have:g ins[i]=[]:=by
     rw [←hg];simp only
     rw [if_neg fun e=>by rw [hz.1]at e;simp at e;simp [e]at hc2]
    rw [this,Qn2 (by omega)]at hJ2
    rw [this]at hJ3
    exact next l hJ1 hJ2 (by simpa using hJ3)
   have hge:g ins[i]=x20.map (fun o=>Qk.mk task p ins[i] o):=by
    rw [←hg];simp only
    rw [if_pos (by rw [hz.1];simpa using hc2)]
   rw [hge]at hJ2 hJ3
   rw [List.length_map]at hJ3
   refine TotP.bind (TotP.up x20.length (fun st=>st.1) (fun st=>(st.2.length:Int)<most∧adv most.toNat st.2 ((x20.drop st.1.toNat).map fun o=>Qk.mk task p ins[i] o)=adv most.toNat l (x20.map fun o=>Qk.mk task p ins[i] o)∧(st.2.length:Int)=l.length+st.1) (Q:=fun q=>q=adv most.toNat l (x20.map fun o=>Qk.mk task p ins[i] o)) rfl ⟨hJ1,rfl,by simp⟩ (fun i2 st hi3 hn2 hK=>?_)) (fun q hq=>?_)
   ·obtain⟨j2,l2⟩:=st
    replace hi3:j2=(i2:Int):=hi3
    subst hi3
    obtain⟨hK1,hK2,hK3⟩:(l2.length:Int)<most∧adv most.toNat l2 ((x20.drop (i2:Int).toNat).map fun o=>Qk.mk task p ins[i] o)=adv most.toNat l (x20.map fun o=>Qk.mk task p ins[i] o)∧(l2.length:Int)=l.length+(i2:Int):=hK
    rw [Int.toNat_natCast]at hK2
    show TotP (Qbl x20 p ins[i] task most i2 l2) _
    unfold Qbl
    refine TotP.bif (fun hc=>?_) (fun hc=>TotP.ok (Ql ?_))
    ·simp only [decide_eq_true_eq]at hc
     have hlt2:i2<x20.length:=by omega
     have hel2:=h20e _ (List.getElem_mem hlt2)
     rw [QX,List.getElem?_eq_getElem hlt2,Option.bind_some]
     rw [List.drop_eq_getElem_cons hlt2,List.map_cons,QwN]at hK2
     rw [QlW p (by omega),Option.bind_some,QlW ins[i] (by omega),Option.bind_some,QlW x20[i2] (by omega),Option.bind_some]
     refine TotP.bind (TotP.chk (by simp;omega)) fun _ _=>?_
     refine TotP.bif (fun hc2=>TotP.ok (Ql ?_)) fun hc2=>?_
     ·simp only [beq_iff_eq,List.length_append,List.length_singleton]at hc2
      rw [QwM (by simp;omega)]at hK2
      exact hK2
     ·simp only [beq_eq_false_iff_ne,List.length_append,List.length_singleton]at hc2
      have hw:w64 ((i2:Int)+1)=((i2+1:Nat):Int):=Qu hlt2 (by unfold maxLen;omega:x20.length≤maxLen)
      refine TotP.ok (Qx ⟨hlt2,hw,by show((l2++[_]).length:Int)<most;simp;omega,?_,by show((l2++[_]).length:Int)=l.length+w64 ((i2:Int)+1);rw [hw];simp;omega⟩)
      show adv most.toNat (l2++[_]) ((x20.drop (w64 ((i2:Int)+1)).toNat).map _)=_
      rw [hw,Int.toNat_natCast];exact hK2
    ·simp only [decide_eq_false_iff_not]at hc
     rw [List.drop_of_length_le (by omega),List.map_nil,Qn2 (by omega)]at hK2
     exact hK2
   ·rw [←hq]at hJ2
    rcases q with q | q
    ·exact TotP.ok (Ql hJ2)
    ·exact next q (by have:=Qv2 hq.symm;omega) hJ2 (by
      have e:=congrArg List.length (Quw hq.symm)
      rw [List.length_append,List.length_map]at e
      omega)
  ·simp only [decide_eq_false_iff_not]at hc
   rw [List.drop_of_length_le (by omega),List.flatMap_nil,Qn2 (by omega)]at hJ2
   exact hJ2
 ·rcases q with q | q
  ·exact TotP.ok hq
  ·exact TotP.ok hq
theorem Qth (n:TNet)(m:List (List (Int×Int)))(task most:Int)(l5:List Qk)(ins outs:List (List Int))(t:Qr)(h:QY n)(hm:lenL (lenL fun _=>True) m)(hmost:most≤4294967296∨((binds (szB n t)).flatMap (QeR n m task ins outs)).length≤4294967296)(h1:1≤most)
  (hi:Qln ins) (ho:Qln outs) (ht:t∈n.Tasks):TotP (QeJ n m task most l5 ins outs [] t n) fun r=>∀a,r=.inl a∨r=.inr a→a=((binds (szB n t)).flatMap (QeR n m task ins outs)).take most.toNat:=by
 have hv:=(h.tk t ht).1
 have hsz:(szB n t).length=t.Vars.length:=by simp [szB]
 generalize hrl:QeR n m task ins outs=rl at hmost ⊢
 have fin:∀q:List Qk⊕List Qk,q.swap=adv most.toNat [] ((binds (szB n t)).flatMap rl)→∀a,q=.inl a∨q=.inr a→a=((binds (szB n t)).flatMap rl).take most.toNat:=fun q hq a ha=>by
  rw [←QwO (by omega:0<most.toNat),←hq]
  rcases ha with rfl | rfl<;>rfl
 unfold QeJ
 refine TotP.bind (TotP.chk (by simp only [Bool.and_eq_true,decide_eq_true_eq];omega)) fun _ _=>?_
 refine TotP.bind (Qv8 (fun st=>(Qds (szB n t) st.1).length) (fun st=>st.1.length=t.Vars.length∧(∀d∈st.1,0≤d∧d≤1024)∧(st.2.length:Int)<most∧adv most.toNat st.2 ((st.1::Qds (szB n t) st.1).flatMap rl)=adv most.toNat [] ((binds (szB n t)).flatMap rl)∧st.2.length+((st.1::Qds (szB n t) st.1).flatMap rl).length=((binds (szB n t)).flatMap rl).length) (Q:=fun q:List Qk⊕List Qk=>q.swap=adv most.toNat [] ((binds (szB n t)).flatMap rl))
  ⟨by simp,fun d hd=>by have:=List.eq_of_mem_replicate hd;omega,by simp;omega,?_⟩ (fun st hJ=>?_)) (fun q hq=>?_)
 ·show adv most.toNat [] ((List.replicate (t.Vars.length:Int).toNat 0::Qds (szB n t) (List.replicate (t.Vars.length:Int).toNat 0)).flatMap rl)=_∧0+((List.replicate (t.Vars.length:Int).toNat 0::Qds (szB n t) (List.replicate (t.Vars.length:Int).toNat 0)).flatMap rl).length=_
  rw [QqM (szB n t),Qi4,hsz,Int.toNat_natCast,Nat.zero_add]
  exact⟨rfl,rfl⟩
 ·obtain⟨d,l⟩:=st
  obtain⟨j1,j2,j3,j4,j5⟩:d.length=t.Vars.length∧(∀d'∈d,0≤d'∧d'≤1024)∧(l.length:Int)<most∧adv most.toNat l ((d::Qds (szB n t) d).flatMap rl)=adv most.toNat [] ((binds (szB n t)).flatMap rl)∧l.length+((d::Qds (szB n t) d).flatMap rl).length=((binds (szB n t)).flatMap rl).length:=hJ
  rw [List.flatMap_cons,List.length_append]at j5
  show TotP (Qcf n m task most l5 ins outs t n d l) _
  unfold Qcf
  rw [QlW d (by omega),Option.bind_some]
  refine TotP.bind (Qvm n m task most l5 l ins outs d h hm (by rw [hrl];omega) hi ho (by omega) j3) fun r hr=>?_
  rw [hrl]at hr
  rw [List.flatMap_cons,Quv,←hr]at j4
  rcases r with r | r
  ·exact TotP.ok ⟨fun s' e=>(by cases e),fun q e=>(by cases e;exact j4)⟩
  ·have hacc:=Qv2 hr.symm
   have hlen:=congrArg List.length (Quw hr.symm)
   rw [List.length_append]at hlen
   replace j4:adv most.toNat r ((Qds (szB n t) d).flatMap rl)=adv most.toNat [] ((binds (szB n t)).flatMap rl):=j4
   show TotP (Qdk t n d r) _
   unfold Qdk
   refine TotP.bind (Qwc t n d h.k j1 hv j2) fun q hq=>?_
   obtain⟨a,d2⟩:=q
   obtain⟨⟨q1,q2,q3⟩,q4,q5⟩:(-1≤a∧a<d.length∧d2=d.take (a+1).toNat++List.replicate (d.length-(a+1).toNat) 0)∧(∀(j:Nat) x s,a<(j:Int)→d[j]? = some x→(szB n t)[j]? = some s→¬x+1<s)∧∀x s,0≤a→d[a.toNat]? = some x→(szB n t)[a.toNat]? = some s→x+1<s∧x<1024:=hq
   have hnx:=Qve (szB n t) d
   show TotP (Qdj r a d2) _
   unfold Qdj
   refine TotP.bif (fun hc=>TotP.ok ⟨fun s' e=>(by cases e),fun q e=>(by
    cases e
    simp only [decide_eq_true_eq]at hc
    rw [QsY (szB n t) d fun j x s=>q4 j x s (by omega)]at hnx
    simp only at hnx
    rw [hnx,List.flatMap_nil,Qn2 hacc]at j4
    exact j4)⟩) fun hc=>?_
   simp only [decide_eq_false_iff_not]at hc
   have hlt:a.toNat<d.length:=by omega
   have hls:a.toNat<(szB n t).length:=by omega
   have ed:idx d2 a=some d[a.toNat]:=by
    rw [QlG (by omega),q3,List.getElem?_append_left (by simp;omega),List.getElem?_take,if_pos (by omega),List.getElem?_eq_getElem hlt]
   rw [ed,Option.bind_some,Option.bind_some]
   have h9:=q5 _ _ (by omega) (List.getElem?_eq_getElem hlt) (List.getElem?_eq_getElem hls)
   have h10:=j2 _ (List.getElem_mem hlt)
   rw [Qcn (by omega)]
   have e3:d2.set a.toNat (d[a.toNat]+1)=d.take a.toNat++(d[a.toNat]+1)::List.replicate (d.length-(a.toNat+1)) 0:=by
    rw [q3,show(a+1).toNat=a.toNat+1 by omega,QtY hlt]
   rw [e3]
   have hd3:∀x∈d.take a.toNat++(d[a.toNat]+1)::List.replicate (d.length-(a.toNat+1)) 0,0≤x∧x≤1024:=fun x hx=>by
    rcases List.mem_append.1 hx with hx | hx
    ·exact j2 x (List.mem_of_mem_take hx)
    ·rcases List.mem_cons.1 hx with rfl | hx
     ·omega
     ·have:=List.eq_of_mem_replicate hx;omega
   have hlen2:(d.take a.toNat++(d[a.toNat]+1)::List.replicate (d.length-(a.toNat+1)) 0).length=t.Vars.length:=by simp;omega
   rw [Qxm a.toNat (szB n t) d _ _ (by omega) (List.getElem?_eq_getElem hlt) (List.getElem?_eq_getElem hls) h9.1 fun j y z hj=>q4 j y z (by omega)]at hnx
   simp only at hnx
   rw [hnx]at j4
   exact TotP.ok ⟨fun s' e=>(by
    cases e
    refine⟨?_,hlen2,hd3,by show(r.length:Int)<most;omega,j4,by show r.length+(List.flatMap rl (_::_)).length=_;rw [←hnx];omega⟩
    show(Qds (szB n t) (d.take a.toNat++(d[a.toNat]+1)::List.replicate (d.length-(a.toNat+1)) 0)).length<(Qds (szB n t) d).length
    rw [hnx,List.length_cons];omega),fun q e=>(by cases e)⟩
 ·rcases q with q | q
  ·exact TotP.ok fun a ha=>fin _ hq a (by rcases ha with ha | ha<;>cases ha;exact .inl rfl)
  ·exact TotP.ok fun a ha=>fin _ hq a (by rcases ha with ha | ha<;>cases ha;exact .inr rfl)
def chC (kind arcs:Int):List (List Int):=(QbI kind arcs).getD []
def Qa4 (n:TNet)(m:List (List (Int×Int)))(task:Int):List Qk:=match idx n.Tasks task with
 | some t=>(binds (szB n t)).flatMap (QeR n m task (chC t.Join t.Ins.length) (chC t.Split t.Outs.length))
 | none=>[]
theorem Qvn (n:TNet)(m:List (List (Int×Int)))(task most:Int)(h:QY n)(hm:lenL (lenL fun _=>True) m)(hmost:most≤4294967296∨(Qa4 n m task).length≤4294967296):Qhh n m task most=some ((Qa4 n m task).take most.toNat):=by
 have key:TotP (Qhh n m task most) fun r=>r=(Qa4 n m task).take most.toNat:=by
  unfold Qhh
  refine TotP.bif (fun hc=>TotP.ok ?_) fun hc=>?_
  ·simp only [Bool.or_eq_true,decide_eq_true_eq]at hc
   rcases hc with hc | hc | hc
   ·unfold Qa4 idx
    rw [if_neg (by omega)];simp
   ·unfold Qa4 idx
    rw [if_pos (by omega),List.getElem?_eq_none (by omega)];simp
   ·rw [show most.toNat=0 by omega,List.take_zero]
  simp only [Bool.or_eq_false_iff,decide_eq_false_iff_not]at hc
  refine TotP.bind (TotP.idx (by omega) (by omega)).self fun e he=>?_
  refine TotP.bind (QnB _ _).self fun x hx=>?_
  refine TotP.bind (QnB _ _).self fun y hy=>?_
  refine TotP.bind (P:=fun z=>z=(n,e)) (TotP.ok rfl) fun z hz=>?_
  subst hz
  have hml:Qa4 n m task=(binds (szB n e)).flatMap (QeR n m task x y):=by
   unfold Qa4 chC
   rw [he.1]
   simp only
   rw [hx.1,hy.1];rfl
  refine TotP.bind (Qth n m task most [] x y e h hm (by rw [←hml];exact hmost) (by omega) hx.2 hy.2 he.2) fun r hr=>?_
  rw [hml]
  rcases r with r | r
  ·exact TotP.ok (hr r (.inl rfl))
  ·exact TotP.ok (hr r (.inr rfl))
 obtain⟨r,h1,h2⟩:=key
 rw [h1,h2]
def allL (n:TNet)(m:List (List (Int×Int))):List Qk:=(List.range n.Tasks.length).flatMap fun (k:Nat)=>Qa4 n m (k:Int)
theorem QwX {α:Type}(f:Nat→List α)(N:Nat):∀k,k≤N→∃r,(List.range N).flatMap f=(List.range k).flatMap f++r:=by
 induction N with
 | zero=>intro k hk;exact⟨[],by rw [show k=0 by omega];rfl⟩
 | succ N ih=>
  intro k hk
  by_cases c:k=N+1
  ·subst c;exact⟨[],by simp⟩
  ·obtain⟨r,hr⟩:=ih k (by omega)
   exact⟨r++f N,by rw [List.range_succ,List.flatMap_append,List.flatMap_singleton,hr,List.append_assoc]⟩
theorem Qrq (n:TNet)(m:List (List (Int×Int)))(most:Int)(h:QY n)(hm:lenL (lenL fun _=>True) m)(h0:0≤most)(h1:most≤9223372036854775807)(hmost:most≤4294967296∨(allL n m).length≤4294967296):QeX n m most=some ((allL n m).take most.toNat):=by
 have key:TotP (QeX n m most) fun r=>r=(allL n m).take most.toNat:=by
  unfold QeX
  refine TotP.bind (TotP.up n.Tasks.length (fun st=>st.1) (fun st=>st.2=((List.range st.1.toNat).flatMap fun (k:Nat)=>Qa4 n m (k:Int)).take most.toNat) (Q:=fun q=>q=(allL n m).take most.toNat) rfl (by simp) (fun i st hi hn hJ=>?_)) (fun q hq=>TotP.ok hq)
  obtain⟨x,l⟩:=st
  replace hi:x=(i:Int):=hi
  subst hi
  replace hJ:l=((List.range (i:Int).toNat).flatMap fun (k:Nat)=>Qa4 n m (k:Int)).take most.toNat:=hJ
  rw [Int.toNat_natCast]at hJ
  show TotP (Qgf n m most i l) _
  unfold Qgf
  refine TotP.bif (fun hc=>?_) (fun hc=>TotP.ok (Ql ?_))
  ·simp only [decide_eq_true_eq]at hc
   have hll:l.length≤most.toNat:=by rw [hJ];exact List.length_take_le _ _
   have hw:w64 (most-(l.length:Int))=most-(l.length:Int):=Qcn (by omega)
   obtain⟨rest,hrest⟩:=QwX (fun (k:Nat)=>Qa4 n m (k:Int)) n.Tasks.length (i+1) (by omega)
   have hle:((List.range i).flatMap fun (k:Nat)=>Qa4 n m (k:Int)).length+(Qa4 n m (i:Int)).length≤(allL n m).length:=by
    unfold allL
    rw [hrest,List.range_succ,List.flatMap_append,List.flatMap_singleton];simp
   have hl2:l.length≤((List.range i).flatMap fun (k:Nat)=>Qa4 n m (k:Int)).length:=by rw [hJ];exact List.length_take_le' _ _
   rw [hw,Qvn n m i _ h hm (by omega),Option.bind_some]
   have e:l++(Qa4 n m (i:Int)).take (most-(l.length:Int)).toNat=((List.range (i+1)).flatMap fun (k:Nat)=>Qa4 n m (k:Int)).take most.toNat:=by
    rw [List.range_succ,List.flatMap_append,List.flatMap_singleton,List.take_append,←hJ]
    congr 1
    by_cases c:((List.range i).flatMap fun (k:Nat)=>Qa4 n m (k:Int)).length≤most.toNat
    ·have:l.length=((List.range i).flatMap fun (k:Nat)=>Qa4 n m (k:Int)).length:=by rw [hJ,List.length_take];omega
     congr 1;omega
    ·have:l.length=most.toNat:=by rw [hJ,List.length_take];omega
     rw [show(most-(l.length:Int)).toNat=0 by omega,show most.toNat-((List.range i).flatMap fun (k:Nat)=>Qa4 n m (k:Int)).length=0 by omega]
   rw [e]
   refine TotP.bind (TotP.chk (by
    have:=List.length_take_le (most-(l.length:Int)).toNat (Qa4 n m (i:Int))
    have:=List.length_take_le' (most-(l.length:Int)).toNat (Qa4 n m (i:Int))
    simp only [decide_eq_true_eq];omega)) fun _ _=>?_
   have hw2:w64 ((i:Int)+1)=((i+1:Nat):Int):=Qu (by omega:i<n.Tasks.length) h.k.2.2.1.1
   refine TotP.ok (Qx ⟨by omega,hw2,?_⟩)
   show _=((List.range (w64 ((i:Int)+1)).toNat).flatMap fun (k:Nat)=>Qa4 n m (k:Int)).take most.toNat
   rw [hw2,Int.toNat_natCast]
  ·simp only [decide_eq_false_iff_not]at hc
   rw [hJ,show i=n.Tasks.length by omega];rfl
 obtain⟨r,h1,h2⟩:=key
 rw [h1,h2]
end Go.Proofs
noncomputable section
namespace Go.Proofs
open Go Go.RowKit Go.Vm
theorem Qwd {n:TNet}{m:List (List (Int×Int))}{task:Int}{ins outs:List (List Int)}{p:List Int}{o:Qk}:
  o∈QeR n m task ins outs p↔o.Task=task∧o.Vars=p∧o.Ins∈ins∧o.Outs∈outs∧∃b,Qbj n m task p=some (0,b)∧Q2 b=some 0∧Q4 b o.Ins=some 0∧QaR b o.Outs=some 0:=by
 unfold QeR
 cases hb:Qbj n m task p with
 | none=>simp
 | some x=>
  obtain⟨c,b⟩:=x
  simp only
  by_cases hc:c=0∧Q2 b=some 0
  ·rw [if_pos hc]
   obtain⟨rfl,hg⟩:=hc
   simp only [List.mem_flatMap]
   constructor
   ·rintro ⟨e,he,h⟩
    by_cases ht:Q4 b e=some 0
    ·rw [if_pos ht]at h
     obtain⟨r,hr,rfl⟩:=List.mem_map.1 h
     obtain⟨h1,h2⟩:=List.mem_filter.1 hr
     exact⟨rfl,rfl,he,h1,b,rfl,hg,ht,of_decide_eq_true h2⟩
    ·rw [if_neg ht]at h;cases h
   ·rintro ⟨h1,h2,h3,h4,b',h5,h6,h7,h8⟩
    cases h5
    refine⟨o.Ins,h3,?_⟩
    rw [if_pos h7]
    refine List.mem_map.2 ⟨o.Outs,List.mem_filter.2 ⟨h4,decide_eq_true h8⟩,?_⟩
    cases o
    simp only at h1 h2
    subst h1;subst h2;rfl
  ·rw [if_neg hc]
   constructor
   ·intro h;cases h
   ·rintro ⟨_,_,_,_,b',h5,h6,_⟩
    cases h5
    exact absurd ⟨rfl,h6⟩ hc
theorem QlX {n:TNet}{m:List (List (Int×Int))}{task:Int}{o:Qk}:
  o∈Qa4 n m task↔o.Task=task∧∃e,idx n.Tasks task=some e∧inB (szB n e) o.Vars∧o.Ins∈chC e.Join e.Ins.length∧o.Outs∈chC e.Split e.Outs.length∧∃b,Qbj n m task o.Vars=some (0,b)∧Q2 b=some 0∧Q4 b o.Ins=some 0∧QaR b o.Outs=some 0:=by
 unfold Qa4
 cases he:idx n.Tasks task with
 | none=>simp
 | some e=>
  simp only [List.mem_flatMap,Qv1,Qwd,Option.some.injEq,exists_eq_left']
  constructor
  ·rintro ⟨p,h1,h2,rfl,h3,h4,h5⟩
   exact⟨h2,h1,h3,h4,h5⟩
  ·rintro ⟨h1,h2,h3,h4,h5⟩
   exact⟨o.Vars,h2,h1,rfl,h3,h4,h5⟩
theorem QuD {n:TNet}{m:List (List (Int×Int))}{o:Qk}:o∈allL n m↔o∈Qa4 n m o.Task:=by
 unfold allL
 simp only [List.mem_flatMap,List.mem_range]
 constructor
 ·rintro ⟨k,hk,h⟩
  have:=(QlX.1 h).1
  rwa [this]
 ·intro h
  obtain⟨_,e,he,_⟩:=QlX.1 h
  have h0:0≤o.Task:=by
   unfold idx at he
   split at he
   ·assumption
   ·cases he
  rw [QlG h0]at he
  have:=(List.getElem?_eq_some_iff.1 he).1
  exact⟨o.Task.toNat,this,by rwa [show((o.Task.toNat:Nat):Int)=o.Task by omega]⟩
theorem Qsf (kind arcs:Int):QbI kind arcs=some (chC kind arcs)∧Qln (chC kind arcs):=by
 obtain⟨r,h1,h2⟩:=QnB kind arcs
 unfold chC
 rw [h1]
 exact⟨rfl,h2⟩
theorem Qwe (l:List QB)(k m:Int)(hl:lenL QbM l):TotP (Qdg l k m) fun r=>r.2=true→0≤m∧∃z,QaG l k=some z∧m<z:=by
 unfold Qdg QaG
 refine TotP.bind (Qig l k hl).self fun x hx=>?_
 obtain⟨hxe,hx⟩:=hx
 refine TotP.bind (P:=fun r=>r=false→x.1=true∧0≤m∧∃h:0≤k∧k<(x.2.sizes.length:Int),m<x.2.sizes[k.toNat]'(by omega)) ?_ fun r hr=>?_
 ·unfold Qgn
  refine TotP.bif (fun _=>TotP.ok fun h=>by cases h) fun hc=>?_
  have hc:x.1=true:=by simpa using hc
  have h:=hx.2 hc
  have hk:k.toNat<x.2.sizes.length:=by omega
  have ei:idx x.2.sizes k=some x.2.sizes[k.toNat]:=QpM h.1.1 h.1.2
  refine TotP.bind (P:=fun y=>y=true→0≤m∧m<x.2.sizes[k.toNat]) ?_ fun y hy=>TotP.ok fun hf=>?_
  ·unfold Qb2
   refine TotP.bind (P:=fun y=>y=true→0≤m∧m<x.2.sizes[k.toNat]) ?_ fun y hy=>TotP.ok hy
   unfold QdH
   refine TotP.bif (fun hc2=>?_) fun _=>TotP.ok fun h=>by cases h
   rw [h.2.1,ei,Option.bind_some]
   exact TotP.ok fun h=>⟨by simpa using hc2,by simpa using h⟩
  ·have:=hy (by simpa using hf)
   exact⟨hc,this.1,h.1,this.2⟩
 ·unfold QcW
  refine TotP.bif (fun _=>TotP.ok fun h=>by cases h) fun hc=>?_
  obtain⟨h1,h2,h3,h4⟩:=hr hc
  have h:=hx.2 h1
  have fin:0≤m∧∃z,((Qd1 l k).bind fun x5=>bif (!x5.1)then some 0 else(idx x5.2.sizes k).bind fun e7=>some e7)=some z∧m<z:=⟨h2,x.2.sizes[k.toNat]'(by omega),by
   rw [hxe,Option.bind_some,h1]
   simp only [Bool.not_true,cond_false]
   rw [QpM h3.1 h3.2];rfl,h4⟩
  refine TotP.bind (Qhz x.2 (by omega)) fun _ _=>?_
  refine TotP.bif (fun _=>?_) fun _=>TotP.ok fun _=>fin
  exact TotP.bind (Qhz x.2 (by omega)) fun _ _=>TotP.ok fun _=>fin
theorem QxW {l d:List Int}(h:d.length=l.length)(hk:∀(j:Nat) x s,d[j]? = some x→l[j]? = some s→0≤x∧x<s):inB l d:=by
 induction l generalizing d with
 | nil=>cases d with
  | nil=>trivial
  | cons x d=>simp at h
 | cons s r ih=>cases d with
  | nil=>simp at h
  | cons x d=>
   have:=hk 0 x s rfl rfl
   exact⟨this.1,.inr this.2,ih (by simpa using h) fun j y z h1 h2=>hk (j+1) y z (by simpa using h1) (by simpa using h2)⟩
theorem QxX (n:TNet)(task:Int)(vars:List Int)(h:QY n):TotP (Qd2 n task vars) fun r=>r.2=0→∃e,idx n.Tasks task=some e∧e∈n.Tasks∧inB (szB n e) vars∧∀s∈szB n e,0<s:=by
 unfold Qd2
 refine TotP.bif (fun _=>TotP.ok fun h=>by cases h) fun hc=>?_
 simp only [Bool.or_eq_false_iff,decide_eq_false_iff_not]at hc
 refine TotP.bind (TotP.idx (by omega) (by omega)).self fun e he=>?_
 have hv:=(h.tk e he.2).1
 have ke:=h.k.2.2.1.2 e he.2
 refine TotP.bif (fun _=>TotP.ok fun h=>by cases h) fun hl=>?_
 simp only [bne_eq_false_iff_eq]at hl
 have hl:vars.length=e.Vars.length:=by omega
 refine TotP.bind (TotP.chk (by simp only [Bool.and_eq_true,decide_eq_true_eq];omega)) fun _ _=>?_
 refine TotP.bind (TotP.up e.Vars.length (fun st=>st.1) (fun st=>st.2.length=e.Vars.length∧∀(j:Nat) x s,(j:Int)<st.1→vars[j]? = some x→(szB n e)[j]? = some s→0≤x∧x<s) (Q:=fun q:Unit⊕List Int=>∀out,q=.inr out→inB (szB n e) vars∧∀s∈szB n e,0<s) rfl ⟨by simp,fun j x s hj=>by simp at hj;omega⟩ (fun i st hi hn hJ=>?_)) (fun q hq=>?_)
 ·obtain⟨x,l⟩:=st
  replace hi:x=(i:Int):=hi
  subst hi
  obtain⟨hJ,hJ2⟩:l.length=e.Vars.length∧∀(j:Nat) x s,(j:Int)<(i:Int)→vars[j]? = some x→(szB n e)[j]? = some s→0≤x∧x<s:=hJ
  show TotP (Qdy e vars n i l) _
  unfold Qdy
  refine TotP.bif (fun hc=>?_) (fun hc=>TotP.ok (Ql fun out _=>?_))
  ·simp only [decide_eq_true_eq]at hc
   have i1:i<e.Vars.length:=by omega
   have i2:i<vars.length:=by omega
   rw [QX,List.getElem?_eq_getElem i1,Option.bind_some,QX,List.getElem?_eq_getElem i2,Option.bind_some]
   refine TotP.bind (Qwe _ _ _ h.k.1) fun c hc3=>?_
   refine TotP.bif (fun _=>TotP.ok (Ql fun out e=>by cases e)) fun hc4=>?_
   obtain⟨h1,z,h2,h3⟩:=hc3 (by simpa using hc4)
   refine TotP.bind (TotP.idx (by omega) (by omega)) fun d _=>?_
   have hw:w64 ((i:Int)+1)=((i+1:Nat):Int):=Qu i1 (by unfold maxLen;omega:e.Vars.length≤maxLen)
   refine TotP.ok (Qx ⟨i1,hw,by simpa using hJ,fun j x s hj hx hs=>?_⟩)
   replace hj:(j:Int)<w64 ((i:Int)+1):=hj
   rw [hw]at hj
   by_cases cj:j=i
   ·subst cj
    rw [List.getElem?_eq_getElem i2]at hx
    cases hx
    unfold szB at hs
    rw [List.getElem?_map,List.getElem?_eq_getElem i1,Option.map_some,h2]at hs
    cases hs
    exact⟨h1,h3⟩
   ·exact hJ2 j x s (by omega) hx hs
  ·simp only [decide_eq_false_iff_not]at hc
   have hb:∀(j:Nat) x s,vars[j]? = some x→(szB n e)[j]? = some s→0≤x∧x<s:=fun j x s hx hs=>hJ2 j x s (by have:=(List.getElem?_eq_some_iff.1 hx).1;omega) hx hs
   refine⟨QxW (by simp [szB,hl]) hb,fun s hs=>?_⟩
   obtain⟨j,hj,rfl⟩:=List.mem_iff_getElem.1 hs
   have hj2:j<vars.length:=by simp [szB]at hj;omega
   have:=hb j _ _ (List.getElem?_eq_getElem hj2) (List.getElem?_eq_getElem hj)
   omega
 ·rcases q with q | q
  ·exact TotP.ok fun h=>by cases h
  ·exact TotP.ok fun _=>⟨e,he.1,he.2,hq q rfl⟩
theorem Qvo {n:TNet}{m:List (List (Int×Int))}{task:Int}{vars:List Int}{b:QD}(h:QY n)(e:Qbj n m task vars=some (0,b)):idx n.Tasks task=some b.task∧b.task∈n.Tasks∧b.net=n∧b.m=m∧(inB (szB n b.task) vars∧∀s∈szB n b.task,0<s)∧Qd2 n task vars=some (b.env,0):=by
 unfold Qbj at e
 obtain⟨x,hx,e⟩:=Qb e
 obtain⟨x1,x2⟩:=x
 rcases bifE e with⟨c,e⟩|⟨c,e⟩
 ·simp only [Option.some.injEq,Prod.mk.injEq]at e
  simp only [e.1]at c;cases c
 simp only [bne_eq_false_iff_eq]at c
 subst c
 obtain⟨t,ht,h1,h2⟩:=QhA (QxX n task vars h) hx rfl
 rw [ht,Option.bind_some]at e
 simp only [Option.some.injEq,Prod.mk.injEq,true_and]at e
 subst e
 exact⟨ht,h1,rfl,rfl,h2,hx⟩
end Go.Proofs
noncomputable section
namespace Go.Proofs
open Go Go.RowKit Go.Vm
theorem QwY {n:TNet}{m:List (List (Int×Int))}{task:Int}{o:Qk}(h:QY n)(hm:lenL (lenL fun _=>True) m)(ho:o∈Qa4 n m task):Qj0 n o:=by
 obtain⟨_,e,he,h1,h2,h3,_⟩:=QlX.1 ho
 have hem:e∈n.Tasks:=by
  unfold idx at he
  split at he
  ·exact List.mem_of_getElem? he
  ·cases he
 have hv:=(h.tk e hem).1
 have hl:=Qxo h1
 have h4:=(Qsf e.Join e.Ins.length).2.2 _ h2
 have h5:=(Qsf e.Split e.Outs.length).2.2 _ h3
 have:(szB n e).length=e.Vars.length:=by simp [szB]
 exact⟨by omega,by omega,by omega⟩
theorem Qt1 {n:TNet}{m:List (List (Int×Int))}{o:Qk}(h:QY n)(hm:lenL (lenL fun _=>True) m)(ho:o∈allL n m):Qj0 n o:=QwY h hm (QuD.1 ho)
end Go.Proofs
noncomputable section
namespace Go.Proofs
open Go Go.RowKit Go.Vm
def Qf1 : List Int→Nat
 | []=>1
 | s::r=>(1+(s-1).toNat)*Qf1 r
theorem Qnd {α β:Type}{f:α→List β}{c:Nat}:∀{l:List α},(∀x∈l,(f x).length≤c)→(l.flatMap f).length≤l.length*c:=by
 intro l
 induction l with
 | nil=>intro _;simp
 | cons x l ih=>
  intro h
  have h1:=ih fun y hy=>h y (List.mem_cons_of_mem _ hy)
  have h2:=h x List.mem_cons_self
  rw [List.flatMap_cons,List.length_append,List.length_cons,Nat.succ_mul]
  omega
theorem Qxv (x:Int)(k:Nat):(upL x k).length=k:=by
 induction k generalizing x with
 | zero=>rfl
 | succ k ih=>simp [upL,ih]
theorem Qwf (l:List Int):(binds l).length≤Qf1 l:=by
 induction l with
 | nil=>exact Nat.le_refl _
 | cons s r ih=>
  rw [binds,Qf1]
  have:=Qnd (f:=fun x=>(binds r).map (x::·)) (c:=Qf1 r) (l:=0::upL 1 (s-1).toNat) fun x _=>by simpa using ih
  rw [List.length_cons,Qxv]at this
  rwa [Nat.add_comm 1]
theorem Qwg (l:List Int)(s:Int):Qf1 (l++[s])=Qf1 l*(1+(s-1).toNat):=by
 induction l with
 | nil=>simp [Qf1]
 | cons x l ih=>simp only [List.cons_append,Qf1,ih,Nat.mul_assoc]
theorem Qwh (l:List Int):0<Qf1 l:=by
 induction l with
 | nil=>decide
 | cons s r ih=>exact Nat.mul_pos (by omega) ih
theorem Qwi (n:TNet)(m:List (List (Int×Int)))(task:Int){ins outs:List (List Int)}(p:List Int)(hi:ins.length≤16)(ho:outs.length≤16):(QeR n m task ins outs p).length≤256:=by
 unfold QeR
 cases Qbj n m task p with
 | none=>simp
 | some x=>
  obtain⟨c,b⟩:=x
  simp only
  split
  ·refine Nat.le_trans (Qnd (c:=16) fun e _=>?_) (Nat.mul_le_mul_right 16 hi)
   split
   ·rw [List.length_map];exact Nat.le_trans (List.length_filter_le _ _) ho
   ·simp
  ·simp
def Bd (n:TNet):Prop:=∀t∈n.Tasks,(0:Int)∈szB n t∨Qf1 (szB n t)≤1024
theorem Qwj {n:TNet}(m:List (List (Int×Int)))(task:Int)(h:QY n)(hb:Bd n):(Qa4 n m task).length≤262144:=by
 by_cases e0:Qa4 n m task=[]
 ·rw [e0];simp
 ·obtain⟨o,ho⟩:=List.exists_mem_of_ne_nil _ e0
  obtain⟨_,e,he,_,_,_,b,hbd,_⟩:=QlX.1 ho
  obtain⟨k1,k2,_,_,k3,_⟩:=Qvo h hbd
  rw [he]at k1;cases k1
  unfold Qa4
  rw [he]
  simp only
  refine Nat.le_trans (Qnd (c:=256) fun p _=>Qwi n m task p (Qsf _ _).2.1 (Qsf _ _).2.1) ?_
  have h1:=Qwf (szB n b.task)
  rcases hb _ k2 with h2 | h2
  ·have:=k3.2 0 h2;omega
  ·omega
theorem Qxw {n:TNet}(m:List (List (Int×Int)))(h:QY n)(hb:Bd n):(allL n m).length≤4194304:=by
 unfold allL
 refine Nat.le_trans (Qnd (c:=262144) fun k _=>Qwj m _ h hb) ?_
 have:=h.tl
 rw [List.length_range];omega
theorem Qvp (n:TNet)(k:Int)(t:Qr)(b:Int)(h:QY n)(ht:idx n.Tasks k=some t)(htm:t∈n.Tasks)(hb:Qca n k=some b)(hle:b≤1024):(0:Int)∈szB n t∨Qf1 (szB n t)≤1024:=by
 have hv:=(h.tk t htm).1
 have hsz:(szB n t).length=t.Vars.length:=by simp [szB]
 have ha:QaL n.Tasks k=some true:=by
  unfold QaL
  unfold idx at ht
  split at ht
  ·have:=(List.getElem?_eq_some_iff.1 ht).1
   rw [decide_eq_true (by omega),decide_eq_true (by omega)];rfl
  ·cases ht
 have key:TotP (Qca n k) fun b=>b≤1024→(0:Int)∈szB n t∨Qf1 (szB n t)≤1024:=by
  unfold Qca
  rw [ha,Option.bind_some]
  simp only [Bool.not_true,cond_false]
  rw [ht,Option.bind_some]
  refine TotP.bind (TotP.up t.Vars.length (fun st=>st.2) (fun st=>st.1=min ((Qf1 ((szB n t).take st.2.toNat):Nat):Int) 1025) (Q:=fun q:Unit⊕Int=>(q=.inl ()→(0:Int)∈szB n t)∧∀o,q=.inr o→o=min ((Qf1 (szB n t):Nat):Int) 1025) rfl (by show(1:Int)=min ((1:Nat):Int) 1025;omega) (fun i st hi hn hJ=>?_)) (fun q hq=>?_)
  ·obtain⟨out,x⟩:=st
   replace hi:x=(i:Int):=hi
   subst hi
   replace hJ:out=min ((Qf1 ((szB n t).take (i:Int).toNat):Nat):Int) 1025:=hJ
   rw [Int.toNat_natCast]at hJ
   show TotP (Qb6 t n out i) _
   unfold Qb6
   refine TotP.bif (fun hc=>?_) (fun hc=>TotP.ok (Ql ⟨fun e=>(by cases e),fun o e=>?_⟩))
   ·simp only [decide_eq_true_eq]at hc
    have i1:i<t.Vars.length:=by omega
    rw [QX,List.getElem?_eq_getElem i1,Option.bind_some]
    refine TotP.bind (Qct _ _ h.k.1).self fun z hz=>?_
    obtain⟨hze,hz⟩:=hz
    have hs:(szB n t)[i]? = some z:=by
     unfold szB
     rw [List.getElem?_map,List.getElem?_eq_getElem i1,Option.map_some,hze];rfl
    refine TotP.bif (fun hc2=>TotP.ok (Ql ⟨fun _=>?_,fun o e=>by cases e⟩)) fun hc2=>?_
    ·simp only [beq_iff_eq]at hc2
     subst hc2
     exact List.mem_of_getElem? hs
    ·simp only [beq_eq_false_iff_ne]at hc2
     have hw:w64 ((i:Int)+1)=((i+1:Nat):Int):=Qu i1 (by unfold maxLen;omega:t.Vars.length≤maxLen)
     refine TotP.ok (Qx ⟨i1,hw,?_⟩)
     show min2 (w64 (out*z)) 1025=min ((Qf1 ((szB n t).take (w64 ((i:Int)+1)).toNat):Nat):Int) 1025
     rw [hw,Int.toNat_natCast,List.take_add_one,hs]
     show _=min ((Qf1 ((szB n t).take i++[z]):Nat):Int) 1025
     rw [Qwg]
     have hp:=Qwh ((szB n t).take i)
     generalize Qf1 ((szB n t).take i)=P at hJ hp ⊢
     obtain⟨Z,rfl⟩:∃Z:Nat,z=(Z:Int):=⟨z.toNat,by omega⟩
     rw [show 1+((Z:Int)-1).toNat=Z by omega]
     have hZ:0<Z:=by omega
     have h1:(P:Int)*(Z:Int)=((P*Z:Nat):Int):=by simp
     by_cases c:P≤1025
     ·have:out=(P:Int):=by rw [hJ];omega
      rw [this,h1]
      have h2:P*Z≤1025*1024:=Nat.mul_le_mul c (by omega)
      rw [Qcn (by omega)]
      unfold min2;split<;>omega
     ·have:out=1025:=by rw [hJ];omega
      have h2:P≤P*Z:=Nat.le_mul_of_pos_right P hZ
      rw [this,Qcn (by omega)]
      unfold min2;split<;>omega
   ·cases e
    simp only [decide_eq_false_iff_not]at hc
    rw [hJ,List.take_of_length_le (by omega)]
  ·rcases q with q | q
   ·exact TotP.ok fun _=>.inl (hq.1 rfl)
   ·refine TotP.ok fun hl=>.inr ?_
    have:=hq.2 q rfl
    omega
 exact QhA key hb hle
theorem Qvq (n1:TNet)(k2:Int)(h:Qbp n1 k2=some 0):∃b,Qca n1 k2=some b∧b≤1024:=by
 unfold Qbp at h
 obtain⟨x5,_,h⟩:=Qb h
 rcases bifE h with⟨_,h⟩|⟨_,h⟩
 ·cases h
 obtain⟨x7,_,h⟩:=Qb h
 rcases bifE h with⟨c,h⟩|⟨_,h⟩
 ·simp only [Option.some.injEq]at h;rw [h]at c;cases c
 obtain⟨e9,he9,h⟩:=Qb h
 obtain⟨e10,he10,h⟩:=Qb h
 obtain⟨_,_,h⟩:=Qb h
 obtain⟨_,_,h⟩:=Qb h
 obtain⟨_,_,h⟩:=Qb h
 obtain⟨_,_,h⟩:=Qb h
 obtain⟨x15,hx,h⟩:=Qb h
 have bad:∀a b:Int,0<a→x15=(a,b)→False:=fun a b ha e=>by
  subst e
  simp only at h
  rcases bifE h with⟨c,h⟩|⟨_,h⟩
  ·simp only [beq_iff_eq]at c;omega
  ·simp only [Option.some.injEq]at h;omega
 unfold QcT at hx
 obtain⟨x20,_,hx⟩:=Qb hx
 rcases bifE hx with⟨_,hx⟩|⟨_,hx⟩
 ·exact(bad _ _ (by decide) (Option.some.inj hx).symm).elim
 obtain⟨x22,_,hx⟩:=Qb hx
 rcases bifE hx with⟨_,hx⟩|⟨_,hx⟩
 ·exact(bad _ _ (by decide) (Option.some.inj hx).symm).elim
 obtain⟨x24,h24,hx⟩:=Qb hx
 rcases bifE hx with⟨_,hx⟩|⟨c,hx⟩
 ·exact(bad _ _ (by decide) (Option.some.inj hx).symm).elim
 obtain⟨x26,h26,hx⟩:=Qb hx
 rcases bifE hx with⟨c2,hx⟩|⟨_,hx⟩
 ·have e:=(Option.some.inj hx).symm
  subst e
  simp only at h
  rcases bifE h with⟨_,h⟩|⟨c3,_⟩
  ·simp only [Option.some.injEq]at h
   unfold Qeq at h26
   obtain⟨y,_,h26⟩:=Qb h26
   simp only [Option.some.injEq]at h26
   rw [←h26]at c2 h
   simp only at h
   subst h
   cases c2
  ·cases c3
 obtain⟨x28,h28,hx⟩:=Qb hx
 rcases bifE hx with⟨_,hx⟩|⟨c4,hx⟩
 ·exact(bad _ _ (by decide) (Option.some.inj hx).symm).elim
 unfold Qfj at h28
 obtain⟨b,hb,h28⟩:=Qb h28
 simp only [Option.some.injEq]at h28
 rw [←h28]at c4
 exact⟨b,hb,by simpa using c4⟩
theorem QxY (n1:TNet)(h:QY n1){p:QdZ}(hn:Qdd n1=some (0,p)):Bd n1:=by
 unfold Qdd at hn
 obtain⟨x6,_,hn⟩:=Qb hn
 rcases bifE hn with⟨c,hn⟩|⟨_,hn⟩
 ·simp only [Option.some.injEq,Prod.mk.injEq]at hn;rw [hn.1]at c;cases c
 obtain⟨x8,_,hn⟩:=Qb hn
 rcases bifE hn with⟨c,hn⟩|⟨_,hn⟩
 ·simp only [Option.some.injEq,Prod.mk.injEq]at hn;rw [hn.1]at c;cases c
 obtain⟨x10,_,hn⟩:=Qb hn
 rcases bifE hn with⟨c,hn⟩|⟨_,hn⟩
 ·simp only [Option.some.injEq,Prod.mk.injEq]at hn;rw [hn.1]at c;cases c
 obtain⟨x12,h12,hn⟩:=Qb hn
 rcases bifE hn with⟨c,hn⟩|⟨c,hn⟩
 ·simp only [Option.some.injEq,Prod.mk.injEq]at hn;rw [hn.1]at c;cases c
 simp only [bne_eq_false_iff_eq]at c
 obtain⟨r,hr,hr2⟩:=QqN n1.Tasks n1 h.k h.k.2.2.1
 rw [h12]at hr;cases hr
 intro t ht
 have htm:=ht
 obtain⟨j,hj,rfl⟩:=List.mem_iff_getElem.1 ht
 obtain⟨b,hb,hb2⟩:=Qvq n1 j (hr2 c j hj)
 exact Qvp n1 j _ b h (by rw [QX,List.getElem?_eq_getElem hj]) htm hb hb2
theorem Qxx (n1:TNet)(m:List (List (Int×Int)))(h:QY n1)(hf:Qdp n1 m=some true):Bd n1:=by
 unfold Qdp at hf
 obtain⟨x5,_,hf⟩:=Qb hf
 obtain⟨x6,_,hf⟩:=Qb hf
 rcases bifE hf with⟨_,hf⟩|⟨_,hf⟩
 ·cases hf
 obtain⟨x11,h11,hf⟩:=Qb hf
 obtain⟨x12,h12,hf⟩:=Qb hf
 unfold Qdo at hf
 rcases bifE hf with⟨_,hf⟩|⟨c,_⟩
 ·cases hf
 subst c
 unfold QgH at h12
 rcases bifE h12 with⟨_,h12⟩|⟨c,_⟩
 ·cases h12
 simp only [bne_eq_false_iff_eq]at c
 obtain⟨a,b⟩:=x11
 simp only at c
 subst c
 exact QxY n1 h h11
end Go.Proofs
noncomputable section
namespace Go.Proofs
open Go Go.RowKit Go.Vm
def Good (n:TNet)(m:List Bag):Prop:=MOk n 1024 m∧Low n m
theorem Good.len {n:TNet}{m:List Bag}(hg:Good n m)(h:QY n):lenL (lenL fun _=>True) m:=hg.1.len h (by omega)
theorem QwZ {n:TNet}{m:List Bag}{c:Nat}(h:QY n)(hm:MOk n c m)(hl:Low n m):Good n m:=by
 refine⟨⟨hm.1,fun b hb=>?_⟩,hl⟩
 have hr:=(hm.2 b hb).1
 refine⟨hr,?_⟩
 obtain⟨j,hj,rfl⟩:=List.mem_iff_getElem.1 hb
 have hj2:j<n.Places.length:=by have:=hm.1;omega
 by_cases c0:(m[j]).length=0
 ·omega
 ·have hlast:(m[j]).length-1<(m[j]).length:=by omega
  have h1:=Quy hr.1 (a:=0) (fun p hp=>(hr.2 p hp).1) ((m[j]).length-1) hlast
  have h2:=Qin hr.1.nd (List.getElem_mem hlast)
  have h3:=(hr.2 _ (List.getElem_mem hlast)).2.1
  obtain⟨z,hz,hk⟩:=hl j _ _ (List.getElem?_eq_getElem hj) (List.getElem?_eq_getElem hj2) _ (by rw [h2];omega)
  have:=QhA (Qct _ _ h.k.1) hz
  omega
theorem QsI {n:TNet}{m x:List Bag}{o:Qk}(h:QY n)(hg:Good n m)(ho:Qj0 n o)(hD:QdB n m o=some (x,0)):Good n x:=by
 obtain⟨hm,hl⟩:=hg
 have hpl:=h.pl
 have hm1:=hm.1
 have hx:=QhA (t_Do n m o 1024 h hm (by omega) ho) hD rfl
 obtain⟨t,hT,hG⟩:=QwV hD
 obtain⟨hCk,need,hN,hL⟩:=Qvl hT
 obtain⟨hnd,hndl⟩:=QhA (QuB n o h ho) hN rfl
 have ht:=QhA (Qwa n m o 1024 h hm (by omega) ho) hT rfl
 obtain⟨_,eL⟩:=(QhA (Qun n m need 1024 20 h hm hnd (by omega)) hL).1 rfl
 have htl:Low n t:=fun j b p hb hp k hk=>by
  have hj:=(List.getElem?_eq_some_iff.1 hp).1
  obtain⟨a,ha,ha1,ha2⟩:=Qto hm hj
  obtain⟨u,hu,hu1,hu2⟩:=Qto hnd hj
  obtain⟨p',hp',hp2⟩:=eL j a u ha hu
  have hp':t[j]? = some p':=hp'
  rw [hb]at hp';cases hp'
  have q:=Qxu (by omega) hp2
  have:=hu1.cnt k
  have:=q.2.2.2.2 k
  exact hl j a p ha hp k (by omega)
 exact QwZ h hx (QhA (QwW n t o (1024+20) h ht htl (by omega) ho) hG rfl)
end Go.Proofs
noncomputable section
namespace Go.Proofs
open Go Go.RowKit Go.Vm
def QQ : Nat→Int→List Int
 | 0,_=>[]
 | k+1,x=>IntKind.u8.wrap (shrI .i64 x (w64 (8*(k:Int))))::QQ k x
theorem QbB (k:Nat)(x:Int):(QQ k x).length=k:=by
 induction k with
 | zero=>rfl
 | succ k ih=>simp [QQ,ih]
theorem QsJ {α β:Type}{f:α→List β}{c:Nat}:∀{l:List α},(∀x∈l,(f x).length=c)→(l.flatMap f).length=l.length*c:=by
 intro l
 induction l with
 | nil=>intro _;simp
 | cons x l ih=>
  intro h
  have h1:=ih fun y hy=>h y (List.mem_cons_of_mem _ hy)
  have h2:=h x List.mem_cons_self
  rw [List.flatMap_cons,List.length_append,List.length_cons,Nat.succ_mul]
  omega
theorem Qw0 (e:Int)(size:Nat)(l0:List Int)(hs:size≤8)(hl:l0.length+size≤4294967296):QA (fun st=>Qb0 e st.1 st.2) ((w64 ((size:Int)-1)),l0)=some (l0++QQ size e):=by
 obtain⟨r,h1,h2⟩:=(TotP.up (body:=fun st:Int×List Int=>Qb0 e st.1 st.2) size (fun st=>(size:Int)-1-st.1) (fun st=>-1≤st.1∧st.2.length+(st.1+1).toNat=l0.length+size∧st.2++QQ (st.1+1).toNat e=l0++QQ size e) (Q:=fun q:List Int=>q=l0++QQ size e) (s0:=((w64 ((size:Int)-1)),l0))
  (by show(size:Int)-1-w64 ((size:Int)-1)=0;rw [Qcn (by omega)];omega) (by
   show -1≤w64 ((size:Int)-1)∧l0.length+(w64 ((size:Int)-1)+1).toNat=_∧l0++QQ (w64 ((size:Int)-1)+1).toNat e=_
   rw [Qcn (by omega),show((size:Int)-1+1).toNat=size by omega]
   exact⟨by omega,rfl,rfl⟩) (fun i st hi hn hJ=>by
   obtain⟨k,l⟩:=st
   replace hi:(size:Int)-1-k=(i:Int):=hi
   obtain⟨j0,j1,j2⟩:-1≤k∧l.length+(k+1).toNat=l0.length+size∧l++QQ (k+1).toNat e=l0++QQ size e:=hJ
   show TotP (Qb0 e k l) _
   unfold Qb0
   refine TotP.bif (fun hc=>?_) (fun hc=>TotP.ok (Ql ?_))
   ·simp only [decide_eq_true_eq]at hc
    have hw:w64 (8*k)=8*k:=Qcn (by omega)
    have hw2:w64 (k-1)=k-1:=Qcn (by omega)
    have e1:(k+1).toNat=k.toNat+1:=by omega
    refine TotP.bind (TotP.chk (by rw [hw];simp only [decide_eq_true_eq];omega)) fun _ _=>?_
    refine TotP.bind (TotP.chk (by simp;omega)) fun _ _=>?_
    refine TotP.ok (Qx ⟨by omega,by show(size:Int)-1-w64 (k-1)=_;rw [hw2];omega,?_⟩)
    show -1≤w64 (k-1)∧(l++[_]).length+(w64 (k-1)+1).toNat=_∧(l++[_])++QQ (w64 (k-1)+1).toNat e=_
    rw [hw2,show(k-1+1).toNat=k.toNat by omega]
    rw [e1,QQ,show((k.toNat:Nat):Int)=k by omega]at j2
    refine⟨by omega,by simp;omega,?_⟩
    rw [List.append_assoc];exact j2
   ·simp only [decide_eq_false_iff_not]at hc
    rw [show(k+1).toNat=0 by omega,QQ,List.append_nil]at j2
    exact j2))
 rw [h1,h2]
theorem Qt2 (l0:List Int)(size:Nat)(l:List Int)(hs:size≤8)(hl:l0.length+8*l.length≤4294967296):Qew l0 size l=some (l0++l.flatMap (QQ size)):=by
 unfold Qew
 obtain⟨r,h1,h2⟩:=(TotP.up (body:=fun st:Int×List Int=>QcH l size st.1 st.2) l.length (fun st=>st.1) (fun st=>st.2=l0++(l.take st.1.toNat).flatMap (QQ size)) (Q:=fun q:List Int=>q=l0++l.flatMap (QQ size)) (s0:=((0:Int),l0)) rfl (by simp) (fun i st hi hn hJ=>by
  obtain⟨x,a⟩:=st
  replace hi:x=(i:Int):=hi
  subst hi
  replace hJ:a=l0++(l.take (i:Int).toNat).flatMap (QQ size):=hJ
  rw [Int.toNat_natCast]at hJ
  show TotP (QcH l size i a) _
  unfold QcH
  refine TotP.bif (fun hc=>?_) (fun hc=>TotP.ok (Ql ?_))
  ·simp only [decide_eq_true_eq]at hc
   have i1:i<l.length:=by omega
   have hlen:a.length=l0.length+i*size:=by
    rw [hJ,List.length_append,QsJ (c:=size) fun x _=>QbB size x,List.length_take,Nat.min_eq_left (by omega)]
   have hm:i*size≤i*8:=Nat.mul_le_mul_left i hs
   rw [QX,List.getElem?_eq_getElem i1,Option.bind_some,Qw0 _ size a hs (by omega),Option.bind_some]
   unfold QhN
   have hw:w64 ((i:Int)+1)=((i+1:Nat):Int):=Qu i1 (by unfold maxLen;omega:l.length≤maxLen)
   refine TotP.ok (Qx ⟨i1,hw,?_⟩)
   show a++QQ size l[i]=l0++(l.take (w64 ((i:Int)+1)).toNat).flatMap (QQ size)
   rw [hw,Int.toNat_natCast,List.take_add_one,List.getElem?_eq_getElem i1,hJ,List.flatMap_append,List.append_assoc]
   simp
  ·simp only [decide_eq_false_iff_not]at hc
   rw [hJ,List.take_of_length_le (by omega)]))
 rw [h1,h2];rfl
theorem Qxy (size:Nat)(l:List Int):Qj2 size l=Qew [] size l:=rfl
def bagB (b:Bag):List Int:=QQ 2 b.length++b.flatMap fun p=>QQ 4 p.1++QQ 4 p.2
def Qqb (m:List Bag):List Int:=QQ 1 m.length++m.flatMap bagB
theorem Qrr (b:Bag):(bagB b).length=2+8*b.length:=by
 unfold bagB
 rw [List.length_append,QbB,QsJ (c:=8) fun x _=>by simp [QbB]]
 omega
theorem Qwk {n:TNet}{m:List Bag}(h:QY n)(hg:Good n m)(hml:m.length≤64):Qgd m=some (Qqb m,0):=by
 unfold Qgd
 rw [decide_eq_false (by omega),cond_false,show(1:Int)=((1:Nat):Int)from rfl,Qxy,Qt2 [] 1 _ (by omega) (by simp),Option.bind_some]
 have hb:∀b∈m,Rt b∧b.length≤1024:=hg.1.2
 have hmem:∀b∈m,∀p∈b,p.1≤1024:=fun b hb' p hp=>by
  obtain⟨j,hj,rfl⟩:=List.mem_iff_getElem.1 hb'
  have hj2:j<n.Places.length:=by have:=hg.1.1;omega
  have hr:=(hb _ hb').1
  have h2:=Qin hr.1.nd hp
  have h3:=(hr.2 _ hp).2.1
  obtain⟨z,hz,hk⟩:=hg.2 j _ _ (List.getElem?_eq_getElem hj) (List.getElem?_eq_getElem hj2) p.1 (by rw [h2];omega)
  have:=QhA (Qct _ _ h.k.1) hz
  omega
 have lens:∀i,i≤m.length→((m.take i).flatMap bagB).length≤i*8194:=fun i hi=>by
  have:=Qnd (f:=bagB) (c:=8194) (l:=m.take i) fun b hb'=>by
   have:=(hb b (List.mem_of_mem_take hb')).2
   rw [Qrr];omega
  rw [List.length_take,Nat.min_eq_left hi]at this
  exact this
 obtain⟨r,h1,h2⟩:=(TotP.up (body:=fun st:Int×List Int=>QcJ m st.1 st.2) m.length (fun st=>st.1) (fun st=>st.2=QQ 1 m.length++(m.take st.1.toNat).flatMap bagB) (Q:=fun q:Unit⊕List Int=>q=.inr (Qqb m)) (s0:=((0:Int),[]++[(m.length:Int)].flatMap (QQ 1))) rfl (by simp) (fun i st hi hn hJ=>by
  obtain⟨x,a⟩:=st
  replace hi:x=(i:Int):=hi
  subst hi
  replace hJ:a=QQ 1 m.length++(m.take (i:Int).toNat).flatMap bagB:=hJ
  rw [Int.toNat_natCast]at hJ
  show TotP (QcJ m i a) _
  unfold QcJ
  refine TotP.bif (fun hc=>?_) (fun hc=>TotP.ok (Ql ?_))
  ·simp only [decide_eq_true_eq]at hc
   have i1:i<m.length:=by omega
   have hbm:=List.getElem_mem i1
   have hr:=(hb _ hbm).1
   have hrl:=(hb _ hbm).2
   have hal:a.length≤1+i*8194:=by
    have:=lens i (by omega)
    rw [hJ,List.length_append,QbB];omega
   rw [QX,List.getElem?_eq_getElem i1,Option.bind_some]
   have g1:QhO m[i]=some false:=by
    unfold QhO
    rw [Qhy _ (by unfold maxLen;omega),Option.bind_some,Qdr.2 hr]
    simp only [Bool.not_true,cond_false]
    rw [decide_eq_false (by omega),cond_false]
    by_cases c0:(m[i]).length=0
    ·rw [decide_eq_false (by omega)];rfl
    ·have hlast:(m[i]).length-1<(m[i]).length:=by omega
     rw [decide_eq_true (by omega),cond_true,Qcn (by omega),show((m[i]).length:Int)-1=(((m[i]).length-1:Nat):Int) by omega,QX,List.getElem?_eq_getElem hlast,Option.bind_some]
     have:=hmem _ hbm _ (List.getElem_mem hlast)
     rw [decide_eq_false (by omega)]
   rw [g1,Option.bind_some]
   unfold Qfo
   rw [cond_false,show(2:Int)=((2:Nat):Int)from rfl,Qt2 a 2 _ (by omega) (by simp;omega),Option.bind_some]
   have inner:TotP (QA (fun st=>QcI m[i] st.1 st.2) ((0:Int),a++[((m[i]).length:Int)].flatMap (QQ 2))) fun q:List Int=>q=a++bagB m[i]:=by
    refine TotP.up (m[i]).length (fun st=>st.1) (fun st=>st.2=a++(QQ 2 (m[i]).length++((m[i]).take st.1.toNat).flatMap fun p=>QQ 4 p.1++QQ 4 p.2)) rfl (by simp) (fun k st hk hn2 hK=>?_)
    obtain⟨x,c⟩:=st
    replace hk:x=(k:Int):=hk
    subst hk
    replace hK:c=a++(QQ 2 (m[i]).length++((m[i]).take (k:Int).toNat).flatMap fun p=>QQ 4 p.1++QQ 4 p.2):=hK
    rw [Int.toNat_natCast]at hK
    show TotP (QcI m[i] k c) _
    unfold QcI
    refine TotP.bif (fun hc2=>?_) (fun hc2=>TotP.ok (Ql ?_))
    ·simp only [decide_eq_true_eq]at hc2
     have k1:k<(m[i]).length:=by omega
     have hcl:c.length=a.length+2+k*8:=by
      rw [hK,List.length_append,List.length_append,QbB,QsJ (c:=8) fun x _=>by simp [QbB],List.length_take,Nat.min_eq_left (by omega)];omega
     rw [QX,List.getElem?_eq_getElem k1,Option.bind_some,show(4:Int)=((4:Nat):Int)from rfl,Qt2 c 4 _ (by omega) (by simp;omega),Option.bind_some]
     have hw:w64 ((k:Int)+1)=((k+1:Nat):Int):=Qu k1 (by unfold maxLen;omega:(m[i]).length≤maxLen)
     refine TotP.ok (Qx ⟨k1,hw,?_⟩)
     show c++[(m[i])[k].1,(m[i])[k].2].flatMap (QQ 4)=a++(QQ 2 (m[i]).length++((m[i]).take (w64 ((k:Int)+1)).toNat).flatMap fun p=>QQ 4 p.1++QQ 4 p.2)
     rw [hw,Int.toNat_natCast,List.take_add_one,List.getElem?_eq_getElem k1,hK,List.flatMap_append]
     simp
    ·simp only [decide_eq_false_iff_not]at hc2
     rw [hK,List.take_of_length_le (by omega)];rfl
   obtain⟨q,hq1,rfl⟩:=inner
   rw [hq1,Option.bind_some]
   unfold QhP
   have hw:w64 ((i:Int)+1)=((i+1:Nat):Int):=Qu i1 (by unfold maxLen;omega:m.length≤maxLen)
   refine TotP.ok (Qx ⟨i1,hw,?_⟩)
   show a++bagB m[i]=QQ 1 m.length++(m.take (w64 ((i:Int)+1)).toNat).flatMap bagB
   rw [hw,Int.toNat_natCast,List.take_add_one,List.getElem?_eq_getElem i1,hJ,List.flatMap_append,List.append_assoc]
   simp
  ·simp only [decide_eq_false_iff_not]at hc
   rw [hJ,List.take_of_length_le (by omega)];rfl))
 rw [h1,h2];rfl
def QbC (m:List Bag):ByteArray:=Qj1 (if m.length≤64 then Qqb m else [])
theorem Qt3 {n:TNet}{m:List Bag}(h:QY n)(hg:Good n m):Qfp m=some (QbC m):=by
 unfold Qfp QbC
 by_cases c:m.length≤64
 ·rw [Qwk h hg c,if_pos c];rfl
 ·rw [if_neg c]
  unfold Qgd
  rw [decide_eq_true (by omega)];rfl
end Go.Proofs
noncomputable section
namespace Go.Proofs
open Go Go.RowKit Go.Vm
def QgI (n:TNet)(w:Int)(x:List Bag)(o:Qk):Option (List Bag):=if o.Task=w then none else match QdB n x o with
 | some (y,c)=>if c=0 then some y else none
 | none=>none
def Qke (n:TNet)(w:Int)(x:List Bag):List (List Bag):=(allL n x).filterMap (QgI n w x)
theorem Qwl {n:TNet}{w:Int}{x y:List Bag}{o:Qk}(h:QgI n w x o=some y):o.Task≠w∧QdB n x o=some (y,0):=by
 unfold QgI at h
 split at h
 ·cases h
 ·rename_i c
  refine⟨c,?_⟩
  cases e:QdB n x o with
  | none=>rw [e]at h;cases h
  | some r=>
   obtain⟨a,b⟩:=r
   rw [e]at h
   simp only at h
   split at h
   ·rename_i c2;cases h;rw [c2]
   ·cases h
theorem Qwm {n:TNet}{w:Int}{x:List Bag}(h:QY n)(hg:Good n x):∀y∈Qke n w x,Good n y:=fun y hy=>by
 obtain⟨o,ho,he⟩:=List.mem_filterMap.1 hy
 exact QsI h hg (Qt1 h (hg.len h) ho) (Qwl he).2
def FM (mm:List (ByteArray×Bool))(l:List (List Bag)):Prop:=∀k,(mget mm k).getD false=l.any fun y=>decide (QbC y=k)
theorem FM.add {mm:List (ByteArray×Bool)}{l:List (List Bag)}(h:FM mm l)(x:List Bag):FM (mset ltS mm (QbC x) true) (l++[x]):=fun k=>by
 rw [QkF,List.any_append]
 by_cases c:k=QbC x
 ·subst c
  rw [if_pos rfl]
  simp
 ·rw [if_neg c,h k]
  have:decide (QbC x=k)=false:=decide_eq_false fun e=>c e.symm
  simp [this]
def QT (budget:Int):Nat:=(min2 (max2 0 budget) 4096).toNat
theorem QuE (budget:Int):(QT budget:Int)=min2 (max2 0 budget) 4096∧QT budget≤4096:=by
 unfold QT min2 max2
 split<;>split<;>omega
def Qii (n:TNet)(w budget:Int)(m:List Bag):List (List Bag)×Bool:=if QT budget=0 then([],false)else QdP QbC (Qke n w) (QT budget) (QT budget+1) [m] 0
theorem Qvr {n:TNet}{m:List Bag}(w budget:Int)(h:QY n)(hb:Bd n)(hg:Good n m):QdY n m w budget=some (Qii n w budget m):=by
 have hm:=QuE budget
 have hpl:=h.pl
 unfold QdY Qii
 by_cases c0:QT budget=0
 ·rw [if_pos c0,show(min2 (max2 0 budget) 4096==0)=true by rw [←hm.1,c0];rfl];rfl
 rw [if_neg c0,show(min2 (max2 0 budget) 4096==0)=false by simp;omega]
 simp only [cond_false]
 have hm1:=hg.1.1
 rw [Qt3 h hg,Option.bind_some,Qnc m (by omega) (fun b hb=>by have:=(hg.1.2 b hb).2;omega),Option.bind_some]
 generalize hR:QdP QbC (Qke n w) (QT budget) (QT budget+1) [m] 0=R
 have main:TotP (QA (fun st=>Qcr n w budget st.1 st.2.1 st.2.2) ((0:Int),(mset ltS ([]:(List (ByteArray×Bool))) (QbC m) true),[m])) fun q:List (List Bag)⊕List (List Bag)=>(∀l,q=.inl l→R=(l,false))∧∀l,q=.inr l→R=(l,true):=by
  refine TotP.up (QT budget) (fun st=>st.1) (fun st=>FM st.2.1 st.2.2∧(∀x∈st.2.2,Good n x)∧st.2.2.length≤QT budget∧QdP QbC (Qke n w) (QT budget) (QT budget+1-st.1.toNat) st.2.2 st.1.toNat=R) rfl ⟨?_,?_,?_,hR⟩ (fun i st hi hn hJ=>?_)
  ·exact FM.add (mm:=[]) (l:=[]) (fun k=>rfl) m
  ·intro x hx;simp at hx;subst hx;exact hg
  ·show 1≤_;omega
  ·obtain⟨a,mm,l⟩:=st
   replace hi:a=(i:Int):=hi
   subst hi
   obtain⟨j1,j2,j3,j4⟩:FM mm l∧(∀x∈l,Good n x)∧l.length≤QT budget∧QdP QbC (Qke n w) (QT budget) (QT budget+1-(i:Int).toNat) l (i:Int).toNat=R:=hJ
   rw [Int.toNat_natCast,show QT budget+1-i=(QT budget-i)+1 by omega,QdP]at j4
   show TotP (Qcr n w budget i mm l) _
   unfold Qcr
   refine TotP.bif (fun hc=>?_) (fun hc=>TotP.ok (Ql ⟨fun l' e=>(by cases e),fun l' e=>?_⟩))
   ·simp only [decide_eq_true_eq]at hc
    have i1:i<l.length:=by omega
    have hx:=List.getElem?_eq_getElem i1
    have hgx:=j2 _ (List.getElem_mem i1)
    rw [QX,hx,Option.bind_some]
    rw [hx]at j4
    simp only at j4
    generalize l[i]=x at hx hgx j4 ⊢
    have hal:=Qxw x h hb
    rw [Qrq n x 9223372036854775807 h (hgx.len h) (by omega) (by omega) (.inr (by omega)),Option.bind_some]
    have hxl:=hgx.len h
    have e0:(allL n x).take (9223372036854775807:Int).toNat=allL n x:=List.take_of_length_le (by omega)
    rw [e0]
    have hok:=fun o=>Qt1 (o:=o) h hxl
    have inner:TotP (QA (fun st=>Qcq (allL n x) w i n budget st.1 st.2.1 st.2.2) ((0:Int),mm,l)) fun q:List (List Bag)⊕(List (ByteArray×Bool)×List (List Bag))=>
      (∀o,q=.inl o→Qbv QbC (QT budget) l (Qke n w x)=.inl o)∧∀mm' o,q=.inr (mm',o)→Qbv QbC (QT budget) l (Qke n w x)=.inr o∧FM mm' o∧(∀x∈o,Good n x)∧o.length≤QT budget:=by
     generalize hT:Qbv QbC (QT budget) l (Qke n w x)=T
     have hT:Qbv QbC (QT budget) l ((allL n x).filterMap (QgI n w x))=T:=hT
     generalize allL n x=X at hT hal hok ⊢
     refine TotP.up X.length (fun st=>st.1) (fun st=>FM st.2.1 st.2.2∧(∀x∈st.2.2,Good n x)∧st.2.2.length≤QT budget∧st.2.2[i]? = some x∧Qbv QbC (QT budget) st.2.2 ((X.drop st.1.toNat).filterMap (QgI n w x))=T) rfl ⟨j1,j2,j3,hx,hT⟩ (fun k st hk hn2 hK=>?_)
     obtain⟨a,mm,l⟩:=st
     replace hk:a=(k:Int):=hk
     subst hk
     obtain⟨k1,k2,k3,k4,k5⟩:FM mm l∧(∀x∈l,Good n x)∧l.length≤QT budget∧l[i]? = some x∧Qbv QbC (QT budget) l ((X.drop (k:Int).toNat).filterMap (QgI n w x))=T:=hK
     rw [Int.toNat_natCast]at k5
     show TotP (Qcq X w i n budget k mm l) _
     unfold Qcq
     refine TotP.bif (fun hc2=>?_) (fun hc2=>TotP.ok (Ql ⟨fun o e=>(by cases e),fun mm' o e=>?_⟩))
     ·simp only [decide_eq_true_eq]at hc2
      have i2:k<X.length:=by omega
      have hw:w64 ((k:Int)+1)=((k+1:Nat):Int):=Qu i2 (by unfold maxLen;omega:X.length≤maxLen)
      have next:∀mm' l',FM mm' l'→(∀x∈l',Good n x)→l'.length≤QT budget→l'[i]? = some x→Qbv QbC (QT budget) l' ((X.drop (k+1)).filterMap (QgI n w x))=T→
        TotP (Qcp k mm' l') fun o=>(∀s',o=.inl s'→k<X.length∧s'.1=((k+1:Nat):Int)∧FM s'.2.1 s'.2.2∧(∀x∈s'.2.2,Good n x)∧s'.2.2.length≤QT budget∧s'.2.2[i]? = some x∧Qbv QbC (QT budget) s'.2.2 ((X.drop s'.1.toNat).filterMap (QgI n w x))=T)∧
         ∀r:List (List Bag)⊕(List (ByteArray×Bool)×List (List Bag)),o=.inr r→(∀o,r=.inl o→T=.inl o)∧∀mm' o,r=.inr (mm',o)→T=.inr o∧FM mm' o∧(∀x∈o,Good n x)∧o.length≤QT budget:=fun mm' l' f1 f2 f3 f4 f5=>by
       unfold Qcp
       refine TotP.ok (Qx (ix:=fun st:Int×List (ByteArray×Bool)×List (List Bag)=>st.1) (J:=fun st:Int×List (ByteArray×Bool)×List (List Bag)=>FM st.2.1 st.2.2∧(∀x∈st.2.2,Good n x)∧st.2.2.length≤QT budget∧st.2.2[i]? = some x∧Qbv QbC (QT budget) st.2.2 ((X.drop st.1.toNat).filterMap (QgI n w x))=T) ⟨i2,hw,f1,f2,f3,f4,?_⟩)
       show Qbv QbC (QT budget) l' ((X.drop (w64 ((k:Int)+1)).toNat).filterMap (QgI n w x))=T
       rw [hw,Int.toNat_natCast];exact f5
      rw [QX,List.getElem?_eq_getElem i2,Option.bind_some]
      rw [List.drop_eq_getElem_cons i2,List.filterMap_cons]at k5
      have hox:=hok _ (List.getElem_mem i2)
      generalize X[k]=o at k5 hox ⊢
      refine TotP.bif (fun hc3=>?_) fun hc3=>?_
      ·have:QgI n w x o=none:=by unfold QgI;rw [if_pos (by simpa using hc3)]
       rw [this]at k5
       exact next mm l k1 k2 k3 k4 k5
      simp only [beq_eq_false_iff_ne]at hc3
      rw [QX,k4,Option.bind_some]
      obtain⟨⟨y,c⟩,hD,_⟩:=t_Do n x o 1024 h hgx.1 (by omega) hox
      rw [hD,Option.bind_some]
      by_cases cc:c=0
      ·subst cc
       have hgy:=QsI h hgx hox hD
       have:QgI n w x o=some y:=by unfold QgI;rw [if_neg hc3,hD];rfl
       rw [this]at k5
       simp only at k5
       rw [Qbv]at k5
       unfold Qg2
       simp only [show((0:Int) != 0)=false from rfl,cond_false]
       rw [Qt3 h hgy,Option.bind_some,k1 (QbC y),Option.bind_some]
       unfold Qdx
       refine TotP.bif (fun hh=>?_) fun hh=>?_
       ·rw [if_pos (show hasK QbC l y=true from hh)]at k5
        exact next mm l k1 k2 k3 k4 k5
       ·rw [if_neg (by rw [show hasK QbC l y=false from hh];decide)]at k5
        refine TotP.bif (fun hf=>?_) fun hf=>?_
        ·simp only [beq_iff_eq]at hf
         rw [if_pos (by omega)]at k5
         exact TotP.ok (Ql ⟨fun o e=>(by cases e;exact k5.symm),fun mm' o e=>by cases e⟩)
        ·simp only [beq_eq_false_iff_ne]at hf
         rw [if_neg (by omega)]at k5
         simp only
         rw [Qt3 h hgy,Option.bind_some]
         refine TotP.bind (TotP.chk (by simp;omega)) fun _ _=>?_
         refine next _ _ (k1.add y) (fun z hz=>?_) (by simp;omega) (by rw [List.getElem?_append_left ((List.getElem?_eq_some_iff.1 k4).1)];exact k4) k5
         rcases List.mem_append.1 hz with hz | hz
         ·exact k2 z hz
         ·simp at hz;subst hz;exact hgy
      ·have:QgI n w x o=none:=by unfold QgI;rw [if_neg hc3,hD];simp only;rw [if_neg cc]
       rw [this]at k5
       unfold Qg2
       simp only [show(c != 0)=true by simpa using cc,cond_true,Option.bind_some]
       unfold Qdx
       exact next mm l k1 k2 k3 k4 k5
     ·cases e
      simp only [decide_eq_false_iff_not]at hc2
      rw [List.drop_of_length_le (by omega),List.filterMap_nil,Qbv]at k5
      exact⟨k5.symm,k1,k2,k3⟩
    obtain⟨q,hq1,hq2,hq3⟩:=inner
    rw [hq1,Option.bind_some]
    rcases q with q | ⟨mm',o⟩
    ·have:=hq2 q rfl
     rw [this]at j4
     show TotP (QeK q) _
     unfold QeK
     exact TotP.ok (Ql ⟨fun l' e=>(by cases e;exact j4.symm),fun l' e=>by cases e⟩)
    ·obtain⟨f1,f2,f3,f4⟩:=hq3 mm' o rfl
     rw [f1]at j4
     simp only at j4
     show TotP (QeL i mm' o) _
     unfold QeL
     have hw:w64 ((i:Int)+1)=((i+1:Nat):Int):=Qu (by omega:i<QT budget) (by unfold maxLen;omega)
     refine TotP.ok (Qx ⟨by omega,hw,f2,f3,f4,?_⟩)
     show QdP QbC (Qke n w) (QT budget) (QT budget+1-(w64 ((i:Int)+1)).toNat) o (w64 ((i:Int)+1)).toNat=R
     rw [hw,Int.toNat_natCast,show QT budget+1-(i+1)=QT budget-i by omega]
     exact j4
   ·cases e
    simp only [decide_eq_false_iff_not]at hc
    rw [List.getElem?_eq_none (by omega)]at j4
    exact j4.symm
 obtain⟨q,hq1,hq2,hq3⟩:=main
 rw [hq1,Option.bind_some]
 rcases q with q | q
 ·rw [hq2 q rfl];rfl
 ·rw [hq3 q rfl];rfl
end Go.Proofs
noncomputable section
namespace Go.Proofs
open Go Go.RowKit Go.Vm
theorem Qvs {n:TNet}{m:List Bag}(w budget:Int)(h:QY n)(hg:Good n m):(∀x∈(Qii n w budget m).1,Good n x)∧(Qii n w budget m).1.length≤QT budget∧Qmv QbC (Qii n w budget m).1∧(0<QT budget→∃r,(Qii n w budget m).1=m::r):=by
 unfold Qii
 by_cases c0:QT budget=0
 ·rw [if_pos c0]
  exact⟨fun x h=>(by cases h),by simp,List.Pairwise.nil,fun h=>by omega⟩
 ·rw [if_neg c0]
  obtain⟨⟨r,hr⟩,h2,h3,h4⟩:=Qv3 (key:=QbC) (succ:=Qke n w) (P:=Good n) (fun x hx=>Qwm h hx) (most:=QT budget) (QT budget+1) (out:=[m]) (a:=0) (by simp;omega) (List.pairwise_singleton _ _) fun x hx=>by simp at hx;subst hx;exact hg
  exact⟨h4,h2,h3,fun _=>⟨r,hr⟩⟩
end Go.Proofs
noncomputable section
namespace Go.Proofs
open Go Go.RowKit Go.Vm
set_option maxRecDepth 100000 in
theorem Qvt : Qj9=some true:=by kernel_rfl
end Go.Proofs
