/- A part of the proof; what it holds is told at each theorem. -/
import Derived.Test.YtpijolohkdchcaaGreatDoorFiF
import Derived.Test.YtpijolohkdchcaaGreatDoorFiS
import Derived.Test.YtpijolohkdchcaaGreatDoorFiL
set_option linter.unusedVariables false
set_option linter.unusedSimpArgs false
set_option linter.unusedSectionVars false
set_option linter.deprecated false
noncomputable section
namespace Go.Proofs
open Go Go.RowKit Go.Vm
theorem QsL (n:TNet)(a b:List Bag)(c d:Nat)(h:QaZ n)(ha:MOk n c a)(hb:MOk n d b)(hcd:c+d≤1000000):TotP (Qc9 a b) fun r=>(r.2=0→r.1.length=n.Places.length∧Each QaX a b r.1)∧(Can QaX a b→r.2=0):=by
 have hpl:=h.pl
 have ha1:=ha.1
 have hb1:=hb.1
 have hmin:min2 (a.length:Int) (b.length:Int)=(n.Places.length:Int):=by unfold min2;split<;>omega
 unfold Qc9
 rw [hmin]
 refine TotP.bind (TotP.chk (by simp only [Bool.and_eq_true,decide_eq_true_eq];omega)) fun _ _=>?_
 refine TotP.bind (TotP.up n.Places.length (fun st=>st.1) (fun st=>st.2.length=n.Places.length∧∀(j:Nat) x y,(j:Int)<st.1→a[j]? = some x→b[j]? = some y→∃z,st.2[j]? = some z∧QaX x y=some (z,0)) (Q:=fun q:Int⊕List Bag=>(∀x,q=.inl x→x≠0∧¬Can QaX a b)∧∀m,q=.inr m→m.length=n.Places.length∧Each QaX a b m) rfl ⟨by simp,fun j x y hj=>by omega⟩ (fun i st hi hn hJ=>?_)) (fun q hq=>?_)
 ·obtain⟨x,m⟩:=st
  replace hi:x=(i:Int):=hi
  obtain⟨hJ1,hJ2⟩:m.length=n.Places.length∧∀(j:Nat) u v,(j:Int)<x→a[j]? = some u→b[j]? = some v→∃z,m[j]? = some z∧QaX u v=some (z,0):=hJ
  show TotP (QbM a b x m) _
  unfold QbM
  rw [hmin]
  refine TotP.bif (fun hc=>?_) (fun hc=>TotP.ok (Qm ⟨fun x e=>(by cases e),fun m' e=>(by cases e;exact⟨hJ1,fun j u v hu hv=>hJ2 j u v (by
   simp only [decide_eq_false_iff_not,List.length_replicate]at hc
   have:=(List.getElem?_eq_some_iff.1 hu).1
   omega) hu hv⟩)⟩))
  simp only [decide_eq_true_eq,List.length_replicate]at hc
  have i1:i<a.length:=by omega
  have i2:i<b.length:=by omega
  rw [hi,Qbu,getq i1,Option.bind_some,Qbu,getq i2,Option.bind_some]
  have hu2:=ha.2 _ (List.getElem_mem i1)
  have hv2:=hb.2 _ (List.getElem_mem i2)
  have key:∃s,QaX a[i] b[i]=some s:=by
   rcases Qlc a[i] b[i] (by omega)with⟨_,e⟩|⟨_,_,_,e⟩|⟨_,_,_,r,e,h1,_,h2⟩
   ·exact⟨_,e⟩
   ·exact⟨_,e⟩
   ·exact⟨_,e⟩
  obtain⟨s,es⟩:=key
  rw [es,Option.bind_some]
  refine TotP.bind (TotP.idx (by omega) (by omega)) fun _ _=>?_
  refine TotP.bif (fun hc5=>TotP.ok (Qm ⟨fun x e=>(by cases e;exact⟨by simpa using hc5,fun hcan=>by
   obtain⟨z,hz⟩:=hcan i _ _ (getq i1) (getq i2)
   rw [es]at hz
   cases hz
   simp at hc5⟩),fun m' e=>(by cases e)⟩)) fun hc5=>?_
  simp only [bne_eq_false_iff_eq]at hc5
  refine TotP.ok (Qz ⟨by omega,Qv (by omega) (by unfold maxLen;omega:n.Places.length≤maxLen),by simpa using hJ1,fun j u v hj hu hv=>?_⟩)
  have hj:(j:Int)<w64 ((i:Int)+1):=hj
  rw [Qv (show i<n.Places.length by omega) (by unfold maxLen;omega)]at hj
  show ∃z,(m.set (i:Int).toNat s.1)[j]? = some z∧_
  by_cases cj:j=i
  ·subst cj
   rw [getq i1]at hu;rw [getq i2]at hv
   cases hu;cases hv
   refine⟨s.1,by rw [show((j:Int)).toNat=j from Int.toNat_natCast j];exact List.getElem?_set_self (by omega),?_⟩
   rw [es,←hc5]
  ·obtain⟨z,h1,h2⟩:=hJ2 j u v (by omega) hu hv
   exact⟨z,by rw [List.getElem?_set_ne (by simp;omega)];exact h1,h2⟩
 ·rcases q with q | q
  ·have:=hq.1 q rfl
   exact TotP.ok ⟨fun h=>absurd h this.1,fun h=>absurd h this.2⟩
  ·exact TotP.ok ⟨fun _=>hq.2 q rfl,fun _=>rfl⟩
theorem QoS (n:TNet)(a b:List Bag)(c d:Nat)(h:QaZ n)(ha:MOk n c a)(hb:MOk n d b)(hcd:c+d≤1000000):TotP (QbN a b) fun r=>(r.2=0→r.1.length=n.Places.length∧Each QaO a b r.1)∧(Can QaO a b→r.2=0):=by
 have hpl:=h.pl
 have ha1:=ha.1
 have hb1:=hb.1
 have hmin:min2 (a.length:Int) (b.length:Int)=(n.Places.length:Int):=by unfold min2;split<;>omega
 unfold QbN
 rw [hmin]
 refine TotP.bind (TotP.chk (by simp only [Bool.and_eq_true,decide_eq_true_eq];omega)) fun _ _=>?_
 refine TotP.bind (TotP.up n.Places.length (fun st=>st.1) (fun st=>st.2.length=n.Places.length∧∀(j:Nat) x y,(j:Int)<st.1→a[j]? = some x→b[j]? = some y→∃z,st.2[j]? = some z∧QaO x y=some (z,0)) (Q:=fun q:Int⊕List Bag=>(∀x,q=.inl x→x≠0∧¬Can QaO a b)∧∀m,q=.inr m→m.length=n.Places.length∧Each QaO a b m) rfl ⟨by simp,fun j x y hj=>by omega⟩ (fun i st hi hn hJ=>?_)) (fun q hq=>?_)
 ·obtain⟨x,m⟩:=st
  replace hi:x=(i:Int):=hi
  obtain⟨hJ1,hJ2⟩:m.length=n.Places.length∧∀(j:Nat) u v,(j:Int)<x→a[j]? = some u→b[j]? = some v→∃z,m[j]? = some z∧QaO u v=some (z,0):=hJ
  show TotP (QaV a b x m) _
  unfold QaV
  rw [hmin]
  refine TotP.bif (fun hc=>?_) (fun hc=>TotP.ok (Qm ⟨fun x e=>(by cases e),fun m' e=>(by cases e;exact⟨hJ1,fun j u v hu hv=>hJ2 j u v (by
   simp only [decide_eq_false_iff_not,List.length_replicate]at hc
   have:=(List.getElem?_eq_some_iff.1 hu).1
   omega) hu hv⟩)⟩))
  simp only [decide_eq_true_eq,List.length_replicate]at hc
  have i1:i<a.length:=by omega
  have i2:i<b.length:=by omega
  rw [hi,Qbu,getq i1,Option.bind_some,Qbu,getq i2,Option.bind_some]
  have hu2:=ha.2 _ (List.getElem_mem i1)
  have hv2:=hb.2 _ (List.getElem_mem i2)
  have key:∃s,QaO a[i] b[i]=some s:=by
   rcases Qig a[i] b[i] (by omega)with⟨_,e⟩|⟨_,_,_,e⟩|⟨_,_,r,e,h1,_,h2⟩
   ·exact⟨_,e⟩
   ·exact⟨_,e⟩
   ·exact⟨_,e⟩
  obtain⟨s,es⟩:=key
  rw [es,Option.bind_some]
  refine TotP.bind (TotP.idx (by omega) (by omega)) fun _ _=>?_
  refine TotP.bif (fun hc5=>TotP.ok (Qm ⟨fun x e=>(by cases e;exact⟨by simpa using hc5,fun hcan=>by
   obtain⟨z,hz⟩:=hcan i _ _ (getq i1) (getq i2)
   rw [es]at hz
   cases hz
   simp at hc5⟩),fun m' e=>(by cases e)⟩)) fun hc5=>?_
  simp only [bne_eq_false_iff_eq]at hc5
  refine TotP.ok (Qz ⟨by omega,Qv (by omega) (by unfold maxLen;omega:n.Places.length≤maxLen),by simpa using hJ1,fun j u v hj hu hv=>?_⟩)
  have hj:(j:Int)<w64 ((i:Int)+1):=hj
  rw [Qv (show i<n.Places.length by omega) (by unfold maxLen;omega)]at hj
  show ∃z,(m.set (i:Int).toNat s.1)[j]? = some z∧_
  by_cases cj:j=i
  ·subst cj
   rw [getq i1]at hu;rw [getq i2]at hv
   cases hu;cases hv
   refine⟨s.1,by rw [show((j:Int)).toNat=j from Int.toNat_natCast j];exact List.getElem?_set_self (by omega),?_⟩
   rw [es,←hc5]
  ·obtain⟨z,h1,h2⟩:=hJ2 j u v (by omega) hu hv
   exact⟨z,by rw [List.getElem?_set_ne (by simp;omega)];exact h1,h2⟩
 ·rcases q with q | q
  ·have:=hq.1 q rfl
   exact TotP.ok ⟨fun h=>absurd h this.1,fun h=>absurd h this.2⟩
  ·exact TotP.ok ⟨fun _=>hq.2 q rfl,fun _=>rfl⟩
theorem Qtv {n:TNet}{m t:List Bag}{o:Qk}(h:Qck n m o=some (t,0)):Qgu n m o=some 0∧∃need,QcT n o=some (need,0)∧Qc9 m need=some (t,0):=by
 unfold Qck at h
 obtain⟨x,hx,h⟩:=Qb h
 rcases bifE h with⟨c,h⟩|⟨c,h⟩
 ·simp only [Option.some.injEq,Prod.mk.injEq]at h
  rw [h.2]at c;cases c
 simp only [bne_eq_false_iff_eq]at c
 subst c
 obtain⟨y,hy,h⟩:=Qb h
 obtain⟨y1,y2⟩:=y
 rcases bifE h with⟨c,h⟩|⟨c,h⟩
 ·simp only [Option.some.injEq,Prod.mk.injEq]at h
  simp only [h.2]at c;cases c
 simp only [bne_eq_false_iff_eq]at c
 subst c
 obtain⟨z,hz,h⟩:=Qb h
 obtain⟨z1,z2⟩:=z
 simp only [Option.some.injEq,Prod.mk.injEq]at h
 obtain⟨rfl,rfl⟩:=h
 exact⟨hx,y1,hy,hz⟩
theorem QuJ {n:TNet}{m x:List Bag}{o:Qk}(h:QbO n m o=some (x,0)):∃t,Qck n m o=some (t,0)∧Qew n t o=some (x,0):=by
 unfold QbO at h
 obtain⟨y,hy,h⟩:=Qb h
 obtain⟨y1,y2⟩:=y
 rcases bifE h with⟨c,h⟩|⟨c,h⟩
 ·simp only [Option.some.injEq,Prod.mk.injEq]at h
  simp only [h.2]at c;cases c
 simp only [bne_eq_false_iff_eq]at c
 subst c
 obtain⟨z,hz,h⟩:=Qb h
 obtain⟨z1,z2⟩:=z
 simp only [Option.some.injEq,Prod.mk.injEq]at h
 obtain⟨rfl,rfl⟩:=h
 exact⟨y1,hy,hz⟩
end Go.Proofs
