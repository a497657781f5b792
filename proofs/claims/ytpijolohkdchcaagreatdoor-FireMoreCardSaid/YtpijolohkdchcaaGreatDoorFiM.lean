/- A part of the proof; what it holds is told at each theorem. -/
import Derived.Test.YtpijolohkdchcaaGreatDoorFiF
import Derived.Test.YtpijolohkdchcaaGreatDoorFiS
import Derived.Test.YtpijolohkdchcaaGreatDoorFiL
set_option linter.unusedVariables false
set_option linter.unusedSimpArgs false
set_option linter.unusedSectionVars false
set_option linter.deprecated false
noncomputable section
namespace Go.Proofs
open Go Go.RowKit Go.Vm
theorem Qph (n:TNet)(a b:List Bag)(c d:Nat)(h:QcY n)(ha:MOk n c a)(hb:MOk n d b)(hcd:c+d≤1000000):TotP (Qci a b) fun r=>(r.2=0→r.1.length=n.Places.length∧Each QaM a b r.1)∧(Can QaM a b→r.2=0):=by
 have hpl:=h.pl
 have ha1:=ha.1
 have hb1:=hb.1
 have hmin:min2 (a.length:Int) (b.length:Int)=(n.Places.length:Int):=by unfold min2;split<;>omega
 unfold Qci
 rw [hmin]
 refine TotP.bind (TotP.chk (by simp only [Bool.and_eq_true,decide_eq_true_eq];omega)) fun _ _=>?_
 refine TotP.bind (TotP.up n.Places.length (fun st=>st.1) (fun st=>st.2.length=n.Places.length∧∀(j:Nat) x y,(j:Int)<st.1→a[j]? = some x→b[j]? = some y→∃z,st.2[j]? = some z∧QaM x y=some (z,0)) (Q:=fun q:Int⊕List Bag=>(∀x,q=.inl x→x≠0∧¬Can QaM a b)∧∀m,q=.inr m→m.length=n.Places.length∧Each QaM a b m) rfl ⟨by simp,fun j x y hj=>by omega⟩ (fun i st hi hn hJ=>?_)) (fun q hq=>?_)
 ·obtain⟨x,m⟩:=st
  replace hi:x=(i:Int):=hi
  obtain⟨hJ1,hJ2⟩:m.length=n.Places.length∧∀(j:Nat) u v,(j:Int)<x→a[j]? = some u→b[j]? = some v→∃z,m[j]? = some z∧QaM u v=some (z,0):=hJ
  show TotP (QbG a b x m) _
  unfold QbG
  rw [hmin]
  refine TotP.bif (fun hc=>?_) (fun hc=>TotP.ok (Qn ⟨fun x e=>(by cases e),fun m' e=>(by cases e;exact⟨hJ1,fun j u v hu hv=>hJ2 j u v (by
   simp only [decide_eq_false_iff_not,List.length_replicate]at hc
   have:=(List.getElem?_eq_some_iff.1 hu).1
   omega) hu hv⟩)⟩))
  simp only [decide_eq_true_eq,List.length_replicate]at hc
  have i1:i<a.length:=by omega
  have i2:i<b.length:=by omega
  rw [hi,QbB,getq i1,Option.bind_some,QbB,getq i2,Option.bind_some]
  have hu2:=ha.2 _ (List.getElem_mem i1)
  have hv2:=hb.2 _ (List.getElem_mem i2)
  have key:∃s,QaM a[i] b[i]=some s:=by
   rcases QiT a[i] b[i] (by omega)with⟨_,e⟩|⟨_,_,_,e⟩|⟨_,_,_,r,e,h1,_,h2⟩
   ·exact⟨_,e⟩
   ·exact⟨_,e⟩
   ·exact⟨_,e⟩
  obtain⟨s,es⟩:=key
  rw [es,Option.bind_some]
  refine TotP.bind (TotP.idx (by omega) (by omega)) fun _ _=>?_
  refine TotP.bif (fun hc5=>TotP.ok (Qn ⟨fun x e=>(by cases e;exact⟨by simpa using hc5,fun hcan=>by
   obtain⟨z,hz⟩:=hcan i _ _ (getq i1) (getq i2)
   rw [es]at hz
   cases hz
   simp at hc5⟩),fun m' e=>(by cases e)⟩)) fun hc5=>?_
  simp only [bne_eq_false_iff_eq]at hc5
  refine TotP.ok (QD ⟨by omega,Qy (by omega) (by unfold maxLen;omega:n.Places.length≤maxLen),by simpa using hJ1,fun j u v hj hu hv=>?_⟩)
  have hj:(j:Int)<w64 ((i:Int)+1):=hj
  rw [Qy (show i<n.Places.length by omega) (by unfold maxLen;omega)]at hj
  show ∃z,(m.set (i:Int).toNat s.1)[j]? = some z∧_
  by_cases cj:j=i
  ·subst cj
   rw [getq i1]at hu;rw [getq i2]at hv
   cases hu;cases hv
   refine⟨s.1,by rw [show((j:Int)).toNat=j from Int.toNat_natCast j];exact List.getElem?_set_self (by omega),?_⟩
   rw [es,←hc5]
  ·obtain⟨z,h1,h2⟩:=hJ2 j u v (by omega) hu hv
   exact⟨z,by rw [List.getElem?_set_ne (by simp;omega)];exact h1,h2⟩
 ·rcases q with q | q
  ·have:=hq.1 q rfl
   exact TotP.ok ⟨fun h=>absurd h this.1,fun h=>absurd h this.2⟩
  ·exact TotP.ok ⟨fun _=>hq.2 q rfl,fun _=>rfl⟩
theorem Qow (n:TNet)(a b:List Bag)(c d:Nat)(h:QcY n)(ha:MOk n c a)(hb:MOk n d b)(hcd:c+d≤1000000):TotP (QaN a b) fun r=>(r.2=0→r.1.length=n.Places.length∧Each QM a b r.1)∧(Can QM a b→r.2=0):=by
 have hpl:=h.pl
 have ha1:=ha.1
 have hb1:=hb.1
 have hmin:min2 (a.length:Int) (b.length:Int)=(n.Places.length:Int):=by unfold min2;split<;>omega
 unfold QaN
 rw [hmin]
 refine TotP.bind (TotP.chk (by simp only [Bool.and_eq_true,decide_eq_true_eq];omega)) fun _ _=>?_
 refine TotP.bind (TotP.up n.Places.length (fun st=>st.1) (fun st=>st.2.length=n.Places.length∧∀(j:Nat) x y,(j:Int)<st.1→a[j]? = some x→b[j]? = some y→∃z,st.2[j]? = some z∧QM x y=some (z,0)) (Q:=fun q:Int⊕List Bag=>(∀x,q=.inl x→x≠0∧¬Can QM a b)∧∀m,q=.inr m→m.length=n.Places.length∧Each QM a b m) rfl ⟨by simp,fun j x y hj=>by omega⟩ (fun i st hi hn hJ=>?_)) (fun q hq=>?_)
 ·obtain⟨x,m⟩:=st
  replace hi:x=(i:Int):=hi
  obtain⟨hJ1,hJ2⟩:m.length=n.Places.length∧∀(j:Nat) u v,(j:Int)<x→a[j]? = some u→b[j]? = some v→∃z,m[j]? = some z∧QM u v=some (z,0):=hJ
  show TotP (QaT a b x m) _
  unfold QaT
  rw [hmin]
  refine TotP.bif (fun hc=>?_) (fun hc=>TotP.ok (Qn ⟨fun x e=>(by cases e),fun m' e=>(by cases e;exact⟨hJ1,fun j u v hu hv=>hJ2 j u v (by
   simp only [decide_eq_false_iff_not,List.length_replicate]at hc
   have:=(List.getElem?_eq_some_iff.1 hu).1
   omega) hu hv⟩)⟩))
  simp only [decide_eq_true_eq,List.length_replicate]at hc
  have i1:i<a.length:=by omega
  have i2:i<b.length:=by omega
  rw [hi,QbB,getq i1,Option.bind_some,QbB,getq i2,Option.bind_some]
  have hu2:=ha.2 _ (List.getElem_mem i1)
  have hv2:=hb.2 _ (List.getElem_mem i2)
  have key:∃s,QM a[i] b[i]=some s:=by
   rcases Qdy a[i] b[i] (by omega)with⟨_,e⟩|⟨_,_,_,e⟩|⟨_,_,r,e,h1,_,h2⟩
   ·exact⟨_,e⟩
   ·exact⟨_,e⟩
   ·exact⟨_,e⟩
  obtain⟨s,es⟩:=key
  rw [es,Option.bind_some]
  refine TotP.bind (TotP.idx (by omega) (by omega)) fun _ _=>?_
  refine TotP.bif (fun hc5=>TotP.ok (Qn ⟨fun x e=>(by cases e;exact⟨by simpa using hc5,fun hcan=>by
   obtain⟨z,hz⟩:=hcan i _ _ (getq i1) (getq i2)
   rw [es]at hz
   cases hz
   simp at hc5⟩),fun m' e=>(by cases e)⟩)) fun hc5=>?_
  simp only [bne_eq_false_iff_eq]at hc5
  refine TotP.ok (QD ⟨by omega,Qy (by omega) (by unfold maxLen;omega:n.Places.length≤maxLen),by simpa using hJ1,fun j u v hj hu hv=>?_⟩)
  have hj:(j:Int)<w64 ((i:Int)+1):=hj
  rw [Qy (show i<n.Places.length by omega) (by unfold maxLen;omega)]at hj
  show ∃z,(m.set (i:Int).toNat s.1)[j]? = some z∧_
  by_cases cj:j=i
  ·subst cj
   rw [getq i1]at hu;rw [getq i2]at hv
   cases hu;cases hv
   refine⟨s.1,by rw [show((j:Int)).toNat=j from Int.toNat_natCast j];exact List.getElem?_set_self (by omega),?_⟩
   rw [es,←hc5]
  ·obtain⟨z,h1,h2⟩:=hJ2 j u v (by omega) hu hv
   exact⟨z,by rw [List.getElem?_set_ne (by simp;omega)];exact h1,h2⟩
 ·rcases q with q | q
  ·have:=hq.1 q rfl
   exact TotP.ok ⟨fun h=>absurd h this.1,fun h=>absurd h this.2⟩
  ·exact TotP.ok ⟨fun _=>hq.2 q rfl,fun _=>rfl⟩
theorem QqA {n:TNet}{m t:List Bag}{o:Qk}(h:QbL n m o=some (t,0)):Qb9 n m o=some 0∧∃need,QbF n o=some (need,0)∧Qci m need=some (t,0):=by
 unfold QbL at h
 obtain⟨x,hx,h⟩:=Qb h
 rcases bifE h with⟨c,h⟩|⟨c,h⟩
 ·simp only [Option.some.injEq,Prod.mk.injEq]at h
  rw [h.2]at c;cases c
 simp only [bne_eq_false_iff_eq]at c
 subst c
 obtain⟨y,hy,h⟩:=Qb h
 obtain⟨y1,y2⟩:=y
 rcases bifE h with⟨c,h⟩|⟨c,h⟩
 ·simp only [Option.some.injEq,Prod.mk.injEq]at h
  simp only [h.2]at c;cases c
 simp only [bne_eq_false_iff_eq]at c
 subst c
 obtain⟨z,hz,h⟩:=Qb h
 obtain⟨z1,z2⟩:=z
 simp only [Option.some.injEq,Prod.mk.injEq]at h
 obtain⟨rfl,rfl⟩:=h
 exact⟨hx,y1,hy,hz⟩
theorem QuL {n:TNet}{m t need:List Bag}{o:Qk}(h1:Qb9 n m o=some 0)(h2:QbF n o=some (need,0))(h3:Qci m need=some (t,0)):QbL n m o=some (t,0):=by
 unfold QbL
 rw [h1,Option.bind_some]
 simp only [show((0:Int) != 0)=false from rfl,cond_false]
 rw [h2,Option.bind_some]
 simp only [show((0:Int) != 0)=false from rfl,cond_false]
 rw [h3];rfl
theorem Qsd {n:TNet}{m x:List Bag}{o:Qk}(h:Qbb n m o=some (x,0)):∃t,QbL n m o=some (t,0)∧QcD n t o=some (x,0):=by
 unfold Qbb at h
 obtain⟨y,hy,h⟩:=Qb h
 obtain⟨y1,y2⟩:=y
 rcases bifE h with⟨c,h⟩|⟨c,h⟩
 ·simp only [Option.some.injEq,Prod.mk.injEq]at h
  simp only [h.2]at c;cases c
 simp only [bne_eq_false_iff_eq]at c
 subst c
 obtain⟨z,hz,h⟩:=Qb h
 obtain⟨z1,z2⟩:=z
 simp only [Option.some.injEq,Prod.mk.injEq]at h
 obtain⟨rfl,rfl⟩:=h
 exact⟨y1,hy,hz⟩
theorem Qvs {n:TNet}{m t x:List Bag}{o:Qk}(h1:QbL n m o=some (t,0))(h2:QcD n t o=some (x,0)):Qbb n m o=some (x,0):=by
 unfold Qbb
 rw [h1,Option.bind_some]
 simp only [show((0:Int) != 0)=false from rfl,cond_false]
 rw [h2];rfl
theorem Qta {n:TNet}{m:List Bag}{o:Qk}{e:Qr}(he:idx n.Tasks o.Task=some e)(hc:e.Cancel=[])(hm:m.length≤4294967296)(hb:∀b∈m,b.length≤4294967296):QcD n m o=(QeE n o).bind fun g=>bif g.2 != 0 then some ([],g.2)else(QaN m g.1).bind fun r=>some (r.1,r.2):=by
 unfold QcD
 congr 1
 funext g
 cases g.2 != 0 with
 | true=>rfl
 | false=>
  simp only [cond_false]
  rw [Qov m hm hb,Option.bind_some,he,Option.bind_some,Qer]
  show((Qcr e 0 m).bind _).bind _=_
  unfold Qcr
  rw [hc,decide_eq_false (by simp)]
  rfl
theorem Qse {n:TNet}{m x:List Bag}{o:Qk}{e:Qr}(he:idx n.Tasks o.Task=some e)(hc:e.Cancel=[])(hm:m.length≤4294967296)(hb:∀b∈m,b.length≤4294967296):QcD n m o=some (x,0)↔∃g,QeE n o=some (g,0)∧QaN m g=some (x,0):=by
 rw [Qta he hc hm hb]
 constructor
 ·intro h
  obtain⟨g,hg,h⟩:=Qb h
  obtain⟨g1,g2⟩:=g
  rcases bifE h with⟨c,h⟩|⟨c,h⟩
  ·simp only [Option.some.injEq,Prod.mk.injEq]at h
   simp only [h.2]at c;cases c
  simp only [bne_eq_false_iff_eq]at c
  subst c
  obtain⟨z,hz,h⟩:=Qb h
  obtain⟨z1,z2⟩:=z
  simp only [Option.some.injEq,Prod.mk.injEq]at h
  obtain⟨rfl,rfl⟩:=h
  exact⟨g1,hg,hz⟩
 ·rintro ⟨g,hg,h⟩
  rw [hg,Option.bind_some]
  simp only [show((0:Int) != 0)=false from rfl,cond_false]
  rw [h];rfl
theorem QuM {n:TNet}{m more sum want x:List Bag}{o:Qk}{e:Qr}(h:QcY n)(hm:MOk n 1024 m)(ho:Qkz n o)(hD:Qbb n m o=some (x,0))(he:idx n.Tasks o.Task=some e)(hj:e.Join≠3)(hc:e.Cancel=[])
  (hs:sum.length=n.Places.length) (hw:want.length=n.Places.length) (hmo:MOk n 1024 more) (h1:Each QM m more sum) (h2:Each QM x more want):Qbb n sum o=some (want,0):=by
 have hpl:=h.pl
 have hx:=Qhb (t_Do n m o 1024 h hm (by omega) ho) hD rfl
 obtain⟨t,hT,hG⟩:=Qsd hD
 obtain⟨hCk,need,hN,hL⟩:=QqA hT
 have hnd:=(Qhb (Qsv n o h ho) hN rfl).1
 have ht:=Qhb (Qsc n m o 1024 h hm (by omega) ho) hT rfl
 have ht1:t.length=n.Places.length:=ht.1
 have hnd1:need.length=n.Places.length:=hnd.1
 obtain⟨g,hg,hS⟩:=(Qse he hc (by omega) (fun b hb=>by have:=(ht.2 b hb).2;omega)).1 hG
 have hgo:=(Qhb (Qsw n o h ho) hg rfl).1.1
 obtain⟨_,eL⟩:=(Qhb (Qph n m need 1024 20 h hm hnd (by omega)) hL).1 rfl
 obtain⟨_,eS⟩:=(Qhb (Qow n t g 1044 20 h ht hgo (by omega)) hS).1 rfl
 have sumP:∀(j:Nat),j<n.Places.length→∃a b s,m[j]? = some a∧more[j]? = some b∧sum[j]? = some s∧Rt a∧Rt b∧Rt s∧s.length≤2048∧∀k,cntL s k=cntL a k+cntL b k:=fun j hj=>by
  obtain⟨a,ha,ha1,ha2⟩:=Qj1 hm hj
  obtain⟨b,hb,hb1,hb2⟩:=Qj1 hmo hj
  obtain⟨s,hs1,hs2⟩:=h1 j a b ha hb
  have q:=Qqz (by omega) hs2
  have ql:s.length≤2048:=by
   rcases Qdy a b (by omega)with⟨_,e'⟩|⟨_,_,_,e'⟩|⟨_,_,r',e',_,_,h4⟩
   ·rw [hs2]at e';cases e'
   ·rw [hs2]at e';cases e'
   ·rw [hs2]at e';cases e';omega
  exact⟨a,b,s,ha,hb,hs1,ha1,hb1,q.2.2.1,ql,q.2.2.2⟩
 have hsum:MOk n 2048 sum:=⟨hs,fun b hb=>by
  obtain⟨j,hj,rfl⟩:=List.mem_iff_getElem.1 hb
  obtain⟨_,_,s,_,_,hs1,_,_,r1,r2,_⟩:=sumP j (by omega)
  rw [getq hj]at hs1;cases hs1;exact⟨r1,r2⟩⟩
 have wantP:∀(j:Nat),j<n.Places.length→∃b w y,x[j]? = some y∧more[j]? = some b∧want[j]? = some w∧Rt w∧∀k,cntL w k=cntL y k+cntL b k:=fun j hj=>by
  obtain⟨a,ha,ha1,ha2⟩:=Qj1 hx hj
  obtain⟨b,hb,hb1,hb2⟩:=Qj1 hmo hj
  obtain⟨s,hs1,hs2⟩:=h2 j a b ha hb
  have q:=Qqz (by omega) hs2
  exact⟨b,s,a,ha,hb,hs1,q.2.2.1,q.2.2.2⟩
 have hle:∀(j:Nat) a b,need[j]? = some a→sum[j]? = some b→Rt a∧Rt b∧∀k,cntL a k≤cntL b k:=fun j u s hu hs1=>by
  obtain⟨hj,u1,u2⟩:=Qk6 hnd hu
  obtain⟨a,b,s',ha,hb,hs2,ha1,hb1,r1,_,r3⟩:=sumP j hj
  rw [hs1]at hs2;cases hs2
  obtain⟨z,hz1,hz2⟩:=eL j a u ha hu
  have q:=Qq0 (by have:=(Qk6 hm ha).2.2;omega) hz2
  refine⟨u1,r1,fun k=>?_⟩
  have:=q.2.2.2.1 k
  have:=hb1.cnt k
  rw [r3 k];omega
 have hwi:=QtR need sum (hnd.len h (by omega)) (hsum.len h (by omega)) (by omega) hle
 have hCk2:=Qs9 hCk he hj hN hwi
 obtain⟨⟨t',c'⟩,hj1,hj2,hj3⟩:=Qph n sum need 2048 20 h hsum hnd (by omega)
 have hc0:c'=0:=hj3 fun j s u hs1 hu=>by
  have q:=hle j u s hu hs1
  exact Quk (by have:=(Qk6 hsum hs1).2.2;have:=(Qk6 hnd hu).2.2;omega) q.2.1 q.1 q.2.2
 subst hc0
 obtain⟨tl,eL2⟩:=hj2 rfl
 have hT2:=QuL hCk2 hN hj1
 have ht2:=Qhb (Qsc n sum o 2048 h hsum (by omega) ho) hT2 rfl
 have ht21:t'.length=n.Places.length:=ht2.1
 have key:∀(j:Nat),j<n.Places.length→∃p q r w,t'[j]? = some p∧g[j]? = some q∧want[j]? = some w∧QM p q=some (w,0):=fun j hj=>by
  obtain⟨a,b,s,ha,hb,hs2,ha1,hb1,r1,r2,r3⟩:=sumP j hj
  obtain⟨u,hu,u1,u2⟩:=Qj1 hnd hj
  obtain⟨p,hp,hp2⟩:=eL2 j s u hs2 hu
  have P:=Qq0 (by omega) hp2
  obtain⟨q,hq,q1,q2⟩:=Qj1 hgo hj
  obtain⟨p0,hp0,p01,p02⟩:=Qj1 ht hj
  obtain⟨z,hz1,hz2⟩:=eL j a u ha hu
  rw [hp0]at hz1;cases hz1
  have Z:=Qq0 (by have:=(Qk6 hm ha).2.2;omega) hz2
  obtain⟨y,hy1,hy2⟩:=eS j p0 q hp0 hq
  have Y:=Qqz (by omega) hy2
  obtain⟨b',w,y',hy',hb',hw1,w1,w2⟩:=wantP j hj
  rw [hb]at hb';cases hb'
  rw [hy1]at hy';cases hy'
  have hcnt:∀k,cntL p k+cntL q k=cntL w k:=fun k=>by
   have e1:=P.2.2.2.2 k
   have e2:=r3 k
   have e3:=Z.2.2.2.2 k
   have e4:=Y.2.2.2 k
   have e5:=w2 k
   omega
  have pl:=(Qk6 ht2 hp).2.2
  obtain⟨r,hr⟩:=QuK (a:=p) (b:=q) (by omega) P.2.2.1 q1 (fun k=>by rw [hcnt];exact(w1.cnt k).2)
  have R:=Qqz (by omega) hr
  have:r=w:=Qu6 R.2.2.1 w1 fun k=>by rw [R.2.2.2 k,hcnt]
  subst this
  exact⟨p,q,s,r,hp,hq,hw1,hr⟩
 obtain⟨⟨y,c2⟩,k1,k2,k3⟩:=Qow n t' g 2068 20 h ht2 hgo (by omega)
 have hc0:c2=0:=k3 fun j p q hp hq=>by
  obtain⟨p',q',_,w,hp',hq',_,hr⟩:=key j (Qk6 ht2 hp).1
  rw [hp]at hp';cases hp'
  rw [hq]at hq';cases hq'
  exact⟨w,hr⟩
 subst hc0
 obtain⟨yl,eY⟩:=k2 rfl
 have hy:y=want:=by
  apply List.ext_getElem?
  intro j
  by_cases hj:j<n.Places.length
  ·obtain⟨p,q,_,w,hp,hq,hw1,hr⟩:=key j hj
   obtain⟨z,hz1,hz2⟩:=eY j p q hp hq
   rw [hr]at hz2;cases hz2
   rw [hz1,hw1]
  ·have yl:y.length=n.Places.length:=yl
   rw [List.getElem?_eq_none (by omega),List.getElem?_eq_none (by omega)]
 subst hy
 exact Qvs hT2 ((Qse he hc (by omega) (fun b hb=>by have:=(ht2.2 b hb).2;omega)).2 ⟨g,hg,k1⟩)
end Go.Proofs
