/- A part of the proof; what it holds is told at each theorem. -/
import Derived.Test.YtpijolohkdchcaaGreatDoorFiM
import Derived.Test.YtpijolohkdchcaaGreatDoorFiS
set_option linter.unusedVariables false
set_option linter.unusedSimpArgs false
set_option linter.unusedSectionVars false
set_option linter.deprecated false
noncomputable section
namespace Go.Proofs
open Go Go.RowKit Go.Vm
theorem QnL {n:TNet}{c:Nat}{m:List Bag}(h:QaZ n)(hm:MOk n c m)(hc:c≤1000000)(hl:Low n m):QbT n m=some true:=by
 have hpl:=h.pl
 have hm1:=hm.1
 unfold QbT
 rw [show((m.length:Int) != (n.Places.length:Int))=false by simp;omega,cond_false]
 obtain⟨r,h1,h2⟩:=(TotP.up (body:=fun st=>QbE m n st) m.length (fun st=>st) (fun _=>True) (Q:=fun q:Unit⊕Unit=>q=.inr ()) (s0:=(0:Int)) rfl trivial (fun i st hi hn hJ=>by
  show TotP (QbE m n st) _
  unfold QbE
  refine TotP.bif (fun hc=>?_) (fun _=>TotP.ok (Qm rfl))
  simp only [decide_eq_true_eq]at hc
  have i1:i<m.length:=by omega
  have i2:i<n.Places.length:=by omega
  rw [hi,Qbu,getq i1,Option.bind_some,Qbu,getq i2,Option.bind_some]
  refine TotP.bind (QfV n.Colours (n.Places[i]).Colour h.k.1).self fun sz hsz=>?_
  have hb:=hm.2 _ (List.getElem_mem i1)
  have hbl:=hb.2
  refine TotP.bind (P:=fun r=>r=false) ?_ fun x hx=>?_
  ·unfold QhN
   rw [Qkj _ (by unfold maxLen;omega),Option.bind_some,QdL.2 hb.1]
   simp only [Bool.not_true,cond_false]
   refine TotP.bif (fun h0=>?_) (fun _=>TotP.ok rfl)
   simp only [decide_eq_true_eq]at h0
   have hlt:(m[i]).length-1<(m[i]).length:=by omega
   rw [QdK (by omega),show((m[i]).length:Int)-1=(((m[i]).length-1:Nat):Int) by omega,Qbu,getq hlt,Option.bind_some]
   refine TotP.ok ?_
   have hcn:=Qjv hb.1.1.nd (List.getElem_mem hlt)
   have hpos:=hb.1.2 _ (List.getElem_mem hlt)
   obtain⟨z,hz1,hz2⟩:=hl i _ _ (getq i1) (getq i2) _ (by rw [hcn];omega)
   rw [hsz.1]at hz1
   cases hz1
   exact decide_eq_false (by omega)
  ·subst hx
   unfold Qd0
   exact TotP.ok (Qz ⟨i1,Qv i1 (by unfold maxLen;omega),trivial⟩)))
 rw [h1,h2];rfl
def sumV : Bag→Int
 | []=>0
 | p::l=>p.2+sumV l
theorem Quc {l m:Bag}(h:l.Perm m):sumV l=sumV m:=by
 induction h with
 | nil=>rfl
 | cons p _ ih=>simp only [sumV,ih]
 | swap p q l=>simp only [sumV];omega
 | trans _ _ ih1 ih2=>rw [ih1,ih2]
theorem Qsx (b:Bag)(hr:Rt b)(h:b.length≤maxLen):QiW b=some (w64 (sumV b)):=by
 unfold QiW
 rw [Qmr b h,QdL.2 hr]
 show QgJ b=_
 unfold QgJ
 have run:∀(l:Bag) (s:Int),runL (fun st (p:Int×Int)=>QcJ st p.1 p.2) (w64 s) l=some (.inl (w64 (s+sumV l))):=by
  intro l
  induction l with
  | nil=>intro s;simp [runL,sumV]
  | cons p l ih=>
   intro s
   simp only [runL]
   rw [show QcJ (w64 s) p.1 p.2=some (.inl (w64 (s+p.2)))from by unfold QcJ;rw [QmT]]
   simp only [Option.bind_some,Sum.elim_inl]
   rw [ih,sumV,Int.add_assoc]
 have h0:Qg9 (fun st (p:Int×Int)=>QcJ st p.1 p.2) (0:Int) b=some (.inl (w64 (sumV b))):=by
  have e0:(0:Int)=w64 0:=by decide
  rw [e0]
  refine Qii.2 ⟨fun l' hp=>?_,by rw [run];simp⟩
  rw [run,run,Quc hp]
 rw [h0];rfl
def cS (f:Int→Int):Nat→Int
 | 0=>0
 | K+1=>cS f K+f K
theorem QvC {f g r:Int→Int}(h:∀k,r k=f k+g k)(K:Nat):cS r K=cS f K+cS g K:=by
 induction K with
 | zero=>rfl
 | succ K ih=>simp only [cS,ih,h];omega
theorem QuK {f g:Int→Int}{K:Nat}(h:∀k:Nat,k<K→f k=g k):cS f K=cS g K:=by
 induction K with
 | zero=>rfl
 | succ K ih=>simp only [cS];rw [ih fun k hk=>h k (by omega),h K (by omega)]
theorem QvD {f:Int→Int}{a v:Int}(ha:0≤a)(hf:f a=0){K:Nat}(hK:a<K):cS (fun k=>if a=k then v else f k) K=cS f K+v:=by
 induction K with
 | zero=>omega
 | succ K ih=>
  simp only [cS]
  by_cases c:a=K
  ·subst c
   rw [if_pos rfl,hf,QuK (g:=f) fun k hk=>by rw [if_neg (by omega)]]
   omega
  ·rw [if_neg c,ih (by omega)];omega
theorem Qve (K:Nat):cS (fun _=>0) K=0:=by
 induction K with
 | zero=>rfl
 | succ K ih=>simp only [cS,ih];rfl
theorem Qrk {l:Bag}(hn:Qkg l){K:Nat}(h:∀p∈l,0≤p.1∧p.1<K):sumV l=cS (cntL l) K:=by
 induction l with
 | nil=>exact(Qve K).symm
 | cons p l ih=>
  obtain⟨h1,h2⟩:=Qrc.1 hn
  have hp:=h p List.mem_cons_self
  have e:cntL (p::l)=fun k=>if p.1=k then p.2 else cntL l k:=by
   funext k
   obtain⟨a,x⟩:=p
   unfold cntL
   rw [QX]
   by_cases c:a=k
   ·rw [if_pos c,if_pos c];rfl
   ·rw [if_neg c,if_neg c]
  rw [e,QvD hp.1 (by unfold cntL;rw [Qo1.2 fun q hq=>Ne.symm (h1 q hq)];rfl) hp.2,sumV,ih h2 fun q hq=>h q (List.mem_cons_of_mem _ hq)]
  omega
theorem Qrl (l:Bag):∃K:Nat,∀p∈l,p.1<K:=by
 induction l with
 | nil=>exact⟨0,fun p h=>by cases h⟩
 | cons p l ih=>
  obtain⟨K,hK⟩:=ih
  refine⟨K+p.1.toNat+1,fun q hq=>?_⟩
  rcases List.mem_cons.1 hq with rfl | hq
  ·omega
  ·have:=hK q hq;omega
theorem QuL {a b r:Bag}(ha:Rt a)(hb:Rt b)(hr:Rt r)(h:∀k,cntL r k=cntL a k+cntL b k):sumV r=sumV a+sumV b:=by
 obtain⟨K1,h1⟩:=Qrl a
 obtain⟨K2,h2⟩:=Qrl b
 obtain⟨K3,h3⟩:=Qrl r
 rw [Qrk ha.1.nd (K:=K1+K2+K3) fun p hp=>⟨(ha.2 p hp).1,by have:=h1 p hp;omega⟩,Qrk hb.1.nd (K:=K1+K2+K3) fun p hp=>⟨(hb.2 p hp).1,by have:=h2 p hp;omega⟩,Qrk hr.1.nd (K:=K1+K2+K3) fun p hp=>⟨(hr.2 p hp).1,by have:=h3 p hp;omega⟩]
 exact QvC h _
def tS (m:List Bag):Nat→Int
 | 0=>0
 | i+1=>tS m i+sumV (m.getD i [])
theorem Qld {n:TNet}{c:Nat}{m:List Bag}(h:QaZ n)(hm:MOk n c m)(hc:c≤1000000):Qcn m=some (w64 (tS m m.length)):=by
 have hpl:=h.pl
 have hm1:=hm.1
 unfold Qcn
 obtain⟨r,h1,h2⟩:=(TotP.up (body:=fun st=>Qc0 m st.1 st.2) m.length (fun st=>st.2) (fun st=>st.1=w64 (tS m st.2.toNat)) (Q:=fun q=>q=w64 (tS m m.length)) (s0:=((0:Int),(0:Int))) rfl (by show(0:Int)=w64 0;decide) (fun i st hi hn hJ=>by
  obtain⟨a,x⟩:=st
  replace hi:x=(i:Int):=hi
  replace hJ:a=w64 (tS m x.toNat):=hJ
  subst hi
  show TotP (Qc0 m a i) _
  unfold Qc0
  refine TotP.bif (fun hc=>?_) (fun hc=>TotP.ok (Qm ?_))
  ·simp only [decide_eq_true_eq]at hc
   have i1:i<m.length:=by omega
   have hb:=hm.2 _ (List.getElem_mem i1)
   rw [Qbu,getq i1,Option.bind_some,Qsx _ hb.1 (by have:=hb.2;unfold maxLen;omega),Option.bind_some]
   have hw:w64 ((i:Int)+1)=((i+1:Nat):Int):=Qv i1 (by unfold maxLen;omega)
   refine TotP.ok (Qz ⟨i1,hw,?_⟩)
   show w64 (a+w64 (sumV m[i]))=w64 (tS m (w64 ((i:Int)+1)).toNat)
   rw [hw,hJ,QmT,Int.add_comm,QmT,Int.toNat_natCast,Int.toNat_natCast,tS,List.getD_eq_getElem?_getD,getq i1,Int.add_comm];rfl
  ·simp only [decide_eq_false_iff_not]at hc
   rw [hJ,show(i:Int).toNat=m.length by omega]))
 rw [h1,h2];rfl
theorem QvE {m t u:List Bag}(K:Nat)(h:∀j,j<K→sumV (m.getD j [])=sumV (t.getD j [])+sumV (u.getD j [])):tS m K=tS t K+tS u K:=by
 induction K with
 | zero=>rfl
 | succ K ih=>simp only [tS];rw [ih fun j hj=>h j (by omega),h K (by omega)];omega
theorem QuM (n:TNet)(m:List Bag)(o:Qk)(c:Nat)(h:QaZ n)(hm:MOk n c m)(hl:Low n m)(hc:c≤900000)(ho:QbV n o):TotP (Qew n m o) fun r=>r.2=0→Low n r.1:=by
 have hpl:=h.pl
 have hm1:=hm.1
 unfold Qew
 refine TotP.bind (QsQ n o h ho) fun y hy=>?_
 refine TotP.bif (fun hc=>TotP.ok fun h=>absurd h (by simpa using hc)) fun hc2=>?_
 obtain⟨⟨hy,hyl⟩,h1,h2⟩:=hy (by simpa using hc2)
 rw [Ql6 m (by omega) (fun b hb=>by have:=(hm.2 b hb).2;omega),Option.bind_some]
 refine TotP.bind (TotP.idx h1 h2) fun e he=>?_
 have hcl:=(h.tk e he).2.2.2
 refine TotP.bind (TotP.up e.Cancel.length (fun st=>st.1) (fun st=>MOk n c st.2∧Low n st.2) (Q:=fun q=>MOk n c q∧Low n q) rfl ⟨hm,hl⟩ (fun i st hi hn hJ=>?_)) (fun q hq=>?_)
 ·obtain⟨x,l⟩:=st
  replace hi:x=(i:Int):=hi
  replace hJ:MOk n c l∧Low n l:=hJ
  show TotP (QcC e x l) _
  unfold QcC
  refine TotP.bif (fun hc=>?_) (fun _=>TotP.ok (Qm hJ))
  simp only [decide_eq_true_eq]at hc
  refine TotP.bind (TotP.idx (by omega) (by omega)) fun k _=>?_
  have next:∀l,MOk n c l∧Low n l→TotP (QcB x l) fun o=>(∀s',o=.inl s'→i<e.Cancel.length∧s'.1=((i+1:Nat):Int)∧MOk n c s'.2∧Low n s'.2)∧∀r:List (List (Int×Int)),o=.inr r→MOk n c r∧Low n r:=fun l hl=>by
   unfold QcB
   exact TotP.ok (Qz (ix:=fun st:Int×List (List (Int×Int))=>st.1) (J:=fun st:Int×List (List (Int×Int))=>MOk n c st.2∧Low n st.2) ⟨by omega,by subst hi;exact Qv (by omega) (by unfold maxLen;omega:e.Cancel.length≤maxLen),hl⟩)
  refine TotP.bif (fun hc3=>?_) fun _=>next l hJ
  simp only [Bool.and_eq_true,decide_eq_true_eq]at hc3
  refine TotP.bind (TotP.idx hc3.1 hc3.2) fun _ _=>?_
  refine next _ ⟨⟨by simpa using hJ.1.1,fun b hb=>?_⟩,fun j b p hb hp k' hk=>?_⟩
  ·rcases Qlu hb with rfl | hb
   ·exact⟨Rt.nil,by simp⟩
   ·exact hJ.1.2 b hb
  ·by_cases cj:k.toNat=j
   ·subst cj
    rw [List.getElem?_set_self (by omega)]at hb
    cases hb
    simp [cntL,mget]at hk
   ·rw [List.getElem?_set_ne cj]at hb
    exact hJ.2 j b p hb hp k' hk
 ·show TotP (Qds y q) _
  unfold Qds
  refine TotP.bind (QoS n q y.1 c 20 h hq.1 hy (by omega)) fun z hz=>TotP.ok fun hz0=>?_
  obtain⟨zl,ze⟩:=hz.1 hz0
  intro j b p hb hp k hk
  have hj:j<n.Places.length:=(List.getElem?_eq_some_iff.1 hp).1
  obtain⟨u,hu,hu1,hu2⟩:=QrV hq.1 hj
  obtain⟨v,hv,hv1,hv2⟩:=QrV hy hj
  obtain⟨s,hs1,hs2⟩:=ze j u v hu hv
  have hs1:z.1[j]? = some s:=hs1
  have hb:z.1[j]? = some b:=hb
  rw [hb]at hs1;cases hs1
  have q:=(Qub (by omega) hs2).2.2.2 k
  by_cases c0:0<cntL u k
  ·exact hq.2 j u p hu hp k c0
  ·exact hyl j v p hv hp k (by omega)
theorem Qud {n:TNet}{m x:List Bag}{o:Qk}{c:Nat}(h:QaZ n)(hm:MOk n c m)(hl:Low n m)(hc:c≤100000)(ho:QbV n o)(hD:QbO n m o=some (x,0)):
  ∃t need,Qck n m o=some (t,0)∧Qf3 n t o=some (m,0)∧QcT n o=some (need,0)∧QbT n t=some true∧QbT n x=some true∧Low n x∧
   ∃a b d,Qcn t=some a∧Qcn need=some b∧Qcn m=some d∧w64 (a+b)=d:=by
 have hpl:=h.pl
 have hm1:=hm.1
 have hx:=Qjw (t_Do n m o c h hm (by omega) ho) hD rfl
 obtain⟨t,hT,hG⟩:=QuJ hD
 obtain⟨hCk,need,hN,hL⟩:=Qtv hT
 obtain⟨hnd,hndl⟩:=Qjw (QsP n o h ho) hN rfl
 have ht:=Qjw (Qt9 n m o c h hm (by omega) ho) hT rfl
 have ht1:t.length=n.Places.length:=ht.1
 have hnd1:need.length=n.Places.length:=hnd.1
 obtain⟨_,eL⟩:=(Qjw (QsL n m need c 20 h hm hnd (by omega)) hL).1 rfl
 have parts:∀(j:Nat),j<n.Places.length→∃a u p,m[j]? = some a∧need[j]? = some u∧t[j]? = some p∧Rt a∧Rt u∧Rt p∧(∀k,cntL p k=cntL a k-cntL u k)∧∀k,cntL u k≤cntL a k:=fun j hj=>by
  obtain⟨a,ha,ha1,ha2⟩:=QrV hm hj
  obtain⟨u,hu,hu1,hu2⟩:=QrV hnd hj
  obtain⟨p,hp,hp2⟩:=eL j a u ha hu
  have q:=Qvd (by omega) hp2
  exact⟨a,u,p,ha,hu,hp,ha1,hu1,q.2.2.1,q.2.2.2.2,q.2.2.2.1⟩
 have htl:Low n t:=fun j b p hb hp k hk=>by
  obtain⟨a,u,p',ha,hu,hp',_,hu1,_,e1,_⟩:=parts j (List.getElem?_eq_some_iff.1 hp).1
  have hb:t[j]? = some b:=hb
  rw [hb]at hp';cases hp'
  have:=hu1.cnt k
  have:=e1 k
  exact hl j a p ha hp k (by omega)
 have hxl:Low n x:=Qjw (QuM n t o (c+20) h ht htl (by omega) ho) hG rfl
 obtain⟨⟨y,c2⟩,k1,k2,k3⟩:=QoS n t need (c+20) 20 h ht hnd (by omega)
 have hc0:c2=0:=k3 fun j p u hp hu=>by
  obtain⟨a,u',p',ha,hu',hp',a1,u1,p1,e1,e2⟩:=parts j (QqS ht hp).1
  have hp:t[j]? = some p:=hp
  have hu:need[j]? = some u:=hu
  rw [hp]at hp';cases hp'
  rw [hu]at hu';cases hu'
  have l1:=(QqS ht hp).2.2
  have l2:=(QqS hnd hu).2.2
  exact Qvc (by omega) p1 u1 fun k=>by have:=e1 k;have:=a1.cnt k;omega
 subst hc0
 obtain⟨yl,eY⟩:=k2 rfl
 have yl:y.length=n.Places.length:=yl
 have hy:y=m:=by
  apply List.ext_getElem?
  intro j
  by_cases hj:j<n.Places.length
  ·obtain⟨a,u,p,ha,hu,hp,a1,u1,p1,e1,e2⟩:=parts j hj
   obtain⟨z,hz1,hz2⟩:=eY j p u hp hu
   have l1:=(QqS ht hp).2.2
   have l2:=(QqS hnd hu).2.2
   have q:=Qub (by omega) hz2
   have:z=a:=Qvx q.2.2.1 a1 fun k=>by rw [q.2.2.2 k,e1 k];omega
   subst this
   have hz1:y[j]? = some z:=hz1
   rw [hz1,ha]
  ·rw [List.getElem?_eq_none (by omega),List.getElem?_eq_none (by omega)]
 subst hy
 have hB:Qf3 n t o=some (y,0):=by
  unfold Qf3
  rw [hN,Option.bind_some]
  simp only [show((0:Int) != 0)=false from rfl,cond_false]
  rw [k1];rfl
 refine⟨t,need,hT,hB,hN,QnL h ht (by omega) htl,QnL h hx (by omega) hxl,hxl,_,_,_,Qld h ht (by omega),Qld h hnd (by omega),Qld h hm (by omega),?_⟩
 rw [QmT,Int.add_comm,QmT,Int.add_comm,ht1,hnd1,hm1]
 rw [QvE (m:=y) (t:=t) (u:=need) n.Places.length fun j hj=>?_]
 obtain⟨a,u,p,ha,hu,hp,a1,u1,p1,e1,e2⟩:=parts j hj
 simp only [List.getD_eq_getElem?_getD,ha,hu,hp,Option.getD_some]
 exact QuL p1 u1 a1 fun k=>by have:=e1 k;omega
theorem Qtw (n:TNet)(m:List Bag)(picks:List Int)(hn:QH n)(hm0:lenL (lenL fun _=>True) m):Qc7 n m picks=some true:=by
 unfold Qc7
 rw [Qtu,Option.bind_some]
 obtain⟨f,hf,hf2⟩:=Qvy n m hn hm0
 rw [hf,Option.bind_some]
 cases hc:((!f)||decide (8<(picks.length:Int)))with
 | true=>rfl
 | false=>
  simp only [cond_false]
  simp only [Bool.or_eq_false_iff,Bool.not_eq_false',decide_eq_false_iff_not]at hc
  obtain⟨h,hm,hlow⟩:=hf2 hc.1
  obtain⟨l,hl,hl1,hl2,x,hx⟩:=Qvb n m picks h hm (by omega)
  rw [hl,Option.bind_some]
  obtain⟨q,hq1,hq2⟩:=(TotP.up (body:=fun st=>Qbl l n st.1 st.2) l.length (fun st=>st.2)
   (fun st=>Qct n st.1 (l.drop st.2.toNat)=some x∧MOk n (1024+40*st.2.toNat) st.1∧Low n st.1)
   (Q:=fun q:Unit⊕List Bag=>∃m',q=.inr m'∧MOk n 2000 m')
   (s0:=(m,(0:Int))) rfl ⟨by show Qct n m (l.drop 0)=some x;rw [List.drop_zero];exact hx,hm,hlow⟩ (fun i st hi hn2 hJ=>by
    obtain⟨a,k⟩:=st
    replace hi:k=(i:Int):=hi
    subst hi
    obtain⟨j1,j2,j3⟩:Qct n a (l.drop (i:Int).toNat)=some x∧MOk n (1024+40*(i:Int).toNat) a∧Low n a:=hJ
    rw [Int.toNat_natCast]at j1 j2
    show TotP (Qbl l n a i) _
    unfold Qbl
    refine TotP.bif (fun hc=>?_) (fun _=>TotP.ok (Qm ⟨a,rfl,j2.mono (by omega)⟩))
    simp only [decide_eq_true_eq]at hc
    have i1:i<l.length:=by omega
    rw [List.drop_eq_getElem_cons i1]at j1
    obtain⟨y,hy1,hy2⟩:=QnE j1
    have ho:=hl2 _ (List.getElem_mem i1)
    obtain⟨t,need,hT,hB,hN,hR1,hR2,hxl,A,B,D,t1,t2,t3,te⟩:=Qud h j2 j3 (by omega) ho hy1
    have hyM:=Qjw (t_Do n a l[i] _ h j2 (by omega) ho) hy1 rfl
    simp only [Qbu,getq i1,Option.bind_some,hT,hB,hy1,hN]
    have g1:Qeq (t,0) (a,0) (y,0) (need,0) n a=some false:=by
     unfold Qeq
     simp only [show((0:Int) != 0)=false from rfl,cond_false,hR1,hR2,Option.bind_some,Bool.not_true,Qm2 h j2 (by omega),t1,t2,t3,te]
     simp
    rw [g1,Option.bind_some]
    have hw:w64 ((i:Int)+1)=((i+1:Nat):Int):=Qv i1 (by unfold maxLen;omega)
    unfold Qc1
    rw [cond_false]
    refine TotP.ok (Qz ⟨i1,hw,?_,?_,hxl⟩)
    ·show Qct n y (l.drop (w64 ((i:Int)+1)).toNat)=some x
     rw [hw,Int.toNat_natCast];exact hy2
    ·show MOk n (1024+40*(w64 ((i:Int)+1)).toNat) y
     rw [hw,Int.toNat_natCast]
     exact hyM.mono (by omega)))
  obtain⟨m',rfl,hm'⟩:=hq2
  rw [hq1,Option.bind_some]
  show Qc2 n true l picks m'=some true
  unfold Qc2
  rw [QvB h hm' (by omega) (by simp) (show Qct n m' []=some m' from rfl),Option.bind_some]
  unfold Qg5
  simp only [cond_true,show((([]:List Qk).length:Int)==0)=true from rfl,Qm2 h hm' (by omega),Option.bind_some,decide_eq_true (show(l.length:Int)≤(picks.length:Int) by omega)]
  rfl
end Go.Proofs
