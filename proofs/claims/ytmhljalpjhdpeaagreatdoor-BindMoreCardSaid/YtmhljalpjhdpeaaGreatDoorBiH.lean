/- A part of the proof; what it holds is told at each theorem. -/
import Derived.Test.YtmhljalpjhdpeaaGreatDoorBiE
import Derived.Test.YtmhljalpjhdpeaaGreatDoorBiS
import Derived.Test.YtmhljalpjhdpeaaGreatDoorFiL
set_option linter.unusedVariables false
set_option linter.unusedSimpArgs false
set_option linter.unusedSectionVars false
set_option linter.deprecated false
noncomputable section
namespace Go.Proofs
open Go Go.RowKit Go.Vm
theorem Qsd (a m:List Bag)(ha:lenL (lenL fun _=>True) a)(hm:lenL (lenL fun _=>True) m):TotP (QaM a m) fun r=>r=true→a.length=m.length∧∀(j:Nat) x y,a[j]? = some x→m[j]? = some y→Rt x∧Rt y∧∀k,cntL x k≤cntL y k:=by
 unfold QaM
 refine TotP.bind (P:=fun r=>r=true→a.length=m.length∧∀(j:Nat) x y,a[j]? = some x→m[j]? = some y→Rt x∧Rt y∧∀k,cntL x k≤cntL y k) ?_ fun r hr=>TotP.ok hr
 unfold QE
 refine TotP.bif (fun _=>TotP.ok fun h=>by cases h) fun hc=>?_
 simp only [bne_eq_false_iff_eq]at hc
 have hl:a.length=m.length:=by omega
 refine TotP.bind (TotP.up a.length (fun st=>st) (fun st=>∀(j:Nat) x y,(j:Int)<st→a[j]? = some x→m[j]? = some y→Rt x∧Rt y∧∀k,cntL x k≤cntL y k) (Q:=fun q:Unit⊕Unit=>q=.inr ()→∀(j:Nat) x y,a[j]? = some x→m[j]? = some y→Rt x∧Rt y∧∀k,cntL x k≤cntL y k) rfl (fun j x y hj=>by omega) (fun i st hi hn hJ=>?_)) (fun q hq=>?_)
 ·replace hi:st=(i:Int):=hi
  subst hi
  show TotP (Qo a m i) _
  unfold Qo
  refine TotP.bif (fun hc=>?_) (fun hc=>TotP.ok (Qn fun _ j x y hx hy=>?_))
  ·simp only [decide_eq_true_eq]at hc
   have i1:i<a.length:=by omega
   have i2:i<m.length:=by omega
   rw [QaW,getq i1,Option.bind_some,QaW,getq i2,Option.bind_some]
   obtain⟨r,hr,hr2⟩:=Qjp a[i] m[i] (ha.2 _ (List.getElem_mem i1)).1 (hm.2 _ (List.getElem_mem i2)).1
   rw [hr,Option.bind_some]
   refine TotP.bif (fun _=>TotP.ok (Qn fun e=>by cases e)) fun hc2=>?_
   have hr3:=hr2.1 (by simpa using hc2)
   have hw:w64 ((i:Int)+1)=((i+1:Nat):Int):=Qz i1 ha.1
   refine TotP.ok (QC ⟨i1,hw,fun j x y hj hx hy=>?_⟩)
   replace hj:(j:Int)<w64 ((i:Int)+1):=hj
   rw [hw]at hj
   by_cases cj:j=i
   ·subst cj
    rw [getq i1]at hx;rw [getq i2]at hy
    cases hx;cases hy
    exact hr3
   ·exact hJ j x y (by show(j:Int)<i;omega) hx hy
  ·simp only [decide_eq_false_iff_not]at hc
   exact hJ j x y (by show(j:Int)<i;have:=(List.getElem?_eq_some_iff.1 hx).1;omega) hx hy
 ·rcases q with q | q
  ·exact TotP.ok fun h=>by cases h
  ·exact TotP.ok fun _=>⟨hl,hq rfl⟩
theorem Qse (n:TNet)(m:List Bag)(b:Qw)(ins:List Int)(need:List Bag)(h:QcN n)(hb:BOk n m b)(hm:lenL (lenL fun _=>True) m)(hi:ins.length≤100)
  (ht:Qcc n b.task.Ins ins b.env=some (need,0)) (hw:QaM need m=some true):TotP (QF b ins) fun r=>r=0∨r=11:=by
 have ki:=(h.k.2.2.1.2 _ hb.task).2.2.2.2.2.1
 have kl:=(h.tk _ hb.task).2.1
 unfold QF
 rw [hb.net,hb.mm,ht,Option.bind_some]
 simp only [show((0:Int) != 0)=false from rfl,cond_false]
 rw [hw,Option.bind_some]
 simp only [Bool.not_true,cond_false]
 refine TotP.bif (fun _=>TotP.ok (.inl rfl)) fun _=>?_
 refine TotP.bind (TotP.up b.task.Ins.length (fun st=>st) (fun _=>True) (Q:=fun _=>True) rfl trivial (fun i st hi hn _=>?_)) (fun q _=>?_)
 ·show TotP (QaB b ins st) _
  unfold QaB
  refine TotP.bif (fun hc=>?_) (fun _=>TotP.ok (Qn trivial))
  simp only [decide_eq_true_eq]at hc
  have step:TotP (Qbq st) fun o=>(∀s',o=.inl s'→i<b.task.Ins.length∧s'=((i+1:Nat):Int)∧True)∧∀r:Unit⊕Unit,o=.inr r→True:=
   TotP.ok (QC (ix:=fun st=>st) (J:=fun _=>True) (Q:=fun _=>True) ⟨by omega,by rw [hi];exact Qz (by omega) ki.1,trivial⟩)
  refine TotP.bind (QpJ ins st (by unfold maxLen;omega)) fun z _=>?_
  refine TotP.bif (fun _=>step) fun _=>?_
  rw [QiK ins (by omega),Option.bind_some]
  refine TotP.bind (TotP.chk (by simp;omega)) fun _ _=>?_
  rw [Qq6 _ (by simp;omega),Option.bind_some]
  refine TotP.bind (TotP.chk (by simp [Qe5])) fun _ _=>?_
  rw [hb.net]
  refine TotP.bind (Qk3 n _ _ _ h ki (by rw [Qe5];simp;omega)) fun u hu=>?_
  refine TotP.bind (P:=fun _=>True) ?_ fun v _=>?_
  ·unfold Qde
   rw [hb.mm]
   refine TotP.bif (fun hc2=>?_) fun _=>TotP.okT
   have hu:=hu (by simpa using hc2)
   refine TotP.bind (Qo4 _ _ (hu.1.len h (by rw [Qe5];simp;omega)) hm) fun _ _=>TotP.okT
  ·unfold Qbr
   exact TotP.bif (fun _=>TotP.ok (Qn trivial)) fun _=>step
 ·rcases q with q | q
  ·exact TotP.ok (.inr rfl)
  ·exact TotP.ok (.inl rfl)
theorem Qsf {n:TNet}{m m':List Bag}{o:Qm}(h:QcN n)(hm:lenL (lenL fun _=>True) m)(hm':lenL (lenL fun _=>True) m')(ho:QpK n o)(hl:m'.length=m.length)(hc:Qbl n m o=some 0)
  (hmo:∀(j:Nat) x y,m[j]? = some x→m'[j]? = some y→Rt x→Rt y∧∀k,cntL x k≤cntL y k):∃e c,idx n.Tasks o.Task=some e∧Qbl n m' o=some c∧(c=0∨c=11)∧(e.Join≠3→c=0):=by
 obtain⟨_,e,he,_,hci,hco,b,hb,hg,ht,hv⟩:=QjX.1 ((Qqj h hm ho).1 hc)
 obtain⟨k1,k2,k3,k4,_,k5⟩:=Qmu h hb
 rw [he]at k1;cases k1
 have hbo:BOk n m b:=⟨k3,k4,k2⟩
 have kl:=(h.tk _ k2).2.1
 have ki:=(h.k.2.2.1.2 _ k2).2.2.2.2.2.1
 have ho2:=ho.2.1
 obtain⟨⟨need,c0⟩,htk,htk2⟩:=Qk3 n b.task.Ins o.Ins b.env h ki (by omega)
 have htk0:c0=0∧QaM need m=some true:=by
  unfold QF at ht
  rw [k3,k4,htk,Option.bind_some]at ht
  rcases bifE ht with⟨c,ht⟩|⟨c,ht⟩
  ·simp only [Option.some.injEq]at ht;simp [ht]at c
  ·simp only [bne_eq_false_iff_eq]at c
   refine⟨c,?_⟩
   obtain⟨w,hw,ht⟩:=Qb ht
   rcases bifE ht with⟨c,ht⟩|⟨c,ht⟩
   ·cases ht
   ·rw [hw];simpa using c
 obtain⟨rfl,hwi⟩:=htk0
 have hnd:=(htk2 rfl).1
 have hndl:=hnd.len h (by omega)
 obtain⟨wl,wi⟩:=Qp5 (Qsd need m hndl hm) hwi rfl
 have hwi':QaM need m'=some true:=QsX need m' hndl hm' (by omega) fun j x y hx hy=>by
  have hj:=(List.getElem?_eq_some_iff.1 hx).1
  obtain⟨r1,r2,r3⟩:=wi j x _ hx (getq (show j<m.length by omega))
  obtain⟨s1,s2⟩:=hmo j _ y (getq (show j<m.length by omega)) hy r2
  exact⟨r1,s1,fun k=>by have:=r3 k;have:=s2 k;omega⟩
 have hb':QaD n m' o.Task o.Vars=some (0,Qw.mk n m' b.task b.env):=by
  unfold QaD
  rw [k5,Option.bind_some]
  simp only [show((0:Int) != 0)=false from rfl,cond_false]
  rw [he,Option.bind_some]
 have hg':QM (Qw.mk n m' b.task b.env)=some 0:=hg
 have hv':QR (Qw.mk n m' b.task b.env) o.Outs=some 0:=by
  unfold QR at hv ⊢
  rwa [k3]at hv
 obtain⟨z,hz,hz2⟩:=Qse n m' (Qw.mk n m' b.task b.env) o.Ins need h ⟨rfl,rfl,k2⟩ hm' (by omega) htk hwi'
 refine⟨b.task,z,he,?_,hz2,fun hj=>?_⟩
 ·unfold Qbl
  rw [hb',Option.bind_some]
  simp only [show((0:Int)==0)=true from rfl,cond_true,hg',Option.bind_some]
  unfold Qb3
  simp only [show((0:Int) != 0)=false from rfl,cond_false]
  unfold Qe8
  rw [QgV,Option.bind_some,decide_eq_true hci]
  simp only [Bool.not_true,cond_false]
  rw [QgV,Option.bind_some,decide_eq_true hco,Option.bind_some]
  unfold QcA
  simp only [Bool.not_true,cond_false,hz,Option.bind_some]
  rcases hz2 with rfl | rfl
  ·simp only [show((0:Int) != 0)=false from rfl,cond_false,hv',Option.bind_some]
  ·rfl
 ·have:QF (Qw.mk n m' b.task b.env) o.Ins=some 0:=by
   unfold QF
   simp only [htk,Option.bind_some,show((0:Int) != 0)=false from rfl,cond_false,hwi',Bool.not_true]
   rw [show(b.task.Join != 3)=true by simpa using hj];rfl
  rw [this]at hz
  exact(Option.some.inj hz).symm
theorem Qsg (n:TNet)(m more:List Bag)(hn:QJ n)(hm0:lenL (lenL fun _=>True) m)(hr0:lenL (lenL fun _=>True) more):Qc8 n m more=some true:=by
 unfold Qc8
 rw [Qsc,Option.bind_some]
 obtain⟨f,hf,hf2⟩:=QsP n m hn hm0
 obtain⟨g,hg,hg2⟩:=QsP n more hn hr0
 rw [hf,Option.bind_some,hg,Option.bind_some]
 cases hc:((!f)||(!g))with
 | true=>rfl
 | false=>
  simp only [cond_false]
  simp only [Bool.or_eq_false_iff,Bool.not_eq_false']at hc
  obtain⟨h,hm,_⟩:=hf2 hc.1
  obtain⟨_,hmo,_⟩:=hg2 hc.2
  have hml:=hm.len h (by omega)
  have hm1:=hm.1
  have hmo1:=hmo.1
  have hpl:=h.pl
  have first:TotP (QI (fun st=>Qbx m more st.1 st.2) ((0:Int),([]:List Bag))) fun q:Unit⊕List Bag=>∀s,q=.inr s→s.length=m.length∧Each Qb2 m more s:=by
   refine TotP.up m.length (fun st=>st.1) (fun st=>(st.2.length:Int)=st.1∧∀(j:Nat) a b,(j:Int)<st.1→m[j]? = some a→more[j]? = some b→∃z,st.2[j]? = some z∧Qb2 a b=some (z,0)) rfl ⟨rfl,fun j a b hj=>by simp at hj;omega⟩ (fun i st hi hn2 hJ=>?_)
   obtain⟨k,s⟩:=st
   replace hi:k=(i:Int):=hi
   subst hi
   obtain⟨j1,j2⟩:(s.length:Int)=(i:Int)∧∀(j:Nat) a b,(j:Int)<(i:Int)→m[j]? = some a→more[j]? = some b→∃z,s[j]? = some z∧Qb2 a b=some (z,0):=hJ
   show TotP (Qbx m more i s) _
   unfold Qbx
   refine TotP.bif (fun hc=>?_) (fun hc=>TotP.ok (Qn fun s' e=>?_))
   ·simp only [decide_eq_true_eq]at hc
    have i1:i<m.length:=by omega
    have i2:i<more.length:=by omega
    rw [QaW,getq i1,Option.bind_some,QaW,getq i2,Option.bind_some]
    have b1:=hm.2 _ (List.getElem_mem i1)
    have b2:=hmo.2 _ (List.getElem_mem i2)
    have key:∃s,Qb2 m[i] more[i]=some s:=by
     rcases Qjo m[i] more[i] (by omega)with⟨_,e⟩|⟨_,_,_,e⟩|⟨_,_,r,e,_⟩<;>exact⟨_,e⟩
    obtain⟨s1,es1⟩:=key
    rw [es1,Option.bind_some]
    refine TotP.bif (fun _=>TotP.ok (Qn fun s' e=>by cases e)) fun hc5=>?_
    simp only [bne_eq_false_iff_eq]at hc5
    refine TotP.bind (TotP.chk (by simp;omega)) fun _ _=>?_
    have hw:w64 ((i:Int)+1)=((i+1:Nat):Int):=Qz i1 (by unfold maxLen;omega)
    refine TotP.ok (QC ⟨i1,hw,by show((s++[s1.1]).length:Int)=w64 _;rw [hw];simp;omega,fun j a b hj ha hb=>?_⟩)
    replace hj:(j:Int)<w64 ((i:Int)+1):=hj
    rw [hw]at hj
    show ∃z,(s++[s1.1])[j]? = some z∧_
    by_cases cj:j=i
    ·subst cj
     rw [getq i1]at ha;rw [getq i2]at hb
     cases ha;cases hb
     exact⟨s1.1,by rw [List.getElem?_append_right (by omega),show j-s.length=0 by omega];rfl,by rw [es1,←hc5]⟩
    ·obtain⟨z1,g1,g2⟩:=j2 j a b (by omega) ha hb
     exact⟨z1,by rw [List.getElem?_append_left (by omega)];exact g1,g2⟩
   ·cases e
    simp only [decide_eq_false_iff_not]at hc
    exact⟨by omega,fun j a b ha hb=>j2 j a b (by have:=(List.getElem?_eq_some_iff.1 ha).1;omega) ha hb⟩
  obtain⟨q,hq1,hq2⟩:=first
  rw [hq1,Option.bind_some]
  rcases q with q | s
  ·rfl
  ·obtain⟨sl,sE⟩:=hq2 s rfl
   show QcY n m true s=some true
   unfold QcY
   have sumP:∀(j:Nat) x y,m[j]? = some x→s[j]? = some y→Rt x→(Rt y∧∀k,cntL x k≤cntL y k)∧y.length≤2048:=fun j x y hx hy _=>by
    obtain⟨hj,a1,a2⟩:=QuF hm hx
    obtain⟨b,hb,b1,b2⟩:=QuE hmo hj
    obtain⟨z,hz1,hz2⟩:=sE j x b hx hb
    rw [hy]at hz1;cases hz1
    have q:=Qug (by omega) hz2
    refine⟨⟨q.2.2.1,fun k=>by have:=q.2.2.2 k;have:=b1.cnt k;omega⟩,?_⟩
    rcases Qjo x b (by omega)with⟨_,e'⟩|⟨_,_,_,e'⟩|⟨_,_,r',e',_,_,h4⟩
    ·rw [hz2]at e';cases e'
    ·rw [hz2]at e';cases e'
    ·rw [hz2]at e';cases e';omega
   have hsl:lenL (lenL fun _=>True) s:=⟨by unfold maxLen;omega,fun b hb=>by
    obtain⟨j,hj,rfl⟩:=List.mem_iff_getElem.1 hb
    have jm:j<m.length:=by omega
    have:=(sumP j _ _ (getq jm) (getq hj) (hm.2 _ (List.getElem_mem jm)).1).2
    exact⟨by unfold maxLen;omega,fun _ _=>trivial⟩⟩
   have hok:=fun o=>Quf (o:=o) h hml
   have hck:∀o∈allL n m,Qbl n m o=some 0:=fun o ho=>(Qqj h hml (hok o ho)).2 (Qrw.1 ho)
   rw [Qtu n m 300 h hml (by omega) (by omega) (.inl (by omega)),Option.bind_some]
   have hmem:∀o∈(allL n m).take (300:Int).toNat,o∈allL n m:=fun o ho=>List.mem_of_mem_take ho
   have hlen:((allL n m).take (300:Int).toNat).length≤300:=by
    rw [List.length_take];omega
   generalize (allL n m).take (300:Int).toNat=X at hmem hlen ⊢
   have second:TotP (QI (fun st=>Qby X n s st) 0) fun q:Unit⊕Unit=>q=.inr ():=by
    refine TotP.up X.length (fun st=>st) (fun _=>True) rfl trivial (fun i st hi hn3 _=>?_)
    replace hi:st=(i:Int):=hi
    subst hi
    show TotP (Qby X n s i) _
    unfold Qby
    refine TotP.bif (fun hc4=>?_) (fun _=>TotP.ok (Qn rfl))
    simp only [decide_eq_true_eq]at hc4
    have i1:i<X.length:=by omega
    have hx:=hmem _ (List.getElem_mem i1)
    obtain⟨e,c,he,hcc,hc2,hc3⟩:=Qsf h hml hsl (hok _ hx) sl (hck _ hx) fun j x y hx hy hr=>(sumP j x y hx hy hr).1
    rw [QaW,getq i1,Option.bind_some,hcc,Option.bind_some]
    have g3:QeR X i n c=some false:=by
     unfold QeR
     rw [QaW,getq i1,Option.bind_some,he,Option.bind_some]
     by_cases cj:e.Join=3
     ·rw [show(e.Join != 3)=false by simpa using cj]
      rcases hc2 with rfl | rfl<;>rfl
     ·rw [hc3 cj,show(e.Join != 3)=true by simpa using cj];rfl
    rw [g3,Option.bind_some]
    exact TotP.ok (QC ⟨i1,Qz i1 (by unfold maxLen;omega),trivial⟩)
   obtain⟨q,hq1,rfl⟩:=second
   rw [hq1];rfl
end Go.Proofs
