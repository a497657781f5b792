/- A part of the proof; what it holds is told at each theorem. -/
import Derived.Test.YtpijolohkdchcaaGreatDoorFiM
set_option linter.unusedVariables false
set_option linter.unusedSimpArgs false
set_option linter.unusedSectionVars false
set_option linter.deprecated false
noncomputable section
namespace Go.Proofs
open Go Go.RowKit Go.Vm
theorem QuN {n:TNet}{m x:List Bag}{o:Qk}(h:QcY n)(hD:Qbb n m o=some (x,0)):∃e,idx n.Tasks o.Task=some e∧e∈n.Tasks:=by
 obtain⟨t,hT,_⟩:=Qsd hD
 obtain⟨_,need,hN,_⟩:=QqA hT
 unfold QbF at hN
 obtain⟨v,hv,hN⟩:=Qb hN
 obtain⟨v1,v2⟩:=v
 rcases bifE hN with⟨c,hN⟩|⟨c,hN⟩
 ·simp only [Option.some.injEq,Prod.mk.injEq]at hN
  simp only [hN.2]at c;cases c
 simp only [bne_eq_false_iff_eq]at c
 have:=Qhb (QrA n o.Task o.Vars h) hv c
 obtain⟨e,he,hm⟩:=TotP.idx this.1 this.2
 exact⟨e,he,hm⟩
theorem Qsx {c:Nat}{a b:Bag}(h:a.length+b.length≤4294967296):∃s,QM a b=some s:=by
 rcases Qdy a b h with⟨_,e⟩|⟨_,_,_,e⟩|⟨_,_,r,e,_⟩<;>exact⟨_,e⟩
theorem QtS (n:TNet)(m:List Bag)(o:Qk)(more:List Bag)(hn:QH n)(hm0:lenL (lenL fun _=>True) m)(hr0:lenL (lenL fun _=>True) more):Qdf n m o more=some true:=by
 unfold Qdf
 rw [Qs8,Option.bind_some]
 obtain⟨f,hf,hf2⟩:=QtJ n m hn hm0
 obtain⟨g,hg,hg2⟩:=QtJ n more hn hr0
 rw [hf,Option.bind_some,hg,Option.bind_some]
 cases hc:((!f)||((!g)||((decide (20<(o.Vars.length:Int)))||((decide (20<(o.Ins.length:Int)))||(decide (20<(o.Outs.length:Int)))))))with
 | true=>rfl
 | false=>
  simp only [cond_false]
  simp only [Bool.or_eq_false_iff,Bool.not_eq_false',decide_eq_false_iff_not]at hc
  obtain⟨h,hm,_⟩:=hf2 hc.1
  obtain⟨_,hmo,_⟩:=hg2 hc.2.1
  have ho:Qkz n o:=⟨by omega,by omega,by omega⟩
  obtain⟨⟨x,c⟩,hD,hx⟩:=t_Do n m o 1024 h hm (by omega) ho
  rw [hD,Option.bind_some]
  have fin:∀y:Bool,(y=false→c=0∧∃e,idx n.Tasks o.Task=some e∧e.Cancel=[]∧e.Join≠3)→Qb2 true m more (x,c) n o y=some true:=fun y hy=>by
   unfold Qb2
   cases y with
   | true=>rfl
   | false=>
    simp only [cond_false]
    obtain⟨hc0,e,he,hcan,hj⟩:=hy rfl
    subst hc0
    have hx:MOk n 1064 x:=hx rfl
    have hm1:=hm.1
    have hmo1:=hmo.1
    have hx1:=hx.1
    have hpl:=h.pl
    obtain⟨q,hq1,hq2⟩:=(TotP.up (body:=fun st=>Qbr m more (x,0) st.1 st.2.1 st.2.2) m.length (fun st=>st.1)
     (fun st=>(st.2.1.length:Int)=st.1∧(st.2.2.length:Int)=st.1∧∀(j:Nat) a b y,(j:Int)<st.1→m[j]? = some a→more[j]? = some b→x[j]? = some y→(∃z,st.2.1[j]? = some z∧QM a b=some (z,0))∧∃z,st.2.2[j]? = some z∧QM y b=some (z,0))
     (Q:=fun q:Unit⊕(List Bag×List Bag)=>∀s w,q=.inr (s,w)→s.length=m.length∧w.length=m.length∧∀(j:Nat) a b y,m[j]? = some a→more[j]? = some b→x[j]? = some y→(∃z,s[j]? = some z∧QM a b=some (z,0))∧∃z,w[j]? = some z∧QM y b=some (z,0))
     (s0:=(0,[],[])) rfl ⟨rfl,rfl,fun j a b y hj=>by simp at hj;omega⟩ (fun i st hi hn2 hJ=>by
      obtain⟨k,s,w⟩:=st
      replace hi:k=(i:Int):=hi
      obtain⟨j1,j2,j3⟩:(s.length:Int)=k∧(w.length:Int)=k∧∀(j:Nat) a b y,(j:Int)<k→m[j]? = some a→more[j]? = some b→x[j]? = some y→(∃z,s[j]? = some z∧QM a b=some (z,0))∧∃z,w[j]? = some z∧QM y b=some (z,0):=hJ
      show TotP (Qbr m more (x,0) k s w) _
      unfold Qbr
      refine TotP.bif (fun hc=>?_) (fun hc=>TotP.ok (Qn fun s' w' e=>by
       cases e
       simp only [decide_eq_false_iff_not]at hc
       exact⟨by omega,by omega,fun j a b y ha hb hy=>j3 j a b y (by have:=(List.getElem?_eq_some_iff.1 ha).1;omega) ha hb hy⟩))
      simp only [decide_eq_true_eq]at hc
      have i1:i<m.length:=by omega
      have i2:i<more.length:=by omega
      have i3:i<x.length:=by omega
      rw [hi,QbB,getq i1,Option.bind_some,QbB,getq i2,Option.bind_some]
      have b1:=hm.2 _ (List.getElem_mem i1)
      have b2:=hmo.2 _ (List.getElem_mem i2)
      have b3:=hx.2 _ (List.getElem_mem i3)
      obtain⟨s1,es1⟩:=Qsx (c:=0) (a:=m[i]) (b:=more[i]) (by omega)
      obtain⟨s2,es2⟩:=Qsx (c:=0) (a:=x[i]) (b:=more[i]) (by omega)
      rw [es1,Option.bind_some]
      simp only [QbB,getq i2,getq i3,Option.bind_some]
      rw [es2,Option.bind_some]
      refine TotP.bif (fun _=>TotP.ok (Qn fun s' w' e=>by cases e)) fun hc5=>?_
      simp only [Bool.or_eq_false_iff,bne_eq_false_iff_eq]at hc5
      refine TotP.bind (TotP.chk (by simp;omega)) fun _ _=>?_
      refine TotP.bind (TotP.chk (by simp;omega)) fun _ _=>?_
      have hw:w64 ((i:Int)+1)=((i+1:Nat):Int):=Qy i1 (by unfold maxLen;omega)
      refine TotP.ok (QD ⟨i1,hw,by show((s++[s1.1]).length:Int)=w64 _;rw [hw];simp;omega,by show((w++[s2.1]).length:Int)=w64 _;rw [hw];simp;omega,fun j a b y hj ha hb hy=>?_⟩)
      have hj:(j:Int)<w64 ((i:Int)+1):=hj
      rw [hw]at hj
      show(∃z,(s++[s1.1])[j]? = some z∧_)∧∃z,(w++[s2.1])[j]? = some z∧_
      by_cases cj:j=i
      ·subst cj
       rw [getq i1]at ha;rw [getq i2]at hb;rw [getq i3]at hy
       cases ha;cases hb;cases hy
       refine⟨⟨s1.1,?_,by rw [es1,←hc5.1]⟩,⟨s2.1,?_,by rw [es2,←hc5.2]⟩⟩
       ·rw [List.getElem?_append_right (by omega),show j-s.length=0 by omega];rfl
       ·rw [List.getElem?_append_right (by omega),show j-w.length=0 by omega];rfl
      ·obtain⟨⟨z1,g1,g2⟩,⟨z2,g3,g4⟩⟩:=j3 j a b y (by omega) ha hb hy
       exact⟨⟨z1,by rw [List.getElem?_append_left (by omega)];exact g1,g2⟩,⟨z2,by rw [List.getElem?_append_left (by omega)];exact g3,g4⟩⟩))
    rw [hq1,Option.bind_some]
    rcases q with q | ⟨s,w⟩
    ·rfl
    ·obtain⟨q1,q2,q3⟩:=hq2 s w rfl
     show Qc6 n o true s w=some true
     have e1:Each QM m more s:=fun j a b ha hb=>by
      obtain⟨y,hy,_⟩:=Qj1 hx (Qk6 hm ha).1
      exact(q3 j a b y ha hb hy).1
     have e2:Each QM x more w:=fun j y b hy hb=>by
      obtain⟨a,ha,_⟩:=Qj1 hm (Qk6 hx hy).1
      exact(q3 j a b y ha hb hy).2
     have hDo:=QuM h hm ho hD he hj hcan (by omega) (by omega) hmo e1 e2
     have hsum:MOk n 2048 s:=⟨by omega,fun b hb=>by
      obtain⟨j,hj2,rfl⟩:=List.mem_iff_getElem.1 hb
      obtain⟨a,ha,ha1,ha2⟩:=Qj1 hm (show j<n.Places.length by omega)
      obtain⟨u,hu,hu1,hu2⟩:=Qj1 hmo (show j<n.Places.length by omega)
      obtain⟨z,hz1,hz2⟩:=e1 j a u ha hu
      rw [getq hj2]at hz1;cases hz1
      rcases Qdy a u (by omega)with⟨_,e'⟩|⟨_,_,_,e'⟩|⟨_,_,r',e',h3,_,h4⟩
      ·rw [hz2]at e';simp at e'
      ·rw [hz2]at e';simp at e'
      ·rw [hz2]at e';simp only [Option.some.injEq,Prod.mk.injEq,and_true]at e';rw [e'];exact⟨h3,by omega⟩⟩
     have hw:=Qhb (t_Do n s o 2048 h hsum (by omega) ho) hDo rfl
     unfold Qc6
     rw [hDo,Option.bind_some]
     unfold Qhn
     simp only [cond_true,show((0:Int)==0)=true from rfl]
     rw [QqZ h hw (by omega)];rfl
  have key:∃y,Qe6 (x,c) n o=some y∧(y=false→c=0∧∃e,idx n.Tasks o.Task=some e∧e.Cancel=[]∧e.Join≠3):=by
   unfold Qe6
   cases hc0:(c != 0)with
   | true=>exact⟨true,rfl,fun h=>by cases h⟩
   | false=>
    simp only [bne_eq_false_iff_eq]at hc0
    subst hc0
    simp only [cond_false]
    obtain⟨e,he,hem⟩:=QuN h hD
    rw [he,Option.bind_some,Option.bind_some]
    cases hcc:decide (0<(e.Cancel.length:Int))with
    | true=>exact⟨true,rfl,fun h=>by cases h⟩
    | false=>
     simp only [decide_eq_false_iff_not]at hcc
     refine⟨e.Join==3,rfl,fun hj=>⟨trivial,e,rfl,List.length_eq_zero_iff.1 (by omega),by simpa using hj⟩⟩
  obtain⟨y,hy,hy2⟩:=key
  rw [hy,Option.bind_some]
  exact fin y hy2
end Go.Proofs
