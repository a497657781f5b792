/- A part of the proof; what it holds is told at each theorem. -/
import Derived.Test.YtmhljalpjhdpeaaGreatDoorFiE
import Derived.Test.YtmhljalpjhdpeaaGreatDoorXPlC
set_option linter.unusedVariables false
set_option linter.unusedSimpArgs false
set_option linter.unusedSectionVars false
set_option linter.deprecated false
noncomputable section
namespace Go.Proofs
open Go Go.RowKit Go.Vm
def szB (n:TNet)(t:Qr):List Int:=t.Vars.map fun v=>(QaK n.Colours v.Colour).getD 0
def gdB (b:Qx)(r:List Int):Bool:=decide (QaF b r=some 0)
def Qfp (n:TNet)(m:List (List (Int×Int)))(task:Int)(ins outs:List (List Int))(p:List Int):List Ql:=match QbX n m task p with
 | some (c,b)=>if c=0∧QU b=some 0 then ins.flatMap fun e=>if QV b e=some 0 then(outs.filter (gdB b)).map fun o=>Ql.mk task p e o else []else []
 | none=>[]
theorem ne0 (g:Int):(g != 0)=!decide (some g=some (0:Int)):=by by_cases h:g=0<;>simp [h]
theorem QsT (t:Qr)(n:TNet)(l:List Int)(h:QH n)(hl:l.length=t.Vars.length)(hv:t.Vars.length≤16)(hd:∀d∈l,0≤d∧d≤1024):
  TotP (QF (fun st=>Qbe t n st.1 st.2) ((w64 ((l.length:Int)-1)),l)) fun q=>(-1≤q.1∧q.1<l.length∧q.2=l.take (q.1+1).toNat++List.replicate (l.length-(q.1+1).toNat) 0)∧(∀(j:Nat) x s,q.1<(j:Int)→l[j]? = some x→(szB n t)[j]? = some s→¬x+1<s)∧∀x s,0≤q.1→l[q.1.toNat]? = some x→(szB n t)[q.1.toNat]? = some s→x+1<s∧x<1024:=by
 have hw:w64 ((l.length:Int)-1)=(l.length:Int)-1:=Qfn (by omega)
 refine TotP.up l.length (fun st=>(l.length:Int)-1-st.1) (fun st=>st.2=l.take (st.1+1).toNat++List.replicate (l.length-(st.1+1).toNat) 0∧∀(j:Nat) x s,st.1<(j:Int)→l[j]? = some x→(szB n t)[j]? = some s→¬x+1<s) (by rw [hw];omega) ⟨by
  rw [hw]
  show l=_
  rw [show((l.length:Int)-1+1).toNat=l.length by omega,List.take_length,Nat.sub_self];simp,fun j x s hj hx=>by
  replace hj:w64 ((l.length:Int)-1)<(j:Int):=hj
  have:=(List.getElem?_eq_some_iff.1 hx).1
  omega⟩ (fun i st hi hn hJ=>?_)
 obtain⟨a,d⟩:=st
 replace hi:(l.length:Int)-1-a=i:=hi
 obtain⟨hJ,hJ2⟩:d=l.take (a+1).toNat++List.replicate (l.length-(a+1).toNat) 0∧∀(j:Nat) x s,a<(j:Int)→l[j]? = some x→(szB n t)[j]? = some s→¬x+1<s:=hJ
 have hdl:d.length=l.length:=by rw [hJ];simp;omega
 show TotP (Qbe t n a d) _
 unfold Qbe
 refine TotP.bind (P:=fun x=>(x=true→0≤a∧∀e s,l[a.toNat]? = some e→(szB n t)[a.toNat]? = some s→¬e+1<s)∧(x=false→∀e s,0≤a→l[a.toNat]? = some e→(szB n t)[a.toNat]? = some s→e+1<s∧e<1024)) ?_ fun x hx=>?_
 ·unfold Qgo
  refine TotP.bif (fun hc=>?_) fun hc=>TotP.ok ⟨fun h=>(by cases h),fun _ e s he=>?_⟩
  ·simp only [decide_eq_true_eq]at hc
   have hlt:a.toNat<l.length:=by omega
   have hlv:a.toNat<t.Vars.length:=by omega
   have ed:idx d a=some l[a.toNat]:=by
    rw [QjK hc,hJ,List.getElem?_append_left (by simp;omega),List.getElem?_take,if_pos (by omega),List.getElem?_eq_getElem hlt]
   have ev:idx t.Vars a=some t.Vars[a.toNat]:=by rw [QjK hc,List.getElem?_eq_getElem hlv]
   rw [ed,Option.bind_some,ev,Option.bind_some]
   refine TotP.bind (Qg9 _ _ h.1).self fun z hz=>?_
   obtain⟨hze,hz⟩:=hz
   have hsz:(szB n t)[a.toNat]? = some z:=by
    unfold szB
    rw [List.getElem?_map,List.getElem?_eq_getElem hlv,Option.map_some,hze];rfl
   have h2:=hd _ (List.getElem_mem hlt)
   rw [Qfn (by omega)]
   refine TotP.ok ⟨fun ht=>⟨hc,fun e s he hs=>?_⟩,fun hf e s _ he hs=>?_⟩
   ·rw [List.getElem?_eq_getElem hlt]at he
    cases he
    rw [hsz]at hs;cases hs
    simp only [decide_eq_true_eq]at ht
    omega
   ·rw [List.getElem?_eq_getElem hlt]at he
    cases he
    rw [hsz]at hs;cases hs
    simp only [decide_eq_false_iff_not]at hf
    omega
  ·simp only [decide_eq_false_iff_not]at hc;omega
 ·unfold Qcr
  refine TotP.bif (fun hc=>?_) fun hc=>?_
  ·obtain⟨ha,ha2⟩:=hx.1 hc
   refine TotP.bind (TotP.idx ha (by omega)) fun _ _=>?_
   have hw2:w64 (a-1)=a-1:=Qfn (by omega)
   refine TotP.ok (QD ⟨by omega,?_,?_,fun j x s hj hx hs=>?_⟩)
   ·show(l.length:Int)-1-w64 (a-1)=_
    rw [hw2];omega
   ·show d.set a.toNat 0=l.take (w64 (a-1)+1).toNat++List.replicate (l.length-(w64 (a-1)+1).toNat) 0
    rw [hw2,hJ,show(a+1).toNat=a.toNat+1 by omega,Qrc (by omega),show(a-1+1).toNat=a.toNat by omega]
    rw [show l.length-a.toNat=(l.length-(a.toNat+1))+1 by omega,List.replicate_succ]
   ·replace hj:w64 (a-1)<(j:Int):=hj
    rw [hw2]at hj
    by_cases c:a<(j:Int)
    ·exact hJ2 j x s c hx hs
    ·have:a.toNat=j:=by omega
     subst this
     exact ha2 x s hx hs
  ·exact TotP.ok (Qp ⟨⟨by omega,by omega,hJ⟩,hJ2,hx.2 hc⟩)
theorem Qrt (n:TNet)(m:List (List (Int×Int)))(b:Qx)(l:List (List Int))(h:Qfo n)(hb:BOk n m b)(hl:Qjr l):TotP (QaU l b) fun r=>(r=-1∧∀row∈l,gdB b row=true)∨∃i:Nat,r=(i:Int)∧i<l.length∧(∀row∈l.take i,gdB b row=true)∧∀row,l[i]? = some row→gdB b row=false:=by
 have hl1:=hl.1
 unfold QaU
 refine TotP.bind (TotP.up l.length (fun st=>st) (fun st=>∀row∈l.take st.toNat,gdB b row=true) (Q:=fun q:Int⊕Unit=>(∀x,q=.inl x→∃i:Nat,x=(i:Int)∧i<l.length∧(∀row∈l.take i,gdB b row=true)∧∀row,l[i]? = some row→gdB b row=false)∧(q=.inr ()→∀row∈l,gdB b row=true)) rfl (fun row h=>by cases h) (fun i st hi hn hJ=>?_)) (fun q hq=>?_)
 ·replace hi:st=(i:Int):=hi
  subst hi
  replace hJ:∀row∈l.take (i:Int).toNat,gdB b row=true:=hJ
  rw [Int.toNat_natCast]at hJ
  show TotP (Qac l b i) _
  unfold Qac Qd5
  refine TotP.bif (fun hc=>?_) (fun hc=>TotP.ok (Qp ⟨fun x h=>(by cases h),fun _=>?_⟩))
  ·simp only [decide_eq_true_eq]at hc
   have hlt:i<l.length:=by omega
   rw [Qci,List.getElem?_eq_getElem hlt,Option.bind_some]
   have:=hl.2 _ (List.getElem_mem hlt)
   refine TotP.bind (P:=fun c:Bool=>c=!gdB b l[i]) ?_ fun c hcc=>?_
   ·refine TotP.bind (QrB n m b l[i] h hb (by omega)).self fun g hg=>TotP.ok ?_
    unfold gdB
    rw [hg.1];exact ne0 g
   ·subst hcc
    refine TotP.bif (fun hc2=>TotP.ok (Qp ⟨fun x e=>(by cases e;exact⟨i,rfl,hlt,hJ,fun row hr=>by rw [List.getElem?_eq_getElem hlt]at hr;cases hr;simpa using hc2⟩),fun e=>by cases e⟩)) fun hc2=>?_
    have hw:w64 ((i:Int)+1)=((i+1:Nat):Int):=Qz hlt (by unfold maxLen;omega:l.length≤maxLen)
    refine TotP.ok (QD ⟨hlt,hw,?_⟩)
    show ∀row∈l.take (w64 ((i:Int)+1)).toNat,gdB b row=true
    rw [hw,Int.toNat_natCast,List.take_add_one,List.getElem?_eq_getElem hlt]
    intro row hr
    rcases List.mem_append.1 hr with hr | hr
    ·exact hJ row hr
    ·simp at hr;subst hr;simpa using hc2
  ·simp only [decide_eq_false_iff_not]at hc
   rwa [List.take_of_length_le (by omega)]at hJ
 ·rcases q with q | q
  ·exact TotP.ok (.inr (hq.1 q rfl))
  ·exact TotP.ok (.inl ⟨rfl,hq.2 rfl⟩)
theorem Qru (n:TNet)(m:List (List (Int×Int)))(b:Qx)(l:List (List Int))(h:Qfo n)(hb:BOk n m b)(hl:Qjr l):TotP (QaP l b) fun r=>r=l.filter (gdB b):=by
 have hl1:=hl.1
 unfold QaP
 refine TotP.bind (Qrt n m b l h hb hl) fun x hx=>?_
 rcases hx with⟨rfl,hx⟩|⟨i0,rfl,hi0,hx1,hx2⟩
 ·exact TotP.bif (fun _=>TotP.ok (List.filter_eq_self.2 hx).symm) fun hc=>by simp at hc
 refine TotP.bif (fun hc=>by simp at hc) fun _=>?_
 have hw:w64 ((i0:Int)+1)=(i0:Int)+1:=Qfn (by omega)
 have hbad:=hx2 _ (List.getElem?_eq_getElem hi0)
 refine TotP.bind (TotP.up (l.length-(i0+1)) (fun st=>st.2.1-((i0:Int)+1)) (fun st=>0≤st.1∧st.1<st.2.1∧st.2.2.length=l.length∧st.2.2.take st.1.toNat=(l.take st.2.1.toNat).filter (gdB b)∧st.2.2.drop st.2.1.toNat=l.drop st.2.1.toNat) (Q:=fun q:Int×List (List Int)=>0≤q.1∧q.1≤(l.length:Int)∧q.2.length=l.length∧q.2.take q.1.toNat=l.filter (gdB b)) (by show w64 ((i0:Int)+1)-((i0:Int)+1)=0;omega) ⟨by show(0:Int)≤i0;omega,by show(i0:Int)<w64 ((i0:Int)+1);omega,rfl,?_,rfl⟩ (fun i st hi hn hJ=>?_)) (fun q hq=>?_)
 ·show l.take (i0:Int).toNat=(l.take (w64 ((i0:Int)+1)).toNat).filter (gdB b)
  rw [hw,Int.toNat_natCast,show((i0:Int)+1).toNat=i0+1 by omega,List.take_add_one,List.getElem?_eq_getElem hi0,List.filter_append,List.filter_eq_self.2 hx1]
  show l.take i0=l.take i0++List.filter (gdB b) [l[i0]]
  rw [List.filter_cons,hbad]
  exact(List.append_nil _).symm
 ·obtain⟨a,j,l2⟩:=st
  replace hi:j-((i0:Int)+1)=i:=hi
  obtain⟨j1,j2,j3,j4,j5⟩:0≤a∧a<j∧l2.length=l.length∧l2.take a.toNat=(l.take j.toNat).filter (gdB b)∧l2.drop j.toNat=l.drop j.toNat:=hJ
  show TotP (Q9 b a j l2) _
  unfold Q9 Qd5
  refine TotP.bif (fun hc=>?_) (fun hc=>TotP.ok (Qp ⟨j1,?_,j3,?_⟩))
  ·simp only [decide_eq_true_eq]at hc
   have hj:j.toNat<l2.length:=by omega
   have hj':j.toNat<l.length:=by omega
   have ej:l2[j.toNat]=l[j.toNat]:=by
    have:=congrArg List.head? j5
    rw [List.drop_eq_getElem_cons hj,List.drop_eq_getElem_cons hj']at this
    exact Option.some.inj this
   have ej5:l2.drop (j.toNat+1)=l.drop (j.toNat+1):=by
    have:=congrArg List.tail j5
    simpa using this
   rw [Qq4 (by omega) (by omega),Option.bind_some]
   have:=hl.2 _ (List.getElem_mem hj')
   have hw2:w64 (j+1)=j+1:=Qfn (by omega)
   have hw3:w64 (a+1)=a+1:=Qfn (by omega)
   have tk:l.take (j+1).toNat=l.take j.toNat++[l[j.toNat]]:=by
    rw [show(j+1).toNat=j.toNat+1 by omega,List.take_add_one,List.getElem?_eq_getElem hj'];rfl
   refine TotP.bind (P:=fun c:Bool=>c=!gdB b l[j.toNat]) ?_ fun c hcc=>?_
   ·rw [ej]
    refine TotP.bind (QrB n m b l[j.toNat] h hb (by omega)).self fun g hg=>TotP.ok ?_
    unfold gdB
    rw [hg.1];exact ne0 g
   subst hcc
   refine TotP.bif (fun hc2=>?_) fun hc2=>?_
   ·have hc2:gdB b l[j.toNat]=true:=by simpa using hc2
    refine TotP.bind (TotP.idx (by omega) (by omega)) fun _ _=>?_
    refine TotP.ok (QD ⟨by omega,by show w64 (j+1)-((i0:Int)+1)=_;omega,by show 0≤w64 (a+1);omega,by show w64 (a+1)<w64 (j+1);omega,by simpa using j3,?_,?_⟩)
    ·show(l2.set a.toNat l2[j.toNat]).take (w64 (a+1)).toNat=(l.take (w64 (j+1)).toNat).filter (gdB b)
     rw [hw2,hw3,tk,List.filter_append,←j4,show(a+1).toNat=a.toNat+1 by omega,List.take_add_one,List.getElem?_set_self (by omega),List.take_set_of_le (Nat.le_refl _),ej]
     simp [hc2]
    ·show(l2.set a.toNat l2[j.toNat]).drop (w64 (j+1)).toNat=l.drop (w64 (j+1)).toNat
     rw [hw2,show(j+1).toNat=j.toNat+1 by omega,List.drop_set_of_lt (by omega),ej5]
   ·have hc2:gdB b l[j.toNat]=false:=by simpa using hc2
    refine TotP.ok (QD ⟨by omega,by show w64 (j+1)-((i0:Int)+1)=_;omega,j1,by show a<w64 (j+1);omega,j3,?_,?_⟩)
    ·show l2.take a.toNat=(l.take (w64 (j+1)).toNat).filter (gdB b)
     rw [hw2,tk,List.filter_append,←j4]
     simp [hc2]
    ·show l2.drop (w64 (j+1)).toNat=l.drop (w64 (j+1)).toNat
     rw [hw2,show(j+1).toNat=j.toNat+1 by omega,ej5]
  ·simp only [decide_eq_false_iff_not]at hc
   show a≤_
   omega
  ·simp only [decide_eq_false_iff_not]at hc
   show l2.take a.toNat=_
   rw [j4,List.take_of_length_le (by omega)]
 ·obtain⟨q1,q2⟩:=q
  obtain⟨h1,h2,h3,h4⟩:0≤q1∧q1≤l.length∧q2.length=l.length∧q2.take q1.toNat=l.filter (gdB b):=hq
  show TotP (Qaz q1 q2) _
  unfold Qaz
  refine TotP.bind (TotP.chk (by simp only [Bool.and_eq_true,decide_eq_true_eq];omega)) fun _ _=>?_
  refine TotP.bind (TotP.chk (by simp only [Bool.and_eq_true,decide_eq_true_eq,List.length_append,List.length_take,List.length_replicate];omega)) fun _ _=>?_
  refine TotP.ok ?_
  rw [List.take_append_of_le_length (by simp;omega),List.take_take,Nat.min_self,h4]
end Go.Proofs
