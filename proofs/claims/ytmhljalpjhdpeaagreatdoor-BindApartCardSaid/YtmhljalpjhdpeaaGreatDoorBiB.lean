/- A part of the proof; what it holds is told at each theorem. -/
import Derived.Test.YtmhljalpjhdpeaaGreatDoorBiA
set_option linter.unusedVariables false
set_option linter.unusedSimpArgs false
set_option linter.unusedSectionVars false
set_option linter.deprecated false
noncomputable section
namespace Go.Proofs
open Go Go.RowKit Go.Vm
theorem Qsq (n:TNet)(m:List (List (Int×Int)))(task most:Int)(l5 l8:List Ql)(ins outs:List (List Int))(p:List Int)(h:Qdg n)(hm:lenL (lenL fun _=>True) m)(hmost:most≤4294967296∨l8.length+(QdZ n m task ins outs p).length≤4294967296)
  (hi:Qjs ins) (ho:Qjs outs) (hp:p.length≤16) (ha:(l8.length:Int)<most):
  TotP (Qci n m task most l5 ins outs l8 p) fun r=>r=adv most.toNat l8 (QdZ n m task ins outs p):=by
 have hil:=hi.1
 have hol:=ho.1
 unfold Qci
 refine TotP.bind (QrK n m task p h).self fun x hx=>?_
 obtain⟨c,b⟩:=x
 obtain⟨hxe,hx⟩:=hx
 refine TotP.bind (P:=fun y=>(y=true→QdZ n m task ins outs p=[])∧(y=false→BOk n m b∧c=0∧QM b=some 0)) ?_ fun y hy=>?_
 ·unfold Qet
  refine TotP.bif (fun hc=>TotP.ok ⟨fun _=>?_,fun h=>by cases h⟩) fun hc=>?_
  ·unfold QdZ
   rw [hxe]
   simp only
   rw [if_neg fun e=>by simp [e.1]at hc]
  have hc:c=0:=by simpa using hc
  have hb:=hx hc
  refine TotP.bind (Qqq n m b h hb).self fun g hg=>TotP.ok ⟨fun hg2=>?_,fun hg2=>⟨hb,hc,?_⟩⟩
  ·unfold QdZ
   rw [hxe]
   simp only
   rw [if_neg fun e=>by rw [hg.1]at e;simp at e;simp [e.2]at hg2]
  ·rw [hg.1];simpa using hg2
 unfold QbK
 refine TotP.bif (fun hc=>TotP.ok ?_) fun hc=>?_
 ·rw [hy.1 hc,QlR (by omega)]
 obtain⟨hb,hc0,hgd⟩:=hy.2 hc
 refine TotP.bind (P:=fun z=>z=outs) (by unfold Qcs;exact TotP.bind (TotP.chk (by simp;omega)) fun _ _=>TotP.ok rfl) fun x19 h19=>?_
 rw [h19]
 refine TotP.bind (QrC n m b outs h hb ho) fun x20 h20=>?_
 have h20l:x20.length≤16:=by rw [h20];exact Nat.le_trans (List.length_filter_le _ _) ho.1
 have h20e:∀r∈x20,r.length≤16:=fun r hr=>by rw [h20]at hr;exact ho.2 r (List.mem_filter.1 hr).1
 have hR:QdZ n m task ins outs p=ins.flatMap fun e=>if QN b e=some 0 then x20.map (fun o=>Ql.mk task p e o)else []:=by
  unfold QdZ
  rw [hxe]
  simp only
  rw [if_pos ⟨hc0,hgd⟩,h20]
 rw [hR]at hmost ⊢
 generalize hg:(fun e=>if QN b e=some 0 then x20.map (fun o=>Ql.mk task p e o)else [])=g at hmost ⊢
 refine TotP.bind (TotP.up ins.length (fun st=>st.1) (fun st=>(st.2.length:Int)<most∧adv most.toNat st.2 ((ins.drop st.1.toNat).flatMap g)=adv most.toNat l8 (ins.flatMap g)∧st.2.length+((ins.drop st.1.toNat).flatMap g).length=l8.length+(ins.flatMap g).length) (Q:=fun q=>q=adv most.toNat l8 (ins.flatMap g)) rfl ⟨ha,rfl,rfl⟩ (fun i st hi2 hn hJ=>?_)) (fun q hq=>?_)
 ·obtain⟨j,l⟩:=st
  replace hi2:j=(i:Int):=hi2
  subst hi2
  obtain⟨hJ1,hJ2,hJ3⟩:(l.length:Int)<most∧adv most.toNat l ((ins.drop (i:Int).toNat).flatMap g)=adv most.toNat l8 (ins.flatMap g)∧l.length+((ins.drop (i:Int).toNat).flatMap g).length=l8.length+(ins.flatMap g).length:=hJ
  rw [Int.toNat_natCast]at hJ2 hJ3
  show TotP (Qa7 ins (c,b) x20 p task most i l) _
  unfold Qa7
  refine TotP.bif (fun hc=>?_) (fun hc=>TotP.ok (Qn ?_))
  ·simp only [decide_eq_true_eq]at hc
   have hlt:i<ins.length:=by omega
   have hel:=hi.2 _ (List.getElem_mem hlt)
   rw [QbG,List.getElem?_eq_getElem hlt,Option.bind_some]
   rw [List.drop_eq_getElem_cons hlt,List.flatMap_cons,QrG]at hJ2
   rw [List.drop_eq_getElem_cons hlt,List.flatMap_cons,List.length_append]at hJ3
   have next:∀l',(l'.length:Int)<most→adv most.toNat l' ((ins.drop (i+1)).flatMap g)=adv most.toNat l8 (ins.flatMap g)→l'.length+((ins.drop (i+1)).flatMap g).length=l8.length+(ins.flatMap g).length→TotP (Qa5 i l') fun o=>(∀s',o=.inl s'→i<ins.length∧s'.1=((i+1:Nat):Int)∧(s'.2.length:Int)<most∧adv most.toNat s'.2 ((ins.drop s'.1.toNat).flatMap g)=adv most.toNat l8 (ins.flatMap g)∧s'.2.length+((ins.drop s'.1.toNat).flatMap g).length=l8.length+(ins.flatMap g).length)∧∀r:List Ql⊕List Ql,o=.inr r→r=adv most.toNat l8 (ins.flatMap g):=fun l' hl1 hl2 hl3=>by
    have hw:w64 ((i:Int)+1)=((i+1:Nat):Int):=Qy hlt (by unfold maxLen;omega:ins.length≤maxLen)
    unfold Qa5
    exact TotP.ok (QC (ix:=fun st:Int×List Ql=>st.1) (J:=fun st:Int×List Ql=>(st.2.length:Int)<most∧adv most.toNat st.2 ((ins.drop st.1.toNat).flatMap g)=adv most.toNat l8 (ins.flatMap g)∧st.2.length+((ins.drop st.1.toNat).flatMap g).length=l8.length+(ins.flatMap g).length) ⟨hlt,hw,hl1,by
     show adv most.toNat l' ((ins.drop (w64 ((i:Int)+1)).toNat).flatMap g)=_∧l'.length+((ins.drop (w64 ((i:Int)+1)).toNat).flatMap g).length=_
     rw [hw,Int.toNat_natCast];exact⟨hl2,hl3⟩⟩)
   refine TotP.bind (QrL n m b ins[i] h hb hm (by omega)).self fun z hz=>?_
   refine TotP.bif (fun hc2=>?_) fun hc2=>?_
   ·have:g ins[i]=[]:=by
     rw [←hg];simp only
     rw [if_neg fun e=>by rw [hz.1]at e;simp at e;simp [e]at hc2]
    rw [this,QlR (by omega)]at hJ2
    rw [this]at hJ3
    exact next l hJ1 hJ2 (by simpa using hJ3)
   have hge:g ins[i]=x20.map (fun o=>Ql.mk task p ins[i] o):=by
    rw [←hg];simp only
    rw [if_pos (by rw [hz.1];simpa using hc2)]
   rw [hge]at hJ2 hJ3
   rw [List.length_map]at hJ3
   refine TotP.bind (TotP.up x20.length (fun st=>st.1) (fun st=>(st.2.length:Int)<most∧adv most.toNat st.2 ((x20.drop st.1.toNat).map fun o=>Ql.mk task p ins[i] o)=adv most.toNat l (x20.map fun o=>Ql.mk task p ins[i] o)∧(st.2.length:Int)=l.length+st.1) (Q:=fun q=>q=adv most.toNat l (x20.map fun o=>Ql.mk task p ins[i] o)) rfl ⟨hJ1,rfl,by simp⟩ (fun i2 st hi3 hn2 hK=>?_)) (fun q hq=>?_)
   ·obtain⟨j2,l2⟩:=st
    replace hi3:j2=(i2:Int):=hi3
    subst hi3
    obtain⟨hK1,hK2,hK3⟩:(l2.length:Int)<most∧adv most.toNat l2 ((x20.drop (i2:Int).toNat).map fun o=>Ql.mk task p ins[i] o)=adv most.toNat l (x20.map fun o=>Ql.mk task p ins[i] o)∧(l2.length:Int)=l.length+(i2:Int):=hK
    rw [Int.toNat_natCast]at hK2
    show TotP (Qa6 x20 p ins[i] task most i2 l2) _
    unfold Qa6
    refine TotP.bif (fun hc=>?_) (fun hc=>TotP.ok (Qn ?_))
    ·simp only [decide_eq_true_eq]at hc
     have hlt2:i2<x20.length:=by omega
     have hel2:=h20e _ (List.getElem_mem hlt2)
     rw [QbG,List.getElem?_eq_getElem hlt2,Option.bind_some]
     rw [List.drop_eq_getElem_cons hlt2,List.map_cons,Qtx]at hK2
     rw [Qj1 p (by omega),Option.bind_some,Qj1 ins[i] (by omega),Option.bind_some,Qj1 x20[i2] (by omega),Option.bind_some]
     refine TotP.bind (TotP.chk (by simp;omega)) fun _ _=>?_
     refine TotP.bif (fun hc2=>TotP.ok (Qn ?_)) fun hc2=>?_
     ·simp only [beq_iff_eq,List.length_append,List.length_singleton]at hc2
      rw [Qtw (by simp;omega)]at hK2
      exact hK2
     ·simp only [beq_eq_false_iff_ne,List.length_append,List.length_singleton]at hc2
      have hw:w64 ((i2:Int)+1)=((i2+1:Nat):Int):=Qy hlt2 (by unfold maxLen;omega:x20.length≤maxLen)
      refine TotP.ok (QC ⟨hlt2,hw,by show((l2++[_]).length:Int)<most;simp;omega,?_,by show((l2++[_]).length:Int)=l.length+w64 ((i2:Int)+1);rw [hw];simp;omega⟩)
      show adv most.toNat (l2++[_]) ((x20.drop (w64 ((i2:Int)+1)).toNat).map _)=_
      rw [hw,Int.toNat_natCast];exact hK2
    ·simp only [decide_eq_false_iff_not]at hc
     rw [List.drop_of_length_le (by omega),List.map_nil,QlR (by omega)]at hK2
     exact hK2
   ·rw [←hq]at hJ2
    rcases q with q | q
    ·exact TotP.ok (Qn hJ2)
    ·exact next q (by have:=QsZ hq.symm;omega) hJ2 (by
      have e:=congrArg List.length (QrH hq.symm)
      rw [List.length_append,List.length_map]at e
      omega)
  ·simp only [decide_eq_false_iff_not]at hc
   rw [List.drop_of_length_le (by omega),List.flatMap_nil,QlR (by omega)]at hJ2
   exact hJ2
 ·rcases q with q | q
  ·exact TotP.ok hq
  ·exact TotP.ok hq
theorem QqE (n:TNet)(m:List (List (Int×Int)))(task most:Int)(l5:List Ql)(ins outs:List (List Int))(t:Qr)(h:Qdg n)(hm:lenL (lenL fun _=>True) m)(hmost:most≤4294967296∨((binds (szB n t)).flatMap (QdZ n m task ins outs)).length≤4294967296)(h1:1≤most)
  (hi:Qjs ins) (ho:Qjs outs) (ht:t∈n.Tasks):TotP (QdT n m task most l5 ins outs [] t n) fun r=>∀a,r=.inl a∨r=.inr a→a=((binds (szB n t)).flatMap (QdZ n m task ins outs)).take most.toNat:=by
 have hv:=(h.tk t ht).1
 have hsz:(szB n t).length=t.Vars.length:=by simp [szB]
 generalize hrl:QdZ n m task ins outs=rl at hmost ⊢
 have fin:∀q:List Ql⊕List Ql,q.swap=adv most.toNat [] ((binds (szB n t)).flatMap rl)→∀a,q=.inl a∨q=.inr a→a=((binds (szB n t)).flatMap rl).take most.toNat:=fun q hq a ha=>by
  rw [←Qty (by omega:0<most.toNat),←hq]
  rcases ha with rfl | rfl<;>rfl
 unfold QdT
 refine TotP.bind (TotP.chk (by simp only [Bool.and_eq_true,decide_eq_true_eq];omega)) fun _ _=>?_
 refine TotP.bind (Qs4 (fun st=>(QcJ (szB n t) st.1).length) (fun st=>st.1.length=t.Vars.length∧(∀d∈st.1,0≤d∧d≤1024)∧(st.2.length:Int)<most∧adv most.toNat st.2 ((st.1::QcJ (szB n t) st.1).flatMap rl)=adv most.toNat [] ((binds (szB n t)).flatMap rl)∧st.2.length+((st.1::QcJ (szB n t) st.1).flatMap rl).length=((binds (szB n t)).flatMap rl).length) (Q:=fun q:List Ql⊕List Ql=>q.swap=adv most.toNat [] ((binds (szB n t)).flatMap rl))
  ⟨by simp,fun d hd=>by have:=List.eq_of_mem_replicate hd;omega,by simp;omega,?_⟩ (fun st hJ=>?_)) (fun q hq=>?_)
 ·show adv most.toNat [] ((List.replicate (t.Vars.length:Int).toNat 0::QcJ (szB n t) (List.replicate (t.Vars.length:Int).toNat 0)).flatMap rl)=_∧0+((List.replicate (t.Vars.length:Int).toNat 0::QcJ (szB n t) (List.replicate (t.Vars.length:Int).toNat 0)).flatMap rl).length=_
  rw [Qox (szB n t),QhE,hsz,Int.toNat_natCast,Nat.zero_add]
  exact⟨rfl,rfl⟩
 ·obtain⟨d,l⟩:=st
  obtain⟨j1,j2,j3,j4,j5⟩:d.length=t.Vars.length∧(∀d'∈d,0≤d'∧d'≤1024)∧(l.length:Int)<most∧adv most.toNat l ((d::QcJ (szB n t) d).flatMap rl)=adv most.toNat [] ((binds (szB n t)).flatMap rl)∧l.length+((d::QcJ (szB n t) d).flatMap rl).length=((binds (szB n t)).flatMap rl).length:=hJ
  rw [List.flatMap_cons,List.length_append]at j5
  show TotP (QbR n m task most l5 ins outs t n d l) _
  unfold QbR
  rw [Qj1 d (by omega),Option.bind_some]
  refine TotP.bind (Qsq n m task most l5 l ins outs d h hm (by rw [hrl];omega) hi ho (by omega) j3) fun r hr=>?_
  rw [hrl]at hr
  rw [List.flatMap_cons,QrG,←hr]at j4
  rcases r with r | r
  ·exact TotP.ok ⟨fun s' e=>(by cases e),fun q e=>(by cases e;exact j4)⟩
  ·have hacc:=QsZ hr.symm
   have hlen:=congrArg List.length (QrH hr.symm)
   rw [List.length_append]at hlen
   replace j4:adv most.toNat r ((QcJ (szB n t) d).flatMap rl)=adv most.toNat [] ((binds (szB n t)).flatMap rl):=j4
   show TotP (QcB t n d r) _
   unfold QcB
   refine TotP.bind (Qs5 t n d h.k j1 hv j2) fun q hq=>?_
   obtain⟨a,d2⟩:=q
   obtain⟨⟨q1,q2,q3⟩,q4,q5⟩:(-1≤a∧a<d.length∧d2=d.take (a+1).toNat++List.replicate (d.length-(a+1).toNat) 0)∧(∀(j:Nat) x s,a<(j:Int)→d[j]? = some x→(szB n t)[j]? = some s→¬x+1<s)∧∀x s,0≤a→d[a.toNat]? = some x→(szB n t)[a.toNat]? = some s→x+1<s∧x<1024:=hq
   have hnx:=Qsm (szB n t) d
   show TotP (QcA r a d2) _
   unfold QcA
   refine TotP.bif (fun hc=>TotP.ok ⟨fun s' e=>(by cases e),fun q e=>(by
    cases e
    simp only [decide_eq_true_eq]at hc
    rw [Qqo (szB n t) d fun j x s=>q4 j x s (by omega)]at hnx
    simp only at hnx
    rw [hnx,List.flatMap_nil,QlR hacc]at j4
    exact j4)⟩) fun hc=>?_
   simp only [decide_eq_false_iff_not]at hc
   have hlt:a.toNat<d.length:=by omega
   have hls:a.toNat<(szB n t).length:=by omega
   have ed:idx d2 a=some d[a.toNat]:=by
    rw [QjK (by omega),q3,List.getElem?_append_left (by simp;omega),List.getElem?_take,if_pos (by omega),List.getElem?_eq_getElem hlt]
   rw [ed,Option.bind_some,Option.bind_some]
   have h9:=q5 _ _ (by omega) (List.getElem?_eq_getElem hlt) (List.getElem?_eq_getElem hls)
   have h10:=j2 _ (List.getElem_mem hlt)
   rw [Qge (by omega)]
   have e3:d2.set a.toNat (d[a.toNat]+1)=d.take a.toNat++(d[a.toNat]+1)::List.replicate (d.length-(a.toNat+1)) 0:=by
    rw [q3,show(a+1).toNat=a.toNat+1 by omega,Qrl hlt]
   rw [e3]
   have hd3:∀x∈d.take a.toNat++(d[a.toNat]+1)::List.replicate (d.length-(a.toNat+1)) 0,0≤x∧x≤1024:=fun x hx=>by
    rcases List.mem_append.1 hx with hx | hx
    ·exact j2 x (List.mem_of_mem_take hx)
    ·rcases List.mem_cons.1 hx with rfl | hx
     ·omega
     ·have:=List.eq_of_mem_replicate hx;omega
   have hlen2:(d.take a.toNat++(d[a.toNat]+1)::List.replicate (d.length-(a.toNat+1)) 0).length=t.Vars.length:=by simp;omega
   rw [QtZ a.toNat (szB n t) d _ _ (by omega) (List.getElem?_eq_getElem hlt) (List.getElem?_eq_getElem hls) h9.1 fun j y z hj=>q4 j y z (by omega)]at hnx
   simp only at hnx
   rw [hnx]at j4
   exact TotP.ok ⟨fun s' e=>(by
    cases e
    refine⟨?_,hlen2,hd3,by show(r.length:Int)<most;omega,j4,by show r.length+(List.flatMap rl (_::_)).length=_;rw [←hnx];omega⟩
    show(QcJ (szB n t) (d.take a.toNat++(d[a.toNat]+1)::List.replicate (d.length-(a.toNat+1)) 0)).length<(QcJ (szB n t) d).length
    rw [hnx,List.length_cons];omega),fun q e=>(by cases e)⟩
 ·rcases q with q | q
  ·exact TotP.ok fun a ha=>fin _ hq a (by rcases ha with ha | ha<;>cases ha;exact .inl rfl)
  ·exact TotP.ok fun a ha=>fin _ hq a (by rcases ha with ha | ha<;>cases ha;exact .inr rfl)
def chC (kind arcs:Int):List (List Int):=(Q7 kind arcs).getD []
def QaT (n:TNet)(m:List (List (Int×Int)))(task:Int):List Ql:=match idx n.Tasks task with
 | some t=>(binds (szB n t)).flatMap (QdZ n m task (chC t.Join t.Ins.length) (chC t.Split t.Outs.length))
 | none=>[]
theorem Qsr (n:TNet)(m:List (List (Int×Int)))(task most:Int)(h:Qdg n)(hm:lenL (lenL fun _=>True) m)(hmost:most≤4294967296∨(QaT n m task).length≤4294967296):Qey n m task most=some ((QaT n m task).take most.toNat):=by
 have key:TotP (Qey n m task most) fun r=>r=(QaT n m task).take most.toNat:=by
  unfold Qey
  refine TotP.bif (fun hc=>TotP.ok ?_) fun hc=>?_
  ·simp only [Bool.or_eq_true,decide_eq_true_eq]at hc
   rcases hc with hc | hc | hc
   ·unfold QaT idx
    rw [if_neg (by omega)];simp
   ·unfold QaT idx
    rw [if_pos (by omega),List.getElem?_eq_none (by omega)];simp
   ·rw [show most.toNat=0 by omega,List.take_zero]
  simp only [Bool.or_eq_false_iff,decide_eq_false_iff_not]at hc
  refine TotP.bind (TotP.idx (by omega) (by omega)).self fun e he=>?_
  refine TotP.bind (Qlq _ _).self fun x hx=>?_
  refine TotP.bind (Qlq _ _).self fun y hy=>?_
  refine TotP.bind (P:=fun z=>z=(n,e)) (TotP.ok rfl) fun z hz=>?_
  subst hz
  have hml:QaT n m task=(binds (szB n e)).flatMap (QdZ n m task x y):=by
   unfold QaT chC
   rw [he.1]
   simp only
   rw [hx.1,hy.1];rfl
  refine TotP.bind (QqE n m task most [] x y e h hm (by rw [←hml];exact hmost) (by omega) hx.2 hy.2 he.2) fun r hr=>?_
  rw [hml]
  rcases r with r | r
  ·exact TotP.ok (hr r (.inl rfl))
  ·exact TotP.ok (hr r (.inr rfl))
 obtain⟨r,h1,h2⟩:=key
 rw [h1,h2]
def allL (n:TNet)(m:List (List (Int×Int))):List Ql:=(List.range n.Tasks.length).flatMap fun (k:Nat)=>QaT n m (k:Int)
theorem QtF {α:Type}(f:Nat→List α)(N:Nat):∀k,k≤N→∃r,(List.range N).flatMap f=(List.range k).flatMap f++r:=by
 induction N with
 | zero=>intro k hk;exact⟨[],by rw [show k=0 by omega];rfl⟩
 | succ N ih=>
  intro k hk
  by_cases c:k=N+1
  ·subst c;exact⟨[],by simp⟩
  ·obtain⟨r,hr⟩:=ih k (by omega)
   exact⟨r++f N,by rw [List.range_succ,List.flatMap_append,List.flatMap_singleton,hr,List.append_assoc]⟩
theorem QtG (n:TNet)(m:List (List (Int×Int)))(most:Int)(h:Qdg n)(hm:lenL (lenL fun _=>True) m)(h0:0≤most)(h1:most≤9223372036854775807)(hmost:most≤4294967296∨(allL n m).length≤4294967296):Qgx n m most=some ((allL n m).take most.toNat):=by
 have key:TotP (Qgx n m most) fun r=>r=(allL n m).take most.toNat:=by
  unfold Qgx
  refine TotP.bind (TotP.up n.Tasks.length (fun st=>st.1) (fun st=>st.2=((List.range st.1.toNat).flatMap fun (k:Nat)=>QaT n m (k:Int)).take most.toNat) (Q:=fun q=>q=(allL n m).take most.toNat) rfl (by simp) (fun i st hi hn hJ=>?_)) (fun q hq=>TotP.ok hq)
  obtain⟨x,l⟩:=st
  replace hi:x=(i:Int):=hi
  subst hi
  replace hJ:l=((List.range (i:Int).toNat).flatMap fun (k:Nat)=>QaT n m (k:Int)).take most.toNat:=hJ
  rw [Int.toNat_natCast]at hJ
  show TotP (Qe2 n m most i l) _
  unfold Qe2
  refine TotP.bif (fun hc=>?_) (fun hc=>TotP.ok (Qn ?_))
  ·simp only [decide_eq_true_eq]at hc
   have hll:l.length≤most.toNat:=by rw [hJ];exact List.length_take_le _ _
   have hw:w64 (most-(l.length:Int))=most-(l.length:Int):=Qge (by omega)
   obtain⟨rest,hrest⟩:=QtF (fun (k:Nat)=>QaT n m (k:Int)) n.Tasks.length (i+1) (by omega)
   have hle:((List.range i).flatMap fun (k:Nat)=>QaT n m (k:Int)).length+(QaT n m (i:Int)).length≤(allL n m).length:=by
    unfold allL
    rw [hrest,List.range_succ,List.flatMap_append,List.flatMap_singleton];simp
   have hl2:l.length≤((List.range i).flatMap fun (k:Nat)=>QaT n m (k:Int)).length:=by rw [hJ];exact List.length_take_le' _ _
   rw [hw,Qsr n m i _ h hm (by omega),Option.bind_some]
   have e:l++(QaT n m (i:Int)).take (most-(l.length:Int)).toNat=((List.range (i+1)).flatMap fun (k:Nat)=>QaT n m (k:Int)).take most.toNat:=by
    rw [List.range_succ,List.flatMap_append,List.flatMap_singleton,List.take_append,←hJ]
    congr 1
    by_cases c:((List.range i).flatMap fun (k:Nat)=>QaT n m (k:Int)).length≤most.toNat
    ·have:l.length=((List.range i).flatMap fun (k:Nat)=>QaT n m (k:Int)).length:=by rw [hJ,List.length_take];omega
     congr 1;omega
    ·have:l.length=most.toNat:=by rw [hJ,List.length_take];omega
     rw [show(most-(l.length:Int)).toNat=0 by omega,show most.toNat-((List.range i).flatMap fun (k:Nat)=>QaT n m (k:Int)).length=0 by omega]
   rw [e]
   refine TotP.bind (TotP.chk (by
    have:=List.length_take_le (most-(l.length:Int)).toNat (QaT n m (i:Int))
    have:=List.length_take_le' (most-(l.length:Int)).toNat (QaT n m (i:Int))
    simp only [decide_eq_true_eq];omega)) fun _ _=>?_
   have hw2:w64 ((i:Int)+1)=((i+1:Nat):Int):=Qy (by omega:i<n.Tasks.length) h.k.2.2.1.1
   refine TotP.ok (QC ⟨by omega,hw2,?_⟩)
   show _=((List.range (w64 ((i:Int)+1)).toNat).flatMap fun (k:Nat)=>QaT n m (k:Int)).take most.toNat
   rw [hw2,Int.toNat_natCast]
  ·simp only [decide_eq_false_iff_not]at hc
   rw [hJ,show i=n.Tasks.length by omega];rfl
 obtain⟨r,h1,h2⟩:=key
 rw [h1,h2]
end Go.Proofs
