/- A part of the proof; what it holds is told at each theorem. -/
import Derived.Test.YtmhljalpjhdpeaaGreatDoorM1P2
import Derived.Test.YtmhljalpjhdpeaaGreatDoorM1P2
import Derived.Test.YtmhljalpjhdpeaaGreatDoorM1P2
import Derived.Test.YtmhljalpjhdpeaaGreatDoorM1P2
set_option linter.unusedVariables false
set_option linter.unusedSimpArgs false
set_option linter.unusedSectionVars false
set_option linter.deprecated false
noncomputable section
namespace Go.Proofs
open Go Go.RowKit Go.Vm
theorem QuF {σ ρ:Type}{b1 b2:σ->Option (σ⊕ρ)}(n:Nat)(I:Nat->σ->Prop)(he:∀i s,I i s->b1 s=b2 s)(hn:∀i s s',I i s->b2 s=some (.inl s')->i<n/\I (i+1) s'):∀s0,I 0 s0->Qz b1 s0=Qz b2 s0:=by
 have key:∀(k i:Nat) s,n<=i+k->I i s->Qz b1 s=Qz b2 s:=by
  intro k
  induction k with
  | zero=>
   intro i s hk hI
   rw [QaU,QaU (body:=b2),he i s hI]
   cases hb:b2 s with
   | none=>rfl
   | some o=>
    cases o with
    | inr r=>rfl
    | inl s'=>have:=(hn i s s' hI hb).1;omega
  | succ k ih=>
   intro i s hk hI
   rw [QaU,QaU (body:=b2),he i s hI]
   cases hb:b2 s with
   | none=>rfl
   | some o=>
    cases o with
    | inr r=>rfl
    | inl s'=>exact ih (i+1) s' (by omega) (hn i s s' hI hb).2
 exact fun s0 h=>key n 0 s0 (by omega) h
structure RN (n:Qn):Prop where
 c:∀c∈n.Colours,IC c
 g:∀t∈n.Tasks,RE t.Guard
 i:∀t∈n.Tasks,∀a∈t.Ins,RE a.Expr
 o:∀t∈n.Tasks,∀a∈t.Outs,RE a.Expr
theorem Qwr {n:Qn}(h:QaT n)(hr:RN n)(task:Int)(vars:List Int):∃r,QdW n task vars=some r/\QiK n task vars=some r/\(r.2=0->(∀x∈r.1,InI x)/\∃e,idx n.Tasks task=some e/\e∈n.Tasks):=by
 unfold QdW QiK
 cases hq:((decide (task<0))||(decide ((n.Tasks.length:Int)<=task)))with
 | true=>exact⟨_,rfl,rfl,fun h=>by cases h⟩
 | false=>
  simp only [QcV,Qal]at hq
  have he:idx n.Tasks task=some (n.Tasks[task.toNat]'(by omega)):=QmM (by omega) (by omega)
  have hm:(n.Tasks[task.toNat]'(by omega))∈n.Tasks:=Qby _
  rw [cond_false,cond_false,he,Ql,Ql]
  generalize (n.Tasks[task.toNat]'(by omega))=e at he hm
  have hv:=(h.tk e hm).1
  by_cases hl:(vars.length:Int)=(e.Vars.length:Int)
  ·rw [show((vars.length:Int) != (e.Vars.length:Int))=false by simpa using hl,cond_false,cond_false,Qq0 (by simp;omega),Ql]
   have mx:(16:Nat)<=maxLen:=by decide
   obtain⟨r,q,e1,e2,e3⟩:=Qwp (b1:=fun st:Int×List Int=>QcT e vars n st.1 st.2) (b2:=fun st:Int×List Int=>QfQ e vars n st.1 st.2) e.Vars.length
    (fun i s t=>s=((i:Int),t.2++List.replicate (e.Vars.length-i) 0)/\t.1=(i:Int)/\t.2.length=i/\∀x∈t.2,InI x) (fun r q=>r=q/\∀l,r=.inr l->∀x∈l,InI x) (fun i s t hi hI=>by
     obtain⟨a,out⟩:=t
     obtain⟨rfl,h2,h3,h4⟩:=hI
     replace h2:a=(i:Int):=h2
     subst h2
     replace h3:out.length=i:=h3
     replace h4:∀x∈out,InI x:=h4
     show(i<e.Vars.length/\∃s' t',QcT e vars n i (out++List.replicate (e.Vars.length-i) 0)=_/\QfQ e vars n i out=_/\_)\/∃r q,QcT e vars n i (out++List.replicate (e.Vars.length-i) 0)=_/\QfQ e vars n i out=_/\_
     unfold QcT QfQ
     by_cases hlt:i<e.Vars.length
     ·rw [QI (by omega:(i:Int)<(e.Vars.length:Int)),cond_true,cond_true,Qae,QG hlt,Qae,QG (show i<vars.length by omega)]
      simp only [Ql]
      obtain⟨y,y1,y2,y3⟩:=QzN h.k.1 hr.c (e.Vars[i]).Colour (vars[i]'(by omega))
      have hrep:List.replicate (e.Vars.length-i) (0:Int)=0::List.replicate (e.Vars.length-(i+1)) 0:=by
       rw [show e.Vars.length-i=(e.Vars.length-(i+1))+1 by omega];rfl
      rw [y1,y2,Ql,Ql]
      cases y.2 with
      | false=>exact .inr ⟨_,_,rfl,rfl,rfl,fun l h=>by cases h⟩
      | true=>
       left
       simp only [Qft,cond_false]
       rw [Qae,hrep,Qcf (by omega),h3,Nat.sub_self,QkL (by simp;omega)]
       refine⟨hlt,_,_,rfl,rfl,?_,Qy hlt (by omega),by simp;omega,fun x hx=>?_⟩
       ·rw [Qy hlt (by omega),Qg7,List.set_append_right _ _ (by omega),h3,Nat.sub_self,Qgb];rfl
       rcases QcH.1 hx with hx | hx
       ·exact h4 x hx
       simp at hx;subst hx;exact y3
     right
     rw [QP (by omega:¬(i:Int)<(e.Vars.length:Int))]
     have:i=e.Vars.length:=by omega
     subst this
     refine⟨_,_,rfl,rfl,?_,fun l hl=>?_⟩
     ·simp
     cases hl;simpa using h4) (0,List.replicate (e.Vars.length:Int).toNat 0) (0,[]) ⟨by simp,rfl,rfl,fun x h=>by cases h⟩
   obtain⟨e3,e4⟩:=e3
   subst e3
   rw [e1,e2]
   rcases r with r | r
   ·exact⟨_,rfl,rfl,fun h=>by cases h⟩
   exact⟨_,rfl,rfl,fun _=>⟨e4 r rfl,e,rfl,hm⟩⟩
  rw [show((vars.length:Int) != (e.Vars.length:Int))=true by simpa using hl]
  exact⟨_,rfl,rfl,fun h=>by cases h⟩
theorem Qrr {n:Qn}(h:QaT n)(hr:RN n){l:List Qat}(hl:QH QiD l)(hre:∀a∈l,RE a.Expr){which env:List Int}(hw:which.length<=1000)(hv:∀x∈env,InI x):QeL n l which env=Qaz n l which env:=by
 unfold QeL Qaz
 congr 1
 funext _
 have mx:(1000:Nat)<=maxLen:=by decide
 have e:Qz (fun st:Int×List (List (Int×Int))=>Qfq which l env n st.1 st.2) (0,(List.replicate (n.Places.length:Int).toNat (([]:(List (Int×Int))):(List (Int×Int)))))=Qz (fun st:Int×List (List (Int×Int))=>Qb6 which l env n st.1 st.2) (0,(List.replicate (n.Places.length:Int).toNat (([]:(List (Int×Int))):(List (Int×Int))))):=by
  refine QuF which.length (fun i s=>s.1=(i:Int)/\i<=which.length/\∀b∈s.2,b.length<=i) (fun i s hI=>?_) (fun i s s' hI hs=>?_) _ ⟨rfl,by omega,fun b hb=>by rw [Qni hb];simp⟩
  ·obtain⟨a,m⟩:=s
   obtain⟨h1,h2,h3⟩:=hI
   replace h1:a=(i:Int):=h1
   subst h1
   replace h3:∀b∈m,b.length<=i:=h3
   show Qfq which l env n i m=Qb6 which l env n i m
   unfold Qfq Qb6
   cases decide ((i:Int)<(which.length:Int))with
   | false=>rfl
   | true=>
    rw [cond_true,cond_true]
    cases idx which (i:Int)with
    | none=>rfl
    | some k=>
     simp only [Ql]
     cases ((decide (k<0))||(decide ((l.length:Int)<=k)))with
     | true=>rfl
     | false=>
      rw [cond_false,cond_false]
      cases hk:idx l k with
      | none=>rfl
      | some a=>
       simp only [Ql]
       have ha:a∈l:=Qaa (Qcq hk).2
       obtain⟨x,x1,x2,x3⟩:=Qym (hl.2 a ha).2 (hre a ha) hv
       rw [x1,x2,Ql,Ql]
       cases (x.2 != 0)with
       | true=>rfl
       | false=>
        rw [cond_false,cond_false]
        cases ((decide (a.Place<0))||(decide ((n.Places.length:Int)<=a.Place)))with
        | true=>rfl
        | false=>
         rw [cond_false,cond_false]
         cases idx n.Places a.Place with
         | none=>rfl
         | some p=>
          simp only [Ql]
          obtain⟨y,y1,y2⟩:=QzO h.k.1 hr.c p.Colour x.1 x3
          rw [y1,y2,Ql,Ql]
          cases hy:y.2 with
          | false=>rfl
          | true=>
           simp only [Qft,cond_false]
           have y0:=Qr1 (Qzj n.Colours p.Colour x.1 h.k.1) y1 hy
           cases hb:idx m a.Place with
           | none=>rfl
           | some b=>
            simp only [Ql]
            have hbl:=h3 b (Qaa (Qcq hb).2)
            rw [QsW,QI y0,cond_true,Ql,QCB (by simp;omega)]
  obtain⟨a,m⟩:=s
  obtain⟨h1,h2,h3⟩:=hI
  replace h1:a=(i:Int):=h1
  subst h1
  replace h3:∀b∈m,b.length<=i:=h3
  replace hs:Qb6 which l env n i m=some (.inl s'):=hs
  unfold Qb6 at hs
  rcases Qm hs with⟨c,hs⟩|⟨_,hs⟩
  ·have hlt:i<which.length:=by simpa using c
   obtain⟨k,_,hs⟩:=Qb hs
   rcases Qm hs with⟨_,hs⟩|⟨_,hs⟩
   ·cases hs
   obtain⟨a,_,hs⟩:=Qb hs
   obtain⟨x,_,hs⟩:=Qb hs
   rcases Qm hs with⟨_,hs⟩|⟨_,hs⟩
   ·cases hs
   obtain⟨a',_,hs⟩:=Qb hs
   rcases Qm hs with⟨_,hs⟩|⟨_,hs⟩
   ·cases hs
   obtain⟨p,_,hs⟩:=Qb hs
   obtain⟨y,_,hs⟩:=Qb hs
   rcases Qm hs with⟨_,hs⟩|⟨_,hs⟩
   ·cases hs
   obtain⟨b,hb,hs⟩:=Qb hs
   obtain⟨o,ho,hs⟩:=Qb hs
   obtain⟨u,hu,hs⟩:=Qb hs
   obtain⟨_,_,hs⟩:=Qb hs
   rcases Qm hs with⟨_,hs⟩|⟨cu,hs⟩
   ·cases hs
   cases hs
   refine⟨hlt,Qy hlt (by omega),by omega,fun c hc=>?_⟩
   have hbl:=h3 b (Qaa (Qcq hb).2)
   rw [QsW]at ho
   have hol:o.length<=1:=by
    rw [<-Option.some.inj ho]
    cases decide (0<=y.1)<;>simp
   rcases Qx0 hc with rfl | hc
   ·rcases Qp7 b o (by omega)with⟨_,e⟩|⟨_,_,_,e⟩|⟨_,_,r,e,_,_,e2⟩
    ·rw [hu]at e;cases e;simp
    ·rw [hu]at e;cases e;simp
    rw [hu]at e;cases e;show r.length<=_;omega
   have:=h3 c hc;omega
  cases hs
 rw [e];rfl
theorem QAQ {n:Qn}(h:QaT n)(hr:RN n){o:Qi}(ho:Qfs n o):QlH n o=Qj1 n o:=by
 unfold QlH Qj1
 obtain⟨r,e1,e2,e3⟩:=Qwr h hr o.Task o.Vars
 rw [e1,e2,Ql,Ql]
 cases hz:(r.2 != 0)with
 | true=>rfl
 | false=>
  obtain⟨hv,e,he,hm⟩:=e3 (by simpa using hz)
  rw [cond_false,cond_false,he,Ql,Ql,Qrr h hr (h.k.2.2.1.2 e hm).2.2.2.2.2.1 (hr.i e hm) (by have:=ho.2.1;omega) hv]
theorem QAR {n:Qn}(h:QaT n)(hr:RN n){o:Qi}(ho:Qfs n o):QlI n o=(QdW n o.Task o.Vars).bind fun x=>bif (x.2 != 0)then some ([],x.2)else(idx n.Tasks o.Task).bind fun e=>(Qaz n e.Outs o.Outs x.1).bind fun y=>some (y.1,y.2):=by
 unfold QlI
 obtain⟨r,e1,e2,e3⟩:=Qwr h hr o.Task o.Vars
 rw [e1,e2,Ql,Ql]
 cases hz:(r.2 != 0)with
 | true=>rfl
 | false=>
  obtain⟨hv,e,he,hm⟩:=e3 (by simpa using hz)
  rw [cond_false,cond_false,he,Ql,Ql,Qrr h hr (h.k.2.2.1.2 e hm).2.2.2.2.2.2.1 (hr.o e hm) (by have:=ho.2.2;omega) hv]
theorem Qvz {a m:List (List (Int×Int))}(ha:QH (QH fun _=>True) a)(hm:QH (QH fun _=>True) m):QhJ a m=Qfh a m:=by
 unfold QhJ Qfh Qag
 cases ((a.length:Int) != (m.length:Int))with
 | true=>rfl
 | false=>
  rw [cond_false,cond_false]
  have e:(fun st=>Qhn a m st)=fun st=>QL a m st:=by
   funext i
   unfold Qhn QL
   cases decide (i<(a.length:Int))with
   | false=>rfl
   | true=>
    rw [cond_true,cond_true]
    cases hx:idx a i with
    | none=>rfl
    | some x=>
     cases hy:idx m i with
     | none=>rfl
     | some y=>
      simp only [Ql]
      rw [QzP (ha.2 x (Qaa (Qcq hx).2)).1 (hm.2 y (Qaa (Qcq hy).2)).1]
  rw [e]
  cases Qz (fun st=>QL a m st) 0 with
  | none=>rfl
  | some q=>cases q<;>rfl
theorem QuS (a b:List Int)(ha:a.length<=maxLen):QhH a b=some (decide (a=b)):=by
 rw [<-Qxg a b ha];rfl
theorem Qxk (kind arcs:Int)(row:List Int):QhI kind arcs row=some (decide (row∈chC kind arcs)):=by
 unfold QhI
 obtain⟨e,hx⟩:=QnR kind arcs
 rw [Qqa,e,Ql]
 generalize chC kind arcs=x at hx
 have mx:(16:Nat)<=maxLen:=by decide
 have hl:=hx.1
 rw [QsR (body:=fun st:Int=>Qc8 x row st) (l:=x) (fun i=>(i:Int)) (fun _ y=>decide (y=row)) (.inl ()) (.inr ()) (fun i y hi hy=>by
  show Qc8 x row i=_
  unfold Qc8
  rw [QI (by omega),cond_true,Qae,hy,Ql,QuS _ _ (by have:=hx.2 y (Qaa hy);omega),Ql,Qy hi (by omega)]
  cases decide (y=row)<;>rfl) (by
  show Qc8 x row x.length=_
  unfold Qc8
  rw [QP (by omega),cond_false]) (s0:=0) rfl,Ql]
 by_cases hm:row∈x
 ·obtain⟨i,hi⟩:=Qlo.1 hm
  have:QmN (fun _ y=>decide (y=row)) 0 x=true:=Qv9.2 ⟨i,row,hi,by simp⟩
  rw [this,QI hm];rfl
 have:QmN (fun _ y=>decide (y=row)) 0 x=false:=QsQ.2 fun i y hy=>QP fun e=>hm (e▸Qaa hy)
 rw [this,QP hm];rfl
theorem QDK {l:List Int}(hl:l.length<=maxLen)(k:Int):QoS l k=some (decide (k∈l)):=by
 unfold QoS
 rw [QsR (body:=fun st:Int=>Qfj l k st) (l:=l) (fun i=>(i:Int)) (fun _ y=>y==k) (.inl ()) (.inr ()) (fun i y hi hy=>by
  show Qfj l k i=_
  unfold Qfj
  rw [QI (by omega),cond_true,Qae,hy,Ql,Qy hi hl]
  cases (y==k)<;>rfl) (by
  show Qfj l k l.length=_
  unfold Qfj
  rw [QP (by omega),cond_false]) (s0:=0) rfl,Ql]
 by_cases hm:k∈l
 ·obtain⟨i,hi⟩:=Qlo.1 hm
  have:QmN (fun _ y=>y==k) 0 l=true:=Qv9.2 ⟨i,k,hi,by simp⟩
  rw [this,QI hm];rfl
 have:QmN (fun _ y=>y==k) 0 l=false:=QsQ.2 fun i y hy=>by
  have:=Qaa hy
  simp only [beq_eq_false_iff_ne]
  intro e;exact hm (e▸this)
 rw [this,QP hm];rfl
theorem QDL {l:List Int}(hl:l.length<=maxLen)(k:Int):QaH l k=some (decide (k∈l)):=by
 unfold QaH Qdj
 rw [QBE (l:=l) (fun y=>k==y) (fun i x hi hx=>by
  show QaG l k i=_
  unfold QaG
  rw [QI (by omega),cond_true,Qae,hx,Ql,Qy hi hl]
  cases (k==x)<;>rfl) (by
  show QaG l k l.length=_
  unfold QaG
  rw [QP (by omega),cond_false])]
 have e:decide (k∈l)=l.any fun y=>k==y:=by
  apply Qr6.2
  simp [Qma]
 rw [e,<-QCN]
 cases QkM (fun _ y=>k==y) 0 l<;>rfl
end Go.Proofs
noncomputable section
namespace Go.Proofs
open Go Go.RowKit Go.Vm
def chP (arcs:Nat):Bool:=((Qay 3 arcs).getD []).all fun row=>(List.range arcs).all fun k=>decide ((k:Int)∈row)||decide (Qnw row k=some (Qep (row++[(k:Int)])))
theorem QDM {arcs:Nat}{row:List Int}(h:row∈chC 3 arcs){k:Nat}(hk:k<arcs)(hn:(k:Int) ∉ row):Qnw row k=some (Qep (row++[(k:Int)])):=by
 by_cases h4:arcs<=4
 ·have c:chP arcs=true:=by
   rcases show arcs=0\/arcs=1\/arcs=2\/arcs=3\/arcs=4 by omega with e | e | e | e | e<;>subst e<;>kernel_rfl
  have:=Qad.1 (Qad.1 c row h) k (Qi1.2 hk)
  rw [QP hn,Bool.false_or]at this
  exact Qap this
 exfalso
 unfold chC Qay at h
 have:((decide ((arcs:Int)<0))||((decide ((16:Int)<(arcs:Int)))||(((3:Int)==3)&&(decide ((4:Int)<(arcs:Int))))))=true:=by simp;omega
 rw [this]at h
 simp at h
theorem QAS {n:Qn}(h:QaT n)(hr:RN n){m:List (List (Int×Int))}(hm:QH (QH fun _=>True) m){o:Qi}(ho:Qfs n o){e:QF}(he:e∈n.Tasks)(hj:e.Join=3){env:List Int}{z:Int}(hv:∀x∈env,InI x)(hch:o.Ins∈chC e.Join e.Ins.length):
  Qz (fun st=>Qca e o n (env,z) m st) 0=Qz (fun st=>Qan (QM.mk n m e env) o.Ins st) 0:=by
 have hi:=(h.tk e he).2.1
 have mx:(1000:Nat)<=maxLen:=by decide
 have hil:=ho.2.1
 rw [hj]at hch
 refine QuF (b1:=fun st=>Qca e o n (env,z) m st) (b2:=fun st=>Qan (QM.mk n m e env) o.Ins st) e.Ins.length (fun i s=>s=(i:Int)) (fun i s hI=>?_) (fun i s s' hI hs=>?_) 0 rfl
 ·subst hI
  show Qca e o n (env,z) m i=Qan (QM.mk n m e env) o.Ins i
  unfold Qca Qan
  rw [hj,show((3:Int)==3)=true from rfl,Bool.and_true]
  by_cases hlt:i<e.Ins.length
  ·rw [QI (by omega:(i:Int)<(e.Ins.length:Int)),cond_true,cond_true,QDK (by omega),QDL (by omega),Ql,Ql]
   by_cases hin:(i:Int)∈o.Ins
   ·rw [QI hin];rfl
   rw [QP hin,cond_false,cond_false,QDM hch hlt hin,QfL _ (by omega),Ql,Ql,QkL (by simp;omega),Ql,Qzl _ (by simp;omega),Ql,QkL (QhR _),Ql]
   show(QeL n e.Ins _ env).bind _=_
   rw [Qrr h hr (h.k.2.2.1.2 e he).2.2.2.2.2.1 (hr.i e he) (by rw [QhR];simp;omega) hv]
   show _=(Qaz n e.Ins _ env).bind _
   cases hx:Qaz n e.Ins (Qep (o.Ins++[(i:Int)])) env with
   | none=>rfl
   | some x=>
    simp only [Ql]
    have:=Qr1 (Qp8 n e.Ins _ env h (h.k.2.2.1.2 e he).2.2.2.2.2.1 (by rw [QhR];simp;omega)) hx
    unfold QpT Qg3
    cases hz:(x.2==0)with
    | false=>rfl
    | true=>
     rw [cond_true,cond_true,Qvz ((this (by simpa using hz)).1.len h (by rw [QhR];simp;omega)) hm]
     rfl
  rw [QP (by omega:¬(i:Int)<(e.Ins.length:Int))];rfl
 subst hI
 replace hs:Qan (QM.mk n m e env) o.Ins i=some (.inl s'):=hs
 unfold Qan at hs
 rcases Qm hs with⟨c,hs⟩|⟨_,hs⟩
 ·have hlt:i<e.Ins.length:=by
   have:(i:Int)<(e.Ins.length:Int):=Qap c
   omega
  refine⟨hlt,?_⟩
  have fin:∀s',Qcl (i:Int)=some (.inl s')->s'=((i+1:Nat):Int):=fun s' h=>by
   unfold Qcl at h
   rw [<-Qy (n:=e.Ins.length) hlt (by omega)];cases h;rfl
  obtain⟨_,_,hs⟩:=Qb hs
  rcases Qm hs with⟨_,hs⟩|⟨_,hs⟩
  ·exact fin s' hs
  obtain⟨_,_,hs⟩:=Qb hs
  obtain⟨_,_,hs⟩:=Qb hs
  obtain⟨_,_,hs⟩:=Qb hs
  obtain⟨_,_,hs⟩:=Qb hs
  obtain⟨_,_,hs⟩:=Qb hs
  obtain⟨_,_,hs⟩:=Qb hs
  unfold Qdk at hs
  rcases Qm hs with⟨_,hs⟩|⟨_,hs⟩
  ·cases hs
  exact fin s' hs
 cases hs
theorem QAT {n:Qn}(h:QaT n)(hr:RN n){m:List (List (Int×Int))}(hm:QH (QH fun _=>True) m){o:Qi}(ho:Qfs n o):QlJ n m o=Qcc n m o:=by
 have hN:=QAQ h hr ho
 have hG:=QAR h hr ho
 unfold Qj1 at hN
 unfold QlJ Qcc Qa1
 obtain⟨⟨env,z⟩,e1,e2,e3⟩:=Qwr h hr o.Task o.Vars
 rw [e1]at hN hG
 rw [e1,e2]
 simp only [Ql]at hN hG ⊢
 cases hz:(z != 0)with
 | true=>
  have hz2:(z==0)=false:=by simpa using hz
  rw [cond_true,cond_true,Ql]
  simp only [hz2,cond_false]
  unfold Qbt
  rw [hz];rfl
 | false=>
  have hz0:z=0:=by simpa using hz
  obtain⟨hv,e,he,hmem⟩:=e3 hz0
  rw [hz,cond_false,he,Ql]at hN hG
  rw [cond_false,cond_false,he,Ql,Ql,Ql]
  simp only [show((0:Int)==0)=true from rfl,cond_true]
  obtain⟨x,x1,x2,_⟩:=Qym (h.k.2.2.1.2 e hmem).2.2.1 (hr.g e hmem) hv
  unfold Q5
  simp only [x1,x2,Ql]
  cases hx:(x.2 != 0)with
  | true=>
   simp only [cond_true,Ql]
   unfold Qbt
   rw [hx];rfl
  | false=>
   simp only [cond_false]
   cases hx0:(x.1==0)with
   | true=>rfl
   | false=>
    simp only [cond_false,Ql]
    unfold Qbt QgG QdZ
    simp only [show((0:Int) != 0)=false from rfl,cond_false]
    rw [Qxk,Qxk,QiM,QiM,Ql,Ql,Ql]
    by_cases c1:o.Ins∈chC e.Join e.Ins.length
    ·by_cases c2:o.Outs∈chC e.Split e.Outs.length
     ·rw [QI c1,QI c2]
      simp only [Qft,Bool.or_false,cond_false,Ql]
      rw [hN]
      unfold Q3 Qam
      show _=(((Qaz n e.Ins o.Ins env).bind _).bind _:Option Int)
      have kt:=Qp8 n e.Ins o.Ins env h (h.k.2.2.1.2 e hmem).2.2.2.2.2.1 (by have:=ho.2.1;omega)
      obtain⟨T,hT,hT2⟩:=kt
      rw [hT]
      simp only [Ql]
      cases ht:(T.2 != 0)with
      | true=>
       simp only [cond_true,Ql,ht]
      | false=>
       simp only [cond_false]
       rw [Qvz ((hT2 (by simpa using ht)).1.len h (by have:=ho.2.1;omega)) hm]
       obtain⟨w,hw,_⟩:=Qwo T.1 m ((hT2 (by simpa using ht)).1.len h (by have:=ho.2.1;omega)) hm
       rw [hw]
       simp only [Ql]
       cases w with
       | false=>rfl
       | true=>
        simp only [Qft,cond_false]
        have fin:QeM n o=(Qaz n e.Outs o.Outs env).bind fun x=>some x.2:=by
         unfold QeM
         rw [hG]
         cases Qaz n e.Outs o.Outs env with
         | none=>rfl
         | some y=>rfl
        by_cases hj:e.Join=3
        ·rw [QAS h hr hm ho hmem hj hv c1]
         simp only [hj,show((3:Int) != 3)=false from rfl,cond_false]
         cases Qz (fun st=>Qan (QM.mk n m e env) o.Ins st) 0 with
         | none=>rfl
         | some q=>
          rcases q with q | q
          ·rfl
          show QeM n o=_
          rw [fin]
          cases Qaz n e.Outs o.Outs env<;>rfl
        have hjb:(e.Join==3)=false:=by simpa using hj
        have hjn:(e.Join != 3)=true:=by simpa using hj
        simp only [hjn,cond_true,Ql,show((0:Int) != 0)=false from rfl,cond_false]
        have:Qz (fun st=>Qca e o n (env,z) m st) 0=some (.inr ()):=by
         refine Qny.2 (.done ?_)
         show Qca e o n (env,z) m 0=_
         unfold Qca
         rw [hjb,Bool.and_false];rfl
        rw [this]
        show QeM n o=_
        rw [fin]
        cases Qaz n e.Outs o.Outs env<;>rfl
     rw [QI c1,QP c2];rfl
    rw [QP c1];rfl
end Go.Proofs
noncomputable section
namespace Go.Proofs
open Go Go.RowKit Go.Vm
theorem Qyp {α β:Type}{l:List α}(g:α->List β){most:Nat}{body:Int×List β->Option ((Int×List β)⊕(List β⊕List β))}(A:Nat)(hl:l.length<=maxLen)
  (hb:∀(i:Nat) acc x,acc.length<most->acc.length+(g x).length<=A->i<l.length->l[i]? = some x->body ((i:Int),acc)=some (match adv most acc (g x)with | .inl a=>.inr (.inl a) | .inr a=>.inl (w64 ((i:Int)+1),a)))
  (hf:∀acc,body ((l.length:Int),acc)=some (.inr (.inr acc))) {acc:List β} (ha:acc.length<most) (hA:acc.length+(l.flatMap g).length<=A):Qz body (0,acc)=some (adv most acc (l.flatMap g)):=by
 have key:∀(k i:Nat) acc,i+k=l.length->acc.length<most->acc.length+((l.drop i).flatMap g).length<=A->Qz body ((i:Int),acc)=some (adv most acc ((l.drop i).flatMap g)):=by
  intro k
  induction k with
  | zero=>
   intro i acc hk ha hA
   obtain rfl:i=l.length:=by omega
   rw [QaU,hf,List.drop_length]
   show _=some (adv most acc [])
   rw [Ql7 ha];rfl
  | succ k ih=>
   intro i acc hk ha hA
   have hi:i<l.length:=by omega
   rw [Qnh hi,QhV,Qb0]at hA
   rw [QaU,hb i acc l[i] ha (by omega) hi (QG hi),Qnh hi,QhV,QuQ]
   cases hx:adv most acc (g l[i])with
   | inl a=>rfl
   | inr a=>
    simp only
    show Qz body (w64 ((i:Int)+1),a)=_
    rw [Qy hi hl]
    refine ih (i+1) a (by omega) (Qw1 hx) ?_
    have:=congrArg List.length (QuR hx)
    rw [Qb0]at this
    omega
 have:=key l.length 0 acc (by omega) ha (by rw [List.drop_zero];exact hA)
 rwa [List.drop_zero]at this
def Qzu (n:Qn)(m:List (List (Int×Int)))(o:Qi):Bool:=decide (Qcc n m o=some 0)
def QsY (n:Qn)(m:List (List (Int×Int)))(o:Qi):List Qi:=if Qzu n m o=true then [o]else []
theorem Qzv {α β:Type}(p:α->Bool)(f:α->β):∀l:List α,l.flatMap (fun x=>if p x=true then [f x]else [])=(l.filter p).map f
 | []=>rfl
 | x::l=>by
  rw [QhV,Qzv p f l,Qlk]
  cases p x<;>rfl
theorem Qne {α β:Type}{g:α->List β}:∀{l:List α},(∀x∈l,g x=[])->l.flatMap g=[]
 | [],_=>rfl
 | x::l,h=>by rw [QhV,h x Qbz,Qne fun y hy=>h y (Qb1 _ hy)];rfl
theorem QsZ {α β:Type}{f g:α->List β}:∀{l:List α},(∀x∈l,f x=g x)->l.flatMap f=l.flatMap g
 | [],_=>rfl
 | x::l,h=>by rw [QhV,QhV,h x Qbz,QsZ fun y hy=>h y (Qb1 _ hy)]
theorem QBJ {n:Qn}(h:QaT n){m:List (List (Int×Int))}(hm:QH (QH fun _=>True) m){task:Int}{e:QF}(he:idx n.Tasks task=some e){p:List Int}(hp:p.length<=20):
  Qdm n m task (chC e.Join e.Ins.length) (chC e.Split e.Outs.length) p=(chC e.Join e.Ins.length).flatMap fun i=>(chC e.Split e.Outs.length).flatMap fun k=>QsY n m (Qi.mk task p i k):=by
 have r1:=(QnR e.Join e.Ins.length).2
 have r2:=(QnR e.Split e.Outs.length).2
 have key:∀i∈chC e.Join e.Ins.length,∀k∈chC e.Split e.Outs.length,(Qzu n m (Qi.mk task p i k)=true↔∃b,Qa1 n m task p=some (0,b)/\Q5 b=some 0/\Q3 b i=some 0/\Qam b k=some 0):=fun i hi k hk=>by
  unfold Qzu
  rw [decide_eq_true_iff,QBB h hm ⟨hp,by have:=r1.2 i hi;show i.length<=20;omega,by have:=r2.2 k hk;show k.length<=20;omega⟩,QuB]
  constructor
  ·rintro ⟨_,e',he',_,_,_,b,hb⟩;exact⟨b,hb⟩
  rintro ⟨b,b1,b2⟩
  obtain⟨k1,_,_,_,k2,_⟩:=QoV h b1
  rw [he]at k1
  cases k1
  exact⟨rfl,_,he,k2.1,hi,hk,b,b1,b2⟩
 unfold Qdm QsY
 cases hb:Qa1 n m task p with
 | none=>
  symm
  refine Qne fun i hi=>Qne fun k hk=>if_neg fun c=>?_
  obtain⟨b,b1,_⟩:=(key i hi k hk).1 c
  rw [hb]at b1;cases b1
 | some x=>
  obtain⟨c,b⟩:=x
  simp only
  by_cases hc:c=0/\Q5 b=some 0
  ·rw [if_pos hc]
   refine QsZ fun i hi=>?_
   by_cases ht:Q3 b i=some 0
   ·rw [if_pos ht,<-Qzv]
    refine QsZ fun k hk=>?_
    have e:gdB b k=Qzu n m (Qi.mk task p i k):=by
     apply Qr6.2
     rw [key i hi k hk]
     unfold gdB
     rw [decide_eq_true_iff]
     constructor
     ·intro hg;exact⟨b,by rw [hb,hc.1],hc.2,ht,hg⟩
     rintro ⟨b',b1,_,_,b2⟩
     rw [hb]at b1;cases b1;exact b2
    rw [e]
   rw [if_neg ht]
   symm
   refine Qne fun k hk=>if_neg fun c=>?_
   obtain⟨b',b1,_,b2,_⟩:=(key i hi k hk).1 c
   rw [hb]at b1;cases b1;exact ht b2
  rw [if_neg hc]
  symm
  refine Qne fun i hi=>Qne fun k hk=>if_neg fun c=>?_
  obtain⟨b',b1,b2,_⟩:=(key i hi k hk).1 c
  rw [hb]at b1;cases b1;exact hc ⟨rfl,b2⟩
theorem QDc {α:Type}{most:Nat}{acc:List α}{x:α}(h:acc.length<most):adv most acc [x]=if most<=acc.length+1 then .inl (acc++[x])else .inr (acc++[x]):=by
 unfold adv
 by_cases c:most<=acc.length+1
 ·rw [if_pos c,if_neg (by simp;omega),QgB (by simp;omega)]
 rw [if_neg c,if_pos (by simp;omega)]
theorem QBK {n:Qn}(h:QaT n)(hr:RN n){m:List (List (Int×Int))}(hm:QH (QH fun _=>True) m){task most:Int}{ins outs:List (List Int)}{p:List Int}(hi:Qd8 ins)(ho:Qd8 outs)(hp:p.length<=20){acc:List Qi}(ha:acc.length<most.toNat)
  (hs:most<=4294967296\/acc.length+(ins.flatMap fun i=>outs.flatMap fun k=>QsY n m (Qi.mk task p i k)).length<=4294967296):
  Qz (fun st=>QcQ ins outs p n m task most st.1 st.2) (0,acc)=some (adv most.toNat acc (ins.flatMap fun i=>outs.flatMap fun k=>QsY n m (Qi.mk task p i k))):=by
 have mx:(1000:Nat)<=maxLen:=by decide
 have hi1:=hi.1
 have ho1:=ho.1
 obtain⟨A,hA,hA2⟩:∃A,acc.length+(ins.flatMap fun i=>outs.flatMap fun k=>QsY n m (Qi.mk task p i k)).length<=A/\(most<=4294967296\/A<=4294967296):=⟨_,Qb2 _,hs⟩
 refine Qyp (l:=ins) (fun i=>outs.flatMap fun k=>QsY n m (Qi.mk task p i k)) (body:=fun st:Int×List Qi=>QcQ ins outs p n m task most st.1 st.2) A (by omega) (fun i acc x h1 h2 hlt hx=>?_) (fun acc=>?_) ha hA
 ·show QcQ ins outs p n m task most i acc=_
  have hxl:=hi.2 x (Qaa hx)
  unfold QcQ
  rw [QI (by omega:(i:Int)<(ins.length:Int)),cond_true]
  rw [Qyp (l:=outs) (fun k=>QsY n m (Qi.mk task p x k)) (body:=fun st:Int×List Qi=>Qdz outs p ins i n m task most st.1 st.2) A (by omega) (fun k acc y g1 g2 glt gy=>by
   show Qdz outs p ins i n m task most k acc=_
   have hyl:=ho.2 y (Qaa gy)
   have hck:∃c,Qcc n m (Qi.mk task p x y)=some c:=(QC4 n m (Qi.mk task p x y) h hm ⟨hp,by show x.length<=20;omega,by show y.length<=20;omega⟩).tot
   obtain⟨c,hc⟩:=hck
   unfold Qdz Qip
   rw [QI (by omega:(k:Int)<(outs.length:Int)),cond_true,QkL (by simp;omega),Ql,Qae,hx,Ql,Qae,gy,Ql,List.nil_append,QAT h hr hm ⟨hp,by show x.length<=20;omega,by show y.length<=20;omega⟩,hc,Ql]
   unfold QsY Qzu at g2 ⊢
   rw [hc]at g2 ⊢
   by_cases hc0:c=0
   ·subst hc0
    rw [if_pos (by simp)]at g2 ⊢
    rw [QDc g1]
    simp only [show((0:Int)==0)=true from rfl,cond_true]
    rw [Qi0]at g2
    rw [QkL (by rw [Qi0];omega),Ql,Qb0,Qi0]
    by_cases hcut:most.toNat<=acc.length+1
    ·rw [if_pos hcut,QI (by omega:most<=((acc.length+1:Nat):Int))];rfl
    rw [if_neg hcut,QP (by omega:¬most<=((acc.length+1:Nat):Int))];rfl
   ·have e1:(c==0)=false:=by simpa using hc0
    rw [if_neg (by simpa using hc0),Ql7 g1,e1];rfl) (fun acc=>by
   show Qdz outs p ins i n m task most outs.length acc=_
   unfold Qdz
   rw [QP (by omega)];rfl) h1 h2,Ql]
  cases adv most.toNat acc (outs.flatMap fun k=>QsY n m (Qi.mk task p x k))<;>rfl
 show QcQ ins outs p n m task most ins.length acc=_
 unfold QcQ
 rw [QP (by omega)];rfl
theorem QBL {n:Qn}(h:QaT n)(hr:RN n)(t:QF)(s:Int×List Int):Qz (fun st=>Qf8 t n st.1 st.2) s=Qz (fun st=>Qax t n st.1 st.2) s:=by
 have e:(fun st:Int×List Int=>Qf8 t n st.1 st.2)=fun st=>Qax t n st.1 st.2:=by
  funext st
  unfold Qf8 Qax QpY Qfz
  simp only [QBH h.k.1 hr.c]
  rfl
 rw [e]
theorem QzQ {n:Qn}(h:QaT n)(hr:RN n){m:List (List (Int×Int))}(hm:QH (QH fun _=>True) m){task most:Int}(hmost:most<=4294967296\/(QaP n m task).length<=4294967296):Qej n m task most=some ((QaP n m task).take most.toNat):=by
 have key:Qg (Qej n m task most) fun r=>r=(QaP n m task).take most.toNat:=by
  unfold Qej
  refine T1 (fun hc=>T2 ?_) fun hc=>?_
  ·simp only [Qcs,QQ]at hc
   rcases hc with hc | hc | hc
   ·unfold QaP idx
    rw [if_neg (by omega)];simp
   ·unfold QaP idx
    rw [if_pos (by omega),List.getElem?_eq_none (by omega)];simp
   rw [show most.toNat=0 by omega,Qsb]
  simp only [QcV,Qal]at hc
  refine T0 (T4 (by omega) (by omega)).self fun e he=>?_
  have hv:=(h.tk e he.2).1
  refine T0 (T5 (by simp only [QB,QQ];omega)) fun _ _=>?_
  obtain⟨c1,r1⟩:=QnR e.Join e.Ins.length
  obtain⟨c2,r2⟩:=QnR e.Split e.Outs.length
  rw [Qqa,c1,Ql,Qqa,c2,Ql]
  have hsz:(szB n e).length=e.Vars.length:=by simp [szB]
  have hml:QaP n m task=(binds (szB n e)).flatMap (Qdm n m task (chC e.Join e.Ins.length) (chC e.Split e.Outs.length)):=by
   unfold QaP;rw [he.1]
  have hrd:∀p:List Int,p.length<=20->Qdm n m task (chC e.Join e.Ins.length) (chC e.Split e.Outs.length) p=_:=fun p hp=>QBJ h hm he.1 hp
  rw [hml]at hmost ⊢
  generalize hrl:Qdm n m task (chC e.Join e.Ins.length) (chC e.Split e.Outs.length)=rl at hmost hrd ⊢
  refine T0 (QuA (fun st:Bool×List Int×List Qi=>bif st.1 then(Qbj (szB n e) st.2.1).length+1 else 0)
   (fun st=>(st.1=true->st.2.1.length=e.Vars.length/\(∀d∈st.2.1,0<=d/\d<=1024)/\(st.2.2.length:Int)<most/\adv most.toNat st.2.2 ((st.2.1::Qbj (szB n e) st.2.1).flatMap rl)=adv most.toNat [] ((binds (szB n e)).flatMap rl)/\st.2.2.length+((st.2.1::Qbj (szB n e) st.2.1).flatMap rl).length=((binds (szB n e)).flatMap rl).length)/\
    (st.1=false->Sum.inr st.2.2=adv most.toNat [] ((binds (szB n e)).flatMap rl)))
   (Q:=fun q:List Qi⊕List Qi=>q=adv most.toNat [] ((binds (szB n e)).flatMap rl)) ⟨fun _=>⟨by simp,fun d hd=>by have:=Qni hd;omega,by simp;omega,?_⟩,fun h=>(by cases h)⟩ (fun st hJ=>?_)) (fun q hq=>?_)
  ·show adv most.toNat [] ((List.replicate (e.Vars.length:Int).toNat 0::Qbj (szB n e) (List.replicate (e.Vars.length:Int).toNat 0)).flatMap rl)=_/\0+((List.replicate (e.Vars.length:Int).toNat 0::Qbj (szB n e) (List.replicate (e.Vars.length:Int).toNat 0)).flatMap rl).length=_
   rw [Qro (szB n e),QiC,hsz,Qg7,Qlr]
   exact⟨rfl,rfl⟩
  ·obtain⟨mo,d,l⟩:=st
   obtain⟨hT,hF⟩:=hJ
   show Qg (Qhq (chC e.Join e.Ins.length) (chC e.Split e.Outs.length) n m task most e mo d l) _
   unfold Qhq
   cases mo with
   | false=>exact T2 ⟨fun s' e=>(by cases e),fun q eq=>(by cases eq;exact hF rfl)⟩
   | true=>
    obtain⟨j1,j2,j3,j4,j5⟩:d.length=e.Vars.length/\(∀d'∈d,0<=d'/\d'<=1024)/\(l.length:Int)<most/\adv most.toNat l ((d::Qbj (szB n e) d).flatMap rl)=adv most.toNat [] ((binds (szB n e)).flatMap rl)/\l.length+((d::Qbj (szB n e) d).flatMap rl).length=((binds (szB n e)).flatMap rl).length:=hT rfl
    rw [QhV,Qb0]at j5
    rw [cond_true,QBK h hr hm r1 r2 (by omega) (by omega) (by rw [<-hrd d (by omega)];omega),<-hrd d (by omega),Ql]
    rw [QhV,QuQ]at j4
    cases hrr:adv most.toNat l (rl d)with
    | inl r=>
     rw [hrr]at j4
     exact T2 ⟨fun s' e=>(by cases e),fun q eq=>(by cases eq;exact j4)⟩
    | inr r=>
     rw [hrr]at j4
     have hacc:=Qw1 hrr
     have hlen:=congrArg List.length (QuR hrr)
     rw [Qb0]at hlen
     replace j4:adv most.toNat r ((Qbj (szB n e) d).flatMap rl)=adv most.toNat [] ((binds (szB n e)).flatMap rl):=j4
     show Qg (Qhp e n d r) _
     unfold Qhp
     rw [QBL h hr]
     refine T0 (Qyj e n d h.k j1 hv j2) fun q hq=>?_
     obtain⟨a,d2⟩:=q
     obtain⟨⟨q1,q2,q3⟩,q4,q5⟩:(-1<=a/\a<d.length/\d2=d.take (a+1).toNat++List.replicate (d.length-(a+1).toNat) 0)/\(∀(j:Nat) x s,a<(j:Int)->d[j]? = some x->(szB n e)[j]? = some s->¬x+1<s)/\∀x s,0<=a->d[a.toNat]? = some x->(szB n e)[a.toNat]? = some s->x+1<s/\x<1024:=hq
     have hnx:=Qw0 (szB n e) d
     show Qg (Qho r a d2) _
     unfold Qho
     by_cases ha:0<=a
     ·have hlt:a.toNat<d.length:=by omega
      have hls:a.toNat<(szB n e).length:=by omega
      have ed:idx d2 a=some d[a.toNat]:=by
       rw [QeN (by omega),q3,Qbf (by simp;omega),Qbx,if_pos (by omega),QG hlt]
      rw [QI ha,cond_true,ed,Ql,Ql]
      have h9:=q5 _ _ (by omega) (QG hlt) (QG hls)
      have h10:=j2 _ (Qby hlt)
      rw [Q7 (by omega)]
      have e3:d2.set a.toNat (d[a.toNat]+1)=d.take a.toNat++(d[a.toNat]+1)::List.replicate (d.length-(a.toNat+1)) 0:=by
       rw [q3,show(a+1).toNat=a.toNat+1 by omega,Qp9 hlt]
      rw [e3]
      have hd3:∀x∈d.take a.toNat++(d[a.toNat]+1)::List.replicate (d.length-(a.toNat+1)) 0,0<=x/\x<=1024:=fun x hx=>by
       rcases QcH.1 hx with hx | hx
       ·exact j2 x (QeQ hx)
       rcases QaK.1 hx with rfl | hx
       ·omega
       have:=Qni hx;omega
      have hlen2:(d.take a.toNat++(d[a.toNat]+1)::List.replicate (d.length-(a.toNat+1)) 0).length=e.Vars.length:=by simp;omega
      rw [QzT a.toNat (szB n e) d _ _ (by omega) (QG hlt) (QG hls) h9.1 fun j y z hj=>q4 j y z (by omega)]at hnx
      simp only at hnx
      rw [hnx]at j4
      exact T2 ⟨fun s' e'=>(by
       cases e'
       refine⟨?_,fun _=>⟨hlen2,hd3,by show(r.length:Int)<most;omega,j4,by show r.length+(List.flatMap rl (_::_)).length=_;rw [<-hnx];omega⟩,fun h=>(by cases h)⟩
       show(Qbj (szB n e) (d.take a.toNat++(d[a.toNat]+1)::List.replicate (d.length-(a.toNat+1)) 0)).length+1<(Qbj (szB n e) d).length+1
       rw [hnx,QeP];omega),fun q e'=>(by cases e')⟩
     rw [QP ha,cond_false]
     refine T2 ⟨fun s' e'=>(by
      cases e'
      refine⟨?_,(fun h=>by cases h),fun _=>?_⟩
      ·show 0<(Qbj (szB n e) d).length+1
       omega
      rw [Quj (szB n e) d fun j x s=>q4 j x s (by omega)]at hnx
      simp only at hnx
      rw [hnx,List.flatMap_nil,Ql7 hacc]at j4
      exact j4),fun q e'=>(by cases e')⟩
  rw [<-Qzg (by omega:0<most.toNat),<-hq]
  rcases q with q | q<;>exact T2 rfl
 obtain⟨r,h1,h2⟩:=key
 rw [h1,h2]
theorem Qxl {n:Qn}(h:QaT n)(hr:RN n){m:List (List (Int×Int))}(hm:QH (QH fun _=>True) m){task most:Int}(hmost:most<=4294967296\/(QaP n m task).length<=4294967296):Qej n m task most=QbT n m task most:=by
 rw [QzQ h hr hm hmost,QmP n m task most h hm hmost]
end Go.Proofs
noncomputable section
namespace Go.Proofs
open Go Go.RowKit Go.Vm
theorem QCC {n:Qn}(h:QaT n)(hr:RN n){m:List (List (Int×Int))}(hm:QH (QH fun _=>True) m){most:Int}(hi:InI most)(hb:most<=4294967296\/∀k:Nat,(QaP n m (k:Int)).length<=4294967296):Qli n m most=QfA n m most:=by
 unfold Qli QfA
 have mx:(12:Nat)<=maxLen:=by decide
 have htl:=h.tl
 unfold InI at hi
 have e:Qz (fun st:Int×List Qi=>QhK n m most st.1 st.2) (0,[])=Qz (fun st:Int×List Qi=>Qdo n m most st.1 st.2) (0,[]):=by
  have hms:∀(i:Nat) (l:List Qi),(l.length:Int)<=max most 0->w64 (most-(l.length:Int))<=4294967296\/(QaP n m (i:Int)).length<=4294967296:=fun i l hl=>by
   rcases hb with hb | hb
   ·left
    by_cases h0:0<=most
    ·rw [Q7 (by omega)];omega
    rw [Q7 (by omega)];omega
   exact .inr (hb i)
  refine QuF n.Tasks.length (fun i s=>s.1=(i:Int)/\(s.2.length:Int)<=max most 0) (fun i s hI=>?_) (fun i s s' hI hs=>?_) _ ⟨rfl,by simp;omega⟩
  ·obtain⟨x,l⟩:=s
   obtain⟨h1,h2⟩:=hI
   replace h1:x=(i:Int):=h1
   subst h1
   replace h2:(l.length:Int)<=max most 0:=h2
   show QhK n m most i l=Qdo n m most i l
   unfold QhK Qdo
   rw [Qxl h hr hm (hms i l h2)]
  obtain⟨x,l⟩:=s
  obtain⟨h1,h2⟩:=hI
  replace h1:x=(i:Int):=h1
  subst h1
  replace h2:(l.length:Int)<=max most 0:=h2
  replace hs:Qdo n m most i l=some (.inl s'):=hs
  unfold Qdo at hs
  rcases Qm hs with⟨c,hs⟩|⟨_,hs⟩
  ·have hlt:i<n.Tasks.length:=by simpa using c
   rw [QmP n m i _ h hm (hms i l h2),Ql]at hs
   obtain⟨_,_,hs⟩:=Qb hs
   cases hs
   refine⟨hlt,Qy hlt (by omega),?_⟩
   show((l++(QaP n m (i:Int)).take (w64 (most-(l.length:Int))).toNat).length:Int)<=_
   have:=List.length_take_le (w64 (most-(l.length:Int))).toNat (QaP n m (i:Int))
   rw [Qb0]
   by_cases h0:0<=most
   ·rw [Q7 (by omega)]at this ⊢;omega
   rw [Q7 (by omega)]at this ⊢;omega
  cases hs
 rw [e];rfl
theorem QBM {α:Type}(l:List α):QmN (fun _ _=>false) 0 l=false:=QsQ.2 fun _ _ _=>rfl
theorem Qxm {n:Qn}{l:List Qi}(hl:l.length<=maxLen)(h:∀o∈l,Qfs n o):Qek l l=some true:=by
 have mx:(20:Nat)<=maxLen:=by decide
 unfold Qek
 rw [show((l.length:Int) != (l.length:Int))=false by simp,cond_false,QsR (body:=fun st=>QdA l l st) (l:=l) (fun i=>(i:Int)) (fun _ _=>false) (.inl ()) (.inr ()) (fun i x hi hx=>by
  show QdA l l i=_
  unfold QdA Qp0 QqZ QjF
  obtain⟨h1,h2,h3⟩:=h x (Qaa hx)
  rw [QI (by omega),cond_true,Qae,hx,Ql,Ql,show(x.Task==x.Task)=true by simp,QuS _ _ (by omega),QuS _ _ (by omega),QuS _ _ (by omega),Qy hi hl]
  simp) (by
  show QdA l l l.length=_
  unfold QdA
  rw [QP (by omega),cond_false]) (s0:=0) rfl,QBM]
 rfl
end Go.Proofs
noncomputable section
namespace Go.Proofs
open Go Go.RowKit Go.Vm
def Qgo : List Int->Nat
 | []=>1
 | s::r=>(1+(s-1).toNat)*Qgo r
theorem Qws {α β:Type}{f:α->List β}{c:Nat}:∀{l:List α},(∀x∈l,(f x).length<=c)->(l.flatMap f).length<=l.length*c:=by
 intro l
 induction l with
 | nil=>intro _;simp
 | cons x l ih=>
  intro h
  have h1:=ih fun y hy=>h y (Qb1 _ hy)
  have h2:=h x Qbz
  rw [QhV,Qb0,QeP,Nat.succ_mul]
  omega
theorem QDd (x:Int)(k:Nat):(upL x k).length=k:=by
 induction k generalizing x with
 | zero=>rfl
 | succ k ih=>simp [upL,ih]
theorem QBN (l:List Int):(binds l).length<=Qgo l:=by
 induction l with
 | nil=>exact Qb2 _
 | cons s r ih=>
  rw [binds,Qgo]
  have:=Qws (f:=fun x=>(binds r).map (x::·)) (c:=Qgo r) (l:=0::upL 1 (s-1).toNat) fun x _=>by simpa using ih
  rw [QeP,QDd]at this
  rwa [Nat.add_comm 1]
theorem QBO (l:List Int)(s:Int):Qgo (l++[s])=Qgo l*(1+(s-1).toNat):=by
 induction l with
 | nil=>simp [Qgo]
 | cons x l ih=>simp only [Qr7,Qgo,ih,Nat.mul_assoc]
theorem QBP (l:List Int):0<Qgo l:=by
 induction l with
 | nil=>decide
 | cons s r ih=>exact Nat.mul_pos (by omega) ih
theorem QBQ (n:Qn)(m:List (List (Int×Int)))(task:Int){ins outs:List (List Int)}(p:List Int)(hi:ins.length<=16)(ho:outs.length<=16):(Qdm n m task ins outs p).length<=256:=by
 unfold Qdm
 cases Qa1 n m task p with
 | none=>simp
 | some x=>
  obtain⟨c,b⟩:=x
  simp only
  split
  ·refine QbM (Qws (c:=16) fun e _=>?_) (Qct 16 hi)
   split
   ·rw [Qlm];exact QbM (Qwu _ _) ho
   simp
  simp
def Bd (n:Qn):Prop:=∀t∈n.Tasks,(0:Int)∈szB n t\/Qgo (szB n t)<=1024
theorem QuG {n:Qn}(m:List (List (Int×Int)))(task:Int)(h:QaT n)(hb:Bd n):(QaP n m task).length<=262144:=by
 by_cases e0:QaP n m task=[]
 ·rw [e0];simp
 obtain⟨o,ho⟩:=List.exists_mem_of_ne_nil _ e0
 obtain⟨_,e,he,_,_,_,b,hbd,_⟩:=QuB.1 ho
 obtain⟨k1,k2,_,_,k3,_⟩:=QoV h hbd
 rw [he]at k1;cases k1
 unfold QaP
 rw [he]
 simp only
 refine QbM (Qws (c:=256) fun p _=>QBQ n m task p (QnR _ _).2.1 (QnR _ _).2.1) ?_
 have h1:=QBN (szB n b.task)
 rcases hb _ k2 with h2 | h2
 ·have:=k3.2 0 h2;omega
 omega
theorem QAU (n:Qn)(k:Int)(t:QF)(b:Int)(h:QaT n)(ht:idx n.Tasks k=some t)(htm:t∈n.Tasks)(hb:Qds n k=some b)(hle:b<=1024):(0:Int)∈szB n t\/Qgo (szB n t)<=1024:=by
 have hv:=(h.tk t htm).1
 have hsz:(szB n t).length=t.Vars.length:=by simp [szB]
 have ha:Qbw n.Tasks k=some true:=by
  unfold Qbw
  unfold idx at ht
  split at ht
  ·have:=(QT.1 ht).1
   rw [QI (by omega),QI (by omega)];rfl
  cases ht
 have key:Qg (Qds n k) fun b=>b<=1024->(0:Int)∈szB n t\/Qgo (szB n t)<=1024:=by
  unfold Qds
  rw [ha,Ql]
  simp only [Qft,cond_false]
  rw [ht,Ql]
  refine T0 (Qg.up t.Vars.length (fun st=>st.2) (fun st=>st.1=min ((Qgo ((szB n t).take st.2.toNat):Nat):Int) 1025) (Q:=fun q:Unit⊕Int=>(q=.inl ()->(0:Int)∈szB n t)/\∀o,q=.inr o->o=min ((Qgo (szB n t):Nat):Int) 1025) rfl (by show(1:Int)=min ((1:Nat):Int) 1025;omega) (fun i st hi hn hJ=>?_)) (fun q hq=>?_)
  ·obtain⟨out,x⟩:=st
   replace hi:x=(i:Int):=hi
   subst hi
   replace hJ:out=min ((Qgo ((szB n t).take (i:Int).toNat):Nat):Int) 1025:=hJ
   rw [Qg7]at hJ
   show Qg (QeF t n out i) _
   unfold QeF
   refine T1 (fun hc=>?_) (fun hc=>T2 (Qt ⟨fun e=>(by cases e),fun o e=>?_⟩))
   ·simp only [QQ]at hc
    have i1:i<t.Vars.length:=by omega
    rw [Qae,QG i1,Ql]
    refine T0 (Qff _ _ h.k.1).self fun z hz=>?_
    obtain⟨hze,hz⟩:=hz
    have hs:(szB n t)[i]? = some z:=by
     unfold szB
     rw [Qak,QG i1,Qfu,hze];rfl
    refine T1 (fun hc2=>T2 (Qt ⟨fun _=>?_,fun o e=>by cases e⟩)) fun hc2=>?_
    ·simp only [beq_iff_eq]at hc2
     subst hc2
     exact Qaa hs
    simp only [beq_eq_false_iff_ne]at hc2
    have hw:w64 ((i:Int)+1)=((i+1:Nat):Int):=Qy i1 (by unfold maxLen;omega:t.Vars.length<=maxLen)
    refine T2 (QN ⟨i1,hw,?_⟩)
    show min2 (w64 (out*z)) 1025=min ((Qgo ((szB n t).take (w64 ((i:Int)+1)).toNat):Nat):Int) 1025
    rw [hw,Qg7,QhW,hs]
    show _=min ((Qgo ((szB n t).take i++[z]):Nat):Int) 1025
    rw [QBO]
    have hp:=QBP ((szB n t).take i)
    generalize Qgo ((szB n t).take i)=P at hJ hp ⊢
    obtain⟨Z,rfl⟩:∃Z:Nat,z=(Z:Int):=⟨z.toNat,by omega⟩
    rw [show 1+((Z:Int)-1).toNat=Z by omega]
    have hZ:0<Z:=by omega
    have h1:(P:Int)*(Z:Int)=((P*Z:Nat):Int):=by simp
    by_cases c:P<=1025
    ·have:out=(P:Int):=by rw [hJ];omega
     rw [this,h1]
     have h2:P*Z<=1025*1024:=Nat.mul_le_mul c (by omega)
     rw [Q7 (by omega)]
     unfold min2;split<;>omega
    have:out=1025:=by rw [hJ];omega
    have h2:P<=P*Z:=Nat.le_mul_of_pos_right P hZ
    rw [this,Q7 (by omega)]
    unfold min2;split<;>omega
   cases e
   simp only [Qal]at hc
   rw [hJ,QgB (by omega)]
  rcases q with q | q
  ·exact T2 fun _=>.inl (hq.1 rfl)
  refine T2 fun hl=>.inr ?_
  have:=hq.2 q rfl
  omega
 exact Qr1 key hb hle
theorem QAV (n1:Qn)(k2:Int)(h:Qce n1 k2=some 0):∃b,Qds n1 k2=some b/\b<=1024:=by
 unfold Qce at h
 obtain⟨x5,_,h⟩:=Qb h
 rcases Qm h with⟨_,h⟩|⟨_,h⟩
 ·cases h
 obtain⟨x7,_,h⟩:=Qb h
 rcases Qm h with⟨c,h⟩|⟨_,h⟩
 ·simp only [Option.some.injEq]at h;rw [h]at c;cases c
 obtain⟨e9,he9,h⟩:=Qb h
 obtain⟨e10,he10,h⟩:=Qb h
 obtain⟨_,_,h⟩:=Qb h
 obtain⟨_,_,h⟩:=Qb h
 obtain⟨_,_,h⟩:=Qb h
 obtain⟨_,_,h⟩:=Qb h
 obtain⟨x15,hx,h⟩:=Qb h
 have bad:∀a b:Int,0<a->x15=(a,b)->False:=fun a b ha e=>by
  subst e
  simp only at h
  rcases Qm h with⟨c,h⟩|⟨_,h⟩
  ·simp only [beq_iff_eq]at c;omega
  simp only [Option.some.injEq]at h;omega
 unfold QeG at hx
 obtain⟨x20,_,hx⟩:=Qb hx
 rcases Qm hx with⟨_,hx⟩|⟨_,hx⟩
 ·exact(bad _ _ (by decide) (Option.some.inj hx).symm).elim
 obtain⟨x22,_,hx⟩:=Qb hx
 rcases Qm hx with⟨_,hx⟩|⟨_,hx⟩
 ·exact(bad _ _ (by decide) (Option.some.inj hx).symm).elim
 obtain⟨x24,h24,hx⟩:=Qb hx
 rcases Qm hx with⟨_,hx⟩|⟨c,hx⟩
 ·exact(bad _ _ (by decide) (Option.some.inj hx).symm).elim
 obtain⟨x26,h26,hx⟩:=Qb hx
 rcases Qm hx with⟨c2,hx⟩|⟨_,hx⟩
 ·have e:=(Option.some.inj hx).symm
  subst e
  simp only at h
  rcases Qm h with⟨_,h⟩|⟨c3,_⟩
  ·simp only [Option.some.injEq]at h
   unfold QgJ at h26
   obtain⟨y,_,h26⟩:=Qb h26
   simp only [Option.some.injEq]at h26
   rw [<-h26]at c2 h
   simp only at h
   subst h
   cases c2
  cases c3
 obtain⟨x28,h28,hx⟩:=Qb hx
 rcases Qm hx with⟨_,hx⟩|⟨c4,hx⟩
 ·exact(bad _ _ (by decide) (Option.some.inj hx).symm).elim
 unfold QhD at h28
 obtain⟨b,hb,h28⟩:=Qb h28
 simp only [Option.some.injEq]at h28
 rw [<-h28]at c4
 exact⟨b,hb,by simpa using c4⟩
theorem QDN (n1:Qn)(h:QaT n1){p:Qe6}(hn:QfK n1=some (0,p)):Bd n1:=by
 unfold QfK at hn
 obtain⟨x6,_,hn⟩:=Qb hn
 rcases Qm hn with⟨c,hn⟩|⟨_,hn⟩
 ·simp only [Option.some.injEq,Prod.mk.injEq]at hn;rw [hn.1]at c;cases c
 obtain⟨x8,_,hn⟩:=Qb hn
 rcases Qm hn with⟨c,hn⟩|⟨_,hn⟩
 ·simp only [Option.some.injEq,Prod.mk.injEq]at hn;rw [hn.1]at c;cases c
 obtain⟨x10,_,hn⟩:=Qb hn
 rcases Qm hn with⟨c,hn⟩|⟨_,hn⟩
 ·simp only [Option.some.injEq,Prod.mk.injEq]at hn;rw [hn.1]at c;cases c
 obtain⟨x12,h12,hn⟩:=Qb hn
 rcases Qm hn with⟨c,hn⟩|⟨c,hn⟩
 ·simp only [Option.some.injEq,Prod.mk.injEq]at hn;rw [hn.1]at c;cases c
 simp only [bne_eq_false_iff_eq]at c
 obtain⟨r,hr,hr2⟩:=Qvy n1.Tasks n1 h.k h.k.2.2.1
 rw [h12]at hr;cases hr
 intro t ht
 have htm:=ht
 obtain⟨j,hj,rfl⟩:=Qr9.1 ht
 obtain⟨b,hb,hb2⟩:=QAV n1 j (hr2 c j hj)
 exact QAU n1 j _ b h (by rw [Qae,QG hj]) htm hb hb2
theorem QDe (n1:Qn)(m:List (List (Int×Int)))(h:QaT n1)(hf:QhE n1 m=some true):Bd n1:=by
 unfold QhE at hf
 obtain⟨x5,_,hf⟩:=Qb hf
 obtain⟨x6,_,hf⟩:=Qb hf
 rcases Qm hf with⟨_,hf⟩|⟨_,hf⟩
 ·cases hf
 obtain⟨x11,h11,hf⟩:=Qb hf
 obtain⟨x12,h12,hf⟩:=Qb hf
 unfold QgN at hf
 rcases Qm hf with⟨_,hf⟩|⟨c,_⟩
 ·cases hf
 subst c
 unfold QmG at h12
 rcases Qm h12 with⟨_,h12⟩|⟨c,_⟩
 ·cases h12
 simp only [bne_eq_false_iff_eq]at c
 obtain⟨a,b⟩:=x11
 simp only at c
 subst c
 exact QDN n1 h h11
end Go.Proofs
noncomputable section
namespace Go.Proofs
open Go Go.RowKit Go.Vm
theorem QBR {L:List Qi}{i:Int}{e:Qi}(he:idx L i=some e)(hl:e.Vars.length<=maxLen):Qg (Qz (fun st=>Qd5 L i st) 0) fun _=>True:=by
 refine Qg.up e.Vars.length (fun st=>st) (fun _=>True) (Q:=fun _=>True) rfl trivial (fun k st hk hn _=>?_)
 replace hk:st=(k:Int):=hk
 show Qg (Qd5 L i st) _
 unfold Qd5
 simp only [he,Ql]
 refine T1 (fun hc=>?_) (fun _=>T2 (Qt trivial))
 simp only [QQ]at hc
 refine T0 (T4 (by omega) (by omega)) fun _ _=>?_
 exact T2 (QN ⟨by omega,by subst hk;exact Qy (by omega) hl,trivial⟩)
theorem QCD {L:List Qi}{i:Int}{e:Qi}(he:idx L i=some e)(hl:e.Ins.length<=maxLen):Qg (Qz (fun st=>Qd6 L i st) 0) fun _=>True:=by
 refine Qg.up e.Ins.length (fun st=>st) (fun _=>True) (Q:=fun _=>True) rfl trivial (fun k st hk hn _=>?_)
 replace hk:st=(k:Int):=hk
 show Qg (Qd6 L i st) _
 unfold Qd6
 simp only [he,Ql]
 refine T1 (fun hc=>?_) (fun _=>T2 (Qt trivial))
 simp only [QQ]at hc
 refine T0 (T4 (by omega) (by omega)) fun _ _=>?_
 exact T2 (QN ⟨by omega,by subst hk;exact Qy (by omega) hl,trivial⟩)
theorem QCE {L:List Qi}(hl:L.length<=maxLen)(h:∀o∈L,o.Vars.length<=maxLen/\o.Ins.length<=maxLen):Qg (Qz (fun st=>Qd7 L st) 0) fun _=>True:=by
 refine Qg.up L.length (fun st=>st) (fun _=>True) (Q:=fun _=>True) rfl trivial (fun k st hk hn _=>?_)
 replace hk:st=(k:Int):=hk
 show Qg (Qd7 L st) _
 unfold Qd7
 refine T1 (fun hc=>?_) (fun _=>T2 (Qt trivial))
 simp only [QQ]at hc
 obtain⟨e,he,hmem⟩:=T4 (l:=L) (j:=st) (by omega) (by omega)
 refine T0 (QBR he (h e hmem).1) fun q _=>?_
 show Qg (QfE L st) _
 unfold QfE
 refine T0 (QCD he (h e hmem).2) fun q _=>?_
 show Qg (QfD st) _
 unfold QfD
 exact T2 (QN ⟨by omega,by subst hk;exact Qy (by omega) hl,trivial⟩)
theorem Qyq {n:Qn}{m:List (List (Int×Int))}{task:Int}(h:QaT n)(hb:Bd n)(hm:QH (QH fun _=>True) m):∀o∈QaP n m task,Qfs n o:=by
 have hl:=QuG m task h hb
 obtain⟨r,h1,_,h2⟩:=QC6 n m task 4294967296 h hm (Int.le_refl _)
 rw [QmP n m task 4294967296 h hm (.inl (Int.le_refl _)),QgB (by omega)]at h1
 cases h1
 exact h2
theorem QDf {n:Qn}{m:List (List (Int×Int))}{most:Int}(h:QaT n)(hb:Bd n)(hm:QH (QH fun _=>True) m):Qg (QfA n m most) fun r=>r.length<=3145728/\∀o∈r,Qfs n o:=by
 have mx:(12:Nat)<=maxLen:=by decide
 have htl:=h.tl
 unfold QfA
 refine T0 (Qg.up n.Tasks.length (fun st=>st.1) (fun st=>(st.2.length:Int)<=262144*st.1/\∀o∈st.2,Qfs n o) (Q:=fun q=>q.length<=3145728/\∀o∈q,Qfs n o) rfl ⟨by simp,fun o h=>by cases h⟩ (fun i st hi hn hJ=>?_)) (fun q hq=>T2 hq)
 obtain⟨x,l⟩:=st
 replace hi:x=(i:Int):=hi
 obtain⟨hJ1,hJ2⟩:=hJ
 replace hJ1:(l.length:Int)<=262144*x:=hJ1
 show Qg (Qdo n m most x l) _
 unfold Qdo
 refine T1 (fun hc=>?_) (fun _=>T2 (Qt ⟨by show l.length<=_;omega,hJ2⟩))
 simp only [QQ]at hc
 have hl:=QuG m x h hb
 rw [QmP n m x _ h hm (.inr (by omega)),Ql]
 have hl2:=List.length_take_le (w64 (most-(l.length:Int))).toNat (QaP n m x)
 have hl3:((QaP n m x).take (w64 (most-(l.length:Int))).toNat).length<=262144:=by rw [QdI];omega
 rw [QI (show l.length+((QaP n m x).take (w64 (most-(l.length:Int))).toNat).length<=4294967296 by omega)]
 refine T2 (QN ⟨by omega,by subst hi;exact Qy (show i<n.Tasks.length by omega) (by omega),?_,fun o ho=>?_⟩)
 ·show((l++(QaP n m x).take (w64 (most-(l.length:Int))).toNat).length:Int)<=262144*w64 (x+1)
  rw [show w64 (x+1)=x+1 from Q7 (by omega),Qb0]
  omega
 rcases QcH.1 ho with ho | ho
 ·exact hJ2 o ho
 exact Qyq h hb hm o (QeQ ho)
theorem QAW {n:Qn}{m:List (List (Int×Int))}{task most:Int}(hn:QX n)(hr:RN n)(hm0:QH (QH fun _=>True) m)(hi:InI most):Qfr n m task most=some true:=by
 unfold Qfr
 rw [QAI,Ql]
 obtain⟨x8,h8,hfine⟩:=QDE n m hn hm0
 rw [h8,Ql]
 cases x8 with
 | false=>rfl
 | true=>
  obtain⟨hN,hm,_⟩:=hfine rfl
  have hb:=QDe n m hN h8
  have mx:(3145728:Nat)<=maxLen:=by decide
  have ml:=fun k:Int=>QuG m k hN hb
  obtain⟨L,l1,l2,l3⟩:=QDf (most:=most) hN hb hm0
  have hM:QbT n m task most=some ((QaP n m task).take most.toNat):=QmP n m task most hN hm0 (.inr (by have:=ml task;omega))
  have hlen:((QaP n m task).take most.toNat).length<=262144:=by have:=ml task;rw [QdI];omega
  have rM:=Qxl hN hr hm0 (task:=task) (most:=most) (.inr (by have:=ml task;omega))
  have rA:=QCC hN hr hm0 hi (.inr fun k=>by have:=ml k;omega)
  have s1:Qek ((QaP n m task).take most.toNat) ((QaP n m task).take most.toNat)=some true:=Qxm (n:=n) (by omega) fun o ho=>Qyq hN hb hm0 o (QeQ ho)
  have s2:Qek L L=some true:=Qxm (n:=n) (by omega) l3
  obtain⟨q,q1,_⟩:=QCE (L:=L) (by omega) fun o ho=>⟨by have:=(l3 o ho).1;omega,by have:=(l3 o ho).2.1;omega⟩
  have g1:Qiq n m task most ((QaP n m task).take most.toNat) L=some false:=by
   unfold Qiq
   rw [rM,hM,Ql,s1,Ql,rA,l1,Ql,s2]
   rfl
  rw [show(!true)=false from rfl,cond_false,hM,Ql,l1,Ql,g1,Ql]
  unfold Qfd
  rw [cond_false,q1,Ql]
  unfold Qir QmL QfF
  rw [cond_true,l1,Ql,rA,l1,Ql,s2]
  rfl
end Go.Proofs
