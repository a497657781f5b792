/- A part of the proof; what it holds is told at each theorem. -/
import Derived.Test.YtbfgchciebcbpaaGreatDoorM2P1
import Derived.Test.YtbfgchciebcbpaaGreatDoorM2P1
set_option linter.unusedVariables false
set_option linter.unusedSimpArgs false
set_option linter.unusedSectionVars false
set_option linter.deprecated false
noncomputable section
namespace Go.Proofs
open Go Go.RowKit Go.Vm
theorem QwL {l:List Int}{x:Int}:x∈Qcq l↔x∈l:=by
 unfold Qcq Lib.compact Lib.compactUpTo
 rw [Qah]
 constructor
 ·rintro ⟨i,hi,rfl⟩
  have hl:=Qfz.1 (Qga.1 hi).1
  have:l.toArray[i]! = l[i]:=by simp [hl]
  rw [this];exact Qjo hl
 intro hx
 obtain⟨i,hi,rfl⟩:=Qss.1 hx
 have key:∀i (hi:i<l.length),∃a,a∈(List.range l.length).filter (Lib.keeps l.toArray)∧l.toArray[a]! = l[i]:=by
  intro i
  induction i with
  | zero=>
   intro hi
   exact⟨0,Qga.2 ⟨Qfz.2 hi,by simp [Lib.keeps]⟩,by simp [hi]⟩
  | succ i ih=>
   intro hi
   by_cases c:l[i+1]=l[i]
   ·rw [c];exact ih (by omega)
   refine⟨i+1,Qga.2 ⟨Qfz.2 hi,?_⟩,by simp [hi]⟩
   have h1:l.toArray[i+1]! = l[i+1]:=by simp [hi]
   have h2:l.toArray[i]! = l[i]:=by simp [show i<l.length by omega]
   unfold Lib.keeps
   rw [Nat.add_sub_cancel,h1,h2]
   simpa using c
 exact key i hi
theorem Qv5 {l:List Int}(h:l.Pairwise (·≤·)):(Qcq l).Pairwise (·<·):=by
 unfold Qcq Lib.compact Lib.compactUpTo
 rw [Qme]
 have hp:((List.range l.length).filter (Lib.keeps l.toArray)).Pairwise (·<·):=List.Pairwise.filter _ List.pairwise_lt_range
 refine hp.imp_of_mem fun {i j} hi hj hij=>?_
 have hjl:=Qfz.1 (Qga.1 hj).1
 have hk:=(Qga.1 hj).2
 have e:∀k,k<l.length→l.toArray[k]! = l.getD k 0:=fun k hk=>by simp [hk]
 unfold Lib.keeps at hk
 rw [decide_eq_true_iff]at hk
 rw [e i (by omega),e j hjl]
 rw [e j hjl,e (j-1) (by omega)]at hk
 have mono:∀a b,a≤b→b<l.length→l.getD a 0≤l.getD b 0:=fun a b hab hb=>by
  rcases Nat.lt_or_eq_of_le hab with h1 | h1
  ·have:=List.pairwise_iff_getElem.1 h a b (by omega) hb h1
   simpa [show a<l.length by omega,hb] using this
  subst h1;exact Int.le_refl _
 have h1:=mono i (j-1) (by omega) (by omega)
 have h2:=mono (j-1) j (by omega) hjl
 rcases hk with hk | hk
 ·omega
 omega
def gdI (n:Qm)(k:Int):Bool:=!QeA n k
theorem Qyz (n:Qm)(l:List Int)(hl:l.length≤1000):Qi (Qaj l n) fun r=>r=l.filter (gdI n):=by
 unfold Qaj
 rw [Qt1 l n (by unfold maxLen;omega),Qn]
 cases hs:QdT (fun _ x=>QeA n x) 0 l with
 | none=>
  refine T1 (fun _=>T2 (List.filter_eq_self.2 fun k hk=>?_).symm) fun hc=>by cases hc
  obtain⟨i,hi⟩:=Qmc hk
  have:QeA n k=false:=Qpq hs i k hi
  unfold gdI
  rw [this];rfl
 | some i0=>
  obtain⟨i1,x0,e0,hx0,hbad0⟩:=Qpp hs
  have hi0:i0<l.length:=by have:=(QI.1 hx0).1;omega
  have hbad:gdI n l[i0]=false:=by
   have:i1=i0:=by omega
   subst this
   rw [QH hi0]at hx0
   cases hx0
   unfold gdI
   rw [show QeA n l[i1]=true from hbad0];rfl
  have hx1:∀k∈l.take i0,gdI n k=true:=fun k hk=>by
   obtain⟨i,hi⟩:=Qmc hk
   have hlt:=(QI.1 hi).1
   rw [Qf9]at hlt
   rw [QbZ,if_pos (by omega)]at hi
   have:QeA n k=false:=QrG hs i k (by omega) hi
   unfold gdI
   rw [this];rfl
  refine T1 (fun hc=>by simp at hc) fun _=>?_
  show Qi ((Qt _ ((i0:Int),w64 ((i0:Int)+1),l)).bind _) _
  have hw:w64 ((i0:Int)+1)=(i0:Int)+1:=Qaf (by omega)
  refine T0 (Qi.up (l.length-(i0+1)) (fun st=>st.2.1-((i0:Int)+1)) (fun st=>0≤st.1∧st.1<st.2.1∧st.2.2.length=l.length∧st.2.2.take st.1.toNat=(l.take st.2.1.toNat).filter (gdI n)∧st.2.2.drop st.2.1.toNat=l.drop st.2.1.toNat) (Q:=fun q:Int×List Int=>0≤q.1∧q.1≤(l.length:Int)∧q.2.length=l.length∧q.2.take q.1.toNat=l.filter (gdI n)) (by show w64 ((i0:Int)+1)-((i0:Int)+1)=0;omega) ⟨by show(0:Int)≤i0;omega,by show(i0:Int)<w64 ((i0:Int)+1);omega,rfl,?_,rfl⟩ (fun i st hi hn hJ=>?_)) (fun q hq=>?_)
  ·show l.take (i0:Int).toNat=(l.take (w64 ((i0:Int)+1)).toNat).filter (gdI n)
   rw [hw,Int.toNat_natCast,show((i0:Int)+1).toNat=i0+1 by omega,Qk0,QH hi0,List.filter_append,List.filter_eq_self.2 hx1]
   show l.take i0=l.take i0++List.filter (gdI n) [l[i0]]
   rw [Qmb,hbad]
   exact(List.append_nil _).symm
  ·obtain⟨a,j,l2⟩:=st
   replace hi:j-((i0:Int)+1)=i:=hi
   obtain⟨j1,j2,j3,j4,j5⟩:0≤a∧a<j∧l2.length=l.length∧l2.take a.toNat=(l.take j.toNat).filter (gdI n)∧l2.drop j.toNat=l.drop j.toNat:=hJ
   show Qi (Q1 n a j l2) _
   unfold Q1
   refine T1 (fun hc=>?_) (fun hc=>T2 (Qs ⟨j1,?_,j3,?_⟩))
   ·simp only [QS]at hc
    have hj:j.toNat<l2.length:=by omega
    have hj':j.toNat<l.length:=by omega
    have ej:l2[j.toNat]=l[j.toNat]:=by
     have:=congrArg List.head? j5
     rw [QqN hj,QqN hj']at this
     exact Option.some.inj this
    have ej5:l2.drop (j.toNat+1)=l.drop (j.toNat+1):=by
     have:=congrArg List.tail j5
     simpa using this
    have hw2:w64 (j+1)=j+1:=Qaf (by omega)
    have hw3:w64 (a+1)=a+1:=Qaf (by omega)
    have tk:l.take (j+1).toNat=l.take j.toNat++[l[j.toNat]]:=by
     rw [show(j+1).toNat=j.toNat+1 by omega,Qk0,QH hj'];rfl
    rw [Qh7 (by omega) (by omega),Qn,show QcJ l2[j.toNat] n=some (QeA n l2[j.toNat])from rfl,Qn]
    refine T1 (fun hc2=>?_) fun hc2=>?_
    ·have hc2:gdI n l[j.toNat]=true:=by rw [←ej];exact hc2
     refine T0 (T4 (by omega) (by omega)) fun _ _=>?_
     refine T2 (QE ⟨by omega,by show w64 (j+1)-((i0:Int)+1)=_;omega,by show 0≤w64 (a+1);omega,by show w64 (a+1)<w64 (j+1);omega,by simpa using j3,?_,?_⟩)
     ·show(l2.set a.toNat l2[j.toNat]).take (w64 (a+1)).toNat=(l.take (w64 (j+1)).toNat).filter (gdI n)
      rw [hw2,hw3,tk,List.filter_append,←j4,show(a+1).toNat=a.toNat+1 by omega,Qk0,List.getElem?_set_self (by omega),List.take_set_of_le (Qb0 _),ej]
      simp [hc2]
     show(l2.set a.toNat l2[j.toNat]).drop (w64 (j+1)).toNat=l.drop (w64 (j+1)).toNat
     rw [hw2,show(j+1).toNat=j.toNat+1 by omega,List.drop_set_of_lt (by omega),ej5]
    have hc2:gdI n l[j.toNat]=false:=by rw [←ej];exact hc2
    refine T2 (QE ⟨by omega,by show w64 (j+1)-((i0:Int)+1)=_;omega,j1,by show a<w64 (j+1);omega,j3,?_,?_⟩)
    ·show l2.take a.toNat=(l.take (w64 (j+1)).toNat).filter (gdI n)
     rw [hw2,tk,List.filter_append,←j4]
     simp [hc2]
    show l2.drop (w64 (j+1)).toNat=l.drop (w64 (j+1)).toNat
    rw [hw2,show(j+1).toNat=j.toNat+1 by omega,ej5]
   ·simp only [Qbc]at hc
    show a≤_
    omega
   simp only [Qbc]at hc
   show l2.take a.toNat=_
   rw [j4,Qif (by omega)]
  obtain⟨q1,q2⟩:=q
  obtain⟨h1,h2,h3,h4⟩:0≤q1∧q1≤l.length∧q2.length=l.length∧q2.take q1.toNat=l.filter (gdI n):=hq
  show Qi (Q2 q1 q2) _
  unfold Q2
  refine T0 (T5 (by simp only [Qw,QS];omega)) fun _ _=>?_
  refine T0 (T5 (by simp only [Qw,QS,Qib,Qf9,List.length_replicate];omega)) fun _ _=>?_
  refine T2 ?_
  rw [QqS (by simp;omega),List.take_take,Nat.min_self,h4]
def Qq2 (n:Qm):List Int:=n.Tasks.flatMap fun t=>t.Cancel
theorem Qv6 (n:Qm)(h:QnY n)(ht:n.Tasks.length≤8):QaL n=some (Qcq (Qk6 ((Qq2 n).filter (gdI n)))):=by
 have main:Qi (QaL n) fun r=>r=Qcq (Qk6 ((Qq2 n).filter (gdI n))):=by
  unfold QaL
  refine T0 (Qi.up n.Tasks.length (fun st=>st.1) (fun st=>(st.2.length:Int)≤16*st.1∧st.2=(n.Tasks.take st.1.toNat).flatMap fun t=>t.Cancel) (Q:=fun l:List Int=>l.length≤128∧l=Qq2 n) rfl ⟨by simp,rfl⟩ (fun i st hi2 hn hJ=>?_)) fun l hl=>?_
  ·obtain⟨x,l⟩:=st
   replace hi2:x=(i:Int):=hi2
   subst hi2
   obtain⟨hJ,hJ2⟩:(l.length:Int)≤16*(i:Int)∧l=(n.Tasks.take (i:Int).toNat).flatMap fun t=>t.Cancel:=hJ
   rw [Int.toNat_natCast]at hJ2
   show Qi (Qch n i l) _
   unfold Qch
   refine T1 (fun hc=>?_) (fun hc=>T2 (Qs ⟨by omega,?_⟩))
   ·simp only [QS]at hc
    have i1:i<n.Tasks.length:=by omega
    rw [Qac,QH i1,Qn]
    have:=(h.tk _ (Qjo i1)).2.2.2
    refine T0 (T5 (by simp;omega)) fun _ _=>?_
    have hw:w64 ((i:Int)+1)=(i:Int)+1:=Qaf (by omega)
    refine T2 (QE ⟨by omega,hw,?_,?_⟩)
    ·show((l++n.Tasks[i].Cancel).length:Int)≤16*w64 ((i:Int)+1)
     rw [hw,Qib];omega
    show l++n.Tasks[i].Cancel=(n.Tasks.take (w64 ((i:Int)+1)).toNat).flatMap fun t=>t.Cancel
    rw [hw,show((i:Int)+1).toNat=i+1 by omega,Qk0,QH i1,List.flatMap_append,←hJ2]
    simp
   simp only [Qbc]at hc
   show l=Qq2 n
   unfold Qq2
   rw [hJ2,Qif (by omega)]
  show Qi (Qci n l) _
  unfold Qci QdI QcD
  obtain⟨hl,hl2⟩:=hl
  have hf:=Qsr (gdI n) l
  refine T0 (Qyz n l (by omega)) fun l1 h1=>?_
  subst h1 hl2
  rw [QjI (by omega),Qn,Qn]
  refine T0 (T5 (by simp [Qlg])) fun _ _=>?_
  rw [QjI (by rw [Qlg];omega),Qn,Qn]
  exact T2 rfl
 obtain⟨r,h1,h2⟩:=main
 rw [h1,h2]
theorem QqJ {body:Int×List Int→Option ((Int×List Int)⊕List Int)}(N:Nat)(p:Nat→Bool)(hs:∀(i:Nat) l,i<N→l.length≤i→body ((i:Int),l)=some (.inl (((i+1:Nat):Int),bif p i then l++[(i:Int)]else l)))(hf:∀l,body ((N:Int),l)=some (.inr l)):
  Qt body (0,[])=some (((List.range N).filter p).map fun (i:Nat)=>(i:Int)):=by
 obtain⟨r,h1,h2⟩:=Qvo (body:=body) N (fun i st=>st.1=(i:Int)∧st.2.length≤i∧st.2=((List.range i).filter p).map fun (i:Nat)=>(i:Int)) (fun r=>r=((List.range N).filter p).map fun (i:Nat)=>(i:Int)) (fun i st hi hI=>by
  obtain⟨x,l⟩:=st
  obtain⟨e1,e2,e3⟩:x=(i:Int)∧l.length≤i∧l=((List.range i).filter p).map fun (i:Nat)=>(i:Int):=hI
  subst e1
  refine .inl ⟨_,hs i l hi e2,rfl,?_,?_⟩
  ·show(bif p i then l++[(i:Int)]else l).length≤i+1
   cases p i<;>simp<;>omega
  ·show(bif p i then l++[(i:Int)]else l)=_
   rw [List.range_succ,List.filter_append,List.map_append,←e3]
   cases h:p i<;>simp [h]) (fun st hI=>by
  obtain⟨x,l⟩:=st
  obtain⟨e1,e2,e3⟩:x=(N:Int)∧l.length≤N∧l=((List.range N).filter p).map fun (i:Nat)=>(i:Int):=hI
  subst e1
  exact⟨l,hf l,e3⟩) (0,[]) ⟨rfl,by simp,rfl⟩
 rw [h1,h2]
end Go.Proofs
noncomputable section
namespace Go.Proofs
open Go Go.RowKit Go.Vm
theorem Qxt {α:Type}(key:α→Int):∀{l m:List α},l.Pairwise (fun x y=>key x<key y)→m.Pairwise (fun x y=>key x<key y)→(∀x,x∈l↔x∈m)→l=m:=by
 intro l
 induction l with
 | nil=>
  intro m _ _ h
  cases m with
  | nil=>rfl
  | cons y m=>exact absurd ((h y).2 Qa1) (by simp)
 | cons x l ih=>
  intro m hl hm h
  cases m with
  | nil=>exact absurd ((h x).1 Qa1) (by simp)
  | cons y m=>
   obtain⟨hl1,hl2⟩:=QqR.1 hl
   obtain⟨hm1,hm2⟩:=QqR.1 hm
   have e:x=y:=by
    rcases Qa0.1 ((h x).1 Qa1)with h1 | h1
    ·exact h1
    rcases Qa0.1 ((h y).2 Qa1)with h2 | h2
    ·exact h2.symm
    have:=hm1 x h1;have:=hl1 y h2;omega
   subst e
   rw [ih hl2 hm2 fun z=>?_]
   constructor
   ·intro hz
    rcases Qa0.1 ((h z).1 (QbI _ hz))with h1 | h1
    ·subst h1;have:=hl1 z hz;omega
    exact h1
   intro hz
   rcases Qa0.1 ((h z).2 (QbI _ hz))with h1 | h1
   ·subst h1;have:=hm1 z hz;omega
   exact h1
theorem Qsm {α:Type}(f:α→Bool):∀(l:List α) (k:Nat) (t:Bool),Qby (fun (_:Nat) (t:Bool) x=>(.inl (t||f x):Bool⊕Bool)) (fun t=>t) k t l=(t||l.any f):=by
 intro l
 induction l with
 | nil=>intro k t;simp [Qby]
 | cons x l ih=>intro k t;rw [Qby];show Qby _ _ _ _ l=_;rw [ih];simp [Bool.or_assoc]
theorem QxT {n:Qm}{k:Nat}{t:Qv}(ht:n.Tasks[k]? = some t)(hc:t.Cancel.length≤16)(p:Int)(s:Bool):Qt (fun st=>Qa7 n k p st.1 st.2) (s,0)=some (s||t.Cancel.any fun c=>c==p):=by
 rw [Qf7 (body:=fun st=>Qa7 n k p st.1 st.2) (l:=t.Cancel) (fun i (b:Bool)=>(b,(i:Int))) (fun _ b c=>.inl (b||c==p)) (fun b=>b) (fun i b c hi hx=>by
  show Qa7 n k p b i=_
  unfold Qa7 QlB Qfe
  rw [Qac,ht,Qn,QZ (by omega),cond_true,Qn,Qac,hx,Qn,Qx hi (by unfold maxLen;omega)]
  cases b<;>rfl) (fun b=>by
  show Qa7 n k p b t.Cancel.length=_
  unfold Qa7
  rw [Qac,ht,Qn,Q0 (by omega),cond_false]) s (s0:=(s,0)) rfl]
 congr 1
 exact Qsm _ _ _ _
def emB (n:Qm)(p:Nat):Bool:=n.Tasks.any fun t=>t.Cancel.any fun c=>c==(p:Int)
theorem QxU {n:Qm}(h:QnY n)(p:Nat):Qt (fun st=>Qa8 n p st.1 st.2) (false,0)=some (emB n p):=by
 rw [Qf7 (body:=fun st=>Qa8 n p st.1 st.2) (l:=n.Tasks) (fun i (b:Bool)=>(b,(i:Int))) (fun _ b t=>.inl (b||t.Cancel.any fun c=>c==(p:Int))) (fun b=>b) (fun i b t hi hx=>by
  show Qa8 n p b i=_
  have ht:=(h.tk t (QY hx)).2.2.2
  unfold Qa8
  rw [QZ (by omega),cond_true,QxT hx ht,Qn]
  unfold Qh3
  rw [Qx hi (by have:=h.tl;unfold maxLen;omega)]
  rfl) (fun b=>by
  show Qa8 n p b n.Tasks.length=_
  unfold Qa8
  rw [Q0 (by omega),cond_false]) false (s0:=(false,0)) rfl]
 congr 1
 exact Qsm _ _ _ _
theorem Quh {n:Qm}(h:QnY n):QdR n=some (((List.range n.Places.length).filter (emB n)).map fun (i:Nat)=>(i:Int)):=by
 have hp:=h.pl
 unfold QdR
 rw [QqJ n.Places.length (emB n) (fun i l hi hl=>by
  show Qcl n i l=_
  unfold Qcl
  rw [QZ (by omega),cond_true,QxU h,Qn]
  unfold Qh4 Qfd
  rw [Qx hi (by unfold maxLen;omega)]
  cases emB n i with
  | false=>rfl
  | true=>rw [cond_true,QjI (by simp;omega)];rfl) (fun l=>by
  show Qcl n n.Places.length l=_
  unfold Qcl
  rw [Q0 (by omega),cond_false])]
 rfl
theorem QqK {n:Qm}(h:QnY n)(ht:n.Tasks.length≤8):QdR n=QaL n:=by
 rw [Quh h,Qv6 n h ht]
 congr 1
 refine Qxt (fun x:Int=>x) ?_ (Qv5 (QrB _)) fun x=>?_
 ·rw [Qme]
  refine List.Pairwise.imp ?_ (List.Pairwise.filter _ List.pairwise_lt_range)
  intro a b hab
  show(a:Int)<(b:Int)
  omega
 rw [QwL,(Qmm _).mem_iff,Qga,Qah]
 unfold Qq2 gdI QeA
 simp only [Qga,Qfz,List.mem_flatMap,emB,QnD,beq_iff_eq,Qd0,QdF,Qbc]
 constructor
 ·rintro ⟨i,⟨h1,t,h2,c,h3,rfl⟩,rfl⟩
  exact⟨⟨t,h2,h3⟩,by omega,by omega⟩
 rintro ⟨⟨t,h2,h3⟩,h4,h5⟩
 exact⟨x.toNat,⟨by omega,t,h2,x,h3,by omega⟩,by omega⟩
def Qpu (w e:List Int):Bool:=(Qlc 0 (w.zip e)).1 != 0||(Qlc 0 (w.zip e)).2 != 0
theorem QwM (n:Qm)(F:List (List Int))(w:List Int)(hF:Qg6 n 2048 F)(hw:∀x∈w,InI x)(hl:w.length≤20):Qbf F w=some (F.any (Qpu w)):=by
 have h1:=hF.1
 unfold Qbf QcU
 rw [QnZ (l:=F) (Qpu w) (fun i x hi hx=>by
  show Q7 F w i=_
  have he:=hF.2 x (QY hx)
  unfold Q7 Qko
  rw [QZ (by omega),cond_true,Qac,hx,Qn,QwI hw (fun y hy=>by have:=he.2 y hy;unfold InI;omega) (by unfold maxLen;omega),Qn,Qn,Qx hi (by unfold maxLen;omega)]
  show(bif Qpu w x then _ else _)=_
  cases Qpu w x<;>rfl) (by
  show Q7 F w F.length=_
  unfold Q7
  rw [Q0 (by omega),cond_false]),←Qsl]
 cases QdT (fun _ x=>Qpu w x) 0 F<;>rfl
theorem Qpv {α:Type}(p:α→Bool):∀(l:List α) (k:Nat),Qpo (fun _ x=>p x) k l=l.any p:=by
 intro l
 induction l with
 | nil=>intro k;rfl
 | cons x l ih=>intro k;rw [Qpo,ih];rfl
theorem Qv7 {n:Qm}(h:QnY n)(hp:n.Places.length≤12)(ht:n.Tasks.length≤8)(w:List Int)(hw:∀x∈w,InI x):∃b,QjH n w=some b∧QdU n w=some b:=by
 obtain⟨E,hE,hE1,hE2⟩:=QqF n h ht
 obtain⟨F,hF,hF1⟩:=QqE n hp ht
 have hF2:=hF1.1
 unfold QjH QdU
 cases hc:((w.length:Int) != (n.Places.length:Int))with
 | true=>exact⟨false,rfl,rfl⟩
 | false=>
  simp only [bne_eq_false_iff_eq]at hc
  simp only [cond_false]
  unfold QmV Qgh
  rw [QqK h ht,hE,Qn,Qn,Qxr E w hE1 (fun k hk=>by have:=hE2 k hk;omega),Qn]
  rw [Qnk (body:=fun st=>Qcb E w st) (l:=E) (fun i=>(i:Int)) (fun _ k=>w.getD k.toNat 0 != 0) (.inl ()) (.inr ()) (fun i x hi hx=>by
   have hk:=hE2 x (QY hx)
   show Qcb E w i=_
   unfold Qcb
   rw [QZ (by omega),cond_true,Qac,hx,Qn,Qh7 hk.1 (by omega),Qn,Qx hi (by unfold maxLen;omega),show w.getD x.toNat 0=w[x.toNat]'(by omega) by rw [List.getD_eq_getElem?_getD,QH (by omega:x.toNat<w.length)];rfl]
   cases (w[x.toNat]'(by omega) != 0)<;>rfl) (by
   show Qcb E w E.length=_
   unfold Qcb
   rw [Q0 (by omega),cond_false]) (s0:=0) rfl,Qpv,Qn]
  cases E.any fun k=>w.getD k.toNat 0 != 0 with
  | true=>exact⟨false,rfl,rfl⟩
  | false=>
   simp only [Bool.not_false,cond_true,cond_false,Sum.elim_inr]
   unfold QjY
   rw [QqI,hF,Qn,Qn,QwM n F w hF1 hw (by omega),Qn]
   rw [Qnk (body:=fun st=>Qcc F w st) (l:=F) (fun i=>(i:Int)) (fun _ e=>Qpu w e) (.inl ()) (.inr ()) (fun i x hi hx=>by
    have he:=hF1.2 x (QY hx)
    show Qcc F w i=_
    unfold Qcc
    rw [QZ (by omega),cond_true,Qac,hx,Qn,Qvr hw (fun y hy=>by have:=he.2 y hy;unfold InI;omega) (by unfold maxLen;omega),Qn,Qx hi (by unfold maxLen;omega)]
    show(bif Qpu w x then _ else _)=_
    cases Qpu w x<;>rfl) (by
    show Qcc F w F.length=_
    unfold Qcc
    rw [Q0 (by omega),cond_false]) (s0:=0) rfl,Qpv,Qn]
   cases F.any (Qpu w)with
   | true=>exact⟨false,rfl,rfl⟩
   | false=>exact⟨true,rfl,rfl⟩
end Go.Proofs
noncomputable section
namespace Go.Proofs
open Go Go.RowKit Go.Vm
def Qnq : Int→List (Int×Int)→Int
 | s,[]=>s
 | s,p::l=>Qnq (w64 (s+p.2)) l
theorem Qsn : ∀(l:List (Int×Int)) (s:Int),QbV (fun st (p:Int×Int)=>Qip st p.1 p.2) s l=some (.inl (Qnq s l)):=by
 intro l
 induction l with
 | nil=>intro s;rfl
 | cons p l ih=>intro s;rw [QbV,Qnq];show QbV _ (w64 (s+p.2)) l=_;exact ih _
theorem Qso (b:List (Int×Int))(h:b.length≤maxLen):Qjd b=some (bif rtF (-1) b then Qnq 0 b else 0):=by
 unfold Qjd
 rw [QwF b h,Qn]
 cases rtF (-1) b with
 | false=>rfl
 | true=>
  show Qiq b=_
  unfold Qiq
  rw [Qo8.2 ⟨fun l' hl=>Qwj (fun s p q=>by
   rw [Qsn,Qsn]
   show some (Sum.inl (w64 (w64 (s+p.2)+q.2)))=some (Sum.inl (w64 (w64 (s+q.2)+p.2)))
   rw [Qvm,Qvm,Int.add_right_comm]) hl 0,Qsn b 0⟩]
  rfl
def QtK (b:List (Int×Int))(i:Nat)(x:Int×Int):Bool:=decide (x.1<0)||(decide (x.2<1)||(decide (1048576<x.2)||(decide (0<i)&&(match b[i-1]? with | some y=>decide (x.1≤y.1) | none=>false))))
theorem QwN (b:List (Int×Int))(h:b.length≤maxLen):QjE b=some (rtF (-1) b):=by
 unfold QjE
 have main:=Qnk (body:=fun st=>Qb9 b st) (l:=b) (fun i=>(i:Int)) (QtK b) (.inl ():Unit⊕Unit) (.inr ()) (fun i x hi hx=>by
  show Qb9 b i=_
  unfold Qb9 Qnc QgE QtK
  rw [QZ (by omega),cond_true,Qac,hx,Qn,Qn,Qn,Qx hi h]
  cases decide (x.1<0)with
  | true=>rfl
  | false=>
   cases decide (x.2<1)with
   | true=>rfl
   | false=>
    cases decide (1048576<x.2)with
    | true=>rfl
    | false=>
     simp only [cond_false,QnB]
     cases i with
     | zero=>rfl
     | succ i=>
      rw [QZ (by omega:(0:Int)<((i+1:Nat):Int)),QZ (by omega:0<i+1),cond_true,Qn,Qaf (by unfold maxLen at h;omega),show((i+1:Nat):Int)-1=(i:Int) by omega,Qac,Nat.add_sub_cancel,QH (by omega:i<b.length)]
      simp only [Qn,Bool.true_and]
      cases decide (x.1≤b[i].1)<;>rfl) (by
  show Qb9 b b.length=_
  unfold Qb9
  rw [Q0 (by omega),cond_false]) (s0:=0) rfl
 rw [main,Qn]
 have e:Qpo (QtK b) 0 b=!rtF (-1) b:=by
  have key:∀(r:List (Int×Int)) (i:Nat) (a:Int),-1≤a→b.drop i=r→(i=0→a=-1)→(∀j y,i=j+1→b[j]? = some y→a=y.1)→Qpo (QtK b) i r=!rtF a r:=by
   intro r
   induction r with
   | nil=>intro i a _ _ _ _;rfl
   | cons x r ih=>
    intro i a ha hd h0 hj
    have hlt:i<b.length:=by
     have:=congrArg List.length hd
     rw [QkX,Qic]at this;omega
    have hxi:b[i]=x:=by
     rw [QqN hlt]at hd
     exact(List.cons.inj hd).1
    have hd2:b.drop (i+1)=r:=by
     rw [QqN hlt]at hd
     exact(List.cons.inj hd).2
    have hb:QtK b i x=(decide (x.1≤a)||(decide (x.2<1)||decide (1048576<x.2))):=by
     unfold QtK
     cases i with
     | zero=>
      rw [h0 rfl,show decide (x.1≤-1)=decide (x.1<0)from decide_eq_decide.2 (by omega)]
      simp
     | succ i=>
      have hi:i<b.length:=by omega
      have:=hj i b[i] rfl (QH hi)
      rw [Nat.add_sub_cancel,QH hi,this]
      simp only [Nat.zero_lt_succ,decide_true,Bool.true_and]
      by_cases c1:x.1≤b[i].1
      ·simp [c1]
      have c2:¬x.1<0:=by omega
      simp [c1,c2]
    rw [Qpo,rtF,hb]
    cases hbb:(decide (x.1≤a)||(decide (x.2<1)||decide (1048576<x.2)))with
    | true=>rfl
    | false=>
     simp only [QdF,Qbc]at hbb
     rw [ih (i+1) x.1 (by omega) hd2 (by omega) fun j y hj hy=>by
      have:j=i:=by omega
      subst this
      rw [QH hlt]at hy
      cases hy;rw [hxi]]
     rfl
  exact key b 0 (-1) (by omega) rfl (fun _=>rfl) (fun j y hj=>by omega)
 rw [e]
 cases rtF (-1) b<;>rfl
theorem QwO (b:List (Int×Int))(h:b.length≤maxLen):QjF b=Qjd b:=by
 rw [Qso b h]
 unfold QjF
 rw [QwN b h,Qn]
 cases rtF (-1) b with
 | false=>
  rw [QbO]
  show((Qbj b false 0 0).bind _).bind _=_
  unfold Qbj
  rw [Bool.and_false];rfl
 | true=>
  rw [Qf7 (body:=fun st=>Qbj b true st.1 st.2) (l:=b) (fun i (s:Int)=>(s,(i:Int))) (fun _ s p=>.inl (w64 (s+p.2))) (fun s=>s) (fun i s p hi hx=>by
   show Qbj b true s i=_
   unfold Qbj
   rw [QZ (by omega),Bool.and_true,cond_true,Qac,hx,Qn,Qx hi h];rfl) (fun s=>by
   show Qbj b true s b.length=_
   unfold Qbj
   rw [Q0 (by omega),Bool.false_and,cond_false]) 0 (s0:=(0,0)) rfl]
  have:∀(l:List (Int×Int)) (k:Nat) (s:Int),Qby (fun _ (s:Int) (p:Int×Int)=>(.inl (w64 (s+p.2)):Int⊕Int)) (fun s=>s) k s l=Qnq s l:=by
   intro l
   induction l with
   | nil=>intro k s;rfl
   | cons p l ih=>intro k s;rw [Qby,Qnq];exact ih _ _
  rw [this];rfl
def QkV (m:List (List (Int×Int))):List Int:=m.map fun b=>bif rtF (-1) b then Qnq 0 b else 0
theorem QxV : ∀(l:List (Int×Int)) (s:Int),InI s→InI (Qnq s l):=by
 intro l
 induction l with
 | nil=>intro s h;exact h
 | cons p l ih=>
  intro s h
  refine ih _ ?_
  rw [Qnj];unfold InI wrap64;omega
theorem Qvs (m:List (List (Int×Int))):∀x∈QkV m,InI x:=fun x hx=>by
 obtain⟨b,_,rfl⟩:=Qah.1 hx
 cases rtF (-1) b with
 | false=>unfold InI;simp
 | true=>exact QxV b 0 (by unfold InI;omega)
theorem QwP (m:List (List (Int×Int)))(h:m.length≤70)(hb:∀b∈m,b.length≤maxLen):Qbo m=some (QkV m):=by
 have main:Qi (Qbo m) fun r=>r=QkV m:=by
  unfold Qbo
  refine T0 (T5 (by simp;omega)) fun _ _=>?_
  refine T0 (Qi.up m.length (fun st=>st.1) (fun st=>st.2.length=m.length∧st.2.take st.1.toNat=(QkV m).take st.1.toNat) (Q:=fun r=>r=QkV m) rfl ⟨by simp,rfl⟩ (fun i st hi hn hJ=>?_)) fun q hq=>T2 hq
  obtain⟨x,l⟩:=st
  replace hi:x=(i:Int):=hi
  subst hi
  obtain⟨j1,j2⟩:l.length=m.length∧l.take (i:Int).toNat=(QkV m).take (i:Int).toNat:=hJ
  rw [Int.toNat_natCast]at j2
  have hlen:(QkV m).length=m.length:=by unfold QkV;simp
  show Qi (QbC m i l) _
  unfold QbC
  refine T1 (fun hc=>?_) (fun hc=>T2 (Qs ?_))
  ·simp only [QS]at hc
   have i1:i<m.length:=by omega
   rw [Qac,QH i1,Qn,Qso _ (hb _ (Qjo i1)),Qn]
   refine T0 (T4 (by omega) (by omega)) fun _ _=>?_
   have hw:w64 ((i:Int)+1)=(i:Int)+1:=Qaf (by omega)
   refine T2 (QE ⟨i1,hw,by simpa using j1,?_⟩)
   show(l.set (i:Int).toNat _).take (w64 ((i:Int)+1)).toNat=(QkV m).take (w64 ((i:Int)+1)).toNat
   rw [hw,show((i:Int)+1).toNat=i+1 by omega,Int.toNat_natCast]
   exact Qxs (by omega) j2 (by unfold QkV;rw [Q3,QH i1];rfl)
  simp only [Qbc]at hc
  rw [Qif (by omega),Qif (by omega)]at j2
  exact j2
 obtain⟨r,h1,h2⟩:=main
 rw [h1,h2]
theorem Qv8 (w:List Int)(m:List (List (Int×Int)))(hw:∀x∈w,InI x)(hl:w.length≤20)(h:m.length≤70)(hb:∀b∈m,b.length≤maxLen):∃v,QgM w m=some v∧QjG w m=some v:=by
 unfold QgM QjG
 cases ((w.length:Int) != (m.length:Int))with
 | true=>exact⟨_,rfl,rfl⟩
 | false=>
  simp only [cond_false]
  rw [QwP m h hb,Qn,QwI hw (Qvs m) (by unfold maxLen;omega),Qn]
  refine⟨_,rfl,?_⟩
  rw [Qms (body:=fun st=>Qca m st.1 st.2) (l:=m) (fun i (l:List Int)=>l.length≤i) (fun i l=>((i:Int),l)) (fun _ l b=>.inl (l++[bif rtF (-1) b then Qnq 0 b else 0])) (fun l=>l) (fun i l b hj hi hx=>by
   refine⟨?_,fun t' e=>?_⟩
   ·show Qca m i l=_
    have hbl:=hb b (QY hx)
    unfold Qca
    rw [QZ (by omega),cond_true,Qac,hx,Qn,QwO b hbl,Qso b hbl,Qn,QjI (by simp;omega),Qn,Qx hi (by unfold maxLen;omega)]
    rfl
   ·cases e;simp;omega) (fun l _=>by
   show Qca m m.length l=_
   unfold Qca
   rw [Q0 (by omega),cond_false]) [] (by simp) (s0:=(0,[])) rfl,Qn]
  have:∀(m:List (List (Int×Int))) (k:Nat) (l:List Int),Qby (fun _ (l:List Int) b=>(.inl (l++[bif rtF (-1) b then Qnq 0 b else 0]):List Int⊕List Int)) (fun l=>l) k l m=l++QkV m:=by
   intro m
   induction m with
   | nil=>intro k l;simp [Qby,QkV]
   | cons b m ih=>
    intro k l
    rw [Qby]
    show Qby _ _ _ (l++[bif rtF (-1) b then Qnq 0 b else 0]) m=_
    rw [ih];simp [QkV]
  rw [this]
  unfold QjX
  rw [List.nil_append,Qvr hw (Qvs m) (by unfold maxLen;omega)]
  rfl
end Go.Proofs
noncomputable section
namespace Go.Proofs
open Go Go.RowKit Go.Vm
def QjZ (p:Nat)(w:List Int):Bool:=match w[p]? with
 | some x=>decide (0<x)&&w.all fun y=>decide (0≤y)
 | none=>false
theorem Qxu (w:List Int)(h0:0<w.length)(h:w.length≤maxLen):Qi (Qd7 w) fun m=>decide (0≤m)=w.all fun y=>decide (0≤y):=by
 unfold Qd7
 refine T1 (fun hc=>by simp at hc;omega) fun _=>?_
 rw [show idx w 0=some w[0]from by rw [Qh7 (by omega) (by omega)];rfl,Qn]
 refine T0 (Qi.up (w.length-1) (fun st=>st.2-1) (fun st=>1≤st.2∧(0≤st.1↔∀x∈w.take st.2.toNat,0≤x)) (Q:=fun m=>0≤m↔∀x∈w,0≤x) rfl ⟨by show(1:Int)≤1;omega,?_⟩ (fun i st hi hn hJ=>?_)) fun q hq=>T2 ?_
 ·show 0≤w[0]↔∀x∈w.take 1,0≤x
  rw [List.take_one,List.head?_eq_getElem?,QH h0]
  simp
 ·obtain⟨m,x⟩:=st
  replace hi:x-1=(i:Int):=hi
  obtain⟨j1,j2⟩:1≤x∧(0≤m↔∀y∈w.take x.toNat,0≤y):=hJ
  show Qi (Qc0 w m x) _
  unfold Qc0
  refine T1 (fun hc=>?_) (fun hc=>T2 (Qs ?_))
  ·simp only [QS]at hc
   have hx:x.toNat<w.length:=by omega
   have hw:w64 (x+1)=x+1:=Qaf (by unfold maxLen at h;omega)
   rw [Qh7 (by omega) hc,Qn]
   refine T2 (QE ⟨by omega,by show w64 (x+1)-1=_;omega,by show 1≤w64 (x+1);omega,?_⟩)
   show 0≤min2 m w[x.toNat]↔∀y∈w.take (w64 (x+1)).toNat,0≤y
   rw [QiR,j2,hw,show(x+1).toNat=x.toNat+1 by omega,Qk0,QH hx]
   constructor
   ·rintro ⟨h1,h2⟩ y hy
    rcases Qkb.1 hy with hy | hy
    ·exact h1 y hy
    rw [List.mem_singleton.1 hy];exact h2
   intro h1
   exact⟨fun y hy=>h1 y (List.mem_append_left _ hy),h1 _ (List.mem_append_right _ Qa1)⟩
  simp only [Qbc]at hc
  rw [Qif (by omega)]at j2
  exact j2
 rw [Bool.eq_iff_iff,QS,QV]
 simpa using hq
theorem QxW (w:List Int)(p:Nat)(h:w.length≤maxLen):QfC w p=some (QjZ p w):=by
 unfold QfC Qkp Qd8 QjZ
 by_cases c:p<w.length
 ·rw [QZ (by omega),cond_true,Qac,QH c,Qn]
  simp only
  cases decide (0<w[p])with
  | false=>rfl
  | true=>
   obtain⟨m,h1,h2⟩:=Qxu w (by omega) h
   rw [cond_true,h1,Qn,Qn,h2,Bool.true_and]
 rw [Q0 (by omega),cond_false,List.getElem?_eq_none (by omega)];rfl
theorem Qxv (l:List (List Int))(p:Nat)(hl:l.length≤1000)(h:∀w∈l,w.length≤maxLen):Qbg l p=some (l.any (QjZ p)):=by
 unfold Qbg QcV
 rw [QnZ (l:=l) (QjZ p) (fun i x hi hx=>by
  show Q8 l p i=_
  unfold Q8
  rw [QZ (by omega),cond_true,Qac,hx,Qn,QxW x p (h x (QY hx)),Qn,Qx hi (by unfold maxLen;omega)]
  cases QjZ p x<;>rfl) (by
  show Q8 l p l.length=_
  unfold Q8
  rw [Q0 (by omega),cond_false]),←Qsl]
 cases QdT (fun _ x=>QjZ p x) 0 l<;>rfl
def QlO (places:Int):Nat:=(max2 0 (min2 places 1000)).toNat
theorem QtL (places:Int):QlO places≤1000:=by unfold QlO max2 min2;split<;>split<;>omega
theorem Qvt (places:Int)(p:Nat):(p:Int)<max2 0 (min2 places 1000)↔p<QlO places:=by unfold QlO max2 min2;split<;>split<;>omega
theorem Qu4 (places:Int)(p:Nat):((decide ((p:Int)<places))&&(decide ((p:Int)<1000)))=decide (p<QlO places):=by
 rw [Bool.eq_iff_iff,Qw,QS,QS,QS]
 unfold QlO max2 min2;split<;>split<;>omega
theorem Qtd (l:List (List Int))(places:Int)(hl:l.length≤1000)(h:∀w∈l,w.length≤maxLen):QdJ l places=some (((List.range (QlO places)).filter fun p=>l.any (QjZ p)).map fun (i:Nat)=>(i:Int)):=by
 have hu:=QtL places
 unfold QdJ
 rw [QqJ (QlO places) (fun p=>l.any (QjZ p)) (fun i s hi hs=>by
  show Qcj places l i s=_
  unfold Qcj Qe2
  rw [QZ ((Qvt places i).2 hi),cond_true,Qxv l i hl h,Qn,Qx hi (by unfold maxLen;omega)]
  cases l.any (QjZ i)with
  | false=>rfl
  | true=>rw [cond_true,QjI (by simp;omega)];rfl) (fun s=>by
  show Qcj places l (QlO places:Nat) s=_
  unfold Qcj
  rw [Q0 (by rw [Qvt];omega),cond_false])]
 rfl
theorem Qxw (f:Int→Bool):∀(l:List Int) (k:Nat) (t:Bool),Qby (fun (_:Nat) (t:Bool) x=>(bif t then .inl (f x)else .inr t:Bool⊕Bool)) (fun t=>t) k t l=(t&&l.all f):=by
 intro l
 induction l with
 | nil=>intro k t;simp [Qby]
 | cons x l ih=>
  intro k t
  rw [Qby]
  cases t with
  | false=>rfl
  | true=>show Qby _ _ _ (f x) l=_;rw [ih];simp
theorem Qvu {l:List (List Int)}{i:Nat}{w:List Int}(hx:l[i]? = some w)(h:w.length≤maxLen)(s:Bool):Qt (fun st=>Qa9 l i st.1 st.2) (s,0)=some (s&&w.all fun y=>decide (0≤y)):=by
 rw [Qf7 (body:=fun st=>Qa9 l i st.1 st.2) (l:=w) (fun k (b:Bool)=>(b,(k:Int))) (fun _ b y=>bif b then .inl (decide (0≤y))else .inr b) (fun b=>b) (fun k b y hk hy=>by
  show Qa9 l i b k=_
  unfold Qa9 Qh5 QdC
  rw [Qac,hx,Qn,QZ (by omega),cond_true,Qn]
  cases b with
  | false=>rfl
  | true=>rw [cond_true,Qn,Qac,hy,Qn,Qx hk h];rfl) (fun b=>by
  show Qa9 l i b w.length=_
  unfold Qa9 Qh5 QdC
  rw [Qac,hx,Qn,Q0 (by omega),cond_false];rfl) s (s0:=(s,0)) rfl]
 congr 1
 exact Qxw _ _ _ _
theorem QxX (l:List (List Int))(p:Nat)(hl:l.length≤1000)(h:∀w∈l,w.length≤maxLen):Qt (fun st=>Qba l p st.1 st.2) (false,0)=some (l.any (QjZ p)):=by
 rw [Qf7 (body:=fun st=>Qba l p st.1 st.2) (l:=l) (fun i (b:Bool)=>(b,(i:Int))) (fun _ b w=>.inl (b||QjZ p w)) (fun b=>b) (fun i b w hi hx=>by
  show Qba l p b i=_
  have hw:=h w (QY hx)
  unfold Qba QlD Qfh
  rw [QZ (by omega),cond_true,Qac,hx,Qn,Qn]
  unfold QjZ
  by_cases c:p<w.length
  ·rw [QZ (by omega),cond_true,Qac,QH c,Qn,Qn,Qvu hx hw,Qn]
   unfold Qfg
   rw [Qx hi (by unfold maxLen;omega)]
   rfl
  ·rw [Q0 (by omega),cond_false,Qn,List.getElem?_eq_none (by omega),Qvu hx hw,Qn]
   unfold Qfg
   rw [Qx hi (by unfold maxLen;omega)]
   rfl) (fun b=>by
  show Qba l p b l.length=_
  unfold Qba
  rw [Q0 (by omega),cond_false]) false (s0:=(false,0)) rfl]
 congr 1
 exact Qsm _ _ _ _
theorem Qu5 (l:List (List Int))(places:Int)(hl:l.length≤1000)(h:∀w∈l,w.length≤maxLen):QhD l places=QdJ l places:=by
 have hu:=QtL places
 rw [Qtd l places hl h]
 unfold QhD
 rw [QqJ (QlO places) (fun p=>l.any (QjZ p)) (fun i s hi hs=>by
  show QbT places l i s=_
  unfold QbT
  rw [Qu4,QZ hi,cond_true,QxX l i hl h,Qn]
  unfold Qh6 Qff
  rw [Qx hi (by unfold maxLen;omega)]
  cases l.any (QjZ i)with
  | false=>rfl
  | true=>rw [cond_true,QjI (by simp;omega)];rfl) (fun s=>by
  show QbT places l (QlO places:Nat) s=_
  unfold QbT
  rw [Qu4,Q0 (by omega),cond_false])]
 rfl
theorem QqL (a:List Int)(h:a.length≤maxLen):Qdy a a=some true:=by
 unfold Qdy
 rw [show((a.length:Int) != (a.length:Int))=false by simp,cond_false,Qnk (body:=fun st=>QcE a a st) (l:=a) (fun i=>(i:Int)) (fun _ _=>false) (.inl ()) (.inr ()) (fun i x hi hx=>by
  show QcE a a i=_
  unfold QcE
  rw [QZ (by omega),cond_true,Qac,hx,Qn,Qn,Qx hi h]
  simp) (by
  show QcE a a a.length=_
  unfold QcE
  rw [Q0 (by omega),cond_false]) (s0:=0) rfl,Qpv,show(a.any fun _=>false)=false from List.any_eq_false.2 fun x _=>by simp]
 rfl
theorem QwQ (a:List (List Int))(h:a.length≤maxLen)(h2:∀x∈a,x.length≤maxLen):QfT a a=some true:=by
 unfold QfT
 rw [show((a.length:Int) != (a.length:Int))=false by simp,cond_false,Qnk (body:=fun st=>QcF a a st) (l:=a) (fun i=>(i:Int)) (fun _ _=>false) (.inl ()) (.inr ()) (fun i x hi hx=>by
  show QcF a a i=_
  unfold QcF
  rw [QZ (by omega),cond_true,Qac,hx,Qn,Qn,QqL x (h2 x (QY hx)),Qn,Qx hi h]
  rfl) (by
  show QcF a a a.length=_
  unfold QcF
  rw [Q0 (by omega),cond_false]) (s0:=0) rfl,Qpv,show(a.any fun _=>false)=false from List.any_eq_false.2 fun x _=>by simp]
 rfl
theorem QyU (m:List (List (Int×Int)))(h:m.length≤maxLen):Qi (QgY m) fun r=>r=true→m.length≤70:=by
 obtain⟨r,hr,_⟩:=QxP m h
 refine⟨r,hr,fun ht=>?_⟩
 subst ht
 unfold QgY QkQ at hr
 obtain⟨q,_,h2⟩:=Qc hr
 simp only [Option.some.injEq,Qw,QS]at h2
 omega
theorem Qv9 (n:Qm)(w:List Int)(m:List (List (Int×Int)))(places:Int)(h:QF n)(hw:∀x∈w,InI x)(hm:QQ (QQ fun _=>True) m):QdD n w m places=some true:=by
 unfold QdD
 rw [Qv4,Qn]
 obtain⟨f,hf,hf2⟩:=Qyq n h
 rw [hf,Qn]
 obtain⟨g,hg,hg2⟩:=QyU m hm.1
 rw [hg,Qn]
 cases hc:((!f)||((!g)||(decide (20<(w.length:Int)))))with
 | true=>rfl
 | false=>
  simp only [QdF,Qjm,Qbc]at hc
  obtain⟨hc1,hc2,hc3⟩:=hc
  obtain⟨ok,hp,ht⟩:=hf2 hc1
  obtain⟨v,hv1,hv2⟩:=Qv8 w m hw (by omega) (hg2 hc2) (fun b hb=>(hm.2 b hb).1)
  simp only [cond_false]
  rw [hv1,Qn,hv2,Qn]
  obtain⟨E,hE,hE1,hE2⟩:=QqF n ok ht
  obtain⟨F,hF,hF1⟩:=QqE n hp ht
  obtain⟨b,hb1,hb2⟩:=Qv7 ok hp ht w hw
  have hF2:=hF1.1
  have hcl:∀u∈([w,([1,0,2]:List Int)]:List (List Int)),u.length≤maxLen:=fun u hu=>by
   simp only [Qa0,List.not_mem_nil,or_false]at hu
   rcases hu with rfl | rfl
   ·unfold maxLen;omega
   unfold maxLen;simp
  have hcv:=Qtd ([w,([1,0,2]:List Int)]:List (List Int)) places (by simp) hcl
  unfold Qj7 QdS
  rw [cond_true,hF,Qn,QqI,hF,Qn,QwQ F (by unfold maxLen;omega) (fun x hx=>by have:=(hF1.2 x hx).1;unfold maxLen;omega),Qn,cond_true,
   hE,Qn,QqK ok ht,hE,Qn,QqL E (by unfold maxLen;omega),Qn,cond_true,hb2,Qn,hb1,Qn,
   Qu5 _ places (by simp) hcl,hcv,Qn,Qn,QqL _ (by
    have:=QtL places
    have h2:=Qsr (fun p=>([w,([1,0,2]:List Int)]:List (List Int)).any (QjZ p)) (List.range (QlO places))
    rw [QoU]at h2
    rw [Qka];unfold maxLen;omega)]
  simp
end Go.Proofs
