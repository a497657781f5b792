/- A part of the proof; what it holds is told at each theorem. -/
import Derived.Test.YtidpjdkldadlpaaGreatDoorM3P2
import Derived.Test.YtidpjdkldadlpaaGreatDoorM3P2
import Derived.Test.YtidpjdkldadlpaaGreatDoorM3T3
import Derived.KernelRfl
import Derived.Test.YtidpjdkldadlpaaGreatDoorM3XPlA
set_option linter.unusedVariables false
set_option linter.unusedSimpArgs false
set_option linter.unusedSectionVars false
set_option linter.deprecated false
noncomputable section
namespace Go.Proofs
open Go Go.RowKit Go.Vm
theorem QC9 {n:Qj}{m:List Bag}(budget:Int)(h:Q0 n)(hb:Bd n)(hg:QaB n m):Qg (QgE n m budget 9223372036854775807) fun r=>r.1.length≤4194304∧∀o∈r.1,o∈Qck n m:=by
 have hml:=hg.len h
 have hal:=QzX m h hb
 unfold QgE
 rw [Qzi n m 9223372036854775807 h hml (by omega) (by omega) (.inr (by omega)),Ql]
 have e0:(Qck n m).take (9223372036854775807:Int).toNat=Qck n m:=QdH (by omega)
 rw [e0]
 have hok:=fun o=>Qp3 (o:=o) h hml
 refine T0 (Qg.up (Qck n m).length (fun st=>st.2.1) (fun st=>(st.2.2.1.length:Int)≤st.2.1∧∀o∈st.2.2.1,o∈Qck n m) (Q:=fun q:Bool×List Qm=>q.2.length≤4194304∧∀o∈q.2,o∈Qck n m) rfl ⟨by simp,fun o h=>(by cases h)⟩ (fun i st hi hn hJ=>?_)) (fun q hq=>T2 hq)
 obtain⟨known,x,l,mm⟩:=st
 replace hi:x=(i:Int):=hi
 subst hi
 obtain⟨j1,j2⟩:(l.length:Int)≤(i:Int)∧∀o∈l,o∈Qck n m:=hJ
 show Qg (Qiu (Qck n m) n m budget known i l mm) _
 unfold Qiu
 refine T1 (fun hc=>?_) (fun hc=>T2 (Qn ⟨by show l.length≤_;omega,j2⟩))
 simp only [QD]at hc
 have i1:i<(Qck n m).length:=by omega
 have hw:w64 ((i:Int)+1)=((i+1:Nat):Int):=Qz i1 (by unfold maxLen;omega:(Qck n m).length≤maxLen)
 have ho:=Qay i1
 rw [Q4,QB i1,Ql]
 generalize (Qck n m)[i]=o at ho ⊢
 have k1:∀(known':Bool) l' mm',(l'.length:Int)≤(i:Int)+1→(∀o∈l',o∈Qck n m)→Qg (Qew i known' l' mm') fun r=>(∀s',r=.inl s'→i<(Qck n m).length∧s'.2.1=((i+1:Nat):Int)∧(s'.2.2.1.length:Int)≤s'.2.1∧∀o∈s'.2.2.1,o∈Qck n m)∧∀q:Bool×List Qm,r=.inr q→q.2.length≤4194304∧∀o∈q.2,o∈Qck n m:=fun known' l' mm' h1 h2=>by
  unfold Qew
  exact T2 (QF (ix:=fun st:Bool×Int×List Qm×List (Int×Int)=>st.2.1) (J:=fun st:Bool×Int×List Qm×List (Int×Int)=>(st.2.2.1.length:Int)≤st.2.1∧∀o∈st.2.2.1,o∈Qck n m) ⟨i1,hw,by show(l'.length:Int)≤w64 _;rw [hw];omega,h2⟩)
 have k2:∀mm',Qg (Qgb o l i known mm') fun r=>(∀s',r=.inl s'→i<(Qck n m).length∧s'.2.1=((i+1:Nat):Int)∧(s'.2.2.1.length:Int)≤s'.2.1∧∀o∈s'.2.2.1,o∈Qck n m)∧∀q:Bool×List Qm,r=.inr q→q.2.length≤4194304∧∀o∈q.2,o∈Qck n m:=fun mm'=>by
  unfold Qgb
  refine T1 (fun c1=>?_) fun c1=>T1 (fun c2=>k1 _ _ _ (by omega) j2) fun c2=>k1 _ _ _ (by omega) j2
  refine T0 (T5 (by simp;omega)) fun _ _=>k1 _ _ _ (by simp;omega) fun o' ho'=>?_
  rcases QbG.1 ho' with ho' | ho'
  ·exact j2 o' ho'
  simp at ho';subst ho';exact ho
 refine T1 (fun c=>?_) fun c=>k2 _
 rw [QC5 o budget h hb hg (hok o ho),Ql]
 exact k2 _
def QbK (n:Qj)(m:List Bag)(budget:Int):List Qm×Bool:=(QgE n m budget 9223372036854775807).getD ([],false)
theorem QuH {n:Qj}{m:List Bag}(budget:Int)(h:Q0 n)(hb:Bd n)(hg:QaB n m):QgE n m budget 9223372036854775807=some (QbK n m budget)∧(QbK n m budget).1.length≤4194304∧∀o∈(QbK n m budget).1,o∈Qck n m:=by
 obtain⟨r,h1,h2⟩:=QC9 budget h hb hg
 unfold QbK
 rw [h1];exact⟨rfl,h2⟩
def QiM (L:List (List Bag))(s:ByteArray):Option Nat:=L.findIdx? fun y=>decide (Qak y=s)
def FI (mm:List (ByteArray×Int))(L:List (List Bag)):Prop:=∀s,Qv mm s=(QiM L s).map fun i=>(i:Int)
theorem QDa (L:List (List Bag))(y:List Bag)(s:ByteArray):QiM (L++[y]) s=match QiM L s with
  | some i=>some i
  | none=>if Qak y=s then some L.length else none:=by
 unfold QiM
 rw [List.findIdx?_append]
 cases L.findIdx? fun y=>decide (Qak y=s)with
 | some i=>rfl
 | none=>
  by_cases c:Qak y=s
  ·simp [c,List.findIdx?_cons]
  simp [c,List.findIdx?_cons]
theorem QCa {L:List (List Bag)}{s:ByteArray}{i:Nat}(h:QiM L s=some i):∃y,L[i]? = some y∧Qak y=s:=by
 unfold QiM at h
 obtain⟨h1,h2,_⟩:=List.findIdx?_eq_some_iff_getElem.1 h
 exact⟨L[i],QB h1,Q9 h2⟩
theorem QCb {L:List (List Bag)}{s:ByteArray}(h:QiM L s=none):∀y∈L,Qak y≠s:=fun y hy e=>by
 unfold QiM at h
 have:=List.findIdx?_eq_none_iff.1 h y hy
 exact absurd (QbW e) (by rw [this];decide)
theorem FI.add {mm:List (ByteArray×Int)}{L:List (List Bag)}(h:FI mm L){y:List Bag}(hn:QiM L (Qak y)=none):FI (Qag ltS mm (Qak y) (L.length:Int)) (L++[y]):=fun s=>by
 rw [Qc0,QDa]
 by_cases c:s=Qak y
 ·subst c
  rw [if_pos rfl,hn];simp
 rw [if_neg c,h s]
 cases QiM L s with
 | some i=>rfl
 | none=>simp only;rw [if_neg fun e=>c e.symm]
def Q3 (b:Int):Nat:=(min2 b 4096).toNat
theorem QDT {n:Qj}{m:List Bag}(h:Q0 n)(hg:QaB n m):QnJ m=some (Qak m):=Qw1 h hg
theorem Qw3 {n:Qj}{mm:List (ByteArray×Int)}{L:List (List Bag)}(b:Int)(E:List QS)(full:Bool){y:List Bag}(h:Q0 n)(hg:QaB n y)(hI:FI mm L)(hb:0<b):
  ∃k L' mm',Qc5 n.Colours n.Places n.Tasks n.From n.To b mm L E full y=some (k,L',n.Colours,n.Places,n.Tasks,n.From,n.To,b,full,mm')∧FI mm' L'∧
   ((∃i:Nat,QiM L (Qak y)=some i∧k=(i:Int)∧L'=L)∨(QiM L (Qak y)=none∧Q3 b≤L.length∧k=-1∧L'=L)∨(QiM L (Qak y)=none∧¬Q3 b≤L.length∧k=(L.length:Int)∧L'=L++[y])):=by
 have hmost:(Q3 b:Int)=min2 b 4096:=by unfold Q3 min2;split<;>omega
 have hm2:Q3 b≤4096:=by unfold Q3 min2;split<;>omega
 unfold Qc5
 rw [QDT h hg,Ql,hI (Qak y)]
 cases hp:QiM L (Qak y)with
 | some i=>exact⟨i,L,mm,rfl,hI,.inl ⟨i,rfl,rfl,rfl⟩⟩
 | none=>
  simp only [Qlj,Option.isSome_none,cond_false]
  cases hc:decide (min2 b 4096≤(L.length:Int))with
  | true=>exact⟨-1,L,mm,rfl,hI,.inr (.inl ⟨by trivial,by have:=Q9 hc;omega,rfl,rfl⟩)⟩
  | false=>
   have hc':=of_decide_eq_false hc
   simp only [cond_false,Ql]
   rw [QmW (by simp;omega),Ql]
   exact⟨L.length,L++[y],_,rfl,hI.add hp,.inr (.inr ⟨by trivial,by omega,rfl,rfl⟩)⟩
abbrev SSt := List (List Bag)×List QS×Bool
def QcS (most:Nat)(n:Qj)(x:List Bag)(a:Int)(st:SSt)(o:Qm):SSt:=match Qas n x o with
 | some (y,c)=>if c=0 then(match QiM st.1 (Qak y)with
   | some k=>(st.1,st.2.1++[QS.mk a (k:Int) o],st.2.2)
   | none=>if most≤st.1.length then(st.1,st.2.1,false)else(st.1++[y],st.2.1++[QS.mk a (st.1.length:Int) o],st.2.2))
  else(st.1,st.2.1,false)
 | none=>st
theorem QAW {n:Qj}{mm:List (ByteArray×Int)}{L:List (List Bag)}{E:List QS}{full:Bool}{x:List Bag}{a:Nat}(b:Int)(h:Q0 n)(hbd:Bd n)(hg:QaB n x)(hI:FI mm L)(hb:0<b)(hx:L[a]? = some x)(hE:E.length≤134217728):
  ∃mm',let T:=(QbK n x b).1.foldl (QcS (Q3 b) n x a) (L,E,full&&(QbK n x b).2)
   QeI n.Colours n.Places n.Tasks n.From n.To b mm L E full a=some (T.1,T.2.1,n.Colours,n.Places,n.Tasks,n.From,n.To,b,T.2.2,mm')∧FI mm' T.1:=by
 obtain⟨hf,hfl,hfm⟩:=QuH b h hbd hg
 unfold QeI
 rw [Q4,hx,Ql,show Qj.mk n.Colours n.Places n.Tasks n.From n.To=n from rfl,hf,Ql]
 have g1:QfD full (QbK n x b)=some (full&&(QbK n x b).2):=by
  unfold QfD;cases full<;>rfl
 rw [g1,Ql]
 have hok:∀o∈(QbK n x b).1,Qct n o:=fun o ho=>Qp3 h (hg.len h) (hfm o ho)
 unfold QdB
 generalize hX:(QbK n x b).1=X at hfl hok ⊢
 generalize (full&&(QbK n x b).2)=full0
 have main:Qg (QJ (fun st=>Qcr (QbK n x b) x a st.1 st.2.1 st.2.2.1 st.2.2.2.1 st.2.2.2.2.1 st.2.2.2.2.2.1 st.2.2.2.2.2.2.1 st.2.2.2.2.2.2.2.1 st.2.2.2.2.2.2.2.2.1 st.2.2.2.2.2.2.2.2.2.1 st.2.2.2.2.2.2.2.2.2.2) ((0:Int),n.Colours,n.Places,n.Tasks,n.From,n.To,b,full0,mm,E,L))
   fun q=>∃mm',q=(n.Colours,n.Places,n.Tasks,n.From,n.To,b,(X.foldl (QcS (Q3 b) n x a) (L,E,full0)).2.2,mm',(X.foldl (QcS (Q3 b) n x a) (L,E,full0)).2.1,(X.foldl (QcS (Q3 b) n x a) (L,E,full0)).1)∧FI mm' (X.foldl (QcS (Q3 b) n x a) (L,E,full0)).1:=by
  refine Qg.up X.length (fun st=>st.1) (fun st=>st.2.1=n.Colours∧st.2.2.1=n.Places∧st.2.2.2.1=n.Tasks∧st.2.2.2.2.1=n.From∧st.2.2.2.2.2.1=n.To∧st.2.2.2.2.2.2.1=b∧FI st.2.2.2.2.2.2.2.2.1 st.2.2.2.2.2.2.2.2.2.2∧(st.2.2.2.2.2.2.2.2.2.1.length:Int)≤E.length+st.1∧(X.drop st.1.toNat).foldl (QcS (Q3 b) n x a) (st.2.2.2.2.2.2.2.2.2.2,st.2.2.2.2.2.2.2.2.2.1,st.2.2.2.2.2.2.2.1)=X.foldl (QcS (Q3 b) n x a) (L,E,full0)) rfl ⟨rfl,rfl,rfl,rfl,rfl,rfl,hI,by simp,rfl⟩ (fun i st hi hn hJ=>?_)
  obtain⟨i',c,p,t,fr,tz,b',fu,mm,E',L'⟩:=st
  replace hi:i'=(i:Int):=hi
  subst hi
  obtain⟨e1,e2,e3,e4,e5,e6,j1,j2,j3⟩:c=n.Colours∧p=n.Places∧t=n.Tasks∧fr=n.From∧tz=n.To∧b'=b∧FI mm L'∧(E'.length:Int)≤E.length+(i:Int)∧(X.drop (i:Int).toNat).foldl (QcS (Q3 b) n x a) (L',E',fu)=X.foldl (QcS (Q3 b) n x a) (L,E,full0):=hJ
  subst e1;subst e2;subst e3;subst e4;subst e5;subst e6
  rw [QaK]at j3
  show Qg (Qcr (QbK n x b') x a i n.Colours n.Places n.Tasks n.From n.To b' fu mm E' L') _
  unfold Qcr
  rw [hX]
  refine T1 (fun hc=>?_) (fun hc=>T2 (Qn ?_))
  ·simp only [QD]at hc
   have i1:i<X.length:=by omega
   have hw:w64 ((i:Int)+1)=((i+1:Nat):Int):=Qz i1 (by unfold maxLen;omega:X.length≤maxLen)
   rw [Q4,QB i1,Ql,show Qj.mk n.Colours n.Places n.Tasks n.From n.To=n from rfl]
   rw [Qnx i1,List.foldl_cons]at j3
   have ho:=hok _ (Qay i1)
   generalize X[i]=o at ho j3 ⊢
   obtain⟨⟨y,cc⟩,hD,_⟩:=QAG n x o 1024 h hg.1 (by omega) ho
   rw [hD,Ql]
   have next:∀(fu':Bool) mm' E'' L'',FI mm' L''→(E''.length:Int)≤E.length+((i:Int)+1)→QcS (Q3 b') n x a (L',E',fu) o=(L'',E'',fu')→
     Qg (Qcp i n.Colours n.Places n.Tasks n.From n.To b' fu' mm' E'' L'') fun r=>(∀s',r=.inl s'→i<X.length∧s'.1=((i+1:Nat):Int)∧(s'.2.1=n.Colours∧s'.2.2.1=n.Places∧s'.2.2.2.1=n.Tasks∧s'.2.2.2.2.1=n.From∧s'.2.2.2.2.2.1=n.To∧s'.2.2.2.2.2.2.1=b'∧FI s'.2.2.2.2.2.2.2.2.1 s'.2.2.2.2.2.2.2.2.2.2∧(s'.2.2.2.2.2.2.2.2.2.1.length:Int)≤E.length+s'.1∧(X.drop s'.1.toNat).foldl (QcS (Q3 b') n x a) (s'.2.2.2.2.2.2.2.2.2.2,s'.2.2.2.2.2.2.2.2.2.1,s'.2.2.2.2.2.2.2.1)=X.foldl (QcS (Q3 b') n x a) (L,E,full0)))∧
      ∀q,r=.inr q→∃mm',q=(n.Colours,n.Places,n.Tasks,n.From,n.To,b',(X.foldl (QcS (Q3 b') n x a) (L,E,full0)).2.2,mm',(X.foldl (QcS (Q3 b') n x a) (L,E,full0)).2.1,(X.foldl (QcS (Q3 b') n x a) (L,E,full0)).1)∧FI mm' (X.foldl (QcS (Q3 b') n x a) (L,E,full0)).1:=fun fu' mm' E'' L'' f1 f2 f3=>by
    unfold Qcp
    refine T2 ⟨fun s' e=>?_,fun q e=>by cases e⟩
    cases e
    refine⟨i1,hw,rfl,rfl,rfl,rfl,rfl,rfl,f1,by show(E''.length:Int)≤_+w64 _;rw [hw];omega,?_⟩
    show(X.drop (w64 ((i:Int)+1)).toNat).foldl (QcS (Q3 b') n x a) (L'',E'',fu')=_
    rw [hw,QaK,←j3,f3]
   by_cases c0:cc=0
   ·subst c0
    have hgy:=QrY h hg ho hD
    simp only [show((0:Int)==0)=true from rfl,cond_true]
    obtain⟨k,L'',mm'',hs,f1,f2⟩:=Qw3 b' E' fu h hgy j1 hb
    rw [hs,Ql]
    simp only
    unfold Qcq
    rcases f2 with⟨p,p1,rfl,rfl⟩|⟨p1,p2,rfl,rfl⟩|⟨p1,p2,rfl,rfl⟩
    ·rw [Qei (by omega),cond_false]
     refine T0 (T5 (by simp;omega)) fun _ _=>next _ _ _ _ f1 (by simp;omega) ?_
     unfold QcS;rw [hD];simp only;rw [if_pos trivial,p1]
    ·rw [show decide ((-1:Int)<0)=true from rfl,cond_true]
     refine next _ _ _ _ f1 (by omega) ?_
     unfold QcS;rw [hD];simp only;rw [if_pos trivial,p1];simp only;rw [if_pos p2]
    rw [Qei (by omega),cond_false]
    refine T0 (T5 (by simp;omega)) fun _ _=>next _ _ _ _ f1 (by simp;omega) ?_
    unfold QcS;rw [hD];simp only;rw [if_pos trivial,p1];simp only;rw [if_neg p2]
   rw [show(cc==0)=false by simpa using c0,cond_false]
   unfold Qcq
   rw [show decide ((-1:Int)<0)=true from rfl,cond_true]
   refine next _ _ _ _ j1 (by omega) ?_
   unfold QcS;rw [hD];simp only;rw [if_neg c0]
  simp only [Q1]at hc
  rw [Qwa (by omega),List.foldl_nil]at j3
  rw [←j3]
  exact⟨mm,rfl,j1⟩
 obtain⟨q,hq1,mm',rfl,hq2⟩:=main
 refine⟨mm',?_,hq2⟩
 rw [hq1];rfl
def Qrl (x:List Bag):Int:=w64 (tS x x.length)
def QfH (n:Qj)(b tokens:Int):Nat→SSt→Nat→SSt
 | 0,st,_=>st
 | f+1,st,a=>match st.1[a]? with
  | none=>st
  | some x=>if tokens<Qrl x then QfH n b tokens f (st.1,st.2.1,false) (a+1)
   else QfH n b tokens f ((QbK n x b).1.foldl (QcS (Q3 b) n x a) (st.1,st.2.1,st.2.2&&(QbK n x b).2)) (a+1)
theorem QDb {n:Qj}{x:List Bag}{a:Int}{most:Nat}{st:SSt}{o:Qm}(h:Q0 n)(hg:QaB n x)(ho:Qct n o)(hs:∀y∈st.1,QaB n y):∀y∈(QcS most n x a st o).1,QaB n y:=by
 unfold QcS
 cases hD:Qas n x o with
 | none=>exact hs
 | some r=>
  obtain⟨y,c⟩:=r
  simp only
  by_cases c0:c=0
  ·subst c0
   rw [if_pos rfl]
   cases QiM st.1 (Qak y)with
   | some k=>exact hs
   | none=>
    simp only
    split
    ·exact hs
    intro z hz
    rcases QbG.1 hz with hz | hz
    ·exact hs z hz
    simp at hz;subst hz;exact QrY h hg ho hD
  rw [if_neg c0];exact hs
theorem QDU {n:Qj}{x:List Bag}{a:Int}{most:Nat}{st:SSt}{o:Qm}(hs:st.1.length≤most):(QcS most n x a st o).1.length≤most∧(QcS most n x a st o).2.1.length≤st.2.1.length+1:=by
 unfold QcS
 cases hD:Qas n x o with
 | none=>exact⟨hs,by simp⟩
 | some r=>
  obtain⟨y,c⟩:=r
  simp only
  by_cases c0:c=0
  ·rw [if_pos c0]
   cases QiM st.1 (Qak y)with
   | some k=>exact⟨hs,by simp⟩
   | none=>
    simp only
    split
    ·exact⟨hs,by simp⟩
    exact⟨by simp;omega,by simp⟩
  rw [if_neg c0];exact⟨hs,by simp⟩
theorem Qx3 {n:Qj}{x:List Bag}{a:Int}{most:Nat}(h:Q0 n)(hg:QaB n x):∀{X:List Qm} {st:SSt},(∀o∈X,Qct n o)→(∀y∈st.1,QaB n y)→st.1.length≤most→(∀y∈(X.foldl (QcS most n x a) st).1,QaB n y)∧(X.foldl (QcS most n x a) st).1.length≤most∧(X.foldl (QcS most n x a) st).2.1.length≤st.2.1.length+X.length:=by
 intro X
 induction X with
 | nil=>intro st _ hs hl;exact⟨hs,hl,by simp⟩
 | cons o X ih=>
  intro st ho hs hl
  have h1:=QDU (n:=n) (x:=x) (a:=a) (o:=o) hl
  obtain⟨k1,k2,k3⟩:=ih (st:=QcS most n x a st o) (fun o' ho'=>ho o' (QaC _ ho')) (QDb h hg (ho o Qaz) hs) h1.1
  rw [List.foldl_cons]
  exact⟨k1,k2,by simp;omega⟩
theorem QCc {n:Qj}{m:List Bag}(b tokens:Int)(h:Q0 n)(hbd:Bd n)(hg:QaB n m)(hb:b≤16):
  Qkg n m b tokens=some (if b≤0 then Q2.mk [] [] false else let r:=QfH n b tokens (Q3 b+1) ([m],[],true) 0;Q2.mk r.1 r.2.1 r.2.2):=by
 have hpl:=h.pl
 have hm1:=hg.1.1
 unfold Qkg
 by_cases c0:b≤0
 ·rw [QbW c0,if_pos c0];rfl
 rw [Qei c0,if_neg c0,cond_false,Qko m (by omega) (fun b hb=>by have:=(hg.1.2 b hb).2;omega),Ql]
 have hmost:(Q3 b:Int)=b:=by unfold Q3 min2;split<;>omega
 obtain⟨k,L',mm',hs,f1,f2⟩:=Qw3 (mm:=[]) (L:=[]) b [] true h hg (fun s=>rfl) (by omega)
 rw [hs,Ql]
 have hL:L'=[m]:=by
  rcases f2 with⟨i,p1,_,_⟩|⟨_,p2,_,_⟩|⟨_,_,_,e⟩
  ·simp [QiM]at p1
  ·simp at p2;omega
  simpa using e
 subst hL
 simp only
 generalize hR:QfH n b tokens (Q3 b+1) ([m],[],true) 0=R
 have main:Qg (QJ (fun st=>QgQ tokens st.1 st.2.1 st.2.2.1 st.2.2.2.1 st.2.2.2.2.1 st.2.2.2.2.2.1 st.2.2.2.2.2.2.1 st.2.2.2.2.2.2.2.1 st.2.2.2.2.2.2.2.2.1 st.2.2.2.2.2.2.2.2.2.1 st.2.2.2.2.2.2.2.2.2.2) ((0:Int),n.Colours,n.Places,n.Tasks,n.From,n.To,b,true,mm',[m],([]:List QS)))
   fun q=>∃mm,q=(n.Colours,n.Places,n.Tasks,n.From,n.To,b,R.2.2,mm,R.1,R.2.1):=by
  refine Qg.up (Q3 b) (fun st=>st.1) (fun st=>st.2.1=n.Colours∧st.2.2.1=n.Places∧st.2.2.2.1=n.Tasks∧st.2.2.2.2.1=n.From∧st.2.2.2.2.2.1=n.To∧st.2.2.2.2.2.2.1=b∧FI st.2.2.2.2.2.2.2.2.1 st.2.2.2.2.2.2.2.2.2.1∧(∀y∈st.2.2.2.2.2.2.2.2.2.1,QaB n y)∧st.2.2.2.2.2.2.2.2.2.1.length≤Q3 b∧(st.2.2.2.2.2.2.2.2.2.2.length:Int)≤st.1*4194304∧QfH n b tokens (Q3 b+1-st.1.toNat) (st.2.2.2.2.2.2.2.2.2.1,st.2.2.2.2.2.2.2.2.2.2,st.2.2.2.2.2.2.2.1) st.1.toNat=R) rfl ⟨rfl,rfl,rfl,rfl,rfl,rfl,f1,fun y hy=>by simp at hy;subst hy;exact hg,by show 1≤_;omega,by simp,hR⟩ (fun i st hi hn hJ=>?_)
  obtain⟨i',c,p,t,fr,tz,b',fu,mm,L,E⟩:=st
  replace hi:i'=(i:Int):=hi
  subst hi
  obtain⟨e1,e2,e3,e4,e5,e6,j1,j2,j3,j4,j5⟩:c=n.Colours∧p=n.Places∧t=n.Tasks∧fr=n.From∧tz=n.To∧b'=b∧FI mm L∧(∀y∈L,QaB n y)∧L.length≤Q3 b∧(E.length:Int)≤(i:Int)*4194304∧QfH n b tokens (Q3 b+1-(i:Int).toNat) (L,E,fu) (i:Int).toNat=R:=hJ
  subst e1;subst e2;subst e3;subst e4;subst e5;subst e6
  rw [QaK,show Q3 b'+1-i=(Q3 b'-i)+1 by omega,QfH]at j5
  show Qg (QgQ tokens i n.Colours n.Places n.Tasks n.From n.To b' fu mm L E) _
  unfold QgQ
  refine T1 (fun hc=>?_) (fun hc=>T2 (Qn ?_))
  ·simp only [QD]at hc
   have i1:i<L.length:=by omega
   have hx:=QB i1
   have hgx:=j2 _ (Qay i1)
   rw [Q4,hx,Ql]
   simp only [hx]at j5
   generalize L[i]=x at hx hgx j5 ⊢
   rw [Qta h hgx.1 (by omega),Ql]
   have hw:w64 ((i:Int)+1)=((i+1:Nat):Int):=Qz (by omega:i<Q3 b') (by unfold maxLen;omega)
   have next:∀(fu':Bool) mm' L' E',FI mm' L'→(∀y∈L',QaB n y)→L'.length≤Q3 b'→(E'.length:Int)≤((i:Int)+1)*4194304→QfH n b' tokens (Q3 b'-i) (L',E',fu') (i+1)=R→
     Qg (QgP i n.Colours n.Places n.Tasks n.From n.To b' fu' mm' L' E') fun r=>(∀s',r=.inl s'→i<Q3 b'∧s'.1=((i+1:Nat):Int)∧(s'.2.1=n.Colours∧s'.2.2.1=n.Places∧s'.2.2.2.1=n.Tasks∧s'.2.2.2.2.1=n.From∧s'.2.2.2.2.2.1=n.To∧s'.2.2.2.2.2.2.1=b'∧FI s'.2.2.2.2.2.2.2.2.1 s'.2.2.2.2.2.2.2.2.2.1∧(∀y∈s'.2.2.2.2.2.2.2.2.2.1,QaB n y)∧s'.2.2.2.2.2.2.2.2.2.1.length≤Q3 b'∧(s'.2.2.2.2.2.2.2.2.2.2.length:Int)≤s'.1*4194304∧QfH n b' tokens (Q3 b'+1-s'.1.toNat) (s'.2.2.2.2.2.2.2.2.2.1,s'.2.2.2.2.2.2.2.2.2.2,s'.2.2.2.2.2.2.2.1) s'.1.toNat=R))∧
      ∀q,r=.inr q→∃mm,q=(n.Colours,n.Places,n.Tasks,n.From,n.To,b',R.2.2,mm,R.1,R.2.1):=fun fu' mm' L' E' g1 g2 g3 g4 g5=>by
    unfold QgP
    refine T2 ⟨fun s' e=>?_,fun q e=>by cases e⟩
    cases e
    refine⟨by omega,hw,rfl,rfl,rfl,rfl,rfl,rfl,g1,g2,g3,by show(E'.length:Int)≤w64 _*_;rw [hw];omega,?_⟩
    show QfH n b' tokens (Q3 b'+1-(w64 ((i:Int)+1)).toNat) (L',E',fu') (w64 ((i:Int)+1)).toNat=R
    rw [hw,QaK,show Q3 b'+1-(i+1)=Q3 b'-i by omega]
    exact g5
   refine T1 (fun hc2=>?_) fun hc2=>?_
   ·rw [if_pos (show tokens<Qrl x by simpa [Qrl] using hc2)]at j5
    exact next _ _ _ _ j1 j2 j3 (by omega) j5
   rw [if_neg (show ¬tokens<Qrl x by simpa [Qrl] using hc2)]at j5
   obtain⟨mm',hl,f3⟩:=QAW (full:=fu) (E:=E) b' h hbd hgx j1 (by omega) hx (by omega)
   rw [hl,Ql]
   obtain⟨q1,q2,q3⟩:=QuH b' h hbd hgx
   obtain⟨g1,g2,g3⟩:=Qx3 (a:=(i:Int)) (most:=Q3 b') h hgx (X:=(QbK n x b').1) (st:=(L,E,fu&&(QbK n x b').2)) (fun o ho=>Qp3 h (hgx.len h) (q3 o ho)) j2 j3
   exact next _ _ _ _ f3 g1 g2 (by simp only at g3 ⊢;omega) j5
  simp only [Q1]at hc
  rw [Qwb (show L.length≤i by omega)]at j5
  rw [←j5]
  exact⟨mm,rfl⟩
 obtain⟨q,hq1,mm,rfl⟩:=main
 rw [hq1];rfl
end Go.Proofs
noncomputable section
namespace Go.Proofs
open Go Go.RowKit Go.Vm
structure QEA (n:Qj) (m:List Bag) (b tokens:Int) (a:Nat) (st:SSt):Prop where
 good:∀y∈st.1,QaB n y
 apart:QjW Qak st.1
 len:st.1.length≤Q3 b
 head:∃r,st.1=m::r
 edge:∀e∈st.2.1,∃(i j:Nat) (x y:List Bag),e.From=(i:Int)∧e.To=(j:Int)∧i<a∧st.1[i]? = some x∧st.1[j]? = some y∧Qas n x e.Mode=some (y,0)∧Qct n e.Mode
 asc:st.2.1.Pairwise fun e f=>e.From≤f.From
 full:st.2.2=true→∀(i:Nat) (x:List Bag),i<a→st.1[i]? = some x→Qrl x≤tokens∧(QbK n x b).2=true∧(st.2.1.filter fun e=>e.From==(i:Int)).map (·.Mode)=(QbK n x b).1∧∀o∈(QbK n x b).1,∃y∈st.1,Qas n x o=some (y,0)
 tree:∀k:Nat,0<k→k<st.1.length→∃e∈st.2.1,∃i:Nat,e.From=(i:Int)∧i<k∧e.To=(k:Int)
structure QxH (n:Qj) (m:List Bag) (b tokens:Int) (a:Nat) (x:List Bag) (fl:Bool) (done:List Qm) (st:SSt):Prop where
 good:∀y∈st.1,QaB n y
 apart:QjW Qak st.1
 len:st.1.length≤Q3 b
 head:∃r,st.1=m::r
 here:st.1[a]? = some x
 edge:∀e∈st.2.1,∃(i j:Nat) (x y:List Bag),e.From=(i:Int)∧e.To=(j:Int)∧i<a+1∧st.1[i]? = some x∧st.1[j]? = some y∧Qas n x e.Mode=some (y,0)∧Qct n e.Mode
 asc:st.2.1.Pairwise fun e f=>e.From≤f.From
 full:st.2.2=true→fl=true∧∀(i:Nat) (x:List Bag),i<a→st.1[i]? = some x→Qrl x≤tokens∧(QbK n x b).2=true∧(st.2.1.filter fun e=>e.From==(i:Int)).map (·.Mode)=(QbK n x b).1∧∀o∈(QbK n x b).1,∃y∈st.1,Qas n x o=some (y,0)
 now:st.2.2=true→(st.2.1.filter fun e=>e.From==(a:Int)).map (·.Mode)=done∧∀o∈done,∃y∈st.1,Qas n x o=some (y,0)
 tree:∀k:Nat,0<k→k<st.1.length→∃e∈st.2.1,∃i:Nat,e.From=(i:Int)∧i<k∧e.To=(k:Int)
section
variable {n:Qj}{m:List Bag}{b tokens:Int}{a:Nat}
theorem Qw4 {E:List QS}{e:QS}{i:Nat}(he:e.From=(a:Int))(hi:i<a):(E++[e]).filter (fun e=>e.From==(i:Int))=E.filter fun e=>e.From==(i:Int):=by
 rw [QoG,Qig,if_neg (by rw [he];simp;omega),List.filter_nil,Qqg]
theorem Qx4 {E:List QS}{e:QS}(he:e.From=(a:Int)):(E++[e]).filter (fun e=>e.From==(a:Int))=(E.filter fun e=>e.From==(a:Int))++[e]:=by
 rw [QoG,Qig,if_pos (by rw [he];simp),List.filter_nil]
theorem QDV (h:Q0 n)(hp:n.Places.length≤64){x:List Bag}{fl:Bool}{done:List Qm}{st:SSt}{o:Qm}(I:QxH n m b tokens a x fl done st)(ho:Qct n o):QxH n m b tokens a x fl (done++[o]) (QcS (Q3 b) n x a st o):=by
 have hgx:=I.good x (Qan I.here)
 have hal:=(QU.1 I.here).1
 unfold QcS
 obtain⟨⟨y,c⟩,hD,_⟩:=QAG n x o 1024 h hgx.1 (by omega) ho
 rw [hD]
 simp only
 have down:QxH n m b tokens a x fl (done++[o]) (st.1,st.2.1,false):=⟨I.good,I.apart,I.len,I.head,I.here,I.edge,I.asc,fun e=>(by cases e),fun e=>(by cases e),I.tree⟩
 by_cases c0:c=0
 ·subst c0
  rw [if_pos rfl]
  have hgy:=QrY h hgx ho hD
  have ascs:∀k:Int,(st.2.1++[QS.mk (a:Int) k o]).Pairwise fun e f=>e.From≤f.From:=fun k=>by
   rw [Qwc]
   refine⟨I.asc,Qqk _ _,fun e he f hf=>?_⟩
   simp at hf;subst hf
   obtain⟨i,_,_,_,h1,_,h2,_⟩:=I.edge e he
   show e.From≤(a:Int)
   omega
  cases hk:QiM st.1 (Qak y)with
  | some k=>
   simp only
   obtain⟨z,hz,hzk⟩:=QCa hk
   have hzy:z=y:=QDS h hp (I.good z (Qan hz)) hgy hzk
   subst hzy
   refine⟨I.good,I.apart,I.len,I.head,I.here,fun e he=>?_,ascs _,fun hf=>?_,fun hf=>?_,fun k' h1 h2=>?_⟩
   ·rcases QbG.1 he with he | he
    ·exact I.edge e he
    simp at he;subst he
    exact⟨a,k,x,z,rfl,rfl,by omega,I.here,hz,hD,ho⟩
   ·obtain⟨f1,f2⟩:=I.full hf
    refine⟨f1,fun i u hi hu=>?_⟩
    rw [Qw4 rfl hi]
    exact f2 i u hi hu
   ·obtain⟨f1,f2⟩:=I.now hf
    show(List.filter _ (st.2.1++[_])).map _=_∧_
    rw [Qx4 rfl,List.map_append,f1]
    refine⟨rfl,fun o' ho'=>?_⟩
    rcases QbG.1 ho' with ho' | ho'
    ·exact f2 o' ho'
    simp at ho';subst ho';exact⟨z,Qan hz,hD⟩
   obtain⟨e,he,r⟩:=I.tree k' h1 h2
   exact⟨e,QnB _ he,r⟩
  | none=>
   simp only
   by_cases cl:Q3 b≤st.1.length
   ·rw [if_pos cl];exact down
   rw [if_neg cl]
   have hnone:=QCb hk
   have hap:QjW Qak (st.1++[y]):=I.apart.add (by
    unfold Qxx
    exact List.any_eq_false.2 fun u hu=>by simpa using hnone u hu)
   have up:∀{i:Nat} {u:List Bag},st.1[i]? = some u→(st.1++[y])[i]? = some u:=fun {i u} hu=>by
    rw [Qbu ((QU.1 hu).1)];exact hu
   have hnew:(st.1++[y])[st.1.length]? = some y:=by rw [QcJ (QbT _),Nat.sub_self];rfl
   refine⟨fun z hz=>?_,hap,by simp;omega,?_,up I.here,fun e he=>?_,ascs _,fun hf=>?_,fun hf=>?_,fun k' h1 h2=>?_⟩
   ·rcases QbG.1 hz with hz | hz
    ·exact I.good z hz
    simp at hz;subst hz;exact hgy
   ·obtain⟨r,hr⟩:=I.head
    exact⟨r++[y],by show st.1++[y]=_;rw [hr];rfl⟩
   ·rcases QbG.1 he with he | he
    ·obtain⟨i,j,u,v,h1,h2,h3,h4,h5,h6⟩:=I.edge e he
     exact⟨i,j,u,v,h1,h2,h3,up h4,up h5,h6⟩
    simp at he;subst he
    exact⟨a,st.1.length,x,y,rfl,rfl,by omega,up I.here,hnew,hD,ho⟩
   ·obtain⟨f1,f2⟩:=I.full hf
    refine⟨f1,fun i u hi hu=>?_⟩
    have hu':st.1[i]? = some u:=by
     have hu:(st.1++[y])[i]? = some u:=hu
     rw [Qbu (by omega)]at hu;exact hu
    obtain⟨g1,g2,g3,g4⟩:=f2 i u hi hu'
    rw [Qw4 rfl hi]
    refine⟨g1,g2,g3,fun o' ho'=>?_⟩
    obtain⟨z,hz,hz2⟩:=g4 o' ho'
    exact⟨z,QnB _ hz,hz2⟩
   ·obtain⟨f1,f2⟩:=I.now hf
    show(List.filter _ (st.2.1++[_])).map _=_∧_
    rw [Qx4 rfl,List.map_append,f1]
    refine⟨rfl,fun o' ho'=>?_⟩
    rcases QbG.1 ho' with ho' | ho'
    ·obtain⟨z,hz,hz2⟩:=f2 o' ho'
     exact⟨z,QnB _ hz,hz2⟩
    simp at ho';subst ho';exact⟨y,by simp,hD⟩
   by_cases ck:k'=st.1.length
   ·subst ck
    exact⟨QS.mk (a:Int) (st.1.length:Int) o,by simp,a,rfl,hal,rfl⟩
   have h2:k'<(st.1++[y]).length:=h2
   obtain⟨e,he,r⟩:=I.tree k' h1 (by simp at h2;omega)
   exact⟨e,QnB _ he,r⟩
 rw [if_neg c0];exact down
theorem QDc (h:Q0 n)(hp:n.Places.length≤64){x:List Bag}{fl:Bool}:∀{X done:List Qm} {st:SSt},QxH n m b tokens a x fl done st→(∀o∈X,Qct n o)→QxH n m b tokens a x fl (done++X) (X.foldl (QcS (Q3 b) n x a) st):=by
 intro X
 induction X with
 | nil=>intro done st I _;simpa using I
 | cons o X ih=>
  intro done st I ho
  have:=ih (QDV h hp I (ho o Qaz)) fun o' ho'=>ho o' (QaC _ ho')
  rw [Qdu]at this
  exact this
theorem QDd (h:Q0 n)(hbd:Bd n)(hp:n.Places.length≤64):∀(f:Nat) {st:SSt} {a:Nat},Q3 b<f+a→QEA n m b tokens a st→∃a',QEA n m b tokens a' (QfH n b tokens f st a)∧(QfH n b tokens f st a).1.length≤a':=by
 intro f
 induction f with
 | zero=>intro st a hf I;exact⟨a,I,by have:=I.len;show st.1.length≤a;omega⟩
 | succ f ih=>
  intro st a hf I
  rw [QfH]
  cases hx:st.1[a]? with
  | none=>exact⟨a,I,List.getElem?_eq_none_iff.1 hx⟩
  | some x=>
   simp only
   have hgx:=I.good x (Qan hx)
   by_cases ct:tokens<Qrl x
   ·rw [if_pos ct]
    exact ih (by omega) ⟨I.good,I.apart,I.len,I.head,fun e he=>by
     obtain⟨i,j,u,v,h1,h2,h3,h4⟩:=I.edge e he
     exact⟨i,j,u,v,h1,h2,by omega,h4⟩,I.asc,fun e=>(by cases e),I.tree⟩
   rw [if_neg ct]
   obtain⟨q1,q2,q3⟩:=QuH b h hbd hgx
   have M0:QxH n m b tokens a x (st.2.2&&(QbK n x b).2) [] (st.1,st.2.1,st.2.2&&(QbK n x b).2):=⟨I.good,I.apart,I.len,I.head,hx,fun e he=>by
    obtain⟨i,j,u,v,h1,h2,h3,h4⟩:=I.edge e he
    exact⟨i,j,u,v,h1,h2,by omega,h4⟩,I.asc,fun e=>⟨e,I.full (QE _ _▸e).1⟩,fun e=>⟨by
    rw [List.filter_eq_nil_iff.2 fun e he=>by
     obtain⟨i,_,_,_,h1,_,h3,_⟩:=I.edge e he
     rw [h1];simp;omega];rfl,fun o ho=>by cases ho⟩,I.tree⟩
   have M:=QDc h hp M0 fun o ho=>Qp3 h (hgx.len h) (q3 o ho)
   rw [Qqj]at M
   refine ih (by omega) ⟨M.good,M.apart,M.len,M.head,M.edge,M.asc,fun hf i u hi hu=>?_,M.tree⟩
   obtain⟨f1,f2⟩:=M.full hf
   by_cases ci:i=a
   ·subst ci
    have:u=x:=Option.some.inj (hu.symm.trans M.here)
    subst this
    obtain⟨f3,f4⟩:=M.now hf
    rw [QE]at f1
    exact⟨by omega,f1.2,f3,f4⟩
   exact f2 i u (by omega) hu
end
def Qh9 (n:Qj)(m:List Bag)(b tokens:Int):Q2:=if b≤0 then Q2.mk [] [] false else Q2.mk (QfH n b tokens (Q3 b+1) ([m],[],true) 0).1 (QfH n b tokens (Q3 b+1) ([m],[],true) 0).2.1 (QfH n b tokens (Q3 b+1) ([m],[],true) 0).2.2
structure SOk (n:Qj) (m:List Bag) (b tokens:Int) (s:Q2):Prop where
 good:∀y∈s.States,QaB n y
 apart:QjW Qak s.States
 len:s.States.length≤Q3 b
 head:∃r,s.States=m::r
 edge:∀e∈s.Edges,∃(i j:Nat) (x y:List Bag),e.From=(i:Int)∧e.To=(j:Int)∧s.States[i]? = some x∧s.States[j]? = some y∧Qas n x e.Mode=some (y,0)∧Qct n e.Mode
 asc:s.Edges.Pairwise fun e f=>e.From≤f.From
 full:s.Full=true→∀(i:Nat) (x:List Bag),s.States[i]? = some x→Qrl x≤tokens∧(QbK n x b).2=true∧(s.Edges.filter fun e=>e.From==(i:Int)).map (·.Mode)=(QbK n x b).1∧∀o∈(QbK n x b).1,∃y∈s.States,Qas n x o=some (y,0)
 tree:∀k:Nat,0<k→k<s.States.length→∃e∈s.Edges,∃i:Nat,e.From=(i:Int)∧i<k∧e.To=(k:Int)
theorem Qzo {n:Qj}{m:List Bag}{b tokens:Int}(h:Q0 n)(hbd:Bd n)(hp:n.Places.length≤64)(hg:QaB n m)(hb:0<b):SOk n m b tokens (Qh9 n m b tokens):=by
 have hm:1≤Q3 b:=by unfold Q3 min2;split<;>omega
 obtain⟨a',I,hl⟩:=QDd (m:=m) (b:=b) (tokens:=tokens) h hbd hp (Q3 b+1) (st:=([m],[],true)) (a:=0) (by omega) ⟨fun y hy=>by simp at hy;subst hy;exact hg,Qqk _ _,hm,⟨[],rfl⟩,fun e he=>(by cases he),List.Pairwise.nil,fun _ i x hi=>by omega,fun k h1 h2=>by simp at h2;omega⟩
 unfold Qh9
 rw [if_neg (by omega)]
 exact⟨I.good,I.apart,I.len,I.head,fun e he=>by
  obtain⟨i,j,u,v,h1,h2,_,h4⟩:=I.edge e he
  exact⟨i,j,u,v,h1,h2,h4⟩,I.asc,fun hf i x hx=>I.full hf i x (by have h3:i<(QfH n b tokens (Q3 b+1) ([m],[],true) 0).1.length:=(QU.1 hx).1;omega) hx,I.tree⟩
theorem QDW {n:Qj}{m:List Bag}(b tokens:Int)(h:Q0 n)(hbd:Bd n)(hg:QaB n m)(hb:b≤16):Qkg n m b tokens=some (Qh9 n m b tokens):=by
 rw [QCc b tokens h hbd hg hb]
 unfold Qh9
 by_cases c:b≤0
 ·simp only [if_pos c]
 simp only [if_neg c]
end Go.Proofs
noncomputable section
namespace Go.Proofs
open Go Go.RowKit Go.Vm
def Rch (n:Qj):Prop:=(∀p∈n.Places,p.First.length*16≤140737488351232)∧∀c∈n.Colours,c.Names.length*16≤140737488351232
theorem QCd {n:Qj}(hk:QW n)(hr:Rch n):Qg (QfO n) fun r=>r=true→(n.Colours.length≤40∧n.Places.length≤70∧n.Tasks.length≤70)∧∀p∈n.Places,p.First.length≤400:=by
 unfold QfO
 refine T1 (fun _=>T2 fun h=>by cases h) fun hc=>?_
 simp only [Qc8,Q1]at hc
 refine T6 (P:=fun r=>r=true→∀p∈n.Places,p.First.length≤400) ?_ fun r hr2 e=>⟨by omega,hr2 e⟩
 refine T0 (Qg.up n.Colours.length (fun st=>st.2) (fun st=>0≤st.1∧st.1≤400) (Q:=fun q:Unit⊕Int=>∀x,q=.inr x→0≤x∧x≤400) rfl ⟨by show(0:Int)≤0;omega,by show(0:Int)≤400;omega⟩ (fun i st hi hn hJ=>?_)) (fun q hq=>?_)
 ·obtain⟨a,x⟩:=st
  replace hi:x=(i:Int):=hi
  subst hi
  obtain⟨j1,j2⟩:0≤a∧a≤400:=hJ
  show Qg (QfU n a i) _
  unfold QfU
  refine T1 (fun hc=>?_) (fun _=>T2 (Qn fun x e=>by cases e;exact⟨j1,j2⟩))
  simp only [QD]at hc
  refine T0 (T4 (by omega) (by omega)).self fun e he=>?_
  obtain⟨he,hm⟩:=he
  have hel:=hr.2 e hm
  have hw:w64 (a+(e.Names.length:Int))=a+(e.Names.length:Int):=QbY (by omega)
  refine T0 (P:=fun y=>y=false→a+(e.Names.length:Int)≤400) ?_ fun y hy=>?_
  ·unfold Qnr
   rw [he,Ql,hw]
   exact T1 (fun _=>T2 fun h=>by cases h) fun _=>T2 fun h=>by simpa using h
  unfold QhY
  refine T1 (fun _=>T2 (Qn fun x e=>by cases e)) fun hyf=>?_
  have hle:=hy hyf
  refine T0 (Qg.up e.Names.length (fun st=>st) (fun _=>True) (Q:=fun _=>True) rfl trivial (fun i2 st hi2 hn2 _=>?_)) (fun q _=>?_)
  ·show Qg (QfT n i st) _
   unfold QfT
   simp only [he,Ql]
   refine T1 (fun hc=>?_) (fun _=>T2 (Qn trivial))
   simp only [QD]at hc
   refine T0 (T4 (by omega) (by omega)) fun s _=>?_
   refine T1 (fun _=>T2 (Qn trivial)) fun _=>?_
   exact T2 (QF ⟨by omega,by rw [hi2];exact Qz (by omega) (hk.1.2 e hm).2.2.2.2.1.1,trivial⟩)
  rcases q with q | q
  ·exact T2 (Qn fun x e=>by cases e)
  refine T2 (QF ⟨by omega,Qz (by omega) hk.1.1,?_⟩)
  show 0≤w64 (a+(e.Names.length:Int))∧w64 (a+(e.Names.length:Int))≤400
  rw [hw];omega
 rcases q with q | q
 ·exact T2 fun h=>by cases h
 have hq:=hq q rfl
 show Qg (Qe6 n q) _
 unfold Qe6
 refine T0 (Qg.up n.Places.length (fun st=>st.2) (fun st=>0≤st.1∧st.1≤400+st.2*8796093022208∧∀(j:Nat) p,(j:Int)<st.2→n.Places[j]? = some p→(p.First.length:Int)≤st.1) (Q:=fun q:Unit⊕Int=>∀x,q=.inr x→∀p∈n.Places,(p.First.length:Int)≤x) rfl ⟨hq.1,by show q≤400+0*8796093022208;omega,fun j p hj=>by simp at hj;omega⟩ (fun i st hi hn hJ=>?_)) (fun q hq=>?_)
 ·obtain⟨a,x⟩:=st
  replace hi:x=(i:Int):=hi
  subst hi
  obtain⟨j1,j2,j3⟩:0≤a∧a≤400+(i:Int)*8796093022208∧∀(j:Nat) p,(j:Int)<(i:Int)→n.Places[j]? = some p→(p.First.length:Int)≤a:=hJ
  show Qg (QfV n a i) _
  unfold QfV
  refine T1 (fun hc=>?_) (fun hc=>T2 (Qn fun x e p hp=>?_))
  ·simp only [QD]at hc
   have i1:i<n.Places.length:=by omega
   rw [Q4,QB i1,Ql,Ql]
   have hpl:=hr.1 _ (Qay i1)
   have hw:w64 (a+((n.Places[i]).First.length:Int))=a+((n.Places[i]).First.length:Int):=QbY (by omega)
   have hw2:w64 ((i:Int)+1)=((i+1:Nat):Int):=Qz i1 hk.2.1.1
   refine T1 (fun _=>T2 (Qn fun x e=>by cases e)) fun _=>T2 (QF ⟨i1,hw2,?_⟩)
   show 0≤w64 (a+((n.Places[i]).First.length:Int))∧w64 (a+((n.Places[i]).First.length:Int))≤400+w64 ((i:Int)+1)*8796093022208∧∀(j:Nat) p,(j:Int)<w64 ((i:Int)+1)→n.Places[j]? = some p→(p.First.length:Int)≤w64 (a+((n.Places[i]).First.length:Int))
   rw [hw,hw2]
   refine⟨by omega,by omega,fun j p hj hp=>?_⟩
   by_cases cj:j=i
   ·subst cj
    rw [QB i1]at hp;cases hp;omega
   have:=j3 j p (by omega) hp;omega
  cases e
  simp only [Q1]at hc
  obtain⟨j,hj,rfl⟩:=Qmk.1 hp
  exact j3 j _ (by omega) (QB hj)
 rcases q with q | q
 ·exact T2 fun h=>by cases h
 exact(QzQ n hk q).mono fun r hr2 e p hp=>by have:=hr2 e;have:=hq q rfl p hp;omega
theorem QAX {n:Qj}(hp:n.Places.length≤70)(hf:∀p∈n.Places,p.First.length≤400):Qg (QeO n) fun m=>m.length=n.Places.length∧∀b∈m,b.length≤401:=by
 unfold QeO
 refine T0 (Qg.up n.Places.length (fun st=>st.1) (fun st=>(st.2.length:Int)=st.1∧∀b∈st.2,b.length≤401) (Q:=fun m:List Bag=>m.length=n.Places.length∧∀b∈m,b.length≤401) rfl ⟨rfl,fun b h=>by cases h⟩ (fun i st hi hn hJ=>?_)) (fun q hq=>T2 hq)
 obtain⟨x,l⟩:=st
 replace hi:x=(i:Int):=hi
 subst hi
 obtain⟨j1,j2⟩:(l.length:Int)=(i:Int)∧∀b∈l,b.length≤401:=hJ
 show Qg (Qjp n i l) _
 unfold Qjp
 refine T1 (fun hc=>?_) (fun hc=>T2 (Qn ?_))
 ·simp only [QD]at hc
  have i1:i<n.Places.length:=by omega
  have hpl:=hf _ (Qay i1)
  rw [Q4,QB i1,Ql]
  have hw:w64 ((i:Int)+1)=((i+1:Nat):Int):=Qz i1 (by unfold maxLen;omega:n.Places.length≤maxLen)
  have k1:∀b:Bag,b.length≤401→Qg (Qe0 l i b) fun o=>(∀s',o=.inl s'→i<n.Places.length∧s'.1=((i+1:Nat):Int)∧(s'.2.length:Int)=s'.1∧∀b∈s'.2,b.length≤401)∧∀r:List Bag,o=.inr r→r.length=n.Places.length∧∀b∈r,b.length≤401:=fun b hb=>by
   unfold Qe0
   refine T0 (T5 (by simp;omega)) fun _ _=>?_
   refine T2 (QF (ix:=fun st:Int×List Bag=>st.1) (J:=fun st:Int×List Bag=>(st.2.length:Int)=st.1∧∀b∈st.2,b.length≤401) ⟨i1,hw,by show((l++[b]).length:Int)=w64 _;rw [hw];simp;omega,fun b' hb'=>?_⟩)
   rcases QbG.1 hb' with hb' | hb'
   ·exact j2 b' hb'
   simp at hb';subst hb';exact hb
  unfold QaZ
  rw [QmW (by simp;omega)]
  simp only [Ql,Qqj]
  refine T1 (fun hc2=>?_) fun _=>k1 _ (by omega)
  rw [show Qne ([0]:List Int)=some [(0,1)]from Qw0 0,Ql]
  rcases Qkn (n.Places[i]).First [(0,1)] (by simp;omega)with⟨_,e⟩|⟨_,_,_,e⟩|⟨_,_,r,e,h1,_,h2⟩
  ·rw [e,Ql];exact k1 _ (by omega)
  ·rw [e,Ql];exact k1 _ (by omega)
  rw [e,Ql];exact k1 _ (by simp at h2;show r.length≤401;omega)
 simp only [Q1]at hc
 exact⟨by show l.length=_;omega,j2⟩
def Qm4 (n:Qj):List Bag:=(QeO n).getD []
structure QCe (n:Qj) (b:Int):Prop where
 net:Q0 n
 bd:Bd n
 pl:n.Places.length≤64
 good:QaB n (Qm4 n)
 first:QeO n=some (Qm4 n)
 bud:b≤16
theorem QDe (n:Qj)(b:Int)(hn:QW n)(hr:Rch n):Qg (QmV n b) fun r=>r=true→QCe n b:=by
 unfold QmV
 refine T0 (QCd hn hr) fun f hf=>?_
 refine T1 (fun _=>T2 fun h=>by cases h) fun hc=>?_
 simp only [Qc8,Qji,Q1]at hc
 obtain⟨h1,h2⟩:=hf hc.1
 refine T0 (QAX h1.2.1 h2).self fun m hm=>?_
 obtain⟨hme,hm1,hm2⟩:=hm
 refine T0 (QC6 n m _ hn ⟨by unfold maxLen;omega,fun b hb=>⟨by have:=hm2 b hb;unfold maxLen;omega,fun _ _=>trivial⟩⟩) fun r hr2=>?_
 refine T2 fun e=>?_
 obtain⟨g1,g2,g3,_⟩:=hr2 e
 have ef:Qm4 n=m:=by unfold Qm4;rw [hme];rfl
 exact⟨g1,g2,by omega,by rw [ef];exact g3,by rw [ef];exact hme,by omega⟩
end Go.Proofs
noncomputable section
namespace Go.Proofs
open Go Go.RowKit Go.Vm
theorem QCf {n:Qj}{a:List Bag}(h:Q0 n)(ha:QaB n a):Qi4 a a=some true:=QxE h ha.1 (by omega)
theorem QCg {n:Qj}{m:List Bag}{b tokens:Int}(h:Q0 n)(hbd:Bd n)(hg:QaB n m)(hb:b≤16):(Qh9 n m b tokens).Edges.length≤67108864:=by
 have key:∀(K:Nat),K=4194304→∀(f:Nat) (st:SSt) (a:Nat),(∀y∈st.1,QaB n y)→st.1.length≤Q3 b→st.2.1.length≤a*K→a≤Q3 b→(QfH n b tokens f st a).2.1.length≤Q3 b*K:=by
  intro K hK
  intro f
  induction f with
  | zero=>intro st a _ _ h3 h4;exact Qbm h3 (Qcw _ h4)
  | succ f ih=>
   intro st a h1 h2 h3 h4
   rw [QfH]
   cases hx:st.1[a]? with
   | none=>exact Qbm h3 (Qcw _ h4)
   | some x=>
    simp only
    have ha:=(QU.1 hx).1
    have hgx:=h1 x (Qan hx)
    split
    ·exact ih _ _ h1 h2 (by show st.2.1.length≤(a+1)*K;rw [Nat.succ_mul];omega) (by omega)
    obtain⟨q1,q2,q3⟩:=QuH b h hbd hgx
    obtain⟨g1,g2,g3⟩:=Qx3 (a:=(a:Int)) (most:=Q3 b) h hgx (X:=(QbK n x b).1) (st:=(st.1,st.2.1,st.2.2&&(QbK n x b).2)) (fun o ho=>Qp3 h (hgx.len h) (q3 o ho)) h1 h2
    exact ih _ _ g1 g2 (by rw [Nat.succ_mul];simp only at g3;omega) (by omega)
 unfold Qh9
 split
 ·simp
 have hm:1≤Q3 b∧Q3 b≤16:=by unfold Q3 min2;split<;>omega
 have:=key 4194304 rfl (Q3 b+1) ([m],[],true) 0 (fun y hy=>by simp at hy;subst hy;exact hg) (by simp;omega) (by simp) (by omega)
 show List.length _≤_
 have h2:Q3 b*4194304≤16*4194304:=Qcw _ hm.2
 exact Qbm this h2
end Go.Proofs
noncomputable section
namespace Go.Proofs
open Go Go.RowKit Go.Vm
set_option maxRecDepth 100000 in
theorem QAY : Qod=some true:=by kernel_rfl
end Go.Proofs
noncomputable section
namespace Go.Proofs
open Go Go.RowKit Go.Vm
theorem QAZ {n:Qj}{b:Int}(tokens:Int)(hF:QCe n b):QdU n b tokens=some (Qh9 n (Qm4 n) b tokens):=by
 unfold QdU
 rw [hF.first,Ql,QDW b tokens hF.net hF.bd hF.good hF.bud];rfl
structure QFB (n:Qj) (b tokens:Int) (s:Q2):Prop where
 good:∀y∈s.States,QaB n y
 apart:QjW Qak s.States
 len:(s.States.length:Int)≤max2 b 0
 few:s.States.length≤16
 edge:∀e∈s.Edges,∃(i j:Nat) (x y:List Bag),e.From=(i:Int)∧e.To=(j:Int)∧s.States[i]? = some x∧s.States[j]? = some y∧Qas n x e.Mode=some (y,0)∧Qct n e.Mode
 asc:s.Edges.Pairwise fun e f=>e.From≤f.From
 full:s.Full=true→∀(i:Nat) (x:List Bag),s.States[i]? = some x→Qrl x≤tokens∧(QbK n x b).2=true∧(s.Edges.filter fun e=>e.From==(i:Int)).map (·.Mode)=(QbK n x b).1∧∀o∈(QbK n x b).1,∃y∈s.States,Qas n x o=some (y,0)
 edges:s.Edges.length≤67108864
theorem QCh {n:Qj}{m:List Bag}{b tokens:Int}(h:Q0 n)(hbd:Bd n)(hp:n.Places.length≤64)(hg:QaB n m)(hb:b≤16):QFB n b tokens (Qh9 n m b tokens):=by
 have hE:=QCg (tokens:=tokens) h hbd hg hb
 by_cases c:0<b
 ·have hS:=Qzo (tokens:=tokens) h hbd hp hg c
  have hm:(Q3 b:Int)=b:=by unfold Q3 min2;split<;>omega
  have hl:=hS.len
  exact⟨hS.good,hS.apart,by unfold max2;split<;>omega,by omega,hS.edge,hS.asc,hS.full,hE⟩
 unfold Qh9 at hE ⊢
 rw [if_pos (by omega)]at hE ⊢
 exact⟨fun y h=>(by cases h),List.Pairwise.nil,by show(0:Int)≤_;unfold max2;split<;>omega,by simp,fun e h=>(by cases h),List.Pairwise.nil,fun h=>(by cases h),hE⟩
end Go.Proofs
namespace Go.Rk
def inR (N:Nat)(k:Int):Prop:=0≤k∧k<N
instance (N : Nat) (k:Int):Decidable (inR N k):=inferInstanceAs (Decidable (_∧_))
def av (out:List Int)(k:Int):Int:=if 0≤k then out.getD k.toNat (-1)else -1
theorem Qw5 {out:List Int}{k:Int}(h:¬inR out.length k):av out k=-1:=by
 unfold av
 split
 ·rename_i h0
  rw [List.getD_eq_getElem?_getD,List.getElem?_eq_none (by unfold inR at h;omega)];rfl
 rfl
theorem QEB {out:List Int}{k:Int}{x:Int}(h0:0≤k)(h:out[k.toNat]? = some x):av out k=x:=by
 unfold av;rw [if_pos h0,List.getD_eq_getElem?_getD,h];rfl
theorem Qw6 {out:List Int}{k:Int}(h:inR out.length k):out[k.toNat]? = some (av out k):=by
 unfold av;rw [if_pos h.1,List.getD_eq_getElem?_getD]
 have:k.toNat<out.length:=by unfold inR at h;omega
 rw [List.getElem?_eq_getElem this];rfl
theorem QEC {out:List Int}{k:Int}(x:Int)(h:inR out.length k)(j:Int):av (out.set k.toNat x) j=if j=k then x else av out j:=by
 unfold av
 by_cases h0:0≤j
 ·rw [if_pos h0,List.getD_eq_getElem?_getD,List.getElem?_set,List.getD_eq_getElem?_getD]
  have:=h.1;have h2:=h.2
  by_cases e:j=k
  ·subst e;rw [if_pos rfl,if_pos (by omega),if_pos rfl];rfl
  rw [if_neg (by omega),if_neg e,if_pos h0]
 rw [if_neg h0,if_neg (by have:=h.1;omega),if_neg h0]
theorem QED {a b:List Int}(hl:a.length=b.length)(h:∀k,inR a.length k→av a k=av b k):a=b:=by
 apply List.ext_getElem? 
 intro i
 by_cases hi:i<a.length
 ·have h1:=h i ⟨by omega,by omega⟩
  have h2:=@Qw6 a i ⟨by omega,by omega⟩
  have h3:=@Qw6 b i ⟨by omega,by omega⟩
  simp only [Int.toNat_natCast]at h2 h3
  rw [h2,h3,h1]
 rw [List.getElem?_eq_none (by omega),List.getElem?_eq_none (by omega)]
structure Qgq (N:Nat) (es:List (Int×Int)) (gs:List Int) (out:List Int):Prop where
 len:out.length=N
 lo:∀k,-1≤av out k
 goal:∀g,g∈gs→inR N g→av out g=0
 edge:∀u v,(u,v)∈es→inR N u→inR N v→0≤av out v→0≤av out u∧av out u≤av out v+1
 back:∀k,0≤av out k→(av out k=0∧k∈gs)∨∃v,(k,v)∈es∧inR N v∧0≤av out v∧av out k=av out v+1
variable {N:Nat}{es:List (Int×Int)}{gs:List Int}{a b:List Int}
theorem Qgq.rng (h:Qgq N es gs a){k:Int}(hk:0≤av a k):inR N k:=by
 by_cases hr:inR a.length k
 ·rw [h.len]at hr;exact hr
 rw [Qw5 hr]at hk;omega
theorem Qgq.le (ha:Qgq N es gs a)(hb:Qgq N es gs b):∀n:Nat,∀k,av a k=n→0≤av b k∧av b k≤n:=by
 intro n
 induction n with
 | zero=>
  intro k hk
  rcases ha.back k (by omega)with⟨_,hg⟩|⟨v,_,_,_,hv⟩
  ·rw [hb.goal k hg (ha.rng (by omega))];omega
  omega
 | succ n ih=>
  intro k hk
  have hr:=ha.rng (k:=k) (by omega)
  rcases ha.back k (by omega)with⟨h0,_⟩|⟨v,he,hv,h1,h2⟩
  ·omega
  obtain⟨h3,h4⟩:=ih v (by omega)
  have:=hb.edge k v he hr hv h3
  omega
theorem Qgq.unique (ha:Qgq N es gs a)(hb:Qgq N es gs b):a=b:=by
 refine QED (by rw [ha.len,hb.len]) fun k _=>?_
 have la:=ha.lo k;have lb:=hb.lo k
 by_cases h1:0≤av a k
 ·have x:=ha.le hb (av a k).toNat k (by omega)
  have y:=hb.le ha (av b k).toNat k (by omega)
  omega
 by_cases h2:0≤av b k
 ·have y:=hb.le ha (av b k).toNat k (by omega);omega
 omega
theorem Qyn : ∀{l m:List Int},l.Nodup→(∀x,x∈l→x∈m)→l.length≤m.length:=by
 intro l
 induction l with
 | nil=>intro m _ _;simp
 | cons x l ih=>
  intro m hn hs
  rw [List.nodup_cons]at hn
  have hx:=hs x List.mem_cons_self
  have:=ih (m:=m.erase x) hn.2 fun y hy=>by
   have hne:y≠x:=fun e=>hn.1 (e▸hy)
   exact(List.mem_erase_of_ne hne).2 (hs y (List.mem_cons_of_mem _ hy))
  rw [List.length_erase_of_mem hx]at this
  have:=List.length_pos_of_mem hx
  simp only [List.length_cons];omega
theorem QDf (hl:a.length=N)(hback:∀k,0≤av a k→(av a k=0∧k∈gs)∨∃v,(k,v)∈es∧inR N v∧0≤av a v∧av a k=av a v+1):∀n:Nat,∀k,av a k=n→∀m:Nat,m≤n→∃j,inR N j∧av a j=m:=by
 have rng:∀{k:Int},0≤av a k→inR N k:=fun {k} hk=>by
  by_cases hr:inR a.length k
  ·rw [hl]at hr;exact hr
  rw [Qw5 hr]at hk;omega
 intro n
 induction n with
 | zero=>intro k hk m hm;exact⟨k,rng (by omega),by omega⟩
 | succ n ih=>
  intro k hk m hm
  by_cases e:m=n+1
  ·exact⟨k,rng (by omega),by omega⟩
  rcases hback k (by omega)with⟨h0,_⟩|⟨v,he,hv,h1,h2⟩
  ·omega
  exact ih v (by omega) m (by omega)
theorem QFh (hl:a.length=N)(hback:∀k,0≤av a k→(av a k=0∧k∈gs)∨∃v,(k,v)∈es∧inR N v∧0≤av a v∧av a k=av a v+1)(k:Int):av a k<(N:Int)∨N=0:=by
 by_cases h:0≤av a k
 ·left
  have hs:=QDf hl hback (av a k).toNat k (by omega)
  have:((List.range ((av a k).toNat+1)).map (fun i:Nat=>(i:Int))).length≤a.length:=by
   refine Qyn ?_ fun x hx=>?_
   ·rw [List.Nodup,List.pairwise_map]
    exact(List.nodup_range).imp fun h e=>h (by omega)
   obtain⟨i,hi,rfl⟩:=List.mem_map.1 hx
   rw [List.mem_range]at hi
   obtain⟨j,hj,he⟩:=hs i (by omega)
   rw [←he]
   rw [←hl]at hj
   exact List.mem_of_getElem? (Qw6 hj)
  simp only [List.length_map,List.length_range]at this
  rw [hl]at this
  omega
 omega
theorem Qgq.lt (ha:Qgq N es gs a)(k:Int):av a k<(N:Int)∨N=0:=QFh ha.len ha.back k
end Go.Rk
noncomputable section
namespace Go.Proofs
open Go Go.RowKit Go.Vm Go.Rk
abbrev Rw := Int×Int
abbrev Mk := List (List Rw)
def okM (m:Mk):Prop:=m.length≤maxLen∧∀b∈m,b.length≤maxLen
theorem okM.get {m:Mk}(h:okM m){i:Nat}{b:List Rw}(hb:m[i]? = some b):b.length≤maxLen:=h.2 b (Qan hb)
def QFC (s:Q2):Prop:=s.States.length≤maxLen∧s.Edges.length≤maxLen∧∀m∈s.States,okM m
structure QsO (s:Q2):Prop where
 ok:QFC s
 st:s.States.length≤40
 ed:s.Edges.length≤67108864
theorem QsO.get {s:Q2}(h:QsO s){i:Nat}{m:Mk}(hm:s.States[i]? = some m):okM m:=h.ok.2.2 m (Qan hm)
def cnt (s:Q2)(e:QS):Bool:=(decide (0≤e.From)&&decide (e.From<(s.States.length:Int)))&&(decide (0≤e.To)&&decide (e.To<(s.States.length:Int)))
theorem QuI {s:Q2}{e:QS}:cnt s e=true↔inR s.States.length e.From∧inR s.States.length e.To:=by
 unfold cnt inR;simp only [QE,QD]
def QdF (l:List QS)(k:Int):List Int:=(l.filter fun e=>e.To==k).map (·.From)
def es (s:Q2):List (Int×Int):=s.Edges.map fun e=>(e.From,e.To)
theorem Qur {s:Q2}{u v:Int}:(u,v)∈es s↔∃e∈s.Edges,e.From=u∧e.To=v:=by
 unfold es;rw [QaQ];simp only [Prod.mk.injEq]
theorem Qx5 {s:Q2}{u k:Int}:u∈QdF (s.Edges.filter (cnt s)) k↔(u,k)∈es s∧inR s.States.length u∧inR s.States.length k:=by
 unfold QdF
 rw [Qur,QaQ]
 constructor
 ·rintro ⟨e,he,rfl⟩
  rw [Qjk,Qjk,QuI]at he
  obtain⟨⟨h1,h2,h3⟩,h4⟩:=he
  have h4:e.To=k:=by simpa using h4
  exact⟨⟨e,h1,rfl,h4⟩,h2,h4▸h3⟩
 rintro ⟨⟨e,h1,rfl,rfl⟩,h2,h3⟩
 exact⟨e,by rw [Qjk,Qjk,QuI];exact⟨⟨h1,h2,h3⟩,by simp⟩,rfl⟩
theorem Qzp {α:Type}{p p' q:α→Bool}:∀{l:List α},(∀e∈l,(p e=true∧((p' e=true∧q e=false)∨(p' e=false∧q e=true)))∨(p e=false∧p' e=false∧q e=false))→l.countP p=l.countP p'+l.countP q:=by
 intro l
 induction l with
 | nil=>intro _;rfl
 | cons x l ih=>
  intro h
  have h1:=ih fun e he=>h e (QaC _ he)
  rw [List.countP_cons,List.countP_cons,List.countP_cons,h1]
  rcases h x Qaz with⟨a,⟨b,c⟩|⟨b,c⟩⟩|⟨a,b,c⟩<;>simp [a,b,c]<;>omega
end Go.Proofs
noncomputable section
namespace Go.Proofs
open Go Go.RowKit Go.Vm Go.Rk
structure QsP (s:Q2) (gs:List Int) (r:Nat) (i:Nat) (out:List Int):Prop where
 len:out.length=s.States.length
 lo:∀k,-1≤av out k
 goal:∀g,g∈gs→inR s.States.length g→av out g=0
 back:∀k,0≤av out k→(av out k=0∧k∈gs)∨∃v,(k,v)∈es s∧inR s.States.length v∧0≤av out v∧av out k=av out v+1
 hi:∀k,av out k≤r+1
 hi0:i=0→∀k,av out k≤r
 old:∀u v,(u,v)∈es s→inR s.States.length u→inR s.States.length v→0≤av out v→av out v<r→0≤av out u∧av out u≤av out v+1
 cur:∀(j:Nat) e,j<i→s.Edges[j]? = some e→cnt s e=true→av out e.To=r→0≤av out e.From
theorem QsP.step {s:Q2}{gs:List Int}{r i:Nat}{out:List Int}{e:QS}(I:QsP s gs r i out)(he:s.Edges[i]? = some e)(c1:cnt s e=true)(c2:av out e.To=r)(c3:av out e.From<0):QsP s gs r (i+1) (out.set e.From.toNat ((r:Int)+1)):=by
 obtain⟨hr1,hr2⟩:=QuI.1 c1
 have hr1':inR out.length e.From:=by rw [I.len];exact hr1
 have hset:∀k,av (out.set e.From.toNat ((r:Int)+1)) k=if k=e.From then(r:Int)+1 else av out k:=QEC _ hr1'
 have hne:∀k,0≤av out k→k≠e.From:=fun k hk e=>by subst e;omega
 refine { len:=by simpa using I.len,lo:=fun k=>?_,goal:=fun g h1 h2=>?_,back:=fun k hk=>?_,hi:=fun k=>?_,hi0:=fun h=>by omega,old:=fun u v h1 h2 h3 h4 h5=>?_,cur:=fun j e' hj he' hc h=>?_ }
 ·rw [hset];split
  ·omega
  exact I.lo k
 ·rw [hset,if_neg (hne g (by rw [I.goal g h1 h2];omega))];exact I.goal g h1 h2
 ·rw [hset]at hk ⊢
  by_cases c:k=e.From
  ·rw [if_pos c]
   refine .inr ⟨e.To,Qur.2 ⟨e,Qan he,c.symm,rfl⟩,hr2,?_⟩
   rw [hset,if_neg (hne e.To (by omega))];omega
  rw [if_neg c]at hk ⊢
  rcases I.back k hk with h | ⟨v,h1,h2,h3,h4⟩
  ·exact .inl h
  exact .inr ⟨v,h1,h2,by rw [hset,if_neg (hne v h3)];exact⟨h3,h4⟩⟩
 ·rw [hset];split
  ·omega
  exact I.hi k
 ·rw [hset]at h4 h5
  by_cases c:v=e.From
  ·rw [if_pos c]at h5;omega
  rw [if_neg c]at h4 h5
  obtain⟨h6,h7⟩:=I.old u v h1 h2 h3 h4 h5
  rw [hset,if_neg (hne u h6),hset,if_neg c];exact⟨h6,h7⟩
 rw [hset]at h ⊢
 by_cases c:e'.To=e.From
 ·rw [if_pos c]at h;omega
 rw [if_neg c]at h
 by_cases c':e'.From=e.From
 ·rw [if_pos c'];omega
 rw [if_neg c']
 by_cases hji:j=i
 ·subst hji;rw [he]at he';cases he';exact absurd rfl c'
 exact I.cur j e' (by omega) he' hc h
theorem QsP.stay {s:Q2}{gs:List Int}{r i:Nat}{out:List Int}{e:QS}(I:QsP s gs r i out)(he:s.Edges[i]? = some e)(c:cnt s e=true→av out e.To=r→¬av out e.From<0):QsP s gs r (i+1) out:=by
 refine { I with hi0:=fun h=>by omega,cur:=fun j e' hj he' hc h=>?_ }
 by_cases hji:j=i
 ·subst hji;rw [he]at he';cases he'
  have:=c hc h;omega
 exact I.cur j e' (by omega) he' hc h
theorem QsP.next {s:Q2}{gs:List Int}{r:Nat}{out:List Int}(I:QsP s gs r s.Edges.length out):QsP s gs (r+1) 0 out:=by
 refine { I with hi:=fun k=>by have:=I.hi k;omega,hi0:=fun _ k=>by have:=I.hi k;omega,old:=fun u v h1 h2 h3 h4 h5=>?_,cur:=fun j e' hj=>by omega }
 by_cases c:av out v<r
 ·exact I.old u v h1 h2 h3 h4 c
 obtain⟨e,e1,rfl,rfl⟩:=Qur.1 h1
 obtain⟨j,hj⟩:=Qhc.1 e1
 have h6:=I.cur j e (QU.1 hj).1 hj (QuI.2 ⟨h2,h3⟩) (by omega)
 have:=I.hi e.From
 omega
end Go.Proofs
noncomputable section
namespace Go.Proofs
open Go Go.RowKit Go.Vm Go.Rk
theorem Qus {s:Q2}{k:Int}:QgF k s=some (decide (inR s.States.length k)):=by
 unfold QgF
 refine congrArg some ?_
 rw [Bool.eq_iff_iff,decide_eq_true_iff,QE,decide_eq_true_iff,decide_eq_true_iff];exact Iff.rfl
theorem QA0 {s:Q2}{e:QS}:Qnm e s=some (cnt s e):=by
 unfold Qnm cnt
 rw [Qus,Qus,Ql]
 by_cases h:inR s.States.length e.From
 ·have h1:=h.1;have h2:=h.2
  simp only [h,h1,h2,decide_true,cond_true,Ql,Bool.true_and]
  refine congrArg some ?_
  rw [Bool.eq_iff_iff,decide_eq_true_iff,QE,decide_eq_true_iff,decide_eq_true_iff];exact Iff.rfl
 simp only [h,decide_false,cond_false]
 refine congrArg some ?_
 have:(decide (0≤e.From)&&decide (e.From<(s.States.length:Int)))=false:=by
  rw [←Qnv,QE,decide_eq_true_iff,decide_eq_true_iff];exact h
 rw [this];rfl
theorem QzH {s:Q2}(h:QsO s):∃m,QJ (fun st:Int×List (Int×List Int)=>QhU s st.1 st.2) (0,[])=some m∧∀k,(Qv m k).getD []=QdF (s.Edges.filter (cnt s)) k:=by
 have hed:=h.ed
 refine QrO s.Edges.length (fun i st=>st.1=(i:Int)∧∀k,(Qv st.2 k).getD []=QdF ((s.Edges.take i).filter (cnt s)) k) _ (fun i st hi hs=>?_) (fun st hs=>?_) (0,[]) ⟨rfl,fun k=>by simp [QdF,Qv]⟩
 ·obtain⟨j,m⟩:=st
  obtain⟨hj,hm⟩:=hs
  simp only at hj hm
  subst hj
  left
  have h1:(i:Int)<s.Edges.length:=by omega
  have ht:s.Edges.take (i+1)=s.Edges.take i++[s.Edges[i]]:=List.take_succ_eq_append_getElem hi
  unfold QhU QkN QkM
  simp only [h1,decide_true,cond_true,Q4,QB hi,Ql,QA0,Qz hi h.ok.2.1]
  cases hc:cnt s s.Edges[i]with
  | false=>
   refine⟨_,rfl,rfl,fun k=>?_⟩
   rw [ht,QoG,Qig,hc]
   simpa using hm k
  | true=>
   have hlen:(QdF ((s.Edges.take i).filter (cnt s)) s.Edges[i].To).length≤67108864:=by
    unfold QdF
    rw [QgG]
    refine Qbm (Qnz _ _) (Qbm (Qnz _ _) ?_)
    rw [Qfs];omega
   simp only [cond_true,hm]
   rw [QmW (show(QdF ((s.Edges.take i).filter (cnt s)) s.Edges[i].To).length+([s.Edges[i].From]:List Int).length≤4294967296 by simp only [Qjj];omega)]
   refine⟨_,rfl,rfl,fun k=>?_⟩
   simp only [Qc0]
   have e:QdF ((s.Edges.take (i+1)).filter (cnt s)) k=QdF ((s.Edges.take i).filter (cnt s)) k++(if s.Edges[i].To=k then [s.Edges[i].From]else []):=by
    rw [ht,QoG,Qig,hc]
    unfold QdF
    by_cases c:s.Edges[i].To=k<;>simp [c]
   rw [e]
   by_cases c:k=s.Edges[i].To
   ·subst c;simp
   rw [if_neg c,if_neg (fun e=>c e.symm),hm k];simp
 obtain⟨j,m⟩:=st
 obtain⟨hj,hm⟩:=hs
 simp only at hj hm
 subst hj
 refine⟨m,by simp [QhU],fun k=>?_⟩
 rw [hm k,QnD]
def left (N:Nat)(m:List (Int×Int)):Nat:=(List.range N).countP fun j:Nat=>(Qv m (j:Int)).isNone
theorem Qzq {N:Nat}{m:List (Int×Int)}{u v:Int}(hu:inR N u)(hn:Qv m u=none):left N m=left N (Qag ltI m u v)+1:=by
 unfold left
 have h1:(List.range N).countP (fun j:Nat=>decide ((j:Int)=u))=1:=by
  obtain⟨n,rfl⟩:∃n:Nat,u=(n:Int):=⟨u.toNat,by have:=hu.1;omega⟩
  have hlt:n<N:=by have:=hu.2;omega
  have:(fun j:Nat=>decide ((j:Int)=(n:Int)))=fun j=>j==n:=by
   funext j;rw [Bool.eq_iff_iff,decide_eq_true_iff,beq_iff_eq];omega
  rw [this,←List.count_eq_countP]
  have:=List.nodup_range (n:=N)
  rw [List.Nodup.count this,if_pos (Qks.2 hlt)]
 rw [←h1]
 refine Qzp fun j _=>?_
 rw [Qc0]
 by_cases c:(j:Int)=u
 ·left;subst c;simp [hn]
 rw [if_neg c]
 cases Qv m (j:Int)with
 | none=>left;simp [c]
 | some x=>right;simp [c]
structure Qzr (s:Q2) (k:Int) (m:List (Int×Int)) (w:List Int):Prop where
 rng:∀j d,Qv m j=some d→inR s.States.length j∧0≤d∧d+(left s.States.length m:Int)≤s.States.length
 goal:Qv m k=some 0
 back:∀j d,Qv m j=some d→(d=0∧j=k)∨∃v d',(j,v)∈es s∧inR s.States.length v∧Qv m v=some d'∧d=d'+1
 wait:∀x,x∈w→∃d,Qv m x=some d
 edge:∀u v d,(u,v)∈es s→inR s.States.length u→inR s.States.length v→Qv m v=some d→v∈w∨∃c,Qv m u=some c∧c≤d+1
 sort:w.Pairwise fun x y=>∀a b,Qv m x=some a→Qv m y=some b→a≤b
 near:∀x r,w=x::r→∀j d a,Qv m j=some d→Qv m x=some a→d≤a+1
 few:w.length+left s.States.length m≤s.States.length+1
structure BIn (s:Q2) (m0:List (Int×Int)) (w0:List Int) (x dx:Int) (i:Nat) (m:List (Int×Int)) (w:List Int):Prop where
 mono:∀j d,Qv m0 j=some d→Qv m j=some d
 new:∀j d,Qv m j=some d→Qv m0 j=some d∨(Qv m0 j=none∧d=dx+1∧(j,x)∈es s∧inR s.States.length j∧j∈w)
 app:∃ws,w=w0++ws∧∀y,y∈ws→Qv m y=some (dx+1)
 done:∀u,u∈(QdF (s.Edges.filter (cnt s)) x).take i→∃c,Qv m u=some c
 sz:w.length+left s.States.length m=w0.length+left s.States.length m0
theorem QA1 {s:Q2}{k:Int}{mi:List (Int×List Int)}{m0:List (Int×Int)}{x:Int}{r:List Int}{dx:Int}(h:QsO s)(hmi:∀k,(Qv mi k).getD []=QdF (s.Edges.filter (cnt s)) k)(I:Qzr s k m0 (x::r))(hx:Qv m0 x=some dx):
  ∃q,QJ (fun st:Int×List (Int×Int)×List Int=>QhV mi x st.1 st.2.1 st.2.2) (0,m0,x::r)=some q∧BIn s m0 (x::r) x dx (QdF (s.Edges.filter (cnt s)) x).length q.1 q.2:=by
 have hst:=h.st;have hed:=h.ed
 have hfl:(QdF (s.Edges.filter (cnt s)) x).length≤67108864:=by
  unfold QdF
  rw [QgG]
  exact Qbm (Qnz _ _) (Qbm (Qnz _ _) hed)
 refine QrO (QdF (s.Edges.filter (cnt s)) x).length (fun i st=>st.1=(i:Int)∧BIn s m0 (x::r) x dx i st.2.1 st.2.2) _ (fun i st hi hs=>.inl ?_) (fun st hs=>?_) (0,m0,x::r)
  ⟨rfl,fun j d h=>h,fun j d h=>.inl h,⟨[],by simp,by simp⟩,by simp,rfl⟩
 ·obtain⟨j,m,w⟩:=st
  obtain⟨hj,J⟩:=hs
  simp only at hj J
  subst hj
  have hi':(i:Int)<(QdF (s.Edges.filter (cnt s)) x).length:=by omega
  have hgu:=QB hi
  generalize hu:(QdF (s.Edges.filter (cnt s)) x)[i]=u at hgu
  have hum:u∈QdF (s.Edges.filter (cnt s)) x:=by rw [←hu];exact Qay _
  obtain⟨hue,hur,_⟩:=Qx5.1 hum
  have htk:(QdF (s.Edges.filter (cnt s)) x).take (i+1)=(QdF (s.Edges.filter (cnt s)) x).take i++[u]:=by rw [List.take_succ_eq_append_getElem hi,hu]
  obtain⟨ws,hw,hws⟩:=J.app
  have hsz:=J.sz
  have hfew:=I.few
  unfold QhV QkO
  simp only [hmi,hi',decide_true,cond_true,Q4,hgu,Ql,Qz hi (show(QdF (s.Edges.filter (cnt s)) x).length≤maxLen by unfold maxLen;omega)]
  cases hmu:Qv m u with
  | some c=>
   simp only [Option.isSome_some,Qhb,cond_false]
   refine⟨_,rfl,rfl,{ J with done:=fun y hy=>?_ }⟩
   rw [htk,QbG,QnC]at hy
   rcases hy with hy | rfl
   ·exact J.done y hy
   exact⟨c,hmu⟩
  | none=>
   have hw0:w[0]? = some x:=by rw [hw];rfl
   have hd:=(I.rng x dx hx).2
   have e1:w64 ((Qv m x).getD 0+1)=dx+1:=by rw [J.mono x dx hx];exact QbY (by simp only [QhC];omega)
   have e2:idx w 0=some x:=by rw [show(0:Int)=((0:Nat):Int)from rfl,Q4];exact hw0
   simp only [Option.isSome_none,Bool.not_false,cond_true,e1,e2,Ql]
   have hls:=Qzq (v:=dx+1) hur hmu
   have hwl:w.length=(x::r).length+ws.length:=by rw [hw,QcL]
   have hll:left s.States.length m0≤s.States.length:=by unfold left;refine Qbm List.countP_le_length ?_;simp
   have hw2:w.length≤200:=by omega
   rw [QmW (by simp only [Qjj];omega)]
   refine⟨_,rfl,rfl,{ mono:=fun j d hjd=>?_,new:=fun j d hjd=>?_,app:=⟨ws++[u],by rw [hw];simp,fun y hy=>?_⟩,done:=fun y hy=>?_,sz:=?_ }⟩
   ·simp only [Qc0]
    by_cases c:j=u
    ·subst c;rw [J.mono j d hjd]at hmu;cases hmu
    rw [if_neg c];exact J.mono j d hjd
   ·simp only [Qc0]at hjd
    by_cases c:j=u
    ·subst c
     rw [if_pos rfl]at hjd;cases hjd
     right
     refine⟨?_,rfl,hue,hur,by simp⟩
     cases h0:Qv m0 j with
     | none=>rfl
     | some d=>rw [J.mono j d h0]at hmu;cases hmu
    rw [if_neg c]at hjd
    rcases J.new j d hjd with h | ⟨a,b,c1,c2,c3⟩
    ·exact .inl h
    exact .inr ⟨a,b,c1,c2,QnB _ c3⟩
   ·simp only [Qc0]
    by_cases c:y=u
    ·rw [if_pos c]
    rw [if_neg c]
    rcases QbG.1 hy with h | h
    ·exact hws y h
    exact absurd (QnC.1 h) c
   ·rw [htk,QbG,QnC]at hy
    simp only [Qc0]
    by_cases c:y=u
    ·exact⟨_,if_pos c⟩
    rw [if_neg c]
    rcases hy with hy | hy
    ·exact J.done y hy
    exact absurd hy c
   simp only [QcL,Qjj];omega
 obtain⟨j,m,w⟩:=st
 obtain⟨hj,J⟩:=hs
 simp only at hj J
 subst hj
 exact⟨(m,w),by simp [QhV,hmi],J⟩
theorem QCi {s:Q2}{k:Int}{mi:List (Int×List Int)}{m:List (Int×Int)}{w:List Int}(h:QsO s)(hmi:∀k,(Qv mi k).getD []=QdF (s.Edges.filter (cnt s)) k)(I:Qzr s k m w)(hw:w≠[]):
  ∃m' w',QhW mi m w=some (.inl (m',w'))∧Qzr s k m' w'∧w'.length+left s.States.length m'<w.length+left s.States.length m:=by
 cases w with
 | nil=>exact absurd rfl hw
 | cons x r=>
  obtain⟨dx,hx⟩:=I.wait x Qaz
  obtain⟨⟨m',w'⟩,h1,J⟩:=QA1 h hmi I hx
  simp only at J
  obtain⟨ws,hws,hwd⟩:=J.app
  have hsz:=J.sz
  have hfew:=I.few
  have hdx:=I.rng x dx hx
  have hnear:=I.near x r rfl
  have hall:∀j d,Qv m' j=some d→d≤dx+1:=fun j d hj=>by
   rcases J.new j d hj with h | ⟨_,h,_⟩
   ·exact hnear j d dx h hx
   omega
  have hx':=J.mono x dx hx
  refine⟨m',r++ws,?_,?_,by rw [hws]at hsz;simp at hsz ⊢;omega⟩
  ·unfold QhW Qnn
   have e0:(0:Int)<((x::r).length:Int):=by simp only [Qez];omega
   have e2:idx (x::r) 0=some x:=by rw [show(0:Int)=((0:Nat):Int)from rfl,Q4];rfl
   simp only [e0,decide_true,cond_true,e2,Ql,h1]
   rw [QwG (by rw [hws];simp)]
   simp [hws]
  have old:∀y,y∈r→∃d,Qv m y=some d:=fun y hy=>I.wait y (QaC _ hy)
  have hs:=Qr5.1 I.sort
  refine { rng:=fun j d hj=>?_,goal:=J.mono _ _ I.goal,back:=fun j d hj=>?_,wait:=fun y hy=>?_,edge:=fun u v d q1 q2 q3 q4=>?_,sort:=?_,near:=fun y q hq j d a hj ha=>?_,few:=?_ }
  ·have hl:left s.States.length m'≤left s.States.length m:=by rw [hws]at hsz;simp at hsz;omega
   rcases J.new j d hj with h | ⟨a,b,c,e,f⟩
   ·obtain⟨p,q,t⟩:=I.rng j d h;exact⟨p,q,by omega⟩
   refine⟨e,by omega,?_⟩
   have hwl:1≤ws.length:=by
    rw [hws]at f
    rcases QbG.1 f with g | g
    ·obtain⟨d',hd'⟩:=I.wait j g;rw [a]at hd';cases hd'
    exact List.length_pos_of_mem g
   rw [hws]at hsz;simp only [QcL]at hsz;omega
  ·rcases J.new j d hj with h | ⟨a,b,c,e,f⟩
   ·rcases I.back j d h with h | ⟨v,d',p,q,t,u⟩
    ·exact .inl h
    exact .inr ⟨v,d',p,q,J.mono _ _ t,u⟩
   exact .inr ⟨x,dx,c,hdx.1,hx',b⟩
  ·rcases QbG.1 hy with h | h
   ·obtain⟨d,hd⟩:=old y h;exact⟨d,J.mono _ _ hd⟩
   exact⟨_,hwd y h⟩
  ·by_cases c:v=x
   ·subst c
    right
    rw [hx']at q4;cases q4
    obtain⟨c,hc⟩:=J.done u (by rw [QnD];exact Qx5.2 ⟨q1,q2,q3⟩)
    exact⟨c,hc,hall u c hc⟩
   rcases J.new v d q4 with h | ⟨a,b,_,_,f⟩
   ·rcases I.edge u v d q1 q2 q3 h with g | ⟨c',g1,g2⟩
    ·rcases QaP.1 g with g | g
     ·exact absurd g c
     exact .inl (QnB _ g)
    exact .inr ⟨c',J.mono _ _ g1,g2⟩
   left
   rw [hws]at f
   rcases QbG.1 f with g | g
   ·obtain⟨d',hd'⟩:=I.wait v g;rw [a]at hd';cases hd'
   exact List.mem_append_right _ g
  ·rw [Qwc]
   refine⟨(hs.2).imp_of_mem fun {a b} ha hb hab p q hp hq=>?_,?_,fun a ha b hb p q hp hq=>?_⟩
   ·obtain⟨p',hp'⟩:=old a ha
    obtain⟨q',hq'⟩:=old b hb
    rw [J.mono _ _ hp']at hp;rw [J.mono _ _ hq']at hq;cases hp;cases hq
    exact hab _ _ hp' hq'
   ·refine List.pairwise_of_forall_mem_list fun a ha b hb p q hp hq=>?_
    rw [hwd a ha]at hp;rw [hwd b hb]at hq;cases hp;cases hq;exact Int.le_refl _
   rw [hwd b hb]at hq;cases hq
   exact hall a p hp
  ·have h5:dx≤a:=by
    have hym:y∈r++ws:=by rw [hq];exact Qaz
    rcases QbG.1 hym with h | h
    ·obtain⟨a',ha'⟩:=old y h
     rw [J.mono _ _ ha']at ha;cases ha
     exact hs.1 y h dx _ hx ha'
    rw [hwd y h]at ha;cases ha;omega
   have:=hall j d hj;omega
  rw [hws]at hsz;simp only [QcL,Qez]at hsz hfew ⊢;omega
theorem QDg {s:Q2}{k:Int}(h:QsO s)(hk:inR s.States.length k){f:List Int}(hf:Qgq s.States.length (es s) [k] f):∃m,QnM s k=some m∧(∀j,Qv m j=if 0≤av f j then some (av f j)else none):=by
 obtain⟨mi,m1,m2⟩:=QzH h
 have hst:=h.st
 unfold QnM
 rw [Qus,Ql]
 simp only [hk,decide_true,Qhb,cond_false,m1,Ql]
 unfold QmQ
 have g0:∀j,Qv (Qag ltI ([]:List (Int×Int)) k 0) j=if j=k then some 0 else none:=fun j=>by rw [Qc0];rfl
 have gk:Qv (Qag ltI ([]:List (Int×Int)) k 0) k=some 0:=by rw [g0,if_pos rfl]
 have gs:∀j d,Qv (Qag ltI ([]:List (Int×Int)) k 0) j=some d→j=k∧d=0:=fun j d hj=>by
  rw [g0]at hj
  split at hj
  ·rename_i e;cases hj;exact⟨e,rfl⟩
  cases hj
 have hleft:left s.States.length (Qag ltI ([]:List (Int×Int)) k 0)+1=s.States.length:=by
  rw [←Qzq (m:=[]) hk rfl]
  unfold left
  have e:(fun j:Nat=>(Qv ([]:List (Int×Int)) (j:Int)).isNone)=fun _=>true:=rfl
  rw [e];simp
 have key:∃r,QJ (fun st:List (Int×Int)×List Int=>QhW mi st.1 st.2) (Qag ltI [] k 0,[k])=some r∧Qzr s k r []:=by
  refine QxK (fun st:List (Int×Int)×List Int=>Qzr s k st.1 st.2) (fun st:List (Int×Int)×List Int=>st.2.length+left s.States.length st.1) _ ?_ (Qag ltI [] k 0,[k]) ?_
  ·rintro ⟨m,w⟩ I
   simp only at I
   by_cases hw:w=[]
   ·subst hw;right;exact⟨m,rfl,I⟩
   left
   obtain⟨m',w',a,b,c⟩:=QCi h m2 I hw
   exact⟨(m',w'),a,b,c⟩
  refine { rng:=fun j d hj=>?_,goal:=gk,back:=fun j d hj=>.inl ((gs j d hj).symm),wait:=fun x hx=>?_,edge:=fun u v d _ _ _ h4=>?_,sort:=Qqk _ _,near:=fun x r hr j d a hj ha=>?_,few:=by simp;omega }
  ·obtain⟨rfl,rfl⟩:=gs j d hj;exact⟨hk,Int.le_refl _,by simp only;omega⟩
  ·rw [QnC]at hx;subst hx;exact⟨0,gk⟩
  ·left;rw [(gs v d h4).1];exact QnC.2 rfl
  rw [(gs j d hj).2,(gs x a ha).2];omega
 obtain⟨m,r1,I⟩:=key
 refine⟨m,by rw [r1];rfl,?_⟩
 have hv:∀j,av ((List.range s.States.length).map fun j:Nat=>(Qv m (j:Int)).getD (-1)) j=(Qv m j).getD (-1):=fun j=>by
  by_cases hr:inR s.States.length j
  ·obtain⟨n,rfl⟩:∃n:Nat,j=(n:Int):=⟨j.toNat,by have:=hr.1;omega⟩
   refine QEB (by omega) ?_
   rw [Qau,List.getElem?_range (by have:=hr.2;omega)];rfl
  rw [Qw5 (by simpa using hr)]
  cases hm:Qv m j with
  | none=>rfl
  | some d=>exact absurd (I.rng j d hm).1 hr
 have hsome:∀j,0≤(Qv m j).getD (-1)→Qv m j=some ((Qv m j).getD (-1)):=fun j hj=>by
  cases hm:Qv m j with
  | none=>rw [hm]at hj;simp at hj
  | some d=>rfl
 have hI:Qgq s.States.length (es s) [k] ((List.range s.States.length).map fun j:Nat=>(Qv m (j:Int)).getD (-1)):=by
  refine { len:=by simp,lo:=fun j=>?_,goal:=fun g hg _=>?_,edge:=fun u v h1 h2 h3 h4=>?_,back:=fun j hj=>?_ }
  ·rw [hv]
   cases hm:Qv m j with
   | none=>simp
   | some d=>have:=(I.rng j d hm).2;simp only [QhC];omega
  ·rw [QnC]at hg;subst hg;rw [hv,I.goal];rfl
  ·rw [hv]at h4
   rw [hv,hv]
   rcases I.edge u v _ h1 h2 h3 (hsome v h4)with h | ⟨c,c1,c2⟩
   ·cases h
   rw [c1];have:=(I.rng u c c1).2;simp only [QhC];omega
  rw [hv]at hj
  rcases I.back j _ (hsome j hj)with⟨h1,h2⟩|⟨v,d',a,b,c,e⟩
  ·left;rw [hv];exact⟨h1,by rw [h2];exact QnC.2 rfl⟩
  right
  refine⟨v,a,b,?_⟩
  rw [hv,hv,c]
  have:=(I.rng v d' c).2
  simp only [QhC];omega
 have:=hf.unique hI
 intro j
 have e:av f j=(Qv m j).getD (-1):=by rw [this];exact hv j
 rw [e]
 cases hm:Qv m j with
 | none=>simp
 | some d=>have:=(I.rng j d hm).2.1;simp [this]
theorem QDh {s:Q2}(h:QsO s)(k:Int):Qi3 s k=some (QfG (fun e:QS=>e.From==k) 0 s.Edges):=by
 have hed:=h.ed
 unfold Qi3
 rw [Qy4 (l:=s.Edges) (fun e:QS=>e.From==k)]
 ·rfl
 ·intro i acc x ha hi hx
  have h1:(i:Int)<s.Edges.length:=by omega
  have hc:decide (acc.length+([(i:Int)]:List Int).length≤4294967296)=true:=QbW (by simp;omega)
  simp only [QkQ,QkP,h1,decide_true,cond_true,Q4,hx,Ql,Qz hi h.ok.2.1,QwG hc]
  cases x.From==k<;>rfl
 intro acc;simp [QkQ]
end Go.Proofs
noncomputable section
namespace Go.Proofs
open Go Go.RowKit Go.Vm Go.Rk
theorem QDi {α:Type}(p:α→Bool):∀(l:List α) k,(QfG p k l).length≤l.length:=by
 intro l
 induction l with
 | nil=>intro k;simp [QfG]
 | cons x l ih=>
  intro k
  rw [QfG]
  have:=ih (k+1)
  cases p x
  ·simp;omega
  simp;omega
def QuJ (s:Q2)(f:List Int)(a:Int)(_:Nat)(x:Int):Bool:=((s.Edges[x.toNat]?).map fun e=>decide (0≤av f e.To)&&(av f e.To==av f a-1)).getD false
def nx (s:Q2)(f:List Int)(a:Int):Option QS:=(QmX (QuJ s f a) 0 (QfG (fun e:QS=>e.From==a) 0 s.Edges)).bind fun i=>((QfG (fun e:QS=>e.From==a) 0 s.Edges)[i]?).bind fun x=>s.Edges[x.toNat]?
def QeW (s:Q2)(f:List Int):Nat→Int→List Qm
 | 0,_=>[]
 | d+1,a=>match nx s f a with
  | some e=>e.Mode::QeW s f d e.To
  | none=>[]
section
variable {s:Q2}{k:Int}{f:List Int}
theorem Qut {a:Int}{i:Nat}{x:Int}(hx:(QfG (fun e:QS=>e.From==a) 0 s.Edges)[i]? = some x):∃j e,x=((j:Nat):Int)∧s.Edges[j]? = some e∧e.From=a:=by
 obtain⟨j,e,h1,h2,h3⟩:=Qy3.1 (Qan hx)
 exact⟨j,e,by rw [h3];simp,h1,by simpa using h2⟩
theorem Quu {a:Int}{n j:Nat}{e:QS}(he:s.Edges[j]? = some e):QuJ s f a n ((j:Nat):Int)=(decide (0≤av f e.To)&&(av f e.To==av f a-1)):=by
 unfold QuJ
 rw [QaK,he];rfl
theorem Qz0 (hf:Qgq s.States.length (es s) [k] f){a:Int}(hp:0<av f a):∃n j e,QmX (QuJ s f a) 0 (QfG (fun e:QS=>e.From==a) 0 s.Edges)=some n∧(QfG (fun e:QS=>e.From==a) 0 s.Edges)[n]? = some ((j:Nat):Int)∧
  s.Edges[j]? = some e∧nx s f a=some e∧0≤av f e.To∧av f e.To=av f a-1:=by
 cases hs:QmX (QuJ s f a) 0 (QfG (fun e:QS=>e.From==a) 0 s.Edges)with
 | none=>
  exfalso
  rcases hf.back a (by omega)with⟨h1,_⟩|⟨v,h1,h2,h3,h4⟩
  ·omega
  obtain⟨e,e1,e2,rfl⟩:=Qur.1 h1
  obtain⟨j,hj⟩:=Qhc.1 e1
  have hm:((j:Nat):Int)∈QfG (fun e:QS=>e.From==a) 0 s.Edges:=Qy3.2 ⟨j,e,hj,by simpa using e2,by simp⟩
  obtain⟨i,hi⟩:=Qhc.1 hm
  have:=QAz hs i _ hi
  rw [Quu hj]at this
  have h5:(decide (0≤av f e.To)&&(av f e.To==av f a-1))=true:=by
   simp only [QE,QD,beq_iff_eq];omega
  rw [h5]at this;cases this
 | some n=>
  obtain⟨i,x,h1,h2,h3⟩:=QAy hs
  obtain rfl:n=i:=by omega
  obtain⟨j,e,rfl,h4,h5⟩:=Qut h2
  rw [Quu h4]at h3
  simp only [QE,QD,beq_iff_eq]at h3
  refine⟨n,j,e,rfl,h2,h4,?_,h3.1,h3.2⟩
  unfold nx
  rw [hs,Ql,h2,Ql,QaK,h4]
theorem QzI (hf:Qgq s.States.length (es s) [k] f){a:Int}(hp:0<av f a){e:QS}(he:nx s f a=some e)(h2:av f e.To=av f a-1):QeW s f (av f a).toNat a=e.Mode::QeW s f (av f e.To).toNat e.To:=by
 have:(av f a).toNat=(av f e.To).toNat+1:=by omega
 rw [this,QeW,he]
theorem QA2 : ∀(d:Nat) (a:Int),(QeW s f d a).length≤d:=by
 intro d
 induction d with
 | zero=>intro a;simp [QeW]
 | succ d ih=>
  intro a
  rw [QeW]
  cases nx s f a with
  | none=>simp
  | some e=>simpa using ih e.To
theorem QA3 (h:QsO s)(hk:inR s.States.length k)(hf:Qgq s.States.length (es s) [k] f):QhX s k=some (QeW s f (av f 0).toNat 0):=by
 obtain⟨m,m1,m2⟩:=QDg h hk hf
 have hst:=h.st;have hed:=h.ed
 have hle:∀j,av f j≤40:=fun j=>by
  rcases hf.lt j with h | h
  ·omega
  unfold inR at hk;omega
 unfold QhX
 rw [m1,Ql]
 by_cases h0:0≤av f 0
 ·have e0:Qv m 0=some (av f 0):=by rw [m2,if_pos h0]
  simp only [e0,Option.isSome_some,Qhb,cond_false]
  have key:∃r,QJ (fun st:List Qm×Int=>Qjy m s st.1 st.2) ([],0)=some r∧r=QeW s f (av f 0).toNat 0:=by
   refine QxK (fun st:List Qm×Int=>0≤av f st.2∧st.1++QeW s f (av f st.2).toNat st.2=QeW s f (av f 0).toNat 0∧(st.1.length:Int)+av f st.2=av f 0) (fun st:List Qm×Int=>(av f st.2).toNat) _ ?_ ([],0) ⟨h0,by simp,by simp⟩
   rintro ⟨out,a⟩ ⟨ha,hl,hlen⟩
   simp only at ha hl hlen
   have ea:Qv m a=some (av f a):=by rw [m2,if_pos ha]
   unfold Qjy
   simp only [ea,QhC]
   by_cases hp:0<av f a
   ·left
    have hla:=hle a
    obtain⟨n,j,e,n1,n2,n3,n4,n5,n6⟩:=Qz0 hf hp
    have hfind:QcA (QfG (fun e:QS=>e.From==a) 0 s.Edges) m s a=some (n:Int):=by
     have hll:=QDi (fun e:QS=>e.From==a) s.Edges 0
     unfold QcA
     rw [QBD (l:=QfG (fun e:QS=>e.From==a) 0 s.Edges) (s0:=0) (fun i=>(i:Int)) (QuJ s f a) (fun i=>Sum.inl (i:Int)) (Sum.inr ()) ?_ ?_ rfl]
     ·rw [n1];rfl
     ·intro i x hi hx
      have h1:(i:Int)<(QfG (fun e:QS=>e.From==a) 0 s.Edges).length:=by omega
      obtain⟨j,e,rfl,h3,h4⟩:=Qut hx
      unfold Qb4 Qnp
      simp only [h1,decide_true,cond_true,Q4,hx,h3,Ql,ea,QhC,QbY (show -9223372036854775808≤av f a-1∧av f a-1≤9223372036854775807 by omega),Qz hi (show(QfG (fun e:QS=>e.From==a) 0 s.Edges).length≤maxLen by unfold maxLen;omega)]
      rw [Quu h3]
      have:((Qv m e.To).isSome&&((Qv m e.To).getD 0==av f a-1))=(decide (0≤av f e.To)&&(av f e.To==av f a-1)):=by
       rw [m2]
       by_cases c:0≤av f e.To
       ·simp [c]
       simp [c]
      rw [←this]
      cases ((Qv m e.To).isSome&&((Qv m e.To).getD 0==av f a-1))<;>rfl
     simp [Qb4]
    refine⟨(out++[e.Mode],e.To),?_,⟨n5,?_,by simp;omega⟩,by simp only;omega⟩
    ·have h0':=hle 0
     simp only [hp,decide_true,cond_true,QDh h,Ql,hfind,Q4,n2,n3]
     rw [QmW (by simp;omega)];rfl
    rw [←hl,QzI hf hp n4 n6];simp
   right
   refine⟨out,by simp [hp],?_⟩
   rw [←hl,show(av f a).toNat=0 by omega];simp [QeW]
  obtain⟨r,r1,r2⟩:=key
  rw [r1,r2];rfl
 have e0:Qv m 0=none:=by rw [m2,if_neg h0]
 have:=hf.lo 0
 rw [show(av f 0).toNat=0 by omega]
 simp [e0,QeW]
end
end Go.Proofs
noncomputable section
namespace Go.Rk
open Go Go.Vm
theorem QDv {p:Nat→Prop}:∀n,p n→∃m,p m∧∀j,j<m→¬p j:=by
 intro n
 induction n using Nat.strongRecOn with
 | _ n ih=>
  intro hn
  by_cases c:∃j,j<n∧p j
  ·obtain⟨j,hj,hp⟩:=c
   exact ih j hj hp
  exact⟨n,hn,fun j hj hp=>c ⟨j,hj,hp⟩⟩
def Stp (N:Nat)(es:List (Int×Int))(gs:List Int):Nat→Int→Prop
 | 0,k=>inR N k∧k∈gs
 | n+1,k=>inR N k∧∃v,(k,v)∈es∧inR N v∧Stp N es gs n v
open Classical in
def QiN (N:Nat)(es:List (Int×Int))(gs:List Int)(k:Int):Int:=if h:∃n,Stp N es gs n k then((Classical.choose (QDv (p:=fun n=>Stp N es gs n k) (Classical.choose h) (Classical.choose_spec h)):Nat):Int)else -1
theorem Qq0 {N:Nat}{es:List (Int×Int)}{gs:List Int}{k:Int}(h:0≤QiN N es gs k):Stp N es gs (QiN N es gs k).toNat k∧∀j,j<(QiN N es gs k).toNat→¬Stp N es gs j k:=by
 unfold QiN at h ⊢
 split at h
 ·rename_i hc
  rw [dif_pos hc,QaK]
  exact Classical.choose_spec (QDv (p:=fun n=>Stp N es gs n k) (Classical.choose hc) (Classical.choose_spec hc))
 omega
theorem QxI {N:Nat}{es:List (Int×Int)}{gs:List Int}{k:Int}{n:Nat}(h:Stp N es gs n k):0≤QiN N es gs k∧QiN N es gs k≤n:=by
 have hc:∃n,Stp N es gs n k:=⟨n,h⟩
 have h0:0≤QiN N es gs k:=by unfold QiN;rw [dif_pos hc];omega
 refine⟨h0,?_⟩
 have:=(Qq0 h0).2
 by_cases c:QiN N es gs k≤n
 ·exact c
 exact absurd h (this n (by omega))
theorem QDX {N:Nat}{es:List (Int×Int)}{gs:List Int}(k:Int):-1≤QiN N es gs k:=by
 unfold QiN;split<;>omega
theorem QEE (N:Nat)(es:List (Int×Int))(gs:List Int):∃f,Qgq N es gs f:=by
 have hav:∀k,av ((List.range N).map fun i:Nat=>QiN N es gs i) k=if inR N k then QiN N es gs k else -1:=fun k=>by
  by_cases c:inR N k
  ·rw [if_pos c]
   have h:=Qw6 (out:=(List.range N).map fun i:Nat=>QiN N es gs i) (k:=k) (by simpa using c)
   have hk:k.toNat<N:=by unfold inR at c;omega
   rw [Qau,List.getElem?_range hk,QcB]at h
   have:=Option.some.inj h
   rw [←this]
   unfold inR at c
   rw [show((k.toNat:Nat):Int)=k by omega]
  rw [if_neg c]
  exact Qw5 (by simpa using c)
 refine⟨(List.range N).map fun i:Nat=>QiN N es gs i,by simp,fun k=>?_,fun g hg hr=>?_,fun u v he hu hv h0=>?_,fun k hk=>?_⟩
 ·rw [hav];split
  ·exact QDX k
  omega
 ·rw [hav,if_pos hr]
  have:=QxI (show Stp N es gs 0 g from⟨hr,hg⟩)
  omega
 ·rw [hav v,if_pos hv]at h0
  rw [hav u,hav v,if_pos hu,if_pos hv]
  have h1:=(Qq0 h0).1
  have:=QxI (show Stp N es gs ((QiN N es gs v).toNat+1) u from⟨hu,v,he,hv,h1⟩)
  omega
 have hr:inR N k:=by
  by_cases c:inR N k
  ·exact c
  rw [hav,if_neg c]at hk;omega
 rw [hav,if_pos hr]at hk ⊢
 obtain⟨h1,h2⟩:=Qq0 hk
 cases hn:(QiN N es gs k).toNat with
 | zero=>
  rw [hn]at h1
  exact .inl ⟨by omega,h1.2⟩
 | succ d=>
  rw [hn]at h1 h2
  obtain⟨_,v,he,hv,hs⟩:=h1
  have hd:=QxI hs
  refine .inr ⟨v,he,hv,by rw [hav,if_pos hv];exact hd.1,?_⟩
  rw [hav,if_pos hv]
  by_cases c:(QiN N es gs v).toNat<d
  ·exact absurd (show Stp N es gs ((QiN N es gs v).toNat+1) k from⟨hr,v,he,hv,(Qq0 hd.1).1⟩) (h2 _ (by omega))
  omega
end Go.Rk
noncomputable section
namespace Go.Proofs
open Go Go.RowKit Go.Vm Go.Rk
section
variable {n:Qj}{m:List Bag}{b tokens:Int}{s:Q2}{k:Nat}{f:List Int}{z:List Bag}
theorem QDj (hS:SOk n m b tokens s)(hf:Qgq s.States.length (es s) [(k:Int)] f)(hz:s.States[k]? = some z):∀(d a:Nat) (x:List Bag),av f (a:Int)=(d:Int)→s.States[a]? = some x→Qm2 n x (QeW s f d (a:Int))=some z∧∀o∈QeW s f d (a:Int),Qct n o:=by
 intro d
 induction d with
 | zero=>
  intro a x ha hx
  rcases hf.back (a:Int) (by omega)with⟨_,h1⟩|⟨v,_,_,h3,h4⟩
  ·have:a=k:=by simp at h1;omega
   subst this
   rw [hx]at hz;cases hz
   exact⟨rfl,fun o ho=>by simp [QeW]at ho⟩
  omega
 | succ d ih=>
  intro a x ha hx
  obtain⟨n',j,e,_,hidx,hj,hnx,h0,h1⟩:=Qz0 hf (a:=(a:Int)) (by omega)
  obtain⟨j',e',hjj,he',hfr⟩:=Qut hidx
  have:j=j':=by omega
  subst this
  rw [hj]at he';cases he'
  obtain⟨i,j2,x',y,g1,g2,g3,g4,g5,g6⟩:=hS.edge e (Qan hj)
  have:i=a:=by omega
  subst this
  rw [hx]at g3;cases g3
  rw [QeW,hnx]
  simp only
  rw [g2]
  obtain⟨k1,k2⟩:=ih j2 y (by rw [←g2];omega) g4
  refine⟨?_,fun o ho=>?_⟩
  ·rw [Qm2,g5,Ql];exact k1
  rcases QaP.1 ho with rfl | ho
  ·exact g6
  exact k2 o ho
theorem QDk (hS:SOk n m b tokens s)(hf:Qgq s.States.length (es s) [(k:Int)] f)(hk:k<s.States.length):0≤av f 0:=by
 have key:∀j:Nat,j<s.States.length→0≤av f (j:Int)→0≤av f 0:=by
  intro j
  induction j using Nat.strongRecOn with
  | _ j ih=>
   intro hj h0
   by_cases c:j=0
   ·subst c;exact h0
   obtain⟨e,he,i,g1,g2,g3⟩:=hS.tree j (by omega) hj
   have:=hf.edge (i:Int) (j:Int) (Qur.2 ⟨e,he,g1,g3⟩) ⟨by omega,by omega⟩ ⟨by omega,by omega⟩ h0
   exact ih i g2 (by omega) this.1
 have:=hf.goal (k:Int) (by simp) ⟨by omega,by omega⟩
 exact key k hk (by omega)
theorem QDl (h:Q0 n)(hS:SOk n m b tokens s)(hb:b≤16)(hE:s.Edges.length≤67108864)(hz:s.States[k]? = some z):∃p,QhX s (k:Int)=some p∧Qm2 n m p=some z∧(∀o∈p,Qct n o)∧p.length<s.States.length:=by
 have hk:=(QU.1 hz).1
 obtain⟨f,hf⟩:=QEE s.States.length (es s) [(k:Int)]
 have hm:Q3 b≤16:=by unfold Q3 min2;split<;>omega
 have hpl:=h.pl
 have hl:=hS.len
 have hFew:QsO s:=⟨⟨by unfold maxLen;omega,by unfold maxLen;omega,fun y hy=>by
  have hg:=hS.good y hy
  have:=hg.1.1
  exact⟨by unfold maxLen;omega,fun b hb=>by have:=(hg.1.2 b hb).2;unfold maxLen;omega⟩⟩,by omega,hE⟩
 have h0:=QDk hS hf hk
 obtain⟨r,hr⟩:=hS.head
 obtain⟨c1,c2⟩:=QDj hS hf hz (av f 0).toNat 0 m (by show av f 0=_;omega) (by rw [hr];rfl)
 refine⟨_,QA3 hFew ⟨by omega,by omega⟩ hf,c1,c2,?_⟩
 have:=QA2 (s:=s) (f:=f) (av f 0).toNat 0
 rcases hf.lt 0 with h1 | h1
 ·omega
 omega
end
end Go.Proofs
noncomputable section
namespace Go.Proofs
open Go Go.RowKit Go.Vm
theorem QzJ (n:Qj)(b tokens:Int)(hn:QW n)(hr:Rch n):QeS n b tokens=some true:=by
 unfold QeS
 rw [QAY,Ql]
 obtain⟨f,hf,hf2⟩:=QDe n b hn hr
 rw [hf,Ql]
 cases hc:(!f)with
 | true=>rfl
 | false=>
  simp only [cond_false]
  have hF:=hf2 (by simpa using hc)
  have h:=hF.net
  rw [QAZ tokens hF,Ql]
  have hFac:=QCh (tokens:=tokens) h hF.bd hF.pl hF.good hF.bud
  have hS0:0<b→SOk n (Qm4 n) b tokens (Qh9 n (Qm4 n) b tokens):=fun c=>Qzo h hF.bd hF.pl hF.good c
  have hemp:¬0<b→(Qh9 n (Qm4 n) b tokens).States.length=0:=fun c=>by unfold Qh9;rw [if_pos (by omega)];rfl
  generalize Qh9 n (Qm4 n) b tokens=s at hFac hS0 hemp ⊢
  have hfew:=hFac.few
  have main:Qg (QJ (fun st=>Qdr s n st) 0) fun q:Unit⊕Unit=>q=.inr ():=by
   refine Qg.up s.States.length (fun st=>st) (fun _=>True) rfl trivial (fun i st hi hn2 _=>?_)
   replace hi:st=(i:Int):=hi
   subst hi
   show Qg (Qdr s n i) _
   unfold Qdr
   refine T1 (fun hc3=>?_) (fun _=>T2 (Qn rfl))
   simp only [QD]at hc3
   have i1:i<s.States.length:=by omega
   have hb:0<b:=by
    by_cases c:0<b
    ·exact c
    have:=hemp c;omega
   have hx:=QB i1
   obtain⟨p,p1,p2,p3,p4⟩:=QDl h (hS0 hb) hF.bud hFac.edges hx
   rw [p1,Ql,hF.first,Ql,QEu h hF.good.1 (by omega) (by omega) p2,Ql]
   have g1:Qh3 (s.States[i],(p.length:Int)) p s i=some false:=by
    unfold Qh3
    simp only [bne_self_eq_false,cond_false]
    rw [Q4,hx,Ql,QCf h (hFac.good _ (Qay i1)),Ql]
    simp only [Qhb,cond_false]
    rw [Qei (by omega)]
   rw [g1,Ql]
   exact T2 (QF ⟨i1,Qz i1 (by unfold maxLen;omega),trivial⟩)
  obtain⟨q,hq1,rfl⟩:=main
  rw [hq1];rfl
end Go.Proofs
