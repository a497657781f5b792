/- A part of the proof; what it holds is told at each theorem. -/
import Derived.Test.YtidpjdkldadlpaaGreatDoorM1P2
import Derived.Test.YtidpjdkldadlpaaGreatDoorM1P2
import Derived.Test.YtidpjdkldadlpaaGreatDoorM1T3
import Derived.KernelRfl
set_option linter.unusedVariables false
set_option linter.unusedSimpArgs false
set_option linter.unusedSectionVars false
set_option linter.deprecated false
noncomputable section
namespace Go.Proofs
open Go Go.RowKit Go.Vm
theorem QCC {n:Qj}{m:List Bag}(budget:Int)(h:Q1 n)(hb:Bd n)(hg:Qat n m):Qf (Qfj n m budget 9223372036854775807) fun r=>r.1.length≤4194304∧∀o∈r.1,o∈Qcl n m:=by
 have hml:=hg.len h
 have hal:=Qzw m h hb
 unfold Qfj
 rw [QyW n m 9223372036854775807 h hml (by omega) (by omega) (.inr (by omega)),Qn]
 have e0:(Qcl n m).take (9223372036854775807:Int).toNat=Qcl n m:=Qcm (by omega)
 rw [e0]
 have hok:=fun o=>QpP (o:=o) h hml
 refine T0 (Qf.up (Qcl n m).length (fun st=>st.2.1) (fun st=>(st.2.2.1.length:Int)≤st.2.1∧∀o∈st.2.2.1,o∈Qcl n m) (Q:=fun q:Bool×List Qm=>q.2.length≤4194304∧∀o∈q.2,o∈Qcl n m) rfl ⟨by simp,fun o h=>(by cases h)⟩ (fun i st hi hn hJ=>?_)) (fun q hq=>T2 hq)
 obtain⟨known,x,l,mm⟩:=st
 replace hi:x=(i:Int):=hi
 subst hi
 obtain⟨j1,j2⟩:(l.length:Int)≤(i:Int)∧∀o∈l,o∈Qcl n m:=hJ
 show Qf (Qis (Qcl n m) n m budget known i l mm) _
 unfold Qis
 refine T1 (fun hc=>?_) (fun hc=>T2 (Ql ⟨by show l.length≤_;omega,j2⟩))
 simp only [QD]at hc
 have i1:i<(Qcl n m).length:=by omega
 have hw:w64 ((i:Int)+1)=((i+1:Nat):Int):=Qy i1 (by unfold maxLen;omega:(Qcl n m).length≤maxLen)
 have ho:=Qav i1
 rw [Q0,Qw i1,Qn]
 generalize (Qcl n m)[i]=o at ho ⊢
 have k1:∀(known':Bool) l' mm',(l'.length:Int)≤(i:Int)+1→(∀o∈l',o∈Qcl n m)→Qf (QeA i known' l' mm') fun r=>(∀s',r=.inl s'→i<(Qcl n m).length∧s'.2.1=((i+1:Nat):Int)∧(s'.2.2.1.length:Int)≤s'.2.1∧∀o∈s'.2.2.1,o∈Qcl n m)∧∀q:Bool×List Qm,r=.inr q→q.2.length≤4194304∧∀o∈q.2,o∈Qcl n m:=fun known' l' mm' h1 h2=>by
  unfold QeA
  exact T2 (QC (ix:=fun st:Bool×Int×List Qm×List (Int×Int)=>st.2.1) (J:=fun st:Bool×Int×List Qm×List (Int×Int)=>(st.2.2.1.length:Int)≤st.2.1∧∀o∈st.2.2.1,o∈Qcl n m) ⟨i1,hw,by show(l'.length:Int)≤w64 _;rw [hw];omega,h2⟩)
 have k2:∀mm',Qf (Qgd o l i known mm') fun r=>(∀s',r=.inl s'→i<(Qcl n m).length∧s'.2.1=((i+1:Nat):Int)∧(s'.2.2.1.length:Int)≤s'.2.1∧∀o∈s'.2.2.1,o∈Qcl n m)∧∀q:Bool×List Qm,r=.inr q→q.2.length≤4194304∧∀o∈q.2,o∈Qcl n m:=fun mm'=>by
  unfold Qgd
  refine T1 (fun c1=>?_) fun c1=>T1 (fun c2=>k1 _ _ _ (by omega) j2) fun c2=>k1 _ _ _ (by omega) j2
  refine T0 (T5 (by simp;omega)) fun _ _=>k1 _ _ _ (by simp;omega) fun o' ho'=>?_
  rcases QcK.1 ho' with ho' | ho'
  ·exact j2 o' ho'
  simp at ho';subst ho';exact ho
 refine T1 (fun c=>?_) fun c=>k2 _
 rw [QCy o budget h hb hg (hok o ho),Qn]
 exact k2 _
def Qbr (n:Qj)(m:List Bag)(budget:Int):List Qm×Bool:=(Qfj n m budget 9223372036854775807).getD ([],false)
theorem QrU {n:Qj}{m:List Bag}(budget:Int)(h:Q1 n)(hb:Bd n)(hg:Qat n m):Qfj n m budget 9223372036854775807=some (Qbr n m budget)∧(Qbr n m budget).1.length≤4194304∧∀o∈(Qbr n m budget).1,o∈Qcl n m:=by
 obtain⟨r,h1,h2⟩:=QCC budget h hb hg
 unfold Qbr
 rw [h1];exact⟨rfl,h2⟩
def QiL (L:List (List Bag))(s:ByteArray):Option Nat:=L.findIdx? fun y=>decide (Qai y=s)
def FI (mm:List (ByteArray×Int))(L:List (List Bag)):Prop:=∀s,QE mm s=(QiL L s).map fun i=>(i:Int)
theorem QCD (L:List (List Bag))(y:List Bag)(s:ByteArray):QiL (L++[y]) s=match QiL L s with
  | some i=>some i
  | none=>if Qai y=s then some L.length else none:=by
 unfold QiL
 rw [List.findIdx?_append]
 cases L.findIdx? fun y=>decide (Qai y=s)with
 | some i=>rfl
 | none=>
  by_cases c:Qai y=s
  ·simp [c,List.findIdx?_cons]
  simp [c,List.findIdx?_cons]
theorem QBE {L:List (List Bag)}{s:ByteArray}{i:Nat}(h:QiL L s=some i):∃y,L[i]? = some y∧Qai y=s:=by
 unfold QiL at h
 obtain⟨h1,h2,_⟩:=List.findIdx?_eq_some_iff_getElem.1 h
 exact⟨L[i],Qw h1,Q7 h2⟩
theorem QBF {L:List (List Bag)}{s:ByteArray}(h:QiL L s=none):∀y∈L,Qai y≠s:=fun y hy e=>by
 unfold QiL at h
 have:=List.findIdx?_eq_none_iff.1 h y hy
 exact absurd (QbW e) (by rw [this];decide)
theorem FI.add {mm:List (ByteArray×Int)}{L:List (List Bag)}(h:FI mm L){y:List Bag}(hn:QiL L (Qai y)=none):FI (Qan ltS mm (Qai y) (L.length:Int)) (L++[y]):=fun s=>by
 rw [Qkb,QCD]
 by_cases c:s=Qai y
 ·subst c
  rw [if_pos rfl,hn];simp
 rw [if_neg c,h s]
 cases QiL L s with
 | some i=>rfl
 | none=>simp only;rw [if_neg fun e=>c e.symm]
def Q2 (b:Int):Nat:=(min2 b 4096).toNat
theorem QDf {n:Qj}{m:List Bag}(h:Q1 n)(hg:Qat n m):Qnt m=some (Qai m):=QwM h hg
theorem QwO {n:Qj}{mm:List (ByteArray×Int)}{L:List (List Bag)}(b:Int)(E:List Qaa)(full:Bool){y:List Bag}(h:Q1 n)(hg:Qat n y)(hI:FI mm L)(hb:0<b):
  ∃k L' mm',Qc6 n.Colours n.Places n.Tasks n.From n.To b mm L E full y=some (k,L',n.Colours,n.Places,n.Tasks,n.From,n.To,b,full,mm')∧FI mm' L'∧
   ((∃i:Nat,QiL L (Qai y)=some i∧k=(i:Int)∧L'=L)∨(QiL L (Qai y)=none∧Q2 b≤L.length∧k=-1∧L'=L)∨(QiL L (Qai y)=none∧¬Q2 b≤L.length∧k=(L.length:Int)∧L'=L++[y])):=by
 have hmost:(Q2 b:Int)=min2 b 4096:=by unfold Q2 min2;split<;>omega
 have hm2:Q2 b≤4096:=by unfold Q2 min2;split<;>omega
 unfold Qc6
 rw [QDf h hg,Qn,hI (Qai y)]
 cases hp:QiL L (Qai y)with
 | some i=>exact⟨i,L,mm,rfl,hI,.inl ⟨i,rfl,rfl,rfl⟩⟩
 | none=>
  simp only [Qla,Option.isSome_none,cond_false]
  cases hc:decide (min2 b 4096≤(L.length:Int))with
  | true=>exact⟨-1,L,mm,rfl,hI,.inr (.inl ⟨by trivial,by have:=Q7 hc;omega,rfl,rfl⟩)⟩
  | false=>
   have hc':=of_decide_eq_false hc
   simp only [cond_false,Qn]
   rw [QqN (by simp;omega),Qn]
   exact⟨L.length,L++[y],_,rfl,hI.add hp,.inr (.inr ⟨by trivial,by omega,rfl,rfl⟩)⟩
abbrev SSt := List (List Bag)×List Qaa×Bool
def QcQ (most:Nat)(n:Qj)(x:List Bag)(a:Int)(st:SSt)(o:Qm):SSt:=match QaC n x o with
 | some (y,c)=>if c=0 then(match QiL st.1 (Qai y)with
   | some k=>(st.1,st.2.1++[Qaa.mk a (k:Int) o],st.2.2)
   | none=>if most≤st.1.length then(st.1,st.2.1,false)else(st.1++[y],st.2.1++[Qaa.mk a (st.1.length:Int) o],st.2.2))
  else(st.1,st.2.1,false)
 | none=>st
theorem QAu {n:Qj}{mm:List (ByteArray×Int)}{L:List (List Bag)}{E:List Qaa}{full:Bool}{x:List Bag}{a:Nat}(b:Int)(h:Q1 n)(hbd:Bd n)(hg:Qat n x)(hI:FI mm L)(hb:0<b)(hx:L[a]? = some x)(hE:E.length≤134217728):
  ∃mm',let T:=(Qbr n x b).1.foldl (QcQ (Q2 b) n x a) (L,E,full&&(Qbr n x b).2)
   QeL n.Colours n.Places n.Tasks n.From n.To b mm L E full a=some (T.1,T.2.1,n.Colours,n.Places,n.Tasks,n.From,n.To,b,T.2.2,mm')∧FI mm' T.1:=by
 obtain⟨hf,hfl,hfm⟩:=QrU b h hbd hg
 unfold QeL
 rw [Q0,hx,Qn,show Qj.mk n.Colours n.Places n.Tasks n.From n.To=n from rfl,hf,Qn]
 have g1:QfF full (Qbr n x b)=some (full&&(Qbr n x b).2):=by
  unfold QfF;cases full<;>rfl
 rw [g1,Qn]
 have hok:∀o∈(Qbr n x b).1,QcU n o:=fun o ho=>QpP h (hg.len h) (hfm o ho)
 unfold QdB
 generalize hX:(Qbr n x b).1=X at hfl hok ⊢
 generalize (full&&(Qbr n x b).2)=full0
 have main:Qf (QK (fun st=>Qct (Qbr n x b) x a st.1 st.2.1 st.2.2.1 st.2.2.2.1 st.2.2.2.2.1 st.2.2.2.2.2.1 st.2.2.2.2.2.2.1 st.2.2.2.2.2.2.2.1 st.2.2.2.2.2.2.2.2.1 st.2.2.2.2.2.2.2.2.2.1 st.2.2.2.2.2.2.2.2.2.2) ((0:Int),n.Colours,n.Places,n.Tasks,n.From,n.To,b,full0,mm,E,L))
   fun q=>∃mm',q=(n.Colours,n.Places,n.Tasks,n.From,n.To,b,(X.foldl (QcQ (Q2 b) n x a) (L,E,full0)).2.2,mm',(X.foldl (QcQ (Q2 b) n x a) (L,E,full0)).2.1,(X.foldl (QcQ (Q2 b) n x a) (L,E,full0)).1)∧FI mm' (X.foldl (QcQ (Q2 b) n x a) (L,E,full0)).1:=by
  refine Qf.up X.length (fun st=>st.1) (fun st=>st.2.1=n.Colours∧st.2.2.1=n.Places∧st.2.2.2.1=n.Tasks∧st.2.2.2.2.1=n.From∧st.2.2.2.2.2.1=n.To∧st.2.2.2.2.2.2.1=b∧FI st.2.2.2.2.2.2.2.2.1 st.2.2.2.2.2.2.2.2.2.2∧(st.2.2.2.2.2.2.2.2.2.1.length:Int)≤E.length+st.1∧(X.drop st.1.toNat).foldl (QcQ (Q2 b) n x a) (st.2.2.2.2.2.2.2.2.2.2,st.2.2.2.2.2.2.2.2.2.1,st.2.2.2.2.2.2.2.1)=X.foldl (QcQ (Q2 b) n x a) (L,E,full0)) rfl ⟨rfl,rfl,rfl,rfl,rfl,rfl,hI,by simp,rfl⟩ (fun i st hi hn hJ=>?_)
  obtain⟨i',c,p,t,fr,tz,b',fu,mm,E',L'⟩:=st
  replace hi:i'=(i:Int):=hi
  subst hi
  obtain⟨e1,e2,e3,e4,e5,e6,j1,j2,j3⟩:c=n.Colours∧p=n.Places∧t=n.Tasks∧fr=n.From∧tz=n.To∧b'=b∧FI mm L'∧(E'.length:Int)≤E.length+(i:Int)∧(X.drop (i:Int).toNat).foldl (QcQ (Q2 b) n x a) (L',E',fu)=X.foldl (QcQ (Q2 b) n x a) (L,E,full0):=hJ
  subst e1;subst e2;subst e3;subst e4;subst e5;subst e6
  rw [Qay]at j3
  show Qf (Qct (Qbr n x b') x a i n.Colours n.Places n.Tasks n.From n.To b' fu mm E' L') _
  unfold Qct
  rw [hX]
  refine T1 (fun hc=>?_) (fun hc=>T2 (Ql ?_))
  ·simp only [QD]at hc
   have i1:i<X.length:=by omega
   have hw:w64 ((i:Int)+1)=((i+1:Nat):Int):=Qy i1 (by unfold maxLen;omega:X.length≤maxLen)
   rw [Q0,Qw i1,Qn,show Qj.mk n.Colours n.Places n.Tasks n.From n.To=n from rfl]
   rw [Qor i1,List.foldl_cons]at j3
   have ho:=hok _ (Qav i1)
   generalize X[i]=o at ho j3 ⊢
   obtain⟨⟨y,cc⟩,hD,_⟩:=QAe n x o 1024 h hg.1 (by omega) ho
   rw [hD,Qn]
   have next:∀(fu':Bool) mm' E'' L'',FI mm' L''→(E''.length:Int)≤E.length+((i:Int)+1)→QcQ (Q2 b') n x a (L',E',fu) o=(L'',E'',fu')→
     Qf (Qcr i n.Colours n.Places n.Tasks n.From n.To b' fu' mm' E'' L'') fun r=>(∀s',r=.inl s'→i<X.length∧s'.1=((i+1:Nat):Int)∧(s'.2.1=n.Colours∧s'.2.2.1=n.Places∧s'.2.2.2.1=n.Tasks∧s'.2.2.2.2.1=n.From∧s'.2.2.2.2.2.1=n.To∧s'.2.2.2.2.2.2.1=b'∧FI s'.2.2.2.2.2.2.2.2.1 s'.2.2.2.2.2.2.2.2.2.2∧(s'.2.2.2.2.2.2.2.2.2.1.length:Int)≤E.length+s'.1∧(X.drop s'.1.toNat).foldl (QcQ (Q2 b') n x a) (s'.2.2.2.2.2.2.2.2.2.2,s'.2.2.2.2.2.2.2.2.2.1,s'.2.2.2.2.2.2.2.1)=X.foldl (QcQ (Q2 b') n x a) (L,E,full0)))∧
      ∀q,r=.inr q→∃mm',q=(n.Colours,n.Places,n.Tasks,n.From,n.To,b',(X.foldl (QcQ (Q2 b') n x a) (L,E,full0)).2.2,mm',(X.foldl (QcQ (Q2 b') n x a) (L,E,full0)).2.1,(X.foldl (QcQ (Q2 b') n x a) (L,E,full0)).1)∧FI mm' (X.foldl (QcQ (Q2 b') n x a) (L,E,full0)).1:=fun fu' mm' E'' L'' f1 f2 f3=>by
    unfold Qcr
    refine T2 ⟨fun s' e=>?_,fun q e=>by cases e⟩
    cases e
    refine⟨i1,hw,rfl,rfl,rfl,rfl,rfl,rfl,f1,by show(E''.length:Int)≤_+w64 _;rw [hw];omega,?_⟩
    show(X.drop (w64 ((i:Int)+1)).toNat).foldl (QcQ (Q2 b') n x a) (L'',E'',fu')=_
    rw [hw,Qay,←j3,f3]
   by_cases c0:cc=0
   ·subst c0
    have hgy:=QrS h hg ho hD
    simp only [show((0:Int)==0)=true from rfl,cond_true]
    obtain⟨k,L'',mm'',hs,f1,f2⟩:=QwO b' E' fu h hgy j1 hb
    rw [hs,Qn]
    simp only
    unfold Qcs
    rcases f2 with⟨p,p1,rfl,rfl⟩|⟨p1,p2,rfl,rfl⟩|⟨p1,p2,rfl,rfl⟩
    ·rw [QcS (by omega),cond_false]
     refine T0 (T5 (by simp;omega)) fun _ _=>next _ _ _ _ f1 (by simp;omega) ?_
     unfold QcQ;rw [hD];simp only;rw [if_pos trivial,p1]
    ·rw [show decide ((-1:Int)<0)=true from rfl,cond_true]
     refine next _ _ _ _ f1 (by omega) ?_
     unfold QcQ;rw [hD];simp only;rw [if_pos trivial,p1];simp only;rw [if_pos p2]
    rw [QcS (by omega),cond_false]
    refine T0 (T5 (by simp;omega)) fun _ _=>next _ _ _ _ f1 (by simp;omega) ?_
    unfold QcQ;rw [hD];simp only;rw [if_pos trivial,p1];simp only;rw [if_neg p2]
   rw [show(cc==0)=false by simpa using c0,cond_false]
   unfold Qcs
   rw [show decide ((-1:Int)<0)=true from rfl,cond_true]
   refine next _ _ _ _ j1 (by omega) ?_
   unfold QcQ;rw [hD];simp only;rw [if_neg c0]
  simp only [QW]at hc
  rw [QvX (by omega),List.foldl_nil]at j3
  rw [←j3]
  exact⟨mm,rfl,j1⟩
 obtain⟨q,hq1,mm',rfl,hq2⟩:=main
 refine⟨mm',?_,hq2⟩
 rw [hq1];rfl
def Qrd (x:List Bag):Int:=w64 (tS x x.length)
def QfI (n:Qj)(b tokens:Int):Nat→SSt→Nat→SSt
 | 0,st,_=>st
 | f+1,st,a=>match st.1[a]? with
  | none=>st
  | some x=>if tokens<Qrd x then QfI n b tokens f (st.1,st.2.1,false) (a+1)
   else QfI n b tokens f ((Qbr n x b).1.foldl (QcQ (Q2 b) n x a) (st.1,st.2.1,st.2.2&&(Qbr n x b).2)) (a+1)
theorem QCE {n:Qj}{x:List Bag}{a:Int}{most:Nat}{st:SSt}{o:Qm}(h:Q1 n)(hg:Qat n x)(ho:QcU n o)(hs:∀y∈st.1,Qat n y):∀y∈(QcQ most n x a st o).1,Qat n y:=by
 unfold QcQ
 cases hD:QaC n x o with
 | none=>exact hs
 | some r=>
  obtain⟨y,c⟩:=r
  simp only
  by_cases c0:c=0
  ·subst c0
   rw [if_pos rfl]
   cases QiL st.1 (Qai y)with
   | some k=>exact hs
   | none=>
    simp only
    split
    ·exact hs
    intro z hz
    rcases QcK.1 hz with hz | hz
    ·exact hs z hz
    simp at hz;subst hz;exact QrS h hg ho hD
  rw [if_neg c0];exact hs
theorem QDg {n:Qj}{x:List Bag}{a:Int}{most:Nat}{st:SSt}{o:Qm}(hs:st.1.length≤most):(QcQ most n x a st o).1.length≤most∧(QcQ most n x a st o).2.1.length≤st.2.1.length+1:=by
 unfold QcQ
 cases hD:QaC n x o with
 | none=>exact⟨hs,by simp⟩
 | some r=>
  obtain⟨y,c⟩:=r
  simp only
  by_cases c0:c=0
  ·rw [if_pos c0]
   cases QiL st.1 (Qai y)with
   | some k=>exact⟨hs,by simp⟩
   | none=>
    simp only
    split
    ·exact⟨hs,by simp⟩
    exact⟨by simp;omega,by simp⟩
  rw [if_neg c0];exact⟨hs,by simp⟩
theorem QxL {n:Qj}{x:List Bag}{a:Int}{most:Nat}(h:Q1 n)(hg:Qat n x):∀{X:List Qm} {st:SSt},(∀o∈X,QcU n o)→(∀y∈st.1,Qat n y)→st.1.length≤most→(∀y∈(X.foldl (QcQ most n x a) st).1,Qat n y)∧(X.foldl (QcQ most n x a) st).1.length≤most∧(X.foldl (QcQ most n x a) st).2.1.length≤st.2.1.length+X.length:=by
 intro X
 induction X with
 | nil=>intro st _ hs hl;exact⟨hs,hl,by simp⟩
 | cons o X ih=>
  intro st ho hs hl
  have h1:=QDg (n:=n) (x:=x) (a:=a) (o:=o) hl
  obtain⟨k1,k2,k3⟩:=ih (st:=QcQ most n x a st o) (fun o' ho'=>ho o' (QaM _ ho')) (QCE h hg (ho o QaN) hs) h1.1
  rw [List.foldl_cons]
  exact⟨k1,k2,by simp;omega⟩
theorem QBG {n:Qj}{m:List Bag}(b tokens:Int)(h:Q1 n)(hbd:Bd n)(hg:Qat n m)(hb:b≤16):
  Qj9 n m b tokens=some (if b≤0 then Qaj.mk [] [] false else let r:=QfI n b tokens (Q2 b+1) ([m],[],true) 0;Qaj.mk r.1 r.2.1 r.2.2):=by
 have hpl:=h.pl
 have hm1:=hg.1.1
 unfold Qj9
 by_cases c0:b≤0
 ·rw [QbW c0,if_pos c0];rfl
 rw [QcS c0,if_neg c0,cond_false,QmR m (by omega) (fun b hb=>by have:=(hg.1.2 b hb).2;omega),Qn]
 have hmost:(Q2 b:Int)=b:=by unfold Q2 min2;split<;>omega
 obtain⟨k,L',mm',hs,f1,f2⟩:=QwO (mm:=[]) (L:=[]) b [] true h hg (fun s=>rfl) (by omega)
 rw [hs,Qn]
 have hL:L'=[m]:=by
  rcases f2 with⟨i,p1,_,_⟩|⟨_,p2,_,_⟩|⟨_,_,_,e⟩
  ·simp [QiL]at p1
  ·simp at p2;omega
  simpa using e
 subst hL
 simp only
 generalize hR:QfI n b tokens (Q2 b+1) ([m],[],true) 0=R
 have main:Qf (QK (fun st=>QgP tokens st.1 st.2.1 st.2.2.1 st.2.2.2.1 st.2.2.2.2.1 st.2.2.2.2.2.1 st.2.2.2.2.2.2.1 st.2.2.2.2.2.2.2.1 st.2.2.2.2.2.2.2.2.1 st.2.2.2.2.2.2.2.2.2.1 st.2.2.2.2.2.2.2.2.2.2) ((0:Int),n.Colours,n.Places,n.Tasks,n.From,n.To,b,true,mm',[m],([]:List Qaa)))
   fun q=>∃mm,q=(n.Colours,n.Places,n.Tasks,n.From,n.To,b,R.2.2,mm,R.1,R.2.1):=by
  refine Qf.up (Q2 b) (fun st=>st.1) (fun st=>st.2.1=n.Colours∧st.2.2.1=n.Places∧st.2.2.2.1=n.Tasks∧st.2.2.2.2.1=n.From∧st.2.2.2.2.2.1=n.To∧st.2.2.2.2.2.2.1=b∧FI st.2.2.2.2.2.2.2.2.1 st.2.2.2.2.2.2.2.2.2.1∧(∀y∈st.2.2.2.2.2.2.2.2.2.1,Qat n y)∧st.2.2.2.2.2.2.2.2.2.1.length≤Q2 b∧(st.2.2.2.2.2.2.2.2.2.2.length:Int)≤st.1*4194304∧QfI n b tokens (Q2 b+1-st.1.toNat) (st.2.2.2.2.2.2.2.2.2.1,st.2.2.2.2.2.2.2.2.2.2,st.2.2.2.2.2.2.2.1) st.1.toNat=R) rfl ⟨rfl,rfl,rfl,rfl,rfl,rfl,f1,fun y hy=>by simp at hy;subst hy;exact hg,by show 1≤_;omega,by simp,hR⟩ (fun i st hi hn hJ=>?_)
  obtain⟨i',c,p,t,fr,tz,b',fu,mm,L,E⟩:=st
  replace hi:i'=(i:Int):=hi
  subst hi
  obtain⟨e1,e2,e3,e4,e5,e6,j1,j2,j3,j4,j5⟩:c=n.Colours∧p=n.Places∧t=n.Tasks∧fr=n.From∧tz=n.To∧b'=b∧FI mm L∧(∀y∈L,Qat n y)∧L.length≤Q2 b∧(E.length:Int)≤(i:Int)*4194304∧QfI n b tokens (Q2 b+1-(i:Int).toNat) (L,E,fu) (i:Int).toNat=R:=hJ
  subst e1;subst e2;subst e3;subst e4;subst e5;subst e6
  rw [Qay,show Q2 b'+1-i=(Q2 b'-i)+1 by omega,QfI]at j5
  show Qf (QgP tokens i n.Colours n.Places n.Tasks n.From n.To b' fu mm L E) _
  unfold QgP
  refine T1 (fun hc=>?_) (fun hc=>T2 (Ql ?_))
  ·simp only [QD]at hc
   have i1:i<L.length:=by omega
   have hx:=Qw i1
   have hgx:=j2 _ (Qav i1)
   rw [Q0,hx,Qn]
   simp only [hx]at j5
   generalize L[i]=x at hx hgx j5 ⊢
   rw [Qs3 h hgx.1 (by omega),Qn]
   have hw:w64 ((i:Int)+1)=((i+1:Nat):Int):=Qy (by omega:i<Q2 b') (by unfold maxLen;omega)
   have next:∀(fu':Bool) mm' L' E',FI mm' L'→(∀y∈L',Qat n y)→L'.length≤Q2 b'→(E'.length:Int)≤((i:Int)+1)*4194304→QfI n b' tokens (Q2 b'-i) (L',E',fu') (i+1)=R→
     Qf (QgO i n.Colours n.Places n.Tasks n.From n.To b' fu' mm' L' E') fun r=>(∀s',r=.inl s'→i<Q2 b'∧s'.1=((i+1:Nat):Int)∧(s'.2.1=n.Colours∧s'.2.2.1=n.Places∧s'.2.2.2.1=n.Tasks∧s'.2.2.2.2.1=n.From∧s'.2.2.2.2.2.1=n.To∧s'.2.2.2.2.2.2.1=b'∧FI s'.2.2.2.2.2.2.2.2.1 s'.2.2.2.2.2.2.2.2.2.1∧(∀y∈s'.2.2.2.2.2.2.2.2.2.1,Qat n y)∧s'.2.2.2.2.2.2.2.2.2.1.length≤Q2 b'∧(s'.2.2.2.2.2.2.2.2.2.2.length:Int)≤s'.1*4194304∧QfI n b' tokens (Q2 b'+1-s'.1.toNat) (s'.2.2.2.2.2.2.2.2.2.1,s'.2.2.2.2.2.2.2.2.2.2,s'.2.2.2.2.2.2.2.1) s'.1.toNat=R))∧
      ∀q,r=.inr q→∃mm,q=(n.Colours,n.Places,n.Tasks,n.From,n.To,b',R.2.2,mm,R.1,R.2.1):=fun fu' mm' L' E' g1 g2 g3 g4 g5=>by
    unfold QgO
    refine T2 ⟨fun s' e=>?_,fun q e=>by cases e⟩
    cases e
    refine⟨by omega,hw,rfl,rfl,rfl,rfl,rfl,rfl,g1,g2,g3,by show(E'.length:Int)≤w64 _*_;rw [hw];omega,?_⟩
    show QfI n b' tokens (Q2 b'+1-(w64 ((i:Int)+1)).toNat) (L',E',fu') (w64 ((i:Int)+1)).toNat=R
    rw [hw,Qay,show Q2 b'+1-(i+1)=Q2 b'-i by omega]
    exact g5
   refine T1 (fun hc2=>?_) fun hc2=>?_
   ·rw [if_pos (show tokens<Qrd x by simpa [Qrd] using hc2)]at j5
    exact next _ _ _ _ j1 j2 j3 (by omega) j5
   rw [if_neg (show ¬tokens<Qrd x by simpa [Qrd] using hc2)]at j5
   obtain⟨mm',hl,f3⟩:=QAu (full:=fu) (E:=E) b' h hbd hgx j1 (by omega) hx (by omega)
   rw [hl,Qn]
   obtain⟨q1,q2,q3⟩:=QrU b' h hbd hgx
   obtain⟨g1,g2,g3⟩:=QxL (a:=(i:Int)) (most:=Q2 b') h hgx (X:=(Qbr n x b').1) (st:=(L,E,fu&&(Qbr n x b').2)) (fun o ho=>QpP h (hgx.len h) (q3 o ho)) j2 j3
   exact next _ _ _ _ f3 g1 g2 (by simp only at g3 ⊢;omega) j5
  simp only [QW]at hc
  rw [QvY (show L.length≤i by omega)]at j5
  rw [←j5]
  exact⟨mm,rfl⟩
 obtain⟨q,hq1,mm,rfl⟩:=main
 rw [hq1];rfl
end Go.Proofs
noncomputable section
namespace Go.Proofs
open Go Go.RowKit Go.Vm
structure QDX (n:Qj) (m:List Bag) (b tokens:Int) (a:Nat) (st:SSt):Prop where
 good:∀y∈st.1,Qat n y
 apart:QiJ Qai st.1
 len:st.1.length≤Q2 b
 head:∃r,st.1=m::r
 edge:∀e∈st.2.1,∃(i j:Nat) (x y:List Bag),e.From=(i:Int)∧e.To=(j:Int)∧i<a∧st.1[i]? = some x∧st.1[j]? = some y∧QaC n x e.Mode=some (y,0)∧QcU n e.Mode
 asc:st.2.1.Pairwise fun e f=>e.From≤f.From
 full:st.2.2=true→∀(i:Nat) (x:List Bag),i<a→st.1[i]? = some x→Qrd x≤tokens∧(Qbr n x b).2=true∧(st.2.1.filter fun e=>e.From==(i:Int)).map (·.Mode)=(Qbr n x b).1∧∀o∈(Qbr n x b).1,∃y∈st.1,QaC n x o=some (y,0)
 tree:∀k:Nat,0<k→k<st.1.length→∃e∈st.2.1,∃i:Nat,e.From=(i:Int)∧i<k∧e.To=(k:Int)
structure Qxs (n:Qj) (m:List Bag) (b tokens:Int) (a:Nat) (x:List Bag) (fl:Bool) (done:List Qm) (st:SSt):Prop where
 good:∀y∈st.1,Qat n y
 apart:QiJ Qai st.1
 len:st.1.length≤Q2 b
 head:∃r,st.1=m::r
 here:st.1[a]? = some x
 edge:∀e∈st.2.1,∃(i j:Nat) (x y:List Bag),e.From=(i:Int)∧e.To=(j:Int)∧i<a+1∧st.1[i]? = some x∧st.1[j]? = some y∧QaC n x e.Mode=some (y,0)∧QcU n e.Mode
 asc:st.2.1.Pairwise fun e f=>e.From≤f.From
 full:st.2.2=true→fl=true∧∀(i:Nat) (x:List Bag),i<a→st.1[i]? = some x→Qrd x≤tokens∧(Qbr n x b).2=true∧(st.2.1.filter fun e=>e.From==(i:Int)).map (·.Mode)=(Qbr n x b).1∧∀o∈(Qbr n x b).1,∃y∈st.1,QaC n x o=some (y,0)
 now:st.2.2=true→(st.2.1.filter fun e=>e.From==(a:Int)).map (·.Mode)=done∧∀o∈done,∃y∈st.1,QaC n x o=some (y,0)
 tree:∀k:Nat,0<k→k<st.1.length→∃e∈st.2.1,∃i:Nat,e.From=(i:Int)∧i<k∧e.To=(k:Int)
section
variable {n:Qj}{m:List Bag}{b tokens:Int}{a:Nat}
theorem QwP {E:List Qaa}{e:Qaa}{i:Nat}(he:e.From=(a:Int))(hi:i<a):(E++[e]).filter (fun e=>e.From==(i:Int))=E.filter fun e=>e.From==(i:Int):=by
 rw [Qp3,Qie,if_neg (by rw [he];simp;omega),List.filter_nil,Qp2]
theorem QxM {E:List Qaa}{e:Qaa}(he:e.From=(a:Int)):(E++[e]).filter (fun e=>e.From==(a:Int))=(E.filter fun e=>e.From==(a:Int))++[e]:=by
 rw [Qp3,Qie,if_pos (by rw [he];simp),List.filter_nil]
theorem QDh (h:Q1 n)(hp:n.Places.length≤64){x:List Bag}{fl:Bool}{done:List Qm}{st:SSt}{o:Qm}(I:Qxs n m b tokens a x fl done st)(ho:QcU n o):Qxs n m b tokens a x fl (done++[o]) (QcQ (Q2 b) n x a st o):=by
 have hgx:=I.good x (Qap I.here)
 have hal:=(QV.1 I.here).1
 unfold QcQ
 obtain⟨⟨y,c⟩,hD,_⟩:=QAe n x o 1024 h hgx.1 (by omega) ho
 rw [hD]
 simp only
 have down:Qxs n m b tokens a x fl (done++[o]) (st.1,st.2.1,false):=⟨I.good,I.apart,I.len,I.head,I.here,I.edge,I.asc,fun e=>(by cases e),fun e=>(by cases e),I.tree⟩
 by_cases c0:c=0
 ·subst c0
  rw [if_pos rfl]
  have hgy:=QrS h hgx ho hD
  have ascs:∀k:Int,(st.2.1++[Qaa.mk (a:Int) k o]).Pairwise fun e f=>e.From≤f.From:=fun k=>by
   rw [List.pairwise_append]
   refine⟨I.asc,Qr2 _ _,fun e he f hf=>?_⟩
   simp at hf;subst hf
   obtain⟨i,_,_,_,h1,_,h2,_⟩:=I.edge e he
   show e.From≤(a:Int)
   omega
  cases hk:QiL st.1 (Qai y)with
  | some k=>
   simp only
   obtain⟨z,hz,hzk⟩:=QBE hk
   have hzy:z=y:=QDe h hp (I.good z (Qap hz)) hgy hzk
   subst hzy
   refine⟨I.good,I.apart,I.len,I.head,I.here,fun e he=>?_,ascs _,fun hf=>?_,fun hf=>?_,fun k' h1 h2=>?_⟩
   ·rcases QcK.1 he with he | he
    ·exact I.edge e he
    simp at he;subst he
    exact⟨a,k,x,z,rfl,rfl,by omega,I.here,hz,hD,ho⟩
   ·obtain⟨f1,f2⟩:=I.full hf
    refine⟨f1,fun i u hi hu=>?_⟩
    rw [QwP rfl hi]
    exact f2 i u hi hu
   ·obtain⟨f1,f2⟩:=I.now hf
    show(List.filter _ (st.2.1++[_])).map _=_∧_
    rw [QxM rfl,List.map_append,f1]
    refine⟨rfl,fun o' ho'=>?_⟩
    rcases QcK.1 ho' with ho' | ho'
    ·exact f2 o' ho'
    simp at ho';subst ho';exact⟨z,Qap hz,hD⟩
   obtain⟨e,he,r⟩:=I.tree k' h1 h2
   exact⟨e,Qp6 _ he,r⟩
  | none=>
   simp only
   by_cases cl:Q2 b≤st.1.length
   ·rw [if_pos cl];exact down
   rw [if_neg cl]
   have hnone:=QBF hk
   have hap:QiJ Qai (st.1++[y]):=I.apart.add (by
    unfold Qxh
    exact List.any_eq_false.2 fun u hu=>by simpa using hnone u hu)
   have up:∀{i:Nat} {u:List Bag},st.1[i]? = some u→(st.1++[y])[i]? = some u:=fun {i u} hu=>by
    rw [Qbw ((QV.1 hu).1)];exact hu
   have hnew:(st.1++[y])[st.1.length]? = some y:=by rw [QcI (QbZ _),Nat.sub_self];rfl
   refine⟨fun z hz=>?_,hap,by simp;omega,?_,up I.here,fun e he=>?_,ascs _,fun hf=>?_,fun hf=>?_,fun k' h1 h2=>?_⟩
   ·rcases QcK.1 hz with hz | hz
    ·exact I.good z hz
    simp at hz;subst hz;exact hgy
   ·obtain⟨r,hr⟩:=I.head
    exact⟨r++[y],by show st.1++[y]=_;rw [hr];rfl⟩
   ·rcases QcK.1 he with he | he
    ·obtain⟨i,j,u,v,h1,h2,h3,h4,h5,h6⟩:=I.edge e he
     exact⟨i,j,u,v,h1,h2,h3,up h4,up h5,h6⟩
    simp at he;subst he
    exact⟨a,st.1.length,x,y,rfl,rfl,by omega,up I.here,hnew,hD,ho⟩
   ·obtain⟨f1,f2⟩:=I.full hf
    refine⟨f1,fun i u hi hu=>?_⟩
    have hu':st.1[i]? = some u:=by
     have hu:(st.1++[y])[i]? = some u:=hu
     rw [Qbw (by omega)]at hu;exact hu
    obtain⟨g1,g2,g3,g4⟩:=f2 i u hi hu'
    rw [QwP rfl hi]
    refine⟨g1,g2,g3,fun o' ho'=>?_⟩
    obtain⟨z,hz,hz2⟩:=g4 o' ho'
    exact⟨z,Qp6 _ hz,hz2⟩
   ·obtain⟨f1,f2⟩:=I.now hf
    show(List.filter _ (st.2.1++[_])).map _=_∧_
    rw [QxM rfl,List.map_append,f1]
    refine⟨rfl,fun o' ho'=>?_⟩
    rcases QcK.1 ho' with ho' | ho'
    ·obtain⟨z,hz,hz2⟩:=f2 o' ho'
     exact⟨z,Qp6 _ hz,hz2⟩
    simp at ho';subst ho';exact⟨y,by simp,hD⟩
   by_cases ck:k'=st.1.length
   ·subst ck
    exact⟨Qaa.mk (a:Int) (st.1.length:Int) o,by simp,a,rfl,hal,rfl⟩
   have h2:k'<(st.1++[y]).length:=h2
   obtain⟨e,he,r⟩:=I.tree k' h1 (by simp at h2;omega)
   exact⟨e,Qp6 _ he,r⟩
 rw [if_neg c0];exact down
theorem QCF (h:Q1 n)(hp:n.Places.length≤64){x:List Bag}{fl:Bool}:∀{X done:List Qm} {st:SSt},Qxs n m b tokens a x fl done st→(∀o∈X,QcU n o)→Qxs n m b tokens a x fl (done++X) (X.foldl (QcQ (Q2 b) n x a) st):=by
 intro X
 induction X with
 | nil=>intro done st I _;simpa using I
 | cons o X ih=>
  intro done st I ho
  have:=ih (QDh h hp I (ho o QaN)) fun o' ho'=>ho o' (QaM _ ho')
  rw [Qdu]at this
  exact this
theorem QCG (h:Q1 n)(hbd:Bd n)(hp:n.Places.length≤64):∀(f:Nat) {st:SSt} {a:Nat},Q2 b<f+a→QDX n m b tokens a st→∃a',QDX n m b tokens a' (QfI n b tokens f st a)∧(QfI n b tokens f st a).1.length≤a':=by
 intro f
 induction f with
 | zero=>intro st a hf I;exact⟨a,I,by have:=I.len;show st.1.length≤a;omega⟩
 | succ f ih=>
  intro st a hf I
  rw [QfI]
  cases hx:st.1[a]? with
  | none=>exact⟨a,I,List.getElem?_eq_none_iff.1 hx⟩
  | some x=>
   simp only
   have hgx:=I.good x (Qap hx)
   by_cases ct:tokens<Qrd x
   ·rw [if_pos ct]
    exact ih (by omega) ⟨I.good,I.apart,I.len,I.head,fun e he=>by
     obtain⟨i,j,u,v,h1,h2,h3,h4⟩:=I.edge e he
     exact⟨i,j,u,v,h1,h2,by omega,h4⟩,I.asc,fun e=>(by cases e),I.tree⟩
   rw [if_neg ct]
   obtain⟨q1,q2,q3⟩:=QrU b h hbd hgx
   have M0:Qxs n m b tokens a x (st.2.2&&(Qbr n x b).2) [] (st.1,st.2.1,st.2.2&&(Qbr n x b).2):=⟨I.good,I.apart,I.len,I.head,hx,fun e he=>by
    obtain⟨i,j,u,v,h1,h2,h3,h4⟩:=I.edge e he
    exact⟨i,j,u,v,h1,h2,by omega,h4⟩,I.asc,fun e=>⟨e,I.full (QG _ _▸e).1⟩,fun e=>⟨by
    rw [List.filter_eq_nil_iff.2 fun e he=>by
     obtain⟨i,_,_,_,h1,_,h3,_⟩:=I.edge e he
     rw [h1];simp;omega];rfl,fun o ho=>by cases ho⟩,I.tree⟩
   have M:=QCF h hp M0 fun o ho=>QpP h (hgx.len h) (q3 o ho)
   rw [Qp7]at M
   refine ih (by omega) ⟨M.good,M.apart,M.len,M.head,M.edge,M.asc,fun hf i u hi hu=>?_,M.tree⟩
   obtain⟨f1,f2⟩:=M.full hf
   by_cases ci:i=a
   ·subst ci
    have:u=x:=Option.some.inj (hu.symm.trans M.here)
    subst this
    obtain⟨f3,f4⟩:=M.now hf
    rw [QG]at f1
    exact⟨by omega,f1.2,f3,f4⟩
   exact f2 i u (by omega) hu
end
def Qlw (n:Qj)(m:List Bag)(b tokens:Int):Qaj:=if b≤0 then Qaj.mk [] [] false else Qaj.mk (QfI n b tokens (Q2 b+1) ([m],[],true) 0).1 (QfI n b tokens (Q2 b+1) ([m],[],true) 0).2.1 (QfI n b tokens (Q2 b+1) ([m],[],true) 0).2.2
structure SOk (n:Qj) (m:List Bag) (b tokens:Int) (s:Qaj):Prop where
 good:∀y∈s.States,Qat n y
 apart:QiJ Qai s.States
 len:s.States.length≤Q2 b
 head:∃r,s.States=m::r
 edge:∀e∈s.Edges,∃(i j:Nat) (x y:List Bag),e.From=(i:Int)∧e.To=(j:Int)∧s.States[i]? = some x∧s.States[j]? = some y∧QaC n x e.Mode=some (y,0)∧QcU n e.Mode
 asc:s.Edges.Pairwise fun e f=>e.From≤f.From
 full:s.Full=true→∀(i:Nat) (x:List Bag),s.States[i]? = some x→Qrd x≤tokens∧(Qbr n x b).2=true∧(s.Edges.filter fun e=>e.From==(i:Int)).map (·.Mode)=(Qbr n x b).1∧∀o∈(Qbr n x b).1,∃y∈s.States,QaC n x o=some (y,0)
 tree:∀k:Nat,0<k→k<s.States.length→∃e∈s.Edges,∃i:Nat,e.From=(i:Int)∧i<k∧e.To=(k:Int)
theorem QCH {n:Qj}{m:List Bag}{b tokens:Int}(h:Q1 n)(hbd:Bd n)(hp:n.Places.length≤64)(hg:Qat n m)(hb:0<b):SOk n m b tokens (Qlw n m b tokens):=by
 have hm:1≤Q2 b:=by unfold Q2 min2;split<;>omega
 obtain⟨a',I,hl⟩:=QCG (m:=m) (b:=b) (tokens:=tokens) h hbd hp (Q2 b+1) (st:=([m],[],true)) (a:=0) (by omega) ⟨fun y hy=>by simp at hy;subst hy;exact hg,Qr2 _ _,hm,⟨[],rfl⟩,fun e he=>(by cases he),List.Pairwise.nil,fun _ i x hi=>by omega,fun k h1 h2=>by simp at h2;omega⟩
 unfold Qlw
 rw [if_neg (by omega)]
 exact⟨I.good,I.apart,I.len,I.head,fun e he=>by
  obtain⟨i,j,u,v,h1,h2,_,h4⟩:=I.edge e he
  exact⟨i,j,u,v,h1,h2,h4⟩,I.asc,fun hf i x hx=>I.full hf i x (by have h3:i<(QfI n b tokens (Q2 b+1) ([m],[],true) 0).1.length:=(QV.1 hx).1;omega) hx,I.tree⟩
theorem QDi {n:Qj}{m:List Bag}(b tokens:Int)(h:Q1 n)(hbd:Bd n)(hg:Qat n m)(hb:b≤16):Qj9 n m b tokens=some (Qlw n m b tokens):=by
 rw [QBG b tokens h hbd hg hb]
 unfold Qlw
 by_cases c:b≤0
 ·simp only [if_pos c]
 simp only [if_neg c]
end Go.Proofs
noncomputable section
namespace Go.Proofs
open Go Go.RowKit Go.Vm
def Rch (n:Qj):Prop:=(∀p∈n.Places,p.First.length*16≤140737488351232)∧∀c∈n.Colours,c.Names.length*16≤140737488351232
theorem QBH {n:Qj}(hk:QY n)(hr:Rch n):Qf (QfP n) fun r=>r=true→(n.Colours.length≤40∧n.Places.length≤70∧n.Tasks.length≤70)∧∀p∈n.Places,p.First.length≤400:=by
 unfold QfP
 refine T1 (fun _=>T2 fun h=>by cases h) fun hc=>?_
 simp only [Qdb,QW]at hc
 refine T6 (P:=fun r=>r=true→∀p∈n.Places,p.First.length≤400) ?_ fun r hr2 e=>⟨by omega,hr2 e⟩
 refine T0 (Qf.up n.Colours.length (fun st=>st.2) (fun st=>0≤st.1∧st.1≤400) (Q:=fun q:Unit⊕Int=>∀x,q=.inr x→0≤x∧x≤400) rfl ⟨by show(0:Int)≤0;omega,by show(0:Int)≤400;omega⟩ (fun i st hi hn hJ=>?_)) (fun q hq=>?_)
 ·obtain⟨a,x⟩:=st
  replace hi:x=(i:Int):=hi
  subst hi
  obtain⟨j1,j2⟩:0≤a∧a≤400:=hJ
  show Qf (QfV n a i) _
  unfold QfV
  refine T1 (fun hc=>?_) (fun _=>T2 (Ql fun x e=>by cases e;exact⟨j1,j2⟩))
  simp only [QD]at hc
  refine T0 (T4 (by omega) (by omega)).self fun e he=>?_
  obtain⟨he,hm⟩:=he
  have hel:=hr.2 e hm
  have hw:w64 (a+(e.Names.length:Int))=a+(e.Names.length:Int):=Qca (by omega)
  refine T0 (P:=fun y=>y=false→a+(e.Names.length:Int)≤400) ?_ fun y hy=>?_
  ·unfold Qng
   rw [he,Qn,hw]
   exact T1 (fun _=>T2 fun h=>by cases h) fun _=>T2 fun h=>by simpa using h
  unfold QhY
  refine T1 (fun _=>T2 (Ql fun x e=>by cases e)) fun hyf=>?_
  have hle:=hy hyf
  refine T0 (Qf.up e.Names.length (fun st=>st) (fun _=>True) (Q:=fun _=>True) rfl trivial (fun i2 st hi2 hn2 _=>?_)) (fun q _=>?_)
  ·show Qf (QfU n i st) _
   unfold QfU
   simp only [he,Qn]
   refine T1 (fun hc=>?_) (fun _=>T2 (Ql trivial))
   simp only [QD]at hc
   refine T0 (T4 (by omega) (by omega)) fun s _=>?_
   refine T1 (fun _=>T2 (Ql trivial)) fun _=>?_
   exact T2 (QC ⟨by omega,by rw [hi2];exact Qy (by omega) (hk.1.2 e hm).2.2.2.2.1.1,trivial⟩)
  rcases q with q | q
  ·exact T2 (Ql fun x e=>by cases e)
  refine T2 (QC ⟨by omega,Qy (by omega) hk.1.1,?_⟩)
  show 0≤w64 (a+(e.Names.length:Int))∧w64 (a+(e.Names.length:Int))≤400
  rw [hw];omega
 rcases q with q | q
 ·exact T2 fun h=>by cases h
 have hq:=hq q rfl
 show Qf (Qe7 n q) _
 unfold Qe7
 refine T0 (Qf.up n.Places.length (fun st=>st.2) (fun st=>0≤st.1∧st.1≤400+st.2*8796093022208∧∀(j:Nat) p,(j:Int)<st.2→n.Places[j]? = some p→(p.First.length:Int)≤st.1) (Q:=fun q:Unit⊕Int=>∀x,q=.inr x→∀p∈n.Places,(p.First.length:Int)≤x) rfl ⟨hq.1,by show q≤400+0*8796093022208;omega,fun j p hj=>by simp at hj;omega⟩ (fun i st hi hn hJ=>?_)) (fun q hq=>?_)
 ·obtain⟨a,x⟩:=st
  replace hi:x=(i:Int):=hi
  subst hi
  obtain⟨j1,j2,j3⟩:0≤a∧a≤400+(i:Int)*8796093022208∧∀(j:Nat) p,(j:Int)<(i:Int)→n.Places[j]? = some p→(p.First.length:Int)≤a:=hJ
  show Qf (QfW n a i) _
  unfold QfW
  refine T1 (fun hc=>?_) (fun hc=>T2 (Ql fun x e p hp=>?_))
  ·simp only [QD]at hc
   have i1:i<n.Places.length:=by omega
   rw [Q0,Qw i1,Qn,Qn]
   have hpl:=hr.1 _ (Qav i1)
   have hw:w64 (a+((n.Places[i]).First.length:Int))=a+((n.Places[i]).First.length:Int):=Qca (by omega)
   have hw2:w64 ((i:Int)+1)=((i+1:Nat):Int):=Qy i1 hk.2.1.1
   refine T1 (fun _=>T2 (Ql fun x e=>by cases e)) fun _=>T2 (QC ⟨i1,hw2,?_⟩)
   show 0≤w64 (a+((n.Places[i]).First.length:Int))∧w64 (a+((n.Places[i]).First.length:Int))≤400+w64 ((i:Int)+1)*8796093022208∧∀(j:Nat) p,(j:Int)<w64 ((i:Int)+1)→n.Places[j]? = some p→(p.First.length:Int)≤w64 (a+((n.Places[i]).First.length:Int))
   rw [hw,hw2]
   refine⟨by omega,by omega,fun j p hj hp=>?_⟩
   by_cases cj:j=i
   ·subst cj
    rw [Qw i1]at hp;cases hp;omega
   have:=j3 j p (by omega) hp;omega
  cases e
  simp only [QW]at hc
  obtain⟨j,hj,rfl⟩:=Qme.1 hp
  exact j3 j _ (by omega) (Qw hj)
 rcases q with q | q
 ·exact T2 fun h=>by cases h
 exact(Qzp n hk q).mono fun r hr2 e p hp=>by have:=hr2 e;have:=hq q rfl p hp;omega
theorem QAv {n:Qj}(hp:n.Places.length≤70)(hf:∀p∈n.Places,p.First.length≤400):Qf (Qf2 n) fun m=>m.length=n.Places.length∧∀b∈m,b.length≤401:=by
 unfold Qf2
 refine T0 (Qf.up n.Places.length (fun st=>st.1) (fun st=>(st.2.length:Int)=st.1∧∀b∈st.2,b.length≤401) (Q:=fun m:List Bag=>m.length=n.Places.length∧∀b∈m,b.length≤401) rfl ⟨rfl,fun b h=>by cases h⟩ (fun i st hi hn hJ=>?_)) (fun q hq=>T2 hq)
 obtain⟨x,l⟩:=st
 replace hi:x=(i:Int):=hi
 subst hi
 obtain⟨j1,j2⟩:(l.length:Int)=(i:Int)∧∀b∈l,b.length≤401:=hJ
 show Qf (Qjk n i l) _
 unfold Qjk
 refine T1 (fun hc=>?_) (fun hc=>T2 (Ql ?_))
 ·simp only [QD]at hc
  have i1:i<n.Places.length:=by omega
  have hpl:=hf _ (Qav i1)
  rw [Q0,Qw i1,Qn]
  have hw:w64 ((i:Int)+1)=((i+1:Nat):Int):=Qy i1 (by unfold maxLen;omega:n.Places.length≤maxLen)
  have k1:∀b:Bag,b.length≤401→Qf (Qe1 l i b) fun o=>(∀s',o=.inl s'→i<n.Places.length∧s'.1=((i+1:Nat):Int)∧(s'.2.length:Int)=s'.1∧∀b∈s'.2,b.length≤401)∧∀r:List Bag,o=.inr r→r.length=n.Places.length∧∀b∈r,b.length≤401:=fun b hb=>by
   unfold Qe1
   refine T0 (T5 (by simp;omega)) fun _ _=>?_
   refine T2 (QC (ix:=fun st:Int×List Bag=>st.1) (J:=fun st:Int×List Bag=>(st.2.length:Int)=st.1∧∀b∈st.2,b.length≤401) ⟨i1,hw,by show((l++[b]).length:Int)=w64 _;rw [hw];simp;omega,fun b' hb'=>?_⟩)
   rcases QcK.1 hb' with hb' | hb'
   ·exact j2 b' hb'
   simp at hb';subst hb';exact hb
  unfold Qa0
  rw [QqN (by simp;omega)]
  simp only [Qn,Qp7]
  refine T1 (fun hc2=>?_) fun _=>k1 _ (by omega)
  rw [show Qm2 ([0]:List Int)=some [(0,1)]from QwL 0,Qn]
  rcases Qkh (n.Places[i]).First [(0,1)] (by simp;omega)with⟨_,e⟩|⟨_,_,_,e⟩|⟨_,_,r,e,h1,_,h2⟩
  ·rw [e,Qn];exact k1 _ (by omega)
  ·rw [e,Qn];exact k1 _ (by omega)
  rw [e,Qn];exact k1 _ (by simp at h2;show r.length≤401;omega)
 simp only [QW]at hc
 exact⟨by show l.length=_;omega,j2⟩
def QrV (n:Qj):List Bag:=(Qf2 n).getD []
structure QBI (n:Qj) (b:Int):Prop where
 net:Q1 n
 bd:Bd n
 pl:n.Places.length≤64
 good:Qat n (QrV n)
 first:Qf2 n=some (QrV n)
 bud:b≤16
theorem QCI (n:Qj)(b:Int)(hn:QY n)(hr:Rch n):Qf (QmN n b) fun r=>r=true→QBI n b:=by
 unfold QmN
 refine T0 (QBH hn hr) fun f hf=>?_
 refine T1 (fun _=>T2 fun h=>by cases h) fun hc=>?_
 simp only [Qdb,Qjf,QW]at hc
 obtain⟨h1,h2⟩:=hf hc.1
 refine T0 (QAv h1.2.1 h2).self fun m hm=>?_
 obtain⟨hme,hm1,hm2⟩:=hm
 refine T0 (QCz n m _ hn ⟨by unfold maxLen;omega,fun b hb=>⟨by have:=hm2 b hb;unfold maxLen;omega,fun _ _=>trivial⟩⟩) fun r hr2=>?_
 refine T2 fun e=>?_
 obtain⟨g1,g2,g3,_⟩:=hr2 e
 have ef:QrV n=m:=by unfold QrV;rw [hme];rfl
 exact⟨g1,g2,by omega,by rw [ef];exact g3,by rw [ef];exact hme,by omega⟩
end Go.Proofs
noncomputable section
namespace Go.Proofs
open Go Go.RowKit Go.Vm
theorem QxN {n:Qj}{a:List Bag}(h:Q1 n)(ha:Qat n a):QeM a a=some true:=Qxo h ha.1 (by omega)
theorem QBJ {n:Qj}{s:Qaj}{m:List Bag}(h:Q1 n)(hs:∀y∈s.States,Qat n y)(hl:s.States.length≤4096)(hm:Qat n m):Qf (QhX s m) fun r=>(r=-1∧m ∉ s.States)∨∃i:Nat,r=(i:Int)∧s.States[i]? = some m:=by
 unfold QhX QbR
 refine T0 (P:=fun r=>(r=-1∧m ∉ s.States)∨∃i:Nat,r=(i:Int)∧s.States[i]? = some m) ?_ fun r hr=>T2 hr
 refine T0 (Qf.up s.States.length (fun st=>st) (fun st=>m ∉ s.States.take st.toNat) (Q:=fun q:Int⊕Unit=>(∀r,q=.inl r→∃i:Nat,r=(i:Int)∧s.States[i]? = some m)∧(q=.inr ()→m ∉ s.States)) rfl (by simp) (fun i st hi hn hJ=>?_)) (fun q hq=>?_)
 ·replace hi:st=(i:Int):=hi
  subst hi
  replace hJ:m ∉ s.States.take (i:Int).toNat:=hJ
  rw [Qay]at hJ
  show Qf (QaD s.States m i) _
  unfold QaD Qne
  refine T1 (fun hc=>?_) (fun hc=>T2 (Ql ⟨fun r e=>(by cases e),fun _=>?_⟩))
  ·simp only [QD]at hc
   have i1:i<s.States.length:=by omega
   have hgi:=hs _ (Qav i1)
   rw [Q0,Qw i1,Qn]
   by_cases e:s.States[i]=m
   ·rw [e,QxN h hm]
    simp only [Qn,cond_true]
    exact T2 (Ql ⟨fun r e'=>(by cases e';exact⟨i,rfl,by rw [Qw i1,e]⟩),fun e=>by cases e⟩)
   obtain⟨r,hr,hr2⟩:=Qxr h hgi hm
   have:r=false:=by
    cases r with
    | false=>rfl
    | true=>exact absurd (hr2 rfl) e
   subst this
   rw [hr]
   simp only [Qn,cond_false]
   have hw:w64 ((i:Int)+1)=((i+1:Nat):Int):=Qy i1 (by unfold maxLen;omega:s.States.length≤maxLen)
   refine T2 (QC ⟨i1,hw,?_⟩)
   show m ∉ s.States.take (w64 ((i:Int)+1)).toNat
   rw [hw,Qay,QdH,Qw i1]
   simp only [Option.toList_some,QcK,List.mem_singleton,not_or]
   exact⟨hJ,fun e'=>e e'.symm⟩
  simp only [QW]at hc
  rwa [Qcm (by omega)]at hJ
 rcases q with q | q
 ·exact T2 (.inr (hq.1 q rfl))
 exact T2 (.inl ⟨rfl,hq.2 rfl⟩)
theorem QDj {n:Qj}{s:Qaj}{i:Nat}{m:List Bag}(h:Q1 n)(hs:∀y∈s.States,Qat n y)(hl:s.States.length≤4096)(ha:QiJ Qai s.States)(hm:s.States[i]? = some m):QhX s m=some (i:Int):=by
 obtain⟨r,hr,hr2⟩:=QBJ h hs hl (hs m (Qap hm))
 rw [hr]
 rcases hr2 with⟨_,h1⟩|⟨j,rfl,hj⟩
 ·exact absurd (Qap hm) h1
 obtain⟨i1,ei⟩:=QV.1 hm
 obtain⟨j1,ej⟩:=QV.1 hj
 have hp:=QvZ.1 ha
 have:i=j:=by
  rcases Nat.lt_trichotomy i j with c | c | c
  ·exact absurd (by rw [ei,ej]) (hp i j i1 j1 c)
  ·exact c
  exact absurd (by rw [ei,ej]) (hp j i j1 i1 c)
 rw [this]
theorem QDk {s:Qaj}(k:Int)(hE:s.Edges.length≤134217728):Qf (Qg7 s k) fun l=>l.length=(s.Edges.filter fun e=>e.From==k).length:=by
 unfold Qg7
 refine T0 (Qf.up s.Edges.length (fun st=>st.1) (fun st=>st.2.length=((s.Edges.take st.1.toNat).filter fun e=>e.From==k).length) (Q:=fun q:List Int=>q.length=(s.Edges.filter fun e=>e.From==k).length) rfl rfl (fun i st hi hn hJ=>?_)) (fun q hq=>T2 hq)
 obtain⟨x,l⟩:=st
 replace hi:x=(i:Int):=hi
 subst hi
 replace hJ:l.length=((s.Edges.take (i:Int).toNat).filter fun e=>e.From==k).length:=hJ
 rw [Qay]at hJ
 show Qf (QkF s k i l) _
 unfold QkF
 refine T1 (fun hc=>?_) (fun hc=>T2 (Ql ?_))
 ·simp only [QD]at hc
  have i1:i<s.Edges.length:=by omega
  have hw:w64 ((i:Int)+1)=((i+1:Nat):Int):=Qy i1 (by unfold maxLen;omega:s.Edges.length≤maxLen)
  have hll:l.length≤i:=by
   have:=QrZ (fun e:Qaa=>e.From==k) (s.Edges.take i)
   rw [Qfu]at this;omega
  have tk:(s.Edges.take (i+1)).filter (fun e=>e.From==k)=(s.Edges.take i).filter (fun e=>e.From==k)++[s.Edges[i]].filter fun e=>e.From==k:=by
   rw [QdH,Qw i1,Qp3];rfl
  rw [Q0,Qw i1,Qn]
  have k1:∀l',l'.length=((s.Edges.take (i+1)).filter fun e=>e.From==k).length→Qf (QhW i l') fun o=>(∀s',o=.inl s'→i<s.Edges.length∧s'.1=((i+1:Nat):Int)∧s'.2.length=((s.Edges.take s'.1.toNat).filter fun e=>e.From==k).length)∧∀r:List Int,o=.inr r→r.length=(s.Edges.filter fun e=>e.From==k).length:=fun l' hl'=>by
   unfold QhW
   refine T2 (QC (ix:=fun st:Int×List Int=>st.1) (J:=fun st:Int×List Int=>st.2.length=((s.Edges.take st.1.toNat).filter fun e=>e.From==k).length) ⟨i1,hw,?_⟩)
   show l'.length=((s.Edges.take (w64 ((i:Int)+1)).toNat).filter fun e=>e.From==k).length
   rw [hw,Qay];exact hl'
  refine T1 (fun hc2=>?_) fun hc2=>?_
  ·refine T0 (T5 (by simp;omega)) fun _ _=>k1 _ ?_
   rw [tk,QcW,QcW,hJ,Qie,if_pos hc2];rfl
  refine k1 _ ?_
  rw [tk,QcW,hJ,Qie,if_neg (by rw [hc2];decide)];rfl
 simp only [QW]at hc
 rw [Qcm (by omega)]at hJ;exact hJ
theorem QBK {n:Qj}{m:List Bag}{b tokens:Int}(h:Q1 n)(hbd:Bd n)(hg:Qat n m)(hb:b≤16):(Qlw n m b tokens).Edges.length≤67108864:=by
 have key:∀(K:Nat),K=4194304→∀(f:Nat) (st:SSt) (a:Nat),(∀y∈st.1,Qat n y)→st.1.length≤Q2 b→st.2.1.length≤a*K→a≤Q2 b→(QfI n b tokens f st a).2.1.length≤Q2 b*K:=by
  intro K hK
  intro f
  induction f with
  | zero=>intro st a _ _ h3 h4;exact Qcc h3 (Qcx _ h4)
  | succ f ih=>
   intro st a h1 h2 h3 h4
   rw [QfI]
   cases hx:st.1[a]? with
   | none=>exact Qcc h3 (Qcx _ h4)
   | some x=>
    simp only
    have ha:=(QV.1 hx).1
    have hgx:=h1 x (Qap hx)
    split
    ·exact ih _ _ h1 h2 (by show st.2.1.length≤(a+1)*K;rw [Nat.succ_mul];omega) (by omega)
    obtain⟨q1,q2,q3⟩:=QrU b h hbd hgx
    obtain⟨g1,g2,g3⟩:=QxL (a:=(a:Int)) (most:=Q2 b) h hgx (X:=(Qbr n x b).1) (st:=(st.1,st.2.1,st.2.2&&(Qbr n x b).2)) (fun o ho=>QpP h (hgx.len h) (q3 o ho)) h1 h2
    exact ih _ _ g1 g2 (by rw [Nat.succ_mul];simp only at g3;omega) (by omega)
 unfold Qlw
 split
 ·simp
 have hm:1≤Q2 b∧Q2 b≤16:=by unfold Q2 min2;split<;>omega
 have:=key 4194304 rfl (Q2 b+1) ([m],[],true) 0 (fun y hy=>by simp at hy;subst hy;exact hg) (by simp;omega) (by simp) (by omega)
 show List.length _≤_
 have h2:Q2 b*4194304≤16*4194304:=Qcx _ hm.2
 exact Qcc this h2
end Go.Proofs
noncomputable section
namespace Go.Proofs
open Go Go.RowKit Go.Vm
set_option maxRecDepth 100000 in
theorem QAw : QnX=some true:=by kernel_rfl
end Go.Proofs
noncomputable section
namespace Go.Proofs
open Go Go.RowKit Go.Vm
theorem QAx {n:Qj}{b:Int}(tokens:Int)(hF:QBI n b):QdU n b tokens=some (Qlw n (QrV n) b tokens):=by
 unfold QdU
 rw [hF.first,Qn,QDi b tokens hF.net hF.bd hF.good hF.bud];rfl
structure QES (n:Qj) (b tokens:Int) (s:Qaj):Prop where
 good:∀y∈s.States,Qat n y
 apart:QiJ Qai s.States
 len:(s.States.length:Int)≤max2 b 0
 few:s.States.length≤16
 edge:∀e∈s.Edges,∃(i j:Nat) (x y:List Bag),e.From=(i:Int)∧e.To=(j:Int)∧s.States[i]? = some x∧s.States[j]? = some y∧QaC n x e.Mode=some (y,0)∧QcU n e.Mode
 asc:s.Edges.Pairwise fun e f=>e.From≤f.From
 full:s.Full=true→∀(i:Nat) (x:List Bag),s.States[i]? = some x→Qrd x≤tokens∧(Qbr n x b).2=true∧(s.Edges.filter fun e=>e.From==(i:Int)).map (·.Mode)=(Qbr n x b).1∧∀o∈(Qbr n x b).1,∃y∈s.States,QaC n x o=some (y,0)
 edges:s.Edges.length≤67108864
theorem QBL {n:Qj}{m:List Bag}{b tokens:Int}(h:Q1 n)(hbd:Bd n)(hp:n.Places.length≤64)(hg:Qat n m)(hb:b≤16):QES n b tokens (Qlw n m b tokens):=by
 have hE:=QBK (tokens:=tokens) h hbd hg hb
 by_cases c:0<b
 ·have hS:=QCH (tokens:=tokens) h hbd hp hg c
  have hm:(Q2 b:Int)=b:=by unfold Q2 min2;split<;>omega
  have hl:=hS.len
  exact⟨hS.good,hS.apart,by unfold max2;split<;>omega,by omega,hS.edge,hS.asc,hS.full,hE⟩
 unfold Qlw at hE ⊢
 rw [if_pos (by omega)]at hE ⊢
 exact⟨fun y h=>(by cases h),List.Pairwise.nil,by show(0:Int)≤_;unfold max2;split<;>omega,by simp,fun e h=>(by cases h),List.Pairwise.nil,fun h=>(by cases h),hE⟩
theorem Qy2 (n:Qj)(b tokens:Int)(hn:QY n)(hr:Rch n):Qeo n b tokens=some true:=by
 unfold Qeo
 rw [QAw,Qn]
 obtain⟨f,hf,hf2⟩:=QCI n b hn hr
 rw [hf,Qn]
 cases hc:(!f)with
 | true=>rfl
 | false=>
  simp only [cond_false]
  have hF:=hf2 (by simpa using hc)
  have h:=hF.net
  rw [QAx tokens hF,Qn]
  have hS:=QBL (tokens:=tokens) h hF.bd hF.pl hF.good hF.bud
  generalize Qlw n (QrV n) b tokens=s at hS ⊢
  have hfew:=hS.few
  have hed:=hS.edges
  have first:Qf (QK (fun st=>Qc9 s st) 0) fun q:Unit⊕Unit=>q=.inr ():=by
   refine Qf.up s.States.length (fun st=>st) (fun _=>True) rfl trivial (fun i st hi hn2 _=>?_)
   replace hi:st=(i:Int):=hi
   subst hi
   show Qf (Qc9 s i) _
   unfold Qc9
   refine T1 (fun hc3=>?_) (fun _=>T2 (Ql rfl))
   simp only [QD]at hc3
   have i1:i<s.States.length:=by omega
   have hx:=Qw i1
   rw [Q0,hx,Qn,QDj h hS.good (by omega) hS.apart hx,Qn]
   rw [show((i:Int) != (i:Int))=false by simp]
   exact T2 (QC ⟨i1,Qy i1 (by unfold maxLen;omega),trivial⟩)
  obtain⟨q,hq1,rfl⟩:=first
  rw [hq1,Qn]
  show Qek s n b true=some true
  unfold Qek
  have second:Qf (QK (fun st=>Qda s n st) 0) fun q:Unit⊕Unit=>q=.inr ():=by
   refine Qf.up s.Edges.length (fun st=>st) (fun _=>True) rfl trivial (fun i st hi hn2 _=>?_)
   replace hi:st=(i:Int):=hi
   subst hi
   show Qf (Qda s n i) _
   unfold Qda
   refine T1 (fun hc3=>?_) (fun _=>T2 (Ql rfl))
   simp only [QD]at hc3
   have i1:i<s.Edges.length:=by omega
   have hem:=Qav i1
   obtain⟨a,c,x,y,e1,e2,e3,e4,e5,e6⟩:=hS.edge _ hem
   have ha:=(QV.1 e3).1
   have hcl:=(QV.1 e4).1
   rw [Q0,Qw i1,Qn]
   have g3:Qg9 s.Edges[i] s i=some false:=by
    unfold Qg9
    rw [e1,e2,QcS (by omega),cond_false,QcS (by omega),cond_false,QcS (by omega),cond_false,QcS (by omega),cond_false]
    by_cases c0:0<i
    ·have c1:i-1<s.Edges.length:=by omega
     have:=QvZ.1 hS.asc (i-1) i c1 i1 (by omega)
     rw [QbW (by omega),cond_true,Qca (by omega),show(i:Int)-1=((i-1:Nat):Int) by omega,Q0,Qw c1,Qn,QcS (by omega)]
    rw [QcS (by omega)];rfl
   rw [g3,Qn]
   unfold QeP
   rw [cond_false,e1,Q0,e3,Qn,e5,Qn]
   have g4:Qha (y,0) s s.Edges[i]=some false:=by
    unfold Qha
    simp only [show((0:Int) != 0)=false from rfl,cond_false]
    rw [e2,Q0,e4,Qn,QxN h (hS.good y (Qap e4))];rfl
   rw [g4,Qn]
   exact T2 (QC ⟨i1,Qy i1 (by unfold maxLen;omega),trivial⟩)
  obtain⟨q,hq1,rfl⟩:=second
  rw [hq1,Qn]
  show Qej s n b true=some true
  unfold Qej
  have third:Qf (QK (fun st=>QcT s n b st) 0) fun q:Unit⊕Unit=>q=.inr ():=by
   refine Qf.up s.States.length (fun st=>st) (fun _=>True) rfl trivial (fun i st hi hn2 _=>?_)
   replace hi:st=(i:Int):=hi
   subst hi
   show Qf (QcT s n b i) _
   unfold QcT
   refine T1 (fun hc3=>?_) (fun _=>T2 (Ql rfl))
   simp only [QG,QD]at hc3
   have i1:i<s.States.length:=by omega
   have hx:=Qw i1
   obtain⟨_,f2,f3,_⟩:=hS.full hc3.2 i _ hx
   obtain⟨p1,_,_⟩:=QrU b h hF.bd (hS.good _ (Qav i1))
   rw [Q0,hx,Qn,p1,Qn]
   have g9:Qhc (Qbr n s.States[i] b) s i=some false:=by
    unfold Qhc
    rw [f2]
    simp only [Qkj,cond_false]
    obtain⟨l,hl,hl2⟩:=QDk (s:=s) (i:Int) (by omega)
    rw [hl,Qn]
    have:=congrArg List.length f3
    rw [Qhf]at this
    rw [show(((Qbr n s.States[i] b).1.length:Int) != (l.length:Int))=false by simp;omega]
   rw [g9,Qn]
   exact T2 (QC ⟨i1,Qy i1 (by unfold maxLen;omega),trivial⟩)
  obtain⟨q,hq1,rfl⟩:=third
  rw [hq1,Qn]
  show Qei true s b=some true
  unfold Qei
  rw [QbW hS.len];rfl
end Go.Proofs
