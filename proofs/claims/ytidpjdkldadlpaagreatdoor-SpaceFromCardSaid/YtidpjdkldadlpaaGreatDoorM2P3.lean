/- A part of the proof; what it holds is told at each theorem. -/
import Derived.Test.YtidpjdkldadlpaaGreatDoorM2P2
import Derived.Test.YtidpjdkldadlpaaGreatDoorM2P2
import Derived.Test.YtidpjdkldadlpaaGreatDoorM2T3
import Derived.KernelRfl
import Derived.Test.YtidpjdkldadlpaaGreatDoorM2XPlA
set_option linter.unusedVariables false
set_option linter.unusedSimpArgs false
set_option linter.unusedSectionVars false
set_option linter.deprecated false
noncomputable section
namespace Go.Proofs
open Go Go.RowKit Go.Vm
theorem QC5 {n:Qj}{m:List Bag}(budget:Int)(h:Q0 n)(hb:Bd n)(hg:Qas n m):Qg (QgG n m budget 9223372036854775807) fun r=>r.1.length≤4194304∧∀o∈r.1,o∈Qck n m:=by
 have hml:=hg.len h
 have hal:=QzU m h hb
 unfold QgG
 rw [Qzl n m 9223372036854775807 h hml (by omega) (by omega) (.inr (by omega)),Qn]
 have e0:(Qck n m).take (9223372036854775807:Int).toNat=Qck n m:=Qcy (by omega)
 rw [e0]
 have hok:=fun o=>QpZ (o:=o) h hml
 refine T0 (Qg.up (Qck n m).length (fun st=>st.2.1) (fun st=>(st.2.2.1.length:Int)≤st.2.1∧∀o∈st.2.2.1,o∈Qck n m) (Q:=fun q:Bool×List Ql=>q.2.length≤4194304∧∀o∈q.2,o∈Qck n m) rfl ⟨by simp,fun o h=>(by cases h)⟩ (fun i st hi hn hJ=>?_)) (fun q hq=>T2 hq)
 obtain⟨known,x,l,mm⟩:=st
 replace hi:x=(i:Int):=hi
 subst hi
 obtain⟨j1,j2⟩:(l.length:Int)≤(i:Int)∧∀o∈l,o∈Qck n m:=hJ
 show Qg (Qiq (Qck n m) n m budget known i l mm) _
 unfold Qiq
 refine T1 (fun hc=>?_) (fun hc=>T2 (Qm ⟨by show l.length≤_;omega,j2⟩))
 simp only [QE]at hc
 have i1:i<(Qck n m).length:=by omega
 have hw:w64 ((i:Int)+1)=((i+1:Nat):Int):=Qx i1 (by unfold maxLen;omega:(Qck n m).length≤maxLen)
 have ho:=Qao i1
 rw [Q1,Qw i1,Qn]
 generalize (Qck n m)[i]=o at ho ⊢
 have k1:∀(known':Bool) l' mm',(l'.length:Int)≤(i:Int)+1→(∀o∈l',o∈Qck n m)→Qg (Qev i known' l' mm') fun r=>(∀s',r=.inl s'→i<(Qck n m).length∧s'.2.1=((i+1:Nat):Int)∧(s'.2.2.1.length:Int)≤s'.2.1∧∀o∈s'.2.2.1,o∈Qck n m)∧∀q:Bool×List Ql,r=.inr q→q.2.length≤4194304∧∀o∈q.2,o∈Qck n m:=fun known' l' mm' h1 h2=>by
  unfold Qev
  exact T2 (QC (ix:=fun st:Bool×Int×List Ql×List (Int×Int)=>st.2.1) (J:=fun st:Bool×Int×List Ql×List (Int×Int)=>(st.2.2.1.length:Int)≤st.2.1∧∀o∈st.2.2.1,o∈Qck n m) ⟨i1,hw,by show(l'.length:Int)≤w64 _;rw [hw];omega,h2⟩)
 have k2:∀mm',Qg (Qga o l i known mm') fun r=>(∀s',r=.inl s'→i<(Qck n m).length∧s'.2.1=((i+1:Nat):Int)∧(s'.2.2.1.length:Int)≤s'.2.1∧∀o∈s'.2.2.1,o∈Qck n m)∧∀q:Bool×List Ql,r=.inr q→q.2.length≤4194304∧∀o∈q.2,o∈Qck n m:=fun mm'=>by
  unfold Qga
  refine T1 (fun c1=>?_) fun c1=>T1 (fun c2=>k1 _ _ _ (by omega) j2) fun c2=>k1 _ _ _ (by omega) j2
  refine T0 (T5 (by simp;omega)) fun _ _=>k1 _ _ _ (by simp;omega) fun o' ho'=>?_
  rcases Qcx.1 ho' with ho' | ho'
  ·exact j2 o' ho'
  simp at ho';subst ho';exact ho
 refine T1 (fun c=>?_) fun c=>k2 _
 rw [QC1 o budget h hb hg (hok o ho),Qn]
 exact k2 _
def Qbb (n:Qj)(m:List Bag)(budget:Int):List Ql×Bool:=(QgG n m budget 9223372036854775807).getD ([],false)
theorem QuK {n:Qj}{m:List Bag}(budget:Int)(h:Q0 n)(hb:Bd n)(hg:Qas n m):QgG n m budget 9223372036854775807=some (Qbb n m budget)∧(Qbb n m budget).1.length≤4194304∧∀o∈(Qbb n m budget).1,o∈Qck n m:=by
 obtain⟨r,h1,h2⟩:=QC5 budget h hb hg
 unfold Qbb
 rw [h1];exact⟨rfl,h2⟩
def Qh4 (L:List (List Bag))(s:ByteArray):Option Nat:=L.findIdx? fun y=>decide (Qag y=s)
def FI (mm:List (ByteArray×Int))(L:List (List Bag)):Prop:=∀s,QG mm s=(Qh4 L s).map fun i=>(i:Int)
theorem QC6 (L:List (List Bag))(y:List Bag)(s:ByteArray):Qh4 (L++[y]) s=match Qh4 L s with
  | some i=>some i
  | none=>if Qag y=s then some L.length else none:=by
 unfold Qh4
 rw [List.findIdx?_append]
 cases L.findIdx? fun y=>decide (Qag y=s)with
 | some i=>rfl
 | none=>
  by_cases c:Qag y=s
  ·simp [c,List.findIdx?_cons]
  simp [c,List.findIdx?_cons]
theorem QB4 {L:List (List Bag)}{s:ByteArray}{i:Nat}(h:Qh4 L s=some i):∃y,L[i]? = some y∧Qag y=s:=by
 unfold Qh4 at h
 obtain⟨h1,h2,_⟩:=List.findIdx?_eq_some_iff_getElem.1 h
 exact⟨L[i],Qw h1,Q8 h2⟩
theorem Qx5 {L:List (List Bag)}{s:ByteArray}(h:Qh4 L s=none):∀y∈L,Qag y≠s:=fun y hy e=>by
 unfold Qh4 at h
 have:=List.findIdx?_eq_none_iff.1 h y hy
 exact absurd (Qb5 e) (by rw [this];decide)
theorem FI.add {mm:List (ByteArray×Int)}{L:List (List Bag)}(h:FI mm L){y:List Bag}(hn:Qh4 L (Qag y)=none):FI (Qan ltS mm (Qag y) (L.length:Int)) (L++[y]):=fun s=>by
 rw [Qke,QC6]
 by_cases c:s=Qag y
 ·subst c
  rw [if_pos rfl,hn];simp
 rw [if_neg c,h s]
 cases Qh4 L s with
 | some i=>rfl
 | none=>simp only;rw [if_neg fun e=>c e.symm]
def Q2 (b:Int):Nat:=(min2 b 4096).toNat
theorem QDJ {n:Qj}{m:List Bag}(h:Q0 n)(hg:Qas n m):QnG m=some (Qag m):=Qw4 h hg
theorem Qw6 {n:Qj}{mm:List (ByteArray×Int)}{L:List (List Bag)}(b:Int)(E:List Qad)(full:Bool){y:List Bag}(h:Q0 n)(hg:Qas n y)(hI:FI mm L)(hb:0<b):
  ∃k L' mm',Qc4 n.Colours n.Places n.Tasks n.From n.To b mm L E full y=some (k,L',n.Colours,n.Places,n.Tasks,n.From,n.To,b,full,mm')∧FI mm' L'∧
   ((∃i:Nat,Qh4 L (Qag y)=some i∧k=(i:Int)∧L'=L)∨(Qh4 L (Qag y)=none∧Q2 b≤L.length∧k=-1∧L'=L)∨(Qh4 L (Qag y)=none∧¬Q2 b≤L.length∧k=(L.length:Int)∧L'=L++[y])):=by
 have hmost:(Q2 b:Int)=min2 b 4096:=by unfold Q2 min2;split<;>omega
 have hm2:Q2 b≤4096:=by unfold Q2 min2;split<;>omega
 unfold Qc4
 rw [QDJ h hg,Qn,hI (Qag y)]
 cases hp:Qh4 L (Qag y)with
 | some i=>exact⟨i,L,mm,rfl,hI,.inl ⟨i,rfl,rfl,rfl⟩⟩
 | none=>
  simp only [Qk9,Option.isSome_none,cond_false]
  cases hc:decide (min2 b 4096≤(L.length:Int))with
  | true=>exact⟨-1,L,mm,rfl,hI,.inr (.inl ⟨by trivial,by have:=Q8 hc;omega,rfl,rfl⟩)⟩
  | false=>
   have hc':=of_decide_eq_false hc
   simp only [cond_false,Qn]
   rw [QqY (by simp;omega),Qn]
   exact⟨L.length,L++[y],_,rfl,hI.add hp,.inr (.inr ⟨by trivial,by omega,rfl,rfl⟩)⟩
abbrev SSt := List (List Bag)×List Qad×Bool
def Qcl (most:Nat)(n:Qj)(x:List Bag)(a:Int)(st:SSt)(o:Ql):SSt:=match QaE n x o with
 | some (y,c)=>if c=0 then(match Qh4 st.1 (Qag y)with
   | some k=>(st.1,st.2.1++[Qad.mk a (k:Int) o],st.2.2)
   | none=>if most≤st.1.length then(st.1,st.2.1,false)else(st.1++[y],st.2.1++[Qad.mk a (st.1.length:Int) o],st.2.2))
  else(st.1,st.2.1,false)
 | none=>st
theorem QAS {n:Qj}{mm:List (ByteArray×Int)}{L:List (List Bag)}{E:List Qad}{full:Bool}{x:List Bag}{a:Nat}(b:Int)(h:Q0 n)(hbd:Bd n)(hg:Qas n x)(hI:FI mm L)(hb:0<b)(hx:L[a]? = some x)(hE:E.length≤134217728):
  ∃mm',let T:=(Qbb n x b).1.foldl (Qcl (Q2 b) n x a) (L,E,full&&(Qbb n x b).2)
   QeG n.Colours n.Places n.Tasks n.From n.To b mm L E full a=some (T.1,T.2.1,n.Colours,n.Places,n.Tasks,n.From,n.To,b,T.2.2,mm')∧FI mm' T.1:=by
 obtain⟨hf,hfl,hfm⟩:=QuK b h hbd hg
 unfold QeG
 rw [Q1,hx,Qn,show Qj.mk n.Colours n.Places n.Tasks n.From n.To=n from rfl,hf,Qn]
 have g1:QfC full (Qbb n x b)=some (full&&(Qbb n x b).2):=by
  unfold QfC;cases full<;>rfl
 rw [g1,Qn]
 have hok:∀o∈(Qbb n x b).1,QcL n o:=fun o ho=>QpZ h (hg.len h) (hfm o ho)
 unfold Qdx
 generalize hX:(Qbb n x b).1=X at hfl hok ⊢
 generalize (full&&(Qbb n x b).2)=full0
 have main:Qg (QK (fun st=>Qcs (Qbb n x b) x a st.1 st.2.1 st.2.2.1 st.2.2.2.1 st.2.2.2.2.1 st.2.2.2.2.2.1 st.2.2.2.2.2.2.1 st.2.2.2.2.2.2.2.1 st.2.2.2.2.2.2.2.2.1 st.2.2.2.2.2.2.2.2.2.1 st.2.2.2.2.2.2.2.2.2.2) ((0:Int),n.Colours,n.Places,n.Tasks,n.From,n.To,b,full0,mm,E,L))
   fun q=>∃mm',q=(n.Colours,n.Places,n.Tasks,n.From,n.To,b,(X.foldl (Qcl (Q2 b) n x a) (L,E,full0)).2.2,mm',(X.foldl (Qcl (Q2 b) n x a) (L,E,full0)).2.1,(X.foldl (Qcl (Q2 b) n x a) (L,E,full0)).1)∧FI mm' (X.foldl (Qcl (Q2 b) n x a) (L,E,full0)).1:=by
  refine Qg.up X.length (fun st=>st.1) (fun st=>st.2.1=n.Colours∧st.2.2.1=n.Places∧st.2.2.2.1=n.Tasks∧st.2.2.2.2.1=n.From∧st.2.2.2.2.2.1=n.To∧st.2.2.2.2.2.2.1=b∧FI st.2.2.2.2.2.2.2.2.1 st.2.2.2.2.2.2.2.2.2.2∧(st.2.2.2.2.2.2.2.2.2.1.length:Int)≤E.length+st.1∧(X.drop st.1.toNat).foldl (Qcl (Q2 b) n x a) (st.2.2.2.2.2.2.2.2.2.2,st.2.2.2.2.2.2.2.2.2.1,st.2.2.2.2.2.2.2.1)=X.foldl (Qcl (Q2 b) n x a) (L,E,full0)) rfl ⟨rfl,rfl,rfl,rfl,rfl,rfl,hI,by simp,rfl⟩ (fun i st hi hn hJ=>?_)
  obtain⟨i',c,p,t,fr,tz,b',fu,mm,E',L'⟩:=st
  replace hi:i'=(i:Int):=hi
  subst hi
  obtain⟨e1,e2,e3,e4,e5,e6,j1,j2,j3⟩:c=n.Colours∧p=n.Places∧t=n.Tasks∧fr=n.From∧tz=n.To∧b'=b∧FI mm L'∧(E'.length:Int)≤E.length+(i:Int)∧(X.drop (i:Int).toNat).foldl (Qcl (Q2 b) n x a) (L',E',fu)=X.foldl (Qcl (Q2 b) n x a) (L,E,full0):=hJ
  subst e1;subst e2;subst e3;subst e4;subst e5;subst e6
  rw [QaB]at j3
  show Qg (Qcs (Qbb n x b') x a i n.Colours n.Places n.Tasks n.From n.To b' fu mm E' L') _
  unfold Qcs
  rw [hX]
  refine T1 (fun hc=>?_) (fun hc=>T2 (Qm ?_))
  ·simp only [QE]at hc
   have i1:i<X.length:=by omega
   have hw:w64 ((i:Int)+1)=((i+1:Nat):Int):=Qx i1 (by unfold maxLen;omega:X.length≤maxLen)
   rw [Q1,Qw i1,Qn,show Qj.mk n.Colours n.Places n.Tasks n.From n.To=n from rfl]
   rw [QoF i1,List.foldl_cons]at j3
   have ho:=hok _ (Qao i1)
   generalize X[i]=o at ho j3 ⊢
   obtain⟨⟨y,cc⟩,hD,_⟩:=QAC n x o 1024 h hg.1 (by omega) ho
   rw [hD,Qn]
   have next:∀(fu':Bool) mm' E'' L'',FI mm' L''→(E''.length:Int)≤E.length+((i:Int)+1)→Qcl (Q2 b') n x a (L',E',fu) o=(L'',E'',fu')→
     Qg (Qcq i n.Colours n.Places n.Tasks n.From n.To b' fu' mm' E'' L'') fun r=>(∀s',r=.inl s'→i<X.length∧s'.1=((i+1:Nat):Int)∧(s'.2.1=n.Colours∧s'.2.2.1=n.Places∧s'.2.2.2.1=n.Tasks∧s'.2.2.2.2.1=n.From∧s'.2.2.2.2.2.1=n.To∧s'.2.2.2.2.2.2.1=b'∧FI s'.2.2.2.2.2.2.2.2.1 s'.2.2.2.2.2.2.2.2.2.2∧(s'.2.2.2.2.2.2.2.2.2.1.length:Int)≤E.length+s'.1∧(X.drop s'.1.toNat).foldl (Qcl (Q2 b') n x a) (s'.2.2.2.2.2.2.2.2.2.2,s'.2.2.2.2.2.2.2.2.2.1,s'.2.2.2.2.2.2.2.1)=X.foldl (Qcl (Q2 b') n x a) (L,E,full0)))∧
      ∀q,r=.inr q→∃mm',q=(n.Colours,n.Places,n.Tasks,n.From,n.To,b',(X.foldl (Qcl (Q2 b') n x a) (L,E,full0)).2.2,mm',(X.foldl (Qcl (Q2 b') n x a) (L,E,full0)).2.1,(X.foldl (Qcl (Q2 b') n x a) (L,E,full0)).1)∧FI mm' (X.foldl (Qcl (Q2 b') n x a) (L,E,full0)).1:=fun fu' mm' E'' L'' f1 f2 f3=>by
    unfold Qcq
    refine T2 ⟨fun s' e=>?_,fun q e=>by cases e⟩
    cases e
    refine⟨i1,hw,rfl,rfl,rfl,rfl,rfl,rfl,f1,by show(E''.length:Int)≤_+w64 _;rw [hw];omega,?_⟩
    show(X.drop (w64 ((i:Int)+1)).toNat).foldl (Qcl (Q2 b') n x a) (L'',E'',fu')=_
    rw [hw,QaB,←j3,f3]
   by_cases c0:cc=0
   ·subst c0
    have hgy:=Qr1 h hg ho hD
    simp only [show((0:Int)==0)=true from rfl,cond_true]
    obtain⟨k,L'',mm'',hs,f1,f2⟩:=Qw6 b' E' fu h hgy j1 hb
    rw [hs,Qn]
    simp only
    unfold Qcr
    rcases f2 with⟨p,p1,rfl,rfl⟩|⟨p1,p2,rfl,rfl⟩|⟨p1,p2,rfl,rfl⟩
    ·rw [QeK (by omega),cond_false]
     refine T0 (T5 (by simp;omega)) fun _ _=>next _ _ _ _ f1 (by simp;omega) ?_
     unfold Qcl;rw [hD];simp only;rw [if_pos trivial,p1]
    ·rw [show decide ((-1:Int)<0)=true from rfl,cond_true]
     refine next _ _ _ _ f1 (by omega) ?_
     unfold Qcl;rw [hD];simp only;rw [if_pos trivial,p1];simp only;rw [if_pos p2]
    rw [QeK (by omega),cond_false]
    refine T0 (T5 (by simp;omega)) fun _ _=>next _ _ _ _ f1 (by simp;omega) ?_
    unfold Qcl;rw [hD];simp only;rw [if_pos trivial,p1];simp only;rw [if_neg p2]
   rw [show(cc==0)=false by simpa using c0,cond_false]
   unfold Qcr
   rw [show decide ((-1:Int)<0)=true from rfl,cond_true]
   refine next _ _ _ _ j1 (by omega) ?_
   unfold Qcl;rw [hD];simp only;rw [if_neg c0]
  simp only [QW]at hc
  rw [Qwe (by omega),List.foldl_nil]at j3
  rw [←j3]
  exact⟨mm,rfl,j1⟩
 obtain⟨q,hq1,mm',rfl,hq2⟩:=main
 refine⟨mm',?_,hq2⟩
 rw [hq1];rfl
def Qp1 (x:List Bag):Int:=w64 (tS x x.length)
def QeJ (n:Qj)(b tokens:Int):Nat→SSt→Nat→SSt
 | 0,st,_=>st
 | f+1,st,a=>match st.1[a]? with
  | none=>st
  | some x=>if tokens<Qp1 x then QeJ n b tokens f (st.1,st.2.1,false) (a+1)
   else QeJ n b tokens f ((Qbb n x b).1.foldl (Qcl (Q2 b) n x a) (st.1,st.2.1,st.2.2&&(Qbb n x b).2)) (a+1)
theorem QC7 {n:Qj}{x:List Bag}{a:Int}{most:Nat}{st:SSt}{o:Ql}(h:Q0 n)(hg:Qas n x)(ho:QcL n o)(hs:∀y∈st.1,Qas n y):∀y∈(Qcl most n x a st o).1,Qas n y:=by
 unfold Qcl
 cases hD:QaE n x o with
 | none=>exact hs
 | some r=>
  obtain⟨y,c⟩:=r
  simp only
  by_cases c0:c=0
  ·subst c0
   rw [if_pos rfl]
   cases Qh4 st.1 (Qag y)with
   | some k=>exact hs
   | none=>
    simp only
    split
    ·exact hs
    intro z hz
    rcases Qcx.1 hz with hz | hz
    ·exact hs z hz
    simp at hz;subst hz;exact Qr1 h hg ho hD
  rw [if_neg c0];exact hs
theorem QDK {n:Qj}{x:List Bag}{a:Int}{most:Nat}{st:SSt}{o:Ql}(hs:st.1.length≤most):(Qcl most n x a st o).1.length≤most∧(Qcl most n x a st o).2.1.length≤st.2.1.length+1:=by
 unfold Qcl
 cases hD:QaE n x o with
 | none=>exact⟨hs,by simp⟩
 | some r=>
  obtain⟨y,c⟩:=r
  simp only
  by_cases c0:c=0
  ·rw [if_pos c0]
   cases Qh4 st.1 (Qag y)with
   | some k=>exact⟨hs,by simp⟩
   | none=>
    simp only
    split
    ·exact⟨hs,by simp⟩
    exact⟨by simp;omega,by simp⟩
  rw [if_neg c0];exact⟨hs,by simp⟩
theorem Qx6 {n:Qj}{x:List Bag}{a:Int}{most:Nat}(h:Q0 n)(hg:Qas n x):∀{X:List Ql} {st:SSt},(∀o∈X,QcL n o)→(∀y∈st.1,Qas n y)→st.1.length≤most→(∀y∈(X.foldl (Qcl most n x a) st).1,Qas n y)∧(X.foldl (Qcl most n x a) st).1.length≤most∧(X.foldl (Qcl most n x a) st).2.1.length≤st.2.1.length+X.length:=by
 intro X
 induction X with
 | nil=>intro st _ hs hl;exact⟨hs,hl,by simp⟩
 | cons o X ih=>
  intro st ho hs hl
  have h1:=QDK (n:=n) (x:=x) (a:=a) (o:=o) hl
  obtain⟨k1,k2,k3⟩:=ih (st:=Qcl most n x a st o) (fun o' ho'=>ho o' (QaC _ ho')) (QC7 h hg (ho o QaD) hs) h1.1
  rw [List.foldl_cons]
  exact⟨k1,k2,by simp;omega⟩
theorem QB5 {n:Qj}{m:List Bag}(b tokens:Int)(h:Q0 n)(hbd:Bd n)(hg:Qas n m)(hb:b≤16):
  Qgb n m b tokens=some (if b≤0 then Q5.mk [] [] false else let r:=QeJ n b tokens (Q2 b+1) ([m],[],true) 0;Q5.mk r.1 r.2.1 r.2.2):=by
 have hpl:=h.pl
 have hm1:=hg.1.1
 unfold Qgb
 by_cases c0:b≤0
 ·rw [Qb5 c0,if_pos c0];rfl
 rw [QeK c0,if_neg c0,cond_false,QmY m (by omega) (fun b hb=>by have:=(hg.1.2 b hb).2;omega),Qn]
 have hmost:(Q2 b:Int)=b:=by unfold Q2 min2;split<;>omega
 obtain⟨k,L',mm',hs,f1,f2⟩:=Qw6 (mm:=[]) (L:=[]) b [] true h hg (fun s=>rfl) (by omega)
 rw [hs,Qn]
 have hL:L'=[m]:=by
  rcases f2 with⟨i,p1,_,_⟩|⟨_,p2,_,_⟩|⟨_,_,_,e⟩
  ·simp [Qh4]at p1
  ·simp at p2;omega
  simpa using e
 subst hL
 simp only
 generalize hR:QeJ n b tokens (Q2 b+1) ([m],[],true) 0=R
 have main:Qg (QK (fun st=>QgP tokens st.1 st.2.1 st.2.2.1 st.2.2.2.1 st.2.2.2.2.1 st.2.2.2.2.2.1 st.2.2.2.2.2.2.1 st.2.2.2.2.2.2.2.1 st.2.2.2.2.2.2.2.2.1 st.2.2.2.2.2.2.2.2.2.1 st.2.2.2.2.2.2.2.2.2.2) ((0:Int),n.Colours,n.Places,n.Tasks,n.From,n.To,b,true,mm',[m],([]:List Qad)))
   fun q=>∃mm,q=(n.Colours,n.Places,n.Tasks,n.From,n.To,b,R.2.2,mm,R.1,R.2.1):=by
  refine Qg.up (Q2 b) (fun st=>st.1) (fun st=>st.2.1=n.Colours∧st.2.2.1=n.Places∧st.2.2.2.1=n.Tasks∧st.2.2.2.2.1=n.From∧st.2.2.2.2.2.1=n.To∧st.2.2.2.2.2.2.1=b∧FI st.2.2.2.2.2.2.2.2.1 st.2.2.2.2.2.2.2.2.2.1∧(∀y∈st.2.2.2.2.2.2.2.2.2.1,Qas n y)∧st.2.2.2.2.2.2.2.2.2.1.length≤Q2 b∧(st.2.2.2.2.2.2.2.2.2.2.length:Int)≤st.1*4194304∧QeJ n b tokens (Q2 b+1-st.1.toNat) (st.2.2.2.2.2.2.2.2.2.1,st.2.2.2.2.2.2.2.2.2.2,st.2.2.2.2.2.2.2.1) st.1.toNat=R) rfl ⟨rfl,rfl,rfl,rfl,rfl,rfl,f1,fun y hy=>by simp at hy;subst hy;exact hg,by show 1≤_;omega,by simp,hR⟩ (fun i st hi hn hJ=>?_)
  obtain⟨i',c,p,t,fr,tz,b',fu,mm,L,E⟩:=st
  replace hi:i'=(i:Int):=hi
  subst hi
  obtain⟨e1,e2,e3,e4,e5,e6,j1,j2,j3,j4,j5⟩:c=n.Colours∧p=n.Places∧t=n.Tasks∧fr=n.From∧tz=n.To∧b'=b∧FI mm L∧(∀y∈L,Qas n y)∧L.length≤Q2 b∧(E.length:Int)≤(i:Int)*4194304∧QeJ n b tokens (Q2 b+1-(i:Int).toNat) (L,E,fu) (i:Int).toNat=R:=hJ
  subst e1;subst e2;subst e3;subst e4;subst e5;subst e6
  rw [QaB,show Q2 b'+1-i=(Q2 b'-i)+1 by omega,QeJ]at j5
  show Qg (QgP tokens i n.Colours n.Places n.Tasks n.From n.To b' fu mm L E) _
  unfold QgP
  refine T1 (fun hc=>?_) (fun hc=>T2 (Qm ?_))
  ·simp only [QE]at hc
   have i1:i<L.length:=by omega
   have hx:=Qw i1
   have hgx:=j2 _ (Qao i1)
   rw [Q1,hx,Qn]
   simp only [hx]at j5
   generalize L[i]=x at hx hgx j5 ⊢
   rw [Qtb h hgx.1 (by omega),Qn]
   have hw:w64 ((i:Int)+1)=((i+1:Nat):Int):=Qx (by omega:i<Q2 b') (by unfold maxLen;omega)
   have next:∀(fu':Bool) mm' L' E',FI mm' L'→(∀y∈L',Qas n y)→L'.length≤Q2 b'→(E'.length:Int)≤((i:Int)+1)*4194304→QeJ n b' tokens (Q2 b'-i) (L',E',fu') (i+1)=R→
     Qg (QgO i n.Colours n.Places n.Tasks n.From n.To b' fu' mm' L' E') fun r=>(∀s',r=.inl s'→i<Q2 b'∧s'.1=((i+1:Nat):Int)∧(s'.2.1=n.Colours∧s'.2.2.1=n.Places∧s'.2.2.2.1=n.Tasks∧s'.2.2.2.2.1=n.From∧s'.2.2.2.2.2.1=n.To∧s'.2.2.2.2.2.2.1=b'∧FI s'.2.2.2.2.2.2.2.2.1 s'.2.2.2.2.2.2.2.2.2.1∧(∀y∈s'.2.2.2.2.2.2.2.2.2.1,Qas n y)∧s'.2.2.2.2.2.2.2.2.2.1.length≤Q2 b'∧(s'.2.2.2.2.2.2.2.2.2.2.length:Int)≤s'.1*4194304∧QeJ n b' tokens (Q2 b'+1-s'.1.toNat) (s'.2.2.2.2.2.2.2.2.2.1,s'.2.2.2.2.2.2.2.2.2.2,s'.2.2.2.2.2.2.2.1) s'.1.toNat=R))∧
      ∀q,r=.inr q→∃mm,q=(n.Colours,n.Places,n.Tasks,n.From,n.To,b',R.2.2,mm,R.1,R.2.1):=fun fu' mm' L' E' g1 g2 g3 g4 g5=>by
    unfold QgO
    refine T2 ⟨fun s' e=>?_,fun q e=>by cases e⟩
    cases e
    refine⟨by omega,hw,rfl,rfl,rfl,rfl,rfl,rfl,g1,g2,g3,by show(E'.length:Int)≤w64 _*_;rw [hw];omega,?_⟩
    show QeJ n b' tokens (Q2 b'+1-(w64 ((i:Int)+1)).toNat) (L',E',fu') (w64 ((i:Int)+1)).toNat=R
    rw [hw,QaB,show Q2 b'+1-(i+1)=Q2 b'-i by omega]
    exact g5
   refine T1 (fun hc2=>?_) fun hc2=>?_
   ·rw [if_pos (show tokens<Qp1 x by simpa [Qp1] using hc2)]at j5
    exact next _ _ _ _ j1 j2 j3 (by omega) j5
   rw [if_neg (show ¬tokens<Qp1 x by simpa [Qp1] using hc2)]at j5
   obtain⟨mm',hl,f3⟩:=QAS (full:=fu) (E:=E) b' h hbd hgx j1 (by omega) hx (by omega)
   rw [hl,Qn]
   obtain⟨q1,q2,q3⟩:=QuK b' h hbd hgx
   obtain⟨g1,g2,g3⟩:=Qx6 (a:=(i:Int)) (most:=Q2 b') h hgx (X:=(Qbb n x b').1) (st:=(L,E,fu&&(Qbb n x b').2)) (fun o ho=>QpZ h (hgx.len h) (q3 o ho)) j2 j3
   exact next _ _ _ _ f3 g1 g2 (by simp only at g3 ⊢;omega) j5
  simp only [QW]at hc
  rw [Qr7 (show L.length≤i by omega)]at j5
  rw [←j5]
  exact⟨mm,rfl⟩
 obtain⟨q,hq1,mm,rfl⟩:=main
 rw [hq1];rfl
end Go.Proofs
noncomputable section
namespace Go.Proofs
open Go Go.RowKit Go.Vm
structure QEt (n:Qj) (m:List Bag) (b tokens:Int) (a:Nat) (st:SSt):Prop where
 good:∀y∈st.1,Qas n y
 apart:Qgr Qag st.1
 len:st.1.length≤Q2 b
 head:∃r,st.1=m::r
 edge:∀e∈st.2.1,∃(i j:Nat) (x y:List Bag),e.From=(i:Int)∧e.To=(j:Int)∧i<a∧st.1[i]? = some x∧st.1[j]? = some y∧QaE n x e.Mode=some (y,0)∧QcL n e.Mode
 asc:st.2.1.Pairwise fun e f=>e.From≤f.From
 full:st.2.2=true→∀(i:Nat) (x:List Bag),i<a→st.1[i]? = some x→Qp1 x≤tokens∧(Qbb n x b).2=true∧(st.2.1.filter fun e=>e.From==(i:Int)).map (·.Mode)=(Qbb n x b).1∧∀o∈(Qbb n x b).1,∃y∈st.1,QaE n x o=some (y,0)
 tree:∀k:Nat,0<k→k<st.1.length→∃e∈st.2.1,∃i:Nat,e.From=(i:Int)∧i<k∧e.To=(k:Int)
structure QxK (n:Qj) (m:List Bag) (b tokens:Int) (a:Nat) (x:List Bag) (fl:Bool) (done:List Ql) (st:SSt):Prop where
 good:∀y∈st.1,Qas n y
 apart:Qgr Qag st.1
 len:st.1.length≤Q2 b
 head:∃r,st.1=m::r
 here:st.1[a]? = some x
 edge:∀e∈st.2.1,∃(i j:Nat) (x y:List Bag),e.From=(i:Int)∧e.To=(j:Int)∧i<a+1∧st.1[i]? = some x∧st.1[j]? = some y∧QaE n x e.Mode=some (y,0)∧QcL n e.Mode
 asc:st.2.1.Pairwise fun e f=>e.From≤f.From
 full:st.2.2=true→fl=true∧∀(i:Nat) (x:List Bag),i<a→st.1[i]? = some x→Qp1 x≤tokens∧(Qbb n x b).2=true∧(st.2.1.filter fun e=>e.From==(i:Int)).map (·.Mode)=(Qbb n x b).1∧∀o∈(Qbb n x b).1,∃y∈st.1,QaE n x o=some (y,0)
 now:st.2.2=true→(st.2.1.filter fun e=>e.From==(a:Int)).map (·.Mode)=done∧∀o∈done,∃y∈st.1,QaE n x o=some (y,0)
 tree:∀k:Nat,0<k→k<st.1.length→∃e∈st.2.1,∃i:Nat,e.From=(i:Int)∧i<k∧e.To=(k:Int)
section
variable {n:Qj}{m:List Bag}{b tokens:Int}{a:Nat}
theorem Qw7 {E:List Qad}{e:Qad}{i:Nat}(he:e.From=(a:Int))(hi:i<a):(E++[e]).filter (fun e=>e.From==(i:Int))=E.filter fun e=>e.From==(i:Int):=by
 rw [Qr5,Qkn,if_neg (by rw [he];simp;omega),List.filter_nil,Qqd]
theorem Qx7 {E:List Qad}{e:Qad}(he:e.From=(a:Int)):(E++[e]).filter (fun e=>e.From==(a:Int))=(E.filter fun e=>e.From==(a:Int))++[e]:=by
 rw [Qr5,Qkn,if_pos (by rw [he];simp),List.filter_nil]
theorem QDL (h:Q0 n)(hp:n.Places.length≤64){x:List Bag}{fl:Bool}{done:List Ql}{st:SSt}{o:Ql}(I:QxK n m b tokens a x fl done st)(ho:QcL n o):QxK n m b tokens a x fl (done++[o]) (Qcl (Q2 b) n x a st o):=by
 have hgx:=I.good x (Qap I.here)
 have hal:=(QV.1 I.here).1
 unfold Qcl
 obtain⟨⟨y,c⟩,hD,_⟩:=QAC n x o 1024 h hgx.1 (by omega) ho
 rw [hD]
 simp only
 have down:QxK n m b tokens a x fl (done++[o]) (st.1,st.2.1,false):=⟨I.good,I.apart,I.len,I.head,I.here,I.edge,I.asc,fun e=>(by cases e),fun e=>(by cases e),I.tree⟩
 by_cases c0:c=0
 ·subst c0
  rw [if_pos rfl]
  have hgy:=Qr1 h hgx ho hD
  have ascs:∀k:Int,(st.2.1++[Qad.mk (a:Int) k o]).Pairwise fun e f=>e.From≤f.From:=fun k=>by
   rw [List.pairwise_append]
   refine⟨I.asc,Qqi _ _,fun e he f hf=>?_⟩
   simp at hf;subst hf
   obtain⟨i,_,_,_,h1,_,h2,_⟩:=I.edge e he
   show e.From≤(a:Int)
   omega
  cases hk:Qh4 st.1 (Qag y)with
  | some k=>
   simp only
   obtain⟨z,hz,hzk⟩:=QB4 hk
   have hzy:z=y:=QDI h hp (I.good z (Qap hz)) hgy hzk
   subst hzy
   refine⟨I.good,I.apart,I.len,I.head,I.here,fun e he=>?_,ascs _,fun hf=>?_,fun hf=>?_,fun k' h1 h2=>?_⟩
   ·rcases Qcx.1 he with he | he
    ·exact I.edge e he
    simp at he;subst he
    exact⟨a,k,x,z,rfl,rfl,by omega,I.here,hz,hD,ho⟩
   ·obtain⟨f1,f2⟩:=I.full hf
    refine⟨f1,fun i u hi hu=>?_⟩
    rw [Qw7 rfl hi]
    exact f2 i u hi hu
   ·obtain⟨f1,f2⟩:=I.now hf
    show(List.filter _ (st.2.1++[_])).map _=_∧_
    rw [Qx7 rfl,List.map_append,f1]
    refine⟨rfl,fun o' ho'=>?_⟩
    rcases Qcx.1 ho' with ho' | ho'
    ·exact f2 o' ho'
    simp at ho';subst ho';exact⟨z,Qap hz,hD⟩
   obtain⟨e,he,r⟩:=I.tree k' h1 h2
   exact⟨e,Qqg _ he,r⟩
  | none=>
   simp only
   by_cases cl:Q2 b≤st.1.length
   ·rw [if_pos cl];exact down
   rw [if_neg cl]
   have hnone:=Qx5 hk
   have hap:Qgr Qag (st.1++[y]):=I.apart.add (by
    unfold QvX
    exact List.any_eq_false.2 fun u hu=>by simpa using hnone u hu)
   have up:∀{i:Nat} {u:List Bag},st.1[i]? = some u→(st.1++[y])[i]? = some u:=fun {i u} hu=>by
    rw [Qbw ((QV.1 hu).1)];exact hu
   have hnew:(st.1++[y])[st.1.length]? = some y:=by rw [QcM (QbX _),Nat.sub_self];rfl
   refine⟨fun z hz=>?_,hap,by simp;omega,?_,up I.here,fun e he=>?_,ascs _,fun hf=>?_,fun hf=>?_,fun k' h1 h2=>?_⟩
   ·rcases Qcx.1 hz with hz | hz
    ·exact I.good z hz
    simp at hz;subst hz;exact hgy
   ·obtain⟨r,hr⟩:=I.head
    exact⟨r++[y],by show st.1++[y]=_;rw [hr];rfl⟩
   ·rcases Qcx.1 he with he | he
    ·obtain⟨i,j,u,v,h1,h2,h3,h4,h5,h6⟩:=I.edge e he
     exact⟨i,j,u,v,h1,h2,h3,up h4,up h5,h6⟩
    simp at he;subst he
    exact⟨a,st.1.length,x,y,rfl,rfl,by omega,up I.here,hnew,hD,ho⟩
   ·obtain⟨f1,f2⟩:=I.full hf
    refine⟨f1,fun i u hi hu=>?_⟩
    have hu':st.1[i]? = some u:=by
     have hu:(st.1++[y])[i]? = some u:=hu
     rw [Qbw (by omega)]at hu;exact hu
    obtain⟨g1,g2,g3,g4⟩:=f2 i u hi hu'
    rw [Qw7 rfl hi]
    refine⟨g1,g2,g3,fun o' ho'=>?_⟩
    obtain⟨z,hz,hz2⟩:=g4 o' ho'
    exact⟨z,Qqg _ hz,hz2⟩
   ·obtain⟨f1,f2⟩:=I.now hf
    show(List.filter _ (st.2.1++[_])).map _=_∧_
    rw [Qx7 rfl,List.map_append,f1]
    refine⟨rfl,fun o' ho'=>?_⟩
    rcases Qcx.1 ho' with ho' | ho'
    ·obtain⟨z,hz,hz2⟩:=f2 o' ho'
     exact⟨z,Qqg _ hz,hz2⟩
    simp at ho';subst ho';exact⟨y,by simp,hD⟩
   by_cases ck:k'=st.1.length
   ·subst ck
    exact⟨Qad.mk (a:Int) (st.1.length:Int) o,by simp,a,rfl,hal,rfl⟩
   have h2:k'<(st.1++[y]).length:=h2
   obtain⟨e,he,r⟩:=I.tree k' h1 (by simp at h2;omega)
   exact⟨e,Qqg _ he,r⟩
 rw [if_neg c0];exact down
theorem QC8 (h:Q0 n)(hp:n.Places.length≤64){x:List Bag}{fl:Bool}:∀{X done:List Ql} {st:SSt},QxK n m b tokens a x fl done st→(∀o∈X,QcL n o)→QxK n m b tokens a x fl (done++X) (X.foldl (Qcl (Q2 b) n x a) st):=by
 intro X
 induction X with
 | nil=>intro done st I _;simpa using I
 | cons o X ih=>
  intro done st I ho
  have:=ih (QDL h hp I (ho o QaD)) fun o' ho'=>ho o' (QaC _ ho')
  rw [Qdp]at this
  exact this
theorem QC9 (h:Q0 n)(hbd:Bd n)(hp:n.Places.length≤64):∀(f:Nat) {st:SSt} {a:Nat},Q2 b<f+a→QEt n m b tokens a st→∃a',QEt n m b tokens a' (QeJ n b tokens f st a)∧(QeJ n b tokens f st a).1.length≤a':=by
 intro f
 induction f with
 | zero=>intro st a hf I;exact⟨a,I,by have:=I.len;show st.1.length≤a;omega⟩
 | succ f ih=>
  intro st a hf I
  rw [QeJ]
  cases hx:st.1[a]? with
  | none=>exact⟨a,I,List.getElem?_eq_none_iff.1 hx⟩
  | some x=>
   simp only
   have hgx:=I.good x (Qap hx)
   by_cases ct:tokens<Qp1 x
   ·rw [if_pos ct]
    exact ih (by omega) ⟨I.good,I.apart,I.len,I.head,fun e he=>by
     obtain⟨i,j,u,v,h1,h2,h3,h4⟩:=I.edge e he
     exact⟨i,j,u,v,h1,h2,by omega,h4⟩,I.asc,fun e=>(by cases e),I.tree⟩
   rw [if_neg ct]
   obtain⟨q1,q2,q3⟩:=QuK b h hbd hgx
   have M0:QxK n m b tokens a x (st.2.2&&(Qbb n x b).2) [] (st.1,st.2.1,st.2.2&&(Qbb n x b).2):=⟨I.good,I.apart,I.len,I.head,hx,fun e he=>by
    obtain⟨i,j,u,v,h1,h2,h3,h4⟩:=I.edge e he
    exact⟨i,j,u,v,h1,h2,by omega,h4⟩,I.asc,fun e=>⟨e,I.full (QI _ _▸e).1⟩,fun e=>⟨by
    rw [List.filter_eq_nil_iff.2 fun e he=>by
     obtain⟨i,_,_,_,h1,_,h3,_⟩:=I.edge e he
     rw [h1];simp;omega];rfl,fun o ho=>by cases ho⟩,I.tree⟩
   have M:=QC8 h hp M0 fun o ho=>QpZ h (hgx.len h) (q3 o ho)
   rw [Qqh]at M
   refine ih (by omega) ⟨M.good,M.apart,M.len,M.head,M.edge,M.asc,fun hf i u hi hu=>?_,M.tree⟩
   obtain⟨f1,f2⟩:=M.full hf
   by_cases ci:i=a
   ·subst ci
    have:u=x:=Option.some.inj (hu.symm.trans M.here)
    subst this
    obtain⟨f3,f4⟩:=M.now hf
    rw [QI]at f1
    exact⟨by omega,f1.2,f3,f4⟩
   exact f2 i u (by omega) hu
end
def Qek (n:Qj)(m:List Bag)(b tokens:Int):Q5:=if b≤0 then Q5.mk [] [] false else Q5.mk (QeJ n b tokens (Q2 b+1) ([m],[],true) 0).1 (QeJ n b tokens (Q2 b+1) ([m],[],true) 0).2.1 (QeJ n b tokens (Q2 b+1) ([m],[],true) 0).2.2
structure SOk (n:Qj) (m:List Bag) (b tokens:Int) (s:Q5):Prop where
 good:∀y∈s.States,Qas n y
 apart:Qgr Qag s.States
 len:s.States.length≤Q2 b
 head:∃r,s.States=m::r
 edge:∀e∈s.Edges,∃(i j:Nat) (x y:List Bag),e.From=(i:Int)∧e.To=(j:Int)∧s.States[i]? = some x∧s.States[j]? = some y∧QaE n x e.Mode=some (y,0)∧QcL n e.Mode
 asc:s.Edges.Pairwise fun e f=>e.From≤f.From
 full:s.Full=true→∀(i:Nat) (x:List Bag),s.States[i]? = some x→Qp1 x≤tokens∧(Qbb n x b).2=true∧(s.Edges.filter fun e=>e.From==(i:Int)).map (·.Mode)=(Qbb n x b).1∧∀o∈(Qbb n x b).1,∃y∈s.States,QaE n x o=some (y,0)
 tree:∀k:Nat,0<k→k<s.States.length→∃e∈s.Edges,∃i:Nat,e.From=(i:Int)∧i<k∧e.To=(k:Int)
theorem Qwc {n:Qj}{m:List Bag}{b tokens:Int}(h:Q0 n)(hbd:Bd n)(hp:n.Places.length≤64)(hg:Qas n m)(hb:0<b):SOk n m b tokens (Qek n m b tokens):=by
 have hm:1≤Q2 b:=by unfold Q2 min2;split<;>omega
 obtain⟨a',I,hl⟩:=QC9 (m:=m) (b:=b) (tokens:=tokens) h hbd hp (Q2 b+1) (st:=([m],[],true)) (a:=0) (by omega) ⟨fun y hy=>by simp at hy;subst hy;exact hg,Qqi _ _,hm,⟨[],rfl⟩,fun e he=>(by cases he),List.Pairwise.nil,fun _ i x hi=>by omega,fun k h1 h2=>by simp at h2;omega⟩
 unfold Qek
 rw [if_neg (by omega)]
 exact⟨I.good,I.apart,I.len,I.head,fun e he=>by
  obtain⟨i,j,u,v,h1,h2,_,h4⟩:=I.edge e he
  exact⟨i,j,u,v,h1,h2,h4⟩,I.asc,fun hf i x hx=>I.full hf i x (by have h3:i<(QeJ n b tokens (Q2 b+1) ([m],[],true) 0).1.length:=(QV.1 hx).1;omega) hx,I.tree⟩
theorem QxL {n:Qj}{m:List Bag}(b tokens:Int)(h:Q0 n)(hbd:Bd n)(hg:Qas n m)(hb:b≤16):Qgb n m b tokens=some (Qek n m b tokens):=by
 rw [QB5 b tokens h hbd hg hb]
 unfold Qek
 by_cases c:b≤0
 ·simp only [if_pos c]
 simp only [if_neg c]
end Go.Proofs
noncomputable section
namespace Go.Proofs
open Go Go.RowKit Go.Vm
def Rch (n:Qj):Prop:=(∀p∈n.Places,p.First.length*16≤140737488351232)∧∀c∈n.Colours,c.Names.length*16≤140737488351232
theorem QB6 {n:Qj}(hk:QY n)(hr:Rch n):Qg (QfN n) fun r=>r=true→(n.Colours.length≤40∧n.Places.length≤70∧n.Tasks.length≤70)∧∀p∈n.Places,p.First.length≤400:=by
 unfold QfN
 refine T1 (fun _=>T2 fun h=>by cases h) fun hc=>?_
 simp only [QcU,QW]at hc
 refine T6 (P:=fun r=>r=true→∀p∈n.Places,p.First.length≤400) ?_ fun r hr2 e=>⟨by omega,hr2 e⟩
 refine T0 (Qg.up n.Colours.length (fun st=>st.2) (fun st=>0≤st.1∧st.1≤400) (Q:=fun q:Unit⊕Int=>∀x,q=.inr x→0≤x∧x≤400) rfl ⟨by show(0:Int)≤0;omega,by show(0:Int)≤400;omega⟩ (fun i st hi hn hJ=>?_)) (fun q hq=>?_)
 ·obtain⟨a,x⟩:=st
  replace hi:x=(i:Int):=hi
  subst hi
  obtain⟨j1,j2⟩:0≤a∧a≤400:=hJ
  show Qg (QfT n a i) _
  unfold QfT
  refine T1 (fun hc=>?_) (fun _=>T2 (Qm fun x e=>by cases e;exact⟨j1,j2⟩))
  simp only [QE]at hc
  refine T0 (T4 (by omega) (by omega)).self fun e he=>?_
  obtain⟨he,hm⟩:=he
  have hel:=hr.2 e hm
  have hw:w64 (a+(e.Names.length:Int))=a+(e.Names.length:Int):=Qct (by omega)
  refine T0 (P:=fun y=>y=false→a+(e.Names.length:Int)≤400) ?_ fun y hy=>?_
  ·unfold Qns
   rw [he,Qn,hw]
   exact T1 (fun _=>T2 fun h=>by cases h) fun _=>T2 fun h=>by simpa using h
  unfold QhU
  refine T1 (fun _=>T2 (Qm fun x e=>by cases e)) fun hyf=>?_
  have hle:=hy hyf
  refine T0 (Qg.up e.Names.length (fun st=>st) (fun _=>True) (Q:=fun _=>True) rfl trivial (fun i2 st hi2 hn2 _=>?_)) (fun q _=>?_)
  ·show Qg (QfS n i st) _
   unfold QfS
   simp only [he,Qn]
   refine T1 (fun hc=>?_) (fun _=>T2 (Qm trivial))
   simp only [QE]at hc
   refine T0 (T4 (by omega) (by omega)) fun s _=>?_
   refine T1 (fun _=>T2 (Qm trivial)) fun _=>?_
   exact T2 (QC ⟨by omega,by rw [hi2];exact Qx (by omega) (hk.1.2 e hm).2.2.2.2.1.1,trivial⟩)
  rcases q with q | q
  ·exact T2 (Qm fun x e=>by cases e)
  refine T2 (QC ⟨by omega,Qx (by omega) hk.1.1,?_⟩)
  show 0≤w64 (a+(e.Names.length:Int))∧w64 (a+(e.Names.length:Int))≤400
  rw [hw];omega
 rcases q with q | q
 ·exact T2 fun h=>by cases h
 have hq:=hq q rfl
 show Qg (Qe7 n q) _
 unfold Qe7
 refine T0 (Qg.up n.Places.length (fun st=>st.2) (fun st=>0≤st.1∧st.1≤400+st.2*8796093022208∧∀(j:Nat) p,(j:Int)<st.2→n.Places[j]? = some p→(p.First.length:Int)≤st.1) (Q:=fun q:Unit⊕Int=>∀x,q=.inr x→∀p∈n.Places,(p.First.length:Int)≤x) rfl ⟨hq.1,by show q≤400+0*8796093022208;omega,fun j p hj=>by simp at hj;omega⟩ (fun i st hi hn hJ=>?_)) (fun q hq=>?_)
 ·obtain⟨a,x⟩:=st
  replace hi:x=(i:Int):=hi
  subst hi
  obtain⟨j1,j2,j3⟩:0≤a∧a≤400+(i:Int)*8796093022208∧∀(j:Nat) p,(j:Int)<(i:Int)→n.Places[j]? = some p→(p.First.length:Int)≤a:=hJ
  show Qg (QfU n a i) _
  unfold QfU
  refine T1 (fun hc=>?_) (fun hc=>T2 (Qm fun x e p hp=>?_))
  ·simp only [QE]at hc
   have i1:i<n.Places.length:=by omega
   rw [Q1,Qw i1,Qn,Qn]
   have hpl:=hr.1 _ (Qao i1)
   have hw:w64 (a+((n.Places[i]).First.length:Int))=a+((n.Places[i]).First.length:Int):=Qct (by omega)
   have hw2:w64 ((i:Int)+1)=((i+1:Nat):Int):=Qx i1 hk.2.1.1
   refine T1 (fun _=>T2 (Qm fun x e=>by cases e)) fun _=>T2 (QC ⟨i1,hw2,?_⟩)
   show 0≤w64 (a+((n.Places[i]).First.length:Int))∧w64 (a+((n.Places[i]).First.length:Int))≤400+w64 ((i:Int)+1)*8796093022208∧∀(j:Nat) p,(j:Int)<w64 ((i:Int)+1)→n.Places[j]? = some p→(p.First.length:Int)≤w64 (a+((n.Places[i]).First.length:Int))
   rw [hw,hw2]
   refine⟨by omega,by omega,fun j p hj hp=>?_⟩
   by_cases cj:j=i
   ·subst cj
    rw [Qw i1]at hp;cases hp;omega
   have:=j3 j p (by omega) hp;omega
  cases e
  simp only [QW]at hc
  obtain⟨j,hj,rfl⟩:=Qjf.1 hp
  exact j3 j _ (by omega) (Qw hj)
 rcases q with q | q
 ·exact T2 fun h=>by cases h
 exact(QzN n hk q).mono fun r hr2 e p hp=>by have:=hr2 e;have:=hq q rfl p hp;omega
theorem QAT {n:Qj}(hp:n.Places.length≤70)(hf:∀p∈n.Places,p.First.length≤400):Qg (QeO n) fun m=>m.length=n.Places.length∧∀b∈m,b.length≤401:=by
 unfold QeO
 refine T0 (Qg.up n.Places.length (fun st=>st.1) (fun st=>(st.2.length:Int)=st.1∧∀b∈st.2,b.length≤401) (Q:=fun m:List Bag=>m.length=n.Places.length∧∀b∈m,b.length≤401) rfl ⟨rfl,fun b h=>by cases h⟩ (fun i st hi hn hJ=>?_)) (fun q hq=>T2 hq)
 obtain⟨x,l⟩:=st
 replace hi:x=(i:Int):=hi
 subst hi
 obtain⟨j1,j2⟩:(l.length:Int)=(i:Int)∧∀b∈l,b.length≤401:=hJ
 show Qg (Qjk n i l) _
 unfold Qjk
 refine T1 (fun hc=>?_) (fun hc=>T2 (Qm ?_))
 ·simp only [QE]at hc
  have i1:i<n.Places.length:=by omega
  have hpl:=hf _ (Qao i1)
  rw [Q1,Qw i1,Qn]
  have hw:w64 ((i:Int)+1)=((i+1:Nat):Int):=Qx i1 (by unfold maxLen;omega:n.Places.length≤maxLen)
  have k1:∀b:Bag,b.length≤401→Qg (Qe1 l i b) fun o=>(∀s',o=.inl s'→i<n.Places.length∧s'.1=((i+1:Nat):Int)∧(s'.2.length:Int)=s'.1∧∀b∈s'.2,b.length≤401)∧∀r:List Bag,o=.inr r→r.length=n.Places.length∧∀b∈r,b.length≤401:=fun b hb=>by
   unfold Qe1
   refine T0 (T5 (by simp;omega)) fun _ _=>?_
   refine T2 (QC (ix:=fun st:Int×List Bag=>st.1) (J:=fun st:Int×List Bag=>(st.2.length:Int)=st.1∧∀b∈st.2,b.length≤401) ⟨i1,hw,by show((l++[b]).length:Int)=w64 _;rw [hw];simp;omega,fun b' hb'=>?_⟩)
   rcases Qcx.1 hb' with hb' | hb'
   ·exact j2 b' hb'
   simp at hb';subst hb';exact hb
  unfold Qa0
  rw [QqY (by simp;omega)]
  simp only [Qn,Qqh]
  refine T1 (fun hc2=>?_) fun _=>k1 _ (by omega)
  rw [show Qnc ([0]:List Int)=some [(0,1)]from Qw3 0,Qn]
  rcases Qkk (n.Places[i]).First [(0,1)] (by simp;omega)with⟨_,e⟩|⟨_,_,_,e⟩|⟨_,_,r,e,h1,_,h2⟩
  ·rw [e,Qn];exact k1 _ (by omega)
  ·rw [e,Qn];exact k1 _ (by omega)
  rw [e,Qn];exact k1 _ (by simp at h2;show r.length≤401;omega)
 simp only [QW]at hc
 exact⟨by show l.length=_;omega,j2⟩
def Qm0 (n:Qj):List Bag:=(QeO n).getD []
structure QB7 (n:Qj) (b:Int):Prop where
 net:Q0 n
 bd:Bd n
 pl:n.Places.length≤64
 good:Qas n (Qm0 n)
 first:QeO n=some (Qm0 n)
 bud:b≤16
theorem QDa (n:Qj)(b:Int)(hn:QY n)(hr:Rch n):Qg (QmO n b) fun r=>r=true→QB7 n b:=by
 unfold QmO
 refine T0 (QB6 hn hr) fun f hf=>?_
 refine T1 (fun _=>T2 fun h=>by cases h) fun hc=>?_
 simp only [QcU,Qib,QW]at hc
 obtain⟨h1,h2⟩:=hf hc.1
 refine T0 (QAT h1.2.1 h2).self fun m hm=>?_
 obtain⟨hme,hm1,hm2⟩:=hm
 refine T0 (QC2 n m _ hn ⟨by unfold maxLen;omega,fun b hb=>⟨by have:=hm2 b hb;unfold maxLen;omega,fun _ _=>trivial⟩⟩) fun r hr2=>?_
 refine T2 fun e=>?_
 obtain⟨g1,g2,g3,_⟩:=hr2 e
 have ef:Qm0 n=m:=by unfold Qm0;rw [hme];rfl
 exact⟨g1,g2,by omega,by rw [ef];exact g3,by rw [ef];exact hme,by omega⟩
end Go.Proofs
noncomputable section
namespace Go.Proofs
open Go Go.RowKit Go.Vm
theorem QB8 {n:Qj}{a:List Bag}(h:Q0 n)(ha:Qas n a):QfM a a=some true:=QxG h ha.1 (by omega)
theorem Qx8 {n:Qj}{s:Q5}{m:List Bag}(h:Q0 n)(hs:∀y∈s.States,Qas n y)(hl:s.States.length≤4096)(hm:Qas n m):Qg (QeR s m) fun r=>(r=-1∧m ∉ s.States)∨∃i:Nat,r=(i:Int)∧s.States[i]? = some m:=by
 unfold QeR QbR
 refine T0 (P:=fun r=>(r=-1∧m ∉ s.States)∨∃i:Nat,r=(i:Int)∧s.States[i]? = some m) ?_ fun r hr=>T2 hr
 refine T0 (Qg.up s.States.length (fun st=>st) (fun st=>m ∉ s.States.take st.toNat) (Q:=fun q:Int⊕Unit=>(∀r,q=.inl r→∃i:Nat,r=(i:Int)∧s.States[i]? = some m)∧(q=.inr ()→m ∉ s.States)) rfl (by simp) (fun i st hi hn hJ=>?_)) (fun q hq=>?_)
 ·replace hi:st=(i:Int):=hi
  subst hi
  replace hJ:m ∉ s.States.take (i:Int).toNat:=hJ
  rw [QaB]at hJ
  show Qg (QaF s.States m i) _
  unfold QaF Qnq
  refine T1 (fun hc=>?_) (fun hc=>T2 (Qm ⟨fun r e=>(by cases e),fun _=>?_⟩))
  ·simp only [QE]at hc
   have i1:i<s.States.length:=by omega
   have hgi:=hs _ (Qao i1)
   rw [Q1,Qw i1,Qn]
   by_cases e:s.States[i]=m
   ·rw [e,QB8 h hm]
    simp only [Qn,cond_true]
    exact T2 (Qm ⟨fun r e'=>(by cases e';exact⟨i,rfl,by rw [Qw i1,e]⟩),fun e=>by cases e⟩)
   obtain⟨r,hr,hr2⟩:=QxJ h hgi hm
   have:r=false:=by
    cases r with
    | false=>rfl
    | true=>exact absurd (hr2 rfl) e
   subst this
   rw [hr]
   simp only [Qn,cond_false]
   have hw:w64 ((i:Int)+1)=((i+1:Nat):Int):=Qx i1 (by unfold maxLen;omega:s.States.length≤maxLen)
   refine T2 (QC ⟨i1,hw,?_⟩)
   show m ∉ s.States.take (w64 ((i:Int)+1)).toNat
   rw [hw,QaB,Qd6,Qw i1]
   simp only [Option.toList_some,Qcx,List.mem_singleton,not_or]
   exact⟨hJ,fun e'=>e e'.symm⟩
  simp only [QW]at hc
  rwa [Qcy (by omega)]at hJ
 rcases q with q | q
 ·exact T2 (.inr (hq.1 q rfl))
 exact T2 (.inl ⟨rfl,hq.2 rfl⟩)
theorem QDM {n:Qj}{s:Q5}{i:Nat}{m:List Bag}(h:Q0 n)(hs:∀y∈s.States,Qas n y)(hl:s.States.length≤4096)(ha:Qgr Qag s.States)(hm:s.States[i]? = some m):QeR s m=some (i:Int):=by
 obtain⟨r,hr,hr2⟩:=Qx8 h hs hl (hs m (Qap hm))
 rw [hr]
 rcases hr2 with⟨_,h1⟩|⟨j,rfl,hj⟩
 ·exact absurd (Qap hm) h1
 obtain⟨i1,ei⟩:=QV.1 hm
 obtain⟨j1,ej⟩:=QV.1 hj
 have hp:=Qyt.1 ha
 have:i=j:=by
  rcases Nat.lt_trichotomy i j with c | c | c
  ·exact absurd (by rw [ei,ej]) (hp i j i1 j1 c)
  ·exact c
  exact absurd (by rw [ei,ej]) (hp j i j1 i1 c)
 rw [this]
theorem QB9 {n:Qj}{m:List Bag}{b tokens:Int}(h:Q0 n)(hbd:Bd n)(hg:Qas n m)(hb:b≤16):(Qek n m b tokens).Edges.length≤67108864:=by
 have key:∀(K:Nat),K=4194304→∀(f:Nat) (st:SSt) (a:Nat),(∀y∈st.1,Qas n y)→st.1.length≤Q2 b→st.2.1.length≤a*K→a≤Q2 b→(QeJ n b tokens f st a).2.1.length≤Q2 b*K:=by
  intro K hK
  intro f
  induction f with
  | zero=>intro st a _ _ h3 h4;exact Qcb h3 (Qcz _ h4)
  | succ f ih=>
   intro st a h1 h2 h3 h4
   rw [QeJ]
   cases hx:st.1[a]? with
   | none=>exact Qcb h3 (Qcz _ h4)
   | some x=>
    simp only
    have ha:=(QV.1 hx).1
    have hgx:=h1 x (Qap hx)
    split
    ·exact ih _ _ h1 h2 (by show st.2.1.length≤(a+1)*K;rw [Nat.succ_mul];omega) (by omega)
    obtain⟨q1,q2,q3⟩:=QuK b h hbd hgx
    obtain⟨g1,g2,g3⟩:=Qx6 (a:=(a:Int)) (most:=Q2 b) h hgx (X:=(Qbb n x b).1) (st:=(st.1,st.2.1,st.2.2&&(Qbb n x b).2)) (fun o ho=>QpZ h (hgx.len h) (q3 o ho)) h1 h2
    exact ih _ _ g1 g2 (by rw [Nat.succ_mul];simp only at g3;omega) (by omega)
 unfold Qek
 split
 ·simp
 have hm:1≤Q2 b∧Q2 b≤16:=by unfold Q2 min2;split<;>omega
 have:=key 4194304 rfl (Q2 b+1) ([m],[],true) 0 (fun y hy=>by simp at hy;subst hy;exact hg) (by simp;omega) (by simp) (by omega)
 show List.length _≤_
 have h2:Q2 b*4194304≤16*4194304:=Qcz _ hm.2
 exact Qcb this h2
end Go.Proofs
noncomputable section
namespace Go.Proofs
open Go Go.RowKit Go.Vm
set_option maxRecDepth 100000 in
theorem QAU : Qoc=some true:=by kernel_rfl
end Go.Proofs
noncomputable section
namespace Go.Proofs
open Go Go.RowKit Go.Vm
theorem QDN {α:Type}[DecidableEq α]:∀{l m:List α},l.Nodup→(∀x,x∈l→x∈m)→l.length≤m.length:=by
 intro l
 induction l with
 | nil=>intro m _ _;simp
 | cons x l ih=>
  intro m hn hs
  rw [QeX]at hn
  have hx:=hs x QaD
  have:=ih (m:=m.erase x) hn.2 fun y hy=>by
   have hne:y≠x:=fun e=>hn.1 (e▸hy)
   exact(List.mem_erase_of_ne hne).2 (hs y (QaC _ hy))
  rw [List.length_erase_of_mem hx]at this
  have:=List.length_pos_of_mem hx
  simp only [QeW];omega
theorem Qx9 {l m:List (List Bag)}(h:Qgr Qag l)(hs:∀x∈l,x∈m):l.length≤m.length:=
 QDN (h.imp fun hk e=>hk (congrArg Qag e)) hs
structure Clo (n:Qj) (b tokens:Int) (C:List (List Bag)):Prop where
 good:∀y∈C,Qas n y
 len:C.length≤Q2 b
 tot:∀x∈C,Qp1 x≤tokens
 known:∀x∈C,(Qbb n x b).2=true
 next:∀x∈C,∀o∈(Qbb n x b).1,∃y∈C,QaE n x o=some (y,0)
section
variable {n:Qj}{b tokens:Int}{C:List (List Bag)}
structure In (n:Qj) (C:List (List Bag)) (st:SSt):Prop where
 sub:∀y∈st.1,y∈C
 apart:Qgr Qag st.1
 full:st.2.2=true
theorem QEu (hC:Clo n b tokens C){x:List Bag}{a:Int}{st:SSt}{o:Ql}(I:In n C st)(hx:x∈C)(ho:o∈(Qbb n x b).1):In n C (Qcl (Q2 b) n x a st o):=by
 obtain⟨y,hy,hD⟩:=hC.next x hx o ho
 unfold Qcl
 rw [hD]
 simp only
 rw [if_pos trivial]
 cases hk:Qh4 st.1 (Qag y)with
 | some k=>exact⟨I.sub,I.apart,I.full⟩
 | none=>
  have hap:Qgr Qag (st.1++[y]):=I.apart.add (by
   unfold QvX
   exact List.any_eq_false.2 fun u hu=>by simpa using Qx5 hk u hu)
  have hsub:∀z∈st.1++[y],z∈C:=fun z hz=>by
   rcases Qcx.1 hz with hz | hz
   ·exact I.sub z hz
   simp at hz;subst hz;exact hy
  have hl:=Qx9 hap hsub
  have hc:=hC.len
  simp only [Qdq,Qlv]at hl
  simp only
  rw [if_neg (by omega)]
  exact⟨hsub,hap,I.full⟩
theorem QDO (hC:Clo n b tokens C){x:List Bag}{a:Int}(hx:x∈C):∀{X:List Ql} {st:SSt},In n C st→(∀o∈X,o∈(Qbb n x b).1)→In n C (X.foldl (Qcl (Q2 b) n x a) st):=by
 intro X
 induction X with
 | nil=>intro st I _;exact I
 | cons o X ih=>intro st I ho;exact ih (QEu hC I hx (ho o QaD)) fun o' ho'=>ho o' (QaC _ ho')
theorem QDP (hC:Clo n b tokens C):∀(f:Nat) {st:SSt} {a:Nat},In n C st→In n C (QeJ n b tokens f st a):=by
 intro f
 induction f with
 | zero=>intro st a I;exact I
 | succ f ih=>
  intro st a I
  rw [QeJ]
  cases hx:st.1[a]? with
  | none=>exact I
  | some x=>
   simp only
   have hxC:=I.sub x (Qap hx)
   have ht:=hC.tot x hxC
   rw [if_neg (by omega)]
   exact ih (QDO hC hxC ⟨I.sub,I.apart,by show(st.2.2&&(Qbb n x b).2)=true;rw [I.full,hC.known x hxC];rfl⟩ fun o ho=>ho)
end
theorem QEv {n:Qj}{m:List Bag}{b tokens:Int}{s:Q5}(h:SOk n m b tokens s)(hf:s.Full=true):Clo n b tokens s.States:=
 ⟨h.good,h.len,fun x hx=>by
  obtain⟨i,hi,rfl⟩:=Qjf.1 hx
  exact(h.full hf i _ (Qw hi)).1,fun x hx=>by
  obtain⟨i,hi,rfl⟩:=Qjf.1 hx
  exact(h.full hf i _ (Qw hi)).2.1,fun x hx=>by
  obtain⟨i,hi,rfl⟩:=Qjf.1 hx
  exact(h.full hf i _ (Qw hi)).2.2.2⟩
theorem QDQ {n:Qj}{m x:List Bag}{b tokens:Int}{s:Q5}(h:SOk n m b tokens s)(hf:s.Full=true)(hx:x∈s.States)(hb:0<b):(∀y∈(Qek n x b tokens).States,y∈s.States)∧(Qek n x b tokens).Full=true:=by
 have I:=QDP (QEv h hf) (Q2 b+1) (st:=([x],[],true)) (a:=0) ⟨fun y hy=>by simp at hy;subst hy;exact hx,Qqi _ _,rfl⟩
 unfold Qek
 rw [if_neg (by omega)]
 exact⟨I.sub,I.full⟩
end Go.Proofs
noncomputable section
namespace Go.Proofs
open Go Go.RowKit Go.Vm
theorem QAV {n:Qj}{b:Int}(tokens:Int)(hF:QB7 n b):QdO n b tokens=some (Qek n (Qm0 n) b tokens):=by
 unfold QdO
 rw [hF.first,Qn,QxL b tokens hF.net hF.bd hF.good hF.bud];rfl
structure QEw (n:Qj) (b tokens:Int) (s:Q5):Prop where
 good:∀y∈s.States,Qas n y
 apart:Qgr Qag s.States
 len:(s.States.length:Int)≤max2 b 0
 few:s.States.length≤16
 edge:∀e∈s.Edges,∃(i j:Nat) (x y:List Bag),e.From=(i:Int)∧e.To=(j:Int)∧s.States[i]? = some x∧s.States[j]? = some y∧QaE n x e.Mode=some (y,0)∧QcL n e.Mode
 asc:s.Edges.Pairwise fun e f=>e.From≤f.From
 full:s.Full=true→∀(i:Nat) (x:List Bag),s.States[i]? = some x→Qp1 x≤tokens∧(Qbb n x b).2=true∧(s.Edges.filter fun e=>e.From==(i:Int)).map (·.Mode)=(Qbb n x b).1∧∀o∈(Qbb n x b).1,∃y∈s.States,QaE n x o=some (y,0)
 edges:s.Edges.length≤67108864
theorem QCa {n:Qj}{m:List Bag}{b tokens:Int}(h:Q0 n)(hbd:Bd n)(hp:n.Places.length≤64)(hg:Qas n m)(hb:b≤16):QEw n b tokens (Qek n m b tokens):=by
 have hE:=QB9 (tokens:=tokens) h hbd hg hb
 by_cases c:0<b
 ·have hS:=Qwc (tokens:=tokens) h hbd hp hg c
  have hm:(Q2 b:Int)=b:=by unfold Q2 min2;split<;>omega
  have hl:=hS.len
  exact⟨hS.good,hS.apart,by unfold max2;split<;>omega,by omega,hS.edge,hS.asc,hS.full,hE⟩
 unfold Qek at hE ⊢
 rw [if_pos (by omega)]at hE ⊢
 exact⟨fun y h=>(by cases h),List.Pairwise.nil,by show(0:Int)≤_;unfold max2;split<;>omega,by simp,fun e h=>(by cases h),List.Pairwise.nil,fun h=>(by cases h),hE⟩
end Go.Proofs
namespace Go.Rk
def inR (N:Nat)(k:Int):Prop:=0≤k∧k<N
instance (N : Nat) (k:Int):Decidable (inR N k):=inferInstanceAs (Decidable (_∧_))
def av (out:List Int)(k:Int):Int:=if 0≤k then out.getD k.toNat (-1)else -1
theorem QCb {out:List Int}{k:Int}(h:¬inR out.length k):av out k=-1:=by
 unfold av
 split
 ·rename_i h0
  rw [List.getD_eq_getElem?_getD,List.getElem?_eq_none (by unfold inR at h;omega)];rfl
 rfl
theorem QEx {out:List Int}{k:Int}(h:inR out.length k):out[k.toNat]? = some (av out k):=by
 unfold av;rw [if_pos h.1,List.getD_eq_getElem?_getD]
 have:k.toNat<out.length:=by unfold inR at h;omega
 rw [List.getElem?_eq_getElem this];rfl
structure QsT (N:Nat) (es:List (Int×Int)) (gs:List Int) (out:List Int):Prop where
 len:out.length=N
 lo:∀k,-1≤av out k
 goal:∀g,g∈gs→inR N g→av out g=0
 edge:∀u v,(u,v)∈es→inR N u→inR N v→0≤av out v→0≤av out u∧av out u≤av out v+1
 back:∀k,0≤av out k→(av out k=0∧k∈gs)∨∃v,(k,v)∈es∧inR N v∧0≤av out v∧av out k=av out v+1
variable {N:Nat}{es:List (Int×Int)}{gs:List Int}{a b:List Int}
theorem QsT.rng (h:QsT N es gs a){k:Int}(hk:0≤av a k):inR N k:=by
 by_cases hr:inR a.length k
 ·rw [h.len]at hr;exact hr
 rw [QCb hr]at hk;omega
theorem QsT.le (ha:QsT N es gs a)(hb:QsT N es gs b):∀n:Nat,∀k,av a k=n→0≤av b k∧av b k≤n:=by
 intro n
 induction n with
 | zero=>
  intro k hk
  rcases ha.back k (by omega)with⟨_,hg⟩|⟨v,_,_,_,hv⟩
  ·rw [hb.goal k hg (ha.rng (by omega))];omega
  omega
 | succ n ih=>
  intro k hk
  have hr:=ha.rng (k:=k) (by omega)
  rcases ha.back k (by omega)with⟨h0,_⟩|⟨v,he,hv,h1,h2⟩
  ·omega
  obtain⟨h3,h4⟩:=ih v (by omega)
  have:=hb.edge k v he hr hv h3
  omega
theorem Qyq : ∀{l m:List Int},l.Nodup→(∀x,x∈l→x∈m)→l.length≤m.length:=by
 intro l
 induction l with
 | nil=>intro m _ _;simp
 | cons x l ih=>
  intro m hn hs
  rw [List.nodup_cons]at hn
  have hx:=hs x List.mem_cons_self
  have:=ih (m:=m.erase x) hn.2 fun y hy=>by
   have hne:y≠x:=fun e=>hn.1 (e▸hy)
   exact(List.mem_erase_of_ne hne).2 (hs y (List.mem_cons_of_mem _ hy))
  rw [List.length_erase_of_mem hx]at this
  have:=List.length_pos_of_mem hx
  simp only [List.length_cons];omega
theorem QDb (hl:a.length=N)(hback:∀k,0≤av a k→(av a k=0∧k∈gs)∨∃v,(k,v)∈es∧inR N v∧0≤av a v∧av a k=av a v+1):∀n:Nat,∀k,av a k=n→∀m:Nat,m≤n→∃j,inR N j∧av a j=m:=by
 have rng:∀{k:Int},0≤av a k→inR N k:=fun {k} hk=>by
  by_cases hr:inR a.length k
  ·rw [hl]at hr;exact hr
  rw [QCb hr]at hk;omega
 intro n
 induction n with
 | zero=>intro k hk m hm;exact⟨k,rng (by omega),by omega⟩
 | succ n ih=>
  intro k hk m hm
  by_cases e:m=n+1
  ·exact⟨k,rng (by omega),by omega⟩
  rcases hback k (by omega)with⟨h0,_⟩|⟨v,he,hv,h1,h2⟩
  ·omega
  exact ih v (by omega) m (by omega)
theorem QE9 (hl:a.length=N)(hback:∀k,0≤av a k→(av a k=0∧k∈gs)∨∃v,(k,v)∈es∧inR N v∧0≤av a v∧av a k=av a v+1)(k:Int):av a k<(N:Int)∨N=0:=by
 by_cases h:0≤av a k
 ·left
  have hs:=QDb hl hback (av a k).toNat k (by omega)
  have:((List.range ((av a k).toNat+1)).map (fun i:Nat=>(i:Int))).length≤a.length:=by
   refine Qyq ?_ fun x hx=>?_
   ·rw [List.Nodup,List.pairwise_map]
    exact(List.nodup_range).imp fun h e=>h (by omega)
   obtain⟨i,hi,rfl⟩:=List.mem_map.1 hx
   rw [List.mem_range]at hi
   obtain⟨j,hj,he⟩:=hs i (by omega)
   rw [←he]
   rw [←hl]at hj
   exact List.mem_of_getElem? (QEx hj)
  simp only [List.length_map,List.length_range]at this
  rw [hl]at this
  omega
 omega
theorem QsT.lt (ha:QsT N es gs a)(k:Int):av a k<(N:Int)∨N=0:=QE9 ha.len ha.back k
end Go.Rk
noncomputable section
namespace Go.Proofs
open Go Go.RowKit Go.Vm Go.Rk
abbrev Rw := Int×Int
abbrev Mk := List (List Rw)
def okM (m:Mk):Prop:=m.length≤maxLen∧∀b∈m,b.length≤maxLen
theorem okM.get {m:Mk}(h:okM m){i:Nat}{b:List Rw}(hb:m[i]? = some b):b.length≤maxLen:=h.2 b (Qap hb)
theorem Quv {a b:List Int}(ha:a.length≤maxLen):QeS a b=some (decide (a=b)):=by
 unfold QeS
 by_cases h0:a.length=b.length
 ·have h0':((a.length:Int) != (b.length:Int))=false:=by rw [h0];simp
  rw [h0',cond_false]
  rw [QCE (l:=a) (s0:=0) (fun i=>(i:Int)) (fun i x=>((b[i]?).map fun y=>x != y).getD false) (.inl ()) (.inr ()) ?_ ?_ rfl]
  ·have:Quf (fun i x=>((b[i]?).map fun y=>x != y).getD false) 0 a=!decide (a=b):=by
    by_cases e:a=b
    ·subst e
     simp only [decide_true,Qje]
     rw [QwK]
     intro i x hx
     rw [hx];simp
    simp only [e,decide_false,Bool.not_false]
    apply Classical.byContradiction
    intro hn
    rw [Qlt,QwK]at hn
    apply e
    apply List.ext_getElem? 
    intro i
    by_cases hi:i<a.length
    ·have:=hn i a[i] (Qw hi)
     rw [Qw (by omega:i<b.length)]at this
     rw [Qw hi,Qw (by omega:i<b.length)]
     simpa using this
    rw [Qr7 (by omega),Qr7 (by omega)]
   rw [this]
   by_cases e:a=b<;>simp [e,QmI,QmJ]
  ·intro i x hi hx
   have h1:(i:Int)<a.length:=by omega
   have hy:b[i]? = some (b[i]'(by omega)):=Qw (by omega)
   unfold Qjt
   simp only [h1,decide_true,cond_true,Q1,hx,hy,Qn,Qx hi ha,QcD,QnO]
   cases x != (b[i]'(by omega))<;>rfl
  unfold Qjt;simp
 have h0':((a.length:Int) != (b.length:Int))=true:=by simp;omega
 have:a≠b:=fun e=>h0 (by rw [e])
 simp [h0',this]
def QFt (s:Q5):Prop:=s.States.length≤maxLen∧s.Edges.length≤maxLen∧∀m∈s.States,okM m
structure QEy (s:Q5):Prop where
 ok:QFt s
 st:s.States.length≤40
 ed:s.Edges.length≤67108864
theorem QEy.get {s:Q5}(h:QEy s){i:Nat}{m:Mk}(hm:s.States[i]? = some m):okM m:=h.ok.2.2 m (Qap hm)
def cnt (s:Q5)(e:Qad):Bool:=(decide (0≤e.From)&&decide (e.From<(s.States.length:Int)))&&(decide (0≤e.To)&&decide (e.To<(s.States.length:Int)))
def es (s:Q5):List (Int×Int):=s.Edges.map fun e=>(e.From,e.To)
end Go.Proofs
noncomputable section
namespace Go.Proofs
open Go Go.RowKit Go.Vm
theorem QCc (a:Bag)(ha:a.length≤maxLen):QmP a a=some true:=by
 unfold QmP
 rw [show((a.length:Int) != (a.length:Int))=false by simp,cond_false]
 obtain⟨r,h1,h2⟩:=(Qg.up (body:=fun st=>Qg0 a a st) a.length (fun st=>st) (fun _=>True) (Q:=fun q:Unit⊕Unit=>q=.inr ()) (s0:=(0:Int)) rfl trivial (fun i st hi hn hJ=>by
  replace hi:st=(i:Int):=hi
  subst hi
  show Qg (Qg0 a a i) _
  unfold Qg0
  refine T1 (fun hc=>?_) (fun _=>T2 (Qm rfl))
  simp only [QE]at hc
  have i1:i<a.length:=by omega
  rw [Q1,Qw i1,Qn,Qn]
  refine T1 (fun hc2=>?_) fun _=>T2 (QC ⟨i1,Qx i1 ha,trivial⟩)
  simp at hc2))
 rw [h1,h2];rfl
theorem Qyr (a:List Bag)(ha:a.length≤maxLen)(hb:∀b∈a,b.length≤maxLen):QiH a a=some true:=by
 unfold QiH
 rw [show((a.length:Int) != (a.length:Int))=false by simp,cond_false]
 obtain⟨r,h1,h2⟩:=(Qg.up (body:=fun st=>Qei a a st) a.length (fun st=>st) (fun _=>True) (Q:=fun q:Unit⊕Unit=>q=.inr ()) (s0:=(0:Int)) rfl trivial (fun i st hi hn hJ=>by
  replace hi:st=(i:Int):=hi
  subst hi
  show Qg (Qei a a i) _
  unfold Qei
  refine T1 (fun hc=>?_) (fun _=>T2 (Qm rfl))
  simp only [QE]at hc
  have i1:i<a.length:=by omega
  rw [Q1,Qw i1,Qn,Qn,QCc _ (hb _ (Qao i1)),Qn]
  exact T2 (QC ⟨i1,Qx i1 ha,trivial⟩)))
 rw [h1,h2];rfl
theorem QAW {n:Qj}{o:Ql}(h:QcL n o):QmQ o o=some true:=by
 obtain⟨h1,h2,h3⟩:=h
 unfold QmQ QqU
 rw [Quv (show o.Vars.length≤maxLen by unfold maxLen;omega),Quv (show o.Ins.length≤maxLen by unfold maxLen;omega),Quv (show o.Outs.length≤maxLen by unfold maxLen;omega)]
 simp [QjR]
theorem QAX {n:Qj}{b tokens:Int}{s:Q5}(h:Q0 n)(hS:QEw n b tokens s):Qkd s s=some true:=by
 have hpl:=h.pl
 have hfew:=hS.few
 have hed:=hS.edges
 unfold Qkd
 rw [show(((s.States.length:Int) != (s.States.length:Int))||(((s.Edges.length:Int) != (s.Edges.length:Int))||(s.Full != s.Full)))=false by simp,cond_false]
 obtain⟨r,h1,h2⟩:=(Qg.up (body:=fun st=>Qg1 s s st) s.States.length (fun st=>st) (fun _=>True) (Q:=fun q:Unit⊕Unit=>q=.inr ()) (s0:=(0:Int)) rfl trivial (fun i st hi hn hJ=>by
  replace hi:st=(i:Int):=hi
  subst hi
  show Qg (Qg1 s s i) _
  unfold Qg1
  refine T1 (fun hc=>?_) (fun _=>T2 (Qm rfl))
  simp only [QE]at hc
  have i1:i<s.States.length:=by omega
  have hg:=hS.good _ (Qao i1)
  have hgl:=hg.1.1
  rw [Q1,Qw i1,Qn,Qn,Qyr _ (by unfold maxLen;omega) (fun b hb=>by have:=(hg.1.2 b hb).2;unfold maxLen;omega),Qn]
  exact T2 (QC ⟨i1,Qx i1 (by unfold maxLen;omega),trivial⟩)))
 rw [h1,h2,Qn]
 show QjS s s=some true
 unfold QjS
 obtain⟨r,h1,h2⟩:=(Qg.up (body:=fun st=>Qg2 s s st) s.Edges.length (fun st=>st) (fun _=>True) (Q:=fun q:Unit⊕Unit=>q=.inr ()) (s0:=(0:Int)) rfl trivial (fun i st hi hn hJ=>by
  replace hi:st=(i:Int):=hi
  subst hi
  show Qg (Qg2 s s i) _
  unfold Qg2
  refine T1 (fun hc=>?_) (fun _=>T2 (Qm rfl))
  simp only [QE]at hc
  have i1:i<s.Edges.length:=by omega
  obtain⟨_,_,_,_,_,_,_,_,_,e6⟩:=hS.edge _ (Qao i1)
  have ei:idx s.Edges (i:Int)=some s.Edges[i]:=by rw [Q1,Qw i1]
  rw [ei,Qn,Qn,QAW e6,Qn]
  have g3:QmR true s i s=some false:=by
   unfold QmR
   rw [ei];simp
  rw [g3,Qn]
  exact T2 (QC ⟨i1,Qx i1 (by unfold maxLen;omega),trivial⟩)))
 rw [h1,h2];rfl
theorem QAY (n:Qj)(b tokens k:Int)(hn:QY n)(hr:Rch n):Qfq n b tokens k=some true:=by
 unfold Qfq
 rw [QAU,Qn]
 obtain⟨f,hf,hf2⟩:=QDa n b hn hr
 rw [hf,Qn]
 cases hc:(!f)with
 | true=>rfl
 | false=>
  simp only [cond_false]
  have hF:=hf2 (by simpa using hc)
  have h:=hF.net
  rw [QAV tokens hF,Qn,hF.first,Qn,QxL b tokens h hF.bd hF.good hF.bud,Qn]
  have hFac:=QCa (tokens:=tokens) h hF.bd hF.pl hF.good hF.bud
  have hS0:0<b→SOk n (Qm0 n) b tokens (Qek n (Qm0 n) b tokens):=fun c=>Qwc h hF.bd hF.pl hF.good c
  have hemp:¬0<b→(Qek n (Qm0 n) b tokens).Full=false:=fun c=>by unfold Qek;rw [if_pos (by omega)]
  generalize Qek n (Qm0 n) b tokens=s at hFac hS0 hemp ⊢
  have hfew:=hFac.few
  rw [QAX h hFac,Qn]
  simp only [Qje,cond_false]
  cases hc2:((!s.Full)||((decide (k<0))||(decide ((s.States.length:Int)≤k))))with
  | true=>rfl
  | false=>
   simp only [cond_false]
   simp only [QcU,Qib,QW]at hc2
   obtain⟨hfull,hk0,hk1⟩:=hc2
   have hb:0<b:=by
    by_cases c:0<b
    ·exact c
    have:=hemp c;rw [hfull]at this;cases this
   have hk:k.toNat<s.States.length:=by omega
   have hx:=Qw hk
   have ex:idx s.States k=some s.States[k.toNat]:=by rw [Qi1 (by omega),hx]
   have hxm:=Qao hk
   have hgx:=hFac.good _ hxm
   rw [ex,Qn,QxL b tokens h hF.bd hgx hF.bud,Qn]
   obtain⟨i1,i2⟩:=QDQ (hS0 hb) hfull hxm hb
   have hT:=Qwc (tokens:=tokens) h hF.bd hF.pl hgx hb
   have hTm:(Qek n s.States[k.toNat] b tokens).States.length≤s.States.length:=Qx9 hT.apart i1
   generalize hx0:s.States[k.toNat]=x at hx ex hgx hxm i1 i2 hT hTm ⊢
   generalize Qek n x b tokens=t at i1 i2 hT hTm ⊢
   have main:Qg (QK (fun st=>QdR t s st) 0) fun q:Unit⊕Unit=>q=.inr ():=by
    refine Qg.up t.States.length (fun st=>st) (fun _=>True) rfl trivial (fun i st hi hn2 _=>?_)
    replace hi:st=(i:Int):=hi
    subst hi
    show Qg (QdR t s i) _
    unfold QdR
    refine T1 (fun hc3=>?_) (fun _=>T2 (Qm rfl))
    simp only [QE]at hc3
    have j1:i<t.States.length:=by omega
    have hym:=Qao j1
    rw [Q1,Qw j1,Qn]
    obtain⟨r,hr,hr2⟩:=Qx8 h hFac.good (by omega) (hT.good _ hym)
    rw [hr,Qn]
    have:0≤r:=by
     rcases hr2 with⟨_,g⟩|⟨j,rfl,_⟩
     ·exact absurd (i1 _ hym) g
     omega
    rw [QeK (by omega),cond_false]
    exact T2 (QC ⟨j1,Qx j1 (by unfold maxLen;omega),trivial⟩)
   obtain⟨q,hq1,rfl⟩:=main
   rw [hq1,Qn]
   show QfF true t s k=some true
   unfold QfF QmU
   obtain⟨r,hr⟩:=hT.head
   have hf0:QeR t x=some ((0:Nat):Int):=QDM h hT.good (by omega) hT.apart (by rw [hr];rfl)
   rw [i2,Qb5 (by omega),ex,Qn,hf0];rfl
end Go.Proofs
