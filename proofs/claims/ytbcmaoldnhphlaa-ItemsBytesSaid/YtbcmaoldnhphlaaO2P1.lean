/- A part of the proof; what it holds is told at each theorem. -/
import Derived.Test.YtbcmaoldnhphlaaO2T1
import Derived.Test.YtbcmaoldnhphlaaO2XPlA
import Derived.KernelRfl
set_option linter.unusedVariables false
set_option linter.unusedSimpArgs false
set_option linter.unusedSectionVars false
set_option linter.deprecated false
noncomputable section
namespace Go.Proofs
open Go Go.RowKit Go.Vm
set_option maxRecDepth 100000 in
theorem QnP : QfY=some true:=by kernel_rfl
end Go.Proofs
noncomputable section
namespace Go.Proofs
open Go Go.RowKit Go.Vm
open Classical in
theorem QeE {α:Type}{a b:List α}(hl:a.length=b.length)(hm:a.length≤maxLen){body:Int→Option (Int⊕(Unit⊕Unit))}
  (hs:∀(i:Nat) x y,a[i]? = some x→b[i]? = some y→body (i:Int)=some (bif !(decide (x=y))then .inr (.inl ())else .inl (w64 ((i:Int)+1))))
  (hf:body (a.length:Int)=some (.inr (.inr ()))):QU body 0=some (bif decide (a=b)then .inr ()else .inl ()):=by
 have h:=QnO (body:=body) (l:=a) (fun i=>(i:Int)) (fun i x=>!(decide (b[i]? = some x))) (.inl ()) (.inr ()) (fun i x hi hx=>by
  have hy:=QW (show i<b.length by omega)
  rw [hs i x _ hx hy,hy,QiB hi hm]
  have:decide (some b[i]=some x)=decide (x=b[i]):=by rw [decide_eq_decide];exact⟨fun h=>(Option.some.inj h).symm,fun h=>by rw [h]⟩
  rw [this]) hf rfl
 refine Eq.trans h ?_
 congr 1
 by_cases e:a=b
 ·subst e
  have:QiD (fun i x=>!(decide (a[i]? = some x))) 0 a=false:=Qkf.2 fun i x hx=>by simp [hx]
  rw [this];simp
 have:QiD (fun i x=>!(decide (b[i]? = some x))) 0 a=true:=by
  rw [←Bool.not_eq_false,Qkf]
  intro h'
  refine e (List.ext_getElem? fun i=>?_)
  by_cases hi:i<a.length
  ·have:=h' i a[i] (QW hi)
   simp only [Bool.not_eq_false',Qed]at this
   rw [this,QW hi]
  rw [List.getElem?_eq_none (by omega),List.getElem?_eq_none (by omega)]
 rw [this];simp [e]
open Classical in
theorem QlG (a b:Int):(a==b)=decide (a=b):=by rw [Bool.eq_iff_iff];simp
open Classical in
theorem QoI (a b:Int):(a != b)=!decide (a=b):=by rw [Bool.eq_iff_iff];simp
theorem Qa5 {α:Type}{l:List α}{i:Nat}{x:α}(h:l[i]? = some x):idx l (i:Int)=some x:=by rw [Qof];exact h
theorem ltN {α:Type}{l:List α}{i:Nat}{x:α}(h:l[i]? = some x):decide ((i:Int)<(l.length:Int))=true:=QgX (by have:=(QD.1 h).1;omega)
theorem ltE {n:Nat}:decide ((n:Int)<(n:Int))=false:=Qh2 (by omega)
theorem Qhk {α:Type}{a b:List α}(h:a.length=b.length):((a.length:Int) != (b.length:Int))=false:=by simp [h]
theorem QfR {α:Type}{a b:List α}(h:¬a.length=b.length):((a.length:Int) != (b.length:Int))=true:=by simp;omega
open Classical in
theorem QjO {a b:List Int}(hm:a.length≤maxLen):QaB a b=some (decide (a=b)):=by
 unfold QaB
 by_cases hl:a.length=b.length
 ·rw [Qhk hl,QeE hl hm (fun i x y hx hy=>by
   show Qal a b (i:Int)=_
   unfold Qal
   rw [ltN hx,Qa5 hx,Qa5 hy]
   simp only [cond_true,QC,QoI]
   by_cases e:x=y<;>simp [e]) (by
   show Qal a b (a.length:Int)=_
   unfold Qal
   rw [ltE];rfl)]
  by_cases e:a=b<;>simp [e,QbS,QbT]
 rw [QfR hl]
 have:a≠b:=fun e=>hl (by rw [e])
 simp [this]
open Classical in
theorem QkD {a b:List Int}(hm:a.length≤maxLen):Qb9 a b=some (decide (a=b)):=by
 unfold Qb9
 by_cases hl:a.length=b.length
 ·rw [Qhk hl,QeE hl hm (fun i x y hx hy=>by
   show QbE a b (i:Int)=_
   unfold QbE
   rw [ltN hx,Qa5 hx,Qa5 hy]
   simp only [cond_true,QC,QoI]
   by_cases e:x=y<;>simp [e]) (by
   show QbE a b (a.length:Int)=_
   unfold QbE
   rw [ltE];rfl)]
  by_cases e:a=b<;>simp [e,Qe2,Qe3]
 rw [QfR hl]
 have:a≠b:=fun e=>hl (by rw [e])
 simp [this]
open Classical in
theorem Ql0 (x y:Int×Int):((x.1==y.1)&&(x.2==y.2))=decide (x=y):=by
 rw [Bool.eq_iff_iff];simp [Prod.ext_iff]
open Classical in
theorem QnQ {a b:List (Int×Int)}(hm:a.length≤maxLen):QaN a b=some (decide (a=b)):=by
 unfold QaN
 by_cases hl:a.length=b.length
 ·rw [Qhk hl,QeE hl hm (fun i x y hx hy=>by
   show Q9 a b (i:Int)=_
   unfold Q9
   rw [ltN hx,Qa5 hx,Qa5 hy]
   simp only [cond_true,QC]
   rw [Ql0]
   by_cases e:x=y<;>simp [e]) (by
   show Q9 a b (a.length:Int)=_
   unfold Q9
   rw [ltE];rfl)]
  by_cases e:a=b<;>simp [e,Qa3,Qa4]
 rw [QfR hl]
 have:a≠b:=fun e=>hl (by rw [e])
 simp [this]
open Classical in
theorem Qog {a b:List (Int×Int)}(hm:a.length≤maxLen):Qfa a b=some (decide (a=b)):=by
 unfold Qfa
 by_cases hl:a.length=b.length
 ·rw [Qhk hl,QeE hl hm (fun i x y hx hy=>by
   show QbH a b (i:Int)=_
   unfold QbH
   rw [ltN hx,Qa5 hx,Qa5 hy]
   simp only [cond_true,QC]
   rw [Ql0]
   by_cases e:x=y<;>simp [e]) (by
   show QbH a b (a.length:Int)=_
   unfold QbH
   rw [ltE];rfl)]
  by_cases e:a=b<;>simp [e,Qe8,Qe9]
 rw [QfR hl]
 have:a≠b:=fun e=>hl (by rw [e])
 simp [this]
open Classical in
theorem QoJ {a b:List (List (Int×Int))}(hm:a.length≤maxLen)(hx:∀x∈a,x.length≤maxLen):QQ a b=some (decide (a=b)):=by
 unfold QQ
 by_cases hl:a.length=b.length
 ·rw [Qhk hl,QeE hl hm (fun i x y hx' hy=>by
   show Qv a b (i:Int)=_
   unfold Qv Qe5
   rw [ltN hx',Qa5 hx',Qa5 hy]
   simp only [cond_true,QC]
   rw [QnQ (hx x (Q2 hx'))]
   by_cases e:x=y<;>simp [e]) (by
   show Qv a b (a.length:Int)=_
   unfold Qv
   rw [ltE];rfl)]
  by_cases e:a=b<;>simp [e,QY,QZ]
 rw [QfR hl]
 have:a≠b:=fun e=>hl (by rw [e])
 simp [this]
open Classical in
theorem Qpj {a b:List (List (Int×Int))}(hm:a.length≤maxLen)(hx:∀x∈a,x.length≤maxLen):QcZ a b=some (decide (a=b)):=by
 unfold QcZ
 by_cases hl:a.length=b.length
 ·rw [Qhk hl,QeE hl hm (fun i x y hx' hy=>by
   show QaS a b (i:Int)=_
   unfold QaS
   rw [ltN hx',Qa5 hx',Qa5 hy]
   simp only [cond_true,QC]
   rw [Qog (hx x (Q2 hx'))]
   by_cases e:x=y<;>simp [e]) (by
   show QaS a b (a.length:Int)=_
   unfold QaS
   rw [ltE];rfl)]
  by_cases e:a=b<;>simp [e,Qdj,Qdk]
 rw [QfR hl]
 have:a≠b:=fun e=>hl (by rw [e])
 simp [this]
def lenM (o:Qab):Prop:=o.Vars.length≤maxLen∧o.Ins.length≤maxLen∧o.Outs.length≤maxLen
theorem Qnd (a b:Qab):a=b↔a.Task=b.Task∧a.Vars=b.Vars∧a.Ins=b.Ins∧a.Outs=b.Outs:=by
 cases a;cases b;simp
theorem Qoh (a b:Qam):a=b↔a.Most=b.Most∧a.Enough=b.Enough∧a.Open=b.Open∧a.Done=b.Done∧a.Failed=b.Failed:=by
 cases a;cases b;simp
theorem Qne (a b:Qk):a=b↔a.Id=b.Id∧a.Mode=b.Mode∧a.Batch=b.Batch∧a.Until=b.Until:=by
 cases a;cases b;simp
theorem Qnf (a b:QS):a=b↔a.M=b.M∧a.Items=b.Items∧a.Next=b.Next∧a.Now=b.Now:=by
 cases a;cases b;simp
open Classical in
theorem Qoi {a b:Qab}(h:lenM a):Qfb a b=some (decide (a=b)):=by
 unfold Qfb Qhh Qdt
 rw [QkD h.1,QkD h.2.1,QkD h.2.2]
 simp only [QlG]
 by_cases e1:a.Task=b.Task<;>by_cases e2:a.Vars=b.Vars<;>by_cases e3:a.Ins=b.Ins<;>by_cases e4:a.Outs=b.Outs<;>simp [Qnd,e1,e2,e3,e4]
open Classical in
theorem Qng (a b:Qam):((a.Most==b.Most)&&((a.Enough==b.Enough)&&((a.Open==b.Open)&&((a.Done==b.Done)&&(a.Failed==b.Failed)))))=decide (a=b):=by
 rw [Bool.eq_iff_iff];simp [Qoh]
open Classical in
theorem QlW {a b:Qk}(h:lenM a.Mode):QcY a b=some (decide (a=b)):=by
 unfold QcY Qfk Qcc
 rw [QjO h.1,QjO h.2.1,QjO h.2.2,Qng]
 simp only [QlG]
 by_cases e1:a.Id=b.Id<;>by_cases e2:a.Batch=b.Batch<;>by_cases e3:a.Until=b.Until<;>by_cases e4:a.Mode.Task=b.Mode.Task<;>by_cases e5:a.Mode.Vars=b.Mode.Vars<;>by_cases e6:a.Mode.Ins=b.Mode.Ins<;>by_cases e7:a.Mode.Outs=b.Mode.Outs<;>simp [Qne,Qnd,e1,e2,e3,e4,e5,e6,e7]
open Classical in
theorem Qoj {a b:Qk}(h:lenM a.Mode):Qc0 a b=some (decide (a=b)):=by
 unfold Qc0 Qfl Qcd
 rw [Qoi h,Qng]
 simp only [QlG]
 by_cases e1:a.Id=b.Id<;>by_cases e2:a.Batch=b.Batch<;>by_cases e3:a.Until=b.Until<;>by_cases e4:a.Mode=b.Mode<;>simp [Qne,e1,e2,e3,e4]
open Classical in
theorem QoK {a b:List Qk}(hm:a.length≤maxLen)(hx:∀x∈a,lenM x.Mode):QT a b=some (decide (a=b)):=by
 unfold QT
 by_cases hl:a.length=b.length
 ·rw [Qhk hl,QeE hl hm (fun i x y hx' hy=>by
   show Qx a b (i:Int)=_
   unfold Qx
   rw [ltN hx',Qa5 hx',Qa5 hy]
   simp only [cond_true,QC]
   rw [QlW (hx x (Q2 hx'))]
   by_cases e:x=y<;>simp [e]) (by
   show Qx a b (a.length:Int)=_
   unfold Qx
   rw [ltE];rfl)]
  by_cases e:a=b<;>simp [e,Q5,Q6]
 rw [QfR hl]
 have:a≠b:=fun e=>hl (by rw [e])
 simp [this]
open Classical in
theorem Qpk {a b:List Qk}(hm:a.length≤maxLen)(hx:∀x∈a,lenM x.Mode):Qei a b=some (decide (a=b)):=by
 unfold Qei
 by_cases hl:a.length=b.length
 ·rw [Qhk hl,QeE hl hm (fun i x y hx' hy=>by
   show Qbs a b (i:Int)=_
   unfold Qbs
   rw [ltN hx',Qa5 hx',Qa5 hy]
   simp only [cond_true,QC]
   rw [Qoj (hx x (Q2 hx'))]
   by_cases e:x=y<;>simp [e]) (by
   show Qbs a b (a.length:Int)=_
   unfold Qbs
   rw [ltE];rfl)]
  by_cases e:a=b<;>simp [e,Qer,Qes]
 rw [QfR hl]
 have:a≠b:=fun e=>hl (by rw [e])
 simp [this]
def lenC (c:QS):Prop:=c.M.length≤maxLen∧(∀x∈c.M,x.length≤maxLen)∧c.Items.length≤maxLen∧∀x∈c.Items,lenM x.Mode
open Classical in
theorem Ql1 {a b:QS}(h:lenC a):QcF a b=some (decide (a=b)):=by
 unfold QcF Qhf Qdr
 rw [QoJ h.1 h.2.1,QoK h.2.2.1 h.2.2.2]
 simp only [QlG]
 by_cases e1:a.Next=b.Next<;>by_cases e2:a.Now=b.Now<;>by_cases e3:a.M=b.M<;>by_cases e4:a.Items=b.Items<;>simp [Qnf,e1,e2,e3,e4]
open Classical in
theorem QmL {a b:QS}(h:lenC a):Qfc a b=some (decide (a=b)):=by
 unfold Qfc Qhi Qdu
 rw [Qpj h.1 h.2.1,Qpk h.2.2.1 h.2.2.2]
 simp only [QlG]
 by_cases e1:a.Next=b.Next<;>by_cases e2:a.Now=b.Now<;>by_cases e3:a.M=b.M<;>by_cases e4:a.Items=b.Items<;>simp [Qnf,e1,e2,e3,e4]
end Go.Proofs
noncomputable section
namespace Go.Proofs
open Go Go.RowKit Go.Vm
def Fit (x:Qk):Prop:=x.Mode.Vars.length≤4294967296∧x.Mode.Ins.length≤4294967296∧x.Mode.Outs.length≤4294967296
def dropL (l:List Qk)(id:Int):List Qk:=l.filter fun x=>x.Id != id
def QkE (x:Qk):List Qk→List Qk
 | []=>[x]
 | y::r=>if x.Id<y.Id then x::y::r else y::QkE x r
def Qpl (l:List Qk)(x:Qk):List Qk:=QkE x (dropL l x.Id)
theorem QkO (x:Qk):∀l:List Qk,(QkE x l).Perm (x::l)
 | []=>List.Perm.refl _
 | y::r=>by
  rw [QkE];split
  ·exact List.Perm.refl _
  exact(List.Perm.cons y (QkO x r)).trans (List.Perm.swap x y r)
def Up (l:List Qk):Prop:=l.Pairwise fun a b=>a.Id<b.Id
theorem Up.ext : ∀{l m:List Qk},Up l→Up m→(∀x,x∈l↔x∈m)→l=m
 | [],[],_,_,_=>rfl
 | [],y::m,_,_,h=>by have:=(h y).2 QaR;cases this
 | x::l,[],_,_,h=>by have:=(h x).1 QaR;cases this
 | x::l,y::m,hl,hm,h=>by
  obtain⟨l1,l2⟩:=List.pairwise_cons.1 hl
  obtain⟨m1,m2⟩:=List.pairwise_cons.1 hm
  have e:x=y:=by
   rcases QaQ.1 ((h x).1 QaR)with e | hx
   ·exact e
   rcases QaQ.1 ((h y).2 QaR)with e | hy
   ·exact e.symm
   have:=m1 x hx;have:=l1 y hy;omega
  subst e
  rw [Up.ext l2 m2 fun z=>?_]
  have:=h z
  simp only [QaQ]at this
  constructor
  ·intro hz
   rcases this.1 (.inr hz)with e | h'
   ·subst e;have:=l1 z hz;omega
   exact h'
  intro hz
  rcases this.2 (.inr hz)with e | h'
  ·subst e;have:=m1 z hz;omega
  exact h'
theorem Up.drop {l:List Qk}(h:Up l)(id:Int):Up (dropL l id):=List.Pairwise.filter _ h
theorem QnR {l:List Qk}{id:Int}{x:Qk}:x∈dropL l id↔x∈l∧x.Id≠id:=by simp [dropL,List.mem_filter]
theorem Up.ins {x:Qk}:∀{l:List Qk},Up l→(∀y∈l,y.Id≠x.Id)→Up (QkE x l)
 | [],_,_=>List.pairwise_singleton _ _
 | y::r,h,hn=>by
  obtain⟨h1,h2⟩:=List.pairwise_cons.1 h
  rw [QkE]
  split
  ·rename_i hlt
   refine List.pairwise_cons.2 ⟨fun z hz=>?_,h⟩
   rcases QaQ.1 hz with rfl | hz
   ·exact hlt
   have:=h1 z hz;omega
  rename_i hge
  have hy:=hn y QaR
  refine List.pairwise_cons.2 ⟨fun z hz=>?_,Up.ins h2 fun z hz=>hn z (Qbt _ hz)⟩
  rcases QaQ.1 ((QkO x r).mem_iff.1 hz)with rfl | hz
  ·omega
  exact h1 z hz
theorem Up.put {l:List Qk}(h:Up l)(x:Qk):Up (Qpl l x):=(h.drop x.Id).ins fun y hy=>(QnR.1 hy).2
def Qdl (l:List Qk):Nat:=(l.map fun x=>x.Mode.Vars.length+x.Mode.Ins.length+x.Mode.Outs.length).sum
end Go.Proofs
noncomputable section
namespace Go.Proofs
open Go Go.RowKit Go.Vm
def Qfd (x:Qk):Nat:=x.Mode.Vars.length+x.Mode.Ins.length+x.Mode.Outs.length
def Can (x:Qk):Prop:=x.Mode.Vars.length≤17592186044416∧x.Mode.Ins.length≤17592186044416∧x.Mode.Outs.length≤17592186044416
theorem QkP {l:List Qk}{i:Nat}{x:Qk}(h:l[i]? = some x):Qdl (l.take (i+1))=Qdl (l.take i)+Qfd x:=by
 rw [List.take_add_one,h];simp [Qdl,Qfd]
theorem Ql2 {l:List Qk}(h:∀x∈l,Can x):∀{i:Nat},i≤l.length→Qdl (l.take i)≤i*52776558133248
 | 0,_=>by simp [Qdl]
 | i+1,hi=>by
  rw [QkP (QW hi)]
  have h1:=Ql2 h (Nat.le_of_succ_le hi)
  have h2:=h _ (Qeb hi)
  unfold Can at h2;unfold Qfd;omega
theorem QnS {l:List Qk}{x:Qk}(h:x∈l):Qfd x≤Qdl l:=by
 unfold Qdl
 induction l with
 | nil=>cases h
 | cons y l ih=>
  rw [Qcn,List.sum_cons]
  rcases QaQ.1 h with rfl | h
  ·unfold Qfd;omega
  have:=ih h;omega
theorem w3 (a b c d:Int):w64 (w64 (w64 (a+b)+c)+d)=w64 (a+b+c+d):=by
 rw [QkB,Int.add_assoc (w64 (a+b)) c d,QkB];congr 1;omega
theorem Qnh {l:List Qk}(h:∀x∈l,Can x):Qd7 l=some (decide (l.length≤80∧Qdl l≤1000)):=by
 unfold Qd7
 by_cases h80:l.length≤80
 ·rw [Qh2 (show ¬(80:Int)<(l.length:Int) by omega),cond_false]
  have h':=QkC (body:=fun st:Int×Int=>Qbq l st.1 st.2) l.length (fun i s=>s=((Qdl (l.take i):Int),(i:Int))) (fun r=>r=(Qdl l:Int)) (fun i s hi hs=>by
   subst hs
   left
   have hx:l[i]? = some l[i]:=QW hi
   show ∃s',Qbq l (Qdl (l.take i):Int) (i:Int)=_∧_
   unfold Qbq
   rw [ltN hx,Qa5 hx]
   simp only [cond_true,QC]
   refine⟨_,rfl,?_⟩
   have h1:=Ql2 h (Nat.le_of_lt hi)
   have h2:=h _ (Qeb hi)
   unfold Can at h2
   rw [w3,QkP hx,QiB hi (QbB h80 (by decide))]
   have e:((Qdl (l.take i):Int)+(l[i].Mode.Vars.length:Int)+(l[i].Mode.Ins.length:Int)+(l[i].Mode.Outs.length:Int))=((Qdl (l.take i)+Qfd l[i]:Nat):Int):=by unfold Qfd;omega
   rw [e,QfQ (by unfold Qfd;omega)]) (fun s hs=>by
   subst hs
   refine⟨_,?_,rfl⟩
   show Qbq l (Qdl (l.take l.length):Int) (l.length:Int)=_
   unfold Qbq
   rw [ltE,QgV];rfl) (0,0) rfl
  obtain⟨r,hr,rfl⟩:=h'
  rw [hr]
  show some (decide ((Qdl l:Int)≤1000))=_
  congr 1
  rw [decide_eq_decide]
  constructor
  ·intro h;exact⟨h80,by omega⟩
  intro h;omega
 rw [QgX (show(80:Int)<(l.length:Int) by omega),Qh2 (fun h=>h80 h.1)];rfl
theorem Fit.of {x:Qk}(h:Qfd x≤1000):Fit x:=by unfold Qfd at h;unfold Fit;omega
theorem Qok {m:Qab}(h:m.Vars.length≤17592186044416∧m.Ins.length≤17592186044416∧m.Outs.length≤17592186044416):lenM m:=by
 have:(17592186044416:Nat)≤maxLen:=by decide
 exact⟨QbB h.1 this,QbB h.2.1 this,QbB h.2.2 this⟩
theorem Fit.lenM {x:Qk}(h:Fit x):lenM x.Mode:=Qok (by unfold Fit at h;omega)
end Go.Proofs
noncomputable section
namespace Go.Proofs
open Go Go.RowKit Go.Vm
def Qhl (n:Int)(k:Nat):Int:=(n % 18446744073709551616) / (2 ^ (8*k):Nat) % 256
def Qjf (n:Int):Nat→List Int
 | 0=>[]
 | k+1=>Qhl n k::Qjf n k
def Qbg (n:Int):List Int:=Qjf n 8
theorem Qt (n:Int):(Qbg n).length=8:=rfl
theorem QE (ns:List Int):(ns.flatMap Qbg).length=8*ns.length:=by
 induction ns with
 | nil=>rfl
 | cons x ns ih=>rw [List.flatMap_cons,QI,ih,Qt,Q1];omega
theorem Qn2 (k:Nat)(x:Int)(hk:k<8):IntKind.u8.wrap (Qr .u64 (IntKind.u64.wrap x) (w64 (8*(k:Int))))=Qhl x k:=by
 show(Qr .u64 (x % 18446744073709551616) (w64 (8*(k:Int)))) % 256=_
 rw [QfQ (by omega)]
 unfold Qr Qhl
 rw [show(8*(k:Int)).toNat=8*k by omega,show min (8*k) (IntKind.bits .u64)=8*k from Nat.min_eq_left (by show 8*k≤64;omega),Int.fdiv_eq_ediv_of_nonneg _ (Int.pow_nonneg (by omega))]
 simp
theorem QiE (k:Nat)(j:Int)(x:Int)(hk:k<8)(hj:j=8*(k:Int)):IntKind.u8.wrap (Qr .u64 (IntKind.u64.wrap x) j)=Qhl x k:=by
 rw [←Qn2 k x hk,hj,QfQ (by omega)]
theorem Qo5 (x:Int):IntKind.u8.wrap (IntKind.u64.wrap x)=Qhl x 0:=by
 show x % 18446744073709551616 % 256=_
 unfold Qhl;simp
theorem Qni (n:Int):([(IntKind.u8.wrap (Qr .u64 (IntKind.u64.wrap n) 56)),(IntKind.u8.wrap (Qr .u64 (IntKind.u64.wrap n) 48)),(IntKind.u8.wrap (Qr .u64 (IntKind.u64.wrap n) 40)),(IntKind.u8.wrap (Qr .u64 (IntKind.u64.wrap n) 32)),(IntKind.u8.wrap (Qr .u64 (IntKind.u64.wrap n) 24)),(IntKind.u8.wrap (Qr .u64 (IntKind.u64.wrap n) 16)),(IntKind.u8.wrap (Qr .u64 (IntKind.u64.wrap n) 8)),(IntKind.u8.wrap (IntKind.u64.wrap n))]:List Int)=Qbg n:=by
 rw [QiE 7 56 n (by omega) rfl,QiE 6 48 n (by omega) rfl,QiE 5 40 n (by omega) rfl,QiE 4 32 n (by omega) rfl,QiE 3 24 n (by omega) rfl,QiE 2 16 n (by omega) rfl,QiE 1 8 n (by omega) rfl,Qo5];rfl
theorem QaT {l:List Int}{n:Int}(h:l.length+8≤4294967296):QM l n=some (l++Qbg n):=by
 unfold QM
 rw [Qni,Qk6 (by rw [Qt];exact h)];rfl
theorem Qnj (n:Int):Qd9 n=some (Qbg n):=by
 unfold Qd9
 rw [Qni,Qk6 (by rw [Qt];decide)];rfl
theorem Ql3 (e:Int):∀(k:Nat) (l:List Int),k≤8→l.length+k≤4294967296→QU (fun st=>Qaq e st.1 st.2) ((k:Int)-1,l)=some (l++Qjf e k)
 | 0,l,_,_=>by
  rw [Qej]
  show((Qaq e ((0:Nat)-1) l).bind _)=_
  unfold Qaq
  rw [Qh2 (by omega)]
  simp [Qjf]
 | k+1,l,hk,hl=>by
  rw [Qej]
  have e1:(((k+1:Nat):Int)-1)=(k:Int):=by omega
  have e2:w64 ((k:Int)-1)=(k:Int)-1:=QfQ (by omega)
  have e3:Qaq e (((k+1:Nat):Int)-1) l=some (.inl ((k:Int)-1,l++[Qhl e k])):=by
   unfold Qaq
   rw [e1,Qn2 k e (by omega),QgX (show(0:Int)≤(k:Int) by omega),cond_true,Qk6 (by rw [QfQ (by omega)];omega),QC,Qk6 (by simp only [QI,Qt,Q1,Qae,QE];omega),QC,e2]
  show((Qaq e (((k+1:Nat):Int)-1) l).bind _)=_
  rw [e3]
  show QU (fun st=>Qaq e st.1 st.2) ((k:Int)-1,l++[Qhl e k])=_
  rw [Ql3 e k _ (by omega) (by simp only [QI,Qt,Q1,Qae,QE];omega)]
  simp [Qjf]
theorem Qft {α:Type}{L:List α}{E:α→List Int}{body:Int×List Int→Option ((Int×List Int)⊕List Int)}(hm:L.length≤maxLen)
  (hs:∀(i:Nat) x l,L[i]? = some x→l.length+(E x).length≤4294967296→body ((i:Int),l)=some (.inl (w64 ((i:Int)+1),l++E x)))
  (hf:∀l,body ((L.length:Int),l)=some (.inr l)) {l0:List Int} (h:l0.length+(L.flatMap E).length≤4294967296):QU body (0,l0)=some (l0++L.flatMap E):=by
 have h':=QkC (body:=body) L.length (fun i s=>s=((i:Int),l0++(L.take i).flatMap E)) (fun r=>r=l0++L.flatMap E) (fun i s hi hs'=>by
  subst hs'
  left
  have hx:L[i]? = some L[i]:=QW hi
  have htk:L.take (i+1)=L.take i++[L[i]]:=by rw [List.take_add_one,hx];rfl
  have hle:((L.take (i+1)).flatMap E).length≤(L.flatMap E).length:=by
   have:L.flatMap E=(L.take (i+1)).flatMap E++(L.drop (i+1)).flatMap E:=by rw [←List.flatMap_append,List.take_append_drop]
   rw [this,QI];omega
  rw [htk,List.flatMap_append,QI,show [L[i]].flatMap E=E L[i] by simp]at hle
  refine⟨_,hs i _ _ hx (by rw [QI];omega),?_⟩
  rw [QiB hi hm,htk,List.flatMap_append,show [L[i]].flatMap E=E L[i] by simp,Qcv]) (fun s hs'=>by
  subst hs'
  refine⟨_,hf _,?_⟩
  rw [QgV]) (0,l0) (by simp)
 obtain⟨r,hr,rfl⟩:=h'
 exact hr
theorem QkF {n:Nat}(h:n≤4294967296):n≤maxLen:=QbB h (by decide)
theorem QiF {α:Type}{E:α→List Int}{L:List α}(h:∀x∈L,1≤(E x).length):L.length≤(L.flatMap E).length:=by
 induction L with
 | nil=>simp
 | cons x L ih=>
  have:=h x QaR
  have:=ih fun y hy=>h y (Qbt _ hy)
  rw [List.flatMap_cons,QI,Q1];omega
theorem Qjg {l ns:List Int}(h:l.length+8*ns.length≤4294967296):Qac l ns=some (l++ns.flatMap Qbg):=by
 unfold Qac
 rw [Qft (E:=Qbg) (L:=ns) (QkF (by omega)) (fun i x m hx hm=>by
  show Qba ns (i:Int) m=_
  unfold Qba
  rw [ltN hx,Qa5 hx,cond_true,QC]
  have:=Ql3 x 8 m (Qbi _) (by rw [Qt]at hm;exact hm)
  rw [show(((8:Nat):Int)-1)=7 by omega]at this
  rw [this];rfl) (fun m=>by
  show Qba ns (ns.length:Int) m=_
  unfold Qba
  rw [ltE];rfl) (by rw [QE];exact h)]
 rfl
theorem QoL {ns:List Int}(h:8*ns.length≤4294967296):QfF ns=some (ns.flatMap Qbg):=(Qjg (l:=[]) (by simpa using h)).trans (by simp)
theorem QoM {l:List Int}{n:Int}(h:l.length+8≤4294967296):QfG l n=some (l++Qbg n):=by
 unfold QfG
 rw [Qjg (by simpa using h)];simp
def QaO {α:Type}(E:α→List Int)(l:List α):List Int:=Qbg l.length++l.flatMap E
theorem QbV {α:Type}(E:α→List Int)(l:List α):(QaO E l).length=8+(l.flatMap E).length:=by simp [QaO,Qt]
def Qcm (o:Qab):List Int:=Qbg o.Task++(QaO Qbg o.Vars++(QaO Qbg o.Ins++QaO Qbg o.Outs))
def Qgl (p:Int×Int):List Int:=Qbg p.1++Qbg p.2
def Qca (b:List (Int×Int)):List Int:=QaO Qgl b
def Qfu (b:Qam)(u:Int):List Int:=[b.Most,b.Enough,b.Open,b.Done,b.Failed,u].flatMap Qbg
def Qbb (x:Qk):List Int:=Qbg x.Id++(Qcm x.Mode++Qfu x.Batch x.Until)
def Qdc (c:QS):List Int:=Qbg c.Next++(Qbg c.Now++(QaO Qca c.M++QaO Qbb c.Items))
def Qdd (c:Qap):List Int:=Qbg c.Do++(Qbg c.Id++(Qcm c.Mode++Qbg c.Num))
theorem Qjq {α:Type}{E:α→List Int}{L:List α}{body:Int×List Int→Option ((Int×List Int)⊕List Int)}{f:List Int→Option (List Int)}(hE:∀x∈L,1≤(E x).length)
  (hs:∀(i:Nat) x l,L[i]? = some x→l.length+(E x).length≤4294967296→body ((i:Int),l)=some (.inl (w64 ((i:Int)+1),l++E x)))
  (hf:∀l,body ((L.length:Int),l)=some (.inr l)) {l:List Int} (h:l.length+(QaO E L).length≤4294967296):
  ((Qac l [(L.length:Int)]).bind fun x4=>(QU body (0,x4)).bind fun q=>some q)=some (l++QaO E L):=by
 rw [QbV]at h
 rw [Qjg (by simp only [QI,Qt,Q1,Qae,QE];omega),QC]
 have:=QiF hE
 rw [Qft (E:=E) (QkF (by omega)) hs hf (by simp only [QI,Qt,Q1,Qae,QE];omega)]
 simp [QaO]
theorem QkG {l ns:List Int}(h:l.length+(QaO Qbg ns).length≤4294967296):Qcq l ns=some (l++QaO Qbg ns):=
 Qjq (f:=some) (fun x _=>by rw [Qt];omega) (fun i x m hx hm=>by
  show QaY ns (i:Int) m=_
  unfold QaY
  rw [ltN hx,Qa5 hx,cond_true,QC,QoM (by rw [Qt]at hm;exact hm)];rfl) (fun m=>by
  show QaY ns (ns.length:Int) m=_
  unfold QaY
  rw [ltE];rfl) h
theorem Ql4 {l:List Int}{o:Qab}(h:l.length+(Qcm o).length≤4294967296):QdD l o=some (l++Qcm o):=by
 unfold Qcm at h
 simp only [QI,Qt]at h
 unfold QdD
 rw [Qjg (by simp only [QI,Qt,Q1,Qae,QE];omega),QC,QkG (by simp only [QI,Qt,Q1,Qae,QE];omega),QC,QkG (by simp only [QI,Qt,Q1,Qae,QE];omega),QC,QkG (by simp only [QI,Qt,Q1,Qae,QE];omega)]
 simp [Qcm]
theorem Qea (p:Int×Int):(Qgl p).length=16:=rfl
theorem QoN {l:List Int}{b:List (Int×Int)}(h:l.length+(Qca b).length≤4294967296):QfH l b=some (l++Qca b):=by
 unfold QfH
 have:QdT l b=some (l++Qca b):=Qjq (f:=some) (fun x _=>by rw [Qea];omega) (fun i x m hx hm=>by
  show QaM b (i:Int) m=_
  unfold QaM QfW
  rw [ltN hx,Qa5 hx,cond_true,QC,Qjg (by rw [Qea]at hm;simpa using hm)]
  simp [Qgl]) (fun m=>by
  show QaM b (b.length:Int) m=_
  unfold QaM
  rw [ltE];rfl) h
 rw [this];rfl
theorem Qol {l:List Int}{b:List (List (Int×Int))}(h:l.length+(QaO Qca b).length≤4294967296):Qdh l b=some (l++QaO Qca b):=
 Qjq (f:=some) (fun x _=>by unfold Qca;rw [QbV];omega) (fun i x m hx hm=>by
  show QaA b (i:Int) m=_
  unfold QaA
  rw [ltN hx,Qa5 hx,cond_true,QC,QoN hm];rfl) (fun m=>by
  show QaA b (b.length:Int) m=_
  unfold QaA
  rw [ltE];rfl) h
theorem Qom {l:List Int}{x:Qk}(h:l.length+(Qbb x).length≤4294967296):QeU l x=some (l++Qbb x):=by
 unfold Qbb Qfu at h
 simp only [QI,Qt,QE]at h
 unfold QeU
 rw [Qjg (by simp only [QI,Qt,Q1,Qae,QE];omega),QC,Ql4 (by simp only [QI,Qt,Q1,Qae,QE];omega),QC,Qjg (by simp only [QI,Qt,Q1,Qae,QE]at h ⊢;omega)]
 simp [Qbb,Qfu]
theorem QnT {l:List Int}{b:List Qk}(h:l.length+(QaO Qbb b).length≤4294967296):QcW l b=some (l++QaO Qbb b):=
 Qjq (f:=some) (fun x _=>by unfold Qbb;simp [Qt];omega) (fun i x m hx hm=>by
  show Qau b (i:Int) m=_
  unfold Qau
  rw [ltN hx,Qa5 hx,cond_true,QC,Qom hm];rfl) (fun m=>by
  show Qau b (b.length:Int) m=_
  unfold Qau
  rw [ltE];rfl) h
theorem QkV {c:QS}(h:(Qdc c).length≤4294967296):Qbz c=some (Qdc c):=by
 unfold Qdc at h
 simp only [QI,Qt]at h
 unfold Qbz
 rw [QoL (by simp),QC,Qol (by simp only [QI,Qt,Q1,Qae,QE];omega),QC,QnT (by simp only [QI,Qt,Q1,Qae,QE];omega)]
 simp [Qdc]
theorem QkW {c:Qap}(h:(Qdd c).length≤4294967296):Qby c=some (Qdd c):=by
 unfold Qdd at h
 simp only [QI,Qt]at h
 unfold Qby
 rw [QoL (by simp),QC,Ql4 (by simp only [QI,Qt,Q1,Qae,QE];omega),QC,Qjg (by simp only [QI,Qt,Q1,Qae,QE];omega)]
 simp [Qdd]
theorem QjP {l ns:List Int}(h:l.length+(QaO Qbg ns).length≤4294967296):QcG l ns=some (l++QaO Qbg ns):=by
 rw [QbV,QE]at h
 unfold QcG
 rw [QaT (by omega),QC,Qft (E:=Qbg) (L:=ns) (QkF (by omega)) (fun i x m hx hm=>by
  show QbF ns (i:Int) m=_
  unfold QbF
  rw [ltN hx,Qa5 hx,cond_true,QC,QaT (by rw [Qt]at hm;exact hm)];rfl) (fun m=>by
  show QbF ns (ns.length:Int) m=_
  unfold QbF
  rw [ltE];rfl) (by rw [QE];simp [Qt];omega)]
 simp [QaO,Qe6]
theorem QlH {l:List Int}{o:Qab}(h:l.length+(Qcm o).length≤4294967296):QdK l o=some (l++Qcm o):=by
 unfold Qcm at h
 simp only [QI,Qt]at h
 unfold QdK
 rw [QaT (by omega),QC,QjP (by simp only [QI,Qt,Q1,Qae,QE];omega),QC,QjP (by simp only [QI,Qt,Q1,Qae,QE];omega),QC,QjP (by simp only [QI,Qt,Q1,Qae,QE];omega)]
 simp [Qcm]
theorem QkX {c:Qap}(h:(Qdd c).length≤4294967296):Qcs c=some (Qdd c):=by
 unfold Qdd at h
 simp only [QI,Qt]at h
 unfold Qcs
 rw [Qnj,QC,QaT (by rw [Qt];decide),QC,QlH (by simp only [QI,Qt,Q1,Qae,QE];omega),QC,QaT (by simp only [QI,Qt,Q1,Qae,QE];omega)]
 simp [Qdd]
theorem QkY {c:QS}(h:(Qdc c).length≤4294967296):Qcr c=some (Qdc c):=by
 unfold Qdc at h
 simp only [QI,Qt,QbV]at h
 unfold Qcr
 have h1:=QiF (E:=Qca) (L:=c.M) (fun x _=>by unfold Qca;rw [QbV];omega)
 have h2:=QiF (E:=Qbb) (L:=c.Items) (fun x _=>by unfold Qbb;simp [Qt];omega)
 rw [Qnj,QC,QaT (by rw [Qt];decide),QC,QaT (by simp [Qt]),QC,Qft (E:=Qca) (L:=c.M) (QkF (by omega)) (fun i b m hb hm=>by
  show QaH c (i:Int) m=_
  unfold Qca at hm
  rw [QbV]at hm
  have h3:=QiF (E:=Qgl) (L:=b) (fun x _=>by rw [Qea];omega)
  unfold QaH
  rw [ltN hb,Qa5 hb,cond_true,QC,QaT (by omega),QC,Qft (E:=Qgl) (L:=b) (QkF (by omega)) (fun j p n hp hn=>by
   show QaG c (i:Int) (j:Int) n=_
   rw [Qea]at hn
   unfold QaG
   rw [Qa5 hb,QC,ltN hp,cond_true,QC,Qa5 hp,QC,QaT (by omega),QC,QC,Qa5 hp,QC,QaT (by simp only [QI,Qt,Q1,Qae,QE];omega)]
   simp [Qgl]) (fun n=>by
   show QaG c (i:Int) (b.length:Int) n=_
   unfold QaG
   rw [Qa5 hb,QC,ltE];rfl) (by simp only [QI,Qt,Q1,Qae,QE];omega)]
  simp [Qca,QaO,QcH]) (fun m=>by
  show QaH c (c.M.length:Int) m=_
  unfold QaH
  rw [ltE];rfl) (by simp only [QI,Qt,Q1,Qae,QE];omega),QC]
 unfold QcJ
 rw [QaT (by simp only [QI,Qt,Q1,Qae,QE];omega),QC,Qft (E:=Qbb) (L:=c.Items) (QkF (by omega)) (fun i x m hx hm=>by
  show QaI c (i:Int) m=_
  unfold Qbb Qfu at hm
  simp only [QI,Qt,QE,Q1,Qae]at hm
  unfold QaI
  rw [ltN hx,Qa5 hx,cond_true,QC,QaT (by omega),QC,QlH (by simp only [QI,Qt,Q1,Qae,QE];omega),QC]
  rw [QaT (by simp only [QI,Qt,Q1,Qae,QE];omega),QC,QaT (by simp only [QI,Qt,Q1,Qae,QE];omega),QC,QaT (by simp only [QI,Qt,Q1,Qae,QE];omega),QC,QaT (by simp only [QI,Qt,Q1,Qae,QE];omega),QC,QaT (by simp only [QI,Qt,Q1,Qae,QE];omega),QC,QaT (by simp only [QI,Qt,Q1,Qae,QE];omega),QC]
  simp [Qbb,Qfu]) (fun m=>by
  show QaI c (c.Items.length:Int) m=_
  unfold QaI
  rw [ltE];rfl) (by simp only [QI,Qt,Q1,Qae,QE];omega)]
 simp [Qdc,QaO,QcI]
end Go.Proofs
noncomputable section
namespace Go.Proofs
open Go Go.RowKit Go.Vm
def Qc1 (m:List (List (Int×Int))):Nat:=(m.map List.length).sum
theorem QkQ {l:List (List (Int×Int))}{i:Nat}{x:List (Int×Int)}(h:l[i]? = some x):Qc1 (l.take (i+1))=Qc1 (l.take i)+x.length:=by
 rw [List.take_add_one,h];simp [Qc1]
theorem Ql5 {l:List (List (Int×Int))}(h:∀x∈l,x.length≤17592186044416):∀{i:Nat},i≤l.length→Qc1 (l.take i)≤i*17592186044416
 | 0,_=>by simp [Qc1]
 | i+1,hi=>by
  rw [QkQ (QW hi)]
  have h1:=Ql5 h (Nat.le_of_succ_le hi)
  have h2:=h _ (Qeb hi)
  omega
theorem QnU {l:List (List (Int×Int))}{x:List (Int×Int)}(h:x∈l):x.length≤Qc1 l:=by
 unfold Qc1
 induction l with
 | nil=>cases h
 | cons y l ih=>
  rw [Qcn,List.sum_cons]
  rcases QaQ.1 h with rfl | h
  ·omega
  have:=ih h;omega
theorem Ql6 {m:List (List (Int×Int))}(h:∀x∈m,x.length≤17592186044416)(hm:m.length≤maxLen):Qd8 m=some (decide (m.length≤70)&&decide (Qc1 (m.take (min m.length 100))≤300)):=by
 unfold Qd8
 have h':=QkC (body:=fun st:Int×Int=>Qbr m st.1 st.2) (min m.length 100) (fun i s=>s=((Qc1 (m.take i):Int),(i:Int))) (fun r=>r=(Qc1 (m.take (min m.length 100)):Int)) (fun i s hi hs=>by
  subst hs
  left
  have hi2:i<m.length:=by omega
  have hx:m[i]? = some m[i]:=QW hi2
  show ∃s',Qbr m (Qc1 (m.take i):Int) (i:Int)=_∧_
  unfold Qbr
  rw [ltN hx,Qa5 hx,QgX (show(i:Int)<100 by omega)]
  simp only [cond_true,QC,Bool.true_and]
  refine⟨_,rfl,?_⟩
  have h1:=Ql5 h (Nat.le_of_lt hi2)
  have h2:=h _ (Qeb hi2)
  rw [QkQ hx,QiB hi2 hm,show((Qc1 (m.take i):Int)+(m[i].length:Int))=((Qc1 (m.take i)+m[i].length:Nat):Int) by omega,QfQ (by omega)]) (fun s hs=>by
  subst hs
  refine⟨_,?_,rfl⟩
  show Qbr m (Qc1 (m.take (min m.length 100)):Int) (min m.length 100:Nat)=_
  unfold Qbr
  have:(decide (((min m.length 100:Nat):Int)<(m.length:Int))&&decide (((min m.length 100:Nat):Int)<100))=false:=by
   rw [Bool.and_eq_false_iff,decide_eq_false_iff_not,decide_eq_false_iff_not];omega
  rw [this];rfl) (0,0) rfl
 obtain⟨r,hr,rfl⟩:=h'
 rw [hr]
 show some (decide ((m.length:Int)≤70)&&decide ((Qc1 (m.take (min m.length 100)):Int)≤300))=_
 congr 2
 ·rw [decide_eq_decide];omega
 rw [decide_eq_decide];omega
theorem QnV {m:List (List (Int×Int))}(h:(decide (m.length≤70)&&decide (Qc1 (m.take (min m.length 100))≤300))=true):m.length≤70∧∀x∈m,x.length≤300:=by
 rw [Qw,Qed,Qed]at h
 refine⟨h.1,fun x hx=>?_⟩
 rw [Nat.min_eq_left (by omega),QgV]at h
 have:=QnU hx;omega
theorem Ql7 {α:Type}{E:α→List Int}{b:Nat}{L:List α}(h:∀x∈L,(E x).length≤b):(L.flatMap E).length≤L.length*b:=by
 induction L with
 | nil=>simp
 | cons x L ih=>
  have h1:=h x QaR
  have h2:=ih fun y hy=>h y (Qbt _ hy)
  rw [List.flatMap_cons,QI,Q1,Nat.succ_mul];omega
theorem QjB (o:Qab):(Qcm o).length=32+8*(o.Vars.length+o.Ins.length+o.Outs.length):=by
 unfold Qcm
 simp only [QI,Qt,QbV,QE];omega
theorem QlX (x:Qk):(Qbb x).length=88+8*Qfd x:=by
 unfold Qbb Qfu Qfd
 simp only [QI,Qt,QjB,QE,Q1,Qae];omega
theorem QmM (b:List (Int×Int)):(Qca b).length=8+16*b.length:=by
 unfold Qca
 rw [QbV]
 congr 1
 induction b with
 | nil=>rfl
 | cons p b ih=>rw [List.flatMap_cons,QI,Qea,ih,Q1];omega
def QlI (c:QS):Prop:=(c.M.length≤70∧∀b∈c.M,b.length≤300)∧c.Items.length≤80∧∀x∈c.Items,Qfd x≤1000
theorem QlI.len {c:QS}(h:QlI c):(Qdc c).length≤4294967296:=by
 obtain⟨⟨h1,h2⟩,h3,h4⟩:=h
 unfold Qdc
 simp only [QI,Qt,QbV]
 have a1:=Ql7 (E:=Qca) (b:=5000) (L:=c.M) fun x hx=>by rw [QmM];have:=h2 x hx;omega
 have a2:=Ql7 (E:=Qbb) (b:=9000) (L:=c.Items) fun x hx=>by rw [QlX];have:=h4 x hx;omega
 omega
theorem QlI.lenC {c:QS}(h:QlI c):lenC c:=by
 obtain⟨⟨h1,h2⟩,h3,h4⟩:=h
 have m:(1000:Nat)≤maxLen:=by decide
 refine⟨by omega,fun b hb=>by have:=h2 b hb;omega,by omega,fun x hx=>?_⟩
 have:=h4 x hx
 unfold Qfd at this
 exact⟨by omega,by omega,by omega⟩
def QlJ (o:Qab):Prop:=o.Vars.length≤17592186044416∧o.Ins.length≤17592186044416∧o.Outs.length≤17592186044416
def QnW (c:QS):Prop:=(c.M.length≤17592186044416∧∀b∈c.M,b.length≤17592186044416)∧∀x∈c.Items,Can x
theorem Qnk {n:Nat}(h:n≤17592186044416):n≤maxLen:=QbB h (by decide)
theorem QlK {c:QS}(h1:c.Items.length≤80∧Qdl c.Items≤1000)(h2:(decide (c.M.length≤70)&&decide (Qc1 (c.M.take (min c.M.length 100))≤300))=true):QlI c:=
 ⟨QnV h2,h1.1,fun x hx=>QbB (QnS hx) h1.2⟩
theorem Qo6 {o:Qab}(h:QlJ o):w64 (w64 ((o.Vars.length:Int)+(o.Ins.length:Int))+(o.Outs.length:Int))=((o.Vars.length+o.Ins.length+o.Outs.length:Nat):Int):=by
 unfold QlJ at h
 rw [QkB,QfQ (by omega)];omega
theorem QlL {k:Qap}(h:k.Mode.Vars.length+k.Mode.Ins.length+k.Mode.Outs.length≤100):(Qdd k).length≤4294967296:=by
 unfold Qdd
 simp only [QI,Qt,QjB];omega
theorem Qkg (s:ByteArray):Qee s s=true:=by unfold Qee;exact beq_self_eq_true _
theorem QmN {c d:QS}{k:Qap}(hc:QnW c)(hd:QnW d)(hk:QlJ k.Mode):QbA c k d=some true:=by
 unfold QbA
 rw [QnP,QC,Qnh hc.2,QC,Qnh hd.2,QC,Ql6 hc.1.2 (Qnk hc.1.1),QC,Ql6 hd.1.2 (Qnk hd.1.1),QC,Qo6 hk]
 by_cases f1:c.Items.length≤80∧Qdl c.Items≤1000
 ·rw [QgX f1]
  by_cases f2:d.Items.length≤80∧Qdl d.Items≤1000
  ·rw [QgX f2]
   cases f3:(decide (c.M.length≤70)&&decide (Qc1 (c.M.take (min c.M.length 100))≤300))with
   | false=>rfl
   | true=>
    cases f4:(decide (d.M.length≤70)&&decide (Qc1 (d.M.take (min d.M.length 100))≤300))with
    | false=>rfl
    | true=>
     by_cases f5:k.Mode.Vars.length+k.Mode.Ins.length+k.Mode.Outs.length≤100
     ·rw [Qh2 (show ¬(100:Int)<((k.Mode.Vars.length+k.Mode.Ins.length+k.Mode.Outs.length:Nat):Int) by omega)]
      have e1:=QlK f1 f3
      have e2:=QlK f2 f4
      simp only [Bool.not_true,Bool.or_false,cond_false]
      unfold QeD
      rw [cond_true,QkV e1.len,QC,QkY e1.len,QC,Qkg,cond_true,QkW (QlL f5),QC,QkX (QlL f5),QC,Qkg,cond_true,Ql1 e1.lenC,QC,QmL e1.lenC,QC,Ql1 e1.lenC]
      simp
      rfl
     rw [QgX (show(100:Int)<((k.Mode.Vars.length+k.Mode.Ins.length+k.Mode.Outs.length:Nat):Int) by omega)];rfl
  rw [Qh2 f2];rfl
 rw [Qh2 f1];rfl
end Go.Proofs
