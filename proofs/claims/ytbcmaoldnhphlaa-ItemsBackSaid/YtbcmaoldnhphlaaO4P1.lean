/- A part of the proof; what it holds is told at each theorem. -/
import Derived.Test.YtbcmaoldnhphlaaO4T1
import Derived.Test.YtbcmaoldnhphlaaO4XPlA
import Derived.KernelRfl
set_option linter.unusedVariables false
set_option linter.unusedSimpArgs false
set_option linter.unusedSectionVars false
set_option linter.deprecated false
noncomputable section
namespace Go.Proofs
open Go Go.RowKit Go.Vm
set_option maxRecDepth 100000 in
theorem QnM : QfI=some true:=by kernel_rfl
end Go.Proofs
noncomputable section
namespace Go.Proofs
open Go Go.RowKit Go.Vm
open Classical in
theorem Qi8 {α:Type}{a b:List α}(hl:a.length=b.length)(hm:a.length≤maxLen){body:Int→Option (Int⊕(Unit⊕Unit))}
  (hs:∀(i:Nat) x y,a[i]? = some x→b[i]? = some y→body (i:Int)=some (bif !(decide (x=y))then .inr (.inl ())else .inl (w64 ((i:Int)+1))))
  (hf:body (a.length:Int)=some (.inr (.inr ()))):QK body 0=some (bif decide (a=b)then .inr ()else .inl ()):=by
 have h:=QnL (body:=body) (l:=a) (fun i=>(i:Int)) (fun i x=>!(decide (b[i]? = some x))) (.inl ()) (.inr ()) (fun i x hi hx=>by
  have hy:=QR (show i<b.length by omega)
  rw [hs i x _ hx hy,hy,Qgt hi hm]
  have:decide (some b[i]=some x)=decide (x=b[i]):=by rw [decide_eq_decide];exact⟨fun h=>(Option.some.inj h).symm,fun h=>by rw [h]⟩
  rw [this]) hf rfl
 refine Eq.trans h ?_
 congr 1
 by_cases e:a=b
 ·subst e
  have:Qig (fun i x=>!(decide (a[i]? = some x))) 0 a=false:=QjX.2 fun i x hx=>by simp [hx]
  rw [this];simp
 have:Qig (fun i x=>!(decide (b[i]? = some x))) 0 a=true:=by
  rw [←Bool.not_eq_false,QjX]
  intro h'
  refine e (List.ext_getElem? fun i=>?_)
  by_cases hi:i<a.length
  ·have:=h' i a[i] (QR hi)
   simp only [Bool.not_eq_false',Qei]at this
   rw [this,QR hi]
  rw [List.getElem?_eq_none (by omega),List.getElem?_eq_none (by omega)]
 rw [this];simp [e]
open Classical in
theorem QnN (a b:Int):(a==b)=decide (a=b):=by rw [Bool.eq_iff_iff];simp
open Classical in
theorem QpI (a b:Int):(a != b)=!decide (a=b):=by rw [Bool.eq_iff_iff];simp
theorem Qd6 {α:Type}{l:List α}{i:Nat}{x:α}(h:l[i]? = some x):idx l (i:Int)=some x:=by rw [Qok];exact h
theorem ltN {α:Type}{l:List α}{i:Nat}{x:α}(h:l[i]? = some x):decide ((i:Int)<(l.length:Int))=true:=QcN (by have:=(QB.1 h).1;omega)
theorem ltE {n:Nat}:decide ((n:Int)<(n:Int))=false:=QcM (by omega)
theorem QkR {α:Type}{a b:List α}(h:a.length=b.length):((a.length:Int) != (b.length:Int))=false:=by simp [h]
theorem QjY {α:Type}{a b:List α}(h:¬a.length=b.length):((a.length:Int) != (b.length:Int))=true:=by simp;omega
open Classical in
theorem Qfd {a b:List Int}(hm:a.length≤maxLen):Q7 a b=some (decide (a=b)):=by
 unfold Q7
 by_cases hl:a.length=b.length
 ·rw [QkR hl,Qi8 hl hm (fun i x y hx hy=>by
   show Qap a b (i:Int)=_
   unfold Qap
   rw [ltN hx,Qd6 hx,Qd6 hy]
   simp only [cond_true,Qt,QpI]
   by_cases e:x=y<;>simp [e]) (by
   show Qap a b (a.length:Int)=_
   unfold Qap
   rw [ltE];rfl)]
  by_cases e:a=b<;>simp [e,Qb3,Qb4]
 rw [QjY hl]
 have:a≠b:=fun e=>hl (by rw [e])
 simp [this]
open Classical in
theorem Qol (x y:Int×Int):((x.1==y.1)&&(x.2==y.2))=decide (x=y):=by
 rw [Bool.eq_iff_iff];simp [Prod.ext_iff]
open Classical in
theorem QnO {a b:List (Int×Int)}(hm:a.length≤maxLen):QaX a b=some (decide (a=b)):=by
 unfold QaX
 by_cases hl:a.length=b.length
 ·rw [QkR hl,Qi8 hl hm (fun i x y hx hy=>by
   show Q8 a b (i:Int)=_
   unfold Q8
   rw [ltN hx,Qd6 hx,Qd6 hy]
   simp only [cond_true,Qt]
   rw [Qol]
   by_cases e:x=y<;>simp [e]) (by
   show Q8 a b (a.length:Int)=_
   unfold Q8
   rw [ltE];rfl)]
  by_cases e:a=b<;>simp [e,Qbe,Qbf]
 rw [QjY hl]
 have:a≠b:=fun e=>hl (by rw [e])
 simp [this]
open Classical in
theorem QoT {a b:List (List (Int×Int))}(hm:a.length≤maxLen)(hx:∀x∈a,x.length≤maxLen):QJ a b=some (decide (a=b)):=by
 unfold QJ
 by_cases hl:a.length=b.length
 ·rw [QkR hl,Qi8 hl hm (fun i x y hx' hy=>by
   show Qs a b (i:Int)=_
   unfold Qs QeW
   rw [ltN hx',Qd6 hx',Qd6 hy]
   simp only [cond_true,Qt]
   rw [QnO (hx x (QZ hx'))]
   by_cases e:x=y<;>simp [e]) (by
   show Qs a b (a.length:Int)=_
   unfold Qs
   rw [ltE];rfl)]
  by_cases e:a=b<;>simp [e,QU,QV]
 rw [QjY hl]
 have:a≠b:=fun e=>hl (by rw [e])
 simp [this]
def lenM (o:QX):Prop:=o.Vars.length≤maxLen∧o.Ins.length≤maxLen∧o.Outs.length≤maxLen
theorem Qm9 (a b:QX):a=b↔a.Task=b.Task∧a.Vars=b.Vars∧a.Ins=b.Ins∧a.Outs=b.Outs:=by
 cases a;cases b;simp
theorem Qom (a b:Qab):a=b↔a.Most=b.Most∧a.Enough=b.Enough∧a.Open=b.Open∧a.Done=b.Done∧a.Failed=b.Failed:=by
 cases a;cases b;simp
theorem QoU (a b:Qj):a=b↔a.Id=b.Id∧a.Mode=b.Mode∧a.Batch=b.Batch∧a.Until=b.Until:=by
 cases a;cases b;simp
theorem QoV (a b:QN):a=b↔a.M=b.M∧a.Items=b.Items∧a.Next=b.Next∧a.Now=b.Now:=by
 cases a;cases b;simp
open Classical in
theorem QnP {a b:QX}(h:lenM a):Qee a b=some (decide (a=b)):=by
 unfold Qee Qhz QdW
 rw [Qfd h.1,Qfd h.2.1,Qfd h.2.2]
 simp only [QnN]
 by_cases e1:a.Task=b.Task<;>by_cases e2:a.Vars=b.Vars<;>by_cases e3:a.Ins=b.Ins<;>by_cases e4:a.Outs=b.Outs<;>simp [Qm9,e1,e2,e3,e4]
open Classical in
theorem QoW (a b:Qab):((a.Most==b.Most)&&((a.Enough==b.Enough)&&((a.Open==b.Open)&&((a.Done==b.Done)&&(a.Failed==b.Failed)))))=decide (a=b):=by
 rw [Bool.eq_iff_iff];simp [Qom]
open Classical in
theorem QlM {a b:Qj}(h:lenM a.Mode):Qdd a b=some (decide (a=b)):=by
 unfold Qdd Qe5 Qcm
 rw [Qfd h.1,Qfd h.2.1,Qfd h.2.2,QoW]
 simp only [QnN]
 by_cases e1:a.Id=b.Id<;>by_cases e2:a.Batch=b.Batch<;>by_cases e3:a.Until=b.Until<;>by_cases e4:a.Mode.Task=b.Mode.Task<;>by_cases e5:a.Mode.Vars=b.Mode.Vars<;>by_cases e6:a.Mode.Ins=b.Mode.Ins<;>by_cases e7:a.Mode.Outs=b.Mode.Outs<;>simp [QoU,Qm9,e1,e2,e3,e4,e5,e6,e7]
open Classical in
theorem QoX {a b:List Qj}(hm:a.length≤maxLen)(hx:∀x∈a,lenM x.Mode):QO a b=some (decide (a=b)):=by
 unfold QO
 by_cases hl:a.length=b.length
 ·rw [QkR hl,Qi8 hl hm (fun i x y hx' hy=>by
   show Qx a b (i:Int)=_
   unfold Qx
   rw [ltN hx',Qd6 hx',Qd6 hy]
   simp only [cond_true,Qt]
   rw [QlM (hx x (QZ hx'))]
   by_cases e:x=y<;>simp [e]) (by
   show Qx a b (a.length:Int)=_
   unfold Qx
   rw [ltE];rfl)]
  by_cases e:a=b<;>simp [e,Q2,Q3]
 rw [QjY hl]
 have:a≠b:=fun e=>hl (by rw [e])
 simp [this]
def lenC (c:QN):Prop:=c.M.length≤maxLen∧(∀x∈c.M,x.length≤maxLen)∧c.Items.length≤maxLen∧∀x∈c.Items,lenM x.Mode
open Classical in
theorem Qon {a b:QN}(h:lenC a):Qc0 a b=some (decide (a=b)):=by
 unfold Qc0 QgZ QdC
 rw [QoT h.1 h.2.1,QoX h.2.2.1 h.2.2.2]
 simp only [QnN]
 by_cases e1:a.Next=b.Next<;>by_cases e2:a.Now=b.Now<;>by_cases e3:a.M=b.M<;>by_cases e4:a.Items=b.Items<;>simp [QoV,e1,e2,e3,e4]
end Go.Proofs
noncomputable section
namespace Go.Proofs
open Go Go.RowKit Go.Vm
def Fit (x:Qj):Prop:=x.Mode.Vars.length≤4294967296∧x.Mode.Ins.length≤4294967296∧x.Mode.Outs.length≤4294967296
def dropL (l:List Qj)(id:Int):List Qj:=l.filter fun x=>x.Id != id
def Qkr (x:Qj):List Qj→List Qj
 | []=>[x]
 | y::r=>if x.Id<y.Id then x::y::r else y::Qkr x r
def QpJ (l:List Qj)(x:Qj):List Qj:=Qkr x (dropL l x.Id)
theorem QkA (x:Qj):∀l:List Qj,(Qkr x l).Perm (x::l)
 | []=>List.Perm.refl _
 | y::r=>by
  rw [Qkr];split
  ·exact List.Perm.refl _
  exact(List.Perm.cons y (QkA x r)).trans (List.Perm.swap x y r)
def Up (l:List Qj):Prop:=l.Pairwise fun a b=>a.Id<b.Id
theorem Up.ext : ∀{l m:List Qj},Up l→Up m→(∀x,x∈l↔x∈m)→l=m
 | [],[],_,_,_=>rfl
 | [],y::m,_,_,h=>by have:=(h y).2 QaU;cases this
 | x::l,[],_,_,h=>by have:=(h x).1 QaU;cases this
 | x::l,y::m,hl,hm,h=>by
  obtain⟨l1,l2⟩:=List.pairwise_cons.1 hl
  obtain⟨m1,m2⟩:=List.pairwise_cons.1 hm
  have e:x=y:=by
   rcases QaP.1 ((h x).1 QaU)with e | hx
   ·exact e
   rcases QaP.1 ((h y).2 QaU)with e | hy
   ·exact e.symm
   have:=m1 x hx;have:=l1 y hy;omega
  subst e
  rw [Up.ext l2 m2 fun z=>?_]
  have:=h z
  simp only [QaP]at this
  constructor
  ·intro hz
   rcases this.1 (.inr hz)with e | h'
   ·subst e;have:=l1 z hz;omega
   exact h'
  intro hz
  rcases this.2 (.inr hz)with e | h'
  ·subst e;have:=m1 z hz;omega
  exact h'
theorem Up.drop {l:List Qj}(h:Up l)(id:Int):Up (dropL l id):=List.Pairwise.filter _ h
theorem QnQ {l:List Qj}{id:Int}{x:Qj}:x∈dropL l id↔x∈l∧x.Id≠id:=by simp [dropL,List.mem_filter]
theorem Up.ins {x:Qj}:∀{l:List Qj},Up l→(∀y∈l,y.Id≠x.Id)→Up (Qkr x l)
 | [],_,_=>List.pairwise_singleton _ _
 | y::r,h,hn=>by
  obtain⟨h1,h2⟩:=List.pairwise_cons.1 h
  rw [Qkr]
  split
  ·rename_i hlt
   refine List.pairwise_cons.2 ⟨fun z hz=>?_,h⟩
   rcases QaP.1 hz with rfl | hz
   ·exact hlt
   have:=h1 z hz;omega
  rename_i hge
  have hy:=hn y QaU
  refine List.pairwise_cons.2 ⟨fun z hz=>?_,Up.ins h2 fun z hz=>hn z (Qbu _ hz)⟩
  rcases QaP.1 ((QkA x r).mem_iff.1 hz)with rfl | hz
  ·omega
  exact h1 z hz
theorem Up.put {l:List Qj}(h:Up l)(x:Qj):Up (QpJ l x):=(h.drop x.Id).ins fun y hy=>(QnQ.1 hy).2
def QdR (l:List Qj):Nat:=(l.map fun x=>x.Mode.Vars.length+x.Mode.Ins.length+x.Mode.Outs.length).sum
end Go.Proofs
noncomputable section
namespace Go.Proofs
open Go Go.RowKit Go.Vm
def QeY (x:Qj):Nat:=x.Mode.Vars.length+x.Mode.Ins.length+x.Mode.Outs.length
def Can (x:Qj):Prop:=x.Mode.Vars.length≤17592186044416∧x.Mode.Ins.length≤17592186044416∧x.Mode.Outs.length≤17592186044416
theorem QkB {l:List Qj}{i:Nat}{x:Qj}(h:l[i]? = some x):QdR (l.take (i+1))=QdR (l.take i)+QeY x:=by
 rw [List.take_add_one,h];simp [QdR,QeY]
theorem QlR {l:List Qj}(h:∀x∈l,Can x):∀{i:Nat},i≤l.length→QdR (l.take i)≤i*52776558133248
 | 0,_=>by simp [QdR]
 | i+1,hi=>by
  rw [QkB (QR hi)]
  have h1:=QlR h (Nat.le_of_succ_le hi)
  have h2:=h _ (Qeg hi)
  unfold Can at h2;unfold QeY;omega
theorem QnR {l:List Qj}{x:Qj}(h:x∈l):QeY x≤QdR l:=by
 unfold QdR
 induction l with
 | nil=>cases h
 | cons y l ih=>
  rw [Qcx,List.sum_cons]
  rcases QaP.1 h with rfl | h
  ·unfold QeY;omega
  have:=ih h;omega
theorem w3 (a b c d:Int):w64 (w64 (w64 (a+b)+c)+d)=w64 (a+b+c+d):=by
 rw [Qkq,Int.add_assoc (w64 (a+b)) c d,Qkq];congr 1;omega
theorem QoY {l:List Qj}(h:∀x∈l,Can x):Qft l=some (decide (l.length≤80∧QdR l≤1000)):=by
 unfold Qft
 by_cases h80:l.length≤80
 ·rw [QcM (show ¬(80:Int)<(l.length:Int) by omega),cond_false]
  have h':=Qi7 (body:=fun st:Int×Int=>QbF l st.1 st.2) l.length (fun i s=>s=((QdR (l.take i):Int),(i:Int))) (fun r=>r=(QdR l:Int)) (fun i s hi hs=>by
   subst hs
   left
   have hx:l[i]? = some l[i]:=QR hi
   show ∃s',QbF l (QdR (l.take i):Int) (i:Int)=_∧_
   unfold QbF
   rw [ltN hx,Qd6 hx]
   simp only [cond_true,Qt]
   refine⟨_,rfl,?_⟩
   have h1:=QlR h (Nat.le_of_lt hi)
   have h2:=h _ (Qeg hi)
   unfold Can at h2
   rw [w3,QkB hx,Qgt hi (Qbi h80 (by decide))]
   have e:((QdR (l.take i):Int)+(l[i].Mode.Vars.length:Int)+(l[i].Mode.Ins.length:Int)+(l[i].Mode.Outs.length:Int))=((QdR (l.take i)+QeY l[i]:Nat):Int):=by unfold QeY;omega
   rw [e,QfC (by unfold QeY;omega)]) (fun s hs=>by
   subst hs
   refine⟨_,?_,rfl⟩
   show QbF l (QdR (l.take l.length):Int) (l.length:Int)=_
   unfold QbF
   rw [ltE,QgF];rfl) (0,0) rfl
  obtain⟨r,hr,rfl⟩:=h'
  rw [hr]
  show some (decide ((QdR l:Int)≤1000))=_
  congr 1
  rw [decide_eq_decide]
  constructor
  ·intro h;exact⟨h80,by omega⟩
  intro h;omega
 rw [QcN (show(80:Int)<(l.length:Int) by omega),QcM (fun h=>h80 h.1)];rfl
theorem Fit.of {x:Qj}(h:QeY x≤1000):Fit x:=by unfold QeY at h;unfold Fit;omega
theorem Qoo {m:QX}(h:m.Vars.length≤17592186044416∧m.Ins.length≤17592186044416∧m.Outs.length≤17592186044416):lenM m:=by
 have:(17592186044416:Nat)≤maxLen:=by decide
 exact⟨Qbi h.1 this,Qbi h.2.1 this,Qbi h.2.2 this⟩
theorem Fit.lenM {x:Qj}(h:Fit x):lenM x.Mode:=Qoo (by unfold Fit at h;omega)
end Go.Proofs
noncomputable section
namespace Go.Proofs
open Go Go.RowKit Go.Vm
def Qa4 (n:Int)(k:Nat):Int:=(n % 18446744073709551616) / (2 ^ (8*k):Nat) % 256
def QhA (n:Int):Nat→List Int
 | 0=>[]
 | k+1=>Qa4 n k::QhA n k
def Qad (n:Int):List Int:=QhA n 8
theorem QM (n:Int):(Qad n).length=8:=rfl
theorem Qaj (ns:List Int):(ns.flatMap Qad).length=8*ns.length:=by
 induction ns with
 | nil=>rfl
 | cons x ns ih=>rw [QiX,QY,ih,QM,QaH];omega
theorem Qps (k:Nat)(x:Int)(hk:k<8):IntKind.u8.wrap (Qda .u64 (IntKind.u64.wrap x) (w64 (8*(k:Int))))=Qa4 x k:=by
 show(Qda .u64 (x % 18446744073709551616) (w64 (8*(k:Int)))) % 256=_
 rw [QfC (by omega)]
 unfold Qda Qa4
 rw [show(8*(k:Int)).toNat=8*k by omega,show min (8*k) (IntKind.bits .u64)=8*k from Nat.min_eq_left (by show 8*k≤64;omega),Int.fdiv_eq_ediv_of_nonneg _ (Int.pow_nonneg (by omega))]
 simp
theorem QlS (e:Int):∀(k:Nat) (l:List Int),k≤8→l.length+k≤4294967296→QK (fun st=>Qau e st.1 st.2) ((k:Int)-1,l)=some (l++QhA e k)
 | 0,l,_,_=>by
  rw [Qbj]
  show((Qau e ((0:Nat)-1) l).bind _)=_
  unfold Qau
  rw [QcM (by omega)]
  simp [QhA]
 | k+1,l,hk,hl=>by
  rw [Qbj]
  have e1:(((k+1:Nat):Int)-1)=(k:Int):=by omega
  have e2:w64 ((k:Int)-1)=(k:Int)-1:=QfC (by omega)
  have e3:Qau e (((k+1:Nat):Int)-1) l=some (.inl ((k:Int)-1,l++[Qa4 e k])):=by
   unfold Qau
   rw [e1,Qps k e (by omega),QcN (show(0:Int)≤(k:Int) by omega),cond_true,QmA (by rw [QfC (by omega)];omega),Qt,QmA (by simp only [QY,QM,QaH,QbH,Qaj];omega),Qt,e2]
  show((Qau e (((k+1:Nat):Int)-1) l).bind _)=_
  rw [e3]
  show QK (fun st=>Qau e st.1 st.2) ((k:Int)-1,l++[Qa4 e k])=_
  rw [QlS e k _ (by omega) (by simp only [QY,QM,QaH,QbH,Qaj];omega)]
  simp [QhA]
theorem Qlt {α:Type}{L:List α}{E:α→List Int}{body:Int×List Int→Option ((Int×List Int)⊕List Int)}(hm:L.length≤maxLen)
  (hs:∀(i:Nat) x l,L[i]? = some x→l.length+(E x).length≤4294967296→body ((i:Int),l)=some (.inl (w64 ((i:Int)+1),l++E x)))
  (hf:∀l,body ((L.length:Int),l)=some (.inr l)) {l0:List Int} (h:l0.length+(L.flatMap E).length≤4294967296):QK body (0,l0)=some (l0++L.flatMap E):=by
 have h':=Qi7 (body:=body) L.length (fun i s=>s=((i:Int),l0++(L.take i).flatMap E)) (fun r=>r=l0++L.flatMap E) (fun i s hi hs'=>by
  subst hs'
  left
  have hx:L[i]? = some L[i]:=QR hi
  have htk:L.take (i+1)=L.take i++[L[i]]:=by rw [List.take_add_one,hx];rfl
  have hle:((L.take (i+1)).flatMap E).length≤(L.flatMap E).length:=by
   have:L.flatMap E=(L.take (i+1)).flatMap E++(L.drop (i+1)).flatMap E:=by rw [←List.flatMap_append,List.take_append_drop]
   rw [this,QY];omega
  rw [htk,List.flatMap_append,QY,show [L[i]].flatMap E=E L[i] by simp]at hle
  refine⟨_,hs i _ _ hx (by rw [QY];omega),?_⟩
  rw [Qgt hi hm,htk,List.flatMap_append,show [L[i]].flatMap E=E L[i] by simp,QaT]) (fun s hs'=>by
  subst hs'
  refine⟨_,hf _,?_⟩
  rw [QgF]) (0,l0) (by simp)
 obtain⟨r,hr,rfl⟩:=h'
 exact hr
theorem QoZ {n:Nat}(h:n≤4294967296):n≤maxLen:=Qbi h (by decide)
theorem QnS {α:Type}{E:α→List Int}{L:List α}(h:∀x∈L,1≤(E x).length):L.length≤(L.flatMap E).length:=by
 induction L with
 | nil=>simp
 | cons x L ih=>
  have:=h x QaU
  have:=ih fun y hy=>h y (Qbu _ hy)
  rw [QiX,QY,QaH];omega
theorem QiV {l ns:List Int}(h:l.length+8*ns.length≤4294967296):Q9 l ns=some (l++ns.flatMap Qad):=by
 unfold Q9
 rw [Qlt (E:=Qad) (L:=ns) (QoZ (by omega)) (fun i x m hx hm=>by
  show Qbn ns (i:Int) m=_
  unfold Qbn
  rw [ltN hx,Qd6 hx,cond_true,Qt]
  have:=QlS x 8 m (Qbv _) (by rw [QM]at hm;exact hm)
  rw [show(((8:Nat):Int)-1)=7 by omega]at this
  rw [this];rfl) (fun m=>by
  show Qbn ns (ns.length:Int) m=_
  unfold Qbn
  rw [ltE];rfl) (by rw [Qaj];exact h)]
 rfl
theorem Qo0 {ns:List Int}(h:8*ns.length≤4294967296):Qfq ns=some (ns.flatMap Qad):=(QiV (l:=[]) (by simpa using h)).trans (by simp)
theorem Qo1 {l:List Int}{n:Int}(h:l.length+8≤4294967296):Qfr l n=some (l++Qad n):=by
 unfold Qfr
 rw [QiV (by simpa using h)];simp
def Qar {α:Type}(E:α→List Int)(l:List α):List Int:=Qad l.length++l.flatMap E
theorem QdX {α:Type}(E:α→List Int)(l:List α):(Qar E l).length=8+(l.flatMap E).length:=by simp [Qar,QM]
def QbQ (o:QX):List Int:=Qad o.Task++(Qar Qad o.Vars++(Qar Qad o.Ins++Qar Qad o.Outs))
def QdY (p:Int×Int):List Int:=Qad p.1++Qad p.2
def Qef (b:List (Int×Int)):List Int:=Qar QdY b
def Qdh (b:Qab)(u:Int):List Int:=[b.Most,b.Enough,b.Open,b.Done,b.Failed,u].flatMap Qad
def Qbc (x:Qj):List Int:=Qad x.Id++(QbQ x.Mode++Qdh x.Batch x.Until)
def Qb9 (c:QN):List Int:=Qad c.Next++(Qad c.Now++(Qar Qef c.M++Qar Qbc c.Items))
def Qca (c:Q6):List Int:=Qad c.Do++(Qad c.Id++(QbQ c.Mode++Qad c.Num))
theorem Qi9 {α:Type}{E:α→List Int}{L:List α}{body:Int×List Int→Option ((Int×List Int)⊕List Int)}{f:List Int→Option (List Int)}(hE:∀x∈L,1≤(E x).length)
  (hs:∀(i:Nat) x l,L[i]? = some x→l.length+(E x).length≤4294967296→body ((i:Int),l)=some (.inl (w64 ((i:Int)+1),l++E x)))
  (hf:∀l,body ((L.length:Int),l)=some (.inr l)) {l:List Int} (h:l.length+(Qar E L).length≤4294967296):
  ((Q9 l [(L.length:Int)]).bind fun x4=>(QK body (0,x4)).bind fun q=>some q)=some (l++Qar E L):=by
 rw [QdX]at h
 rw [QiV (by simp only [QY,QM,QaH,QbH,Qaj];omega),Qt]
 have:=QnS hE
 rw [Qlt (E:=E) (QoZ (by omega)) hs hf (by simp only [QY,QM,QaH,QbH,Qaj];omega)]
 simp [Qar]
theorem Qks {l ns:List Int}(h:l.length+(Qar Qad ns).length≤4294967296):QcA l ns=some (l++Qar Qad ns):=
 Qi9 (f:=some) (fun x _=>by rw [QM];omega) (fun i x m hx hm=>by
  show Qa5 ns (i:Int) m=_
  unfold Qa5
  rw [ltN hx,Qd6 hx,cond_true,Qt,Qo1 (by rw [QM]at hm;exact hm)];rfl) (fun m=>by
  show Qa5 ns (ns.length:Int) m=_
  unfold Qa5
  rw [ltE];rfl) h
theorem QlT {l:List Int}{o:QX}(h:l.length+(QbQ o).length≤4294967296):QdL l o=some (l++QbQ o):=by
 unfold QbQ at h
 simp only [QY,QM]at h
 unfold QdL
 rw [QiV (by simp only [QY,QM,QaH,QbH,Qaj];omega),Qt,Qks (by simp only [QY,QM,QaH,QbH,Qaj];omega),Qt,Qks (by simp only [QY,QM,QaH,QbH,Qaj];omega),Qt,Qks (by simp only [QY,QM,QaH,QbH,Qaj];omega)]
 simp [QbQ]
theorem Qfv (p:Int×Int):(QdY p).length=16:=rfl
theorem Qo2 {l:List Int}{b:List (Int×Int)}(h:l.length+(Qef b).length≤4294967296):Qfs l b=some (l++Qef b):=by
 unfold Qfs
 have:Qd4 l b=some (l++Qef b):=Qi9 (f:=some) (fun x _=>by rw [Qfv];omega) (fun i x m hx hm=>by
  show QaW b (i:Int) m=_
  unfold QaW QfG
  rw [ltN hx,Qd6 hx,cond_true,Qt,QiV (by rw [Qfv]at hm;simpa using hm)]
  simp [QdY]) (fun m=>by
  show QaW b (b.length:Int) m=_
  unfold QaW
  rw [ltE];rfl) h
 rw [this];rfl
theorem Qop {l:List Int}{b:List (List (Int×Int))}(h:l.length+(Qar Qef b).length≤4294967296):Qdw l b=some (l++Qar Qef b):=
 Qi9 (f:=some) (fun x _=>by unfold Qef;rw [QdX];omega) (fun i x m hx hm=>by
  show QaJ b (i:Int) m=_
  unfold QaJ
  rw [ltN hx,Qd6 hx,cond_true,Qt,Qo2 hm];rfl) (fun m=>by
  show QaJ b (b.length:Int) m=_
  unfold QaJ
  rw [ltE];rfl) h
theorem Qoq {l:List Int}{x:Qj}(h:l.length+(Qbc x).length≤4294967296):QeO l x=some (l++Qbc x):=by
 unfold Qbc Qdh at h
 simp only [QY,QM,Qaj]at h
 unfold QeO
 rw [QiV (by simp only [QY,QM,QaH,QbH,Qaj];omega),Qt,QlT (by simp only [QY,QM,QaH,QbH,Qaj];omega),Qt,QiV (by simp only [QY,QM,QaH,QbH,Qaj]at h ⊢;omega)]
 simp [Qbc,Qdh]
theorem QnT {l:List Int}{b:List Qj}(h:l.length+(Qar Qbc b).length≤4294967296):Qdb l b=some (l++Qar Qbc b):=
 Qi9 (f:=some) (fun x _=>by unfold Qbc;simp [QM];omega) (fun i x m hx hm=>by
  show QaC b (i:Int) m=_
  unfold QaC
  rw [ltN hx,Qd6 hx,cond_true,Qt,Qoq hm];rfl) (fun m=>by
  show QaC b (b.length:Int) m=_
  unfold QaC
  rw [ltE];rfl) h
theorem Qio {c:QN}(h:(Qb9 c).length≤4294967296):Qa7 c=some (Qb9 c):=by
 unfold Qb9 at h
 simp only [QY,QM]at h
 unfold Qa7
 rw [Qo0 (by simp),Qt,Qop (by simp only [QY,QM,QaH,QbH,Qaj];omega),Qt,QnT (by simp only [QY,QM,QaH,QbH,Qaj];omega)]
 simp [Qb9]
theorem Qip {c:Q6}(h:(Qca c).length≤4294967296):Qa6 c=some (Qca c):=by
 unfold Qca at h
 simp only [QY,QM]at h
 unfold Qa6
 rw [Qo0 (by simp),Qt,QlT (by simp only [QY,QM,QaH,QbH,Qaj];omega),Qt,QiV (by simp only [QY,QM,QaH,QbH,Qaj];omega)]
 simp [Qca]
end Go.Proofs
noncomputable section
namespace Go.Proofs
open Go Go.RowKit Go.Vm
def Qdy (m:List (List (Int×Int))):Nat:=(m.map List.length).sum
theorem QkC {l:List (List (Int×Int))}{i:Nat}{x:List (Int×Int)}(h:l[i]? = some x):Qdy (l.take (i+1))=Qdy (l.take i)+x.length:=by
 rw [List.take_add_one,h];simp [Qdy]
theorem QlU {l:List (List (Int×Int))}(h:∀x∈l,x.length≤17592186044416):∀{i:Nat},i≤l.length→Qdy (l.take i)≤i*17592186044416
 | 0,_=>by simp [Qdy]
 | i+1,hi=>by
  rw [QkC (QR hi)]
  have h1:=QlU h (Nat.le_of_succ_le hi)
  have h2:=h _ (Qeg hi)
  omega
theorem QnU {l:List (List (Int×Int))}{x:List (Int×Int)}(h:x∈l):x.length≤Qdy l:=by
 unfold Qdy
 induction l with
 | nil=>cases h
 | cons y l ih=>
  rw [Qcx,List.sum_cons]
  rcases QaP.1 h with rfl | h
  ·omega
  have:=ih h;omega
theorem Qor {m:List (List (Int×Int))}(h:∀x∈m,x.length≤17592186044416)(hm:m.length≤maxLen):Qfu m=some (decide (m.length≤70)&&decide (Qdy (m.take (min m.length 100))≤300)):=by
 unfold Qfu
 have h':=Qi7 (body:=fun st:Int×Int=>QbG m st.1 st.2) (min m.length 100) (fun i s=>s=((Qdy (m.take i):Int),(i:Int))) (fun r=>r=(Qdy (m.take (min m.length 100)):Int)) (fun i s hi hs=>by
  subst hs
  left
  have hi2:i<m.length:=by omega
  have hx:m[i]? = some m[i]:=QR hi2
  show ∃s',QbG m (Qdy (m.take i):Int) (i:Int)=_∧_
  unfold QbG
  rw [ltN hx,Qd6 hx,QcN (show(i:Int)<100 by omega)]
  simp only [cond_true,Qt,Bool.true_and]
  refine⟨_,rfl,?_⟩
  have h1:=QlU h (Nat.le_of_lt hi2)
  have h2:=h _ (Qeg hi2)
  rw [QkC hx,Qgt hi2 hm,show((Qdy (m.take i):Int)+(m[i].length:Int))=((Qdy (m.take i)+m[i].length:Nat):Int) by omega,QfC (by omega)]) (fun s hs=>by
  subst hs
  refine⟨_,?_,rfl⟩
  show QbG m (Qdy (m.take (min m.length 100)):Int) (min m.length 100:Nat)=_
  unfold QbG
  have:(decide (((min m.length 100:Nat):Int)<(m.length:Int))&&decide (((min m.length 100:Nat):Int)<100))=false:=by
   rw [Bool.and_eq_false_iff,decide_eq_false_iff_not,decide_eq_false_iff_not];omega
  rw [this];rfl) (0,0) rfl
 obtain⟨r,hr,rfl⟩:=h'
 rw [hr]
 show some (decide ((m.length:Int)≤70)&&decide ((Qdy (m.take (min m.length 100)):Int)≤300))=_
 congr 2
 ·rw [decide_eq_decide];omega
 rw [decide_eq_decide];omega
theorem QnV {m:List (List (Int×Int))}(h:(decide (m.length≤70)&&decide (Qdy (m.take (min m.length 100))≤300))=true):m.length≤70∧∀x∈m,x.length≤300:=by
 rw [Qv,Qei,Qei]at h
 refine⟨h.1,fun x hx=>?_⟩
 rw [Nat.min_eq_left (by omega),QgF]at h
 have:=QnU hx;omega
theorem QlV {α:Type}{E:α→List Int}{b:Nat}{L:List α}(h:∀x∈L,(E x).length≤b):(L.flatMap E).length≤L.length*b:=by
 induction L with
 | nil=>simp
 | cons x L ih=>
  have h1:=h x QaU
  have h2:=ih fun y hy=>h y (Qbu _ hy)
  rw [QiX,QY,QaH,Nat.succ_mul];omega
theorem Qjk (o:QX):(QbQ o).length=32+8*(o.Vars.length+o.Ins.length+o.Outs.length):=by
 unfold QbQ
 simp only [QY,QM,QdX,Qaj];omega
theorem Qjl (x:Qj):(Qbc x).length=88+8*QeY x:=by
 unfold Qbc Qdh QeY
 simp only [QY,QM,Qjk,Qaj,QaH,QbH];omega
theorem QmC (b:List (Int×Int)):(Qef b).length=8+16*b.length:=by
 unfold Qef
 rw [QdX]
 congr 1
 induction b with
 | nil=>rfl
 | cons p b ih=>rw [QiX,QY,Qfv,ih,QaH];omega
def Qjy (c:QN):Prop:=(c.M.length≤70∧∀b∈c.M,b.length≤300)∧c.Items.length≤80∧∀x∈c.Items,QeY x≤1000
theorem Qjy.len4 {c:QN}(h:Qjy c):(Qb9 c).length≤4000000:=by
 obtain⟨⟨h1,h2⟩,h3,h4⟩:=h
 unfold Qb9
 simp only [QY,QM,QdX]
 have a1:=QlV (E:=Qef) (b:=5000) (L:=c.M) fun x hx=>by rw [QmC];have:=h2 x hx;omega
 have a2:=QlV (E:=Qbc) (b:=9000) (L:=c.Items) fun x hx=>by rw [Qjl];have:=h4 x hx;omega
 omega
theorem Qjy.len {c:QN}(h:Qjy c):(Qb9 c).length≤4294967296:=Qbi h.len4 (by decide)
theorem Qjy.lenC {c:QN}(h:Qjy c):lenC c:=by
 obtain⟨⟨h1,h2⟩,h3,h4⟩:=h
 have m:(1000:Nat)≤maxLen:=by decide
 refine⟨by omega,fun b hb=>by have:=h2 b hb;omega,by omega,fun x hx=>?_⟩
 have:=h4 x hx
 unfold QeY at this
 exact⟨by omega,by omega,by omega⟩
def Qlu (o:QX):Prop:=o.Vars.length≤17592186044416∧o.Ins.length≤17592186044416∧o.Outs.length≤17592186044416
def Qo3 (c:QN):Prop:=(c.M.length≤17592186044416∧∀b∈c.M,b.length≤17592186044416)∧∀x∈c.Items,Can x
theorem Qo4 {n:Nat}(h:n≤17592186044416):n≤maxLen:=Qbi h (by decide)
theorem QnW {c:QN}(h1:c.Items.length≤80∧QdR c.Items≤1000)(h2:(decide (c.M.length≤70)&&decide (Qdy (c.M.take (min c.M.length 100))≤300))=true):Qjy c:=
 ⟨QnV h2,h1.1,fun x hx=>Qbi (QnR hx) h1.2⟩
theorem Qpt {o:QX}(h:Qlu o):w64 (w64 ((o.Vars.length:Int)+(o.Ins.length:Int))+(o.Outs.length:Int))=((o.Vars.length+o.Ins.length+o.Outs.length:Nat):Int):=by
 unfold Qlu at h
 rw [Qkq,QfC (by omega)];omega
theorem QnX {k:Q6}(h:k.Mode.Vars.length+k.Mode.Ins.length+k.Mode.Outs.length≤100):(Qca k).length≤4000:=by
 unfold Qca
 simp only [QY,QM,Qjk];omega
theorem QjZ (s:ByteArray):Qej s s=true:=by unfold Qej;exact beq_self_eq_true _
end Go.Proofs
noncomputable section
namespace Go.Proofs
open Go Go.RowKit Go.Vm
def Qfw (n e:Int):Int:=(n*256+e) % 18446744073709551616
def val (bs:List Int):Int:=bs.foldl Qfw 0
def Qa1 (e:Int):Prop:=0≤e∧e<256
theorem Qo5 {n e:Int}(hn:0≤n∧n<18446744073709551616)(he:Qa1 e):orI .u64 (Qjr .u64 n 8) (IntKind.u64.wrap e)=Qfw n e:=by
 obtain⟨h0,h1⟩:=he
 unfold orI Qjr Qfw
 rw [show min ((8:Int).toNat) (IntKind.bits .u64)=8 from rfl]
 show(((BitVec.ofInt 64 ((n*2 ^ 8) % 18446744073709551616) ||| BitVec.ofInt 64 (e % 18446744073709551616)).toNat:Nat):Int) % 18446744073709551616=_
 rw [BitVec.toNat_or,BitVec.toNat_ofInt,BitVec.toNat_ofInt]
 have e1:((n*2 ^ 8) % 18446744073709551616 % ((2 ^ 64:Nat):Int)).toNat=2 ^ 8*(n % 72057594037927936).toNat:=by omega
 have e2:(e % 18446744073709551616 % ((2 ^ 64:Nat):Int)).toNat=e.toNat:=by omega
 rw [e1,e2,←Nat.two_pow_add_eq_or_of_lt (by omega)]
 omega
theorem QnY (n e:Int):0≤Qfw n e∧Qfw n e<18446744073709551616:=by unfold Qfw;omega
theorem Qlv (bs:List Int)(e:Int):val (bs++[e])=Qfw (val bs) e:=by simp [val]
theorem Qlw (bs:List Int):0≤val bs∧val bs<18446744073709551616:=by
 rcases List.eq_nil_or_concat bs with rfl | ⟨l,x,rfl⟩
 ·decide
 rw [List.concat_eq_append,Qlv];exact QnY _ _
theorem Qna {bs:List Int}{i:Nat}{x:Int}(h:bs[i]? = some x):val (bs.take (i+1))=Qfw (val (bs.take i)) x:=by
 rw [List.take_add_one,h];exact Qlv _ _
theorem Qo6 {a b c d e f g h:Int}(ha:Qa1 a)(hb:Qa1 b)(hc:Qa1 c)(hd:Qa1 d)(he:Qa1 e)(hf:Qa1 f)(hg:Qa1 g)(hh:Qa1 h):
  val [a,b,c,d,e,f,g,h]=a*72057594037927936+b*281474976710656+c*1099511627776+d*4294967296+e*16777216+f*65536+g*256+h:=by
 unfold Qa1 at *
 simp only [val,List.foldl,Qfw]
 omega
theorem Qdi (n:Int)(k:Nat):Qa1 (Qa4 n k):=by unfold Qa1 Qa4;omega
theorem QaM (n:Int):∀e∈Qad n,Qa1 e:=by
 have key:∀k,∀e∈QhA n k,Qa1 e:=by
  intro k
  induction k with
  | zero=>intro e h;cases h
  | succ k ih=>
   intro e h
   rcases QaP.1 h with rfl | h
   ·exact Qdi _ _
   exact ih e h
 exact key 8
theorem QnZ (n:Int):val (Qad n)=n % 18446744073709551616:=by
 show val [Qa4 n 7,Qa4 n 6,Qa4 n 5,Qa4 n 4,Qa4 n 3,Qa4 n 2,Qa4 n 1,Qa4 n 0]=_
 rw [Qo6 (Qdi _ _) (Qdi _ _) (Qdi _ _) (Qdi _ _) (Qdi _ _) (Qdi _ _) (Qdi _ _) (Qdi _ _)]
 unfold Qa4
 have h0:0≤n % 18446744073709551616:=by omega
 have h1:n % 18446744073709551616<18446744073709551616:=by omega
 generalize n % 18446744073709551616=m at *
 show m / 72057594037927936 % 256*72057594037927936+m / 281474976710656 % 256*281474976710656+m / 1099511627776 % 256*1099511627776+m / 4294967296 % 256*4294967296+m / 16777216 % 256*16777216+m / 65536 % 256*65536+m / 256 % 256*256+m / 1 % 256=m
 omega
def QbN (n:Int):Prop:=-9223372036854775808≤n∧n≤9223372036854775807
theorem Qnb (n:Int):QbN (w64 n)∧w64 n % 18446744073709551616=n % 18446744073709551616:=by
 rw [Qgs];unfold wrap64 QbN;omega
theorem Qos {n:Int}(h:QbN n):w64 (n % 18446744073709551616)=n:=by
 unfold QbN at h;rw [Qgs];unfold wrap64;omega
theorem Qot {bs:List Int}(hl:bs.length=8)(hb:∀e∈bs,Qa1 e):Qad (w64 (val bs))=bs:=by
 match bs,hl with
 | [a,b,c,d,e,f,g,h],_=>
  have h8:=Qo6 (hb a (by simp)) (hb b (by simp)) (hb c (by simp)) (hb d (by simp)) (hb e (by simp)) (hb f (by simp)) (hb g (by simp)) (hb h (by simp))
  have ha:=hb a (by simp);have hb':=hb b (by simp);have hc:=hb c (by simp);have hd:=hb d (by simp);have he:=hb e (by simp);have hf:=hb f (by simp);have hg:=hb g (by simp);have hh:=hb h (by simp)
  have hw:=(Qnb (val [a,b,c,d,e,f,g,h])).2
  rw [Int.emod_eq_of_lt (Qlw _).1 (Qlw _).2,h8]at hw
  show [Qa4 _ 7,Qa4 _ 6,Qa4 _ 5,Qa4 _ 4,Qa4 _ 3,Qa4 _ 2,Qa4 _ 1,Qa4 _ 0]=_
  unfold Qa4
  rw [h8,hw]
  unfold Qa1 at *
  clear hw h8 hb
  simp only [List.cons.injEq,and_true]
  refine⟨?_,?_,?_,?_,?_,?_,?_,?_⟩
  ·show _ / 72057594037927936 % 256=_;omega
  ·show _ / 281474976710656 % 256=_;omega
  ·show _ / 1099511627776 % 256=_;omega
  ·show _ / 4294967296 % 256=_;omega
  ·show _ / 16777216 % 256=_;omega
  ·show _ / 65536 % 256=_;omega
  ·show _ / 256 % 256=_;omega
  show _ / 1 % 256=_;omega
abbrev Rdr (α:Type):Type:=List Int→Option (α×List Int)
def OkB (b:List Int):Prop:=(∀e∈b,Qa1 e)∧b.length≤4000000
theorem OkB.suf {p b:List Int}(h:OkB (p++b)):OkB b:=⟨fun e he=>h.1 e (List.mem_append_right _ he),by have:=h.2;rw [QY]at this;omega⟩
def Qaz : Rdr Int:=fun b=>bif decide (b.length<8)then none else some (w64 (val (b.take 8)),b.drop 8)
theorem Qlx {b r:List Int}{n:Int}(hb:OkB b)(h:Qaz b=some (n,r)):b=Qad n++r∧QbN n:=by
 unfold Qaz at h
 by_cases hl:b.length<8
 ·rw [QcN hl]at h;cases h
 rw [QcM hl]at h
 obtain⟨rfl,rfl⟩:=Prod.mk.inj (Option.some.inj h)
 rw [Qot (by simp;omega) (fun e he=>hb.1 e (Qc4 he)),List.take_append_drop]
 exact⟨rfl,(Qnb _).1⟩
theorem Qly {n:Int}(r:List Int)(h:QbN n):Qaz (Qad n++r)=some (n,r):=by
 unfold Qaz
 rw [QcM (by rw [QY,QM];omega),cond_false,List.take_left' (QM n),List.drop_left' (QM n),QnZ,Qos h]
def QeZ {α:Type}(d:Rdr α):Nat→Rdr (List α)
 | 0=>fun b=>some ([],b)
 | n+1=>fun b=>(d b).bind fun p=>(QeZ d n p.2).bind fun q=>some (p.1::q.1,q.2)
def Qct {α:Type}(d:Rdr α):Rdr (List α):=fun b=>(Qaz b).bind fun p=>bif decide (p.1<0)then none else QeZ d p.1.toNat p.2
def Qih : Rdr QX:=fun b=>(Qaz b).bind fun p=>(Qct Qaz p.2).bind fun q=>(Qct Qaz q.2).bind fun r=>(Qct Qaz r.2).bind fun s=>some (⟨p.1,q.1,r.1,s.1⟩,s.2)
def Qg1 : Rdr (Int×Int):=fun b=>(Qaz b).bind fun p=>(Qaz p.2).bind fun q=>some ((p.1,q.1),q.2)
def Qj0 : Rdr (Qab×Int):=fun b=>(Qaz b).bind fun p=>(Qaz p.2).bind fun q=>(Qaz q.2).bind fun r=>(Qaz r.2).bind fun s=>(Qaz s.2).bind fun t=>(Qaz t.2).bind fun u=>some ((⟨p.1,q.1,r.1,s.1,t.1⟩,u.1),u.2)
def Qja : Rdr Qj:=fun b=>(Qaz b).bind fun p=>(Qih p.2).bind fun q=>(Qj0 q.2).bind fun r=>some (⟨p.1,q.1,r.1.1,r.1.2⟩,r.2)
def Qii : Rdr QN:=fun b=>(Qaz b).bind fun p=>(Qaz p.2).bind fun q=>(Qct (Qct Qg1) q.2).bind fun r=>(Qct Qja r.2).bind fun s=>some (⟨r.1,s.1,p.1,q.1⟩,s.2)
def Qij : Rdr Q6:=fun b=>(Qaz b).bind fun p=>(Qaz p.2).bind fun q=>(Qih q.2).bind fun r=>(Qaz r.2).bind fun s=>some (⟨p.1,q.1,r.1,s.1⟩,s.2)
def Qu {α:Type}(d:Rdr α)(e:α→List Int)(ok:α→Prop):Prop:=(∀b x r,OkB b→d b=some (x,r)→b=e x++r∧ok x)∧∀x r,ok x→d (e x++r)=some (x,r)
theorem Qu.num : Qu Qaz Qad QbN:=⟨fun b x r hb h=>Qlx hb h,fun x r h=>Qly r h⟩
theorem Qu.times {α:Type}{d:Rdr α}{e:α→List Int}{ok:α→Prop}(h:Qu d e ok):(∀n b xs r,OkB b→QeZ d n b=some (xs,r)→b=xs.flatMap e++r∧xs.length=n∧∀x∈xs,ok x)∧∀xs r,(∀x∈xs,ok x)→QeZ d xs.length (xs.flatMap e++r)=some (xs,r):=by
 constructor
 ·intro n
  induction n with
  | zero=>intro b xs r hb h;cases h;exact⟨rfl,rfl,fun x h=>by cases h⟩
  | succ n ih=>
   intro b xs r hb hd
   obtain⟨p,h1,h2⟩:=Qai.1 hd
   obtain⟨q,h3,h4⟩:=Qai.1 h2
   cases h4
   obtain⟨e1,o1⟩:=h.1 b p.1 p.2 hb h1
   have hb2:OkB p.2:=OkB.suf (by rw [←e1];exact hb)
   obtain⟨e2,l2,o2⟩:=ih p.2 q.1 q.2 hb2 h3
   refine⟨?_,by simp [l2],fun x hx=>?_⟩
   ·rw [QiX,QaT,←e2,←e1]
   rcases QaP.1 hx with rfl | hx
   ·exact o1
   exact o2 x hx
 intro xs
 induction xs with
 | nil=>intro r _;rfl
 | cons x xs ih=>
  intro r ho
  rw [QiX,QaT]
  show(d (e x++(xs.flatMap e++r))).bind _=_
  rw [h.2 x _ (ho x QaU),Qt,ih r fun y hy=>ho y (Qbu _ hy)]
  rfl
def okRow {α:Type}(ok:α→Prop)(l:List α):Prop:=l.length≤maxLen∧∀x∈l,ok x
theorem Qu.row {α:Type}{d:Rdr α}{e:α→List Int}{ok:α→Prop}(h:Qu d e ok):Qu (Qct d) (Qar e) (okRow ok):=by
 have ht:=h.times
 constructor
 ·intro b xs r hb hd
  obtain⟨p,h1,h2⟩:=Qai.1 hd
  obtain⟨e1,o1⟩:=Qlx (n:=p.1) (r:=p.2) hb h1
  by_cases hn:p.1<0
  ·rw [QcN hn]at h2;cases h2
  rw [QcM hn,cond_false]at h2
  have hb2:OkB p.2:=OkB.suf (by rw [←e1];exact hb)
  obtain⟨e2,l2,o2⟩:=ht.1 _ _ _ _ hb2 h2
  have l3:(xs.length:Int)=p.1:=by omega
  refine⟨?_,?_,o2⟩
  ·unfold Qar
   rw [l3,QaT,←e2,←e1]
  have:=o1.2
  show xs.length≤maxLen
  have m:maxLen=9223372036854775807:=by decide
  omega
 intro xs r ho
 have m:maxLen=9223372036854775807:=by decide
 have hl:=ho.1
 unfold Qar Qct
 rw [QaT,Qly _ ⟨by omega,by omega⟩,Qt,QcM (by show ¬(xs.length:Int)<0;omega),cond_false]
 show QeZ d ((xs.length:Int).toNat) _=_
 rw [show((xs.length:Int).toNat)=xs.length by omega]
 exact ht.2 xs r ho.2
end Go.Proofs
noncomputable section
namespace Go.Proofs
open Go Go.RowKit Go.Vm
theorem Qu.fst {α:Type}{d:Rdr α}{e:α→List Int}{ok:α→Prop}(h:Qu d e ok){b:List Int}{p:α×List Int}(hb:OkB b)(hd:d b=some p):b=e p.1++p.2∧ok p.1∧OkB p.2:=by
 obtain⟨h1,h2⟩:=h.1 b p.1 p.2 hb hd
 exact⟨h1,h2,OkB.suf (by rw [←h1];exact hb)⟩
def QhB (o:QX):Prop:=QbN o.Task∧okRow QbN o.Vars∧okRow QbN o.Ins∧okRow QbN o.Outs
theorem Qu.mode : Qu Qih QbQ QhB:=by
 constructor
 ·intro b x r hb hd
  obtain⟨p,h1,hd⟩:=Qai.1 hd
  obtain⟨e1,o1,hb⟩:=Qu.num.fst hb h1
  obtain⟨q,h2,hd⟩:=Qai.1 hd
  obtain⟨e2,o2,hb⟩:=Qu.num.row.fst hb h2
  obtain⟨s,h3,hd⟩:=Qai.1 hd
  obtain⟨e3,o3,hb⟩:=Qu.num.row.fst hb h3
  obtain⟨t,h4,hd⟩:=Qai.1 hd
  obtain⟨e4,o4,hb⟩:=Qu.num.row.fst hb h4
  cases hd
  refine⟨?_,o1,o2,o3,o4⟩
  rw [e1,e2,e3,e4];simp [QbQ]
 intro x r ⟨o1,o2,o3,o4⟩
 unfold Qih QbQ
 simp only [QaT]
 rw [Qu.num.2 _ _ o1,Qt]
 show(Qct Qaz (Qar Qad x.Vars++_)).bind _=_
 rw [Qu.num.row.2 _ _ o2,Qt]
 show(Qct Qaz (Qar Qad x.Ins++_)).bind _=_
 rw [Qu.num.row.2 _ _ o3,Qt]
 show(Qct Qaz (Qar Qad x.Outs++_)).bind _=_
 rw [Qu.num.row.2 _ _ o4,Qt]
def Qnc (p:Int×Int):Prop:=QbN p.1∧QbN p.2
theorem Qu.pair : Qu Qg1 QdY Qnc:=by
 constructor
 ·intro b x r hb hd
  obtain⟨p,h1,hd⟩:=Qai.1 hd
  obtain⟨e1,o1,hb⟩:=Qu.num.fst hb h1
  obtain⟨q,h2,hd⟩:=Qai.1 hd
  obtain⟨e2,o2,hb⟩:=Qu.num.fst hb h2
  cases hd
  refine⟨?_,o1,o2⟩
  rw [e1,e2];simp [QdY]
 intro x r ⟨o1,o2⟩
 unfold Qg1 QdY
 rw [QaT,Qu.num.2 _ _ o1,Qt]
 show(Qaz (Qad x.2++r)).bind _=_
 rw [Qu.num.2 _ _ o2,Qt]
def QlW (p:Qab×Int):Prop:=QbN p.1.Most∧QbN p.1.Enough∧QbN p.1.Open∧QbN p.1.Done∧QbN p.1.Failed∧QbN p.2
theorem Qu.batch : Qu Qj0 (fun p=>Qdh p.1 p.2) QlW:=by
 constructor
 ·intro b x r hb hd
  obtain⟨p1,h1,hd⟩:=Qai.1 hd
  obtain⟨e1,o1,hb⟩:=Qu.num.fst hb h1
  obtain⟨p2,h2,hd⟩:=Qai.1 hd
  obtain⟨e2,o2,hb⟩:=Qu.num.fst hb h2
  obtain⟨p3,h3,hd⟩:=Qai.1 hd
  obtain⟨e3,o3,hb⟩:=Qu.num.fst hb h3
  obtain⟨p4,h4,hd⟩:=Qai.1 hd
  obtain⟨e4,o4,hb⟩:=Qu.num.fst hb h4
  obtain⟨p5,h5,hd⟩:=Qai.1 hd
  obtain⟨e5,o5,hb⟩:=Qu.num.fst hb h5
  obtain⟨p6,h6,hd⟩:=Qai.1 hd
  obtain⟨e6,o6,hb⟩:=Qu.num.fst hb h6
  cases hd
  refine⟨?_,o1,o2,o3,o4,o5,o6⟩
  rw [e1,e2,e3,e4,e5,e6];simp [Qdh]
 intro x r ⟨o1,o2,o3,o4,o5,o6⟩
 unfold Qj0
 have e:Qdh x.1 x.2++r=Qad x.1.Most++(Qad x.1.Enough++(Qad x.1.Open++(Qad x.1.Done++(Qad x.1.Failed++(Qad x.2++r))))):=by simp [Qdh]
 rw [e,Qu.num.2 _ _ o1,Qt]
 show(Qaz (Qad x.1.Enough++_)).bind _=_
 rw [Qu.num.2 _ _ o2,Qt]
 show(Qaz (Qad x.1.Open++_)).bind _=_
 rw [Qu.num.2 _ _ o3,Qt]
 show(Qaz (Qad x.1.Done++_)).bind _=_
 rw [Qu.num.2 _ _ o4,Qt]
 show(Qaz (Qad x.1.Failed++_)).bind _=_
 rw [Qu.num.2 _ _ o5,Qt]
 show(Qaz (Qad x.2++_)).bind _=_
 rw [Qu.num.2 _ _ o6,Qt]
def Qlz (x:Qj):Prop:=QbN x.Id∧QhB x.Mode∧QlW (x.Batch,x.Until)
theorem Qu.item : Qu Qja Qbc Qlz:=by
 constructor
 ·intro b x r hb hd
  obtain⟨p1,h1,hd⟩:=Qai.1 hd
  obtain⟨e1,o1,hb⟩:=Qu.num.fst hb h1
  obtain⟨p2,h2,hd⟩:=Qai.1 hd
  obtain⟨e2,o2,hb⟩:=Qu.mode.fst hb h2
  obtain⟨p3,h3,hd⟩:=Qai.1 hd
  obtain⟨e3,o3,hb⟩:=Qu.batch.fst hb h3
  cases hd
  refine⟨?_,o1,o2,o3⟩
  rw [e1,e2,e3];simp [Qbc]
 intro x r ⟨o1,o2,o3⟩
 unfold Qja Qbc
 rw [QaT,QaT,Qu.num.2 _ _ o1,Qt]
 show(Qih (QbQ x.Mode++_)).bind _=_
 rw [Qu.mode.2 _ _ o2,Qt]
 show(Qj0 (Qdh x.Batch x.Until++r)).bind _=_
 rw [Qu.batch.2 (x.Batch,x.Until) _ o3,Qt]
def QiW (c:QN):Prop:=QbN c.Next∧QbN c.Now∧okRow (okRow Qnc) c.M∧okRow Qlz c.Items
theorem Qu.case : Qu Qii Qb9 QiW:=by
 constructor
 ·intro b x r hb hd
  obtain⟨p1,h1,hd⟩:=Qai.1 hd
  obtain⟨e1,o1,hb⟩:=Qu.num.fst hb h1
  obtain⟨p2,h2,hd⟩:=Qai.1 hd
  obtain⟨e2,o2,hb⟩:=Qu.num.fst hb h2
  obtain⟨p3,h3,hd⟩:=Qai.1 hd
  obtain⟨e3,o3,hb⟩:=Qu.pair.row.row.fst hb h3
  obtain⟨p4,h4,hd⟩:=Qai.1 hd
  obtain⟨e4,o4,hb⟩:=Qu.item.row.fst hb h4
  cases hd
  refine⟨?_,o1,o2,o3,o4⟩
  rw [e1,e2,e3,e4];unfold Qb9
  simp only [QaT];rfl
 intro x r ⟨o1,o2,o3,o4⟩
 unfold Qii Qb9
 simp only [QaT]
 rw [Qu.num.2 _ _ o1,Qt]
 show(Qaz (Qad x.Now++_)).bind _=_
 rw [Qu.num.2 _ _ o2,Qt]
 show(Qct (Qct Qg1) (Qar (Qar QdY) x.M++_)).bind _=_
 rw [Qu.pair.row.row.2 _ _ o3,Qt]
 show(Qct Qja (Qar Qbc x.Items++_)).bind _=_
 rw [Qu.item.row.2 _ _ o4,Qt]
def QlA (c:Q6):Prop:=QbN c.Do∧QbN c.Id∧QhB c.Mode∧QbN c.Num
theorem Qu.call : Qu Qij Qca QlA:=by
 constructor
 ·intro b x r hb hd
  obtain⟨p1,h1,hd⟩:=Qai.1 hd
  obtain⟨e1,o1,hb⟩:=Qu.num.fst hb h1
  obtain⟨p2,h2,hd⟩:=Qai.1 hd
  obtain⟨e2,o2,hb⟩:=Qu.num.fst hb h2
  obtain⟨p3,h3,hd⟩:=Qai.1 hd
  obtain⟨e3,o3,hb⟩:=Qu.mode.fst hb h3
  obtain⟨p4,h4,hd⟩:=Qai.1 hd
  obtain⟨e4,o4,hb⟩:=Qu.num.fst hb h4
  cases hd
  refine⟨?_,o1,o2,o3,o4⟩
  rw [e1,e2,e3,e4];simp [Qca]
 intro x r ⟨o1,o2,o3,o4⟩
 unfold Qij Qca
 simp only [QaT]
 rw [Qu.num.2 _ _ o1,Qt]
 show(Qaz (Qad x.Id++_)).bind _=_
 rw [Qu.num.2 _ _ o2,Qt]
 show(Qih (QbQ x.Mode++_)).bind _=_
 rw [Qu.mode.2 _ _ o3,Qt]
 show(Qaz (Qad x.Num++_)).bind _=_
 rw [Qu.num.2 _ _ o4,Qt]
def Res {α R:Type}(Rep:R→Option (List Int)→Prop)(o:Option (α×List Int))(y:Option (α×R)):Prop:=
 match o with
 | some p=>∃s,y=some (p.1,s)∧Rep s (some p.2)
 | none=>∃x s,y=some (x,s)∧Rep s none
def Sim {α R:Type}(Rep:R→Option (List Int)→Prop)(f:R→Option (α×R))(d:Rdr α):Prop:=
 (∀s b,OkB b→Rep s (some b)→Res Rep (d b) (f s))∧∀s,Rep s none→∃x s',f s=some (x,s')∧Rep s' none
theorem Sim.seq {α β R:Type}{Rep:R→Option (List Int)→Prop}{f:R→Option (α×R)}{d:Rdr α}{e:α→List Int}{ok:α→Prop}{g:α→R→Option (β×R)}{k:α→Rdr β}(hf:Sim Rep f d)(hd:Qu d e ok)(hg:∀x,Sim Rep (g x) (k x)):
  Sim Rep (fun s=>(f s).bind fun p=>g p.1 p.2) (fun b=>(d b).bind fun p=>k p.1 p.2):=by
 constructor
 ·intro s b hb hr
  have h:=hf.1 s b hb hr
  show Res Rep ((d b).bind fun p=>k p.1 p.2) ((f s).bind fun p=>g p.1 p.2)
  cases hp:d b with
  | none=>
   rw [hp]at h
   obtain⟨x,s',h1,h2⟩:=h
   obtain⟨y,s2,h3,h4⟩:=(hg x).2 s' h2
   exact⟨y,s2,by show(f s).bind _=_;rw [h1];exact h3,h4⟩
  | some p=>
   rw [hp]at h
   obtain⟨s',h1,h2⟩:=h
   have:=(hg p.1).1 s' p.2 (hd.fst hb hp).2.2 h2
   show Res Rep (k p.1 p.2) ((f s).bind _)
   rw [h1];exact this
 intro s hr
 obtain⟨x,s',h1,h2⟩:=hf.2 s hr
 obtain⟨y,s2,h3,h4⟩:=(hg x).2 s' h2
 exact⟨y,s2,by show(f s).bind _=_;rw [h1];exact h3,h4⟩
theorem Sim.ret {α R:Type}{Rep:R→Option (List Int)→Prop}(x:α):Sim Rep (fun s=>some (x,s)) (fun b=>some (x,b)):=⟨fun s b _ h=>⟨s,rfl,h⟩,fun s h=>⟨x,s,rfl,h⟩⟩
theorem Qnd {α R ρ:Type}{Rep:R→Option (List Int)→Prop}{f:R→Option (α×R)}{d:Rdr α}{e:α→List Int}{ok:α→Prop}{bad:R→Bool}{N:Int}{body:Int×R×List α→Option ((Int×R×List α)⊕ρ)}{out:List α→R→ρ}
  (hf:Sim Rep f d) (hd:Qu d e ok) (he:∀x,1≤(e x).length) (hgood:∀s b,Rep s (some b)→bad s=false) (hbad:∀s,Rep s none→bad s=true) (hN:N≤9223372036854775807)
  (hin:∀(k:Int) s acc,k<N→bad s=false→body (k,s,acc)=(f s).bind fun p=>(chk (decide (acc.length+1≤4294967296))).bind fun _=>some (.inl (w64 (k+1),p.2,acc++[p.1])))
  (hout:∀(k:Int) s acc,N≤k∨bad s=true→body (k,s,acc)=some (.inr (out acc s))):
  ∀(m:Nat) (k:Int) s b acc,0≤k→k+m=N→OkB b→Rep s (some b)→acc.length+b.length≤4000000→
   match QeZ d m b with
   | some p=>∃s',QK body (k,s,acc)=some (out (acc++p.1) s')∧Rep s' (some p.2)
   | none=>∃a s',QK body (k,s,acc)=some (out a s')∧Rep s' none:=by
 intro m
 induction m with
 | zero=>
  intro k s b acc hk0 hk hb hr hl
  refine⟨s,?_,hr⟩
  rw [Qbj,hout k s acc (.inl (by omega))]
  simp
 | succ m ih=>
  intro k s b acc hk0 hk hb hr hl
  have hstep:=hin k s acc (by omega) (hgood s b hr)
  have h:=hf.1 s b hb hr
  have hw:w64 (k+1)=k+1:=QfC (by omega)
  rw [QmA (by omega),hw]at hstep
  show match (d b).bind fun p=>(QeZ d m p.2).bind fun q=>some (p.1::q.1,q.2)with | some p=>_ | none=>_
  cases hp:d b with
  | none=>
   rw [hp]at h
   obtain⟨x,s',h1,h2⟩:=h
   refine⟨acc++[x],s',?_,h2⟩
   rw [Qbj,hstep,h1]
   show QK body (k+1,s',acc++[x])=_
   rw [Qbj,hout _ _ _ (.inr (hbad s' h2))];rfl
  | some p=>
   rw [hp]at h
   obtain⟨s',h1,h2⟩:=h
   obtain⟨e1,_,hb2⟩:=hd.fst hb hp
   have hx:=he p.1
   have hlen:b.length=(e p.1).length+p.2.length:=by rw [e1,QY]
   have h3:=ih (k+1) s' p.2 (acc++[p.1]) (by omega) (by omega) hb2 h2 (by rw [QY,QaH,QbH];omega)
   have hl:QK body (k,s,acc)=QK body (k+1,s',acc++[p.1]):=by
    rw [Qbj,hstep,h1];rfl
   rw [Qt]
   cases hq:QeZ d m p.2 with
   | none=>
    rw [hq]at h3
    obtain⟨a,s2,h4,h5⟩:=h3
    exact⟨a,s2,hl.trans h4,h5⟩
   | some q=>
    rw [hq]at h3
    obtain⟨s2,h4,h5⟩:=h3
    refine⟨s2,hl.trans ?_,h5⟩
    rw [h4]
    simp
end Go.Proofs
noncomputable section
namespace Go.Proofs
open Go Go.RowKit Go.Vm
theorem Sim.congr {α R:Type}{Rep:R→Option (List Int)→Prop}{f f':R→Option (α×R)}{d:Rdr α}(h:Sim Rep f d)(hf:∀s,f' s=f s):Sim Rep f' d:=by
 rw [show f'=f from funext hf];exact h
theorem Qn0 {body:Int×Int→Option ((Int×Int)⊕Int)}{bs:List Int}(hl:bs.length=8)
  (hs:∀(i:Nat) x n,bs[i]? = some x→0≤n∧n<18446744073709551616→body (n,(i:Int))=some (.inl (Qfw n x,w64 ((i:Int)+1)))) (hf:∀n,body (n,8)=some (.inr n)):QK body (0,0)=some (val bs):=by
 have h:=Qi7 (body:=body) 8 (fun i s=>s=(val (bs.take i),(i:Int))) (fun r=>r=val bs) (fun i s hi h=>by
  subst h
  left
  have hx:bs[i]? = some bs[i]:=QR (by omega)
  refine⟨_,hs i _ _ hx (Qlw _),?_⟩
  rw [Qna hx,Qgt hi (by decide)]) (fun s h=>by
  subst h
  refine⟨_,hf _,?_⟩
  rw [Qfi (by omega)]) (0,0) rfl
 obtain⟨r,hr,rfl⟩:=h
 exact hr
def Qes (s:Qc):Option (List Int)→Prop
 | some b=>s=⟨b,false⟩
 | none=>s.bad=true
theorem QaY : Sim Qes Qo Qaz:=by
 constructor
 ·intro s b hb hr
  obtain rfl:s=⟨b,false⟩:=hr
  unfold Qo QcU Qaz
  by_cases hl:b.length<8
  ·rw [QcN hl]
   refine⟨0,⟨b,true⟩,?_,rfl⟩
   show Qav ⟨b,decide ((b.length:Int)<8)⟩=_
   rw [QcN (show(b.length:Int)<8 by omega)];rfl
  rw [QcM hl,cond_false]
  refine⟨⟨b.drop 8,false⟩,?_,rfl⟩
  show Qav ⟨b,decide ((b.length:Int)<8)⟩=_
  rw [QcM (show ¬(b.length:Int)<8 by omega)]
  unfold Qav
  rw [cond_false,Qmz (by simp;omega),Qt,Qn0 (bs:=b.take 8) (by simp;omega) (fun i x n hx hn=>by
   show QaO ⟨b,false⟩ n (i:Int)=_
   unfold QaO
   show(bif decide ((i:Int)<((b.take 8).length:Int))then(idx (b.take 8) (i:Int)).bind _ else _)=_
   rw [ltN hx,Qd6 hx,cond_true,Qt,Qo5 hn (hb.1 _ (Qc4 (QZ hx)))]) (fun n=>by
   show QaO ⟨b,false⟩ n 8=_
   unfold QaO
   show(bif decide ((8:Int)<((b.take 8).length:Int))then _ else _)=_
   rw [QcM (by rw [QgE];omega)];rfl),Qt]
  unfold QcV
  rw [Qmz (by simp;omega),Qt]
  show some (w64 (val (b.take 8)),(⟨(b.drop 8).take (b.length-8),false⟩:Qc))=_
  rw [Qfi (l:=b.drop 8) (by simp)]
 intro s hr
 refine⟨0,⟨s.b,true⟩,?_,rfl⟩
 unfold Qo QcU Qav
 rw [show s.bad=true from hr];rfl
theorem Qik {α ρ:Type}{f:Qc→Option (α×Qc)}{d:Rdr α}{e:α→List Int}{ok:α→Prop}{body:Int×Qc→Int×Qc×List α→Option ((Int×Qc×List α)⊕ρ)}{out:List α→Qc→ρ}{back:ρ→List α×Qc}{F:Qc→Option (List α×Qc)}
  (hf:Sim Qes f d) (hd:Qu d e ok) (he:∀x,1≤(e x).length) (hback:∀a s,back (out a s)=(a,s))
  (hF:∀s,F s=(Qo s).bind fun p=>(some (bif p.2.bad then⟨p.2.b,true⟩else⟨p.2.b,decide (p.1<0)⟩:Qc)).bind fun l=>(QK (body p) (0,l,[])).bind fun q=>some (back q))
  (hin:∀(p:Int×Qc) (k:Int) s acc,k<p.1→s.bad=false→body p (k,s,acc)=(f s).bind fun p=>(chk (decide (acc.length+1≤4294967296))).bind fun _=>some (.inl (w64 (k+1),p.2,acc++[p.1])))
  (hout:∀(p:Int×Qc) (k:Int) s acc,p.1≤k∨s.bad=true→body p (k,s,acc)=some (.inr (out acc s))):Sim Qes F (Qct d):=by
 constructor
 ·intro s b hb hr
  rw [hF s]
  have h:=QaY.1 s b hb hr
  unfold Qct
  cases hp:Qaz b with
  | none=>
   rw [hp]at h
   obtain⟨x,s',h1,h2⟩:=h
   have h2:s'.bad=true:=h2
   refine⟨[],⟨s'.b,true⟩,?_,rfl⟩
   rw [h1,Qt]
   show(QK (body (x,s')) (0,(bif s'.bad then(⟨s'.b,true⟩:Qc)else⟨s'.b,decide (x<0)⟩),[])).bind _=_
   rw [h2,cond_true,Qbj,hout _ _ _ _ (.inr rfl)]
   show some (back (out [] _))=_
   rw [hback]
  | some p=>
   rw [hp]at h
   obtain⟨s',h1,h2⟩:=h
   obtain rfl:s'=⟨p.2,false⟩:=h2
   obtain⟨e1,o1,hb2⟩:=Qu.num.fst hb hp
   rw [h1,Qt,Qt,Qt]
   show Res Qes _ ((QK (body (p.1,⟨p.2,false⟩)) (0,(⟨p.2,decide (p.1<0)⟩:Qc),[])).bind _)
   by_cases hn:p.1<0
   ·rw [QcN hn]
    refine⟨[],⟨p.2,true⟩,?_,rfl⟩
    rw [Qbj,hout _ _ _ _ (.inr rfl)]
    show some (back (out [] _))=_
    rw [hback]
   rw [QcM hn,cond_false]
   have h3:=Qnd (Rep:=Qes) (bad:=fun s=>s.bad) (out:=out) hf hd he (fun s b h=>by obtain rfl:s=⟨b,false⟩:=h;rfl) (fun s h=>h) o1.2 (hin (p.1,⟨p.2,false⟩)) (hout (p.1,⟨p.2,false⟩)) p.1.toNat 0 ⟨p.2,false⟩ p.2 [] (by omega) (by omega) hb2 rfl (by have:=hb2.2;simpa using this)
   cases hq:QeZ d p.1.toNat p.2 with
   | none=>
    rw [hq]at h3
    obtain⟨a,s2,h4,h5⟩:=h3
    exact⟨a,s2,by rw [h4,Qt,hback],h5⟩
   | some q=>
    rw [hq]at h3
    obtain⟨s2,h4,h5⟩:=h3
    exact⟨s2,by rw [h4,Qt,hback];rfl,h5⟩
 intro s hr
 rw [hF s]
 obtain⟨x,s',h1,h2⟩:=QaY.2 s hr
 have h2:s'.bad=true:=h2
 refine⟨[],⟨s'.b,true⟩,?_,rfl⟩
 rw [h1,Qt]
 show(QK (body (x,s')) (0,(bif s'.bad then(⟨s'.b,true⟩:Qc)else⟨s'.b,decide (x<0)⟩),[])).bind _=_
 rw [h2,cond_true,Qbj,hout _ _ _ _ (.inr rfl)]
 show some (back (out [] _))=_
 rw [hback]
theorem QkS {k n:Int}{b:Bool}(h:k<n)(hb:b=false):(decide (k<n)&&!b)=true:=by rw [QcN h,hb];rfl
theorem Qj1 {k n:Int}{b:Bool}(h:n≤k∨b=true):(decide (k<n)&&!b)=false:=by
 rcases h with h | rfl
 ·rw [QcM (by omega)];rfl
 simp
theorem Qn1 (n:Int):1≤(Qad n).length:=by rw [QM];omega
theorem QmD {α:Type}(E:α→List Int)(l:List α):1≤(Qar E l).length:=by rw [QdX];omega
theorem QlN (p:Int×Int):1≤(QdY p).length:=by rw [Qfv];omega
theorem QlO (x:Qj):1≤(Qbc x).length:=by rw [Qjl];omega
theorem Qjz : Sim Qes QbD (Qct Qaz):=
 Qik (f:=Qo) (out:=fun a s=>(a,s)) (back:=fun q=>q) (body:=fun x4 st=>QaK x4 st.1 st.2.1 st.2.2) QaY Qu.num Qn1 (fun _ _=>rfl) (fun s=>by
  unfold QbD
  congr 1;funext p
  unfold Qe0
  cases p.2.bad<;>rfl) (fun p k s acc hk hb=>by
  show QaK p k s acc=_
  unfold QaK
  rw [QkS hk hb];rfl) (fun p k s acc h=>by
  show QaK p k s acc=_
  unfold QaK
  rw [Qj1 h];rfl)
theorem QlB : Sim Qes QbE Qih:=by
 have h:=Sim.seq QaY Qu.num fun t=>Sim.seq Qjz Qu.num.row fun v=>Sim.seq Qjz Qu.num.row fun i=>Sim.seq Qjz Qu.num.row fun o=>Sim.ret (QX.mk t v i o)
 refine h.congr fun s=>?_
 unfold QbE QcE
 simp only [Option.bind_assoc,Qt]
theorem Qn2 : Sim Qes QbW Qg1:=by
 have h:=Sim.seq QaY Qu.num fun t=>Sim.seq QaY Qu.num fun v=>Sim.ret (t,v)
 refine h.congr fun s=>?_
 unfold QbW QcH
 simp only [Option.bind_assoc,Qt]
theorem Qou : Sim Qes QcB (Qct Qg1):=by
 have h:Sim Qes QbM (Qct Qg1):=Qik (f:=QbW) (out:=fun a s=>(a,s)) (back:=fun q=>q) (body:=fun x4 st=>Qaw x4 st.1 st.2.1 st.2.2) Qn2 Qu.pair QlN (fun _ _=>rfl) (fun s=>by
  unfold QbM
  congr 1;funext p
  unfold Qeu
  cases p.2.bad<;>rfl) (fun p k s acc hk hb=>by
  show Qaw p k s acc=_
  unfold Qaw
  rw [QkS hk hb];rfl) (fun p k s acc h=>by
  show Qaw p k s acc=_
  unfold Qaw
  rw [Qj1 h];rfl)
 refine h.congr fun s=>?_
 unfold QcB
 cases QbM s<;>rfl
theorem Qn3 : Sim Qes Qbm (Qct (Qct Qg1)):=
 Qik (f:=QcB) (out:=fun a s=>(a,s)) (back:=fun q=>q) (body:=fun x4 st=>Qah x4 st.1 st.2.1 st.2.2) Qou Qu.pair.row (QmD _) (fun _ _=>rfl) (fun s=>by
  unfold Qbm
  congr 1;funext p
  unfold Qd0
  cases p.2.bad<;>rfl) (fun p k s acc hk hb=>by
  show Qah p k s acc=_
  unfold Qah
  rw [QkS hk hb];rfl) (fun p k s acc h=>by
  show Qah p k s acc=_
  unfold Qah
  rw [Qj1 h];rfl)
theorem Qn4 : Sim Qes Qch Qja:=by
 have hb:=Sim.seq QaY Qu.num fun a=>Sim.seq QaY Qu.num fun b=>Sim.seq QaY Qu.num fun c=>Sim.seq QaY Qu.num fun d=>Sim.seq QaY Qu.num fun e=>Sim.seq QaY Qu.num fun u=>Sim.ret ((Qab.mk a b c d e,u):Qab×Int)
 have h:=Sim.seq QaY Qu.num fun t=>Sim.seq QlB Qu.mode fun v=>Sim.seq hb Qu.batch fun o=>Sim.ret (Qj.mk t v o.1 o.2)
 refine h.congr fun s=>?_
 unfold Qch QcI
 simp only [Option.bind_assoc,Qt]
theorem Qne : Sim Qes Qa8 (Qct Qja):=
 Qik (f:=Qch) (out:=fun a s=>(a,s)) (back:=fun q=>q) (body:=fun x4 st=>Qac x4 st.1 st.2.1 st.2.2) Qn4 Qu.item QlO (fun _ _=>rfl) (fun s=>by
  unfold Qa8
  congr 1;funext p
  unfold QdM
  cases p.2.bad<;>rfl) (fun p k s acc hk hb=>by
  show Qac p k s acc=_
  unfold Qac
  rw [QkS hk hb];rfl) (fun p k s acc h=>by
  show Qac p k s acc=_
  unfold Qac
  rw [Qj1 h];rfl)
def QdS {α:Type}(d:Rdr α)(z:α)(b:List Int):Int×α:=
 match d b with
 | some (x,[])=>(0,x)
 | _=>(4,z)
theorem Qiq {b:List Int}(hb:OkB b):QaS b=some (QdS Qii ⟨[],[],0,0⟩ b):=by
 have h:=Sim.seq QaY Qu.num fun t=>Sim.seq QaY Qu.num fun v=>Sim.seq Qn3 Qu.pair.row.row fun m=>Sim.seq Qne Qu.item.row fun i=>Sim.ret (QN.mk m i t v)
 have h1:Res Qes (Qii b) _:=h.1 ⟨b,false⟩ b hb rfl
 have e:QaS b=(((Qo ⟨b,false⟩).bind fun p=>(Qo p.2).bind fun q=>(Qbm q.2).bind fun r=>(Qa8 r.2).bind fun s=>some (QN.mk r.1 s.1 p.1 q.1,s.2))).bind fun y=>(Qal y.2 y.1).bind some:=by
  unfold QaS QcG
  simp only [Option.bind_assoc,Qt]
 rw [e]
 unfold QdS
 cases hp:Qii b with
 | none=>
  rw [hp]at h1
  obtain⟨x,s,h2,h3⟩:=h1
  refine(congrArg (fun o=>Option.bind o _) h2).trans ?_
  show(Qal s x).bind some=_
  unfold Qal
  rw [show s.bad=true from h3];rfl
 | some p=>
  rw [hp]at h1
  obtain⟨s,h2,h3⟩:=h1
  obtain rfl:s=⟨p.2,false⟩:=h3
  refine(congrArg (fun o=>Option.bind o _) h2).trans ?_
  show(Qal ⟨p.2,false⟩ p.1).bind some=_
  unfold Qal
  obtain⟨x,r⟩:=p
  cases r with
  | nil=>rfl
  | cons a r=>
   rw [QcN (show(0:Int)<((a::r).length:Int) by simp)];rfl
theorem Qir {b:List Int}(hb:OkB b):QaB b=some (QdS Qij ⟨0,0,⟨0,[],[],[]⟩,0⟩ b):=by
 have h:=Sim.seq QaY Qu.num fun t=>Sim.seq QaY Qu.num fun v=>Sim.seq QlB Qu.mode fun m=>Sim.seq QaY Qu.num fun i=>Sim.ret (Q6.mk t v m i)
 have h1:Res Qes (Qij b) _:=h.1 ⟨b,false⟩ b hb rfl
 have e:QaB b=(((Qo ⟨b,false⟩).bind fun p=>(Qo p.2).bind fun q=>(QbE q.2).bind fun r=>(Qo r.2).bind fun s=>some (Q6.mk p.1 q.1 r.1 s.1,s.2))).bind fun y=>(Qak y.2 y.1).bind some:=by
  unfold QaB Qdt QcF
  simp only [Option.bind_assoc,Qt]
 rw [e]
 unfold QdS
 cases hp:Qij b with
 | none=>
  rw [hp]at h1
  obtain⟨x,s,h2,h3⟩:=h1
  refine(congrArg (fun o=>Option.bind o _) h2).trans ?_
  show(Qak s x).bind some=_
  unfold Qak
  rw [show s.bad=true from h3];rfl
 | some p=>
  rw [hp]at h1
  obtain⟨s,h2,h3⟩:=h1
  obtain rfl:s=⟨p.2,false⟩:=h3
  refine(congrArg (fun o=>Option.bind o _) h2).trans ?_
  show(Qak ⟨p.2,false⟩ p.1).bind some=_
  unfold Qak
  obtain⟨x,r⟩:=p
  cases r with
  | nil=>rfl
  | cons a r=>
   rw [QcN (show(0:Int)<((a::r).length:Int) by simp)];rfl
end Go.Proofs
noncomputable section
namespace Go.Proofs
open Go Go.RowKit Go.Vm
end Go.Proofs
noncomputable section
namespace Go.Proofs
open Go Go.RowKit Go.Vm
theorem QhB.len {o:QX}(h:QhB o):lenM o:=⟨h.2.1.1,h.2.2.1.1,h.2.2.2.1⟩
theorem QiW.len {c:QN}(h:QiW c):lenC c:=⟨h.2.2.1.1,fun x hx=>(h.2.2.1.2 x hx).1,h.2.2.2.1,fun x hx=>(h.2.2.2.2 x hx).2.1.len⟩
theorem Qjm {α:Type}(d:Rdr α)(z:α){e:α→List Int}{ok:α→Prop}(h:Qu d e ok){b:List Int}(hb:OkB b):(∃x,QdS d z b=(0,x)∧b=e x∧ok x)∨QdS d z b=(4,z):=by
 unfold QdS
 cases hp:d b with
 | none=>exact .inr rfl
 | some p=>
  obtain⟨x,r⟩:=p
  cases r with
  | nil=>
   obtain⟨h1,h2,_⟩:=h.fst hb hp
   exact .inl ⟨x,rfl,by simpa using h1,h2⟩
  | cons a r=>exact .inr rfl
theorem QkD {α:Type}{d:Rdr α}{z:α}{e:α→List Int}{ok:α→Prop}(h:Qu d e ok){x:α}(hx:ok x):QdS d z (e x)=(0,x):=by
 unfold QdS
 have:=h.2 x [] hx
 rw [List.append_nil]at this
 rw [this]
theorem Qnf {c:QN}(h:lenC c):Qc0 c c=some true:=by rw [Qon h];simp
theorem QkI {o:QX}(h:lenM o):Qee o o=some true:=by rw [QnP h];simp
def QaN (l:List Int):Prop:=∀e∈l,Qa1 e
theorem QaN.app {a b:List Int}(ha:QaN a)(hb:QaN b):QaN (a++b):=fun e he=>(QfP.1 he).elim (ha e) (hb e)
theorem QaN.flat {α:Type}{E:α→List Int}{l:List α}(h:∀x,QaN (E x)):QaN (l.flatMap E):=fun e he=>by
 obtain⟨x,_,hx⟩:=List.mem_flatMap.1 he
 exact h x e hx
theorem QaN.row {α:Type}{E:α→List Int}{l:List α}(h:∀x,QaN (E x)):QaN (Qar E l):=QaN.app (QaM _) (QaN.flat h)
theorem Qj2 (o:QX):QaN (QbQ o):=QaN.app (QaM _) (QaN.app (QaN.row QaM) (QaN.app (QaN.row QaM) (QaN.row QaM)))
theorem QmE (p:Int×Int):QaN (QdY p):=QaN.app (QaM _) (QaM _)
theorem QmF (x:Qj):QaN (Qbc x):=QaN.app (QaM _) (QaN.app (Qj2 _) (QaN.flat QaM))
theorem QmG (c:QN):QaN (Qb9 c):=QaN.app (QaM _) (QaN.app (QaM _) (QaN.app (QaN.row fun b=>QaN.row QmE) (QaN.row QmF)))
theorem QmH (k:Q6):QaN (Qca k):=QaN.app (QaM _) (QaN.app (QaM _) (QaN.app (Qj2 _) (QaM _)))
theorem Qpu {b:List Int}(ob:OkB b):Qde (QdS Qii ⟨[],[],0,0⟩ b) b=some false:=by
 unfold Qde
 have hb:=ob.2
 rcases Qjm Qii ⟨[],[],0,0⟩ Qu.case ob with⟨x,h,hx,_⟩|h
 ·have hl:(Qb9 x).length≤4294967296:=by rw [←hx];omega
  rw [h]
  simp only [beq_self_eq_true,cond_true]
  rw [Qio hl,Qt,←hx,QjZ,QgD]
 rw [h];rfl
theorem Qpv {b:List Int}(ob:OkB b):Qdf (QdS Qij ⟨0,0,⟨0,[],[],[]⟩,0⟩ b) b=some false:=by
 unfold Qdf
 have hb:=ob.2
 rcases Qjm Qij ⟨0,0,⟨0,[],[],[]⟩,0⟩ Qu.call ob with⟨x,h,hx,_⟩|h
 ·have hl:(Qca x).length≤4294967296:=by rw [←hx];omega
  rw [h]
  simp only [beq_self_eq_true,cond_true]
  rw [Qip hl,Qt,←hx,QjZ,QgD]
 rw [h];rfl
theorem Qng {c:QN}{k:Q6}{b:List Int}(hc:Qo3 c)(oc:QiW c)(hk:Qlu k.Mode)(ok:QlA k)(hb:∀e∈b,Qa1 e):QbX c k b=some true:=by
 unfold QbX
 rw [QnM,Qt,QoY hc.2,Qt,Qor hc.1.2 (Qo4 hc.1.1),Qt,Qpt hk]
 by_cases f1:c.Items.length≤80∧QdR c.Items≤1000
 ·rw [QcN f1]
  cases f3:(decide (c.M.length≤70)&&decide (Qdy (c.M.take (min c.M.length 100))≤300))with
  | false=>rfl
  | true=>
   by_cases hl:b.length≤3000
   ·rw [QcM (show ¬(3000:Int)<(b.length:Int) by omega)]
    by_cases f5:k.Mode.Vars.length+k.Mode.Ins.length+k.Mode.Outs.length≤100
    ·rw [QcM (show ¬(100:Int)<((k.Mode.Vars.length+k.Mode.Ins.length+k.Mode.Outs.length:Nat):Int) by omega)]
     have e1:=QnW f1 f3
     have ob:OkB b:=⟨hb,by omega⟩
     have o1:OkB (Qb9 c):=⟨QmG c,e1.len4⟩
     have cl:=QnX f5
     have cl2:(Qca k).length≤4294967296:=by omega
     have o2:OkB (Qca k):=⟨QmH k,by omega⟩
     simp only [QgD,Bool.or_false,cond_false]
     rw [Qio e1.len,Qt,Qiq o1,Qt,Qip cl2,Qt,Qir o2,Qt,Qiq ob,Qt,QkD Qu.case oc,QkD Qu.call ok]
     have g1:=Qpu ob
     have g2:=Qpv ob
     rw [g1,Qt]
     unfold Qb6
     rw [cond_false,Qir ob,Qt,g2,Qt]
     unfold Qb5 QeX
     rw [Qnf e1.lenC,QkI ok.2.2.1.len]
     simp only [beq_self_eq_true,cond_true,cond_false,Qt]
     rfl
    rw [QcN (show(100:Int)<((k.Mode.Vars.length+k.Mode.Ins.length+k.Mode.Outs.length:Nat):Int) by omega)];rfl
   rw [QcN (show(3000:Int)<(b.length:Int) by omega)];rfl
 rw [QcM f1];rfl
end Go.Proofs
