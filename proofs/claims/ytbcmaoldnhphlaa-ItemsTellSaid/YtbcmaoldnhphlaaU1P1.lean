/- A part of the proof; what it holds is told at each theorem. -/
import Derived.Test.YtbcmaoldnhphlaaU1T1
import Derived.Test.YtbcmaoldnhphlaaU1XPlA
import Derived.KernelRfl
set_option linter.unusedVariables false
set_option linter.unusedSimpArgs false
set_option linter.unusedSectionVars false
set_option linter.deprecated false
noncomputable section
namespace Go.Proofs
open Go Go.RowKit Go.Vm
set_option maxRecDepth 100000 in
theorem QoD : QgE=some true:=by kernel_rfl
end Go.Proofs
noncomputable section
namespace Go.Proofs
open Go Go.RowKit Go.Vm
open Classical in
theorem QmV {α:Type}{a b:List α}(hl:a.length=b.length)(hm:a.length≤maxLen){body:Int→Option (Int⊕(Unit⊕Unit))}
  (hs:∀(i:Nat) x y,a[i]? = some x→b[i]? = some y→body (i:Int)=some (bif !(decide (x=y))then .inr (.inl ())else .inl (w64 ((i:Int)+1))))
  (hf:body (a.length:Int)=some (.inr (.inr ()))):QK body 0=some (bif decide (a=b)then .inr ()else .inl ()):=by
 have h:=QkD (body:=body) (l:=a) (fun i=>(i:Int)) (fun i x=>!(decide (b[i]? = some x))) (.inl ()) (.inr ()) (fun i x hi hx=>by
  have hy:=QI (show i<b.length by omega)
  rw [hs i x _ hx hy,hy,QaI hi hm]
  have:decide (some b[i]=some x)=decide (x=b[i]):=by rw [decide_eq_decide];exact⟨fun h=>(Option.some.inj h).symm,fun h=>by rw [h]⟩
  rw [this]) hf rfl
 refine Eq.trans h ?_
 congr 1
 by_cases e:a=b
 ·subst e
  have:Qf3 (fun i x=>!(decide (a[i]? = some x))) 0 a=false:=Qlc.2 fun i x hx=>by simp [hx]
  rw [this];simp
 have:Qf3 (fun i x=>!(decide (b[i]? = some x))) 0 a=true:=by
  rw [←Bool.not_eq_false,Qlc]
  intro h'
  refine e (List.ext_getElem? fun i=>?_)
  by_cases hi:i<a.length
  ·have:=h' i a[i] (QI hi)
   simp only [Bool.not_eq_false',Qbw]at this
   rw [this,QI hi]
  rw [List.getElem?_eq_none (by omega),List.getElem?_eq_none (by omega)]
 rw [this];simp [e]
open Classical in
theorem QpB (a b:Int):(a==b)=decide (a=b):=by rw [QiI];simp
open Classical in
theorem Qp8 (a b:Int):(a != b)=!decide (a=b):=by rw [QiI];simp
theorem Qci {α:Type}{l:List α}{i:Nat}{x:α}(h:l[i]? = some x):idx l (i:Int)=some x:=by rw [Qkd];exact h
theorem ltN {α:Type}{l:List α}{i:Nat}{x:α}(h:l[i]? = some x):decide ((i:Int)<(l.length:Int))=true:=Q9 (by have:=(Qx.1 h).1;omega)
theorem ltE {n:Nat}:decide ((n:Int)<(n:Int))=false:=Q3 (by omega)
theorem QoT {α:Type}{a b:List α}(h:a.length=b.length):((a.length:Int) != (b.length:Int))=false:=by simp [h]
theorem Qn0 {α:Type}{a b:List α}(h:¬a.length=b.length):((a.length:Int) != (b.length:Int))=true:=by simp;omega
open Classical in
theorem Qke {a b:List Int}(hm:a.length≤maxLen):QbU a b=some (decide (a=b)):=by
 unfold QbU
 by_cases hl:a.length=b.length
 ·rw [QoT hl,QmV hl hm (fun i x y hx hy=>by
   show QbZ a b (i:Int)=_
   unfold QbZ
   rw [ltN hx,Qci hx,Qci hy]
   simp only [cond_true,Qm,Qp8]
   by_cases e:x=y<;>simp [e]) (by
   show QbZ a b (a.length:Int)=_
   unfold QbZ
   rw [ltE];rfl)]
  by_cases e:a=b<;>simp [e,QfA,QfB]
 rw [Qn0 hl]
 have:a≠b:=fun e=>hl (by rw [e])
 simp [this]
def lenM (o:Qac):Prop:=o.Vars.length≤maxLen∧o.Ins.length≤maxLen∧o.Outs.length≤maxLen
theorem QpC (a b:Qac):a=b↔a.Task=b.Task∧a.Vars=b.Vars∧a.Ins=b.Ins∧a.Outs=b.Outs:=by
 cases a;cases b;simp
theorem Qo4 (a b:QV):a=b↔a.Most=b.Most∧a.Enough=b.Enough∧a.Open=b.Open∧a.Done=b.Done∧a.Failed=b.Failed:=by
 cases a;cases b;simp
theorem QpD (a b:Qe):a=b↔a.Id=b.Id∧a.Mode=b.Mode∧a.Batch=b.Batch∧a.Until=b.Until:=by
 cases a;cases b;simp
open Classical in
theorem Qo5 {a b:Qac}(h:lenM a):QfF a b=some (decide (a=b)):=by
 unfold QfF Qh1 QdX
 rw [Qke h.1,Qke h.2.1,Qke h.2.2]
 simp only [QpB]
 by_cases e1:a.Task=b.Task<;>by_cases e2:a.Vars=b.Vars<;>by_cases e3:a.Ins=b.Ins<;>by_cases e4:a.Outs=b.Outs<;>simp [QpC,e1,e2,e3,e4]
open Classical in
theorem QpE (a b:QV):((a.Most==b.Most)&&((a.Enough==b.Enough)&&((a.Open==b.Open)&&((a.Done==b.Done)&&(a.Failed==b.Failed)))))=decide (a=b):=by
 rw [QiI];simp [Qo4]
open Classical in
theorem Qo6 {a b:Qe}(h:lenM a.Mode):Qdu a b=some (decide (a=b)):=by
 unfold Qdu QfQ QcE
 rw [Qo5 h,QpE]
 simp only [QpB]
 by_cases e1:a.Id=b.Id<;>by_cases e2:a.Batch=b.Batch<;>by_cases e3:a.Until=b.Until<;>by_cases e4:a.Mode=b.Mode<;>simp [QpD,e1,e2,e3,e4]
open Classical in
theorem Qp9 {a b:List Qe}(hm:a.length≤maxLen)(hx:∀x∈a,lenM x.Mode):Qb2 a b=some (decide (a=b)):=by
 unfold Qb2
 by_cases hl:a.length=b.length
 ·rw [QoT hl,QmV hl hm (fun i x y hx' hy=>by
   show QbH a b (i:Int)=_
   unfold QbH
   rw [ltN hx',Qci hx',Qci hy]
   simp only [cond_true,Qm]
   rw [Qo6 (hx x (QQ hx'))]
   by_cases e:x=y<;>simp [e]) (by
   show QbH a b (a.length:Int)=_
   unfold QbH
   rw [ltE];rfl)]
  by_cases e:a=b<;>simp [e,Qe0,Qe1]
 rw [Qn0 hl]
 have:a≠b:=fun e=>hl (by rw [e])
 simp [this]
end Go.Proofs
noncomputable section
namespace Go.Proofs
open Go Go.RowKit Go.Vm
def Fit (x:Qe):Prop:=x.Mode.Vars.length≤17592186044416∧x.Mode.Ins.length≤17592186044416∧x.Mode.Outs.length≤17592186044416
theorem QkE {s:List Int}(h:s.length≤17592186044416):Qax s=some s:=by
 unfold Qax
 rw [Qch (by show(0+s.length)*8≤140737488355328;omega)];simp
theorem QlM {x:Qe}(h:Fit x):Qc4 x=some x:=by
 unfold Qc4
 rw [QkE h.1,QkE h.2.1,QkE h.2.2];rfl
def dropL (l:List Qe)(id:Int):List Qe:=l.filter fun x=>x.Id != id
theorem QmW {l:List Qe}{id:Int}(hf:∀x∈l,Fit x)(hl:l.length≤4294967296)(hm:l.length≤maxLen):Qct l id=some (dropL l id):=by
 unfold Qct
 have h:=Qfb (body:=fun st:Int×List Qe=>Qbn l id st.1 st.2) l.length (fun i s=>s=((i:Int),dropL (l.take i) id)) (fun r=>r=dropL l id) (fun i s hi hs=>by
  subst hs
  left
  have hx:l[i]? = some l[i]:=QI hi
  have htk:l.take (i+1)=l.take i++[l[i]]:=by rw [QiM,hx];rfl
  show ∃s',Qbn l id (i:Int) (dropL (l.take i) id)=_∧_
  unfold Qbn
  rw [ltN hx,Qci hx]
  simp only [cond_true,Qm]
  have hlen:(dropL (l.take i) id).length≤i:=by
   refine QaQ (Qj2 _ _) ?_
   simp;omega
  by_cases e:l[i].Id=id
  ·have e1:(l[i].Id != id)=false:=by simp [e]
   rw [e1]
   refine⟨_,rfl,?_⟩
   rw [htk];unfold dropL;rw [List.filter_append,QdM,e1,QaI hi hm];simp
  ·have e1:(l[i].Id != id)=true:=by simp [e]
   rw [e1,cond_true,QlM (hf _ (Qb7 hi)),Qm,Qch (by simp;omega),Qm]
   refine⟨_,rfl,?_⟩
   rw [htk];unfold dropL;rw [List.filter_append,QdM,e1,QaI hi hm];simp) (fun s hs=>by
  subst hs
  refine⟨_,?_,rfl⟩
  show Qbn l id (l.length:Int) (dropL (l.take l.length) id)=_
  unfold Qbn
  rw [ltE,QhH];rfl) (0,[]) rfl
 obtain⟨r,hr,rfl⟩:=h
 rw [hr];rfl
def Qf4 (x:Qe):List Qe→List Qe
 | []=>[x]
 | y::r=>if x.Id<y.Id then x::y::r else y::Qf4 x r
def Qeb (l:List Qe)(x:Qe):List Qe:=Qf4 x (dropL l x.Id)
theorem QmB (x:Qe):∀l:List Qe,(Qf4 x l).length=l.length+1
 | []=>rfl
 | y::r=>by rw [Qf4];split<;>simp [QmB x r]
theorem QjY (x:Qe):∀l:List Qe,(Qf4 x l).Perm (x::l)
 | []=>List.Perm.refl _
 | y::r=>by
  rw [Qf4];split
  ·exact List.Perm.refl _
  exact(List.Perm.cons y (QjY x r)).trans (List.Perm.swap x y r)
theorem QlN (x:Qe):∀(l:List Qe) (k:Nat),(match Qbg (fun _ y=>decide (x.Id<y.Id)) k l with | some i=>k≤i∧i-k≤l.length∧Qf4 x l=l.take (i-k)++x::l.drop (i-k) | none=>Qf4 x l=l++[x])
 | [],k=>rfl
 | y::r,k=>by
  rw [Qbg,Qf4]
  by_cases h:x.Id<y.Id
  ·simp [h]
  have ih:=QlN x r (k+1)
  rw [Q3 h,cond_false,if_neg h]
  cases hs:Qbg (fun _ y=>decide (x.Id<y.Id)) (k+1) r with
  | none=>rw [hs]at ih;simp only at ih;rw [ih];rfl
  | some i=>
   rw [hs]at ih;simp only at ih
   obtain⟨h1,h2,h3⟩:=ih
   refine⟨by omega,by simp;omega,?_⟩
   rw [h3,show i-k=(i-(k+1))+1 by omega];rfl
theorem QoE {l:List Qe}{x:Qe}(hm:l.length≤maxLen):Qat l x=some ((Qbg (fun _ y=>decide (x.Id<y.Id)) 0 l).elim (-1) fun i=>(i:Int)):=by
 unfold Qat
 have h:=Qh5 (body:=fun st=>QH l x st) (l:=l) (fun i=>(i:Int)) (fun _ y=>decide (x.Id<y.Id)) (fun i=>.inl (i:Int)) (.inr ()) (fun i y hi hy=>by
  show QH l x (i:Int)=_
  unfold QH QgD
  rw [ltN hy,Qci hy,QaI hi hm]
  simp only [cond_true,Qm]
  cases decide (x.Id<y.Id)<;>rfl) (by
  show QH l x (l.length:Int)=_
  unfold QH
  rw [ltE];rfl) (s0:=0) rfl
 rw [h]
 cases Qbg (fun _ y=>decide (x.Id<y.Id)) 0 l<;>rfl
theorem QlO {l:List Qe}{x:Qe}{i:Nat}(hi:i≤l.length)(hl:l.length+1≤4294967296):QY l (i:Int) [x]=some (l.take i++x::l.drop i):=by
 show(chk _).bind _=_
 rw [Qgh (by simp;omega)]
 simp
theorem Qqa {α:Type}{p:Prop}[Decidable p](h:p)(a b:α):(bif decide p then a else b)=a:=by rw [Q9 h];rfl
theorem Qqb {α:Type}{p:Prop}[Decidable p](h:¬p)(a b:α):(bif decide p then a else b)=b:=by rw [Q3 h];rfl
theorem Qn1 {l:List Qe}{x:Qe}(hf:∀x∈l,Fit x)(hx:Fit x)(hl:l.length+1≤4294967296)(hm:l.length≤maxLen):QbN l x=some (Qeb l x):=by
 unfold QbN
 have hd:(dropL l x.Id).length≤l.length:=Qj2 _ _
 rw [QmW hf (by omega) hm,Qm,QoE (by omega),Qm]
 have h:=QlN x (dropL l x.Id) 0
 unfold Qei
 rw [QlM hx]
 unfold Qeb
 cases hs:Qbg (fun _ y=>decide (x.Id<y.Id)) 0 (dropL l x.Id)with
 | none=>
  rw [hs]at h;simp only at h
  rw [h]
  simp only [Option.elim,Qm]
  refine(Qqa (by decide) _ _).trans ?_
  show(QY (dropL l x.Id) ((dropL l x.Id).length:Int) [x]).bind some=_
  rw [QlO (QaX _) (by omega)]
  simp
 | some i=>
  rw [hs]at h;simp only at h
  obtain⟨_,h2,h3⟩:=h
  rw [Nat.sub_zero]at h2 h3
  simp only [Option.elim,Qm]
  refine(Qqb (by omega) _ _).trans ?_
  show(QY (dropL l x.Id) (i:Int) [x]).bind some=_
  rw [h3,QlO h2 (by omega)]
  rfl
def Up (l:List Qe):Prop:=l.Pairwise fun a b=>a.Id<b.Id
theorem Up.ext : ∀{l m:List Qe},Up l→Up m→(∀x,x∈l↔x∈m)→l=m
 | [],[],_,_,_=>rfl
 | [],y::m,_,_,h=>by have:=(h y).2 Qa1;cases this
 | x::l,[],_,_,h=>by have:=(h x).1 Qa1;cases this
 | x::l,y::m,hl,hm,h=>by
  obtain⟨l1,l2⟩:=QiK.1 hl
  obtain⟨m1,m2⟩:=QiK.1 hm
  have e:x=y:=by
   rcases Qaa.1 ((h x).1 Qa1)with e | hx
   ·exact e
   rcases Qaa.1 ((h y).2 Qa1)with e | hy
   ·exact e.symm
   have:=m1 x hx;have:=l1 y hy;omega
  subst e
  rw [Up.ext l2 m2 fun z=>?_]
  have:=h z
  simp only [Qaa]at this
  constructor
  ·intro hz
   rcases this.1 (.inr hz)with e | h'
   ·subst e;have:=l1 z hz;omega
   exact h'
  intro hz
  rcases this.2 (.inr hz)with e | h'
  ·subst e;have:=m1 z hz;omega
  exact h'
theorem Up.drop {l:List Qe}(h:Up l)(id:Int):Up (dropL l id):=List.Pairwise.filter _ h
theorem QkF {l:List Qe}{id:Int}{x:Qe}:x∈dropL l id↔x∈l∧x.Id≠id:=by simp [dropL,List.mem_filter]
theorem Up.ins {x:Qe}:∀{l:List Qe},Up l→(∀y∈l,y.Id≠x.Id)→Up (Qf4 x l)
 | [],_,_=>List.pairwise_singleton _ _
 | y::r,h,hn=>by
  obtain⟨h1,h2⟩:=QiK.1 h
  rw [Qf4]
  split
  ·rename_i hlt
   refine QiK.2 ⟨fun z hz=>?_,h⟩
   rcases Qaa.1 hz with rfl | hz
   ·exact hlt
   have:=h1 z hz;omega
  rename_i hge
  have hy:=hn y Qa1
  refine QiK.2 ⟨fun z hz=>?_,Up.ins h2 fun z hz=>hn z (Qbu _ hz)⟩
  rcases Qaa.1 ((QjY x r).mem_iff.1 hz)with rfl | hz
  ·omega
  exact h1 z hz
theorem Up.put {l:List Qe}(h:Up l)(x:Qe):Up (Qeb l x):=(h.drop x.Id).ins fun y hy=>(QkF.1 hy).2
theorem Qo7 {l:List Qe}{x z:Qe}:z∈Qeb l x↔z=x∨(z∈l∧z.Id≠x.Id):=by
 unfold Qeb
 rw [(QjY x _).mem_iff,Qaa,QkF]
theorem Qh6 (n lo hi:Int):QcO n lo hi=some (decide (lo≤n)&&decide (n≤hi)):=rfl
open Classical in
theorem QkG (b:QV):∃r,Qa8 b=some r:=by
 unfold Qa8 QfC
 simp only [Qh6,Qm]
 have h:∀c:Bool,∃r,Qbo b c=some r:=fun c=>by
  unfold Qbo
  cases c with
  | true=>exact⟨_,rfl⟩
  | false=>
   have h:=QkD (body:=fun st=>Qad b st) (l:=[b.Open,b.Done,b.Failed]) (fun i=>(i:Int)) (fun _ x=>!(decide (0≤x)&&decide (x≤b.Most))) (.inl ()) (.inr ()) (fun i x hi hx=>by
    show Qad b (i:Int)=_
    unfold Qad
    rw [ltN hx,Qci hx,QaI hi (by show 3≤_;decide)]
    simp only [cond_true,Qm,Qh6]
    cases (!(decide (0≤x)&&decide (x≤b.Most)))<;>rfl) (by
    show Qad b (([b.Open,b.Done,b.Failed].length:Nat):Int)=_
    unfold Qad
    rw [ltE];rfl) (s0:=0) rfl
   rw [cond_false,h]
   cases Qf3 (fun (_:Nat) (x:Int)=>!(decide (0≤x)&&decide (x≤b.Most))) 0 [b.Open,b.Done,b.Failed]<;>exact⟨_,rfl⟩
 cases (!(decide (1≤b.Most)&&decide (b.Most≤16)))with
 | true=>exact h _
 | false=>exact h _
def Qld (b:QV):Bool:=((Qa8 b).getD false)&&!(((Qcl b).getD true))
theorem QmC (b:QV):∃r,Qcl b=some r:=by
 obtain⟨r,hr⟩:=QkG b
 unfold Qcl QfX Qek
 rw [hr]
 cases r with
 | true=>simp only [Qm,cond_true];cases decide (b.Enough≤b.Done)<;>exact⟨_,rfl⟩
 | false=>exact⟨_,rfl⟩
theorem Qo8 (b:QV):((Qa8 b).bind fun x=>bif !x then some true else(Qcl b).bind fun y=>some y)=some (!Qld b):=by
 obtain⟨r,hr⟩:=QkG b
 obtain⟨q,hq⟩:=QmC b
 unfold Qld
 rw [hr,hq]
 cases r<;>cases q<;>rfl
def Qcz (next last:Int)(x:Qe):Bool:=decide (last<x.Id)&&decide (x.Id<next)&&decide (0≤x.Until)&&Qld x.Batch
def upF (next:Int):Int→List Qe→Bool
 | _,[]=>true
 | last,x::l=>Qcz next last x&&upF next x.Id l
theorem Qo9 (x:Qe)(last next:Int):QeW x last next=some (!Qcz next last x):=by
 unfold QeW
 have:=Qo8 x.Batch
 unfold Qcz
 by_cases h1:x.Id≤last
 ·rw [Q9 h1,Q3 (show ¬last<x.Id by omega)];rfl
 rw [Q3 h1,Q9 (show last<x.Id by omega)]
 by_cases h2:next≤x.Id
 ·rw [Q9 h2,Q3 (show ¬x.Id<next by omega)];rfl
 rw [Q3 h2,Q9 (show x.Id<next by omega)]
 by_cases h3:x.Until<0
 ·rw [Q9 h3,Q3 (show ¬0≤x.Until by omega)];rfl
 rw [Q3 h3,Q9 (show 0≤x.Until by omega)]
 simp only [cond_false,Bool.true_and]
 exact this
theorem QoF {l:List Qe}{next:Int}(hm:l.length≤maxLen):QcP l next=some (upF next 0 l&&decide ((l.length:Int)≤64)):=by
 unfold QcP
 have h:=QjX (body:=fun st:Int×Int=>Qa9 l next st.1 st.2) (l:=l) (fun i t=>(t,(i:Int))) (fun i t x=>bif Qcz next t x then .inl x.Id else .inr (.inl ())) (fun _=>.inr ()) (fun i t x hi hx=>by
  show Qa9 l next t (i:Int)=_
  unfold Qa9 Qdt
  rw [ltN hx,Qci hx,QaI hi hm]
  simp only [cond_true,Qm,Qo9]
  cases Qcz next t x<;>rfl) (fun t=>by
  show Qa9 l next t (l.length:Int)=_
  unfold Qa9
  rw [ltE];rfl) 0 (s0:=(0,0)) rfl
 rw [h]
 have key:∀(l:List Qe) (i:Nat) (t:Int),Qen (fun (_:Nat) (t:Int) (x:Qe)=>bif Qcz next t x then Sum.inl x.Id else Sum.inr (Sum.inl ())) (fun _=>(Sum.inr ():Unit⊕Unit)) i t l=bif upF next t l then .inr ()else .inl ():=by
  intro l
  induction l with
  | nil=>intro i t;rfl
  | cons x l ih=>
   intro i t
   rw [Qen,upF]
   cases Qcz next t x with
   | true=>simpa using ih (i+1) x.Id
   | false=>rfl
 rw [key]
 cases upF next 0 l<;>rfl
def Qec (l:List Qe):Nat:=(l.map fun x=>x.Mode.Vars.length+x.Mode.Ins.length+x.Mode.Outs.length).sum
end Go.Proofs
noncomputable section
namespace Go.Proofs
open Go Go.RowKit Go.Vm
def Qed (x:Qe):Nat:=x.Mode.Vars.length+x.Mode.Ins.length+x.Mode.Outs.length
def Can (x:Qe):Prop:=x.Mode.Vars.length≤17592186044416∧x.Mode.Ins.length≤17592186044416∧x.Mode.Outs.length≤17592186044416
theorem QlP {l:List Qe}{i:Nat}{x:Qe}(h:l[i]? = some x):Qec (l.take (i+1))=Qec (l.take i)+Qed x:=by
 rw [QiM,h];simp [Qec,Qed]
theorem QmX {l:List Qe}(h:∀x∈l,Can x):∀{i:Nat},i≤l.length→Qec (l.take i)≤i*52776558133248
 | 0,_=>by simp [Qec]
 | i+1,hi=>by
  rw [QlP (QI hi)]
  have h1:=QmX h (Nat.le_of_succ_le hi)
  have h2:=h _ (Qb7 hi)
  unfold Can at h2;unfold Qed;omega
theorem QmD {l:List Qe}{x:Qe}(h:x∈l):Qed x≤Qec l:=by
 unfold Qec
 induction l with
 | nil=>cases h
 | cons y l ih=>
  rw [QbL,List.sum_cons]
  rcases Qaa.1 h with rfl | h
  ·unfold Qed;omega
  have:=ih h;omega
theorem w3 (a b c d:Int):w64 (w64 (w64 (a+b)+c)+d)=w64 (a+b+c+d):=by
 rw [QlE,Int.add_assoc (w64 (a+b)) c d,QlE];congr 1;omega
theorem Qn2 {l:List Qe}(h:∀x∈l,Can x):QeK l=some (decide (l.length≤80∧Qec l≤1000)):=by
 unfold QeK
 by_cases h80:l.length≤80
 ·rw [Q3 (show ¬(80:Int)<(l.length:Int) by omega),cond_false]
  have h':=Qfb (body:=fun st:Int×Int=>QbF l st.1 st.2) l.length (fun i s=>s=((Qec (l.take i):Int),(i:Int))) (fun r=>r=(Qec l:Int)) (fun i s hi hs=>by
   subst hs
   left
   have hx:l[i]? = some l[i]:=QI hi
   show ∃s',QbF l (Qec (l.take i):Int) (i:Int)=_∧_
   unfold QbF
   rw [ltN hx,Qci hx]
   simp only [cond_true,Qm]
   refine⟨_,rfl,?_⟩
   have h1:=QmX h (Nat.le_of_lt hi)
   have h2:=h _ (Qb7 hi)
   unfold Can at h2
   rw [w3,QlP hx,QaI hi (QaQ h80 (by decide))]
   have e:((Qec (l.take i):Int)+(l[i].Mode.Vars.length:Int)+(l[i].Mode.Ins.length:Int)+(l[i].Mode.Outs.length:Int))=((Qec (l.take i)+Qed l[i]:Nat):Int):=by unfold Qed;omega
   rw [e,Qcy (by unfold Qed;omega)]) (fun s hs=>by
   subst hs
   refine⟨_,?_,rfl⟩
   show QbF l (Qec (l.take l.length):Int) (l.length:Int)=_
   unfold QbF
   rw [ltE,QhH];rfl) (0,0) rfl
  obtain⟨r,hr,rfl⟩:=h'
  rw [hr]
  show some (decide ((Qec l:Int)≤1000))=_
  congr 1
  rw [decide_eq_decide]
  constructor
  ·intro h;exact⟨h80,by omega⟩
  intro h;omega
 rw [Q9 (show(80:Int)<(l.length:Int) by omega),Q3 (fun h=>h80 h.1)];rfl
theorem Fit.of {x:Qe}(h:Qed x≤1000):Fit x:=by unfold Qed at h;unfold Fit;omega
theorem QlQ (l:List Qe)(id:Int):(dropL l id).length≤l.length:=Qj2 _ _
theorem QoG (l:List Qe)(x:Qe):(Qeb l x).length≤l.length+1:=by
 unfold Qeb;rw [QmB];have:=QlQ l x.Id;omega
theorem Qpa {l:List Qe}{x:Qe}(h:∀y∈l,Fit y)(hx:Fit x):∀y∈Qeb l x,Fit y:=fun y hy=>by
 rcases Qo7.1 hy with rfl | h'
 ·exact hx
 exact h _ h'.1
theorem QoH {l:List Qe}{id:Int}(h:∀y∈l,Fit y):∀y∈dropL l id,Fit y:=fun y hy=>h _ (QkF.1 hy).1
theorem Qpb {m:Qac}(h:m.Vars.length≤17592186044416∧m.Ins.length≤17592186044416∧m.Outs.length≤17592186044416):lenM m:=by
 have:(17592186044416:Nat)≤maxLen:=by decide
 exact⟨QaQ h.1 this,QaQ h.2.1 this,QaQ h.2.2 this⟩
theorem Fit.lenM {x:Qe}(h:Fit x):lenM x.Mode:=Qpb (by unfold Fit at h;omega)
end Go.Proofs
noncomputable section
namespace Go.Proofs
open Go Go.RowKit Go.Vm
section
variable {Pe:Int→Int→Prop}
def HOk (Pe:Int→Int→Prop)(l:List (Option Nat))(t:List Qf):Prop:=(∀o∈l,∃k,o=some k∧k<t.length)∧∀e∈t,Pe e.id e.at_
theorem HOk.at {l:List (Option Nat)}{t:List Qf}(h:HOk Pe l t){i:Int}(h0:0≤i)(h1:i<l.length):∃k e,idx l i=some (some k)∧t[k]? = some e∧k<t.length∧Pe e.id e.at_∧some k∈l:=by
 have hi:i.toNat<l.length:=by omega
 obtain⟨k,hk,hk2⟩:=h.1 _ (Qb7 hi)
 refine⟨k,t[k],?_,QI hk2,hk2,h.2 _ (Qb7 hk2),?_⟩
 ·rw [Qo3 h0,QI hi,hk]
 rw [←hk];exact Qb7 hi
theorem HOk.setT {l:List (Option Nat)}{t:List Qf}(h:HOk Pe l t){k:Nat}{e:Qf}(hk:t[k]? = some e)(v:Int):HOk Pe l (t.set k ⟨e.id,e.at_,v⟩):=by
 refine⟨fun o ho=>?_,fun x hx=>?_⟩
 ·obtain⟨j,h1,h2⟩:=h.1 o ho
  exact⟨j,h1,by rw [QiJ];exact h2⟩
 rcases Qj3 hx with hx | rfl
 ·exact h.2 x hx
 exact h.2 e (QQ hk)
theorem HOk.setL {l:List (Option Nat)}{t:List Qf}(h:HOk Pe l t){o:Option Nat}(ho:o∈l)(i:Nat):HOk Pe (l.set i o) t:=by
 refine⟨fun x hx=>?_,h.2⟩
 rcases Qj3 hx with hx | rfl
 ·exact h.1 x hx
 exact h.1 _ ho
theorem QoI {a b:Nat}(h:a≤b){o:Option Nat}(ho:okP a o=true):okP b o=true:=by
 cases o with
 | none=>rfl
 | some k=>simp only [okP,Qbw]at ho ⊢;omega
theorem QoJ {m:List (Int×Option Nat)}{k:Int}{v:Option Nat}{q:Int×Option Nat}(h:q∈QcU ltI m k v):q=(k,v)∨q∈m:=by
 have ins:∀m:List (Int×Option Nat),q∈QgA ltI m k v→q=(k,v)∨q∈m:=by
  intro m
  induction m with
  | nil=>intro h;exact .inl (by simpa [QgA] using h)
  | cons p m ih=>
   obtain⟨a,x⟩:=p
   intro h
   rw [QgA]at h
   split at h
   ·rcases Qaa.1 h with h | h
    ·exact .inl h
    exact .inr h
   rcases Qaa.1 h with h | h
   ·exact .inr (h▸Qa1)
   exact(ih h).imp id (Qbu _)
 have rep:∀m:List (Int×Option Nat),q∈QgB m k v→q=(k,v)∨q∈m:=by
  intro m
  induction m with
  | nil=>intro h;cases h
  | cons p m ih=>
   obtain⟨a,x⟩:=p
   intro h
   rw [QgB]at h
   split at h
   ·rcases Qaa.1 h with h | h
    ·exact .inl h
    exact .inr (Qbu _ h)
   rcases Qaa.1 h with h | h
   ·exact .inr (h▸Qa1)
   exact(ih h).imp id (Qbu _)
 unfold QcU at h
 split at h
 ·exact rep m h
 exact ins m h
end
end Go.Proofs
noncomputable section
namespace Go.Proofs
open Go Go.RowKit Go.Vm
theorem Qpc {l:List Qe}{id:Int}(hm:l.length≤maxLen):Qc8 l id=some ((Qbg (fun _ y=>y.Id==id) 0 l).elim (-1) fun i=>(i:Int)):=by
 unfold Qc8 QaW
 have h:=Qh5 (body:=fun st=>QD l id st) (l:=l) (fun i=>(i:Int)) (fun _ y=>y.Id==id) (fun i=>.inl (i:Int)) (.inr ()) (fun i y hi hy=>by
  show QD l id (i:Int)=_
  unfold QD QfU
  rw [ltN hy,Qci hy,QaI hi hm]
  simp only [cond_true,Qm]
  cases (y.Id==id)<;>rfl) (by
  show QD l id (l.length:Int)=_
  unfold QD
  rw [ltE];rfl) (s0:=0) rfl
 rw [h]
 cases Qbg (fun _ y=>y.Id==id) 0 l<;>rfl
theorem Up.inj : ∀{l:List Qe},Up l→∀{x y:Qe},x∈l→y∈l→x.Id=y.Id→x=y
 | [],_,_,_,h,_,_=>by cases h
 | z::l,h,x,y,hx,hy,e=>by
  obtain⟨h1,h2⟩:=QiK.1 h
  rcases Qaa.1 hx with ex | hx'
  ·rcases Qaa.1 hy with ey | hy'
   ·rw [ex,ey]
   have:=h1 y hy';rw [ex]at e;omega
  rcases Qaa.1 hy with ey | hy'
  ·have:=h1 x hx';rw [ey]at e;omega
  exact Up.inj h2 hx' hy' e
end Go.Proofs
noncomputable section
namespace Go.Proofs
open Go Go.RowKit Go.Vm
abbrev Ky := Int×Int
def LtK (a b:Ky):Prop:=a.1<b.1∨(a.1=b.1∧a.2<b.2)
instance (a b:Ky):Decidable (LtK a b):=by unfold LtK;infer_instance
def LeK (a b:Ky):Prop:=¬LtK b a
theorem LeK.refl (a:Ky):LeK a a:=by unfold LeK LtK;omega
theorem LeK.trans {a b c:Ky}(h:LeK a b)(k:LeK b c):LeK a c:=by unfold LeK LtK at *;omega
theorem LtK.le {a b:Ky}(h:LtK a b):LeK a b:=by unfold LeK LtK at *;omega
theorem LeK.anti {a b:Ky}(h:LeK a b)(k:LeK b a):a=b:=by
 obtain⟨a1,a2⟩:=a
 obtain⟨b1,b2⟩:=b
 unfold LeK LtK at *
 simp only at h k
 have:a1=b1:=by omega
 have:a2=b2:=by omega
 subst_vars;rfl
theorem LeK.tot {a b:Ky}(h:¬LeK a b):LeK b a:=by unfold LeK LtK at *;omega
def gt (K:List Ky)(i:Nat):Ky:=K.getD i (0,0)
theorem Qle {K:List Ky}{i:Nat}(h:i<K.length):gt K i=K[i]:=by simp [gt,h]
def swp (i j:Nat)(K:List Ky):List Ky:=(K.set i (gt K j)).set j (gt K i)
theorem Qkf {i j:Nat}{K:List Ky}(hi:i<K.length)(hj:j<K.length)(c:Nat):gt (swp i j K) c=if c=j then gt K i else if c=i then gt K j else gt K c:=by
 unfold swp
 conv=>lhs;unfold gt
 rw [Qfe]
 by_cases h:c=j
 ·subst h;rw [if_pos rfl,Qj1 (by simpa using hj)];rfl
 rw [if_neg h,Qj0 (Ne.symm h)]
 by_cases h2:c=i
 ·subst h2;rw [if_pos rfl,Qj1 hi];rfl
 rw [if_neg h2,Qj0 (Ne.symm h2)];unfold gt;rw [Qfe]
theorem QkH {i j:Nat}{K:List Ky}(hi:i<K.length)(hj:j<K.length):(swp i j K).Perm K:=by
 rw [List.perm_iff_count]
 intro a
 unfold swp
 rw [Qle hi,Qle hj]
 have h1:j<(K.set i K[j]).length:=by simpa using hj
 rw [List.count_set h1,List.count_set hi]
 have hget:(K.set i K[j])[j]=K[j]:=by
  rw [List.getElem_set];split<;>simp_all
 rw [hget]
 have c1:K[i]∈K:=Qb7 hi
 have c2:K[j]∈K:=Qb7 hj
 by_cases e1:K[i]=a<;>by_cases e2:K[j]=a
 ·have:=List.count_pos_iff.2 (e1▸c1);simp [e1,e2];omega
 ·have:=List.count_pos_iff.2 (e1▸c1);simp [e1,e2];omega
 ·have:=List.count_pos_iff.2 (e2▸c2);simp [e1,e2]
 simp [e1,e2]
def Qf5 (n:Nat)(K:List Ky):Prop:=∀c,0<c→c<n→LeK (gt K ((c-1) / 2)) (gt K c)
theorem Qf5.min {n:Nat}{K:List Ky}(h:Qf5 n K):∀c,c<n→LeK (gt K 0) (gt K c):=by
 intro c
 induction c using Nat.strongRecOn with
 | ind c ih=>
  intro hc
  by_cases h0:c=0
  ·subst h0;exact LeK.refl _
  exact(ih ((c-1) / 2) (by omega) (by omega)).trans (h c (by omega) hc)
def Qjg (n:Nat)(K:List Ky)(j:Nat):Prop:=(∀c,0<c→c<n→c≠j→LeK (gt K ((c-1) / 2)) (gt K c))∧∀c,0<c→c<n→(c-1) / 2=j→0<j→LeK (gt K ((j-1) / 2)) (gt K c)
theorem Qjg.done {n j:Nat}{K:List Ky}(h:Qjg n K j)(hj:j=0∨LeK (gt K ((j-1) / 2)) (gt K j)):Qf5 n K:=fun c h0 hc=>by
 by_cases e:c=j
 ·subst e
  rcases hj with rfl | hj
  ·omega
  exact hj
 exact h.1 c h0 hc e
theorem Qjg.up {n j:Nat}{K:List Ky}(h:Qjg n K j)(hj:j<n)(hn:n≤K.length)(h0:j≠0)(hlt:LtK (gt K j) (gt K ((j-1) / 2))):Qjg n (swp ((j-1) / 2) j K) ((j-1) / 2):=by
 have hi:(j-1) / 2<K.length:=by omega
 have hj2:j<K.length:=by omega
 have g:=Qkf (i:=(j-1) / 2) (j:=j) hi hj2
 generalize hI:(j-1) / 2=i at *
 have hij:i<j:=by omega
 constructor
 ·intro c c0 cn ci
  rw [g,g]
  by_cases e:c=j
  ·subst e
   rw [if_pos rfl,hI,if_neg (by omega),if_pos rfl];exact hlt.le
  rw [if_neg e,if_neg ci]
  by_cases p:(c-1) / 2=j
  ·rw [if_pos p]
   have:=h.2 c c0 cn p (by omega)
   rwa [hI]at this
  rw [if_neg p]
  by_cases p2:(c-1) / 2=i
  ·rw [if_pos p2]
   have:=h.1 c c0 cn e
   rw [p2]at this
   exact hlt.le.trans this
  rw [if_neg p2];exact h.1 c c0 cn e
 intro c c0 cn p i0
 have hp:(i-1) / 2<i:=by omega
 rw [g,g,if_neg (by omega),if_neg (by omega)]
 have hgi:LeK (gt K ((i-1) / 2)) (gt K i):=h.1 i i0 (by omega) (by omega)
 by_cases e:c=j
 ·subst e;rw [if_pos rfl];exact hgi
 rw [if_neg e,if_neg (by omega)]
 have:=h.1 c c0 cn e
 rw [p]at this
 exact hgi.trans this
def Qjh (n:Nat)(K:List Ky)(i:Nat):Prop:=(∀c,0<c→c<n→(c-1) / 2≠i→LeK (gt K ((c-1) / 2)) (gt K c))∧∀c,0<c→c<n→(c-1) / 2=i→0<i→LeK (gt K ((i-1) / 2)) (gt K c)
theorem Qjh.done {n i:Nat}{K:List Ky}(h:Qjh n K i)(hc:∀c,0<c→c<n→(c-1) / 2=i→LeK (gt K i) (gt K c)):Qf5 n K:=fun c h0 cn=>by
 by_cases e:(c-1) / 2=i
 ·rw [e];exact hc c h0 cn e
 exact h.1 c h0 cn e
theorem Qjh.down {n i j:Nat}{K:List Ky}(h:Qjh n K i)(hj:j<n)(hn:n≤K.length)(hp:(j-1) / 2=i)(h0:0<j)(hlt:LtK (gt K j) (gt K i))(ho:∀c,0<c→c<n→(c-1) / 2=i→LeK (gt K j) (gt K c)):Qjh n (swp i j K) j:=by
 have hij:i<j:=by omega
 have g:=Qkf (i:=i) (j:=j) (K:=K) (by omega) (by omega)
 constructor
 ·intro c c0 cn p
  rw [g,g,if_neg p]
  by_cases e:c=j
  ·subst e;rw [if_pos rfl,hp,if_pos rfl];exact hlt.le
  rw [if_neg e]
  by_cases p2:(c-1) / 2=i
  ·rw [if_pos p2,if_neg (by omega)];exact ho c c0 cn p2
  rw [if_neg p2]
  by_cases e2:c=i
  ·subst e2;rw [if_pos rfl];exact h.2 j h0 hj hp c0
  rw [if_neg e2];exact h.1 c c0 cn p2
 intro c c0 cn p _
 rw [g,g,hp,if_neg (by omega),if_pos rfl,if_neg (by omega),if_neg (by omega)]
 have:=h.1 c c0 cn (by omega)
 rwa [p]at this
def Srt (S:List Ky):Prop:=S.Pairwise LeK
theorem QoK {s:Ky}{S K:List Ky}(hS:Srt (s::S))(hp:(s::S).Perm K)(hh:Qf5 K.length K)(h0:0<K.length):gt K 0=s:=by
 have h1:gt K 0∈s::S:=hp.mem_iff.2 (by rw [Qle h0];exact Qb7 h0)
 have h2:LeK s (gt K 0):=by
  rcases Qaa.1 h1 with h | h
  ·rw [h];exact LeK.refl _
  exact List.rel_of_pairwise_cons hS h
 have h3:s∈K:=hp.mem_iff.1 Qa1
 obtain⟨i,hi,rfl⟩:=QkL.1 h3
 have:=hh.min i hi
 rw [Qle hi]at this
 exact this.anti h2
end Go.Proofs
noncomputable section
namespace Go.Proofs
open Go Go.RowKit Go.Vm
def ky (t:List Qf)(o:Option Nat):Ky:=match o with
 | some k=>match t[k]? with
  | some e=>(e.at_,e.id)
  | none=>(0,0)
 | none=>(0,0)
theorem Qg6 (t:List Qf)(k:Nat):ky t (some k)=match t[k]? with
  | some e=>(e.at_,e.id)
  | none=>(0,0):=rfl
def kys (t:List Qf)(l:List (Option Nat)):List Ky:=l.map (ky t)
abbrev OkH (l:List (Option Nat))(t:List Qf):Prop:=HOk (fun _ _=>True) l t
theorem Qbe (t:List Qf)(l:List (Option Nat)):(kys t l).length=l.length:=by simp [kys]
theorem QmE {l:List (Option Nat)}{t:List Qf}(h:OkH l t){i:Nat}(hi:i<l.length):∃k e,idx l (i:Int)=some (some k)∧t[k]? = some e∧gt (kys t l) i=(e.at_,e.id):=by
 obtain⟨k,e,h1,h2,_⟩:=h.at (i:=(i:Int)) (by omega) (by omega)
 refine⟨k,e,h1,h2,?_⟩
 rw [Qkd]at h1
 unfold gt kys
 rw [Qfe,Q2,h1]
 show ky t (some k)=_
 rw [Qg6,h2]
theorem Qji {l:List (Option Nat)}{t:List Qf}(h:OkH l t){i j:Nat}(hi:i<l.length)(hj:j<l.length):Qa3 l i j t=some (decide (LtK (gt (kys t l) i) (gt (kys t l) j))):=by
 obtain⟨k,e,h1,h2,h3⟩:=QmE h hi
 obtain⟨k',e',h1',h2',h3'⟩:=QmE h hj
 unfold Qa3 Qes Qbx
 simp only [h1,h1',h2,h2',Qm,h3,h3']
 have hd:∀p:Prop,[Decidable p]→(p↔LtK (e.at_,e.id) (e'.at_,e'.id))→decide p=decide (LtK (e.at_,e.id) (e'.at_,e'.id)):=fun p _ hp=>decide_eq_decide.2 hp
 by_cases c1:e.at_<e'.at_
 ·rw [Q9 c1,cond_true,Qm,Q9 (show LtK _ _ from .inl c1)]
 rw [Q3 c1,cond_false]
 by_cases c2:e.at_=e'.at_
 ·rw [show(e.at_==e'.at_)=true by simpa using c2,cond_true,Qm]
  exact congrArg some (hd _ ⟨fun h=>.inr ⟨c2,h⟩,fun h=>by rcases h with h | h;exact absurd h c1;exact h.2⟩)
 rw [show(e.at_==e'.at_)=false by simpa using c2,cond_false,Qm,Q3]
 rintro (h | h)
 ·exact c1 h
 exact c2 h.1
theorem QmF {t:List Qf}{k:Nat}{e:Qf}(hk:t[k]? = some e)(v:Int)(o:Option Nat):ky (t.set k ⟨e.id,e.at_,v⟩) o=ky t o:=by
 cases o with
 | none=>rfl
 | some m=>
  rw [Qg6,Qg6]
  by_cases c:k=m
  ·subst c
   have:=(Qx.1 hk).1
   rw [Qj1 this,hk]
  rw [Qj0 c]
theorem QkI {l:List (Option Nat)}{t:List Qf}(h:OkH l t){i j:Nat}(hi:i<l.length)(hj:j<l.length):
  ∃p,QaT l i j t=some p∧OkH p.1 p.2∧p.1.length=l.length∧p.2.length=t.length∧kys p.2 p.1=swp i j (kys t l):=by
 obtain⟨k,e,h1,h2,h3,_,m1⟩:=h.at (i:=(i:Int)) (by omega) (by omega)
 obtain⟨k',e',h1',h2',h3',_,m1'⟩:=h.at (i:=(j:Int)) (by omega) (by omega)
 have hA:OkH (l.set (i:Int).toNat (some k')) t:=h.setL m1' _
 have lA:(l.set (i:Int).toNat (some k')).length=l.length:=QiJ
 obtain⟨kA,eA,hA1,hA2,_⟩:=hA.at (i:=(j:Int)) (by omega) (by rw [lA];omega)
 have hB:OkH ((l.set (i:Int).toNat (some k')).set (j:Int).toNat (some k)) t:=by
  refine⟨fun x hx=>?_,h.2⟩
  rcases Qj3 hx with hx | rfl
  ·exact hA.1 x hx
  exact h.1 _ m1
 have lB:((l.set (i:Int).toNat (some k')).set (j:Int).toNat (some k)).length=l.length:=by rw [QiJ,QiJ]
 obtain⟨k1,e1,g1,g2,_⟩:=hB.at (i:=(i:Int)) (by omega) (by rw [lB];omega)
 obtain⟨k2,e2,f1,f2,f3,_⟩:=hB.at (i:=(j:Int)) (by omega) (by rw [lB];omega)
 have hC:=hB.setT g2 (i:Int)
 have lt2:k2<(t.set k1 ⟨e1.id,e1.at_,(i:Int)⟩).length:=by rw [QiJ];exact f3
 have g3:(t.set k1 ⟨e1.id,e1.at_,(i:Int)⟩)[k2]? = some (t.set k1 ⟨e1.id,e1.at_,(i:Int)⟩)[k2]:=QI lt2
 have hD:=hC.setT g3 (j:Int)
 refine⟨(_,_),?_,hD,lB,by simp,?_⟩
 ·unfold QaT
  simp only [h1,h1',hA1,g1,f1,g2,g3,Qm]
 have e1':gt (kys t l) i=ky t (some k):=by
  rw [Qkd]at h1
  unfold gt kys;rw [Qfe,Q2,h1];rfl
 have e2':gt (kys t l) j=ky t (some k'):=by
  rw [Qkd]at h1'
  unfold gt kys;rw [Qfe,Q2,h1'];rfl
 unfold swp
 rw [e1',e2']
 show List.map _ _=_
 have hf:∀o,ky ((t.set k1 ⟨e1.id,e1.at_,(i:Int)⟩).set k2 ⟨(t.set k1 ⟨e1.id,e1.at_,(i:Int)⟩)[k2].id,(t.set k1 ⟨e1.id,e1.at_,(i:Int)⟩)[k2].at_,(j:Int)⟩) o=ky t o:=fun o=>by rw [QmF g3,QmF g2]
 rw [QgN fun o _=>hf o,List.map_set,List.map_set]
 rfl
theorem QpF : ∀(j:Nat) {l:List (Option Nat)} {t:List Qf},OkH l t→j<l.length→l.length≤4000000→
  ∃p,QK (fun st=>Qa7 st.1 st.2.1 st.2.2) ((j:Int),t,l)=some p∧OkH p.2 p.1∧p.2.length=l.length∧p.1.length=t.length∧(kys p.1 p.2).Perm (kys t l)∧(Qjg l.length (kys t l) j→Qf5 l.length (kys p.1 p.2)):=by
 intro j
 induction j using Nat.strongRecOn with
 | ind j ih=>
  intro l t h hj hl
  have hi:(w64 (Int.tdiv (w64 ((j:Int)-1)) 2))=(((j-1) / 2:Nat):Int):=by
   by_cases h0:j=0
   ·subst h0;decide
   rw [Qcy (n:=(j:Int)-1) (by omega)]
   have:Int.tdiv ((j:Int)-1) 2=(((j-1) / 2:Nat):Int):=by
    rw [show(j:Int)-1=((j-1:Nat):Int) by omega]
    exact(Int.ofNat_tdiv (j-1) 2).symm
   rw [this,Qcy (by omega)]
  rw [Qcp]
  show ∃p,(Qa7 (j:Int) t l).bind _=some p∧_
  unfold Qa7 QeH
  rw [hi]
  by_cases e:(j-1) / 2=j
  ·have h0:j=0:=by omega
   rw [e,beq_self_eq_true]
   exact⟨_,rfl,h,rfl,rfl,List.Perm.refl _,fun hx=>hx.done (.inl h0)⟩
  have e1:((((j-1) / 2:Nat):Int)==(j:Int))=false:=by simp;omega
  have hlt:(j-1) / 2<j:=by omega
  rw [e1,cond_false,Qji h hj (by omega),Qm,Qm]
  unfold QbO
  by_cases c:LtK (gt (kys t l) j) (gt (kys t l) ((j-1) / 2))
  ·rw [Q9 c,hi]
   obtain⟨p,hp,h1,h2,h3,h4⟩:=QkI h (i:=(j-1) / 2) (j:=j) (by omega) hj
   rw [QgL,cond_false,hp,Qm,Qch h2,Qm]
   obtain⟨q,g1,g2,g3,g4,g5,g6⟩:=ih ((j-1) / 2) hlt h1 (by omega) (by omega)
   refine⟨q,g1,g2,by omega,by omega,?_,fun hx=>?_⟩
   ·rw [h4]at g5
    exact g5.trans (QkH (by rw [Qbe];omega) (by rw [Qbe];omega))
   rw [h4,h2]at g6
   exact g6 (hx.up hj (by rw [Qbe];exact QaX _) (by omega) c)
  rw [Q3 c]
  exact⟨_,rfl,h,rfl,rfl,List.Perm.refl _,fun hx=>hx.done (.inr c)⟩
theorem Qpd {n i:Nat}{l:List (Option Nat)}{t:List Qf}(h:OkH l t)(hi:i<l.length)(hn:n≤l.length)(hl:l.length≤4000000):
  (n≤2*i+1∧Qae (n:Int) (i:Int) t l=some (.inr ((i:Int),t,l)))∨
  ∃j:Nat,i<j∧j<n∧(j-1) / 2=i∧(∀c,0<c→c<n→(c-1) / 2=i→LeK (gt (kys t l) j) (gt (kys t l) c))∧Qae (n:Int) (i:Int) t l=Q6 l (i:Int) t (j:Int):=by
 unfold Qae
 have e1:w64 ((w64 (2*(i:Int)))+1)=((2*i+1:Nat):Int):=by
  rw [QlE,Qcy (by omega)];omega
 have e2:w64 (((2*i+1:Nat):Int)+1)=((2*i+2:Nat):Int):=by rw [Qcy (by omega)];omega
 rw [e1]
 by_cases hc:n≤2*i+1
 ·rw [Q9 (show(n:Int)≤((2*i+1:Nat):Int) by omega)]
  exact .inl ⟨hc,rfl⟩
 right
 rw [Q3 (show ¬(n:Int)≤((2*i+1:Nat):Int) by omega),Q3 (show ¬((2*i+1:Nat):Int)<0 by omega),Bool.or_false,cond_false]
 unfold Qd8
 rw [e1,e2]
 have two:∀c,0<c→c<n→(c-1) / 2=i→c=2*i+1∨c=2*i+2:=fun c c0 cn p=>by omega
 by_cases hc2:2*i+2<n
 ·rw [Q9 (show((2*i+2:Nat):Int)<(n:Int) by omega),cond_true,Qji h (by omega) (by omega),Qm,Qm]
  unfold Qa0
  rw [e1,e2]
  by_cases cl:LtK (gt (kys t l) (2*i+2)) (gt (kys t l) (2*i+1))
  ·rw [Q9 cl]
   exact⟨2*i+2,by omega,hc2,by omega,fun c c0 cn p=>by
    rcases two c c0 cn p with rfl | rfl
    ·exact cl.le
    exact LeK.refl _,rfl⟩
  rw [Q3 cl]
  exact⟨2*i+1,by omega,by omega,by omega,fun c c0 cn p=>by
   rcases two c c0 cn p with rfl | rfl
   ·exact LeK.refl _
   exact cl,rfl⟩
 rw [Q3 (show ¬((2*i+2:Nat):Int)<(n:Int) by omega),cond_false,Qm]
 unfold Qa0
 rw [e1]
 exact⟨2*i+1,by omega,by omega,by omega,fun c c0 cn p=>by
  have:c=2*i+1:=by omega
  subst this;exact LeK.refl _,rfl⟩
theorem QoL {n:Nat}:∀(m i:Nat) {l:List (Option Nat)} {t:List Qf},n-i=m→OkH l t→i<l.length→n≤l.length→l.length≤4000000→
  ∃p,QK (fun st=>Qae (n:Int) st.1 st.2.1 st.2.2) ((i:Int),t,l)=some p∧OkH p.2.2 p.2.1∧p.2.2.length=l.length∧p.2.1.length=t.length∧(kys p.2.1 p.2.2).Perm (kys t l)∧(∀c,n≤c→gt (kys p.2.1 p.2.2) c=gt (kys t l) c)∧
   (Qjh n (kys t l) i→Qf5 n (kys p.2.1 p.2.2)):=by
 intro m
 induction m using Nat.strongRecOn with
 | ind m ih=>
  intro i l t hm h hi hn hl
  rw [Qcp]
  rcases Qpd h hi hn hl with⟨hc,hs⟩|⟨j,hij,hj,hpj,ho,hs⟩
  ·exact⟨((i:Int),t,l),(congrArg (fun o=>Option.bind o _) hs).trans rfl,h,rfl,rfl,List.Perm.refl _,fun _ _=>rfl,fun hx=>hx.done fun c _ cn p=>by omega⟩
  by_cases c:LtK (gt (kys t l) j) (gt (kys t l) i)
  ·obtain⟨p,hp,h1,h2,h3,h4⟩:=QkI h (i:=i) (j:=j) hi (by omega)
   have hk:Q6 l (i:Int) t (j:Int)=some (.inl ((j:Int),p.2,p.1)):=by
    unfold Q6
    rw [Qji h (by omega) hi,Qm,Q9 c,QgL,cond_false,hp,Qm,Qch h2,Qm]
   obtain⟨q,g1,g2,g3,g4,g5,g6,g7⟩:=ih (n-j) (by omega) j rfl h1 (by omega) (by omega) (by omega)
   rw [h4]at g5 g6 g7
   refine⟨q,(congrArg (fun o=>Option.bind o _) (hs.trans hk)).trans g1,g2,by omega,by omega,g5.trans (QkH (by rw [Qbe];omega) (by rw [Qbe];omega)),fun c cn=>?_,fun hx=>g7 (hx.down hj (by rw [Qbe];exact hn) hpj (by omega) c ho)⟩
   rw [g6 c cn,Qkf (by rw [Qbe];omega) (by rw [Qbe];omega),if_neg (by omega),if_neg (by omega)]
  have hk:Q6 l (i:Int) t (j:Int)=some (.inr ((i:Int),t,l)):=by
   unfold Q6
   rw [Qji h (by omega) hi,Qm,Q3 c];rfl
  exact⟨((i:Int),t,l),(congrArg (fun o=>Option.bind o _) (hs.trans hk)).trans rfl,h,rfl,rfl,List.Perm.refl _,fun _ _=>rfl,fun hx=>hx.done fun d d0 dn dp=>LeK.trans c (ho d d0 dn dp)⟩
end Go.Proofs
noncomputable section
namespace Go.Proofs
open Go Go.RowKit Go.Vm
structure OkQ (l:List (Option Nat)) (m:List (Int×Option Nat)) (t:List Qf):Prop where
 h:OkH l t
 p:∀q∈m,okP t.length q.2=true
 k:Qf5 l.length (kys t l)
theorem QpG {l:List (Option Nat)}{t:List Qf}(h:OkH l t)(e:Qf):kys (t++[e]) l=kys t l:=by
 unfold kys
 refine QgN fun o ho=>?_
 obtain⟨k,rfl,hk⟩:=h.1 o ho
 rw [Qg6,Qg6,Qay hk]
theorem Qpe {l:List (Option Nat)}{m:List (Int×Option Nat)}{t:List Qf}(h:OkQ l m t)(hn:l.length<4096){id at_:Int}(hm:Qaq m id=none):
  ∃r,Qcd l m id at_ t=some r∧OkQ r.2.1 r.2.2.2 r.2.2.1∧r.2.1.length=l.length+1∧(kys r.2.2.1 r.2.1).Perm (kys t l++[(at_,id)])∧∃v,r.2.2.2=QcU ltI m id v:=by
 obtain⟨h1,h2,h3⟩:=h
 unfold Qcd
 rw [hm]
 show ∃r,(bif false then _ else _)=some r∧_
 unfold Qb5
 rw [cond_false,Qm,show((l.length:Int)==4096)=false by simp;omega]
 have c1:l.all (okP t.length)=true:=QN.2 fun o ho=>by
  obtain⟨k,rfl,hk⟩:=h1.1 o ho
  simpa [okP] using hk
 have c2:(m.all fun q=>okP t.length q.2)=true:=QN.2 h2
 rw [cond_false,Qgh c1,Qm,Qgh c2,Qm]
 unfold Qc9 Qdq
 have g0:(t++[(Qf.mk id at_ 0)])[t.length]? = some (Qf.mk id at_ 0):=by simp
 rw [Qm,g0,Qm,Qch (by simp;omega),Qm,Qm]
 have hq:OkH (l++[some t.length]) (t++[Qf.mk id at_ 0]):=by
  refine⟨fun o ho=>?_,fun _ _=>trivial⟩
  rcases Qff.1 ho with ho | ho
  ·obtain⟨k,e,hk⟩:=h1.1 o ho
   exact⟨k,e,by simp;omega⟩
  rw [Qj4]at ho
  exact⟨t.length,ho,by simp⟩
 have hq2:=hq.setT g0 (l.length:Int)
 have ln:(l++[some t.length]).length=l.length+1:=by simp
 show ∃r,((Qa5 (l++[some t.length]) _).bind _).bind _=some r∧_
 unfold Qa5
 rw [Qm,ln]
 have ew:w64 (((l.length+1:Nat):Int)-1)=(l.length:Int):=by rw [Qcy (by omega)];omega
 rw [ew]
 unfold QdJ
 obtain⟨p,g1,g2,g3,g4,g5,g6⟩:=QpF l.length hq2 (by omega) (by omega)
 have hk:kys ((t++[Qf.mk id at_ 0]).set t.length ⟨id,at_,(l.length:Int)⟩) (l++[some t.length])=kys t l++[(at_,id)]:=by
  have:∀o,ky ((t++[Qf.mk id at_ 0]).set t.length ⟨id,at_,(l.length:Int)⟩) o=ky (t++[Qf.mk id at_ 0]) o:=QmF g0 _
  show List.map _ _=_
  rw [QgN fun o _=>this o,QhG]
  show kys (t++[Qf.mk id at_ 0]) l++[ky (t++[Qf.mk id at_ 0]) (some t.length)]=_
  rw [QpG h1,Qg6,g0]
 have hx:Qjg (l.length+1) (kys t l++[(at_,id)]) l.length:=by
  have gl:∀c,c<l.length→gt (kys t l++[(at_,id)]) c=gt (kys t l) c:=fun c hc=>by
   unfold gt
   rw [Qfe,Qay (by rw [Qbe];exact hc),Qfe]
  refine⟨fun c c0 cn ce=>?_,fun c c0 cn p _=>by omega⟩
  rw [gl c (by omega),gl _ (by omega)]
  exact h3 c c0 (by omega)
 rw [hk]at g5 g6
 rw [ln]at g6 g3
 have gh:=g6 hx
 refine⟨_,(congrArg (fun o=>Option.bind (Option.bind (Option.bind o _) _) _) g1).trans rfl,⟨g2,fun q hq=>?_,?_⟩,g3,g5,_,rfl⟩
 ·have lt:p.1.length=t.length+1:=by rw [g4];simp
  show okP p.1.length q.2=true
  rw [lt]
  rcases QoJ hq with rfl | hq
  ·simp [okP]
  exact QoI (Nat.le_succ _) (h2 q hq)
 show Qf5 p.2.length (kys p.1 p.2)
 rw [g3];exact gh
theorem Qjj {l:List (Option Nat)}(m:List (Int×Option Nat)){t:List Qf}(h:OkH l t):(l=[]∧Qau l m t=some (0,0,false))∨(0<l.length∧Qau l m t=some ((gt (kys t l) 0).2,(gt (kys t l) 0).1,true)):=by
 unfold Qau Qb5
 rw [Qm]
 by_cases h0:l.length=0
 ·have:=Qf9.1 h0
  subst this
  exact .inl ⟨rfl,rfl⟩
 right
 refine⟨by omega,?_⟩
 rw [show((l.length:Int)==0)=false by simp;intro h;exact h0 (by simp [h])]
 obtain⟨k,e,h1,h2,h3⟩:=QmE h (i:=0) (by omega)
 have h1:idx l 0=some (some k):=h1
 rw [cond_false,h1,Qm,Qm,h2,Qm,Qm,Qm,h2,Qm,h3]
theorem QoM {K:List Ky}{n:Nat}(h:K.length=n+1):K=K.take n++[gt K n]:=by
 have e:K.drop n=[gt K n]:=by
  rw [QlX (by omega),Qle (by omega),List.drop_eq_nil_of_le (by omega)]
 rw [←e,QkM]
theorem Qpf {l:List (Option Nat)}(m:List (Int×Option Nat)){t:List Qf}(h1:OkH l t)(h3:Qf5 l.length (kys t l))(hl:0<l.length)(hn:l.length≤4000000):
  ∃r,Qce l m t=some r∧OkH r.2.1 r.2.2∧Qf5 r.2.1.length (kys r.2.2 r.2.1)∧r.2.1.length+1=l.length∧(gt (kys t l) 0::kys r.2.2 r.2.1).Perm (kys t l):=by
 unfold Qce Qa5
 have ew:w64 ((l.length:Int)-1)=((l.length-1:Nat):Int):=by rw [Qcy (by omega)];omega
 rw [Qm,ew]
 obtain⟨p,hp,g1,g2,g3,g4⟩:=QkI h1 (i:=0) (j:=l.length-1) (by omega) (by omega)
 have hp:QaT l 0 ((l.length-1:Nat):Int) t=some p:=hp
 rw [hp,Qm,Qch g2,Qm]
 unfold Qda
 obtain⟨q,f1,f2,f3,f4,f5,f6,f7⟩:=QoL (n:=l.length-1) _ 0 rfl g1 (by omega) (by omega) (by omega)
 have e0:QK (fun st=>Qae ((l.length-1:Nat):Int) st.1 st.2.1 st.2.2) (0,p.2,p.1)=some q:=f1
 rw [e0,Qm]
 unfold Qcv
 rw [Qm]
 unfold QdK
 show ∃r,((idx q.2.2 (w64 ((q.2.2.length:Int)-1))).bind _).bind _=some r∧_
 rw [g2]at f3
 rw [f3,ew]
 obtain⟨k,e,i1,i2,i3,_⟩:=f2.at (i:=((l.length-1:Nat):Int)) (by omega) (by omega)
 rw [i1,Qm]
 rw [Qgh (by simp),Qm,Qm]
 have tk:(q.2.2.take (((l.length-1:Nat):Int)).toNat).length=l.length-1:=by rw [QgM];omega
 have kl:(kys t l).length=l.length:=Qbe t l
 have sw:=fun c=>Qkf (i:=0) (j:=l.length-1) (K:=kys t l) (by omega) (by omega) c
 rw [g4]at f5 f6 f7
 have hd:Qjh (l.length-1) (swp 0 (l.length-1) (kys t l)) 0:=by
  refine⟨fun c c0 cn p=>?_,fun c c0 cn p h0=>by omega⟩
  rw [sw,sw,if_neg (by omega),if_neg p,if_neg (by omega),if_neg (by omega)]
  exact h3 c c0 (by omega)
 have hh:=f7 hd
 have hlast:gt (kys q.2.1 q.2.2) (l.length-1)=gt (kys t l) 0:=by rw [f6 _ (QaX _),sw,if_pos rfl]
 have hperm:(kys q.2.1 q.2.2).Perm (kys t l):=f5.trans (QkH (by omega) (by omega))
 have ktk:kys q.2.1 (q.2.2.take (((l.length-1:Nat):Int)).toNat)=(kys q.2.1 q.2.2).take (l.length-1):=by
  unfold kys;rw [Int.toNat_natCast,List.map_take]
 refine⟨_,rfl,⟨fun o ho=>f2.1 o (QdO ho),f2.2⟩,?_,?_,?_⟩
 ·show Qf5 (q.2.2.take (((l.length-1:Nat):Int)).toNat).length (kys q.2.1 (q.2.2.take (((l.length-1:Nat):Int)).toNat))
  rw [tk,ktk]
  intro c c0 cn
  have gtk:∀c,c<l.length-1→gt ((kys q.2.1 q.2.2).take (l.length-1)) c=gt (kys q.2.1 q.2.2) c:=fun c hc=>by
   unfold gt
   rw [Qfe,QaJ,if_pos hc,Qfe]
  rw [gtk c cn,gtk _ (by omega)]
  exact hh c c0 cn
 ·show(q.2.2.take (((l.length-1:Nat):Int)).toNat).length+1=l.length
  omega
 show(gt (kys t l) 0::kys q.2.1 (q.2.2.take (((l.length-1:Nat):Int)).toNat)).Perm (kys t l)
 rw [ktk]
 have:=QoM (K:=kys q.2.1 q.2.2) (n:=l.length-1) (by rw [Qbe];omega)
 rw [hlast]at this
 refine(List.perm_append_comm (l₁:=[gt (kys t l) 0])).trans ?_
 rw [←this];exact hperm
def Qf6 (now:Int)(S:List Ky):List Int:=(S.takeWhile fun s=>decide (s.1≤now)).map Prod.snd
theorem QmG {now:Int}:∀(S:List Ky) {id at_:Int} {is:Bool} {out:List Int} {m:List (Int×Option Nat)} {t:List Qf} {l:List (Option Nat)},OkH l t→Qf5 l.length (kys t l)→Srt S→S.Perm (kys t l)→
  (some (id,at_,is)=Qau l m t)→out.length+l.length≤4000000→
  ∃r,QK (fun st=>Qav now st.1 st.2.1 st.2.2.1 st.2.2.2.1 st.2.2.2.2.1 st.2.2.2.2.2.1 st.2.2.2.2.2.2) (id,at_,is,out,m,t,l)=some r∧r.1=out++Qf6 now S:=by
 intro S
 induction S with
 | nil=>
  intro id at_ is out m t l h hh hs hp hi hc
  have hl:l=[]:=by
   have:=hp.length_eq
   rw [Qbe]at this
   exact Qf9.1 this.symm
  subst hl
  rcases Qjj m h with⟨_,e⟩|⟨h0,_⟩
  ·rw [e]at hi;cases hi
   rw [Qcp]
   exact⟨_,rfl,by simp [Qf6]⟩
  cases h0
 | cons s S ih=>
  intro id at_ is out m t l h hh hs hp hi hc
  have hl:0<l.length:=by
   have:=hp.length_eq
   rw [Qbe]at this;simp at this;omega
  rcases Qjj m h with⟨e,_⟩|⟨_,e⟩
  ·subst e;cases hl
  have h0:=QoK hs hp (by rw [Qbe];exact hh) (by rw [Qbe];exact hl)
  rw [e,h0]at hi;cases hi
  rw [Qcp]
  show ∃r,((Qav now s.2 s.1 true out m t l).bind _)=some r∧_
  by_cases ha:s.1≤now
  ·obtain⟨r,hr,k1,k2,k3,k4⟩:=Qpf m h hh hl (by omega)
   rw [h0]at k4
   have hp2:S.Perm (kys r.2.2 r.2.1):=(List.perm_cons s).1 (hp.trans k4.symm)
   obtain⟨v,hv⟩:∃v,Qau r.2.1 (Qc3 m s.2) r.2.2=some v:=by
    rcases Qjj (Qc3 m s.2) k1 with⟨_,e⟩|⟨_,e⟩<;>exact⟨_,e⟩
   obtain⟨q,g1,g2⟩:=ih (id:=v.1) (at_:=v.2.1) (is:=v.2.2) (out:=out++[s.2]) (m:=Qc3 m s.2) k1 k2 (List.Pairwise.of_cons hs) hp2 hv.symm (by rw [QdN,List.length_singleton];omega)
   have hs1:Qav now s.2 s.1 true out m t l=some (.inl (v.1,v.2.1,v.2.2,out++[s.2],Qc3 m s.2,r.2.2,r.2.1)):=by
    unfold Qav
    rw [Q9 ha,Bool.and_true,cond_true,Qch (by rw [List.length_singleton];omega),Qm,hr,Qm,hv,Qm]
   refine⟨q,(congrArg (fun o=>Option.bind o _) hs1).trans g1,?_⟩
   rw [g2]
   unfold Qf6
   rw [List.takeWhile_cons_of_pos (by simpa using ha),QbL,QbK];rfl
  have hs1:Qav now s.2 s.1 true out m t l=some (.inr (out,m,t,l)):=by
   unfold Qav
   rw [Q3 ha];rfl
  refine⟨_,(congrArg (fun o=>Option.bind o _) hs1).trans rfl,?_⟩
  unfold Qf6
  rw [List.takeWhile_cons_of_neg (by simpa using ha)];simp
end Go.Proofs
noncomputable section
namespace Go.Proofs
open Go Go.RowKit Go.Vm
def RtB (b:QV):Prop:=1≤b.Most∧b.Most≤16∧1≤b.Enough∧b.Enough≤b.Most∧0≤b.Open∧0≤b.Done∧0≤b.Failed∧b.Open≤16∧b.Done≤16∧b.Failed≤16∧1≤b.Open+b.Done+b.Failed∧b.Open+b.Done+b.Failed≤b.Most
open Classical in
theorem Qn3 (b:QV):Qb3 b=some (decide (RtB b)):=by
 unfold Qb3
 by_cases h:b.Most<1∨16<b.Most∨b.Enough<1∨b.Most<b.Enough∨b.Open<0∨b.Done<0∨b.Failed<0∨16<b.Open∨16<b.Done∨16<b.Failed
 ·have e:((decide (b.Most<1))||((decide (16<b.Most))||((decide (b.Enough<1))||((decide (b.Most<b.Enough))||((decide (b.Open<0))||((decide (b.Done<0))||((decide (b.Failed<0))||((decide (16<b.Open))||((decide (16<b.Done))||(decide (16<b.Failed)))))))))) )=true:=by
   simp only [QcA,Qbw];exact h
  rw [e,cond_true,Q3]
  unfold RtB;omega
 have e:((decide (b.Most<1))||((decide (16<b.Most))||((decide (b.Enough<1))||((decide (b.Most<b.Enough))||((decide (b.Open<0))||((decide (b.Done<0))||((decide (b.Failed<0))||((decide (16<b.Open))||((decide (16<b.Done))||(decide (16<b.Failed)))))))))) )=false:=by
  rw [←Bool.not_eq_true];simp only [QcA,Qbw];exact h
 rw [e,cond_false,Qcy (n:=b.Open+b.Done) (by omega),Qcy (by omega)]
 congr 1
 rw [QiI,Qu,Qbw,Qbw,Qbw]
 unfold RtB;omega
open Classical in
theorem Qnz (b:QV):Qa8 b=some (decide (RtB b)):=by
 unfold Qa8 QfC
 simp only [Qh6,Qm]
 have k5:Qbo b false=some (!(Qf3 (fun (_:Nat) (x:Int)=>!(decide (0≤x)&&decide (x≤b.Most))) 0 [b.Open,b.Done,b.Failed])&&(decide (1≤w64 (w64 (b.Open+b.Done)+b.Failed))&&decide (w64 (w64 (b.Open+b.Done)+b.Failed)≤b.Most))):=by
  unfold Qbo
  have h:=QkD (body:=fun st=>Qad b st) (l:=[b.Open,b.Done,b.Failed]) (fun i=>(i:Int)) (fun _ x=>!(decide (0≤x)&&decide (x≤b.Most))) (.inl ()) (.inr ()) (fun i x hi hx=>by
   show Qad b (i:Int)=_
   unfold Qad
   rw [ltN hx,Qci hx,QaI hi (by show 3≤_;decide)]
   simp only [cond_true,Qm,Qh6]
   cases (!(decide (0≤x)&&decide (x≤b.Most)))<;>rfl) (by
   show Qad b (([b.Open,b.Done,b.Failed].length:Nat):Int)=_
   unfold Qad
   rw [ltE];rfl) (s0:=0) rfl
  rw [cond_false,h]
  cases Qf3 (fun (_:Nat) (x:Int)=>!(decide (0≤x)&&decide (x≤b.Most))) 0 [b.Open,b.Done,b.Failed]<;>rfl
 cases d1:(decide (1≤b.Most)&&decide (b.Most≤16))with
 | true=>
  rw [Qu,Qbw,Qbw]at d1
  cases d2:(decide (1≤b.Enough)&&decide (b.Enough≤b.Most))with
  | true=>
   rw [Qu,Qbw,Qbw]at d2
   refine k5.trans ?_
   congr 1
   rw [QiI]
   simp only [Qf3,Qu,Qfd,QkK,Bool.not_eq_false',Qbw,and_true]
   unfold RtB
   constructor
   ·rintro ⟨⟨c1,c2,c3⟩,c4⟩
    rw [Qcy (n:=b.Open+b.Done) (by omega),Qcy (by omega)]at c4
    omega
   intro h
   rw [Qcy (n:=b.Open+b.Done) (by omega),Qcy (by omega)]
   omega
  | false=>
   refine Eq.trans (b:=some false) rfl (congrArg some (Q3 fun h=>?_).symm)
   rw [Bool.and_eq_false_iff,decide_eq_false_iff_not,decide_eq_false_iff_not]at d2
   unfold RtB at h;omega
 | false=>
  refine Eq.trans (b:=some false) rfl (congrArg some (Q3 fun h=>?_).symm)
  rw [Bool.and_eq_false_iff,decide_eq_false_iff_not,decide_eq_false_iff_not]at d1
  unfold RtB at h;omega
theorem Qlf (b:QV):Qb3 b=Qa8 b:=by rw [Qn3,Qnz]
theorem Qn4 (b:QV):QfH b=Qcl b:=by
 unfold QfH Qcl Qh4 QfX
 rw [Qlf];rfl
theorem QmS {l:List Qe}{next:Int}(hm:l.length≤maxLen):QeR l next=some (upF next 0 l&&decide ((l.length:Int)≤64)):=by
 unfold QeR
 by_cases h64:(64:Int)<l.length
 ·rw [Q9 h64,Q3 (show ¬(l.length:Int)≤64 by omega),Bool.and_false];rfl
 rw [Q3 h64,Q9 (show(l.length:Int)≤64 by omega),Bool.and_true,cond_false]
 have h:=Qlb (body:=fun st=>Qba l next st) (l:=l) (fun i t=>0≤t∧(i=0→t=0)∧∀j,i=j+1→∃y,l[j]? = some y∧t=y.Id) (fun i _=>(i:Int)) (fun i t x=>bif Qcz next t x then .inl x.Id else .inr (.inl ())) (fun _=>.inr ()) (fun i t x hj hi hx=>by
  obtain⟨j0,j1,j2⟩:=hj
  refine⟨?_,fun t' e=>?_⟩
  ·show Qba l next (i:Int)=_
   unfold Qba
   rw [ltN hx,cond_true,Qci hx,Qm,Qlf,Qn4]
   obtain⟨r,hr⟩:=QkG x.Batch
   obtain⟨q,hq⟩:=QmC x.Batch
   have hg:Qld x.Batch=(r&&!q):=by unfold Qld;rw [hr,hq];rfl
   rw [hr,hq,Qm,Qm]
   have hgo:Qe2 r q x next (i:Int) l=some (!Qcz next t x):=by
    unfold Qe2 Qcz
    rw [hg]
    cases r with
    | false=>simp
    | true=>
     cases q with
     | true=>simp
     | false=>
      rw [QgL,cond_false,cond_false]
      by_cases c1:x.Until<0
      ·rw [Q9 c1,Q3 (show ¬0≤x.Until by omega)];simp
      rw [Q3 c1,Q9 (show 0≤x.Until by omega),cond_false]
      by_cases c2:x.Id<1
      ·rw [Q9 c2,Q3 (show ¬t<x.Id by omega)];simp
      rw [Q3 c2,cond_false]
      by_cases c3:next≤x.Id
      ·rw [Q9 c3,Q3 (show ¬x.Id<next by omega)];simp
      rw [Q3 c3,Q9 (show x.Id<next by omega),cond_false]
      cases i with
      | zero=>
       rw [j1 rfl,Q9 (show(0:Int)<x.Id by omega)];rfl
      | succ j=>
       obtain⟨y,hy,rfl⟩:=j2 j rfl
       have ew:w64 (((j+1:Nat):Int)-1)=(j:Int):=by unfold maxLen at hm;rw [Qcy (by omega)];omega
       rw [Q9 (show(0:Int)<((j+1:Nat):Int) by omega),cond_true,ew,Qci hy,Qm]
       by_cases c4:x.Id≤y.Id
       ·rw [Q9 c4,Q3 (show ¬y.Id<x.Id by omega)];rfl
       rw [Q3 c4,Q9 (show y.Id<x.Id by omega)];rfl
   rw [hgo,Qm]
   unfold Qdv
   rw [QaI hi hm]
   cases Qcz next t x<;>rfl
  ·cases hk:Qcz next t x with
   | false=>rw [hk]at e;cases e
   | true=>
    rw [hk]at e
    cases e
    have hk2:=hk
    unfold Qcz at hk2
    simp only [Qu,Qbw]at hk2
    exact⟨by omega,fun h=>by omega,fun j e=>⟨x,by rw [show j=i by omega];exact hx,rfl⟩⟩) (fun t _=>by
  show Qba l next (l.length:Int)=_
  unfold Qba
  rw [ltE];rfl) 0 ⟨Int.le_refl _,fun _=>rfl,fun j e=>by omega⟩ (s0:=0) rfl
 rw [h]
 have key:∀(l:List Qe) (i:Nat) (t:Int),Qen (fun (_:Nat) (t:Int) (x:Qe)=>bif Qcz next t x then Sum.inl x.Id else Sum.inr (Sum.inl ())) (fun _=>(Sum.inr ():Unit⊕Unit)) i t l=bif upF next t l then .inr ()else .inl ():=by
  intro l
  induction l with
  | nil=>intro i t;rfl
  | cons x l ih=>
   intro i t
   rw [Qen,upF]
   cases Qcz next t x with
   | true=>simpa using ih (i+1) x.Id
   | false=>rfl
 rw [key]
 cases upF next 0 l<;>rfl
theorem Qlg {l:List Qe}{id:Int}(hm:l.length≤maxLen):Qea l id=some ((Qbg (fun _ y=>y.Id==id) 0 l).elim (-1) fun i=>(i:Int)):=by
 unfold Qea
 have h:=Qh5 (body:=fun st=>Qbq l id st) (l:=l) (fun i=>(i:Int)) (fun _ y=>y.Id==id) (fun i=>.inl (i:Int)) (.inr ()) (fun i y hi hy=>by
  show Qbq l id (i:Int)=_
  unfold Qbq
  rw [ltN hy,Qci hy,QaI hi hm]
  simp only [cond_true,Qm]
  cases (y.Id==id)<;>rfl) (by
  show Qbq l id (l.length:Int)=_
  unfold Qbq
  rw [ltE];rfl) (s0:=0) rfl
 rw [h]
 cases Qbg (fun _ y=>y.Id==id) 0 l<;>rfl
theorem Qkp {x:Qe}(h:Qed x≤1000):Qcw x=some x:=by
 unfold Qed at h
 unfold Qcw QeZ
 rw [Qch (by simp;omega),Qm,Qch (by simp;omega),Qm,Qch (by simp;omega),Qm]
 rfl
theorem Qlh {l:List Qe}{id:Int}(hf:∀x∈l,Qed x≤1000)(hl:l.length≤4294967296)(hm:l.length≤maxLen):Qd9 l id=some (dropL l id):=by
 unfold Qd9
 have h:=Qfb (body:=fun st:Int×List Qe=>Qbp l id st.1 st.2) l.length (fun i s=>s=((i:Int),dropL (l.take i) id)) (fun r=>r=dropL l id) (fun i s hi hs=>by
  subst hs
  left
  have hx:l[i]? = some l[i]:=QI hi
  have htk:l.take (i+1)=l.take i++[l[i]]:=by rw [QiM,hx];rfl
  show ∃s',Qbp l id (i:Int) (dropL (l.take i) id)=_∧_
  unfold Qbp
  rw [ltN hx,Qci hx]
  simp only [cond_true,Qm]
  have hlen:(dropL (l.take i) id).length≤i:=by
   refine QaQ (Qj2 _ _) ?_
   simp;omega
  by_cases e:l[i].Id=id
  ·have e1:(l[i].Id != id)=false:=by simp [e]
   rw [e1]
   refine⟨_,rfl,?_⟩
   rw [htk];unfold dropL;rw [List.filter_append,QdM,e1,QaI hi hm];simp
  ·have e1:(l[i].Id != id)=true:=by simp [e]
   rw [e1,cond_true,Qkp (hf _ (Qb7 hi)),Qm,Qch (by simp;omega),Qm]
   refine⟨_,rfl,?_⟩
   rw [htk];unfold dropL;rw [List.filter_append,QdM,e1,QaI hi hm];simp) (fun s hs=>by
  subst hs
  refine⟨_,?_,rfl⟩
  show Qbp l id (l.length:Int) (dropL (l.take l.length) id)=_
  unfold Qbp
  rw [ltE,QhH];rfl) (0,[]) rfl
 obtain⟨r,hr,rfl⟩:=h
 rw [hr];rfl
def Qjk (x:Qe):List Qe→Nat
 | []=>0
 | y::l=>if y.Id≤x.Id then Qjk x l+1 else 0
theorem QlR (x:Qe):∀l,Qf4 x l=l.take (Qjk x l)++x::l.drop (Qjk x l)
 | []=>rfl
 | y::l=>by
  rw [Qjk]
  unfold Qf4
  by_cases c:y.Id≤x.Id
  ·rw [if_pos c,List.take_succ_cons,List.drop_succ_cons,List.cons_append,←QlR x l]
   simp [show ¬x.Id<y.Id by omega]
  rw [if_neg c]
  simp [show x.Id<y.Id by omega]
end Go.Proofs
noncomputable section
namespace Go.Proofs
open Go Go.RowKit Go.Vm
theorem Qli {α:Type}{l:List α}(p:α→Bool){body:Int→Option (Int⊕Int)}(hs:∀(i:Nat) x,l[i]? = some x→body (i:Int)=some (bif p x then .inl ((i+1:Nat):Int)else .inr (i:Int)))(hf:body (l.length:Int)=some (.inr (l.length:Int))):
  ∃k:Nat,QK body 0=some (k:Int)∧k≤l.length∧(∀i x,i<k→l[i]? = some x→p x=true)∧∀x,l[k]? = some x→p x=false:=by
 have h:=Qfb (body:=body) l.length (fun i s=>s=(i:Int)∧∀j x,j<i→l[j]? = some x→p x=true) (fun r=>∃k:Nat,r=(k:Int)∧k≤l.length∧(∀i x,i<k→l[i]? = some x→p x=true)∧∀x,l[k]? = some x→p x=false) (fun i s hi hI=>by
  obtain⟨rfl,h2⟩:=hI
  have hx:l[i]? = some l[i]:=QI hi
  rw [hs i _ hx]
  cases hp:p l[i]with
  | true=>
   refine .inl ⟨_,rfl,rfl,fun j x hj hjx=>?_⟩
   by_cases e:j=i
   ·subst e;rw [hx]at hjx;cases hjx;exact hp
   exact h2 j x (by omega) hjx
  | false=>exact .inr ⟨_,rfl,i,rfl,by omega,h2,fun x hx'=>by rw [hx]at hx';cases hx';exact hp⟩) (fun s hI=>by
  obtain⟨rfl,h2⟩:=hI
  exact⟨_,hf,l.length,rfl,QaX _,h2,fun x hx=>by rw [List.getElem?_eq_none (QaX _)]at hx;cases hx⟩) 0 ⟨rfl,fun j x hj=>by omega⟩
 obtain⟨r,hr,k,rfl,h1,h2,h3⟩:=h
 exact⟨k,hr,h1,h2,h3⟩
theorem QmH {x:Qe}:∀{l:List Qe} {k:Nat},k≤l.length→(∀i y,i<k→l[i]? = some y→decide (y.Id≤x.Id)=true)→(∀y,l[k]? = some y→decide (y.Id≤x.Id)=false)→Qjk x l=k
 | [],k,hk,_,_=>by
  have:k=0:=by simpa using hk
  subst this
  rfl
 | y::l,0,_,_,h3=>by
  have:=h3 y rfl
  rw [Qjk,if_neg (by simpa using this)]
 | y::l,k+1,hk,h2,h3=>by
  have:=h2 0 y (by omega) rfl
  rw [Qjk,if_pos (by simpa using this),QmH (l:=l) (k:=k) (by simpa using hk) (fun i z hi hz=>h2 (i+1) z (by omega) (by simpa using hz)) (fun z hz=>h3 z (by simpa using hz))]
theorem QlS {l:List Qe}{x:Qe}(hf:∀y∈l,Qed y≤1000)(hx:Qed x≤1000)(hl:l.length+1≤4294967296)(hm:l.length≤maxLen):QeL l x=some (Qeb l x):=by
 unfold QeL
 have hd:(dropL l x.Id).length≤l.length:=Qj2 _ _
 rw [Qlh hf (by omega) hm,Qm]
 unfold Qeb
 generalize dropL l x.Id=d at hd
 obtain⟨k,h1,h2,h3,h4⟩:=Qli (l:=d) (fun y=>decide (y.Id≤x.Id)) (body:=fun st=>QbG d x st) (fun i y hy=>by
  show QbG d x (i:Int)=_
  unfold QbG QfY Qdc
  rw [ltN hy,cond_true,Qci hy,Qm,Qm,QaI (Qx.1 hy).1 (by omega)]
  cases decide (y.Id≤x.Id)<;>rfl) (by
  show QbG d x (d.length:Int)=_
  unfold QbG QfY Qdc
  rw [ltE];rfl)
 rw [h1,Qm]
 have ha:=QmH h2 h3 h4
 unfold QfZ
 rw [Int.toNat_natCast,Qgh (by simp;omega),Qm,Qch (by simp;omega),Qm,Qkp hx,Qm,Qch (by simp;omega),Qm,Qgh (by simp;omega),Qm,Qch (by simp;omega),Qm,QlR,ha]
 simp
 rw [Qfi (by simp)]
def prs (L:List Qe):Nat→List Ky
 | 0=>[]
 | i+1=>match L[i]? with
  | some x=>if (∀y∈L.take i,y.Id≠x.Id)∧0<x.Until then prs L i++[(x.Until,x.Id)]else prs L i
  | none=>prs L i
theorem Qg7 (L:List Qe):∀i,(prs L i).length≤i
 | 0=>QaX _
 | i+1=>by
  rw [prs]
  have:=Qg7 L i
  split
  ·split
   ·simp;omega
   omega
  omega
theorem Qlj {L:List Qe}:∀{i:Nat} {p:Ky},p∈prs L i→∃x∈L.take i,x.Id=p.2
 | 0,p,h=>by cases h
 | i+1,p,h=>by
  have up:∀{x},x∈L.take i→x∈L.take (i+1):=fun {x} hx=>by rw [QiM];exact QgO _ hx
  rw [prs]at h
  split at h
  ·rename_i x hx
   split at h
   ·rcases Qff.1 h with h | h
    ·obtain⟨y,hy,e⟩:=Qlj h;exact⟨y,up hy,e⟩
    simp at h;subst h
    exact⟨x,by rw [QiM,hx];simp,rfl⟩
   obtain⟨y,hy,e⟩:=Qlj h;exact⟨y,up hy,e⟩
  obtain⟨y,hy,e⟩:=Qlj h;exact⟨y,up hy,e⟩
theorem Qn5 {L:List Qe}{now:Int}(hL:L.length≤80){S:List Ky}(hS:Srt S)(hp:S.Perm (prs L L.length)):QeJ L now=some (Qf6 now S):=by
 have mx:(80:Nat)≤maxLen:=by decide
 unfold QeJ Qik
 rw [Qm]
 have h:=Qfb (body:=fun st:Int×List (Int×Bool)×List (Option Nat)×List (Int×Option Nat)×List Qf=>Qbd L st.1 st.2.1 st.2.2.1 st.2.2.2.1 st.2.2.2.2) L.length (fun i s=>s.1=(i:Int)∧(∀k,(Qaq s.2.1 k).getD false=true↔∃y∈L.take i,y.Id=k)∧OkQ s.2.2.1 s.2.2.2.1 s.2.2.2.2∧(kys s.2.2.2.2 s.2.2.1).Perm (prs L i)∧∀k,Qaq s.2.2.2.1 k≠none→∃y∈L.take i,y.Id=k)
  (fun r=>OkQ r.1 r.2.1 r.2.2∧(kys r.2.2 r.1).Perm (prs L L.length)) (fun i s hi hs=>by
  obtain⟨j,m,l,mm,t⟩:=s
  obtain⟨rfl,hm,hq,hk,hmm⟩:=hs
  replace hm:∀k,(Qaq m k).getD false=true↔∃y∈L.take i,y.Id=k:=hm
  replace hq:OkQ l mm t:=hq
  replace hk:(kys t l).Perm (prs L i):=hk
  replace hmm:∀k,Qaq mm k≠none→∃y∈L.take i,y.Id=k:=hmm
  left
  have hx:L[i]? = some L[i]:=QI hi
  have htk:L.take (i+1)=L.take i++[L[i]]:=by rw [QiM,hx];rfl
  have hm':∀k,(Qaq (QcU ltI m L[i].Id true) k).getD false=true↔∃y∈L.take (i+1),y.Id=k:=fun k=>by
   rw [QlL,htk]
   by_cases e:k=L[i].Id
   ·rw [if_pos e]
    exact⟨fun _=>⟨L[i],List.mem_append_right _ (Qj4.2 rfl),e.symm⟩,fun _=>rfl⟩
   rw [if_neg e,hm]
   refine⟨fun ⟨y,h1,h2⟩=>⟨y,QgO _ h1,h2⟩,fun ⟨y,h1,h2⟩=>?_⟩
   rcases Qff.1 h1 with h1 | h1
   ·exact⟨y,h1,h2⟩
   simp at h1;subst h1;exact absurd h2.symm e
  show ∃s',Qbd L (i:Int) m l mm t=_∧_
  unfold Qbd Qej
  rw [ltN hx,Qci hx,cond_true,Qm,QaI hi (by omega)]
  have hpr:prs L (i+1)=if (∀y∈L.take i,y.Id≠L[i].Id)∧0<L[i].Until then prs L i++[(L[i].Until,L[i].Id)]else prs L i:=by rw [prs,hx]
  have hlen:l.length≤i:=by
   have:=hk.length_eq
   rw [Qbe]at this
   have:=Qg7 L i
   omega
  by_cases c1:∃y∈L.take i,y.Id=L[i].Id
  ·rw [(hm _).2 c1]
   refine⟨_,rfl,rfl,hm',hq,?_,fun k hk=>?_⟩
   ·rw [hpr,if_neg fun h=>by obtain⟨y,h1,h2⟩:=c1;exact h.1 y h1 h2];exact hk
   obtain⟨y,h1,h2⟩:=hmm k hk
   exact⟨y,by rw [htk];exact QgO _ h1,h2⟩
  ·rw [Bool.eq_false_iff.2 fun h=>c1 ((hm _).1 h)]
   have c1':∀y∈L.take i,y.Id≠L[i].Id:=fun y h1 h2=>c1 ⟨y,h1,h2⟩
   by_cases c2:0<L[i].Until
   ·rw [Q9 c2]
    obtain⟨r,hr,g1,g2,g3,v,g4⟩:=Qpe hq (by omega) (id:=L[i].Id) (at_:=L[i].Until) (by
     cases hmg:Qaq mm L[i].Id with
     | none=>rfl
     | some v=>exact absurd (hmm _ (by rw [hmg];simp)) c1)
    simp only [Bool.not_false,Bool.and_self,cond_true]
    rw [hr,Qm]
    refine⟨_,rfl,rfl,hm',g1,?_,fun k hk=>?_⟩
    ·rw [hpr,if_pos ⟨c1',c2⟩]
     exact g3.trans (hk.append_right _)
    replace hk:Qaq r.2.2.2 k≠none:=hk
    rw [g4,QlL]at hk
    by_cases e:k=L[i].Id
    ·exact⟨L[i],by rw [htk];exact List.mem_append_right _ (Qj4.2 rfl),e.symm⟩
    rw [if_neg e]at hk
    obtain⟨y,h1,h2⟩:=hmm k hk
    exact⟨y,by rw [htk];exact QgO _ h1,h2⟩
   rw [Q3 c2]
   refine⟨_,rfl,rfl,hm',hq,?_,fun k hk=>?_⟩
   ·rw [hpr,if_neg fun h=>c2 h.2];exact hk
   obtain⟨y,h1,h2⟩:=hmm k hk
   exact⟨y,by rw [htk];exact QgO _ h1,h2⟩) (fun s hs=>by
  obtain⟨j,m,l,mm,t⟩:=s
  obtain⟨rfl,hm,hq,hk,hmm⟩:=hs
  refine⟨(l,mm,t),?_,hq,hk⟩
  show Qbd L (L.length:Int) m l mm t=_
  unfold Qbd
  rw [ltE];rfl) (0,[],[],[],[]) ⟨rfl,fun k=>by simp [Qaq],⟨⟨(fun o h=>by cases h),(fun e h=>by cases h)⟩,(fun q h=>by cases h),fun c _ h=>by cases h⟩,List.Perm.refl _,fun k h=>absurd rfl h⟩
 obtain⟨r,hr,hq,hk⟩:=h
 show((QK (fun st=>Qbd L st.1 st.2.1 st.2.2.1 st.2.2.2.1 st.2.2.2.2) (0,[],[],[],[])).bind _)=_
 rw [hr,Qm]
 unfold QfV Qev
 have hlen:r.1.length≤80:=by
  have:=hk.length_eq
  rw [Qbe]at this
  have:=Qg7 L L.length
  omega
 obtain⟨v,hv⟩:∃v,Qau r.1 r.2.1 r.2.2=some v:=by
  rcases Qjj r.2.1 hq.h with⟨_,e⟩|⟨_,e⟩<;>exact⟨_,e⟩
 obtain⟨q,h4,h5⟩:=QmG (now:=now) S hq.h hq.k hS (hp.trans hk.symm) hv.symm (out:=[]) (by simp;omega)
 rw [hv,Qm,h4,Qm]
 unfold Qdr
 rw [Qm,h5,List.nil_append]
def flp (p:Int×Int):Ky:=(p.2,p.1)
theorem QoN {q:List (Int×Int)}{id:Int}(hm:q.length≤maxLen)(h:∀p∈q,p.1≠id):Qbf ⟨q⟩ id=some (-1):=by
 unfold Qbf
 have h0:=h
 have h:=Qh5 (body:=fun st=>Q4 ⟨q⟩ id st) (l:=q) (fun i=>(i:Int)) (fun _ y=>y.1==id) (fun i=>.inl (i:Int)) (.inr ()) (fun i y hi hy=>by
  show Q4 ⟨q⟩ id (i:Int)=_
  unfold Q4
  rw [ltN hy,Qci hy,QaI hi hm]
  simp only [cond_true,Qm]
  cases (y.1==id)<;>rfl) (by
  show Q4 ⟨q⟩ id (q.length:Int)=_
  unfold Q4
  rw [ltE];rfl) (s0:=0) rfl
 rw [h]
 cases hs:Qbg (fun _ y=>y.1==id) 0 q with
 | none=>rfl
 | some i=>
  obtain⟨j,x,_,hx,he⟩:=Qny hs
  exact absurd (by simpa using he) (h0 x (QQ hx))
theorem Qpg {q:List (Int×Int)}{id at_:Int}(hl:q.length≤80)(hs:Srt (q.map flp))(h:∀p∈q,p.1≠id):∃q2,Qbr ⟨q⟩ id at_=some (0,⟨q2⟩)∧Srt (q2.map flp)∧(q2.map flp).Perm (q.map flp++[(at_,id)]):=by
 have mx:(80:Nat)≤maxLen:=by decide
 unfold Qbr
 rw [QoN (by omega) h,Qm,Q3 (by decide),cond_false,Q3 (show ¬(4096:Int)≤(q.length:Int) by omega),cond_false]
 obtain⟨k,h1,h2,h3,h4⟩:=Qli (l:=q) (fun y=>decide (LtK (flp y) (at_,id))) (body:=fun st=>Q7 ⟨q⟩ at_ id st) (fun i y hy=>by
  show Q7 ⟨q⟩ at_ id (i:Int)=_
  unfold Q7 QbV QaO
  rw [ltN hy,cond_true,Qci hy,Qm,Qm,Qm,QaI (Qx.1 hy).1 (by omega)]
  have hd:∀p:Prop,[Decidable p]→(p↔LtK (flp y) (at_,id))→decide p=decide (LtK (flp y) (at_,id)):=fun p _ hp=>decide_eq_decide.2 hp
  by_cases c1:y.2<at_
  ·rw [Q9 c1,Q9 (show LtK (flp y) (at_,id)from .inl c1)];rfl
  ·rw [Q3 c1,cond_false]
   by_cases c2:y.2=at_
   ·rw [show(y.2==at_)=true by simpa using c2,cond_true,Qm,hd (y.1<id) ⟨fun h=>.inr ⟨c2,h⟩,fun h=>by rcases h with h | h;exact absurd h c1;exact h.2⟩]
    cases decide (LtK (flp y) (at_,id))<;>rfl
   rw [show(y.2==at_)=false by simpa using c2,cond_false,Qm,Q3 (p:=LtK (flp y) (at_,id)) (by
    rintro (h | h)
    ·exact c1 h
    exact c2 h.1)]
   rfl) (by
  show Q7 ⟨q⟩ at_ id (q.length:Int)=_
  unfold Q7 QbV QaO
  rw [ltE];rfl)
 rw [h1,Qm]
 unfold QbW
 rw [Int.toNat_natCast,Qgh (by simp;omega),Qm,Qch (by simp;omega),Qm,Qch (by simp;omega),Qm,Qgh (by simp;omega),Qm,Qch (by simp;omega),Qm]
 refine⟨_,rfl,?_,?_⟩
 ·simp only [List.nil_append,List.drop_zero,Nat.sub_zero,QbK]
  rw [Qfi (l:=q.drop k) (by simp),QhG,QhG,List.map_take,List.map_drop]
  unfold Srt at *
  rw [List.pairwise_append]
  refine⟨hs.sublist (List.take_sublist _ _),?_,?_⟩
  ·show List.Pairwise LeK ((at_,id)::(List.map flp q).drop k)
   refine QiK.2 ⟨fun z hz=>?_,hs.sublist (List.drop_sublist _ _)⟩
   by_cases hk:k<q.length
   ·have hd:(List.map flp q).drop k=flp q[k]::(List.map flp q).drop (k+1):=by
     rw [QlX (by simpa using hk)];simp
    have h5:LeK (at_,id) (flp q[k]):=by
     have:=h4 _ (QI hk)
     exact of_decide_eq_false this
    rw [hd]at hz
    rcases Qaa.1 hz with rfl | hz
    ·exact h5
    have:=hs.sublist (List.drop_sublist k _)
    rw [hd]at this
    exact h5.trans (List.rel_of_pairwise_cons this hz)
   rw [List.drop_eq_nil_of_le (by simp;omega)]at hz;cases hz
  intro a ha b hb
  have ha':LeK a (at_,id):=by
   obtain⟨i,hi,rfl⟩:=QkL.1 ha
   have hi2:i<k∧i<q.length:=by simp at hi;omega
   have:=Qal (h3 i _ hi2.1 (QI hi2.2))
   rw [List.getElem_take,List.getElem_map]
   exact this.le
  rcases Qaa.1 (show b∈(at_,id)::(List.map flp q).drop k from hb)with rfl | hb
  ·exact ha'
  have h6:=hs
  rw [←QkM k (List.map flp q),List.pairwise_append]at h6
  exact h6.2.2 a ha b hb
 simp only [List.nil_append,List.drop_zero,Nat.sub_zero,QbK]
 rw [Qfi (l:=q.drop k) (by simp),QhG,QhG]
 have:(q.map flp)=(q.take k).map flp++(q.drop k).map flp:=by rw [←QhG,QkM]
 rw [this,QbK]
 exact List.Perm.append_left _ List.perm_append_comm
theorem QmY : ∀(q:List (Int×Int)) {now:Int} {out:List Int},q.length+out.length≤1000→∃q2,QK (fun st=>QP now st.1 st.2) (q,out)=some (out++Qf6 now (q.map flp),q2)
 | [],now,out,_=>by
  rw [Qcp]
  refine⟨⟨[]⟩,?_⟩
  show((QP now [] out).bind _)=_
  simp [Qf6,QP,Qa4,Qag]
 | p::q,now,out,hl=>by
  rw [Qcp]
  simp only [Qf8]at hl
  by_cases ha:p.2≤now
  ·obtain⟨q2,h2⟩:=QmY q (now:=now) (out:=out++[p.1]) (by simp;omega)
   have hs:QP now (p::q) out=some (.inl (q,out++[p.1])):=by
    unfold QP Qa4 Qag
    rw [Q9 (show(0:Int)<((p::q).length:Int) by simp),cond_true,show idx (p::q) 0=some p from rfl,Qm,Qm,Q9 ha,cond_true,Qm,Qch (by simp;omega),Qm,Qgh (by simp),Qm,Qch (by simp;omega),Qm]
    simp
   refine⟨q2,(congrArg (fun o=>Option.bind o _) hs).trans (h2.trans ?_)⟩
   unfold Qf6
   rw [QbL,List.takeWhile_cons_of_pos (p:=fun s:Ky=>decide (s.1≤now)) (a:=flp p) (Q9 ha),QbL,QbK];rfl
  have hs:QP now (p::q) out=some (.inr (out,⟨p::q⟩)):=by
   unfold QP Qa4 Qag
   rw [Q9 (show(0:Int)<((p::q).length:Int) by simp),cond_true,show idx (p::q) 0=some p from rfl,Qm,Qm,Q3 ha];rfl
  refine⟨⟨p::q⟩,(congrArg (fun o=>Option.bind o _) hs).trans ?_⟩
  unfold Qf6
  rw [QbL,List.takeWhile_cons_of_neg (p:=fun s:Ky=>decide (s.1≤now)) (a:=flp p) (by rw [show decide ((flp p).1≤now)=false from Q3 ha];decide)]
  show some (out,_)=_
  simp
end Go.Proofs
noncomputable section
namespace Go.Proofs
open Go Go.RowKit Go.Vm
theorem QmI {L:List Qe}{i:Nat}(hi:i<L.length):Qbg (fun _ y=>y.Id==L[i].Id) 0 L=some i↔∀y∈L.take i,y.Id≠L[i].Id:=by
 constructor
 ·intro h y hy e
  obtain⟨j,hj,rfl⟩:=QkL.1 hy
  have hj2:j<i∧j<L.length:=by simp at hj;omega
  have key:∀(l:List Qe) (k n:Nat),Qbg (fun _ y=>y.Id==L[i].Id) k l=some n→∀m x,k+m<n→l[m]? = some x→(x.Id==L[i].Id)=false:=by
   intro l
   induction l with
   | nil=>intro k n h;cases h
   | cons z l ih=>
    intro k n h m x hm hx
    rw [Qbg]at h
    cases hz:(z.Id==L[i].Id)with
    | true=>rw [hz]at h;cases h;omega
    | false=>
     rw [hz]at h
     cases m with
     | zero=>cases hx;exact hz
     | succ m=>exact ih (k+1) n h m x (by omega) hx
  have:=key L 0 i h j L[j] (by omega) (QI hj2.2)
  rw [List.getElem_take]at e
  simp [e]at this
 intro h
 have key:∀(l:List Qe) (k m:Nat) x,l[m]? = some x→(x.Id==L[i].Id)=true→(∀j y,j<m→l[j]? = some y→(y.Id==L[i].Id)=false)→Qbg (fun _ y=>y.Id==L[i].Id) k l=some (k+m):=by
  intro l
  induction l with
  | nil=>intro k m x hx;cases hx
  | cons z l ih=>
   intro k m x hx he hj
   rw [Qbg]
   cases m with
   | zero=>cases hx;rw [he];rfl
   | succ m=>
    rw [hj 0 z (by omega) rfl,cond_false,ih (k+1) m x hx he fun j y hj' hy=>hj (j+1) y (by omega) hy]
    congr 1;omega
 have:=key L 0 i L[i] (QI hi) (by simp) fun j y hj hy=>by
  have hjl:j<L.length:=by omega
  rw [QI hjl]at hy
  cases hy
  have:=h L[j] (QkL.2 ⟨j,by simp;omega,by rw [List.getElem_take]⟩)
  simpa using this
 simpa using this
theorem Qph {L:List Qe}{now:Int}(hL:L.length≤80):∃S,Srt S∧S.Perm (prs L L.length)∧Qgg L now=some (Qf6 now S):=by
 have mx:(80:Nat)≤maxLen:=by decide
 unfold Qgg Qin
 rw [Qm]
 have h:=Qfb (body:=fun st:Int×Qo=>QbJ L st.1 st.2) L.length (fun i s=>s.1=(i:Int)∧Srt (s.2.L.map flp)∧(s.2.L.map flp).Perm (prs L i))
  (fun r=>Srt (r.L.map flp)∧(r.L.map flp).Perm (prs L L.length)) (fun i s hi hs=>by
  obtain⟨j,⟨q⟩⟩:=s
  obtain⟨rfl,hq,hp⟩:=hs
  replace hq:Srt (q.map flp):=hq
  replace hp:(q.map flp).Perm (prs L i):=hp
  left
  have hx:L[i]? = some L[i]:=QI hi
  have hpr:prs L (i+1)=if (∀y∈L.take i,y.Id≠L[i].Id)∧0<L[i].Until then prs L i++[(L[i].Until,L[i].Id)]else prs L i:=by rw [prs,hx]
  have hlen:q.length≤i:=by
   have:=hp.length_eq
   rw [Qdi]at this
   have:=Qg7 L i
   omega
  show ∃s',QbJ L (i:Int) ⟨q⟩=_∧_
  unfold QbJ
  rw [ltN hx,cond_true]
  have g2:Qf1 L (i:Int)=some (decide ((∀y∈L.take i,y.Id≠L[i].Id)∧0<L[i].Until)):=by
   unfold Qf1
   rw [Qci hx,Qm,Qlg (by omega),Qm,Qm]
   by_cases c:∀y∈L.take i,y.Id≠L[i].Id
   ·rw [(QmI hi).2 c]
    show(bif (i:Int)==(i:Int)then _ else _)=_
    rw [beq_self_eq_true,cond_true]
    congr 1
    exact decide_eq_decide.2 ⟨fun h=>⟨c,h⟩,fun h=>h.2⟩
   have hf:decide ((∀y∈L.take i,y.Id≠L[i].Id)∧0<L[i].Until)=false:=Q3 fun h=>c h.1
   rw [hf]
   have hne:((Qbg (fun _ y=>y.Id==L[i].Id) 0 L).elim (-1:Int) (fun i=>(i:Int))==(i:Int))=false:=by
    cases hs:Qbg (fun _ y=>y.Id==L[i].Id) 0 L with
    | none=>simp
    | some k=>
     have:k≠i:=fun e=>c ((QmI hi).1 (e▸hs))
     simp;omega
   rw [hne];rfl
  rw [g2,Qm]
  unfold Qem Qel
  rw [QaI hi (by omega)]
  by_cases c:(∀y∈L.take i,y.Id≠L[i].Id)∧0<L[i].Until
  ·rw [Q9 c,cond_true,Qci hx,Qm,Qm]
   obtain⟨q2,g1,g3,g4⟩:=Qpg (q:=q) (id:=L[i].Id) (at_:=L[i].Until) (by omega) hq (fun p hp' e=>by
    obtain⟨y,hy,e2⟩:=Qlj (hp.mem_iff.1 (QaE.2 ⟨p,hp',rfl⟩))
    exact c.1 y hy (e2.trans e))
   rw [g1,Qm]
   refine⟨_,rfl,rfl,g3,?_⟩
   rw [hpr,if_pos c]
   exact g4.trans (hp.append_right _)
  ·rw [Q3 c]
   exact⟨_,rfl,rfl,hq,by rw [hpr,if_neg c];exact hp⟩) (fun s hs=>by
  obtain⟨j,⟨q⟩⟩:=s
  obtain⟨rfl,hq,hp⟩:=hs
  refine⟨⟨q⟩,?_,hq,hp⟩
  show QbJ L (L.length:Int) ⟨q⟩=_
  unfold QbJ
  rw [ltE];rfl) (0,⟨[]⟩) ⟨rfl,List.Pairwise.nil,List.Perm.refl _⟩
 obtain⟨⟨q⟩,hr,hq,hp⟩:=h
 rw [hr,Qm]
 unfold Qf2 Qcx
 have hlen:q.length≤80:=by
  have:=hp.length_eq
  simp only [Qdi]at this
  have:=Qg7 L L.length
  omega
 obtain⟨q2,h2⟩:=QmY q (now:=now) (out:=[]) (by simp;omega)
 refine⟨q.map flp,hq,hp,?_⟩
 rw [h2,Qm]
 unfold QbX
 rw [Qm,List.nil_append]
theorem QpH (p:List Qe)(i:Nat)(hi:i<p.length)(hm:p.length≤maxLen)(hx:∀x∈p,x.Mode.Ins.length≤maxLen):Qaw p (i:Int)=some (.inl ((i+1:Nat):Int)):=by
 unfold Qaw
 have hpi:p[i]? = some p[i]:=QI hi
 have hxi:=hx _ (Qb7 hi)
 rw [ltN hpi,cond_true]
 obtain⟨r,hr,_⟩:=Qfb (body:=fun st=>QaU p (i:Int) st) p[i].Mode.Ins.length (fun k s=>s=(k:Int)) (fun _:Unit=>True) (fun k s hk hs=>by
  subst hs
  left
  have hk2:p[i].Mode.Ins[k]? = some p[i].Mode.Ins[k]:=QI hk
  show ∃s',QaU p (i:Int) (k:Int)=_∧_
  unfold QaU
  rw [Qci hpi,Qm,ltN hk2,cond_true,Qm,Qci hk2,Qm]
  exact⟨_,rfl,QaI hk hxi⟩) (fun s hs=>by
  subst hs
  refine⟨(),?_,trivial⟩
  show QaU p (i:Int) (p[i].Mode.Ins.length:Int)=_
  unfold QaU
  rw [Qci hpi,Qm,ltE];rfl) 0 rfl
 rw [hr,Qm]
 unfold Qdx
 rw [QaI hi hm]
theorem QjZ {a:List Qe}(hm:a.length≤maxLen)(hx:∀x∈a,lenM x.Mode):Qb2 a a=some true:=by rw [Qp9 hm hx];simp
theorem Qn6 {l:List Qe}{x:Qe}{now:Int}(hl:∀x∈l,Can x)(hx:Can x):Qb6 l x now=some true:=by
 unfold Qb6
 rw [QoD,Qm,Qn2 hl,Qm,Qn2 (l:=[x]) (by simpa using hx),Qm]
 by_cases f1:l.length≤80∧Qec l≤1000
 ·rw [Q9 f1]
  by_cases f2:[x].length≤80∧Qec [x]≤1000
  ·rw [Q9 f2]
   have m80:(82:Nat)≤maxLen:=by decide
   have l1:=f1.1
   have ll:∀z∈l,Qed z≤1000:=fun z hz=>QaQ (QmD hz) f1.2
   have lx:Qed x≤1000:=QaQ (QmD (l:=[x]) (by simp)) f2.2
   have fl:∀z∈l,Fit z:=fun z hz=>Fit.of (ll z hz)
   have fx:Fit x:=Fit.of lx
   have a1:=QoG l x
   have a2:=QlQ l x.Id
   have lp:∀y∈Qeb l x,lenM y.Mode:=fun y hy=>(Qpa fl fx y hy).lenM
   have ld:∀y∈dropL l x.Id,lenM y.Mode:=fun y hy=>(QoH fl y hy).lenM
   simp only [QgL,Bool.or_self,cond_false]
   rw [Qn1 fl fx (by omega) (by omega),Qm,QmW fl (by omega) (by omega),Qm]
   have g1:Qdw l x (Qeb l x) (dropL l x.Id)=some true:=by
    unfold Qdw
    rw [QlS ll lx (by omega) (by omega),Qm,QjZ (by omega) lp,Qm,cond_true,Qlh ll (by omega) (by omega),Qm,QjZ (by omega) ld,Qm]
   rw [g1,Qm]
   unfold Qcg
   have hs:QK (fun st=>Qaw (Qeb l x) st) 0=some ():=by
    obtain⟨r,hr,_⟩:=Qfb (body:=fun st=>Qaw (Qeb l x) st) (Qeb l x).length (fun i s=>s=(i:Int)) (fun _:Unit=>True) (fun i s hi hs=>by
     subst hs
     exact .inl ⟨_,QpH _ i hi (by omega) fun y hy=>(lp y hy).2.1,rfl⟩) (fun s hs=>by
     subst hs
     refine⟨(),?_,trivial⟩
     show Qaw (Qeb l x) ((Qeb l x).length:Int)=_
     unfold Qaw
     rw [ltE];rfl) 0 rfl
    rw [hr]
   rw [hs,Qm]
   unfold Qdz QfI
   obtain⟨S,h1,h2,h3⟩:=Qph (now:=now) f1.1
   have hdl:(Qf6 now S).length≤maxLen:=by
    have e1:(Qf6 now S).length≤S.length:=by
     unfold Qf6
     rw [Qdi]
     exact(List.takeWhile_sublist _).length_le
    have:=h2.length_eq
    have:=Qg7 l l.length
    omega
   rw [cond_true,cond_true,Qn1 fl fx (by omega) (by omega),Qm,QlS ll lx (by omega) (by omega),Qm,QjZ (by omega) lp,Qm,cond_true,Qpc (by omega),Qm,Qlg (by omega),Qm,beq_self_eq_true,cond_true,
    Qn5 f1.1 h1 h2,Qm,h3,Qm,Qke hdl,Qm,Q9 rfl,cond_true,QoF (by omega),Qm,QmS (by omega),Qm,beq_self_eq_true]
   rfl
  rw [Q3 f2];rfl
 rw [Q3 f1];rfl
end Go.Proofs
