/- A part of the proof; what it holds is told at each theorem. -/
import Derived.Test.YtbcmaoldnhphlaaO5T1
import Derived.Test.YtbcmaoldnhphlaaO5XPlA
import Derived.KernelRfl
set_option linter.unusedVariables false
set_option linter.unusedSimpArgs false
set_option linter.unusedSectionVars false
set_option linter.deprecated false
noncomputable section
namespace Go.Proofs
open Go Go.RowKit Go.Vm
set_option maxRecDepth 100000 in
theorem Qms : Qe8=some true:=by kernel_rfl
end Go.Proofs
noncomputable section
namespace Go.Proofs
open Go Go.RowKit Go.Vm
theorem QhC {α:Type}{l:List α}{i:Nat}{x:α}(h:l[i]? = some x):idx l (i:Int)=some x:=by rw [QmO];exact h
theorem ltN {α:Type}{l:List α}{i:Nat}{x:α}(h:l[i]? = some x):decide ((i:Int)<(l.length:Int))=true:=Qbm (by have:=(Qx.1 h).1;omega)
theorem ltE {n:Nat}:decide ((n:Int)<(n:Int))=false:=Qbf (by omega)
end Go.Proofs
noncomputable section
namespace Go.Proofs
open Go Go.RowKit Go.Vm
def Fit (x:Qi):Prop:=x.Mode.Vars.length≤17592186044416∧x.Mode.Ins.length≤17592186044416∧x.Mode.Outs.length≤17592186044416
theorem QiN {s:List Int}(h:s.length≤17592186044416):Q8 s=some s:=by
 unfold Q8
 rw [QhB (by show(0+s.length)*8≤140737488355328;omega)];simp
theorem QjJ {x:Qi}(h:Fit x):Qce x=some x:=by
 unfold Qce
 rw [QiN h.1,QiN h.2.1,QiN h.2.2];rfl
def dropL (l:List Qi)(id:Int):List Qi:=l.filter fun x=>x.Id != id
theorem QkR {l:List Qi}{id:Int}(hf:∀x∈l,Fit x)(hl:l.length≤4294967296)(hm:l.length≤maxLen):Qcf l id=some (dropL l id):=by
 unfold Qcf
 have h:=Qir (body:=fun st:Int×List Qi=>QaW l id st.1 st.2) l.length (fun i s=>s=((i:Int),dropL (l.take i) id)) (fun r=>r=dropL l id) (fun i s hi hs=>by
  subst hs
  left
  have hx:l[i]? = some l[i]:=QK hi
  have htk:l.take (i+1)=l.take i++[l[i]]:=by rw [List.take_add_one,hx];rfl
  show ∃s',QaW l id (i:Int) (dropL (l.take i) id)=_∧_
  unfold QaW
  rw [ltN hx,QhC hx]
  simp only [cond_true,Qs]
  have hlen:(dropL (l.take i) id).length≤i:=by
   refine Qbe (List.length_filter_le _ _) ?_
   simp;omega
  by_cases e:l[i].Id=id
  ·have e1:(l[i].Id != id)=false:=by simp [e]
   rw [e1]
   refine⟨_,rfl,?_⟩
   rw [htk];unfold dropL;rw [List.filter_append,QcV,e1,QcC hi hm];simp
  ·have e1:(l[i].Id != id)=true:=by simp [e]
   rw [e1,cond_true,QjJ (hf _ (Qb6 hi)),Qs,QhB (by simp;omega),Qs]
   refine⟨_,rfl,?_⟩
   rw [htk];unfold dropL;rw [List.filter_append,QcV,e1,QcC hi hm];simp) (fun s hs=>by
  subst hs
  refine⟨_,?_,rfl⟩
  show QaW l id (l.length:Int) (dropL (l.take l.length) id)=_
  unfold QaW
  rw [ltE,Qg4];rfl) (0,[]) rfl
 obtain⟨r,hr,rfl⟩:=h
 rw [hr];rfl
def QfS (x:Qi):List Qi→List Qi
 | []=>[x]
 | y::r=>if x.Id<y.Id then x::y::r else y::QfS x r
def Qdh (l:List Qi)(x:Qi):List Qi:=QfS x (dropL l x.Id)
theorem QhD (x:Qi):∀l:List Qi,(QfS x l).length=l.length+1
 | []=>rfl
 | y::r=>by rw [QfS];split<;>simp [QhD x r]
theorem Qie (x:Qi):∀l:List Qi,(QfS x l).Perm (x::l)
 | []=>List.Perm.refl _
 | y::r=>by
  rw [QfS];split
  ·exact List.Perm.refl _
  exact(List.Perm.cons y (Qie x r)).trans (List.Perm.swap x y r)
theorem QjK (x:Qi):∀(l:List Qi) (k:Nat),(match QbN (fun _ y=>decide (x.Id<y.Id)) k l with | some i=>k≤i∧i-k≤l.length∧QfS x l=l.take (i-k)++x::l.drop (i-k) | none=>QfS x l=l++[x])
 | [],k=>rfl
 | y::r,k=>by
  rw [QbN,QfS]
  by_cases h:x.Id<y.Id
  ·simp [h]
  have ih:=QjK x r (k+1)
  rw [Qbf h,cond_false,if_neg h]
  cases hs:QbN (fun _ y=>decide (x.Id<y.Id)) (k+1) r with
  | none=>rw [hs]at ih;simp only at ih;rw [ih];rfl
  | some i=>
   rw [hs]at ih;simp only at ih
   obtain⟨h1,h2,h3⟩:=ih
   refine⟨by omega,by simp;omega,?_⟩
   rw [h3,show i-k=(i-(k+1))+1 by omega];rfl
theorem Qmt {l:List Qi}{x:Qi}(hm:l.length≤maxLen):Q6 l x=some ((QbN (fun _ y=>decide (x.Id<y.Id)) 0 l).elim (-1) fun i=>(i:Int)):=by
 unfold Q6
 have h:=QjI (body:=fun st=>QB l x st) (l:=l) (fun i=>(i:Int)) (fun _ y=>decide (x.Id<y.Id)) (fun i=>.inl (i:Int)) (.inr ()) (fun i y hi hy=>by
  show QB l x (i:Int)=_
  unfold QB Qe7
  rw [ltN hy,QhC hy,QcC hi hm]
  simp only [cond_true,Qs]
  cases decide (x.Id<y.Id)<;>rfl) (by
  show QB l x (l.length:Int)=_
  unfold QB
  rw [ltE];rfl) (s0:=0) rfl
 rw [h]
 cases QbN (fun _ y=>decide (x.Id<y.Id)) 0 l<;>rfl
theorem QjL {l:List Qi}{x:Qi}{i:Nat}(hi:i≤l.length)(hl:l.length+1≤4294967296):QO l (i:Int) [x]=some (l.take i++x::l.drop i):=by
 show(chk _).bind _=_
 rw [Qjg (by simp;omega)]
 simp
theorem QnI {α:Type}{p:Prop}[Decidable p](h:p)(a b:α):(bif decide p then a else b)=a:=by rw [Qbm h];rfl
theorem QnJ {α:Type}{p:Prop}[Decidable p](h:¬p)(a b:α):(bif decide p then a else b)=b:=by rw [Qbf h];rfl
theorem Qne {l:List Qi}{x:Qi}(hf:∀x∈l,Fit x)(hx:Fit x)(hl:l.length+1≤4294967296)(hm:l.length≤maxLen):Qb4 l x=some (Qdh l x):=by
 unfold Qb4
 have hd:(dropL l x.Id).length≤l.length:=List.length_filter_le _ _
 rw [QkR hf (by omega) hm,Qs,Qmt (by omega),Qs]
 have h:=QjK x (dropL l x.Id) 0
 unfold Qdm
 rw [QjJ hx]
 unfold Qdh
 cases hs:QbN (fun _ y=>decide (x.Id<y.Id)) 0 (dropL l x.Id)with
 | none=>
  rw [hs]at h;simp only at h
  rw [h]
  simp only [Option.elim,Qs]
  refine(QnI (by decide) _ _).trans ?_
  show(QO (dropL l x.Id) ((dropL l x.Id).length:Int) [x]).bind some=_
  rw [QjL (QaO _) (by omega)]
  simp
 | some i=>
  rw [hs]at h;simp only at h
  obtain⟨_,h2,h3⟩:=h
  rw [Nat.sub_zero]at h2 h3
  simp only [Option.elim,Qs]
  refine(QnJ (by omega) _ _).trans ?_
  show(QO (dropL l x.Id) (i:Int) [x]).bind some=_
  rw [h3,QjL h2 (by omega)]
  rfl
def Up (l:List Qi):Prop:=l.Pairwise fun a b=>a.Id<b.Id
theorem Up.ext : ∀{l m:List Qi},Up l→Up m→(∀x,x∈l↔x∈m)→l=m
 | [],[],_,_,_=>rfl
 | [],y::m,_,_,h=>by have:=(h y).2 QaB;cases this
 | x::l,[],_,_,h=>by have:=(h x).1 QaB;cases this
 | x::l,y::m,hl,hm,h=>by
  obtain⟨l1,l2⟩:=Qf1.1 hl
  obtain⟨m1,m2⟩:=Qf1.1 hm
  have e:x=y:=by
   rcases Q4.1 ((h x).1 QaB)with e | hx
   ·exact e
   rcases Q4.1 ((h y).2 QaB)with e | hy
   ·exact e.symm
   have:=m1 x hx;have:=l1 y hy;omega
  subst e
  rw [Up.ext l2 m2 fun z=>?_]
  have:=h z
  simp only [Q4]at this
  constructor
  ·intro hz
   rcases this.1 (.inr hz)with e | h'
   ·subst e;have:=l1 z hz;omega
   exact h'
  intro hz
  rcases this.2 (.inr hz)with e | h'
  ·subst e;have:=m1 z hz;omega
  exact h'
theorem Up.drop {l:List Qi}(h:Up l)(id:Int):Up (dropL l id):=List.Pairwise.filter _ h
theorem QhE {l:List Qi}{id:Int}{x:Qi}:x∈dropL l id↔x∈l∧x.Id≠id:=by simp [dropL,List.mem_filter]
theorem Up.ins {x:Qi}:∀{l:List Qi},Up l→(∀y∈l,y.Id≠x.Id)→Up (QfS x l)
 | [],_,_=>List.pairwise_singleton _ _
 | y::r,h,hn=>by
  obtain⟨h1,h2⟩:=Qf1.1 h
  rw [QfS]
  split
  ·rename_i hlt
   refine Qf1.2 ⟨fun z hz=>?_,h⟩
   rcases Q4.1 hz with rfl | hz
   ·exact hlt
   have:=h1 z hz;omega
  rename_i hge
  have hy:=hn y QaB
  refine Qf1.2 ⟨fun z hz=>?_,Up.ins h2 fun z hz=>hn z (Qa1 _ hz)⟩
  rcases Q4.1 ((Qie x r).mem_iff.1 hz)with rfl | hz
  ·omega
  exact h1 z hz
theorem Up.put {l:List Qi}(h:Up l)(x:Qi):Up (Qdh l x):=(h.drop x.Id).ins fun y hy=>(QhE.1 hy).2
theorem QkS {l:List Qi}{x z:Qi}:z∈Qdh l x↔z=x∨(z∈l∧z.Id≠x.Id):=by
 unfold Qdh
 rw [(Qie x _).mem_iff,Q4,QhE]
theorem QjM (n lo hi:Int):QbY n lo hi=some (decide (lo≤n)&&decide (n≤hi)):=rfl
open Classical in
theorem QkD (b:Q5):∃r,QbL b=some r:=by
 unfold QbL Qgh
 simp only [QjM,Qs]
 have h:∀c:Bool,∃r,Qb1 b c=some r:=fun c=>by
  unfold Qb1
  cases c with
  | true=>exact⟨_,rfl⟩
  | false=>
   have h:=Qmr (body:=fun st=>QaX b st) (l:=[b.Open,b.Done,b.Failed]) (fun i=>(i:Int)) (fun _ x=>!(decide (0≤x)&&decide (x≤b.Most))) (.inl ()) (.inr ()) (fun i x hi hx=>by
    show QaX b (i:Int)=_
    unfold QaX
    rw [ltN hx,QhC hx,QcC hi (by show 3≤_;decide)]
    simp only [cond_true,Qs,QjM]
    cases (!(decide (0≤x)&&decide (x≤b.Most)))<;>rfl) (by
    show QaX b (([b.Open,b.Done,b.Failed].length:Nat):Int)=_
    unfold QaX
    rw [ltE];rfl) (s0:=0) rfl
   rw [cond_false,h]
   cases QkC (fun (_:Nat) (x:Int)=>!(decide (0≤x)&&decide (x≤b.Most))) 0 [b.Open,b.Done,b.Failed]<;>exact⟨_,rfl⟩
 cases (!(decide (1≤b.Most)&&decide (b.Most≤16)))with
 | true=>exact h _
 | false=>exact h _
def Qj2 (b:Q5):Bool:=((QbL b).getD false)&&!(((QcM b).getD true))
theorem Qmu (b:Q5):∃r,QcM b=some r:=by
 obtain⟨r,hr⟩:=QkD b
 unfold QcM QgZ Qdp
 rw [hr]
 cases r with
 | true=>simp only [Qs,cond_true];cases decide (b.Enough≤b.Done)<;>exact⟨_,rfl⟩
 | false=>exact⟨_,rfl⟩
theorem QmQ (b:Q5):((QbL b).bind fun x=>bif !x then some true else(QcM b).bind fun y=>some y)=some (!Qj2 b):=by
 obtain⟨r,hr⟩:=QkD b
 obtain⟨q,hq⟩:=Qmu b
 unfold Qj2
 rw [hr,hq]
 cases r<;>cases q<;>rfl
def Qe3 (next last:Int)(x:Qi):Bool:=decide (last<x.Id)&&decide (x.Id<next)&&decide (0≤x.Until)&&Qj2 x.Batch
def upF (next:Int):Int→List Qi→Bool
 | _,[]=>true
 | last,x::l=>Qe3 next last x&&upF next x.Id l
theorem QmR (x:Qi)(last next:Int):QdW x last next=some (!Qe3 next last x):=by
 unfold QdW
 have:=QmQ x.Batch
 unfold Qe3
 by_cases h1:x.Id≤last
 ·rw [Qbm h1,Qbf (show ¬last<x.Id by omega)];rfl
 rw [Qbf h1,Qbm (show last<x.Id by omega)]
 by_cases h2:next≤x.Id
 ·rw [Qbm h2,Qbf (show ¬x.Id<next by omega)];rfl
 rw [Qbf h2,Qbm (show x.Id<next by omega)]
 by_cases h3:x.Until<0
 ·rw [Qbm h3,Qbf (show ¬0≤x.Until by omega)];rfl
 rw [Qbf h3,Qbm (show 0≤x.Until by omega)]
 simp only [cond_false,Bool.true_and]
 exact this
theorem QhF {l:List Qi}{next:Int}(hm:l.length≤maxLen):Qas l next=some (upF next 0 l&&decide ((l.length:Int)≤64)):=by
 unfold Qas
 have h:=Qid (body:=fun st:Int×Int=>QaK l next st.1 st.2) (l:=l) (fun i t=>(t,(i:Int))) (fun i t x=>bif Qe3 next t x then .inl x.Id else .inr (.inl ())) (fun _=>.inr ()) (fun i t x hi hx=>by
  show QaK l next t (i:Int)=_
  unfold QaK Qcz
  rw [ltN hx,QhC hx,QcC hi hm]
  simp only [cond_true,Qs,QmR]
  cases Qe3 next t x<;>rfl) (fun t=>by
  show QaK l next t (l.length:Int)=_
  unfold QaK
  rw [ltE];rfl) 0 (s0:=(0,0)) rfl
 rw [h]
 have key:∀(l:List Qi) (i:Nat) (t:Int),QeB (fun (_:Nat) (t:Int) (x:Qi)=>bif Qe3 next t x then Sum.inl x.Id else Sum.inr (Sum.inl ())) (fun _=>(Sum.inr ():Unit⊕Unit)) i t l=bif upF next t l then .inr ()else .inl ():=by
  intro l
  induction l with
  | nil=>intro i t;rfl
  | cons x l ih=>
   intro i t
   rw [QeB,upF]
   cases Qe3 next t x with
   | true=>simpa using ih (i+1) x.Id
   | false=>rfl
 rw [key]
 cases upF next 0 l<;>rfl
theorem Qg1 {next:Int}:∀{l:List Qi} {last:Int},upF next last l=true↔Up l∧∀x∈l,last<x.Id∧x.Id<next∧0≤x.Until∧Qj2 x.Batch=true
 | [],last=>⟨fun _=>⟨List.Pairwise.nil,fun x h=>by cases h⟩,fun _=>rfl⟩
 | x::l,last=>by
  rw [upF,Qr,Qg1 (l:=l)]
  unfold Qe3 Up
  simp only [Qr,QdP,Qf1,Q4,forall_eq_or_imp]
  constructor
  ·rintro ⟨⟨⟨⟨a1,a2⟩,a3⟩,a4⟩,a5,a6⟩
   exact⟨⟨fun y hy=>(a6 y hy).1,a5⟩,⟨a1,a2,a3,a4⟩,fun y hy=>⟨by have:=(a6 y hy).1;omega,(a6 y hy).2⟩⟩
  rintro ⟨⟨a1,a5⟩,⟨b1,b2,b3,b4⟩,a6⟩
  exact⟨⟨⟨⟨b1,b2⟩,b3⟩,b4⟩,a5,fun y hy=>⟨a1 y hy,(a6 y hy).2⟩⟩
def Qdy (l:List Qi):Nat:=(l.map fun x=>x.Mode.Vars.length+x.Mode.Ins.length+x.Mode.Outs.length).sum
end Go.Proofs
noncomputable section
namespace Go.Proofs
open Go Go.RowKit Go.Vm
def QgG (x:Qi):Nat:=x.Mode.Vars.length+x.Mode.Ins.length+x.Mode.Outs.length
def Can (x:Qi):Prop:=x.Mode.Vars.length≤17592186044416∧x.Mode.Ins.length≤17592186044416∧x.Mode.Outs.length≤17592186044416
theorem QjN {l:List Qi}{i:Nat}{x:Qi}(h:l[i]? = some x):Qdy (l.take (i+1))=Qdy (l.take i)+QgG x:=by
 rw [List.take_add_one,h];simp [Qdy,QgG]
theorem QkT {l:List Qi}(h:∀x∈l,Can x):∀{i:Nat},i≤l.length→Qdy (l.take i)≤i*52776558133248
 | 0,_=>by simp [Qdy]
 | i+1,hi=>by
  rw [QjN (QK hi)]
  have h1:=QkT h (Nat.le_of_succ_le hi)
  have h2:=h _ (Qb6 hi)
  unfold Can at h2;unfold QgG;omega
theorem Qmv {l:List Qi}{x:Qi}(h:x∈l):QgG x≤Qdy l:=by
 unfold Qdy
 induction l with
 | nil=>cases h
 | cons y l ih=>
  rw [Qb7,List.sum_cons]
  rcases Q4.1 h with rfl | h
  ·unfold QgG;omega
  have:=ih h;omega
theorem w3 (a b c d:Int):w64 (w64 (w64 (a+b)+c)+d)=w64 (a+b+c+d):=by
 rw [QjB,Int.add_assoc (w64 (a+b)) c d,QjB];congr 1;omega
theorem Qnf {l:List Qi}(h:∀x∈l,Can x):QeS l=some (decide (l.length≤80∧Qdy l≤1000)):=by
 unfold QeS
 by_cases h80:l.length≤80
 ·rw [Qbf (show ¬(80:Int)<(l.length:Int) by omega),cond_false]
  have h':=Qir (body:=fun st:Int×Int=>Qbd l st.1 st.2) l.length (fun i s=>s=((Qdy (l.take i):Int),(i:Int))) (fun r=>r=(Qdy l:Int)) (fun i s hi hs=>by
   subst hs
   left
   have hx:l[i]? = some l[i]:=QK hi
   show ∃s',Qbd l (Qdy (l.take i):Int) (i:Int)=_∧_
   unfold Qbd
   rw [ltN hx,QhC hx]
   simp only [cond_true,Qs]
   refine⟨_,rfl,?_⟩
   have h1:=QkT h (Nat.le_of_lt hi)
   have h2:=h _ (Qb6 hi)
   unfold Can at h2
   rw [w3,QjN hx,QcC hi (Qbe h80 (by decide))]
   have e:((Qdy (l.take i):Int)+(l[i].Mode.Vars.length:Int)+(l[i].Mode.Ins.length:Int)+(l[i].Mode.Outs.length:Int))=((Qdy (l.take i)+QgG l[i]:Nat):Int):=by unfold QgG;omega
   rw [e,QdN (by unfold QgG;omega)]) (fun s hs=>by
   subst hs
   refine⟨_,?_,rfl⟩
   show Qbd l (Qdy (l.take l.length):Int) (l.length:Int)=_
   unfold Qbd
   rw [ltE,Qg4];rfl) (0,0) rfl
  obtain⟨r,hr,rfl⟩:=h'
  rw [hr]
  show some (decide ((Qdy l:Int)≤1000))=_
  congr 1
  rw [decide_eq_decide]
  constructor
  ·intro h;exact⟨h80,by omega⟩
  intro h;omega
 rw [Qbm (show(80:Int)<(l.length:Int) by omega),Qbf (fun h=>h80 h.1)];rfl
theorem Fit.of {x:Qi}(h:QgG x≤1000):Fit x:=by unfold QgG at h;unfold Fit;omega
theorem QjO (l:List Qi)(id:Int):(dropL l id).length≤l.length:=List.length_filter_le _ _
theorem Qmw (l:List Qi)(x:Qi):(Qdh l x).length≤l.length+1:=by
 unfold Qdh;rw [QhD];have:=QjO l x.Id;omega
end Go.Proofs
noncomputable section
namespace Go.Proofs
open Go Go.RowKit Go.Vm
section
variable {Pe:Int→Int→Prop}
def HOk (Pe:Int→Int→Prop)(l:List (Option Nat))(t:List Qe):Prop:=(∀o∈l,∃k,o=some k∧k<t.length)∧∀e∈t,Pe e.id e.at_
theorem HOk.at {l:List (Option Nat)}{t:List Qe}(h:HOk Pe l t){i:Int}(h0:0≤i)(h1:i<l.length):∃k e,idx l i=some (some k)∧t[k]? = some e∧k<t.length∧Pe e.id e.at_∧some k∈l:=by
 have hi:i.toNat<l.length:=by omega
 obtain⟨k,hk,hk2⟩:=h.1 _ (Qb6 hi)
 refine⟨k,t[k],?_,QK hk2,hk2,h.2 _ (Qb6 hk2),?_⟩
 ·rw [QmP h0,QK hi,hk]
 rw [←hk];exact Qb6 hi
theorem QiO {l:List (Option Nat)}{t:List Qe}(h:HOk Pe l t){i j:Int}(hi:0≤i)(hi2:i<l.length)(hj:0≤j)(hj2:j<l.length):∃b,QaD l i j t=some b:=by
 obtain⟨k,e,h1,h2,_⟩:=h.at hi hi2
 obtain⟨k',e',h1',h2',_⟩:=h.at hj hj2
 unfold QaD Qdu Qa4
 simp only [h1,h1',h2,h2',Qs]
 cases decide (e.at_<e'.at_)
 ·cases (e.at_==e'.at_)
  ·exact⟨_,rfl⟩
  exact⟨_,rfl⟩
 exact⟨_,rfl⟩
theorem HOk.setT {l:List (Option Nat)}{t:List Qe}(h:HOk Pe l t){k:Nat}{e:Qe}(hk:t[k]? = some e)(v:Int):HOk Pe l (t.set k ⟨e.id,e.at_,v⟩):=by
 refine⟨fun o ho=>?_,fun x hx=>?_⟩
 ·obtain⟨j,h1,h2⟩:=h.1 o ho
  exact⟨j,h1,by rw [Qg2];exact h2⟩
 rcases Qih hx with hx | rfl
 ·exact h.2 x hx
 exact h.2 e (QP hk)
theorem HOk.setL {l:List (Option Nat)}{t:List Qe}(h:HOk Pe l t){o:Option Nat}(ho:o∈l)(i:Nat):HOk Pe (l.set i o) t:=by
 refine⟨fun x hx=>?_,h.2⟩
 rcases Qih hx with hx | rfl
 ·exact h.1 x hx
 exact h.1 _ ho
theorem QiP {l:List (Option Nat)}{t:List Qe}(h:HOk Pe l t){i j:Int}(hi:0≤i)(hi2:i<l.length)(hj:0≤j)(hj2:j<l.length):
  ∃p,QaE l i j t=some p∧HOk Pe p.1 p.2∧p.1.length=l.length∧p.2.length=t.length:=by
 obtain⟨k,e,h1,h2,h3,_,m1⟩:=h.at hi hi2
 obtain⟨k',e',h1',h2',h3',_,m1'⟩:=h.at hj hj2
 have hA:HOk Pe (l.set i.toNat (some k')) t:=h.setL m1' _
 have lA:(l.set i.toNat (some k')).length=l.length:=Qg2
 obtain⟨kA,eA,hA1,hA2,_⟩:=hA.at hj (by rw [lA];exact hj2)
 have mB:some k∈l:=m1
 have hB:HOk Pe ((l.set i.toNat (some k')).set j.toNat (some k)) t:=by
  refine⟨fun x hx=>?_,h.2⟩
  rcases Qih hx with hx | rfl
  ·exact hA.1 x hx
  exact h.1 _ m1
 have lB:((l.set i.toNat (some k')).set j.toNat (some k)).length=l.length:=by rw [Qg2,Qg2]
 obtain⟨k1,e1,g1,g2,_⟩:=hB.at hi (by rw [lB];exact hi2)
 obtain⟨k2,e2,f1,f2,f3,_⟩:=hB.at hj (by rw [lB];exact hj2)
 have hC:=hB.setT g2 i
 have lt2:k2<(t.set k1 ⟨e1.id,e1.at_,i⟩).length:=by rw [Qg2];exact f3
 have g3:(t.set k1 ⟨e1.id,e1.at_,i⟩)[k2]? = some (t.set k1 ⟨e1.id,e1.at_,i⟩)[k2]:=QK lt2
 have hD:=hC.setT g3 j
 refine⟨(_,_),?_,hD,lB,by simp⟩
 unfold QaE
 simp only [h1,h1',hA1,g1,f1,g2,g3,Qs]
theorem Qng {n:Nat}:∀(j:Nat) {l:List (Option Nat)} {t:List Qe},HOk Pe l t→j<l.length→l.length≤4000000→l.length=n→
  ∃p,QM (fun st=>QaH st.1 st.2.1 st.2.2) ((j:Int),t,l)=some p∧HOk Pe p.2 p.1∧p.2.length=n∧p.1.length=t.length:=by
 intro j
 induction j using Nat.strongRecOn with
 | ind j ih=>
  intro l t h hj hl hn
  have hi:∃i:Nat,(w64 (Int.tdiv (w64 ((j:Int)-1)) 2))=(i:Int)∧i≤j∧(j≠0→i<j):=by
   by_cases h0:j=0
   ·subst h0;exact⟨0,by decide,QaO _,fun h=>absurd rfl h⟩
   refine⟨(j-1) / 2,?_,by omega,fun _=>by omega⟩
   rw [QdN (n:=(j:Int)-1) (by omega)]
   have:Int.tdiv ((j:Int)-1) 2=(((j-1) / 2:Nat):Int):=by
    rw [show(j:Int)-1=((j-1:Nat):Int) by omega]
    exact(Int.ofNat_tdiv (j-1) 2).symm
   rw [this,QdN (by omega)]
  obtain⟨i,hi,hij,hlt⟩:=hi
  rw [Qcr]
  show ∃p,(QaH (j:Int) t l).bind _=some p∧_
  unfold QaH QdL
  rw [hi]
  by_cases e:i=j
  ·subst e
   rw [beq_self_eq_true]
   exact⟨_,rfl,h,hn,rfl⟩
  have e1:((i:Int)==(j:Int))=false:=by simp;omega
  obtain⟨b,hb⟩:=QiO h (i:=(j:Int)) (j:=(i:Int)) (by omega) (by omega) (by omega) (by omega)
  rw [e1,cond_false,hb,Qs,Qs]
  unfold Qbh
  cases b with
  | false=>exact⟨_,rfl,h,hn,rfl⟩
  | true=>
   rw [hi]
   obtain⟨p,hp,h1,h2,h3⟩:=QiP h (i:=(i:Int)) (j:=(j:Int)) (by omega) (by omega) (by omega) (by omega)
   rw [Qd8,cond_false,hp,Qs,QhB h2,Qs]
   obtain⟨q,g1,g2,g3,g4⟩:=ih i (by omega) h1 (by omega) (by omega) (by omega)
   exact⟨q,g1,g2,g3,by omega⟩
theorem QlU {n i:Nat}{l:List (Option Nat)}{t:List Qe}(h:HOk Pe l t)(hi:i<l.length)(hn:n≤l.length)(hl:l.length≤4000000):
  QV (n:Int) (i:Int) t l=some (.inr ((i:Int),t,l))∨∃j:Nat,∃p:List (Option Nat)×List Qe,i<j∧j<n∧QV (n:Int) (i:Int) t l=some (.inl ((j:Int),p.2,p.1))∧HOk Pe p.1 p.2∧p.1.length=l.length∧p.2.length=t.length:=by
 unfold QV
 have e1:w64 ((w64 (2*(i:Int)))+1)=((2*i+1:Nat):Int):=by
  rw [QjB,QdN (by omega)];omega
 have e2:w64 (((2*i+1:Nat):Int)+1)=((2*i+2:Nat):Int):=by rw [QdN (by omega)];omega
 rw [e1]
 by_cases hc:n≤2*i+1
 ·rw [Qbm (show(n:Int)≤((2*i+1:Nat):Int) by omega)]
  exact .inl rfl
 rw [Qbf (show ¬(n:Int)≤((2*i+1:Nat):Int) by omega),Qbf (show ¬((2*i+1:Nat):Int)<0 by omega),Bool.or_false,cond_false]
 have k1:∀j:Nat,i<j→j<n→Qai l (i:Int) t (j:Int)=some (.inr ((i:Int),t,l))∨∃j':Nat,∃p:List (Option Nat)×List Qe,i<j'∧j'<n∧Qai l (i:Int) t (j:Int)=some (.inl ((j':Int),p.2,p.1))∧HOk Pe p.1 p.2∧p.1.length=l.length∧p.2.length=t.length:=fun j hij hj=>by
  unfold Qai
  obtain⟨b,hb⟩:=QiO h (i:=(j:Int)) (j:=(i:Int)) (by omega) (by omega) (by omega) (by omega)
  rw [hb,Qs]
  cases b with
  | false=>exact .inl rfl
  | true=>
   obtain⟨p,hp,h1,h2,h3⟩:=QiP h (i:=(i:Int)) (j:=(j:Int)) (by omega) (by omega) (by omega) (by omega)
   rw [Qd8,cond_false,hp,Qs,QhB h2,Qs]
   exact .inr ⟨j,p,hij,hj,rfl,h1,h2,h3⟩
 unfold Qdg
 rw [e1,e2]
 by_cases hc2:2*i+2<n
 ·rw [Qbm (show((2*i+2:Nat):Int)<(n:Int) by omega),cond_true]
  obtain⟨b,hb⟩:=QiO h (i:=((2*i+2:Nat):Int)) (j:=((2*i+1:Nat):Int)) (by omega) (by omega) (by omega) (by omega)
  rw [hb,Qs,Qs]
  unfold QaA
  rw [e1,e2]
  cases b with
  | true=>exact k1 (2*i+2) (by omega) hc2
  | false=>exact k1 (2*i+1) (by omega) (by omega)
 rw [Qbf (show ¬((2*i+2:Nat):Int)<(n:Int) by omega),cond_false,Qs]
 unfold QaA
 rw [e1]
 exact k1 (2*i+1) (by omega) (by omega)
theorem Qmx {n N:Nat}(hN:N≤4000000):∀(m i:Nat) {l:List (Option Nat)} {t:List Qe},n-i=m→HOk Pe l t→i<l.length→n≤l.length→l.length=N→
  ∃p,QM (fun st=>QV (n:Int) st.1 st.2.1 st.2.2) ((i:Int),t,l)=some p∧HOk Pe p.2.2 p.2.1∧p.2.2.length=N∧p.2.1.length=t.length:=by
 intro m
 induction m using Nat.strongRecOn with
 | ind m ih=>
  intro i l t hm h hi hn hl
  rw [Qcr]
  rcases QlU h hi hn (by omega)with hs | ⟨j,p,h1,h2,hs,h3,h4,h5⟩
  ·exact⟨((i:Int),t,l),(congrArg (fun o=>Option.bind o _) hs).trans rfl,h,hl,rfl⟩
  obtain⟨q,g1,g2,g3,g4⟩:=ih (n-j) (by omega) j rfl h3 (by omega) (by omega) (by omega)
  exact⟨q,(congrArg (fun o=>Option.bind o _) hs).trans g1,g2,g3,by omega⟩
def QOk (Pe:Int→Int→Prop)(n:Nat)(l:List (Option Nat))(m:List (Int×Option Nat))(t:List Qe):Prop:=HOk Pe l t∧(∀q∈m,okP t.length q.2=true)∧l.length≤n
theorem Qmy {a b:Nat}(h:a≤b){o:Option Nat}(ho:okP a o=true):okP b o=true:=by
 cases o with
 | none=>rfl
 | some k=>simp only [okP,QdP]at ho ⊢;omega
theorem Qmz {m:List (Int×Option Nat)}{k:Int}{v:Option Nat}{q:Int×Option Nat}(h:q∈Qc7 ltI m k v):q=(k,v)∨q∈m:=by
 have ins:∀m:List (Int×Option Nat),q∈Qhh ltI m k v→q=(k,v)∨q∈m:=by
  intro m
  induction m with
  | nil=>intro h;exact .inl (by simpa [Qhh] using h)
  | cons p m ih=>
   obtain⟨a,x⟩:=p
   intro h
   rw [Qhh]at h
   split at h
   ·rcases Q4.1 h with h | h
    ·exact .inl h
    exact .inr h
   rcases Q4.1 h with h | h
   ·exact .inr (h▸QaB)
   exact(ih h).imp id (Qa1 _)
 have rep:∀m:List (Int×Option Nat),q∈Qgr m k v→q=(k,v)∨q∈m:=by
  intro m
  induction m with
  | nil=>intro h;cases h
  | cons p m ih=>
   obtain⟨a,x⟩:=p
   intro h
   rw [Qgr]at h
   split at h
   ·rcases Q4.1 h with h | h
    ·exact .inl h
    exact .inr (Qa1 _ h)
   rcases Q4.1 h with h | h
   ·exact .inr (h▸QaB)
   exact(ih h).imp id (Qa1 _)
 unfold Qc7 at h
 split at h
 ·exact rep m h
 exact ins m h
theorem QmS {n:Nat}{l:List (Option Nat)}{m:List (Int×Option Nat)}{t:List Qe}(h:QOk Pe n l m t)(hn:n+1≤4000000){id at_:Int}(hp:Pe id at_):
  ∃r,Qbw l m id at_ t=some r∧QOk Pe (n+1) r.2.1 r.2.2.2 r.2.2.1:=by
 obtain⟨h1,h2,h3⟩:=h
 unfold Qbw
 cases ((Qbb m id).getD none).isSome with
 | true=>exact⟨_,rfl,h1,h2,Nat.le_succ_of_le h3⟩
 | false=>
  unfold Qbr
  rw [cond_false,Qs]
  cases ((l.length:Int)==4096)with
  | true=>exact⟨_,rfl,h1,h2,Nat.le_succ_of_le h3⟩
  | false=>
   have c1:l.all (okP t.length)=true:=QG.2 fun o ho=>by
    obtain⟨k,rfl,hk⟩:=h1.1 o ho
    simpa [okP] using hk
   have c2:(m.all fun q=>okP t.length q.2)=true:=QG.2 h2
   rw [cond_false,Qjg c1,Qs,Qjg c2,Qs]
   unfold Qcj Qcx
   have g0:(t++[(Qe.mk id at_ 0)])[t.length]? = some (Qe.mk id at_ 0):=by simp
   rw [Qs,g0,Qs,QhB (by simp;omega),Qs,Qs]
   have hq:HOk Pe (l++[some t.length]) (t++[Qe.mk id at_ 0]):=by
    refine⟨fun o ho=>?_,fun e he=>?_⟩
    ·rcases Qea.1 ho with ho | ho
     ·obtain⟨k,e,hk⟩:=h1.1 o ho
      exact⟨k,e,by simp;omega⟩
     rw [Qii]at ho
     exact⟨t.length,ho,by simp⟩
    rcases Qea.1 he with he | he
    ·exact h1.2 e he
    rw [Qii]at he;subst he;exact hp
   have hq2:=hq.setT g0 (l.length:Int)
   have ln:(l++[some t.length]).length=l.length+1:=by simp
   show ∃r,((QaG (l++[some t.length]) _).bind _).bind _=some r∧_
   unfold QaG
   rw [Qs,ln]
   have ew:w64 (((l.length+1:Nat):Int)-1)=(l.length:Int):=by rw [QdN (by omega)];omega
   rw [ew]
   unfold QcR
   obtain⟨p,g1,g2,g3,g4⟩:=Qng (n:=l.length+1) l.length hq2 (by omega) (by omega) ln
   refine⟨_,(congrArg (fun o=>Option.bind (Option.bind (Option.bind o _) _) _) g1).trans rfl,g2,fun q hq=>?_,by show p.2.length≤n+1;omega⟩
   have lt:p.1.length=t.length+1:=by rw [g4];simp
   show okP p.1.length q.2=true
   rw [lt]
   rcases Qmz hq with rfl | hq
   ·simp [okP]
   exact Qmy (Nat.le_succ _) (h2 q hq)
theorem QkE {n:Nat}{l:List (Option Nat)}{m:List (Int×Option Nat)}{t:List Qe}(h:QOk Pe n l m t):∃r,Qbl l m t=some r∧(r.2.2=true→Pe r.1 r.2.1∧0<l.length):=by
 unfold Qbl Qbr
 rw [Qs]
 by_cases h0:l.length=0
 ·rw [show((l.length:Int)==0)=true by simp [h0]]
  exact⟨_,rfl,fun h=>by cases h⟩
 rw [show((l.length:Int)==0)=false by simp;intro h;exact h0 (by simp [h])]
 obtain⟨k,e,h1,h2,h3,h4,_⟩:=h.1.at (i:=0) (by omega) (by omega)
 rw [cond_false,h1,Qs,Qs,h2,Qs,Qs,Qs,h2,Qs]
 exact⟨_,rfl,fun _=>⟨h4,by omega⟩⟩
theorem QmA {m:List (Int×Option Nat)}{k:Int}{q:Int×Option Nat}(h:q∈QcO m k):q∈m:=(List.mem_filter.1 h).1
theorem QmT {n:Nat}{l:List (Option Nat)}{m:List (Int×Option Nat)}{t:List Qe}(h:QOk Pe n l m t)(hl:0<l.length)(hn:n≤4000000):
  ∃r,Qbx l m t=some r∧(∀k,QOk Pe n r.2.1 (QcO m k) r.2.2)∧r.2.1.length+1=l.length:=by
 obtain⟨h1,h2,h3⟩:=h
 unfold Qbx QaG
 have ew:w64 ((l.length:Int)-1)=((l.length-1:Nat):Int):=by rw [QdN (by omega)];omega
 rw [Qs,ew]
 obtain⟨p,hp,g1,g2,g3⟩:=QiP h1 (i:=0) (j:=((l.length-1:Nat):Int)) (by omega) (by omega) (by omega) (by omega)
 rw [hp,Qs,QhB g2,Qs]
 unfold Qck
 obtain⟨q,f1,f2,f3,f4⟩:=Qmx (n:=l.length-1) (N:=l.length) (by omega) _ 0 rfl g1 (by omega) (by omega) g2
 have e0:QM (fun st=>QV ((l.length-1:Nat):Int) st.1 st.2.1 st.2.2) (0,p.2,p.1)=some q:=f1
 rw [e0,Qs]
 unfold QbK
 rw [Qs]
 unfold QcS
 show ∃r,((idx q.2.2 (w64 ((q.2.2.length:Int)-1))).bind _).bind _=some r∧_
 rw [f3,ew]
 obtain⟨k,e,i1,i2,i3,_⟩:=f2.at (i:=((l.length-1:Nat):Int)) (by omega) (by omega)
 rw [i1,Qs]
 rw [Qjg (by simp),Qs,Qs]
 have tk:(q.2.2.take (((l.length-1:Nat):Int)).toNat).length=l.length-1:=by rw [Qf0];omega
 refine⟨_,rfl,fun j=>⟨⟨fun o ho=>f2.1 o (QcW ho),f2.2⟩,fun x hx=>?_,?_⟩,?_⟩
 ·show okP q.2.1.length x.2=true
  rw [f4,g3];exact h2 x (QmA hx)
 ·show(q.2.2.take (((l.length-1:Nat):Int)).toNat).length≤n
  omega
 show(q.2.2.take (((l.length-1:Nat):Int)).toNat).length+1=l.length
 omega
theorem QmB {n:Nat}{now:Int}(hn:n≤4000000):∀(c:Nat) {id at_:Int} {is:Bool} {out:List Int} {m:List (Int×Option Nat)} {t:List Qe} {l:List (Option Nat)},l.length=c→QOk Pe n l m t→(is=true→Pe id at_∧0<l.length)→
  (∀k∈out,∃a,Pe k a∧a≤now)→out.length+l.length≤4000000→
  ∃r,QM (fun st=>Qaq now st.1 st.2.1 st.2.2.1 st.2.2.2.1 st.2.2.2.2.1 st.2.2.2.2.2.1 st.2.2.2.2.2.2) (id,at_,is,out,m,t,l)=some r∧(∀k∈r.1,∃a,Pe k a∧a≤now)∧r.1.length≤4000000:=by
 intro c
 induction c with
 | zero=>
  intro id at_ is out m t l hl hq hi ho hc
  rw [Qcr]
  have e:is=false:=by
   cases is with
   | false=>rfl
   | true=>have:=(hi rfl).2;omega
  subst e
  exact⟨_,rfl,ho,by show out.length≤4000000;omega⟩
 | succ c ih=>
  intro id at_ is out m t l hl hq hi ho hc
  rw [Qcr]
  show ∃r,((Qaq now id at_ is out m t l).bind _)=some r∧_
  have step:Qaq now id at_ is out m t l=some (.inr (out,m,t,l))∨∃id' at' is' m' t' l',Qaq now id at_ is out m t l=some (.inl (id',at',is',out++[id],m',t',l'))∧l'.length=c∧QOk Pe n l' m' t'∧(is'=true→Pe id' at'∧0<l'.length)∧Pe id at_∧at_≤now:=by
   unfold Qaq
   cases is with
   | false=>exact .inl rfl
   | true=>
    by_cases ha:at_≤now
    ·rw [Qbm ha]
     obtain⟨r,hr,h1,h2⟩:=QmT hq (by omega) hn
     obtain⟨s,hs,h3⟩:=QkE (h1 id)
     rw [Bool.and_true,cond_true,QhB (by rw [List.length_singleton];omega),Qs,hr,Qs,hs,Qs]
     exact .inr ⟨_,_,_,_,_,_,rfl,by omega,h1 id,h3,(hi rfl).1,ha⟩
    rw [Qbf ha];exact .inl rfl
  rcases step with hs | ⟨id',at',is',m',t',l',hs,h1,h2,h3,h4,h5⟩
  ·exact⟨_,(congrArg (fun o=>Option.bind o _) hs).trans rfl,ho,by show out.length≤4000000;omega⟩
  obtain⟨r,g1,g2⟩:=ih h1 h2 h3 (out:=out++[id]) (fun k hk=>by
   rcases Qea.1 hk with hk | hk
   ·exact ho k hk
   rw [Qii]at hk;subst hk;exact⟨at_,h4,h5⟩) (by rw [Qdj,List.length_singleton];omega)
  exact⟨r,(congrArg (fun o=>Option.bind o _) hs).trans g1,g2⟩
end
theorem QmU {L:List Qi}{now:Int}(hL:L.length≤80):∃r,QcL L now=some r∧(∀k∈r,∃x∈L,x.Id=k∧0<x.Until∧x.Until≤now)∧r.length≤4000000:=by
 let Pe:Int→Int→Prop:=fun id a=>∃x∈L,x.Id=id∧x.Until=a∧0<x.Until
 have mx:(80:Nat)≤maxLen:=by decide
 unfold QcL QgD
 rw [Qs]
 have h:=Qir (body:=fun st:Int×List (Int×Bool)×List (Option Nat)×List (Int×Option Nat)×List Qe=>QaN L st.1 st.2.1 st.2.2.1 st.2.2.2.1 st.2.2.2.2) L.length (fun i s=>s.1=(i:Int)∧QOk Pe i s.2.2.1 s.2.2.2.1 s.2.2.2.2) (fun r=>QOk Pe L.length r.1 r.2.1 r.2.2) (fun i s hi hs=>by
  obtain⟨j,m,l,mm,t⟩:=s
  obtain⟨rfl,hq⟩:=hs
  left
  have hx:L[i]? = some L[i]:=QK hi
  show ∃s',QaN L (i:Int) m l mm t=_∧_
  unfold QaN Qdo
  rw [ltN hx,QhC hx,cond_true,Qs,QcC hi (by omega)]
  cases hc:(!((Qbb m L[i].Id).getD false))with
  | false=>exact⟨_,rfl,rfl,hq.1,hq.2.1,Nat.le_succ_of_le hq.2.2⟩
  | true=>
   by_cases hu:0<L[i].Until
   ·rw [Qbm hu]
    obtain⟨r,hr,h2⟩:=QmS hq (by omega) (id:=L[i].Id) (at_:=L[i].Until) ⟨L[i],Qb6 hi,rfl,rfl,hu⟩
    rw [Bool.and_true,cond_true,hr,Qs]
    exact⟨_,rfl,rfl,h2⟩
   rw [Qbf hu]
   exact⟨_,rfl,rfl,hq.1,hq.2.1,Nat.le_succ_of_le hq.2.2⟩) (fun s hs=>by
  obtain⟨j,m,l,mm,t⟩:=s
  obtain⟨rfl,hq⟩:=hs
  refine⟨(l,mm,t),?_,hq⟩
  show QaN L (L.length:Int) m l mm t=_
  unfold QaN
  rw [ltE];rfl) (0,[],[],[],[]) ⟨rfl,⟨(fun o h=>by cases h),(fun e h=>by cases h)⟩,(fun q h=>by cases h),QaO _⟩
 obtain⟨r,hr,hq⟩:=h
 refine Exists.imp (fun _ h=>h) ?_
 show ∃r,((QM (fun st=>QaN L st.1 st.2.1 st.2.2.1 st.2.2.2.1 st.2.2.2.2) (0,[],[],[],[])).bind _)=some r∧_
 rw [hr,Qs]
 unfold QeK Qdx
 obtain⟨s,hs,h3⟩:=QkE hq
 obtain⟨q,h4,h5⟩:=QmB (n:=L.length) (now:=now) (by omega) _ rfl hq h3 (out:=[]) (fun k h=>by cases h) (by have:=hq.2.2;simp;omega)
 rw [hs,Qs,h4,Qs]
 refine⟨_,rfl,fun k hk=>?_,h5.2⟩
 obtain⟨a,⟨x,hx,h6,h7,h8⟩,h9⟩:=h5.1 k hk
 exact⟨x,hx,h6,h8,by omega⟩
end Go.Proofs
noncomputable section
namespace Go.Proofs
open Go Go.RowKit Go.Vm
theorem QkU {l:List Qi}{id:Int}(hm:l.length≤maxLen):Qah l id=some ((QbN (fun _ y=>y.Id==id) 0 l).elim (-1) fun i=>(i:Int)):=by
 unfold Qah Qar
 have h:=QjI (body:=fun st=>Qy l id st) (l:=l) (fun i=>(i:Int)) (fun _ y=>y.Id==id) (fun i=>.inl (i:Int)) (.inr ()) (fun i y hi hy=>by
  show Qy l id (i:Int)=_
  unfold Qy QeJ
  rw [ltN hy,QhC hy,QcC hi hm]
  simp only [cond_true,Qs]
  cases (y.Id==id)<;>rfl) (by
  show Qy l id (l.length:Int)=_
  unfold Qy
  rw [ltE];rfl) (s0:=0) rfl
 rw [h]
 cases QbN (fun _ y=>y.Id==id) 0 l<;>rfl
theorem QjP {l:List Qi}{id:Int}(hm:l.length≤maxLen)(h:∀x∈l,x.Id≠id):Qah l id=some (-1):=by
 rw [QkU hm]
 cases hs:QbN (fun _ y=>y.Id==id) 0 l with
 | none=>rfl
 | some i=>
  obtain⟨j,x,_,hx,he⟩:=Qjh hs
  exact absurd (by simpa using he) (h x (QP hx))
theorem Qif {l:List Qi}{id:Int}(hm:l.length≤maxLen){x:Qi}(hx:x∈l)(he:x.Id=id):∃i:Nat,∃y,Qah l id=some (i:Int)∧l[i]? = some y∧y.Id=id:=by
 rw [QkU hm]
 cases hs:QbN (fun _ y=>y.Id==id) 0 l with
 | none=>
  obtain⟨i,hi,rfl⟩:=List.mem_iff_getElem.1 hx
  have:=Qlv hs i _ (QK hi)
  simp [he]at this
 | some i=>
  obtain⟨j,y,e,hy,he⟩:=Qjh hs
  rw [Qcp]at e;subst e
  exact⟨i,y,rfl,hy,by simpa using he⟩
theorem Up.inj : ∀{l:List Qi},Up l→∀{x y:Qi},x∈l→y∈l→x.Id=y.Id→x=y
 | [],_,_,_,h,_,_=>by cases h
 | z::l,h,x,y,hx,hy,e=>by
  obtain⟨h1,h2⟩:=Qf1.1 h
  rcases Q4.1 hx with ex | hx'
  ·rcases Q4.1 hy with ey | hy'
   ·rw [ex,ey]
   have:=h1 y hy';rw [ex]at e;omega
  rcases Q4.1 hy with ey | hy'
  ·have:=h1 x hx';rw [ey]at e;omega
  exact Up.inj h2 hx' hy' e
theorem QjQ {l:List Qi}{id:Int}(h:∀x∈l,x.Id≠id):dropL l id=l:=List.filter_eq_self.2 fun x hx=>by simpa using h x hx
theorem QkF : ∀{l:List Qi} {x:Qi},Up l→x∈l→(dropL l x.Id).length+1=l.length
 | [],_,_,h=>by cases h
 | z::l,x,h,hx=>by
  obtain⟨h1,h2⟩:=Qf1.1 h
  unfold dropL
  rcases Q4.1 hx with rfl | hx
  ·have hn:∀y∈l,y.Id≠x.Id:=fun y hy=>by have:=h1 y hy;omega
   rw [QcV,if_neg (by simp)]
   have:=QjQ hn
   unfold dropL at this
   rw [this];rfl
  have:=h1 x hx
  have ih:=QkF h2 hx
  unfold dropL at ih
  rw [QcV,if_pos (by simp;omega),Qd9,ih,Qd9]
theorem QmC {l:List Qi}{now:Int}{r:List Int}(hu:Up l)(hm:l.length≤maxLen)(hr:r.length≤maxLen)(h:∀k∈r,∃x∈l,x.Id=k∧0<x.Until∧x.Until≤now):
  QM (fun st=>Q7 r l now st) 0=some (.inr ()):=by
 have h':=Qir (body:=fun st=>Q7 r l now st) r.length (fun i s=>s=(i:Int)) (fun q=>q=.inr ()) (fun i s hi hs=>by
  subst hs
  left
  have hx:r[i]? = some r[i]:=QK hi
  obtain⟨x,hx1,hx2,hx3,hx4⟩:=h _ (Qb6 hi)
  obtain⟨k,y,h1,h2,h3⟩:=Qif hm hx1 hx2
  obtain rfl:y=x:=hu.inj (QP h2) hx1 (by rw [h3,hx2])
  show ∃s',Q7 r l now (i:Int)=_∧_
  unfold Q7
  rw [ltN hx,QhC hx,cond_true,Qs,h1,Qs]
  unfold Qey
  rw [Qbf (show ¬(k:Int)<0 by omega),cond_false,QhC h2,Qs,Qbf (show ¬y.Until<1 by omega),cond_false,Qs,Qbf (show ¬now<y.Until by omega),Qs]
  exact⟨_,rfl,QcC hi hr⟩) (fun s hs=>by
  subst hs
  refine⟨_,?_,rfl⟩
  show Q7 r l now (r.length:Int)=_
  unfold Q7
  rw [ltE];rfl) 0 rfl
 obtain⟨q,hq,rfl⟩:=h'
 exact hq
theorem QlV {l:List Qi}{p:Qi}{next now:Int}(hl:∀x∈l,Can x)(hp:Can p):Qbs l p next now=some true:=by
 unfold Qbs
 rw [Qms,Qs,Qnf hl,Qs]
 unfold Qex
 by_cases f1:l.length≤80∧Qdy l≤1000
 ·have m80:(80:Nat)≤maxLen:=by decide
  have m81:(81:Nat)≤maxLen:=by decide
  rw [Qbm f1,QhF (Qbe f1.1 m80)]
  cases hr:(upF next 0 l&&decide ((l.length:Int)≤64))with
  | false=>rfl
  | true=>
   rw [Qr,QdP]at hr
   obtain⟨hu,hok⟩:=Qg1.1 hr.1
   have l64:l.length≤64:=by omega
   have fl:∀z∈l,Fit z:=fun z hz=>Fit.of (Qbe (Qmv hz) f1.2)
   have dl:=QjO l p.Id
   have pl:=Qmw l p
   simp only [Qd8,cond_false,Qs]
   unfold QbA
   obtain⟨r,hr1,hr2,hr3⟩:∃r,QcL l now=some r∧(∀k∈r,∃x∈l,x.Id=k∧0<x.Until∧x.Until≤now)∧r.length≤maxLen:=by
    obtain⟨r,h1,h2,h3⟩:=QmU (L:=l) (now:=now) (by omega)
    exact⟨r,h1,h2,Qbe h3 (by decide)⟩
   rw [cond_false,Qne fl hp (by omega) (by omega),Qs,QkR fl (by omega) (by omega),Qs,QhF (by show 1≤maxLen;omega),Qs,hr1,Qs,QmC hu (by omega) hr3 hr2,Qs]
   show Qbz _ _ _ _ _ _ _=_
   unfold Qbz
   have i1:Qas (dropL l p.Id) next=some true:=by
    rw [QhF (by omega),Qg1.2 ⟨hu.drop _,fun x hx=>hok x (QhE.1 hx).1⟩,Qbm (by omega)];rfl
   have i2:Qah (dropL l p.Id) p.Id=some (-1):=QjP (by omega) fun x hx=>(QhE.1 hx).2
   obtain⟨j,y,i3,_,_⟩:=Qif (l:=Qdh l p) (id:=p.Id) (by omega) (QkS.2 (.inl rfl)) rfl
   have i4:(upF next 0 [p]&&decide (([p].length:Int)≤64))=true→¬64<(Qdh l p).length→Qas (Qdh l p) next=some true:=fun h1 h2=>by
    rw [Qr]at h1
    have hp1:=(Qg1.1 h1.1).2 p QaB
    rw [QhF (by omega),Qg1.2 ⟨hu.put p,fun x hx=>?_⟩,Qbm (by omega)]
    ·rfl
    rcases QkS.1 hx with rfl | ⟨h3,_⟩
    ·exact hp1
    exact hok x h3
   have tail:∃x31,Qah l p.Id=some x31∧((decide (0≤x31)=true∧(((Qdh l p).length:Int)==(l.length:Int))=true∧(((dropL l p.Id).length:Int)==w64 ((l.length:Int)-1))=true)∨(decide (0≤x31)=false∧(((Qdh l p).length:Int)==w64 ((l.length:Int)+1))=true∧(((dropL l p.Id).length:Int)==(l.length:Int))=true)):=by
    by_cases hx:∃x∈l,x.Id=p.Id
    ·obtain⟨x,hx1,hx2⟩:=hx
     obtain⟨k,z,h1,_,_⟩:=Qif (l:=l) (id:=p.Id) (by omega) hx1 hx2
     have h2:=QkF hu hx1
     rw [hx2]at h2
     have h3:(Qdh l p).length=(dropL l p.Id).length+1:=QhD _ _
     refine⟨_,h1,.inl ⟨Qbm (by omega),?_,?_⟩⟩
     ·simp only [beq_iff_eq];omega
     rw [QdN (by omega)];simp only [beq_iff_eq];omega
    have hn:∀x∈l,x.Id≠p.Id:=fun x h1 h2=>hx ⟨x,h1,h2⟩
    have h3:(Qdh l p).length=(dropL l p.Id).length+1:=QhD _ _
    have h4:=QjQ hn
    rw [h4]at h3
    refine⟨_,QjP (by omega) hn,.inr ⟨rfl,?_,?_⟩⟩
    ·rw [QdN (by omega)];simp only [beq_iff_eq];omega
    rw [h4];simp only [beq_iff_eq]
   obtain⟨x31,i5,hc⟩:=tail
   rw [i5,Qs]
   unfold QeA
   rw [i1,i2,i3]
   simp only [cond_true,Qs,beq_self_eq_true,Qbm (show(0:Int)≤(j:Int) by omega)]
   cases hx16:(upF next 0 [p]&&decide (([p].length:Int)≤64))with
   | false=>
    rcases hc with⟨h1,h2,h3⟩|⟨h1,h2,h3⟩<;>simp only [h1,h2,h3,cond_true,cond_false,Bool.not_false,Qd8,Qs]<;>rfl
   | true=>
    by_cases h64:64<(Qdh l p).length
    ·have e:decide ((64:Int)<((Qdh l p).length:Int))=true:=Qbm (by omega)
     rcases hc with⟨h1,h2,h3⟩|⟨h1,h2,h3⟩<;>simp only [e,h1,h2,h3,cond_true,cond_false,Bool.not_false,Qd8,Qs]<;>rfl
    have e:decide ((64:Int)<((Qdh l p).length:Int))=false:=Qbf (by omega)
    have i4':=i4 hx16 h64
    rcases hc with⟨h1,h2,h3⟩|⟨h1,h2,h3⟩<;>simp only [e,i4',h1,h2,h3,cond_true,cond_false,Bool.not_false,Qd8,Qs]<;>rfl
 rw [Qbf f1];rfl
end Go.Proofs
