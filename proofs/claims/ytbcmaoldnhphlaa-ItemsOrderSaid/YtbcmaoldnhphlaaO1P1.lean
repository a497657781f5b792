/- A part of the proof; what it holds is told at each theorem. -/
import Derived.Test.YtbcmaoldnhphlaaO1T1
import Derived.Test.YtbcmaoldnhphlaaO1XPlA
import Derived.KernelRfl
set_option linter.unusedVariables false
set_option linter.unusedSimpArgs false
set_option linter.unusedSectionVars false
set_option linter.deprecated false
noncomputable section
namespace Go.Proofs
open Go Go.RowKit Go.Vm
set_option maxRecDepth 100000 in
theorem Qmj : QeV=some true:=by kernel_rfl
end Go.Proofs
noncomputable section
namespace Go.Proofs
open Go Go.RowKit Go.Vm
open Classical in
theorem Qig {α:Type}{a b:List α}(hl:a.length=b.length)(hm:a.length≤maxLen){body:Int→Option (Int⊕(Unit⊕Unit))}
  (hs:∀(i:Nat) x y,a[i]? = some x→b[i]? = some y→body (i:Int)=some (bif !(decide (x=y))then .inr (.inl ())else .inl (w64 ((i:Int)+1))))
  (hf:body (a.length:Int)=some (.inr (.inr ()))):Q1 body 0=some (bif decide (a=b)then .inr ()else .inl ()):=by
 have h:=Qkr (body:=body) (l:=a) (fun i=>(i:Int)) (fun i x=>!(decide (b[i]? = some x))) (.inl ()) (.inr ()) (fun i x hi hx=>by
  have hy:=QR (show i<b.length by omega)
  rw [hs i x _ hx hy,hy,QdE hi hm]
  have:decide (some b[i]=some x)=decide (x=b[i]):=by rw [decide_eq_decide];exact⟨fun h=>(Option.some.inj h).symm,fun h=>by rw [h]⟩
  rw [this]) hf rfl
 refine Eq.trans h ?_
 congr 1
 by_cases e:a=b
 ·subst e
  have:Qgx (fun i x=>!(decide (a[i]? = some x))) 0 a=false:=Qi5.2 fun i x hx=>by simp [hx]
  rw [this];simp
 have:Qgx (fun i x=>!(decide (b[i]? = some x))) 0 a=true:=by
  rw [←Bool.not_eq_false,Qi5]
  intro h'
  refine e (List.ext_getElem? fun i=>?_)
  by_cases hi:i<a.length
  ·have:=h' i a[i] (QR hi)
   simp only [Bool.not_eq_false',QdZ]at this
   rw [this,QR hi]
  rw [List.getElem?_eq_none (by omega),List.getElem?_eq_none (by omega)]
 rw [this];simp [e]
open Classical in
theorem Qm2 (a b:Int):(a==b)=decide (a=b):=by rw [Bool.eq_iff_iff];simp
open Classical in
theorem QnA (a b:Int):(a != b)=!decide (a=b):=by rw [Bool.eq_iff_iff];simp
theorem Qew {α:Type}{l:List α}{i:Nat}{x:α}(h:l[i]? = some x):idx l (i:Int)=some x:=by rw [QmD];exact h
theorem ltN {α:Type}{l:List α}{i:Nat}{x:α}(h:l[i]? = some x):decide ((i:Int)<(l.length:Int))=true:=Qdt (by have:=(Qy.1 h).1;omega)
theorem ltE {n:Nat}:decide ((n:Int)<(n:Int))=false:=QcX (by omega)
theorem QjP {α:Type}{a b:List α}(h:a.length=b.length):((a.length:Int) != (b.length:Int))=false:=by simp [h]
theorem Qi6 {α:Type}{a b:List α}(h:¬a.length=b.length):((a.length:Int) != (b.length:Int))=true:=by simp;omega
open Classical in
theorem QiE {a b:List Int}(hm:a.length≤maxLen):Qaq a b=some (decide (a=b)):=by
 unfold Qaq
 by_cases hl:a.length=b.length
 ·rw [QjP hl,Qig hl hm (fun i x y hx hy=>by
   show Qab a b (i:Int)=_
   unfold Qab
   rw [ltN hx,Qew hx,Qew hy]
   simp only [cond_true,Qac,QnA]
   by_cases e:x=y<;>simp [e]) (by
   show Qab a b (a.length:Int)=_
   unfold Qab
   rw [ltE];rfl)]
  by_cases e:a=b<;>simp [e,Qbp,Qbq]
 rw [Qi6 hl]
 have:a≠b:=fun e=>hl (by rw [e])
 simp [this]
open Classical in
theorem QmE (x y:Int×Int):((x.1==y.1)&&(x.2==y.2))=decide (x=y):=by
 rw [Bool.eq_iff_iff];simp [Prod.ext_iff]
open Classical in
theorem Qmk {a b:List (Int×Int)}(hm:a.length≤maxLen):Qay a b=some (decide (a=b)):=by
 unfold Qay
 by_cases hl:a.length=b.length
 ·rw [QjP hl,Qig hl hm (fun i x y hx hy=>by
   show Q0 a b (i:Int)=_
   unfold Q0
   rw [ltN hx,Qew hx,Qew hy]
   simp only [cond_true,Qac]
   rw [QmE]
   by_cases e:x=y<;>simp [e]) (by
   show Q0 a b (a.length:Int)=_
   unfold Q0
   rw [ltE];rfl)]
  by_cases e:a=b<;>simp [e,QaH,QaI]
 rw [Qi6 hl]
 have:a≠b:=fun e=>hl (by rw [e])
 simp [this]
open Classical in
theorem Qm3 {a b:List (List (Int×Int))}(hm:a.length≤maxLen)(hx:∀x∈a,x.length≤maxLen):QG a b=some (decide (a=b)):=by
 unfold QG
 by_cases hl:a.length=b.length
 ·rw [QjP hl,Qig hl hm (fun i x y hx' hy=>by
   show Qr a b (i:Int)=_
   unfold Qr Qei
   rw [ltN hx',Qew hx',Qew hy]
   simp only [cond_true,Qac]
   rw [Qmk (hx x (QW hx'))]
   by_cases e:x=y<;>simp [e]) (by
   show Qr a b (a.length:Int)=_
   unfold Qr
   rw [ltE];rfl)]
  by_cases e:a=b<;>simp [e,QL,QM]
 rw [Qi6 hl]
 have:a≠b:=fun e=>hl (by rw [e])
 simp [this]
def lenM (o:Qat):Prop:=o.Vars.length≤maxLen∧o.Ins.length≤maxLen∧o.Outs.length≤maxLen
theorem Qm4 (a b:Qat):a=b↔a.Task=b.Task∧a.Vars=b.Vars∧a.Ins=b.Ins∧a.Outs=b.Outs:=by
 cases a;cases b;simp
theorem QmF (a b:Q3):a=b↔a.Most=b.Most∧a.Enough=b.Enough∧a.Open=b.Open∧a.Done=b.Done∧a.Failed=b.Failed:=by
 cases a;cases b;simp
theorem Qm5 (a b:Qi):a=b↔a.Id=b.Id∧a.Mode=b.Mode∧a.Batch=b.Batch∧a.Until=b.Until:=by
 cases a;cases b;simp
theorem Qm6 (a b:Qae):a=b↔a.M=b.M∧a.Items=b.Items∧a.Next=b.Next∧a.Now=b.Now:=by
 cases a;cases b;simp
open Classical in
theorem Qm7 (a b:Q3):((a.Most==b.Most)&&((a.Enough==b.Enough)&&((a.Open==b.Open)&&((a.Done==b.Done)&&(a.Failed==b.Failed)))))=decide (a=b):=by
 rw [Bool.eq_iff_iff];simp [QmF]
open Classical in
theorem QkF {a b:Qi}(h:lenM a.Mode):Qco a b=some (decide (a=b)):=by
 unfold Qco Qes QbE
 rw [QiE h.1,QiE h.2.1,QiE h.2.2,Qm7]
 simp only [Qm2]
 by_cases e1:a.Id=b.Id<;>by_cases e2:a.Batch=b.Batch<;>by_cases e3:a.Until=b.Until<;>by_cases e4:a.Mode.Task=b.Mode.Task<;>by_cases e5:a.Mode.Vars=b.Mode.Vars<;>by_cases e6:a.Mode.Ins=b.Mode.Ins<;>by_cases e7:a.Mode.Outs=b.Mode.Outs<;>simp [Qm5,Qm4,e1,e2,e3,e4,e5,e6,e7]
open Classical in
theorem Qm8 {a b:List Qi}(hm:a.length≤maxLen)(hx:∀x∈a,lenM x.Mode):QI a b=some (decide (a=b)):=by
 unfold QI
 by_cases hl:a.length=b.length
 ·rw [QjP hl,Qig hl hm (fun i x y hx' hy=>by
   show Qt a b (i:Int)=_
   unfold Qt
   rw [ltN hx',Qew hx',Qew hy]
   simp only [cond_true,Qac]
   rw [QkF (hx x (QW hx'))]
   by_cases e:x=y<;>simp [e]) (by
   show Qt a b (a.length:Int)=_
   unfold Qt
   rw [ltE];rfl)]
  by_cases e:a=b<;>simp [e,QU,QV]
 rw [Qi6 hl]
 have:a≠b:=fun e=>hl (by rw [e])
 simp [this]
def Qml (c:Qae):Prop:=c.M.length≤maxLen∧(∀x∈c.M,x.length≤maxLen)∧c.Items.length≤maxLen∧∀x∈c.Items,lenM x.Mode
open Classical in
theorem QkK {a b:Qae}(h:Qml a):Qb9 a b=some (decide (a=b)):=by
 unfold Qb9 Qgd QcG
 rw [Qm3 h.1 h.2.1,Qm8 h.2.2.1 h.2.2.2]
 simp only [Qm2]
 by_cases e1:a.Next=b.Next<;>by_cases e2:a.Now=b.Now<;>by_cases e3:a.M=b.M<;>by_cases e4:a.Items=b.Items<;>simp [Qm6,e1,e2,e3,e4]
end Go.Proofs
noncomputable section
namespace Go.Proofs
open Go Go.RowKit Go.Vm
def Fit (x:Qi):Prop:=x.Mode.Vars.length≤4294967296∧x.Mode.Ins.length≤4294967296∧x.Mode.Outs.length≤4294967296
theorem QiF {s:List Int}(h:s.length≤4294967296):Q8 s=some s:=by
 unfold Q8
 rw [Qmu (by simpa using h)];simp
theorem Qjz {x:Qi}(h:Fit x):Qb5 x=some x:=by
 unfold Qb5
 rw [QiF h.1,QiF h.2.1,QiF h.2.2];rfl
def dropL (l:List Qi)(id:Int):List Qi:=l.filter fun x=>x.Id != id
theorem QgW {l:List Qi}{id:Int}(hf:∀x∈l,Fit x)(hl:l.length≤4294967296)(hm:l.length≤maxLen):QaP l id=some (dropL l id):=by
 unfold QaP
 have h:=QkJ (body:=fun st:Int×List Qi=>QaO l id st.1 st.2) l.length (fun i s=>s=((i:Int),dropL (l.take i) id)) (fun r=>r=dropL l id) (fun i s hi hs=>by
  subst hs
  left
  have hx:l[i]? = some l[i]:=QR hi
  have htk:l.take (i+1)=l.take i++[l[i]]:=by rw [List.take_add_one,hx];rfl
  show ∃s',QaO l id (i:Int) (dropL (l.take i) id)=_∧_
  unfold QaO
  rw [ltN hx,Qew hx]
  simp only [cond_true,Qac]
  have hlen:(dropL (l.take i) id).length≤i:=by
   refine QaX (List.length_filter_le _ _) ?_
   simp;omega
  by_cases e:l[i].Id=id
  ·have e1:(l[i].Id != id)=false:=by simp [e]
   rw [e1]
   refine⟨_,rfl,?_⟩
   rw [htk];unfold dropL;rw [List.filter_append,Qdq,e1,QdE hi hm];simp
  ·have e1:(l[i].Id != id)=true:=by simp [e]
   rw [e1,cond_true,Qjz (hf _ (QdT hi)),Qac,Qmu (by simp;omega),Qac]
   refine⟨_,rfl,?_⟩
   rw [htk];unfold dropL;rw [List.filter_append,Qdq,e1,QdE hi hm];simp) (fun s hs=>by
  subst hs
  refine⟨_,?_,rfl⟩
  show QaO l id (l.length:Int) (dropL (l.take l.length) id)=_
  unfold QaO
  rw [ltE,QgZ];rfl) (0,[]) rfl
 obtain⟨r,hr,rfl⟩:=h
 rw [hr];rfl
def QfJ (x:Qi):List Qi→List Qi
 | []=>[x]
 | y::r=>if x.Id<y.Id then x::y::r else y::QfJ x r
def QbK (l:List Qi)(x:Qi):List Qi:=QfJ x (dropL l x.Id)
theorem Qks (x:Qi):∀l:List Qi,(QfJ x l).length=l.length+1
 | []=>rfl
 | y::r=>by rw [QfJ];split<;>simp [Qks x r]
theorem Qh5 (x:Qi):∀l:List Qi,(QfJ x l).Perm (x::l)
 | []=>List.Perm.refl _
 | y::r=>by
  rw [QfJ];split
  ·exact List.Perm.refl _
  exact(List.Perm.cons y (Qh5 x r)).trans (List.Perm.swap x y r)
theorem QjA (x:Qi):∀(l:List Qi) (k:Nat),(match QeF (fun _ y=>decide (x.Id<y.Id)) k l with | some i=>k≤i∧i-k≤l.length∧QfJ x l=l.take (i-k)++x::l.drop (i-k) | none=>QfJ x l=l++[x])
 | [],k=>rfl
 | y::r,k=>by
  rw [QeF,QfJ]
  by_cases h:x.Id<y.Id
  ·simp [h]
  have ih:=QjA x r (k+1)
  rw [QcX h,cond_false,if_neg h]
  cases hs:QeF (fun _ y=>decide (x.Id<y.Id)) (k+1) r with
  | none=>rw [hs]at ih;simp only at ih;rw [ih];rfl
  | some i=>
   rw [hs]at ih;simp only at ih
   obtain⟨h1,h2,h3⟩:=ih
   refine⟨by omega,by simp;omega,?_⟩
   rw [h3,show i-k=(i-(k+1))+1 by omega];rfl
theorem Qmm {l:List Qi}{x:Qi}(hm:l.length≤maxLen):Q7 l x=some ((QeF (fun _ y=>decide (x.Id<y.Id)) 0 l).elim (-1) fun i=>(i:Int)):=by
 unfold Q7
 have h:=QlO (body:=fun st=>QB l x st) (l:=l) (fun i=>(i:Int)) (fun _ y=>decide (x.Id<y.Id)) (fun i=>.inl (i:Int)) (.inr ()) (fun i y hi hy=>by
  show QB l x (i:Int)=_
  unfold QB QeU
  rw [ltN hy,Qew hy,QdE hi hm]
  simp only [cond_true,Qac]
  cases decide (x.Id<y.Id)<;>rfl) (by
  show QB l x (l.length:Int)=_
  unfold QB
  rw [ltE];rfl) (s0:=0) rfl
 rw [h]
 cases QeF (fun _ y=>decide (x.Id<y.Id)) 0 l<;>rfl
theorem QjB {l:List Qi}{x:Qi}{i:Nat}(hi:i≤l.length)(hl:l.length+1≤4294967296):QQ l (i:Int) [x]=some (l.take i++x::l.drop i):=by
 show(chk _).bind _=_
 rw [Qmt (by simp;omega)]
 simp
theorem QnB {α:Type}{p:Prop}[Decidable p](h:p)(a b:α):(bif decide p then a else b)=a:=by rw [Qdt h];rfl
theorem QnC {α:Type}{p:Prop}[Decidable p](h:¬p)(a b:α):(bif decide p then a else b)=b:=by rw [QcX h];rfl
theorem Qi7 {l:List Qi}{x:Qi}(hf:∀x∈l,Fit x)(hx:Fit x)(hl:l.length+1≤4294967296)(hm:l.length≤maxLen):QaL l x=some (QbK l x):=by
 unfold QaL
 have hd:(dropL l x.Id).length≤l.length:=List.length_filter_le _ _
 rw [QgW hf (by omega) hm,Qac,Qmm (by omega),Qac]
 have h:=QjA x (dropL l x.Id) 0
 unfold Qc0
 rw [Qjz hx]
 unfold QbK
 cases hs:QeF (fun _ y=>decide (x.Id<y.Id)) 0 (dropL l x.Id)with
 | none=>
  rw [hs]at h;simp only at h
  rw [h]
  simp only [Option.elim,Qac]
  refine(QnB (by decide) _ _).trans ?_
  show(QQ (dropL l x.Id) ((dropL l x.Id).length:Int) [x]).bind some=_
  rw [QjB (QaW _) (by omega)]
  simp
 | some i=>
  rw [hs]at h;simp only at h
  obtain⟨_,h2,h3⟩:=h
  rw [Nat.sub_zero]at h2 h3
  simp only [Option.elim,Qac]
  refine(QnC (by omega) _ _).trans ?_
  show(QQ (dropL l x.Id) (i:Int) [x]).bind some=_
  rw [h3,QjB h2 (by omega)]
  rfl
def Up (l:List Qi):Prop:=l.Pairwise fun a b=>a.Id<b.Id
theorem Up.ext : ∀{l m:List Qi},Up l→Up m→(∀x,x∈l↔x∈m)→l=m
 | [],[],_,_,_=>rfl
 | [],y::m,_,_,h=>by have:=(h y).2 QaG;cases this
 | x::l,[],_,_,h=>by have:=(h x).1 QaG;cases this
 | x::l,y::m,hl,hm,h=>by
  obtain⟨l1,l2⟩:=Qh7.1 hl
  obtain⟨m1,m2⟩:=Qh7.1 hm
  have e:x=y:=by
   rcases Qaw.1 ((h x).1 QaG)with e | hx
   ·exact e
   rcases Qaw.1 ((h y).2 QaG)with e | hy
   ·exact e.symm
   have:=m1 x hx;have:=l1 y hy;omega
  subst e
  rw [Up.ext l2 m2 fun z=>?_]
  have:=h z
  simp only [Qaw]at this
  constructor
  ·intro hz
   rcases this.1 (.inr hz)with e | h'
   ·subst e;have:=l1 z hz;omega
   exact h'
  intro hz
  rcases this.2 (.inr hz)with e | h'
  ·subst e;have:=m1 z hz;omega
  exact h'
theorem Up.drop {l:List Qi}(h:Up l)(id:Int):Up (dropL l id):=List.Pairwise.filter _ h
theorem Qhv {l:List Qi}{id:Int}{x:Qi}:x∈dropL l id↔x∈l∧x.Id≠id:=by simp [dropL,List.mem_filter]
theorem Up.ins {x:Qi}:∀{l:List Qi},Up l→(∀y∈l,y.Id≠x.Id)→Up (QfJ x l)
 | [],_,_=>List.pairwise_singleton _ _
 | y::r,h,hn=>by
  obtain⟨h1,h2⟩:=Qh7.1 h
  rw [QfJ]
  split
  ·rename_i hlt
   refine Qh7.2 ⟨fun z hz=>?_,h⟩
   rcases Qaw.1 hz with rfl | hz
   ·exact hlt
   have:=h1 z hz;omega
  rename_i hge
  have hy:=hn y QaG
  refine Qh7.2 ⟨fun z hz=>?_,Up.ins h2 fun z hz=>hn z (Qbj _ hz)⟩
  rcases Qaw.1 ((Qh5 x r).mem_iff.1 hz)with rfl | hz
  ·omega
  exact h1 z hz
theorem Up.put {l:List Qi}(h:Up l)(x:Qi):Up (QbK l x):=(h.drop x.Id).ins fun y hy=>(Qhv.1 hy).2
theorem Qjr {l:List Qi}{x z:Qi}:z∈QbK l x↔z=x∨(z∈l∧z.Id≠x.Id):=by
 unfold QbK
 rw [(Qh5 x _).mem_iff,Qaw,Qhv]
theorem Qjs {l:List Qi}(h:Up l){x y:Qi}(hne:x.Id≠y.Id):QbK (QbK l x) y=QbK (QbK l y) x:=by
 refine Up.ext ((h.put x).put y) ((h.put y).put x) fun z=>?_
 simp only [Qjr]
 constructor
 ·rintro (rfl | ⟨rfl | ⟨h1,h2⟩,h3⟩)
  ·exact .inr ⟨.inl rfl,Ne.symm hne⟩
  ·exact .inl rfl
  exact .inr ⟨.inr ⟨h1,h3⟩,h2⟩
 rintro (rfl | ⟨rfl | ⟨h1,h2⟩,h3⟩)
 ·exact .inr ⟨.inl rfl,hne⟩
 ·exact .inl rfl
 exact .inr ⟨.inr ⟨h1,h3⟩,h2⟩
theorem Qmn {l:List Qi}(h:Up l){x y:Qi}:dropL (dropL (QbK (QbK l x) y) x.Id) y.Id=dropL (dropL l y.Id) x.Id:=by
 refine Up.ext ((((h.put x).put y).drop _).drop _) ((h.drop _).drop _) fun z=>?_
 simp only [Qhv,Qjr]
 constructor
 ·rintro ⟨⟨rfl | ⟨rfl | ⟨h1,h2⟩,h3⟩,h4⟩,h5⟩
  ·exact absurd rfl h5
  ·exact absurd rfl h4
  exact⟨⟨h1,h3⟩,h2⟩
 rintro ⟨⟨h1,h2⟩,h3⟩
 exact⟨⟨.inr ⟨.inr ⟨h1,h3⟩,h2⟩,h3⟩,h2⟩
theorem QjC (n lo hi:Int):QbO n lo hi=some (decide (lo≤n)&&decide (n≤hi)):=rfl
open Classical in
theorem Qkt (b:Q3):∃r,QbC b=some r:=by
 unfold QbC Qf9
 simp only [QjC,Qac]
 have h:∀c:Bool,∃r,QbS b c=some r:=fun c=>by
  unfold QbS
  cases c with
  | true=>exact⟨_,rfl⟩
  | false=>
   have h:=Qkr (body:=fun st=>QaQ b st) (l:=[b.Open,b.Done,b.Failed]) (fun i=>(i:Int)) (fun _ x=>!(decide (0≤x)&&decide (x≤b.Most))) (.inl ()) (.inr ()) (fun i x hi hx=>by
    show QaQ b (i:Int)=_
    unfold QaQ
    rw [ltN hx,Qew hx,QdE hi (by show 3≤_;decide)]
    simp only [cond_true,Qac,QjC]
    cases (!(decide (0≤x)&&decide (x≤b.Most)))<;>rfl) (by
    show QaQ b (([b.Open,b.Done,b.Failed].length:Nat):Int)=_
    unfold QaQ
    rw [ltE];rfl) (s0:=0) rfl
   rw [cond_false,h]
   cases Qgx (fun (_:Nat) (x:Int)=>!(decide (0≤x)&&decide (x≤b.Most))) 0 [b.Open,b.Done,b.Failed]<;>exact⟨_,rfl⟩
 cases (!(decide (1≤b.Most)&&decide (b.Most≤16)))with
 | true=>exact h _
 | false=>exact h _
def QjQ (b:Q3):Bool:=((QbC b).getD false)&&!(((Qcx b).getD true))
theorem Qmo (b:Q3):∃r,Qcx b=some r:=by
 obtain⟨r,hr⟩:=Qkt b
 unfold Qcx QgS Qc1
 rw [hr]
 cases r with
 | true=>simp only [Qac,cond_true];cases decide (b.Enough≤b.Done)<;>exact⟨_,rfl⟩
 | false=>exact⟨_,rfl⟩
theorem QmG (b:Q3):((QbC b).bind fun x=>bif !x then some true else(Qcx b).bind fun y=>some y)=some (!QjQ b):=by
 obtain⟨r,hr⟩:=Qkt b
 obtain⟨q,hq⟩:=Qmo b
 unfold QjQ
 rw [hr,hq]
 cases r<;>cases q<;>rfl
def QeQ (next last:Int)(x:Qi):Bool:=decide (last<x.Id)&&decide (x.Id<next)&&decide (0≤x.Until)&&QjQ x.Batch
def upF (next:Int):Int→List Qi→Bool
 | _,[]=>true
 | last,x::l=>QeQ next last x&&upF next x.Id l
theorem QmH (x:Qi)(last next:Int):QdB x last next=some (!QeQ next last x):=by
 unfold QdB
 have:=QmG x.Batch
 unfold QeQ
 by_cases h1:x.Id≤last
 ·rw [Qdt h1,QcX (show ¬last<x.Id by omega)];rfl
 rw [QcX h1,Qdt (show last<x.Id by omega)]
 by_cases h2:next≤x.Id
 ·rw [Qdt h2,QcX (show ¬x.Id<next by omega)];rfl
 rw [QcX h2,Qdt (show x.Id<next by omega)]
 by_cases h3:x.Until<0
 ·rw [Qdt h3,QcX (show ¬0≤x.Until by omega)];rfl
 rw [QcX h3,Qdt (show 0≤x.Until by omega)]
 simp only [cond_false,Bool.true_and]
 exact this
theorem Qmp {l:List Qi}{next:Int}(hm:l.length≤maxLen):QbP l next=some (upF next 0 l&&decide ((l.length:Int)≤64)):=by
 unfold QbP
 have h:=Qh4 (body:=fun st:Int×Int=>QaC l next st.1 st.2) (l:=l) (fun i t=>(t,(i:Int))) (fun i t x=>bif QeQ next t x then .inl x.Id else .inr (.inl ())) (fun _=>.inr ()) (fun i t x hi hx=>by
  show QaC l next t (i:Int)=_
  unfold QaC Qcn
  rw [ltN hx,Qew hx,QdE hi hm]
  simp only [cond_true,Qac,QmH]
  cases QeQ next t x<;>rfl) (fun t=>by
  show QaC l next t (l.length:Int)=_
  unfold QaC
  rw [ltE];rfl) 0 (s0:=(0,0)) rfl
 rw [h]
 have key:∀(l:List Qi) (i:Nat) (t:Int),Qek (fun (_:Nat) (t:Int) (x:Qi)=>bif QeQ next t x then Sum.inl x.Id else Sum.inr (Sum.inl ())) (fun _=>(Sum.inr ():Unit⊕Unit)) i t l=bif upF next t l then .inr ()else .inl ():=by
  intro l
  induction l with
  | nil=>intro i t;rfl
  | cons x l ih=>
   intro i t
   rw [Qek,upF]
   cases QeQ next t x with
   | true=>simpa using ih (i+1) x.Id
   | false=>rfl
 rw [key]
 cases upF next 0 l<;>rfl
theorem QkL {next:Int}:∀{l:List Qi} {last:Int},upF next last l=true↔Up l∧∀x∈l,last<x.Id∧x.Id<next∧0≤x.Until∧QjQ x.Batch=true
 | [],last=>⟨fun _=>⟨List.Pairwise.nil,fun x h=>by cases h⟩,fun _=>rfl⟩
 | x::l,last=>by
  rw [upF,Qs,QkL (l:=l)]
  unfold QeQ Up
  simp only [Qs,QdZ,Qh7,Qaw,forall_eq_or_imp]
  constructor
  ·rintro ⟨⟨⟨⟨a1,a2⟩,a3⟩,a4⟩,a5,a6⟩
   exact⟨⟨fun y hy=>(a6 y hy).1,a5⟩,⟨a1,a2,a3,a4⟩,fun y hy=>⟨by have:=(a6 y hy).1;omega,(a6 y hy).2⟩⟩
  rintro ⟨⟨a1,a5⟩,⟨b1,b2,b3,b4⟩,a6⟩
  exact⟨⟨⟨⟨b1,b2⟩,b3⟩,b4⟩,a5,fun y hy=>⟨a1 y hy,(a6 y hy).2⟩⟩
def QcV (l:List Qi):Nat:=(l.map fun x=>x.Mode.Vars.length+x.Mode.Ins.length+x.Mode.Outs.length).sum
end Go.Proofs
noncomputable section
namespace Go.Proofs
open Go Go.RowKit Go.Vm
def Qgy (x:Qi):Nat:=x.Mode.Vars.length+x.Mode.Ins.length+x.Mode.Outs.length
def Can (x:Qi):Prop:=x.Mode.Vars.length≤17592186044416∧x.Mode.Ins.length≤17592186044416∧x.Mode.Outs.length≤17592186044416
theorem QjD {l:List Qi}{i:Nat}{x:Qi}(h:l[i]? = some x):QcV (l.take (i+1))=QcV (l.take i)+Qgy x:=by
 rw [List.take_add_one,h];simp [QcV,Qgy]
theorem QkM {l:List Qi}(h:∀x∈l,Can x):∀{i:Nat},i≤l.length→QcV (l.take i)≤i*52776558133248
 | 0,_=>by simp [QcV]
 | i+1,hi=>by
  rw [QjD (QR hi)]
  have h1:=QkM h (Nat.le_of_succ_le hi)
  have h2:=h _ (QdT hi)
  unfold Can at h2;unfold Qgy;omega
theorem QiG {l:List Qi}{x:Qi}(h:x∈l):Qgy x≤QcV l:=by
 unfold QcV
 induction l with
 | nil=>cases h
 | cons y l ih=>
  rw [QbY,List.sum_cons]
  rcases Qaw.1 h with rfl | h
  ·unfold Qgy;omega
  have:=ih h;omega
theorem w3 (a b c d:Int):w64 (w64 (w64 (a+b)+c)+d)=w64 (a+b+c+d):=by
 rw [QkI,Int.add_assoc (w64 (a+b)) c d,QkI];congr 1;omega
theorem QlP {l:List Qi}(h:∀x∈l,Can x):Qdp l=some (decide (l.length≤80∧QcV l≤1000)):=by
 unfold Qdp
 by_cases h80:l.length≤80
 ·rw [QcX (show ¬(80:Int)<(l.length:Int) by omega),cond_false]
  have h':=QkJ (body:=fun st:Int×Int=>Qa7 l st.1 st.2) l.length (fun i s=>s=((QcV (l.take i):Int),(i:Int))) (fun r=>r=(QcV l:Int)) (fun i s hi hs=>by
   subst hs
   left
   have hx:l[i]? = some l[i]:=QR hi
   show ∃s',Qa7 l (QcV (l.take i):Int) (i:Int)=_∧_
   unfold Qa7
   rw [ltN hx,Qew hx]
   simp only [cond_true,Qac]
   refine⟨_,rfl,?_⟩
   have h1:=QkM h (Nat.le_of_lt hi)
   have h2:=h _ (QdT hi)
   unfold Can at h2
   rw [w3,QjD hx,QdE hi (QaX h80 (by decide))]
   have e:((QcV (l.take i):Int)+(l[i].Mode.Vars.length:Int)+(l[i].Mode.Ins.length:Int)+(l[i].Mode.Outs.length:Int))=((QcV (l.take i)+Qgy l[i]:Nat):Int):=by unfold Qgy;omega
   rw [e,QlN (by unfold Qgy;omega)]) (fun s hs=>by
   subst hs
   refine⟨_,?_,rfl⟩
   show Qa7 l (QcV (l.take l.length):Int) (l.length:Int)=_
   unfold Qa7
   rw [ltE,QgZ];rfl) (0,0) rfl
  obtain⟨r,hr,rfl⟩:=h'
  rw [hr]
  show some (decide ((QcV l:Int)≤1000))=_
  congr 1
  rw [decide_eq_decide]
  constructor
  ·intro h;exact⟨h80,by omega⟩
  intro h;omega
 rw [Qdt (show(80:Int)<(l.length:Int) by omega),QcX (fun h=>h80 h.1)];rfl
theorem Fit.of {x:Qi}(h:Qgy x≤1000):Fit x:=by unfold Qgy at h;unfold Fit;omega
theorem Qge (l:List Qi)(id:Int):(dropL l id).length≤l.length:=List.length_filter_le _ _
theorem Qhw (l:List Qi)(x:Qi):(QbK l x).length≤l.length+1:=by
 unfold QbK;rw [Qks];have:=Qge l x.Id;omega
theorem QdR {l:List Qi}{x:Qi}(h:∀y∈l,Fit y)(hx:Fit x):∀y∈QbK l x,Fit y:=fun y hy=>by
 rcases Qjr.1 hy with rfl | h'
 ·exact hx
 exact h _ h'.1
theorem Qhx {l:List Qi}{id:Int}(h:∀y∈l,Fit y):∀y∈dropL l id,Fit y:=fun y hy=>h _ (Qhv.1 hy).1
theorem QmI {m:Qat}(h:m.Vars.length≤17592186044416∧m.Ins.length≤17592186044416∧m.Outs.length≤17592186044416):lenM m:=by
 have:(17592186044416:Nat)≤maxLen:=by decide
 exact⟨QaX h.1 this,QaX h.2.1 this,QaX h.2.2 this⟩
theorem Fit.lenM {x:Qi}(h:Fit x):lenM x.Mode:=QmI (by unfold Fit at h;omega)
theorem Qlo {l:List Qi}{x y:Qi}(hl:∀x∈l,Can x)(hx:Can x)(hy:Can y):Qbc l x y=some true:=by
 unfold Qbc
 rw [Qmj,Qac,QlP hl,Qac,QlP (l:=[x,y]) (by simp [hx,hy]),Qac]
 unfold QdP
 by_cases f1:l.length≤80∧QcV l≤1000
 ·rw [Qdt f1]
  by_cases f2:[x,y].length≤80∧QcV [x,y]≤1000
  ·rw [Qdt f2]
   have m80:(80:Nat)≤maxLen:=by decide
   by_cases e:x.Id=y.Id
   ·rw [show(x.Id==y.Id)=true by simp [e]];rfl
   rw [show(x.Id==y.Id)=false by simp [e],Qmp (QaX f1.1 m80)]
   cases hr:(upF 1099511627776 0 l&&decide ((l.length:Int)≤64))with
   | false=>rfl
   | true=>
    rw [Qs]at hr
    have hu:=(QkL.1 hr.1).1
    have fl:∀z∈l,Fit z:=fun z hz=>Fit.of (QaX (QiG hz) f1.2)
    have fx:Fit x:=Fit.of (QaX (QiG (l:=[x,y]) (by simp)) f2.2)
    have fy:Fit y:=Fit.of (QaX (QiG (l:=[x,y]) (by simp)) f2.2)
    have a1:=Qhw l x;have a2:=Qhw l y;have a3:=Qhw (QbK l x) y;have a4:=Qhw (QbK l y) x;have a5:=Qge l y.Id;have a6:=Qge (QbK (QbK l x) y) x.Id
    have m83:(83:Nat)≤maxLen:=by decide
    have b83:(83:Nat)≤4294967296:=by decide
    have l1:=f1.1
    simp only [Bool.not_true,cond_false,Qac]
    unfold Qbf
    rw [cond_false,Qi7 fl fx (by omega) (by omega),Qac,Qi7 (QdR fl fx) fy (by omega) (by omega),Qac,Qi7 fl fy (by omega) (by omega),Qac,Qi7 (QdR fl fy) fx (by omega) (by omega),Qac,
     QgW (QdR (QdR fl fx) fy) (by omega) (by omega),Qac,QgW (Qhx (QdR (QdR fl fx) fy)) (by omega) (by omega),Qac,QgW fl (by omega) (by omega),Qac,QgW (Qhx fl) (by omega) (by omega),Qac]
    rw [Qjs hu e,←Qjs hu e,Qmn hu]
    unfold QdQ
    have nil:∀b∈([]:List (List (Int×Int))),b.length≤maxLen:=fun b h=>by cases h
    have g1:(QbK (QbK l y) x).length≤maxLen:=by omega
    have g2:(dropL (dropL l y.Id) x.Id).length≤maxLen:=by have:=Qge (dropL l y.Id) x.Id;omega
    have c1:Qml (Qae.mk ([]:(List (List (Int×Int)))) (QbK (QbK l y) x) 0 0):=⟨Nat.zero_le _,nil,g1,fun z hz=>(QdR (QdR fl fy) fx z hz).lenM⟩
    have c2:Qml (Qae.mk ([]:(List (List (Int×Int)))) (dropL (dropL l y.Id) x.Id) 0 0):=⟨Nat.zero_le _,nil,g2,fun z hz=>(Qhx (Qhx fl) z hz).lenM⟩
    rw [Qjs hu e,QkK c1,QkK c2]
    simp
    rfl
  rw [QcX f2];rfl
 rw [QcX f1];rfl
end Go.Proofs
