/- A part of the proof; what it holds is told at each theorem. -/
import Derived.Test.YtbcmaoldnhphlaaO3T1
import Derived.Test.YtbcmaoldnhphlaaO3XPlA
import Derived.KernelRfl
set_option linter.unusedVariables false
set_option linter.unusedSimpArgs false
set_option linter.unusedSectionVars false
set_option linter.deprecated false
noncomputable section
namespace Go.Proofs
open Go Go.RowKit Go.Vm
set_option maxRecDepth 100000 in
theorem QnH : QfS=some true:=by kernel_rfl
end Go.Proofs
noncomputable section
namespace Go.Proofs
open Go Go.RowKit Go.Vm
open Classical in
theorem Qje {α:Type}{a b:List α}(hl:a.length=b.length)(hm:a.length≤maxLen){body:Int→Option (Int⊕(Unit⊕Unit))}
  (hs:∀(i:Nat) x y,a[i]? = some x→b[i]? = some y→body (i:Int)=some (bif !(decide (x=y))then .inr (.inl ())else .inl (w64 ((i:Int)+1))))
  (hf:body (a.length:Int)=some (.inr (.inr ()))):QH body 0=some (bif decide (a=b)then .inr ()else .inl ()):=by
 have h:=QnG (body:=body) (l:=a) (fun i=>(i:Int)) (fun i x=>!(decide (b[i]? = some x))) (.inl ()) (.inr ()) (fun i x hi hx=>by
  have hy:=Q1 (show i<b.length by omega)
  rw [hs i x _ hx hy,hy,QlB hi hm]
  have:decide (some b[i]=some x)=decide (x=b[i]):=by rw [decide_eq_decide];exact⟨fun h=>(Option.some.inj h).symm,fun h=>by rw [h]⟩
  rw [this]) hf rfl
 refine Eq.trans h ?_
 congr 1
 by_cases e:a=b
 ·subst e
  have:Qiq (fun i x=>!(decide (a[i]? = some x))) 0 a=false:=Qka.2 fun i x hx=>by simp [hx]
  rw [this];simp
 have:Qiq (fun i x=>!(decide (b[i]? = some x))) 0 a=true:=by
  rw [←Bool.not_eq_false,Qka]
  intro h'
  refine e (List.ext_getElem? fun i=>?_)
  by_cases hi:i<a.length
  ·have:=h' i a[i] (Q1 hi)
   simp only [Bool.not_eq_false',Qfw]at this
   rw [this,Q1 hi]
  rw [List.getElem?_eq_none (by omega),List.getElem?_eq_none (by omega)]
 rw [this];simp [e]
open Classical in
theorem QnI (a b:Int):(a==b)=decide (a=b):=by rw [Bool.eq_iff_iff];simp
open Classical in
theorem Qo3 (a b:Int):(a != b)=!decide (a=b):=by rw [Bool.eq_iff_iff];simp
theorem QhB {α:Type}{l:List α}{i:Nat}{x:α}(h:l[i]? = some x):idx l (i:Int)=some x:=by rw [Qn3];exact h
theorem ltN {α:Type}{l:List α}{i:Nat}{x:α}(h:l[i]? = some x):decide ((i:Int)<(l.length:Int))=true:=QcJ (by have:=(QE.1 h).1;omega)
theorem ltE {n:Nat}:decide ((n:Int)<(n:Int))=false:=Qc3 (by omega)
theorem Qk1 {α:Type}{a b:List α}(h:a.length=b.length):((a.length:Int) != (b.length:Int))=false:=by simp [h]
theorem Qkb {α:Type}{a b:List α}(h:¬a.length=b.length):((a.length:Int) != (b.length:Int))=true:=by simp;omega
open Classical in
theorem Qky {a b:List Int}(hm:a.length≤maxLen):Qcd a b=some (decide (a=b)):=by
 unfold Qcd
 by_cases hl:a.length=b.length
 ·rw [Qk1 hl,Qje hl hm (fun i x y hx hy=>by
   show QbP a b (i:Int)=_
   unfold QbP
   rw [ltN hx,QhB hx,QhB hy]
   simp only [cond_true,QF,Qo3]
   by_cases e:x=y<;>simp [e]) (by
   show QbP a b (a.length:Int)=_
   unfold QbP
   rw [ltE];rfl)]
  by_cases e:a=b<;>simp [e,Qe1,Qe2]
 rw [Qkb hl]
 have:a≠b:=fun e=>hl (by rw [e])
 simp [this]
open Classical in
theorem Qn5 (x y:Int×Int):((x.1==y.1)&&(x.2==y.2))=decide (x=y):=by
 rw [Bool.eq_iff_iff];simp [Prod.ext_iff]
open Classical in
theorem Qn6 {a b:List (Int×Int)}(hm:a.length≤maxLen):Qe7 a b=some (decide (a=b)):=by
 unfold Qe7
 by_cases hl:a.length=b.length
 ·rw [Qk1 hl,Qje hl hm (fun i x y hx hy=>by
   show QbQ a b (i:Int)=_
   unfold QbQ
   rw [ltN hx,QhB hx,QhB hy]
   simp only [cond_true,QF]
   rw [Qn5]
   by_cases e:x=y<;>simp [e]) (by
   show QbQ a b (a.length:Int)=_
   unfold QbQ
   rw [ltE];rfl)]
  by_cases e:a=b<;>simp [e,Qe5,Qe6]
 rw [Qkb hl]
 have:a≠b:=fun e=>hl (by rw [e])
 simp [this]
open Classical in
theorem Qo4 {a b:List (List (Int×Int))}(hm:a.length≤maxLen)(hx:∀x∈a,x.length≤maxLen):Qda a b=some (decide (a=b)):=by
 unfold Qda
 by_cases hl:a.length=b.length
 ·rw [Qk1 hl,Qje hl hm (fun i x y hx' hy=>by
   show QaZ a b (i:Int)=_
   unfold QaZ
   rw [ltN hx',QhB hx',QhB hy]
   simp only [cond_true,QF]
   rw [Qn6 (hx x (QV hx'))]
   by_cases e:x=y<;>simp [e]) (by
   show QaZ a b (a.length:Int)=_
   unfold QaZ
   rw [ltE];rfl)]
  by_cases e:a=b<;>simp [e,Qdu,Qdv]
 rw [Qkb hl]
 have:a≠b:=fun e=>hl (by rw [e])
 simp [this]
def lenM (o:QZ):Prop:=o.Vars.length≤maxLen∧o.Ins.length≤maxLen∧o.Outs.length≤maxLen
theorem Qoy (a b:QZ):a=b↔a.Task=b.Task∧a.Vars=b.Vars∧a.Ins=b.Ins∧a.Outs=b.Outs:=by
 cases a;cases b;simp
theorem Qn7 (a b:QO):a=b↔a.Most=b.Most∧a.Enough=b.Enough∧a.Open=b.Open∧a.Done=b.Done∧a.Failed=b.Failed:=by
 cases a;cases b;simp
theorem Qoz (a b:Qk):a=b↔a.Id=b.Id∧a.Mode=b.Mode∧a.Batch=b.Batch∧a.Until=b.Until:=by
 cases a;cases b;simp
theorem QoA (a b:QS):a=b↔a.M=b.M∧a.Items=b.Items∧a.Next=b.Next∧a.Now=b.Now:=by
 cases a;cases b;simp
open Classical in
theorem Ql0 {a b:QZ}(h:lenM a):QdU a b=some (decide (a=b)):=by
 unfold QdU Qhc QdF
 rw [Qky h.1,Qky h.2.1,Qky h.2.2]
 simp only [QnI]
 by_cases e1:a.Task=b.Task<;>by_cases e2:a.Vars=b.Vars<;>by_cases e3:a.Ins=b.Ins<;>by_cases e4:a.Outs=b.Outs<;>simp [Qoy,e1,e2,e3,e4]
open Classical in
theorem QoB (a b:QO):((a.Most==b.Most)&&((a.Enough==b.Enough)&&((a.Open==b.Open)&&((a.Done==b.Done)&&(a.Failed==b.Failed)))))=decide (a=b):=by
 rw [Bool.eq_iff_iff];simp [Qn7]
open Classical in
theorem Qn8 {a b:Qk}(h:lenM a.Mode):Qdb a b=some (decide (a=b)):=by
 unfold Qdb Qfg Qcf
 rw [Ql0 h,QoB]
 simp only [QnI]
 by_cases e1:a.Id=b.Id<;>by_cases e2:a.Batch=b.Batch<;>by_cases e3:a.Until=b.Until<;>by_cases e4:a.Mode=b.Mode<;>simp [Qoz,e1,e2,e3,e4]
open Classical in
theorem Qo5 {a b:List Qk}(hm:a.length≤maxLen)(hx:∀x∈a,lenM x.Mode):Qei a b=some (decide (a=b)):=by
 unfold Qei
 by_cases hl:a.length=b.length
 ·rw [Qk1 hl,Qje hl hm (fun i x y hx' hy=>by
   show QbB a b (i:Int)=_
   unfold QbB
   rw [ltN hx',QhB hx',QhB hy]
   simp only [cond_true,QF]
   rw [Qn8 (hx x (QV hx'))]
   by_cases e:x=y<;>simp [e]) (by
   show QbB a b (a.length:Int)=_
   unfold QbB
   rw [ltE];rfl)]
  by_cases e:a=b<;>simp [e,Qep,Qeq]
 rw [Qkb hl]
 have:a≠b:=fun e=>hl (by rw [e])
 simp [this]
def lenC (c:QS):Prop:=c.M.length≤maxLen∧(∀x∈c.M,x.length≤maxLen)∧c.Items.length≤maxLen∧∀x∈c.Items,lenM x.Mode
open Classical in
theorem QmG {a b:QS}(h:lenC a):QdV a b=some (decide (a=b)):=by
 unfold QdV Qhe QdG
 rw [Qo4 h.1 h.2.1,Qo5 h.2.2.1 h.2.2.2]
 simp only [QnI]
 by_cases e1:a.Next=b.Next<;>by_cases e2:a.Now=b.Now<;>by_cases e3:a.M=b.M<;>by_cases e4:a.Items=b.Items<;>simp [QoA,e1,e2,e3,e4]
end Go.Proofs
noncomputable section
namespace Go.Proofs
open Go Go.RowKit Go.Vm
def Fit (x:Qk):Prop:=x.Mode.Vars.length≤4294967296∧x.Mode.Ins.length≤4294967296∧x.Mode.Outs.length≤4294967296
def dropL (l:List Qk)(id:Int):List Qk:=l.filter fun x=>x.Id != id
def Qkz (x:Qk):List Qk→List Qk
 | []=>[x]
 | y::r=>if x.Id<y.Id then x::y::r else y::Qkz x r
def Qo6 (l:List Qk)(x:Qk):List Qk:=Qkz x (dropL l x.Id)
theorem QkK (x:Qk):∀l:List Qk,(Qkz x l).Perm (x::l)
 | []=>List.Perm.refl _
 | y::r=>by
  rw [Qkz];split
  ·exact List.Perm.refl _
  exact(List.Perm.cons y (QkK x r)).trans (List.Perm.swap x y r)
def Up (l:List Qk):Prop:=l.Pairwise fun a b=>a.Id<b.Id
theorem Up.ext : ∀{l m:List Qk},Up l→Up m→(∀x,x∈l↔x∈m)→l=m
 | [],[],_,_,_=>rfl
 | [],y::m,_,_,h=>by have:=(h y).2 QaS;cases this
 | x::l,[],_,_,h=>by have:=(h x).1 QaS;cases this
 | x::l,y::m,hl,hm,h=>by
  obtain⟨l1,l2⟩:=List.pairwise_cons.1 hl
  obtain⟨m1,m2⟩:=List.pairwise_cons.1 hm
  have e:x=y:=by
   rcases QaY.1 ((h x).1 QaS)with e | hx
   ·exact e
   rcases QaY.1 ((h y).2 QaS)with e | hy
   ·exact e.symm
   have:=m1 x hx;have:=l1 y hy;omega
  subst e
  rw [Up.ext l2 m2 fun z=>?_]
  have:=h z
  simp only [QaY]at this
  constructor
  ·intro hz
   rcases this.1 (.inr hz)with e | h'
   ·subst e;have:=l1 z hz;omega
   exact h'
  intro hz
  rcases this.2 (.inr hz)with e | h'
  ·subst e;have:=m1 z hz;omega
  exact h'
theorem Up.drop {l:List Qk}(h:Up l)(id:Int):Up (dropL l id):=List.Pairwise.filter _ h
theorem QnJ {l:List Qk}{id:Int}{x:Qk}:x∈dropL l id↔x∈l∧x.Id≠id:=by simp [dropL,List.mem_filter]
theorem Up.ins {x:Qk}:∀{l:List Qk},Up l→(∀y∈l,y.Id≠x.Id)→Up (Qkz x l)
 | [],_,_=>List.pairwise_singleton _ _
 | y::r,h,hn=>by
  obtain⟨h1,h2⟩:=List.pairwise_cons.1 h
  rw [Qkz]
  split
  ·rename_i hlt
   refine List.pairwise_cons.2 ⟨fun z hz=>?_,h⟩
   rcases QaY.1 hz with rfl | hz
   ·exact hlt
   have:=h1 z hz;omega
  rename_i hge
  have hy:=hn y QaS
  refine List.pairwise_cons.2 ⟨fun z hz=>?_,Up.ins h2 fun z hz=>hn z (Qbp _ hz)⟩
  rcases QaY.1 ((QkK x r).mem_iff.1 hz)with rfl | hz
  ·omega
  exact h1 z hz
theorem Up.put {l:List Qk}(h:Up l)(x:Qk):Up (Qo6 l x):=(h.drop x.Id).ins fun y hy=>(QnJ.1 hy).2
end Go.Proofs
noncomputable section
namespace Go.Proofs
open Go Go.RowKit Go.Vm
def QkA (x:Qk):Nat:=x.Mode.Vars.length+x.Mode.Ins.length+x.Mode.Outs.length
theorem Fit.of {x:Qk}(h:QkA x≤1000):Fit x:=by unfold QkA at h;unfold Fit;omega
theorem Qn9 {m:QZ}(h:m.Vars.length≤17592186044416∧m.Ins.length≤17592186044416∧m.Outs.length≤17592186044416):lenM m:=by
 have:(17592186044416:Nat)≤maxLen:=by decide
 exact⟨Qct h.1 this,Qct h.2.1 this,Qct h.2.2 this⟩
theorem Fit.lenM {x:Qk}(h:Fit x):lenM x.Mode:=Qn9 (by unfold Fit at h;omega)
end Go.Proofs
noncomputable section
namespace Go.Proofs
open Go Go.RowKit Go.Vm
def QbF (n:Int)(k:Nat):Int:=(n % 18446744073709551616) / (2 ^ (8*k):Nat) % 256
def QlC (n:Int):Nat→List Int
 | 0=>[]
 | k+1=>QbF n k::QlC n k
def Qaw (n:Int):List Int:=QlC n 8
theorem Qdd (n:Int):(Qaw n).length=8:=rfl
theorem QkL (ns:List Int):(ns.flatMap Qaw).length=8*ns.length:=by
 induction ns with
 | nil=>rfl
 | cons x ns ih=>rw [Qi5,Qbb,ih,Qdd,Qc0];omega
theorem QnK {α:Type}{E:α→List Int}{L:List α}(h:∀x∈L,1≤(E x).length):L.length≤(L.flatMap E).length:=by
 induction L with
 | nil=>simp
 | cons x L ih=>
  have:=h x QaS
  have:=ih fun y hy=>h y (Qbp _ hy)
  rw [Qi5,Qbb,Qc0];omega
def Qbh {α:Type}(E:α→List Int)(l:List α):List Int:=Qaw l.length++l.flatMap E
theorem Qgh {α:Type}(E:α→List Int)(l:List α):(Qbh E l).length=8+(l.flatMap E).length:=by simp [Qbh,Qdd]
def QdY (o:QZ):List Int:=Qaw o.Task++(Qbh Qaw o.Vars++(Qbh Qaw o.Ins++Qbh Qaw o.Outs))
def Qfp (p:Int×Int):List Int:=Qaw p.1++Qaw p.2
def Qkc (b:List (Int×Int)):List Int:=Qbh Qfp b
def Qer (b:QO)(u:Int):List Int:=[b.Most,b.Enough,b.Open,b.Done,b.Failed,u].flatMap Qaw
def QdZ (x:Qk):List Int:=Qaw x.Id++(QdY x.Mode++Qer x.Batch x.Until)
def Qgj (c:QS):List Int:=Qaw c.Next++(Qaw c.Now++(Qbh Qkc c.M++Qbh QdZ c.Items))
def QkB (c:QW):List Int:=Qaw c.Do++(Qaw c.Id++(QdY c.Mode++Qaw c.Num))
theorem Qjp (p:Int×Int):(Qfp p).length=16:=rfl
end Go.Proofs
noncomputable section
namespace Go.Proofs
open Go Go.RowKit Go.Vm
theorem Ql1 {α:Type}{E:α→List Int}{b:Nat}{L:List α}(h:∀x∈L,(E x).length≤b):(L.flatMap E).length≤L.length*b:=by
 induction L with
 | nil=>simp
 | cons x L ih=>
  have h1:=h x QaS
  have h2:=ih fun y hy=>h y (Qbp _ hy)
  rw [Qi5,Qbb,Qc0,Nat.succ_mul];omega
theorem QlW (o:QZ):(QdY o).length=32+8*(o.Vars.length+o.Ins.length+o.Outs.length):=by
 unfold QdY
 simp only [Qbb,Qdd,Qgh,QkL];omega
theorem Qjq (x:Qk):(QdZ x).length=88+8*QkA x:=by
 unfold QdZ Qer QkA
 simp only [Qbb,Qdd,QlW,QkL,Qc0,List.length_nil];omega
theorem QmH (b:List (Int×Int)):(Qkc b).length=8+16*b.length:=by
 unfold Qkc
 rw [Qgh]
 congr 1
 induction b with
 | nil=>rfl
 | cons p b ih=>rw [Qi5,Qbb,Qjp,ih,Qc0];omega
def QkC (c:QS):Prop:=(c.M.length≤70∧∀b∈c.M,b.length≤300)∧c.Items.length≤80∧∀x∈c.Items,QkA x≤1000
theorem QkC.len4 {c:QS}(h:QkC c):(Qgj c).length≤4000000:=by
 obtain⟨⟨h1,h2⟩,h3,h4⟩:=h
 unfold Qgj
 simp only [Qbb,Qdd,Qgh]
 have a1:=Ql1 (E:=Qkc) (b:=5000) (L:=c.M) fun x hx=>by rw [QmH];have:=h2 x hx;omega
 have a2:=Ql1 (E:=QdZ) (b:=9000) (L:=c.Items) fun x hx=>by rw [Qjq];have:=h4 x hx;omega
 omega
theorem QkC.len {c:QS}(h:QkC c):(Qgj c).length≤4294967296:=Qct h.len4 (by decide)
theorem QkC.lenC {c:QS}(h:QkC c):lenC c:=by
 obtain⟨⟨h1,h2⟩,h3,h4⟩:=h
 have m:(1000:Nat)≤maxLen:=by decide
 refine⟨by omega,fun b hb=>by have:=h2 b hb;omega,by omega,fun x hx=>?_⟩
 have:=h4 x hx
 unfold QkA at this
 exact⟨by omega,by omega,by omega⟩
end Go.Proofs
noncomputable section
namespace Go.Proofs
open Go Go.RowKit Go.Vm
def Qe8 (n e:Int):Int:=(n*256+e) % 18446744073709551616
def val (bs:List Int):Int:=bs.foldl Qe8 0
def QaV (e:Int):Prop:=0≤e∧e<256
theorem QoC {n e:Int}(hn:0≤n∧n<18446744073709551616)(he:QaV e):orI .u64 (QjA .u64 n 8) (IntKind.u64.wrap e)=Qe8 n e:=by
 obtain⟨h0,h1⟩:=he
 unfold orI QjA Qe8
 rw [show min ((8:Int).toNat) (IntKind.bits .u64)=8 from rfl]
 show(((BitVec.ofInt 64 ((n*2 ^ 8) % 18446744073709551616) ||| BitVec.ofInt 64 (e % 18446744073709551616)).toNat:Nat):Int) % 18446744073709551616=_
 rw [BitVec.toNat_or,BitVec.toNat_ofInt,BitVec.toNat_ofInt]
 have e1:((n*2 ^ 8) % 18446744073709551616 % ((2 ^ 64:Nat):Int)).toNat=2 ^ 8*(n % 72057594037927936).toNat:=by omega
 have e2:(e % 18446744073709551616 % ((2 ^ 64:Nat):Int)).toNat=e.toNat:=by omega
 rw [e1,e2,←Nat.two_pow_add_eq_or_of_lt (by omega)]
 omega
theorem QnL (n e:Int):0≤Qe8 n e∧Qe8 n e<18446744073709551616:=by unfold Qe8;omega
theorem QlD (bs:List Int)(e:Int):val (bs++[e])=Qe8 (val bs) e:=by simp [val]
theorem QlE (bs:List Int):0≤val bs∧val bs<18446744073709551616:=by
 rcases List.eq_nil_or_concat bs with rfl | ⟨l,x,rfl⟩
 ·decide
 rw [List.concat_eq_append,QlD];exact QnL _ _
theorem Qm9 {bs:List Int}{i:Nat}{x:Int}(h:bs[i]? = some x):val (bs.take (i+1))=Qe8 (val (bs.take i)) x:=by
 rw [List.take_add_one,h];exact QlD _ _
theorem QoD {a b c d e f g h:Int}(ha:QaV a)(hb:QaV b)(hc:QaV c)(hd:QaV d)(he:QaV e)(hf:QaV f)(hg:QaV g)(hh:QaV h):
  val [a,b,c,d,e,f,g,h]=a*72057594037927936+b*281474976710656+c*1099511627776+d*4294967296+e*16777216+f*65536+g*256+h:=by
 unfold QaV at *
 simp only [val,List.foldl,Qe8]
 omega
theorem Qde (n:Int)(k:Nat):QaV (QbF n k):=by unfold QaV QbF;omega
theorem QmI (n:Int):∀e∈Qaw n,QaV e:=by
 have key:∀k,∀e∈QlC n k,QaV e:=by
  intro k
  induction k with
  | zero=>intro e h;cases h
  | succ k ih=>
   intro e h
   rcases QaY.1 h with rfl | h
   ·exact Qde _ _
   exact ih e h
 exact key 8
theorem QnM (n:Int):val (Qaw n)=n % 18446744073709551616:=by
 show val [QbF n 7,QbF n 6,QbF n 5,QbF n 4,QbF n 3,QbF n 2,QbF n 1,QbF n 0]=_
 rw [QoD (Qde _ _) (Qde _ _) (Qde _ _) (Qde _ _) (Qde _ _) (Qde _ _) (Qde _ _) (Qde _ _)]
 unfold QbF
 have h0:0≤n % 18446744073709551616:=by omega
 have h1:n % 18446744073709551616<18446744073709551616:=by omega
 generalize n % 18446744073709551616=m at *
 show m / 72057594037927936 % 256*72057594037927936+m / 281474976710656 % 256*281474976710656+m / 1099511627776 % 256*1099511627776+m / 4294967296 % 256*4294967296+m / 16777216 % 256*16777216+m / 65536 % 256*65536+m / 256 % 256*256+m / 1 % 256=m
 omega
def QbT (n:Int):Prop:=-9223372036854775808≤n∧n≤9223372036854775807
theorem Qna (n:Int):QbT (w64 n)∧w64 n % 18446744073709551616=n % 18446744073709551616:=by
 rw [QlA];unfold wrap64 QbT;omega
theorem Qoa {n:Int}(h:QbT n):w64 (n % 18446744073709551616)=n:=by
 unfold QbT at h;rw [QlA];unfold wrap64;omega
theorem Qob {bs:List Int}(hl:bs.length=8)(hb:∀e∈bs,QaV e):Qaw (w64 (val bs))=bs:=by
 match bs,hl with
 | [a,b,c,d,e,f,g,h],_=>
  have h8:=QoD (hb a (by simp)) (hb b (by simp)) (hb c (by simp)) (hb d (by simp)) (hb e (by simp)) (hb f (by simp)) (hb g (by simp)) (hb h (by simp))
  have ha:=hb a (by simp);have hb':=hb b (by simp);have hc:=hb c (by simp);have hd:=hb d (by simp);have he:=hb e (by simp);have hf:=hb f (by simp);have hg:=hb g (by simp);have hh:=hb h (by simp)
  have hw:=(Qna (val [a,b,c,d,e,f,g,h])).2
  rw [Int.emod_eq_of_lt (QlE _).1 (QlE _).2,h8]at hw
  show [QbF _ 7,QbF _ 6,QbF _ 5,QbF _ 4,QbF _ 3,QbF _ 2,QbF _ 1,QbF _ 0]=_
  unfold QbF
  rw [h8,hw]
  unfold QaV at *
  clear hw h8 hb
  simp only [List.cons.injEq,and_true]
  refine⟨?_,?_,?_,?_,?_,?_,?_,?_⟩
  ·show _ / 72057594037927936 % 256=_;omega
  ·show _ / 281474976710656 % 256=_;omega
  ·show _ / 1099511627776 % 256=_;omega
  ·show _ / 4294967296 % 256=_;omega
  ·show _ / 16777216 % 256=_;omega
  ·show _ / 65536 % 256=_;omega
  ·show _ / 256 % 256=_;omega
  show _ / 1 % 256=_;omega
abbrev Rdr (α:Type):Type:=List Int→Option (α×List Int)
def OkB (b:List Int):Prop:=(∀e∈b,QaV e)∧b.length≤4000000
theorem OkB.suf {p b:List Int}(h:OkB (p++b)):OkB b:=⟨fun e he=>h.1 e (List.mem_append_right _ he),by have:=h.2;rw [Qbb]at this;omega⟩
def Qai : Rdr Int:=fun b=>bif decide (b.length<8)then none else some (w64 (val (b.take 8)),b.drop 8)
theorem QlF {b r:List Int}{n:Int}(hb:OkB b)(h:Qai b=some (n,r)):b=Qaw n++r∧QbT n:=by
 unfold Qai at h
 by_cases hl:b.length<8
 ·rw [QcJ hl]at h;cases h
 rw [Qc3 hl]at h
 obtain⟨rfl,rfl⟩:=Prod.mk.inj (Option.some.inj h)
 rw [Qob (by simp;omega) (fun e he=>hb.1 e (QcH he)),List.take_append_drop]
 exact⟨rfl,(Qna _).1⟩
theorem QlG {n:Int}(r:List Int)(h:QbT n):Qai (Qaw n++r)=some (n,r):=by
 unfold Qai
 rw [Qc3 (by rw [Qbb,Qdd];omega),cond_false,List.take_left' (Qdd n),List.drop_left' (Qdd n),QnM,Qoa h]
def QcV {α:Type}(d:Rdr α):Nat→Rdr (List α)
 | 0=>fun b=>some ([],b)
 | n+1=>fun b=>(d b).bind fun p=>(QcV d n p.2).bind fun q=>some (p.1::q.1,q.2)
def Qbi {α:Type}(d:Rdr α):Rdr (List α):=fun b=>(Qai b).bind fun p=>bif decide (p.1<0)then none else QcV d p.1.toNat p.2
def Qhf : Rdr QZ:=fun b=>(Qai b).bind fun p=>(Qbi Qai p.2).bind fun q=>(Qbi Qai q.2).bind fun r=>(Qbi Qai r.2).bind fun s=>some (⟨p.1,q.1,r.1,s.1⟩,s.2)
def Qe9 : Rdr (Int×Int):=fun b=>(Qai b).bind fun p=>(Qai p.2).bind fun q=>some ((p.1,q.1),q.2)
def Qi2 : Rdr (QO×Int):=fun b=>(Qai b).bind fun p=>(Qai p.2).bind fun q=>(Qai q.2).bind fun r=>(Qai r.2).bind fun s=>(Qai s.2).bind fun t=>(Qai t.2).bind fun u=>some ((⟨p.1,q.1,r.1,s.1,t.1⟩,u.1),u.2)
def Qhg : Rdr Qk:=fun b=>(Qai b).bind fun p=>(Qhf p.2).bind fun q=>(Qi2 q.2).bind fun r=>some (⟨p.1,q.1,r.1.1,r.1.2⟩,r.2)
def QfB : Rdr QS:=fun b=>(Qai b).bind fun p=>(Qai p.2).bind fun q=>(Qbi (Qbi Qe9) q.2).bind fun r=>(Qbi Qhg r.2).bind fun s=>some (⟨r.1,s.1,p.1,q.1⟩,s.2)
def QfC : Rdr QW:=fun b=>(Qai b).bind fun p=>(Qai p.2).bind fun q=>(Qhf q.2).bind fun r=>(Qai r.2).bind fun s=>some (⟨p.1,q.1,r.1,s.1⟩,s.2)
def Qu {α:Type}(d:Rdr α)(e:α→List Int)(ok:α→Prop):Prop:=(∀b x r,OkB b→d b=some (x,r)→b=e x++r∧ok x)∧∀x r,ok x→d (e x++r)=some (x,r)
theorem Qu.num : Qu Qai Qaw QbT:=⟨fun b x r hb h=>QlF hb h,fun x r h=>QlG r h⟩
theorem Qu.times {α:Type}{d:Rdr α}{e:α→List Int}{ok:α→Prop}(h:Qu d e ok):(∀n b xs r,OkB b→QcV d n b=some (xs,r)→b=xs.flatMap e++r∧xs.length=n∧∀x∈xs,ok x)∧∀xs r,(∀x∈xs,ok x)→QcV d xs.length (xs.flatMap e++r)=some (xs,r):=by
 constructor
 ·intro n
  induction n with
  | zero=>intro b xs r hb h;cases h;exact⟨rfl,rfl,fun x h=>by cases h⟩
  | succ n ih=>
   intro b xs r hb hd
   obtain⟨p,h1,h2⟩:=Qag.1 hd
   obtain⟨q,h3,h4⟩:=Qag.1 h2
   cases h4
   obtain⟨e1,o1⟩:=h.1 b p.1 p.2 hb h1
   have hb2:OkB p.2:=OkB.suf (by rw [←e1];exact hb)
   obtain⟨e2,l2,o2⟩:=ih p.2 q.1 q.2 hb2 h3
   refine⟨?_,by simp [l2],fun x hx=>?_⟩
   ·rw [Qi5,QaX,←e2,←e1]
   rcases QaY.1 hx with rfl | hx
   ·exact o1
   exact o2 x hx
 intro xs
 induction xs with
 | nil=>intro r _;rfl
 | cons x xs ih=>
  intro r ho
  rw [Qi5,QaX]
  show(d (e x++(xs.flatMap e++r))).bind _=_
  rw [h.2 x _ (ho x QaS),QF,ih r fun y hy=>ho y (Qbp _ hy)]
  rfl
def okRow {α:Type}(ok:α→Prop)(l:List α):Prop:=l.length≤maxLen∧∀x∈l,ok x
theorem Qu.row {α:Type}{d:Rdr α}{e:α→List Int}{ok:α→Prop}(h:Qu d e ok):Qu (Qbi d) (Qbh e) (okRow ok):=by
 have ht:=h.times
 constructor
 ·intro b xs r hb hd
  obtain⟨p,h1,h2⟩:=Qag.1 hd
  obtain⟨e1,o1⟩:=QlF (n:=p.1) (r:=p.2) hb h1
  by_cases hn:p.1<0
  ·rw [QcJ hn]at h2;cases h2
  rw [Qc3 hn,cond_false]at h2
  have hb2:OkB p.2:=OkB.suf (by rw [←e1];exact hb)
  obtain⟨e2,l2,o2⟩:=ht.1 _ _ _ _ hb2 h2
  have l3:(xs.length:Int)=p.1:=by omega
  refine⟨?_,?_,o2⟩
  ·unfold Qbh
   rw [l3,QaX,←e2,←e1]
  have:=o1.2
  show xs.length≤maxLen
  have m:maxLen=9223372036854775807:=by decide
  omega
 intro xs r ho
 have m:maxLen=9223372036854775807:=by decide
 have hl:=ho.1
 unfold Qbh Qbi
 rw [QaX,QlG _ ⟨by omega,by omega⟩,QF,Qc3 (by show ¬(xs.length:Int)<0;omega),cond_false]
 show QcV d ((xs.length:Int).toNat) _=_
 rw [show((xs.length:Int).toNat)=xs.length by omega]
 exact ht.2 xs r ho.2
end Go.Proofs
noncomputable section
namespace Go.Proofs
open Go Go.RowKit Go.Vm
theorem Qu.fst {α:Type}{d:Rdr α}{e:α→List Int}{ok:α→Prop}(h:Qu d e ok){b:List Int}{p:α×List Int}(hb:OkB b)(hd:d b=some p):b=e p.1++p.2∧ok p.1∧OkB p.2:=by
 obtain⟨h1,h2⟩:=h.1 b p.1 p.2 hb hd
 exact⟨h1,h2,OkB.suf (by rw [←h1];exact hb)⟩
def Qi3 (o:QZ):Prop:=QbT o.Task∧okRow QbT o.Vars∧okRow QbT o.Ins∧okRow QbT o.Outs
theorem Qu.mode : Qu Qhf QdY Qi3:=by
 constructor
 ·intro b x r hb hd
  obtain⟨p,h1,hd⟩:=Qag.1 hd
  obtain⟨e1,o1,hb⟩:=Qu.num.fst hb h1
  obtain⟨q,h2,hd⟩:=Qag.1 hd
  obtain⟨e2,o2,hb⟩:=Qu.num.row.fst hb h2
  obtain⟨s,h3,hd⟩:=Qag.1 hd
  obtain⟨e3,o3,hb⟩:=Qu.num.row.fst hb h3
  obtain⟨t,h4,hd⟩:=Qag.1 hd
  obtain⟨e4,o4,hb⟩:=Qu.num.row.fst hb h4
  cases hd
  refine⟨?_,o1,o2,o3,o4⟩
  rw [e1,e2,e3,e4];simp [QdY]
 intro x r ⟨o1,o2,o3,o4⟩
 unfold Qhf QdY
 simp only [QaX]
 rw [Qu.num.2 _ _ o1,QF]
 show(Qbi Qai (Qbh Qaw x.Vars++_)).bind _=_
 rw [Qu.num.row.2 _ _ o2,QF]
 show(Qbi Qai (Qbh Qaw x.Ins++_)).bind _=_
 rw [Qu.num.row.2 _ _ o3,QF]
 show(Qbi Qai (Qbh Qaw x.Outs++_)).bind _=_
 rw [Qu.num.row.2 _ _ o4,QF]
def Qnb (p:Int×Int):Prop:=QbT p.1∧QbT p.2
theorem Qu.pair : Qu Qe9 Qfp Qnb:=by
 constructor
 ·intro b x r hb hd
  obtain⟨p,h1,hd⟩:=Qag.1 hd
  obtain⟨e1,o1,hb⟩:=Qu.num.fst hb h1
  obtain⟨q,h2,hd⟩:=Qag.1 hd
  obtain⟨e2,o2,hb⟩:=Qu.num.fst hb h2
  cases hd
  refine⟨?_,o1,o2⟩
  rw [e1,e2];simp [Qfp]
 intro x r ⟨o1,o2⟩
 unfold Qe9 Qfp
 rw [QaX,Qu.num.2 _ _ o1,QF]
 show(Qai (Qaw x.2++r)).bind _=_
 rw [Qu.num.2 _ _ o2,QF]
def Ql2 (p:QO×Int):Prop:=QbT p.1.Most∧QbT p.1.Enough∧QbT p.1.Open∧QbT p.1.Done∧QbT p.1.Failed∧QbT p.2
theorem Qu.batch : Qu Qi2 (fun p=>Qer p.1 p.2) Ql2:=by
 constructor
 ·intro b x r hb hd
  obtain⟨p1,h1,hd⟩:=Qag.1 hd
  obtain⟨e1,o1,hb⟩:=Qu.num.fst hb h1
  obtain⟨p2,h2,hd⟩:=Qag.1 hd
  obtain⟨e2,o2,hb⟩:=Qu.num.fst hb h2
  obtain⟨p3,h3,hd⟩:=Qag.1 hd
  obtain⟨e3,o3,hb⟩:=Qu.num.fst hb h3
  obtain⟨p4,h4,hd⟩:=Qag.1 hd
  obtain⟨e4,o4,hb⟩:=Qu.num.fst hb h4
  obtain⟨p5,h5,hd⟩:=Qag.1 hd
  obtain⟨e5,o5,hb⟩:=Qu.num.fst hb h5
  obtain⟨p6,h6,hd⟩:=Qag.1 hd
  obtain⟨e6,o6,hb⟩:=Qu.num.fst hb h6
  cases hd
  refine⟨?_,o1,o2,o3,o4,o5,o6⟩
  rw [e1,e2,e3,e4,e5,e6];simp [Qer]
 intro x r ⟨o1,o2,o3,o4,o5,o6⟩
 unfold Qi2
 have e:Qer x.1 x.2++r=Qaw x.1.Most++(Qaw x.1.Enough++(Qaw x.1.Open++(Qaw x.1.Done++(Qaw x.1.Failed++(Qaw x.2++r))))):=by simp [Qer]
 rw [e,Qu.num.2 _ _ o1,QF]
 show(Qai (Qaw x.1.Enough++_)).bind _=_
 rw [Qu.num.2 _ _ o2,QF]
 show(Qai (Qaw x.1.Open++_)).bind _=_
 rw [Qu.num.2 _ _ o3,QF]
 show(Qai (Qaw x.1.Done++_)).bind _=_
 rw [Qu.num.2 _ _ o4,QF]
 show(Qai (Qaw x.1.Failed++_)).bind _=_
 rw [Qu.num.2 _ _ o5,QF]
 show(Qai (Qaw x.2++_)).bind _=_
 rw [Qu.num.2 _ _ o6,QF]
def Qnc (x:Qk):Prop:=QbT x.Id∧Qi3 x.Mode∧Ql2 (x.Batch,x.Until)
theorem Qu.item : Qu Qhg QdZ Qnc:=by
 constructor
 ·intro b x r hb hd
  obtain⟨p1,h1,hd⟩:=Qag.1 hd
  obtain⟨e1,o1,hb⟩:=Qu.num.fst hb h1
  obtain⟨p2,h2,hd⟩:=Qag.1 hd
  obtain⟨e2,o2,hb⟩:=Qu.mode.fst hb h2
  obtain⟨p3,h3,hd⟩:=Qag.1 hd
  obtain⟨e3,o3,hb⟩:=Qu.batch.fst hb h3
  cases hd
  refine⟨?_,o1,o2,o3⟩
  rw [e1,e2,e3];simp [QdZ]
 intro x r ⟨o1,o2,o3⟩
 unfold Qhg QdZ
 rw [QaX,QaX,Qu.num.2 _ _ o1,QF]
 show(Qhf (QdY x.Mode++_)).bind _=_
 rw [Qu.mode.2 _ _ o2,QF]
 show(Qi2 (Qer x.Batch x.Until++r)).bind _=_
 rw [Qu.batch.2 (x.Batch,x.Until) _ o3,QF]
def QlH (c:QS):Prop:=QbT c.Next∧QbT c.Now∧okRow (okRow Qnb) c.M∧okRow Qnc c.Items
theorem Qu.case : Qu QfB Qgj QlH:=by
 constructor
 ·intro b x r hb hd
  obtain⟨p1,h1,hd⟩:=Qag.1 hd
  obtain⟨e1,o1,hb⟩:=Qu.num.fst hb h1
  obtain⟨p2,h2,hd⟩:=Qag.1 hd
  obtain⟨e2,o2,hb⟩:=Qu.num.fst hb h2
  obtain⟨p3,h3,hd⟩:=Qag.1 hd
  obtain⟨e3,o3,hb⟩:=Qu.pair.row.row.fst hb h3
  obtain⟨p4,h4,hd⟩:=Qag.1 hd
  obtain⟨e4,o4,hb⟩:=Qu.item.row.fst hb h4
  cases hd
  refine⟨?_,o1,o2,o3,o4⟩
  rw [e1,e2,e3,e4];unfold Qgj
  simp only [QaX];rfl
 intro x r ⟨o1,o2,o3,o4⟩
 unfold QfB Qgj
 simp only [QaX]
 rw [Qu.num.2 _ _ o1,QF]
 show(Qai (Qaw x.Now++_)).bind _=_
 rw [Qu.num.2 _ _ o2,QF]
 show(Qbi (Qbi Qe9) (Qbh (Qbh Qfp) x.M++_)).bind _=_
 rw [Qu.pair.row.row.2 _ _ o3,QF]
 show(Qbi Qhg (Qbh QdZ x.Items++_)).bind _=_
 rw [Qu.item.row.2 _ _ o4,QF]
def QoE (c:QW):Prop:=QbT c.Do∧QbT c.Id∧Qi3 c.Mode∧QbT c.Num
theorem Qu.call : Qu QfC QkB QoE:=by
 constructor
 ·intro b x r hb hd
  obtain⟨p1,h1,hd⟩:=Qag.1 hd
  obtain⟨e1,o1,hb⟩:=Qu.num.fst hb h1
  obtain⟨p2,h2,hd⟩:=Qag.1 hd
  obtain⟨e2,o2,hb⟩:=Qu.num.fst hb h2
  obtain⟨p3,h3,hd⟩:=Qag.1 hd
  obtain⟨e3,o3,hb⟩:=Qu.mode.fst hb h3
  obtain⟨p4,h4,hd⟩:=Qag.1 hd
  obtain⟨e4,o4,hb⟩:=Qu.num.fst hb h4
  cases hd
  refine⟨?_,o1,o2,o3,o4⟩
  rw [e1,e2,e3,e4];simp [QkB]
 intro x r ⟨o1,o2,o3,o4⟩
 unfold QfC QkB
 simp only [QaX]
 rw [Qu.num.2 _ _ o1,QF]
 show(Qai (Qaw x.Id++_)).bind _=_
 rw [Qu.num.2 _ _ o2,QF]
 show(Qhf (QdY x.Mode++_)).bind _=_
 rw [Qu.mode.2 _ _ o3,QF]
 show(Qai (Qaw x.Num++_)).bind _=_
 rw [Qu.num.2 _ _ o4,QF]
def Res {α R:Type}(Rep:R→Option (List Int)→Prop)(o:Option (α×List Int))(y:Option (α×R)):Prop:=
 match o with
 | some p=>∃s,y=some (p.1,s)∧Rep s (some p.2)
 | none=>∃x s,y=some (x,s)∧Rep s none
def Sim {α R:Type}(Rep:R→Option (List Int)→Prop)(f:R→Option (α×R))(d:Rdr α):Prop:=
 (∀s b,OkB b→Rep s (some b)→Res Rep (d b) (f s))∧∀s,Rep s none→∃x s',f s=some (x,s')∧Rep s' none
theorem Sim.seq {α β R:Type}{Rep:R→Option (List Int)→Prop}{f:R→Option (α×R)}{d:Rdr α}{e:α→List Int}{ok:α→Prop}{g:α→R→Option (β×R)}{k:α→Rdr β}(hf:Sim Rep f d)(hd:Qu d e ok)(hg:∀x,Sim Rep (g x) (k x)):
  Sim Rep (fun s=>(f s).bind fun p=>g p.1 p.2) (fun b=>(d b).bind fun p=>k p.1 p.2):=by
 constructor
 ·intro s b hb hr
  have h:=hf.1 s b hb hr
  show Res Rep ((d b).bind fun p=>k p.1 p.2) ((f s).bind fun p=>g p.1 p.2)
  cases hp:d b with
  | none=>
   rw [hp]at h
   obtain⟨x,s',h1,h2⟩:=h
   obtain⟨y,s2,h3,h4⟩:=(hg x).2 s' h2
   exact⟨y,s2,by show(f s).bind _=_;rw [h1];exact h3,h4⟩
  | some p=>
   rw [hp]at h
   obtain⟨s',h1,h2⟩:=h
   have:=(hg p.1).1 s' p.2 (hd.fst hb hp).2.2 h2
   show Res Rep (k p.1 p.2) ((f s).bind _)
   rw [h1];exact this
 intro s hr
 obtain⟨x,s',h1,h2⟩:=hf.2 s hr
 obtain⟨y,s2,h3,h4⟩:=(hg x).2 s' h2
 exact⟨y,s2,by show(f s).bind _=_;rw [h1];exact h3,h4⟩
theorem Sim.ret {α R:Type}{Rep:R→Option (List Int)→Prop}(x:α):Sim Rep (fun s=>some (x,s)) (fun b=>some (x,b)):=⟨fun s b _ h=>⟨s,rfl,h⟩,fun s h=>⟨x,s,rfl,h⟩⟩
theorem QkM {α R ρ:Type}{Rep:R→Option (List Int)→Prop}{f:R→Option (α×R)}{d:Rdr α}{e:α→List Int}{ok:α→Prop}{bad:R→Bool}{N:Int}{body:Int×R×List α→Option ((Int×R×List α)⊕ρ)}{out:List α→R→ρ}
  (hf:Sim Rep f d) (hd:Qu d e ok) (he:∀x,1≤(e x).length) (hgood:∀s b,Rep s (some b)→bad s=false) (hbad:∀s,Rep s none→bad s=true) (hN:N≤9223372036854775807)
  (hin:∀(k:Int) s acc,k<N→bad s=false→body (k,s,acc)=(f s).bind fun p=>(chk (decide (acc.length+1≤4294967296))).bind fun _=>some (.inl (w64 (k+1),p.2,acc++[p.1])))
  (hout:∀(k:Int) s acc,N≤k∨bad s=true→body (k,s,acc)=some (.inr (out acc s))):
  ∀(m:Nat) (k:Int) s b acc,0≤k→k+m=N→OkB b→Rep s (some b)→acc.length+b.length≤4000000→
   match QcV d m b with
   | some p=>∃s',QH body (k,s,acc)=some (out (acc++p.1) s')∧Rep s' (some p.2)
   | none=>∃a s',QH body (k,s,acc)=some (out a s')∧Rep s' none:=by
 intro m
 induction m with
 | zero=>
  intro k s b acc hk0 hk hb hr hl
  refine⟨s,?_,hr⟩
  rw [QaW,hout k s acc (.inl (by omega))]
  simp
 | succ m ih=>
  intro k s b acc hk0 hk hb hr hl
  have hstep:=hin k s acc (by omega) (hgood s b hr)
  have h:=hf.1 s b hb hr
  have hw:w64 (k+1)=k+1:=Qi1 (by omega)
  rw [QoT (by omega),hw]at hstep
  show match (d b).bind fun p=>(QcV d m p.2).bind fun q=>some (p.1::q.1,q.2)with | some p=>_ | none=>_
  cases hp:d b with
  | none=>
   rw [hp]at h
   obtain⟨x,s',h1,h2⟩:=h
   refine⟨acc++[x],s',?_,h2⟩
   rw [QaW,hstep,h1]
   show QH body (k+1,s',acc++[x])=_
   rw [QaW,hout _ _ _ (.inr (hbad s' h2))];rfl
  | some p=>
   rw [hp]at h
   obtain⟨s',h1,h2⟩:=h
   obtain⟨e1,_,hb2⟩:=hd.fst hb hp
   have hx:=he p.1
   have hlen:b.length=(e p.1).length+p.2.length:=by rw [e1,Qbb]
   have h3:=ih (k+1) s' p.2 (acc++[p.1]) (by omega) (by omega) hb2 h2 (by rw [Qbb,Qc0,List.length_nil];omega)
   have hl:QH body (k,s,acc)=QH body (k+1,s',acc++[p.1]):=by
    rw [QaW,hstep,h1];rfl
   rw [QF]
   cases hq:QcV d m p.2 with
   | none=>
    rw [hq]at h3
    obtain⟨a,s2,h4,h5⟩:=h3
    exact⟨a,s2,hl.trans h4,h5⟩
   | some q=>
    rw [hq]at h3
    obtain⟨s2,h4,h5⟩:=h3
    refine⟨s2,hl.trans ?_,h5⟩
    rw [h4]
    simp
theorem QlX {α:Type}{d:Rdr α}{e:α→List Int}{ok:α→Prop}(hd:Qu d e ok)(he:∀x,1≤(e x).length){m:Nat}{b:List Int}(hb:OkB b)(h:b.length<m):QcV d m b=none:=by
 cases hp:QcV d m b with
 | none=>rfl
 | some p=>
  obtain⟨e1,l1,_⟩:=hd.times.1 m b p.1 p.2 hb hp
  have:=QnK (E:=e) (L:=p.1) fun x _=>he x
  have h2:b.length=(p.1.flatMap e).length+p.2.length:=by rw [e1,Qbb]
  omega
end Go.Proofs
noncomputable section
namespace Go.Proofs
open Go Go.RowKit Go.Vm
theorem Sim.congr {α R:Type}{Rep:R→Option (List Int)→Prop}{f f':R→Option (α×R)}{d:Rdr α}(h:Sim Rep f d)(hf:∀s,f' s=f s):Sim Rep f' d:=by
 rw [show f'=f from funext hf];exact h
theorem QlI {body:Int×Int→Option ((Int×Int)⊕Int)}{bs:List Int}(hl:bs.length=8)
  (hs:∀(i:Nat) x n,bs[i]? = some x→0≤n∧n<18446744073709551616→body (n,(i:Int))=some (.inl (Qe8 n x,w64 ((i:Int)+1)))) (hf:∀n,body (n,8)=some (.inr n)):QH body (0,0)=some (val bs):=by
 have h:=Qn4 (body:=body) 8 (fun i s=>s=(val (bs.take i),(i:Int))) (fun r=>r=val bs) (fun i s hi h=>by
  subst h
  left
  have hx:bs[i]? = some bs[i]:=Q1 (by omega)
  refine⟨_,hs i _ _ hx (QlE _),?_⟩
  rw [Qm9 hx,QlB hi (by decide)]) (fun s h=>by
  subst h
  refine⟨_,hf _,?_⟩
  rw [Qft (by omega)]) (0,0) rfl
 obtain⟨r,hr,rfl⟩:=h
 exact hr
def Qes (s:Qc):Option (List Int)→Prop
 | some b=>s=⟨b,false⟩
 | none=>s.bad=true
theorem Qa0 : Sim Qes Qr Qai:=by
 constructor
 ·intro s b hb hr
  obtain rfl:s=⟨b,false⟩:=hr
  unfold Qr QcO Qai
  by_cases hl:b.length<8
  ·rw [QcJ hl]
   refine⟨0,⟨b,true⟩,?_,rfl⟩
   show Qau ⟨b,decide ((b.length:Int)<8)⟩=_
   rw [QcJ (show(b.length:Int)<8 by omega)];rfl
  rw [Qc3 hl,cond_false]
  refine⟨⟨b.drop 8,false⟩,?_,rfl⟩
  show Qau ⟨b,decide ((b.length:Int)<8)⟩=_
  rw [Qc3 (show ¬(b.length:Int)<8 by omega)]
  unfold Qau
  rw [cond_false,QmE (by simp;omega),QF,QlI (bs:=b.take 8) (by simp;omega) (fun i x n hx hn=>by
   show QaM ⟨b,false⟩ n (i:Int)=_
   unfold QaM
   show(bif decide ((i:Int)<((b.take 8).length:Int))then(idx (b.take 8) (i:Int)).bind _ else _)=_
   rw [ltN hx,QhB hx,cond_true,QF,QoC hn (hb.1 _ (QcH (QV hx)))]) (fun n=>by
   show QaM ⟨b,false⟩ n 8=_
   unfold QaM
   show(bif decide ((8:Int)<((b.take 8).length:Int))then _ else _)=_
   rw [Qc3 (by rw [QgU];omega)];rfl),QF]
  unfold QcP
  rw [QmE (by simp;omega),QF]
  show some (w64 (val (b.take 8)),(⟨(b.drop 8).take (b.length-8),false⟩:Qc))=_
  rw [Qft (l:=b.drop 8) (by simp)]
 intro s hr
 refine⟨0,⟨s.b,true⟩,?_,rfl⟩
 unfold Qr QcO Qau
 rw [show s.bad=true from hr];rfl
theorem Qir {α ρ:Type}{f:Qc→Option (α×Qc)}{d:Rdr α}{e:α→List Int}{ok:α→Prop}{body:Int×Qc→Int×Qc×List α→Option ((Int×Qc×List α)⊕ρ)}{out:List α→Qc→ρ}{back:ρ→List α×Qc}{F:Qc→Option (List α×Qc)}
  (hf:Sim Qes f d) (hd:Qu d e ok) (he:∀x,1≤(e x).length) (hback:∀a s,back (out a s)=(a,s))
  (hF:∀s,F s=(Qr s).bind fun p=>(some (bif p.2.bad then⟨p.2.b,true⟩else⟨p.2.b,decide (p.1<0)⟩:Qc)).bind fun l=>(QH (body p) (0,l,[])).bind fun q=>some (back q))
  (hin:∀(p:Int×Qc) (k:Int) s acc,k<p.1→s.bad=false→body p (k,s,acc)=(f s).bind fun p=>(chk (decide (acc.length+1≤4294967296))).bind fun _=>some (.inl (w64 (k+1),p.2,acc++[p.1])))
  (hout:∀(p:Int×Qc) (k:Int) s acc,p.1≤k∨s.bad=true→body p (k,s,acc)=some (.inr (out acc s))):Sim Qes F (Qbi d):=by
 constructor
 ·intro s b hb hr
  rw [hF s]
  have h:=Qa0.1 s b hb hr
  unfold Qbi
  cases hp:Qai b with
  | none=>
   rw [hp]at h
   obtain⟨x,s',h1,h2⟩:=h
   have h2:s'.bad=true:=h2
   refine⟨[],⟨s'.b,true⟩,?_,rfl⟩
   rw [h1,QF]
   show(QH (body (x,s')) (0,(bif s'.bad then(⟨s'.b,true⟩:Qc)else⟨s'.b,decide (x<0)⟩),[])).bind _=_
   rw [h2,cond_true,QaW,hout _ _ _ _ (.inr rfl)]
   show some (back (out [] _))=_
   rw [hback]
  | some p=>
   rw [hp]at h
   obtain⟨s',h1,h2⟩:=h
   obtain rfl:s'=⟨p.2,false⟩:=h2
   obtain⟨e1,o1,hb2⟩:=Qu.num.fst hb hp
   rw [h1,QF,QF,QF]
   show Res Qes _ ((QH (body (p.1,⟨p.2,false⟩)) (0,(⟨p.2,decide (p.1<0)⟩:Qc),[])).bind _)
   by_cases hn:p.1<0
   ·rw [QcJ hn]
    refine⟨[],⟨p.2,true⟩,?_,rfl⟩
    rw [QaW,hout _ _ _ _ (.inr rfl)]
    show some (back (out [] _))=_
    rw [hback]
   rw [Qc3 hn,cond_false]
   have h3:=QkM (Rep:=Qes) (bad:=fun s=>s.bad) (out:=out) hf hd he (fun s b h=>by obtain rfl:s=⟨b,false⟩:=h;rfl) (fun s h=>h) o1.2 (hin (p.1,⟨p.2,false⟩)) (hout (p.1,⟨p.2,false⟩)) p.1.toNat 0 ⟨p.2,false⟩ p.2 [] (by omega) (by omega) hb2 rfl (by have:=hb2.2;simpa using this)
   cases hq:QcV d p.1.toNat p.2 with
   | none=>
    rw [hq]at h3
    obtain⟨a,s2,h4,h5⟩:=h3
    exact⟨a,s2,by rw [h4,QF,hback],h5⟩
   | some q=>
    rw [hq]at h3
    obtain⟨s2,h4,h5⟩:=h3
    exact⟨s2,by rw [h4,QF,hback];rfl,h5⟩
 intro s hr
 rw [hF s]
 obtain⟨x,s',h1,h2⟩:=Qa0.2 s hr
 have h2:s'.bad=true:=h2
 refine⟨[],⟨s'.b,true⟩,?_,rfl⟩
 rw [h1,QF]
 show(QH (body (x,s')) (0,(bif s'.bad then(⟨s'.b,true⟩:Qc)else⟨s'.b,decide (x<0)⟩),[])).bind _=_
 rw [h2,cond_true,QaW,hout _ _ _ _ (.inr rfl)]
 show some (back (out [] _))=_
 rw [hback]
theorem Qhh {k n:Int}{b:Bool}(h:k<n)(hb:b=false):(decide (k<n)&&!b)=true:=by rw [QcJ h,hb];rfl
theorem QfM {k n:Int}{b:Bool}(h:n≤k∨b=true):(decide (k<n)&&!b)=false:=by
 rcases h with h | rfl
 ·rw [Qc3 (by omega)];rfl
 simp
theorem QlJ (n:Int):1≤(Qaw n).length:=by rw [Qdd];omega
theorem Qkd {α:Type}(E:α→List Int)(l:List α):1≤(Qbh E l).length:=by rw [Qgh];omega
theorem Qjr (p:Int×Int):1≤(Qfp p).length:=by rw [Qjp];omega
theorem Qjs (x:Qk):1≤(QdZ x).length:=by rw [Qjq];omega
theorem QjH : Sim Qes Qbz (Qbi Qai):=
 Qir (f:=Qr) (out:=fun a s=>(a,s)) (back:=fun q=>q) (body:=fun x4 st=>QaI x4 st.1 st.2.1 st.2.2) Qa0 Qu.num QlJ (fun _ _=>rfl) (fun s=>by
  unfold Qbz
  congr 1;funext p
  unfold Qfa
  cases p.2.bad<;>rfl) (fun p k s acc hk hb=>by
  show QaI p k s acc=_
  unfold QaI
  rw [Qhh hk hb];rfl) (fun p k s acc h=>by
  show QaI p k s acc=_
  unfold QaI
  rw [QfM h];rfl)
theorem QlK : Sim Qes QbA Qhf:=by
 have h:=Sim.seq Qa0 Qu.num fun t=>Sim.seq QjH Qu.num.row fun v=>Sim.seq QjH Qu.num.row fun i=>Sim.seq QjH Qu.num.row fun o=>Sim.ret (QZ.mk t v i o)
 refine h.congr fun s=>?_
 unfold QbA Qcy
 simp only [Qfv,QF]
theorem QnN : Sim Qes QbV Qe9:=by
 have h:=Sim.seq Qa0 Qu.num fun t=>Sim.seq Qa0 Qu.num fun v=>Sim.ret (t,v)
 refine h.congr fun s=>?_
 unfold QbV QcB
 simp only [Qfv,QF]
theorem Qoc : Sim Qes Qcw (Qbi Qe9):=by
 have h:Sim Qes QbK (Qbi Qe9):=Qir (f:=QbV) (out:=fun a s=>(a,s)) (back:=fun q=>q) (body:=fun x4 st=>Qav x4 st.1 st.2.1 st.2.2) QnN Qu.pair Qjr (fun _ _=>rfl) (fun s=>by
  unfold QbK
  congr 1;funext p
  unfold Qeu
  cases p.2.bad<;>rfl) (fun p k s acc hk hb=>by
  show Qav p k s acc=_
  unfold Qav
  rw [Qhh hk hb];rfl) (fun p k s acc h=>by
  show Qav p k s acc=_
  unfold Qav
  rw [QfM h];rfl)
 refine h.congr fun s=>?_
 unfold Qcw
 cases QbK s<;>rfl
theorem QnO : Sim Qes Qbg (Qbi (Qbi Qe9)):=
 Qir (f:=Qcw) (out:=fun a s=>(a,s)) (back:=fun q=>q) (body:=fun x4 st=>Qac x4 st.1 st.2.1 st.2.2) Qoc Qu.pair.row (Qkd _) (fun _ _=>rfl) (fun s=>by
  unfold Qbg
  congr 1;funext p
  unfold Qd2
  cases p.2.bad<;>rfl) (fun p k s acc hk hb=>by
  show Qac p k s acc=_
  unfold Qac
  rw [Qhh hk hb];rfl) (fun p k s acc h=>by
  show Qac p k s acc=_
  unfold Qac
  rw [QfM h];rfl)
theorem QnP : Sim Qes Qb9 Qhg:=by
 have hb:=Sim.seq Qa0 Qu.num fun a=>Sim.seq Qa0 Qu.num fun b=>Sim.seq Qa0 Qu.num fun c=>Sim.seq Qa0 Qu.num fun d=>Sim.seq Qa0 Qu.num fun e=>Sim.seq Qa0 Qu.num fun u=>Sim.ret ((QO.mk a b c d e,u):QO×Int)
 have h:=Sim.seq Qa0 Qu.num fun t=>Sim.seq QlK Qu.mode fun v=>Sim.seq hb Qu.batch fun o=>Sim.ret (Qk.mk t v o.1 o.2)
 refine h.congr fun s=>?_
 unfold Qb9 QcC
 simp only [Qfv,QF]
theorem Qnd : Sim Qes Qa6 (Qbi Qhg):=
 Qir (f:=Qb9) (out:=fun a s=>(a,s)) (back:=fun q=>q) (body:=fun x4 st=>Q6 x4 st.1 st.2.1 st.2.2) QnP Qu.item Qjs (fun _ _=>rfl) (fun s=>by
  unfold Qa6
  congr 1;funext p
  unfold QdP
  cases p.2.bad<;>rfl) (fun p k s acc hk hb=>by
  show Q6 p k s acc=_
  unfold Q6
  rw [Qhh hk hb];rfl) (fun p k s acc h=>by
  show Q6 p k s acc=_
  unfold Q6
  rw [QfM h];rfl)
def QcW {α:Type}(d:Rdr α)(z:α)(b:List Int):Int×α:=
 match d b with
 | some (x,[])=>(0,x)
 | _=>(4,z)
theorem QkR {b:List Int}(hb:OkB b):Qa7 b=some (QcW QfB ⟨[],[],0,0⟩ b):=by
 have h:=Sim.seq Qa0 Qu.num fun t=>Sim.seq Qa0 Qu.num fun v=>Sim.seq QnO Qu.pair.row.row fun m=>Sim.seq Qnd Qu.item.row fun i=>Sim.ret (QS.mk m i t v)
 have h1:Res Qes (QfB b) _:=h.1 ⟨b,false⟩ b hb rfl
 have e:Qa7 b=(((Qr ⟨b,false⟩).bind fun p=>(Qr p.2).bind fun q=>(Qbg q.2).bind fun r=>(Qa6 r.2).bind fun s=>some (QS.mk r.1 s.1 p.1 q.1,s.2))).bind fun y=>(Qak y.2 y.1).bind some:=by
  unfold Qa7 QcA
  simp only [Qfv,QF]
 rw [e]
 unfold QcW
 cases hp:QfB b with
 | none=>
  rw [hp]at h1
  obtain⟨x,s,h2,h3⟩:=h1
  refine(congrArg (fun o=>Option.bind o _) h2).trans ?_
  show(Qak s x).bind some=_
  unfold Qak
  rw [show s.bad=true from h3];rfl
 | some p=>
  rw [hp]at h1
  obtain⟨s,h2,h3⟩:=h1
  obtain rfl:s=⟨p.2,false⟩:=h3
  refine(congrArg (fun o=>Option.bind o _) h2).trans ?_
  show(Qak ⟨p.2,false⟩ p.1).bind some=_
  unfold Qak
  obtain⟨x,r⟩:=p
  cases r with
  | nil=>rfl
  | cons a r=>
   rw [QcJ (show(0:Int)<((a::r).length:Int) by simp)];rfl
theorem QkS {b:List Int}(hb:OkB b):QaQ b=some (QcW QfC ⟨0,0,⟨0,[],[],[]⟩,0⟩ b):=by
 have h:=Sim.seq Qa0 Qu.num fun t=>Sim.seq Qa0 Qu.num fun v=>Sim.seq QlK Qu.mode fun m=>Sim.seq Qa0 Qu.num fun i=>Sim.ret (QW.mk t v m i)
 have h1:Res Qes (QfC b) _:=h.1 ⟨b,false⟩ b hb rfl
 have e:QaQ b=(((Qr ⟨b,false⟩).bind fun p=>(Qr p.2).bind fun q=>(QbA q.2).bind fun r=>(Qr r.2).bind fun s=>some (QW.mk p.1 q.1 r.1 s.1,s.2))).bind fun y=>(Qaj y.2 y.1).bind some:=by
  unfold QaQ Qdp Qcz
  simp only [Qfv,QF]
 rw [e]
 unfold QcW
 cases hp:QfC b with
 | none=>
  rw [hp]at h1
  obtain⟨x,s,h2,h3⟩:=h1
  refine(congrArg (fun o=>Option.bind o _) h2).trans ?_
  show(Qaj s x).bind some=_
  unfold Qaj
  rw [show s.bad=true from h3];rfl
 | some p=>
  rw [hp]at h1
  obtain⟨s,h2,h3⟩:=h1
  obtain rfl:s=⟨p.2,false⟩:=h3
  refine(congrArg (fun o=>Option.bind o _) h2).trans ?_
  show(Qaj ⟨p.2,false⟩ p.1).bind some=_
  unfold Qaj
  obtain⟨x,r⟩:=p
  cases r with
  | nil=>rfl
  | cons a r=>
   rw [QcJ (show(0:Int)<((a::r).length:Int) by simp)];rfl
end Go.Proofs
noncomputable section
namespace Go.Proofs
open Go Go.RowKit Go.Vm
def Qd8 (B:List Int)(s:Qe):Option (List Int)→Prop
 | some b=>∃k:Nat,s=⟨B,(k:Int),false⟩∧k≤B.length∧b=B.drop k
 | none=>s.bad=true
theorem QaR {B:List Int}(hB:OkB B):Sim (Qd8 B) Qn Qai:=by
 constructor
 ·intro s b hb hr
  obtain⟨k,rfl,hk,rfl⟩:=hr
  unfold Qn Qai
  have hB2:=hB.2
  have e8:w64 ((k:Int)+8)=((k+8:Nat):Int):=by rw [Qi1 (by omega)];omega
  show Res _ _ (bif (false||decide ((B.length:Int)<w64 ((k:Int)+8)))then _ else _)
  rw [e8,QhU,Qf1]
  by_cases hl:B.length-k<8
  ·rw [QcJ hl,QcJ (show(B.length:Int)<((k+8:Nat):Int) by omega)]
   exact⟨0,_,rfl,rfl⟩
  rw [Qc3 hl,cond_false,Qc3 (show ¬(B.length:Int)<((k+8:Nat):Int) by omega),cond_false]
  refine⟨⟨B,((k+8:Nat):Int),false⟩,?_,k+8,rfl,by omega,by simp⟩
  rw [QlI (bs:=(B.drop k).take 8) (by simp;omega) (fun i x n hx hn=>by
   show QaU ⟨B,(k:Int),false⟩ n (i:Int)=_
   have hi:i<8:=by have:=(QE.1 hx).1;simp at this;omega
   have hx2:B[k+i]? = some x:=by rw [List.getElem?_take_of_lt hi,Qbo]at hx;exact hx
   have hx3:=hb.1 x (QcH (QV hx))
   unfold QaV at hx3
   unfold QaU
   have e9:w64 ((k:Int)+(i:Int))=((k+i:Nat):Int):=by rw [Qi1 (by omega)];omega
   show(bif decide ((i:Int)<8)then(idx B (w64 ((k:Int)+(i:Int)))).bind _ else _)=_
   rw [e9,QhB hx2,QcJ (show(i:Int)<8 by omega),cond_true,QF]
   have e10:IntKind.u64.wrap (IntKind.u64.wrap (n*256)+IntKind.u64.wrap x)=Qe8 n x:=by
    show(n*256 % 18446744073709551616+x % 18446744073709551616) % 18446744073709551616=(n*256+x) % 18446744073709551616
    omega
   rw [e10]) (fun n=>rfl),QF]
  unfold QbC
  show some (_,(⟨B,w64 ((k:Int)+8),false⟩:Qe))=_
  rw [e8]
 intro s hr
 refine⟨0,⟨s.b,s.at_,true⟩,?_,rfl⟩
 unfold Qn
 rw [show s.bad=true from hr];rfl
theorem QnQ {B:List Int}(hB:OkB B){s:Qe}(h:s.bad=true):∃s',QA s=some (0,s')∧s'.bad=true:=by
 unfold QA
 have e:Qn s=some (0,⟨s.b,s.at_,true⟩):=by
  unfold Qn
  rw [h];rfl
 rw [e,QF]
 cases (decide ((0:Int)<0)||decide (w64 (((⟨s.b,s.at_,true⟩:Qe).b.length:Int)-(⟨s.b,s.at_,true⟩:Qe).at_)<0))<;>exact⟨_,rfl,rfl⟩
theorem Qhi {B:List Int}(hB:OkB B){α ρ:Type}{f:Qe→Option (α×Qe)}{d:Rdr α}{e:α→List Int}{ok:α→Prop}{body:Int×Qe→Int×Qe×List α→Option ((Int×Qe×List α)⊕ρ)}{out:List α→Qe→ρ}{back:ρ→List α×Qe}
  (hf:Sim (Qd8 B) f d) (hd:Qu d e ok) (he:∀x,1≤(e x).length) (hback:∀a s,back (out a s)=(a,s))
  (hin:∀(p:Int×Qe) (k:Int) s acc,k<p.1→s.bad=false→body p (k,s,acc)=(f s).bind fun p=>(chk (decide (acc.length+1≤4294967296))).bind fun _=>some (.inl (w64 (k+1),p.2,acc++[p.1])))
  (hout:∀(p:Int×Qe) (k:Int) s acc,p.1≤k∨s.bad=true→body p (k,s,acc)=some (.inr (out acc s))):
  Sim (Qd8 B) (fun s=>(QA s).bind fun p=>(QH (body p) (0,p.2,[])).bind fun q=>some (back q)) (Qbi d):=by
 have bad:∀s:Qe,s.bad=true→∃x s',((QA s).bind fun p=>(QH (body p) (0,p.2,[])).bind fun q=>some (back q))=some (x,s')∧Qd8 B s' none:=fun s hs=>by
  obtain⟨s',h1,h2⟩:=QnQ hB hs
  refine⟨[],s',?_,h2⟩
  rw [h1,QF,QaW,hout _ _ _ _ (.inr h2)]
  show some (back (out [] _))=_
  rw [hback]
 constructor
 ·intro s b hb hr
  have h:=(QaR hB).1 s b hb hr
  obtain⟨k,rfl,hk,rfl⟩:=hr
  show Res _ _ ((QA ⟨B,(k:Int),false⟩).bind _)
  unfold Qbi QA
  cases hp:Qai (B.drop k)with
  | none=>
   rw [hp]at h
   obtain⟨x,s',h1,h2⟩:=h
   have h2:s'.bad=true:=h2
   rw [h1,QF]
   have key:∀c:Bool,∃p:Int×Qe,(bif c then some ((0:Int),(⟨s'.b,s'.at_,true⟩:Qe))else some (x,s'))=some p∧p.2.bad=true:=fun c=>by
    cases c
    ·exact⟨_,rfl,h2⟩
    exact⟨_,rfl,rfl⟩
   obtain⟨p,h3,h4⟩:=key (decide (x<0)||decide (w64 ((s'.b.length:Int)-s'.at_)<x))
   refine⟨[],p.2,?_,h4⟩
   refine(congrArg (fun o=>Option.bind o _) h3).trans ?_
   show(QH (body p) (0,p.2,[])).bind _=_
   rw [QaW,hout _ _ _ _ (.inr h4)]
   show some (back (out [] _))=_
   rw [hback]
  | some p=>
   rw [hp]at h
   obtain⟨s',h1,k2,rfl,hk2,hp2⟩:=h
   obtain⟨e1,o1,hb2⟩:=Qu.num.fst hb hp
   rw [h1,QF]
   have hB2:=hB.2
   have ew:w64 ((B.length:Int)-(k2:Int))=((B.length-k2:Nat):Int):=by rw [Qi1 (by omega)];omega
   show Res _ (bif decide (p.1<0)then none else QcV d p.1.toNat p.2) ((bif (decide (p.1<0)||decide (w64 ((B.length:Int)-(k2:Int))<p.1))then some ((0:Int),(⟨B,(k2:Int),true⟩:Qe))else some (p.1,⟨B,(k2:Int),false⟩)).bind _)
   rw [ew]
   by_cases hn:p.1<0
   ·rw [QcJ hn]
    refine⟨[],⟨B,(k2:Int),true⟩,?_,rfl⟩
    show(QH (body (0,⟨B,(k2:Int),true⟩)) (0,⟨B,(k2:Int),true⟩,[])).bind _=_
    rw [QaW,hout _ _ _ _ (.inr rfl)]
    show some (back (out [] _))=_
    rw [hback]
   rw [Qc3 hn,cond_false,Qf1]
   by_cases hm:((B.length-k2:Nat):Int)<p.1
   ·rw [QcJ hm,QlX hd he hb2 (by rw [hp2,QhU];omega)]
    refine⟨[],⟨B,(k2:Int),true⟩,?_,rfl⟩
    show(QH (body (0,⟨B,(k2:Int),true⟩)) (0,⟨B,(k2:Int),true⟩,[])).bind _=_
    rw [QaW,hout _ _ _ _ (.inr rfl)]
    show some (back (out [] _))=_
    rw [hback]
   rw [Qc3 hm,cond_false,QF]
   have h3:=QkM (Rep:=Qd8 B) (bad:=fun s=>s.bad) (out:=out) hf hd he (fun s b h=>by obtain⟨_,rfl,_⟩:=h;rfl) (fun s h=>h) o1.2 (hin (p.1,⟨B,(k2:Int),false⟩)) (hout (p.1,⟨B,(k2:Int),false⟩)) p.1.toNat 0 ⟨B,(k2:Int),false⟩ p.2 [] (by omega) (by omega) hb2 ⟨k2,rfl,hk2,hp2⟩ (by have:=hb2.2;simpa using this)
   show Res _ _ ((QH (body (p.1,⟨B,(k2:Int),false⟩)) (0,⟨B,(k2:Int),false⟩,[])).bind _)
   cases hq:QcV d p.1.toNat p.2 with
   | none=>
    rw [hq]at h3
    obtain⟨a,s2,h4,h5⟩:=h3
    exact⟨a,s2,by rw [h4,QF,hback],h5⟩
   | some q=>
    rw [hq]at h3
    obtain⟨s2,h4,h5⟩:=h3
    exact⟨s2,by rw [h4,QF,hback];rfl,h5⟩
 exact fun s hr=>bad s hr
theorem Qi4 {B:List Int}(hB:OkB B):Sim (Qd8 B) QaE (Qbi Qai):=by
 have h:=Qhi hB (f:=Qn) (out:=fun a s=>(a,s)) (back:=fun q=>q) (body:=fun x4 st=>QX x4 st.1 st.2.1 st.2.2) (QaR hB) Qu.num QlJ (fun _ _=>rfl) (fun p k s acc hk hb=>by
  show QX p k s acc=_
  unfold QX
  rw [Qhh hk hb];rfl) (fun p k s acc h=>by
  show QX p k s acc=_
  unfold QX
  rw [QfM h];rfl)
 exact h.congr fun s=>rfl
theorem QkN {B:List Int}(hB:OkB B):Sim (Qd8 B) QaF Qhf:=by
 have h:=Sim.seq (QaR hB) Qu.num fun t=>Sim.seq (Qi4 hB) Qu.num.row fun v=>Sim.seq (Qi4 hB) Qu.num.row fun i=>Sim.seq (Qi4 hB) Qu.num.row fun o=>Sim.ret (QZ.mk t v i o)
 exact h.congr fun s=>rfl
def QoF (s:Qe):Option (List (Int×Int)×Qe):=(QA s).bind fun p=>(QH (fun st=>Q7 p st.1 st.2.1 st.2.2) (0,p.2,[])).bind fun q=>some (q.2,q.1)
theorem QnR {B:List Int}(hB:OkB B):Sim (Qd8 B) QoF (Qbi Qe9):=by
 have hp:=Sim.seq (QaR hB) Qu.num fun t=>Sim.seq (QaR hB) Qu.num fun v=>Sim.ret (t,v)
 have hp2:Sim (Qd8 B) _ Qe9:=hp
 exact Qhi hB (out:=fun a s=>(s,a)) (back:=fun q=>(q.2,q.1)) (body:=fun x4 st=>Q7 x4 st.1 st.2.1 st.2.2) hp2 Qu.pair Qjr (fun _ _=>rfl) (fun p k s acc hk hb=>by
  show Q7 p k s acc=_
  unfold Q7
  rw [Qhh hk hb]
  simp only [cond_true,Qfv,QF]
  rfl) (fun p k s acc h=>by
  show Q7 p k s acc=_
  unfold Q7
  rw [QfM h];rfl)
def QmJ (s:Qe):Option (List (List (Int×Int))×Qe):=(QA s).bind fun p=>(QH (fun st=>Q8 p st.1 st.2.1 st.2.2) (0,p.2,[])).bind fun q=>some (q.2,q.1)
theorem Qne {B:List Int}(hB:OkB B):Sim (Qd8 B) QmJ (Qbi (Qbi Qe9)):=
 Qhi hB (out:=fun a s=>(s,a)) (back:=fun q=>(q.2,q.1)) (body:=fun x4 st=>Q8 x4 st.1 st.2.1 st.2.2) (QnR hB) Qu.pair.row (Qkd _) (fun _ _=>rfl) (fun p k s acc hk hb=>by
  show Q8 p k s acc=_
  unfold Q8 QoF
  rw [Qhh hk hb]
  simp only [cond_true,Qfv,QF]
  rfl) (fun p k s acc h=>by
  show Q8 p k s acc=_
  unfold Q8
  rw [QfM h];rfl)
def QlL (s:Qe):Option (List Qk×Qe):=(QA s).bind fun p=>(QH (fun st=>Q9 p st.1 st.2.1 st.2.2) (0,p.2,[])).bind fun q=>some (q.2,q.1)
theorem QmK {B:List Int}(hB:OkB B):Sim (Qd8 B) QlL (Qbi Qhg):=by
 have hb:=Sim.seq (QaR hB) Qu.num fun a=>Sim.seq (QaR hB) Qu.num fun b=>Sim.seq (QaR hB) Qu.num fun c=>Sim.seq (QaR hB) Qu.num fun d=>Sim.seq (QaR hB) Qu.num fun e=>Sim.seq (QaR hB) Qu.num fun u=>Sim.ret ((QO.mk a b c d e,u):QO×Int)
 have hb2:Sim (Qd8 B) _ Qi2:=hb
 have h:=Sim.seq (QaR hB) Qu.num fun t=>Sim.seq (QkN hB) Qu.mode fun v=>Sim.seq hb2 Qu.batch fun o=>Sim.ret (Qk.mk t v o.1 o.2)
 have h2:Sim (Qd8 B) _ Qhg:=h
 exact Qhi hB (out:=fun a s=>(s,a)) (back:=fun q=>(q.2,q.1)) (body:=fun x4 st=>Q9 x4 st.1 st.2.1 st.2.2) h2 Qu.item Qjs (fun _ _=>rfl) (fun p k s acc hk hb=>by
  show Q9 p k s acc=_
  unfold Q9
  rw [Qhh hk hb]
  simp only [cond_true,Qfv,QF]
  rfl) (fun p k s acc h=>by
  show Q9 p k s acc=_
  unfold Q9
  rw [QfM h];rfl)
theorem Ql3 {B:List Int}(hB:OkB B){s:Qe}{b:List Int}(h:Qd8 B s (some b)):(s.bad||(s.at_ != (B.length:Int)))=!b.isEmpty:=by
 obtain⟨k,rfl,hk,rfl⟩:=h
 show(false||((k:Int) != (B.length:Int)))=_
 by_cases e:k=B.length
 ·subst e;simp
 have:(B.drop k).isEmpty=false:=by
  rw [Bool.eq_false_iff];intro hh
  rw [List.isEmpty_iff,List.drop_eq_nil_iff]at hh
  omega
 rw [this];simp;omega
theorem QjI {b:List Int}(hb:OkB b):QbL b=some (QcW QfB ⟨[],[],0,0⟩ b):=by
 have h:=Sim.seq (QaR hb) Qu.num fun t=>Sim.seq (QaR hb) Qu.num fun v=>Sim.seq (Qne hb) Qu.pair.row.row fun m=>Sim.seq (QmK hb) Qu.item.row fun i=>Sim.ret (QS.mk m i t v)
 have h1:Res (Qd8 b) (QfB b) _:=h.1 ⟨b,0,false⟩ b hb ⟨0,rfl,by omega,rfl⟩
 have e:QbL b=(((Qn ⟨b,0,false⟩).bind fun p=>(Qn p.2).bind fun q=>(QmJ q.2).bind fun r=>(QlL r.2).bind fun s=>some (QS.mk r.1 s.1 p.1 q.1,s.2))).bind fun y=>(bif (y.2.bad||(y.2.at_ != (b.length:Int)))then some (4,(QS.mk [] [] 0 0))else some (0,y.1)):=by
  unfold QbL QmJ QlL
  simp only [Qfv,QF]
  rfl
 rw [e]
 unfold QcW
 cases hp:QfB b with
 | none=>
  rw [hp]at h1
  obtain⟨x,s,h2,h3⟩:=h1
  refine(congrArg (fun o=>Option.bind o _) h2).trans ?_
  show(bif (s.bad||(s.at_ != (b.length:Int)))then _ else _)=_
  rw [show s.bad=true from h3];rfl
 | some p=>
  rw [hp]at h1
  obtain⟨s,h2,h3⟩:=h1
  refine(congrArg (fun o=>Option.bind o _) h2).trans ?_
  show(bif (s.bad||(s.at_ != (b.length:Int)))then _ else some (0,p.1))=_
  rw [Ql3 hb h3]
  obtain⟨x,r⟩:=p
  cases r<;>rfl
theorem QjJ {b:List Int}(hb:OkB b):QbM b=some (QcW QfC ⟨0,0,⟨0,[],[],[]⟩,0⟩ b):=by
 have h:=Sim.seq (QaR hb) Qu.num fun t=>Sim.seq (QaR hb) Qu.num fun v=>Sim.seq (QkN hb) Qu.mode fun m=>Sim.seq (QaR hb) Qu.num fun i=>Sim.ret (QW.mk t v m i)
 have h1:Res (Qd8 b) (QfC b) _:=h.1 ⟨b,0,false⟩ b hb ⟨0,rfl,by omega,rfl⟩
 have e:QbM b=(((Qn ⟨b,0,false⟩).bind fun p=>(Qn p.2).bind fun q=>(QaF q.2).bind fun r=>(Qn r.2).bind fun s=>some (QW.mk p.1 q.1 r.1 s.1,s.2))).bind fun y=>(bif (y.2.bad||(y.2.at_ != (b.length:Int)))then some (4,(QW.mk 0 0 (QZ.mk 0 [] [] []) 0))else some (0,y.1)):=by
  unfold QbM
  simp only [Qfv,QF]
 rw [e]
 unfold QcW
 cases hp:QfC b with
 | none=>
  rw [hp]at h1
  obtain⟨x,s,h2,h3⟩:=h1
  refine(congrArg (fun o=>Option.bind o _) h2).trans ?_
  show(bif (s.bad||(s.at_ != (b.length:Int)))then _ else _)=_
  rw [show s.bad=true from h3];rfl
 | some p=>
  rw [hp]at h1
  obtain⟨s,h2,h3⟩:=h1
  refine(congrArg (fun o=>Option.bind o _) h2).trans ?_
  show(bif (s.bad||(s.at_ != (b.length:Int)))then _ else some (0,p.1))=_
  rw [Ql3 hb h3]
  obtain⟨x,r⟩:=p
  cases r<;>rfl
end Go.Proofs
noncomputable section
namespace Go.Proofs
open Go Go.RowKit Go.Vm
theorem Qi3.len {o:QZ}(h:Qi3 o):lenM o:=⟨h.2.1.1,h.2.2.1.1,h.2.2.2.1⟩
theorem QlH.len {c:QS}(h:QlH c):lenC c:=⟨h.2.2.1.1,fun x hx=>(h.2.2.1.2 x hx).1,h.2.2.2.1,fun x hx=>(h.2.2.2.2 x hx).2.1.len⟩
theorem Qjt {α:Type}(d:Rdr α)(z:α){e:α→List Int}{ok:α→Prop}(h:Qu d e ok){b:List Int}(hb:OkB b):(∃x,QcW d z b=(0,x)∧b=e x∧ok x)∨QcW d z b=(4,z):=by
 unfold QcW
 cases hp:d b with
 | none=>exact .inr rfl
 | some p=>
  obtain⟨x,r⟩:=p
  cases r with
  | nil=>
   obtain⟨h1,h2,_⟩:=h.fst hb hp
   exact .inl ⟨x,rfl,by simpa using h1,h2⟩
  | cons a r=>exact .inr rfl
theorem QkT {k:QW}(h:lenM k.Mode):Qdc k k=some true:=by
 unfold Qdc Qfh Qcg
 rw [Ql0 h]
 simp
theorem QlM {c:QS}(h:lenC c):QdV c c=some true:=by rw [QmG h];simp
theorem QmL {b:List Int}(hb:∀e∈b,QaV e):QbN b=some true:=by
 unfold QbN
 rw [QnH,QF]
 by_cases hl:b.length≤3000
 ·rw [Qc3 (show ¬(3000:Int)<(b.length:Int) by omega),cond_false]
  have ob:OkB b:=⟨hb,by omega⟩
  rw [QkR ob,QF,QjI ob,QF,QkS ob,QF,QjJ ob,QF]
  unfold QeD
  have l1:lenC (QcW QfB ⟨[],[],0,0⟩ b).2:=by
   rcases Qjt QfB ⟨[],[],0,0⟩ Qu.case ob with⟨x,h,_,hx⟩|h
   ·rw [h];exact hx.len
   rw [h]
   have n1:∀x∈([]:List (List (Int×Int))),x.length≤maxLen:=fun x h=>by cases h
   have n2:∀x∈([]:List Qk),lenM x.Mode:=fun x h=>by cases h
   exact⟨Nat.zero_le _,n1,Nat.zero_le _,n2⟩
  have l2:lenM (QcW QfC ⟨0,0,⟨0,[],[],[]⟩,0⟩ b).2.Mode:=by
   rcases Qjt QfC ⟨0,0,⟨0,[],[],[]⟩,0⟩ Qu.call ob with⟨x,h,_,hx⟩|h
   ·rw [h];exact hx.2.2.1.len
   rw [h];exact⟨Nat.zero_le _,Nat.zero_le _,Nat.zero_le _⟩
  rw [cond_true,QlM l1,QF,cond_true,beq_self_eq_true,cond_true,QkT l2,QF,cond_true,beq_self_eq_true]
  rfl
 rw [QcJ (show(3000:Int)<(b.length:Int) by omega)];rfl
def QfT (l:List Int):Prop:=∀e∈l,QaV e
theorem QfT.app {a b:List Int}(ha:QfT a)(hb:QfT b):QfT (a++b):=fun e he=>(Qf3.1 he).elim (ha e) (hb e)
theorem QfT.flat {α:Type}{E:α→List Int}{l:List α}(h:∀x,QfT (E x)):QfT (l.flatMap E):=fun e he=>by
 obtain⟨x,_,hx⟩:=List.mem_flatMap.1 he
 exact h x e hx
theorem QfT.row {α:Type}{E:α→List Int}{l:List α}(h:∀x,QfT (E x)):QfT (Qbh E l):=QfT.app (QmI _) (QfT.flat h)
end Go.Proofs
