/- A part of the proof; what it holds is told at each theorem. -/
import Derived.Test.YtidpjdkldadlpaaGreatDoorM2XPlA
import Derived.Test.YtidpjdkldadlpaaGreatDoorM2V3
import Derived.Test.YtidpjdkldadlpaaGreatDoorM2T3
import Derived.KernelRfl
set_option linter.unusedVariables false
set_option linter.unusedSimpArgs false
set_option linter.unusedSectionVars false
set_option linter.deprecated false
namespace Go.Vm
open Go Go.RowKit
def Qg {α:Type}(o:Option α)(Q:α→Prop):Prop:=∃r,o=some r∧Q r
section
variable {α β σ ρ:Type}
theorem Qg.ok {a:α}{Q:α→Prop}(h:Q a):Qg (some a) Q:=⟨a,rfl,h⟩
theorem Qg.okT {a:α}:Qg (some a) fun _=>True:=⟨a,rfl,trivial⟩
theorem Qg.bind {o:Option α}{f:α→Option β}{P:α→Prop}{Q:β→Prop}(h:Qg o P)(k:∀x,P x→Qg (f x) Q):Qg (o.bind f) Q:=by
 obtain⟨x,rfl,hx⟩:=h
 exact k x hx
theorem Qg.bif {c:Bool}{a b:Option α}{Q:α→Prop}(h1:c=true→Qg a Q)(h2:c=false→Qg b Q):Qg (bif c then a else b) Q:=by
 cases c with
 | true=>exact h1 rfl
 | false=>exact h2 rfl
theorem Qg.chk {c:Bool}(h:c=true):Qg (chk c) fun _=>True:=⟨(),QAu h,trivial⟩
theorem Qg.idx {l:List α}{j:Int}(h0:0≤j)(h1:j<l.length):Qg (idx l j) fun x=>x∈l:=by
 rw [Que h0 h1]
 exact⟨_,rfl,Qao _⟩
theorem Qg.get {l:List α}{j:Nat}(h1:j<l.length):Qg (l[j]?) fun x=>x∈l:=by
 rw [Qw h1]
 exact⟨_,rfl,Qao _⟩
theorem Qg.sidx {s:ByteArray}{j:Int}(h0:0≤j)(h1:j<s.size):Qg (sidx s j) fun _=>True:=by
 unfold Vm.sidx
 rw [if_pos h0]
 have:j.toNat<s.size:=by omega
 rw [getElem?_pos s j.toNat this]
 exact⟨_,rfl,trivial⟩
theorem Qg.mono {o:Option α}{P Q:α→Prop}(h:Qg o P)(k:∀x,P x→Q x):Qg o Q:=let ⟨r,h1,h2⟩:=h;⟨r,h1,k r h2⟩
theorem Qg.tot {o:Option α}{P:α→Prop}(h:Qg o P):∃r,o=some r:=let ⟨r,h1,_⟩:=h;⟨r,h1⟩
theorem Qg.self {o:Option α}{P:α→Prop}(h:Qg o P):Qg o fun x=>o=some x∧P x:=let ⟨r,h1,h2⟩:=h;⟨r,h1,h1,h2⟩
theorem Qg.up {body:σ→Option (σ⊕ρ)}(n:Nat)(ix:σ→Int)(J:σ→Prop){Q:ρ→Prop}{s0:σ}(h0:ix s0=0)(hJ:J s0)
  (step:∀(i:Nat) s,ix s=(i:Int)→i≤n→J s→Qg (body s) fun o=>(∀s',o=.inl s'→i<n∧ix s'=((i+1:Nat):Int)∧J s')∧∀r,o=.inr r→Q r):Qg (QK body s0) Q:=by
 have key:∀k i s,i+k=n→ix s=(i:Int)→J s→∃r,QK body s=some r∧Q r:=by
  intro k
  induction k with
  | zero=>
   intro i s hk hi hj
   obtain⟨o,ho,h1,h2⟩:=step i s hi (by omega) hj
   rw [Qel,ho]
   cases o with
   | inl s'=>have:=(h1 s' rfl).1;omega
   | inr r=>exact⟨r,rfl,h2 r rfl⟩
  | succ k ih=>
   intro i s hk hi hj
   obtain⟨o,ho,h1,h2⟩:=step i s hi (by omega) hj
   rw [Qel,ho]
   cases o with
   | inl s'=>
    obtain⟨_,h3,h4⟩:=h1 s' rfl
    exact ih (i+1) s' (by omega) h3 h4
   | inr r=>exact⟨r,rfl,h2 r rfl⟩
 exact key n 0 s0 (by omega) h0 hJ
theorem QC {s:σ}{n i:Nat}{ix:σ→Int}{J:σ→Prop}{Q:ρ→Prop}(h:i<n∧ix s=((i+1:Nat):Int)∧J s):
  (∀s',(Sum.inl s:σ⊕ρ)=.inl s'→i<n∧ix s'=((i+1:Nat):Int)∧J s')∧∀r,(Sum.inl s:σ⊕ρ)=.inr r→Q r:=
 ⟨fun s' e=>(by cases e;exact h),fun r e=>(by cases e)⟩
theorem Qm {r:ρ}{n i:Nat}{ix:σ→Int}{J:σ→Prop}{Q:ρ→Prop}(h:Q r):
  (∀s',(Sum.inr r:σ⊕ρ)=.inl s'→i<n∧ix s'=((i+1:Nat):Int)∧J s')∧∀r',(Sum.inr r:σ⊕ρ)=.inr r'→Q r':=
 ⟨fun s' e=>(by cases e),fun r' e=>(by cases e;exact h)⟩
end
def QR {α:Type}(ok:α→Prop)(l:List α):Prop:=l.length≤maxLen∧∀x∈l,ok x
theorem QR.drop {α:Type}{ok:α→Prop}{l:List α}(h:QR ok l)(k:Nat):QR ok (l.drop k):=⟨by have:=h.1;rw [Qnx];omega,fun x hx=>h.2 x (Qr9 hx)⟩
theorem QR.take {α:Type}{ok:α→Prop}{l:List α}(h:QR ok l)(k:Nat):QR ok (l.take k):=⟨by have:=h.1;rw [Qgg];omega,fun x hx=>h.2 x (Qie hx)⟩
theorem QR.nil {α:Type}{ok:α→Prop}:QR ok ([]:List α):=⟨by simp,fun x h=>by cases h⟩
theorem QR.app {α:Type}{ok:α→Prop}{l m:List α}(h:QR ok l)(hm:QR ok m)(hs:l.length+m.length≤maxLen):QR ok (l++m):=⟨by simpa using hs,fun x hx=>by rcases Qcx.1 hx with h1 | h1;exact h.2 x h1;exact hm.2 x h1⟩
def Qgq (s:ByteArray):Prop:=s.size≤maxLen
theorem QBy {s:ByteArray}(h:Qif s (⟨#[]⟩:ByteArray)=false):0<s.size:=by
 apply Nat.pos_of_ne_zero
 intro h0
 have:s=⟨#[]⟩:=by
  obtain⟨a⟩:=s
  have:a=#[]:=Array.eq_empty_of_size_eq_zero h0
  rw [this]
 subst this
 simp [Qif]at h
theorem Ql4 {a b:Int}:0≤min2 a b↔0≤a∧0≤b:=by unfold min2;split<;>omega
theorem Ql5 {a b n:Int}:max2 a b<n↔a<n∧b<n:=by unfold max2;split<;>omega
theorem QkV {a b n:Int}:max2 a b≤n↔a≤n∧b≤n:=by unfold max2;split<;>omega
abbrev T0:=@Qg.bind
abbrev T1:=@Qg.bif
abbrev T2:=@Qg.ok
abbrev T3:=@Qg.okT
abbrev T4:=@Qg.idx
abbrev T5:=@Qg.chk
abbrev T6:=@Qg.mono
end Go.Vm
namespace Go.Vm
open Go Go.RowKit
def Asc (l:List (Int×Int)):Prop:=l.Pairwise fun p q=>p.1<q.1
def QnL (l:List (Int×Int)):Prop:=l.Pairwise fun p q=>p.1≠q.1
theorem Asc.nd {l:List (Int×Int)}(h:Asc l):QnL l:=h.imp fun h=>by omega
theorem Qgf {p:Int×Int}{l:List (Int×Int)}:Asc (p::l)↔(∀q∈l,p.1<q.1)∧Asc l:=Quz
theorem QzI {p:Int×Int}{l:List (Int×Int)}:QnL (p::l)↔(∀q∈l,p.1≠q.1)∧QnL l:=Quz
theorem QwL {l:List (Int×Int)}{k:Int}:QG l k=none↔∀p∈l,p.1≠k:=by
 induction l with
 | nil=>simp [QG]
 | cons p l ih=>
  obtain⟨a,x⟩:=p
  rw [Qaw]
  by_cases h:a=k
  ·simp [h]
  simp [h,ih]
theorem Qd1 {l:List (Int×Int)}(hn:QnL l){k v:Int}:QG l k=some v↔(k,v)∈l:=by
 induction l with
 | nil=>simp [QG]
 | cons p l ih=>
  obtain⟨a,x⟩:=p
  obtain⟨h1,h2⟩:=QzI.1 hn
  rw [Qaw]
  by_cases h:a=k
  ·subst h
   rw [if_pos rfl]
   constructor
   ·intro e;cases e;simp
   intro e
   rcases Qa1.1 e with e | e
   ·cases e;rfl
   exact absurd rfl (h1 (a,v) e)
  rw [if_neg h,ih h2]
  constructor
  ·intro e;exact QaC _ e
  intro e
  rcases Qa1.1 e with e | e
  ·cases e;exact absurd rfl h
  exact e
theorem QBz {l m:List (Int×Int)}(hl:QnL l)(h:l.Perm m)(k:Int):QG l k=QG m k:=by
 have hm:QnL m:=(h.pairwise_iff (fun hab=>Ne.symm hab)).1 hl
 apply Option.ext
 intro v
 rw [Qd1 hl,Qd1 hm]
 exact h.mem_iff
theorem QzJ {l m:List (Int×Int)}(hl:Asc l)(hm:Asc m)(h:∀k,QG l k=QG m k):l=m:=by
 induction l generalizing m with
 | nil=>
  cases m with
  | nil=>rfl
  | cons p m=>have:=h p.1;rw [Qaw (κ:=Int)]at this;simp [QG]at this
 | cons p l ih=>
  obtain⟨a,x⟩:=p
  cases m with
  | nil=>have:=h a;rw [Qaw]at this;simp [QG]at this
  | cons q m=>
   obtain⟨b,y⟩:=q
   obtain⟨l1,l2⟩:=Qgf.1 hl
   obtain⟨m1,m2⟩:=Qgf.1 hm
   have hab:a=b:=by
    rcases Int.lt_trichotomy a b with hc | hc | hc
    ·have e:=h a
     rw [Qaw,Qaw,if_pos rfl,if_neg (by omega),QwL.2 (fun p hp=>by have:=m1 p hp;simp at this;omega)]at e
     cases e
    ·exact hc
    have e:=h b
    rw [Qaw,Qaw,if_neg (by omega),if_pos rfl,QwL.2 (fun p hp=>by have:=l1 p hp;simp at this;omega)]at e
    cases e
   subst hab
   have e:=h a
   rw [Qaw,Qaw,if_pos rfl,if_pos rfl]at e
   cases e
   rw [ih l2 m2 fun k=>?_]
   by_cases hk:a=k
   ·subst hk
    rw [QwL.2 (fun p hp=>by have:=l1 p hp;simp at this;omega),QwL.2 (fun p hp=>by have:=m1 p hp;simp at this;omega)]
   have:=h k
   rwa [Qaw,Qaw,if_neg hk,if_neg hk]at this
theorem QEk {l:List (Int×Int)}{k v:Int}{p:Int×Int}(h:p∈QhF l k v):∃q∈l,q.1=p.1:=by
 induction l with
 | nil=>cases h
 | cons q l ih=>
  obtain⟨a,x⟩:=q
  rw [QhF]at h
  split at h
  ·rename_i e
   rcases Qa1.1 h with rfl | h
   ·exact⟨_,QaD,e⟩
   exact⟨p,QaC _ h,rfl⟩
  rcases Qa1.1 h with rfl | h
  ·exact⟨_,QaD,rfl⟩
  obtain⟨q,h1,h2⟩:=ih h
  exact⟨q,QaC _ h1,h2⟩
theorem QCF {lt:Int→Int→Bool}{l:List (Int×Int)}{k v:Int}{p:Int×Int}(h:p∈Qg4 lt l k v):p=(k,v)∨p∈l:=by
 induction l with
 | nil=>simp [Qg4]at h;exact .inl h
 | cons q l ih=>
  obtain⟨a,x⟩:=q
  rw [Qg4]at h
  split at h
  ·rcases Qa1.1 h with h | h
   ·exact .inl h
   exact .inr h
  rcases Qa1.1 h with h | h
  ·exact .inr (h▸QaD)
  rcases ih h with h | h
  ·exact .inl h
  exact .inr (QaC _ h)
theorem Qy8 {l:List (Int×Int)}(h:Asc l)(k v:Int):Asc (Qan ltI l k v):=by
 unfold Qan
 split
 ·rename_i x hx
  clear hx
  induction l with
  | nil=>exact h
  | cons p l ih=>
   obtain⟨a,x⟩:=p
   obtain⟨h1,h2⟩:=Qgf.1 h
   rw [QhF]
   split
   ·rename_i e;subst e;exact Qgf.2 ⟨h1,h2⟩
   refine Qgf.2 ⟨fun q hq=>?_,ih h2⟩
   obtain⟨q',hq',e⟩:=QEk hq
   rw [←e];exact h1 _ hq'
 rename_i hn
 induction l with
 | nil=>exact Qqi _ _
 | cons p l ih=>
  obtain⟨a,x⟩:=p
  obtain⟨h1,h2⟩:=Qgf.1 h
  rw [Qaw]at hn
  split at hn
  ·cases hn
  rename_i hne
  rw [Qg4]
  split
  ·rename_i e
   have e:k<a:=Q8 e
   refine Qgf.2 ⟨fun q hq=>?_,h⟩
   rcases Qa1.1 hq with rfl | hq
   ·exact e
   have:=h1 q hq;simp at this ⊢;omega
  rename_i e
  have e:¬k<a:=fun c=>e (Qb5 c)
  refine Qgf.2 ⟨fun q hq=>?_,ih h2 hn⟩
  rcases QCF hq with rfl | hq
  ·show a<k;omega
  exact h1 q hq
theorem QCG {l:List (Int×Int)}{k v:Int}:(QhF l k v).length=l.length:=by
 induction l with
 | nil=>rfl
 | cons p l ih=>
  obtain⟨a,x⟩:=p
  rw [QhF]
  split
  ·rfl
  simp [ih]
theorem QCH {lt:Int→Int→Bool}{l:List (Int×Int)}{k v:Int}:(Qg4 lt l k v).length=l.length+1:=by
 induction l with
 | nil=>rfl
 | cons p l ih=>
  obtain⟨a,x⟩:=p
  rw [Qg4]
  split
  ·rfl
  simp [ih]
theorem QCI {l:List (Int×Int)}{k v:Int}:(Qan ltI l k v).length≤l.length+1:=by
 unfold Qan
 split
 ·rw [QCG];omega
 rw [QCH];exact QbX _
theorem QCJ {l:List (Int×Int)}{k v:Int}(h:Asc (l++[(k,v)])):Qan ltI l k v=l++[(k,v)]:=by
 have hl:Asc l:=(List.pairwise_append.1 h).1
 refine QzJ (Qy8 hl k v) h fun j=>?_
 rw [Qke]
 have hk:∀p∈l,p.1<k:=fun p hp=>(List.pairwise_append.1 h).2.2 p hp (k,v) (by simp)
 clear h
 induction l with
 | nil=>
  show(if j=k then some v else none)=(if k=j then some v else none)
  by_cases c:j=k
  ·rw [if_pos c,if_pos c.symm]
  rw [if_neg c,if_neg (fun e=>c e.symm)]
 | cons p l ih=>
  obtain⟨a,x⟩:=p
  have h1:=hk (a,x) QaD
  simp only at h1
  rw [List.cons_append,Qaw,Qaw]
  rw [←ih (Qgf.1 hl).2 fun p hp=>hk p (QaC _ hp)]
  by_cases c:j=k
  ·subst c;rw [if_pos rfl,if_pos rfl,if_neg (by omega)]
  rw [if_neg c,if_neg c]
section
variable {ρ:Type}{g:Int→Int→Int}{stop:Int→Bool}{q:Option ρ}{body:List (Int×Int)→Int×Int→Option (List (Int×Int)⊕ρ)}
def QQ (s:List (Int×Int))(k:Int):Int:=(QG s k).getD 0
def QuI (g:Int→Int→Int)(s l:List (Int×Int))(k:Int):Option Int:=match QG l k with
 | some v=>some (g (QQ s k) v)
 | none=>QG s k
theorem QsO (hb:∀s p,body s p=bif stop (g (QQ s p.1) p.2)then q.map Sum.inr else some (.inl (Qan ltI s p.1 (g (QQ s p.1) p.2)))):
  ∀l s,Asc s→QnL l→((∃p∈l,stop (g (QQ s p.1) p.2)=true)∧Qdf body s l=q.map Sum.inr)∨
   ((∀p∈l,stop (g (QQ s p.1) p.2)=false)∧∃s',Qdf body s l=some (.inl s')∧Asc s'∧s'.length≤s.length+l.length∧∀k,QG s' k=QuI g s l k):=by
 intro l
 induction l with
 | nil=>intro s hs _;exact .inr ⟨fun p h=>(by cases h),s,rfl,hs,by simp,fun k=>rfl⟩
 | cons p l ih=>
  intro s hs hl
  obtain⟨h1,h2⟩:=QzI.1 hl
  simp only [Qdf,hb]
  cases hst:stop (g (QQ s p.1) p.2)with
  | true=>exact .inl ⟨⟨p,QaD,hst⟩,by cases q<;>rfl⟩
  | false=>
   simp only [cond_false,Qn,Sum.elim_inl]
   have hc:∀r∈l,QQ (Qan ltI s p.1 (g (QQ s p.1) p.2)) r.1=QQ s r.1:=fun r hr=>by
    unfold QQ
    rw [Qke,if_neg (fun e=>h1 r hr e.symm)]
   rcases ih _ (Qy8 hs p.1 (g (QQ s p.1) p.2)) h2 with⟨⟨r,hr,h3⟩,h4⟩|⟨h3,s',h4,h5,h6,h7⟩
   ·exact .inl ⟨⟨r,QaC _ hr,by rw [hc r hr]at h3;exact h3⟩,h4⟩
   refine .inr ⟨fun r hr=>?_,s',h4,h5,?_,fun k=>?_⟩
   ·rcases Qa1.1 hr with rfl | hr
    ·exact hst
    have:=h3 r hr;rwa [hc r hr]at this
   ·have:=QCI (l:=s) (k:=p.1) (v:=g (QQ s p.1) p.2)
    simp;omega
   rw [h7]
   obtain⟨a,x⟩:=p
   unfold QuI
   rw [Qaw]
   by_cases e:a=k
   ·subst e
    rw [if_pos rfl,QwL.2 (fun r hr=>Ne.symm (h1 r hr)),Qke,if_pos rfl]
   rw [if_neg e]
   simp only [QQ,Qke,if_neg (fun e'=>e (Eq.symm e'):¬k=a)]
theorem QwM (hb:∀s p,body s p=bif stop (g (QQ s p.1) p.2)then q.map Sum.inr else some (.inl (Qan ltI s p.1 (g (QQ s p.1) p.2)))){l s:List (Int×Int)}(hs:Asc s)(hl:QnL l):
  ((∃p∈l,stop (g (QQ s p.1) p.2)=true)∧∀r,q=some r→QiN body s l=some (.inr r))∨
   ((∀p∈l,stop (g (QQ s p.1) p.2)=false)∧∃s',QiN body s l=some (.inl s')∧Asc s'∧s'.length≤s.length+l.length∧∀k,QG s' k=QuI g s l k):=by
 have key:∀l':List (Int×Int),l'.Perm l→Qdf body s l'=Qdf body s l:=fun l' hp=>by
  have hl':QnL l':=(hp.pairwise_iff (fun hab=>Ne.symm hab)).2 hl
  rcases QsO hb l' s hs hl' with⟨⟨p,h1,h2⟩,h3⟩|⟨h1,s1,h3,h4,_,h5⟩
  ·rcases QsO hb l s hs hl with⟨_,g3⟩|⟨g1,_⟩
   ·rw [h3,g3]
   rw [g1 p (hp.mem_iff.1 h1)]at h2;cases h2
  rcases QsO hb l s hs hl with⟨⟨p,g1,g2⟩,g3⟩|⟨g1,s2,g3,g4,_,g5⟩
  ·rw [h1 p (hp.mem_iff.2 g1)]at g2;cases g2
  rw [h3,g3,QzJ h4 g4 fun k=>?_]
  rw [h5,g5]
  unfold QuI
  rw [QBz hl' hp k]
 rcases QsO hb l s hs hl with⟨h1,h3⟩|⟨h1,s1,h3,h4,h6,h5⟩
 ·exact .inl ⟨h1,fun r hr=>Qkq.2 ⟨key,by rw [h3,hr];rfl⟩⟩
 exact .inr ⟨h1,s1,Qkq.2 ⟨key,h3⟩,h4,h6,h5⟩
end
theorem QAw {ρ:Type}{bad:Int×Int→Bool}{q:ρ}{body:Unit→Int×Int→Option (Unit⊕ρ)}(hb:∀p,body () p=some (bif bad p then .inr q else .inl ()))(l:List (Int×Int)):
  QiN body () l=some (bif l.any bad then .inr q else .inl ()):=by
 have h1:∀l:List (Int×Int),Qdf body () l=some (bif l.any bad then .inr q else .inl ()):=by
  intro l
  induction l with
  | nil=>rfl
  | cons p l ih=>
   simp only [Qdf,hb,Qn,List.any_cons]
   cases bad p with
   | true=>rfl
   | false=>exact ih
 refine Qkq.2 ⟨fun l' hp=>?_,h1 l⟩
 rw [h1,h1]
 congr 2
 rw [Bool.eq_iff_iff,Qkm,Qkm]
 exact⟨fun ⟨x,a,b⟩=>⟨x,hp.mem_iff.1 a,b⟩,fun ⟨x,a,b⟩=>⟨x,hp.mem_iff.2 a,b⟩⟩
def rtF (a:Int):List (Int×Int)→Bool
 | []=>true
 | p::r=>!(decide (p.1≤a)||(decide (p.2<1)||decide (1048576<p.2)))&&rtF p.1 r
theorem QDw {a:Int}{l:List (Int×Int)}:rtF a l=true↔Asc l∧∀p∈l,a<p.1∧1≤p.2∧p.2≤1048576:=by
 induction l generalizing a with
 | nil=>simp [rtF,Asc]
 | cons p l ih=>
  rw [rtF,QI,ih,Qgf]
  simp only [Qfs,QcU,QW]
  constructor
  ·rintro ⟨⟨h1,h2,h3⟩,h4,h5⟩
   refine⟨⟨fun q hq=>(h5 q hq).1,h4⟩,fun q hq=>?_⟩
   rcases Qa1.1 hq with rfl | hq
   ·omega
   have:=h5 q hq;omega
  rintro ⟨⟨h1,h2⟩,h3⟩
  have:=h3 p QaD
  exact⟨by omega,h2,fun q hq=>⟨h1 q hq,(h3 q (QaC _ hq)).2⟩⟩
def Rt (l:List (Int×Int)):Prop:=Asc l∧∀p∈l,0≤p.1∧1≤p.2∧p.2≤1048576
theorem QdS {l:List (Int×Int)}:rtF (-1) l=true↔Rt l:=by
 rw [QDw]
 constructor
 ·rintro ⟨h1,h2⟩;exact⟨h1,fun p hp=>by have:=h2 p hp;omega⟩
 rintro ⟨h1,h2⟩;exact⟨h1,fun p hp=>by have:=h2 p hp;omega⟩
theorem Rt.nil : Rt []:=⟨List.Pairwise.nil,fun p h=>by cases h⟩
theorem Qi2 {l:List (Int×Int)}(h:QnL l){p:Int×Int}(hp:p∈l):QQ l p.1=p.2:=by
 unfold QQ;rw [(Qd1 h).2 (show(p.1,p.2)∈l from hp)];rfl
theorem Rt.cnt {l:List (Int×Int)}(h:Rt l)(k:Int):0≤QQ l k∧QQ l k≤1048576:=by
 unfold QQ
 cases e:QG l k with
 | none=>simp
 | some v=>have:=h.2 _ ((Qd1 h.1.nd).1 e);simp at this ⊢;omega
theorem Rt.cnt_pos {l:List (Int×Int)}(h:Rt l){k:Int}(hk:0<QQ l k):0≤k:=by
 unfold QQ at hk
 cases e:QG l k with
 | none=>rw [e]at hk;simp at hk
 | some v=>exact(h.2 _ ((Qd1 h.1.nd).1 e)).1
def Qkf (l:List (Int×Int)):List (Int×Int):=l.filter fun p=>decide (0<p.2)
theorem Qy9 {l:List (Int×Int)}(h:Asc l)(k:Int):QQ (Qkf l) k=if 0<QQ l k then QQ l k else 0:=by
 have hp:Asc (Qkf l):=h.sublist List.filter_sublist
 by_cases c:0<QQ l k
 ·rw [if_pos c]
  unfold QQ at c
  cases e:QG l k with
  | none=>rw [e]at c;simp at c
  | some v=>
   rw [e]at c
   have h1:(k,v)∈Qkf l:=Qnz.2 ⟨(Qd1 h.nd).1 e,by simpa using c⟩
   unfold QQ
   rw [(Qd1 hp.nd).2 h1,e]
 rw [if_neg c]
 unfold QQ
 cases e:QG (Qkf l) k with
 | none=>rfl
 | some v=>
  have h1:=Qnz.1 ((Qd1 hp.nd).1 e)
  have h2:=(Qd1 h.nd).2 h1.1
  unfold QQ at c
  rw [h2]at c
  simp at h1 c;omega
theorem QBA {l:List (Int×Int)}(h:Asc l)(hb:∀k,0<QQ l k→0≤k∧QQ l k≤1048576):Rt (Qkf l):=by
 refine⟨h.sublist List.filter_sublist,fun p hp=>?_⟩
 obtain⟨h1,h2⟩:=Qnz.1 hp
 have h3:=Qi2 h.nd h1
 have h4:0<p.2:=Q8 h2
 have:=hb p.1 (by omega)
 omega
theorem QBB {l:List (Int×Int)}(h:Asc l):QeA (l.map Prod.fst)=l.map Prod.fst:=by
 rw [QsA]
 refine List.mergeSort_of_pairwise ?_
 rw [QoI]
 exact h.imp fun h=>by simp;omega
end Go.Vm
namespace Go.Vm
open Go Go.RowKit
def upL : Int→Nat→List Int
 | _,0=>[]
 | x,k+1=>x::upL (x+1) k
def binds : List Int→List (List Int)
 | []=>[[]]
 | s::r=>(0::upL 1 (s-1).toNat).flatMap fun x=>(binds r).map (x::·)
def QdT : List Int→List Int→List (List Int)
 | s::r,x::d=>(QdT r d).map (x::·)++(upL (x+1) (s-(x+1)).toNat).flatMap fun y=>(binds r).map (y::·)
 | _,_=>[]
def Qkg (l:List Int):List Int:=List.replicate l.length 0
theorem Qvv (l:List Int):binds l=Qkg l::QdT l (Qkg l):=by
 induction l with
 | nil=>rfl
 | cons s r ih=>
  show(0::upL 1 (s-1).toNat).flatMap (fun x=>(binds r).map (x::·))=(0::Qkg r)::((QdT r (Qkg r)).map (0::·)++(upL (0+1) (s-(0+1)).toNat).flatMap fun y=>(binds r).map (y::·))
  rw [Qlu,Int.zero_add]
  have:(binds r).map (fun x=>(0:Int)::x)=(0::Qkg r)::(QdT r (Qkg r)).map (0::·):=by rw [ih];rfl
  rw [this];rfl
def QoX : List Int→List Int→Option (List Int)
 | s::r,x::d=>match QoX r d with
  | some e=>some (x::e)
  | none=>if x+1<s then some ((x+1)::Qkg r)else none
 | _,_=>none
theorem QAx : ∀l d:List Int,QdT l d=match QoX l d with
  | none=>[]
  | some e=>e::QdT l e:=by
 intro l
 induction l with
 | nil=>intro d;rfl
 | cons s r ih=>
  intro d
  cases d with
  | nil=>rfl
  | cons x d=>
   have h:=ih d
   rw [QoX]
   cases e:QoX r d with
   | some e'=>
    rw [e]at h
    simp only [QdT,h];rfl
   | none=>
    rw [e]at h
    simp only at h
    simp only [QdT,h,List.map_nil,Qqh]
    by_cases c:x+1<s
    ·rw [if_pos c]
     rw [show(s-(x+1)).toNat=(s-(x+1+1)).toNat+1 by omega,upL,Qlu]
     have:(binds r).map (fun z=>(x+1)::z)=((x+1)::Qkg r)::(QdT r (Qkg r)).map ((x+1)::·):=by rw [Qvv r];rfl
     rw [this];rfl
    rw [if_neg c,show(s-(x+1)).toNat=0 by omega];rfl
theorem Qx2 : ∀l d:List Int,(∀(j:Nat) x s,d[j]? = some x→l[j]? = some s→¬x+1<s)→QoX l d=none:=by
 intro l
 induction l with
 | nil=>intro d _;cases d<;>rfl
 | cons s r ih=>
  intro d h
  cases d with
  | nil=>rfl
  | cons x d=>
   rw [QoX,ih d fun j y z h1 h2=>h (j+1) y z (by simpa using h1) (by simpa using h2)]
   simp only
   rw [if_neg (h 0 x s rfl rfl)]
theorem QDx : ∀(k:Nat) (l d:List Int) (x s:Int),l.length=d.length→d[k]? = some x→l[k]? = some s→x+1<s→(∀(j:Nat) y z,k<j→d[j]? = some y→l[j]? = some z→¬y+1<z)→
  QoX l d=some (d.take k++(x+1)::List.replicate (d.length-(k+1)) 0):=by
 intro k
 induction k with
 | zero=>
  intro l d x s hl hd hs hlt ha
  cases l with
  | nil=>cases hs
  | cons s' r=>
   cases d with
   | nil=>cases hd
   | cons x' d=>
    simp only [List.getElem?_cons_zero,Option.some.injEq]at hd hs
    subst hd;subst hs
    rw [QoX,Qx2 r d fun j y z h1 h2=>ha (j+1) y z (by omega) (by simpa using h1) (by simpa using h2)]
    simp only
    rw [if_pos hlt]
    simp only [QeW]at hl
    simp [Qkg];omega
 | succ k ih=>
  intro l d x s hl hd hs hlt ha
  cases l with
  | nil=>cases hs
  | cons s' r=>
   cases d with
   | nil=>cases hd
   | cons x' d=>
    simp only [Qr6]at hd hs
    simp only [QeW,Nat.add_right_cancel_iff]at hl
    rw [QoX,ih r d x s hl hd hs hlt fun j y z h0 h1 h2=>ha (j+1) y z (by omega) (by simpa using h1) (by simpa using h2)]
    simp
def inB : List Int→List Int→Prop
 | [],[]=>True
 | s::r,x::d=>0≤x∧(x=0∨x<s)∧inB r d
 | _,_=>False
theorem QDy {y x:Int}{k:Nat}:y∈upL x k↔x≤y∧y<x+k:=by
 induction k generalizing x with
 | zero=>
  simp only [upL,List.not_mem_nil,false_iff];omega
 | succ k ih=>simp only [upL,Qa1,ih];omega
theorem QBC {l d:List Int}:d∈binds l↔inB l d:=by
 induction l generalizing d with
 | nil=>cases d<;>simp [binds,inB]
 | cons s r ih=>
  cases d with
  | nil=>simp [binds,inB]
  | cons x d=>
   simp only [binds,List.mem_flatMap,Qa1,QDy,Qa2,List.cons.injEq,inB,←ih]
   constructor
   ·rintro ⟨y,h1,e,h2,rfl,rfl⟩
    exact⟨by omega,by omega,h2⟩
   rintro ⟨h1,h2,h3⟩
   exact⟨x,by omega,d,h3,rfl,rfl⟩
theorem QDz {l d:List Int}(h:inB l d):d.length=l.length:=by
 induction l generalizing d with
 | nil=>cases d with
  | nil=>rfl
  | cons x d=>exact h.elim
 | cons s r ih=>cases d with
  | nil=>exact h.elim
  | cons x d=>simp [ih h.2.2]
section
variable {α:Type}
def adv (most:Nat)(acc X:List α):List α⊕List α:=if (acc++X).length<most then .inr (acc++X)else .inl ((acc++X).take most)
theorem QrS {most:Nat}{acc:List α}(h:acc.length<most):adv most acc []=.inr acc:=by
 unfold adv
 rw [Qqd,if_pos h]
theorem QCK {most:Nat}{acc X:List α}(h:acc.length=most):adv most acc X=.inl acc:=by
 unfold adv
 rw [if_neg (by simp;omega)]
 subst h
 rw [List.take_left]
theorem QCL {most:Nat}{acc X:List α}{x:α}:adv most acc (x::X)=adv most (acc++[x]) X:=by
 unfold adv
 rw [Qdp];rfl
theorem QzK {most:Nat}{acc X Y:List α}:adv most acc (X++Y)=match adv most acc X with
  | .inl a=>.inl a
  | .inr a=>adv most a Y:=by
 unfold adv
 by_cases c:(acc++X).length<most
 ·rw [if_pos c]
  simp only [Qdp]
 rw [if_neg c,if_neg (by simp at c ⊢;omega),←Qdp,QuA (by omega)]
theorem QBD {most:Nat}{acc X a:List α}(h:adv most acc X=.inr a):a.length<most:=by
 unfold adv at h
 split at h
 ·cases h;assumption
 cases h
theorem QzL {most:Nat}{acc X a:List α}(h:adv most acc X=.inr a):a=acc++X:=by
 unfold adv at h
 split at h
 ·cases h;rfl
 cases h
theorem QCM {most:Nat}{X:List α}(h:0<most):(match adv most [] X with | .inl a=>a | .inr a=>a)=X.take most:=by
 unfold adv
 rw [Qqh]
 by_cases c:X.length<most
 ·rw [if_pos c];simp only;rw [Qcy (by omega)]
 rw [if_neg c]
end
end Go.Vm
namespace Go.Vm
open Go Go.RowKit
section
variable {M K:Type}[DecidableEq K](key:M→K)(succ:M→List M)
def QvX (out:List M)(x:M):Bool:=out.any fun y=>decide (key y=key x)
def QcK (most:Nat):List M→List M→List M⊕List M
 | out,[]=>.inr out
 | out,x::xs=>if QvX key out x then QcK most out xs else if out.length=most then .inl out else QcK most (out++[x]) xs
def QhZ (most:Nat):Nat→List M→Nat→List M×Bool
 | 0,out,_=>(out,true)
 | f+1,out,a=>match out[a]? with
  | none=>(out,true)
  | some x=>match QcK key most out (succ x)with
   | .inl o=>(o,false)
   | .inr o=>QhZ most f o (a+1)
variable {key}{succ}
theorem QAy {most:Nat}:∀{xs out o:List M},QcK key most out xs=.inr o→out.length≤most→(∃r,o=out++r)∧o.length≤most:=by
 intro xs
 induction xs with
 | nil=>intro out o h hl;cases h;exact⟨⟨[],by simp⟩,hl⟩
 | cons x xs ih=>
  intro out o h hl
  rw [QcK]at h
  split at h
  ·exact ih h hl
  split at h
  ·cases h
  obtain⟨⟨r,hr⟩,h2⟩:=ih h (by simp;omega)
  exact⟨⟨x::r,by rw [hr];simp⟩,h2⟩
theorem QAz {most:Nat}:∀{xs out o:List M},QcK key most out xs=.inl o→out.length≤most→(∃r,o=out++r)∧o.length=most:=by
 intro xs
 induction xs with
 | nil=>intro out o h hl;cases h
 | cons x xs ih=>
  intro out o h hl
  rw [QcK]at h
  split at h
  ·exact ih h hl
  split at h
  ·cases h;exact⟨⟨[],by simp⟩,by assumption⟩
  obtain⟨⟨r,hr⟩,h2⟩:=ih h (by simp;omega)
  exact⟨⟨x::r,by rw [hr];simp⟩,h2⟩
def Qgr (key:M→K)(l:List M):Prop:=l.Pairwise fun a b=>key a≠key b
theorem Qgr.add {l:List M}{x:M}(h:Qgr key l)(hx:QvX key l x=false):Qgr key (l++[x]):=by
 unfold Qgr
 rw [List.pairwise_append]
 refine⟨h,Qqi _ _,fun a ha b hb=>?_⟩
 rw [List.mem_singleton]at hb
 subst hb
 intro e
 have:QvX key l b=true:=Qkm.2 ⟨a,ha,Qb5 e⟩
 rw [this]at hx;cases hx
theorem QwN {P:M→Prop}{most:Nat}:∀{xs out o:List M},(QcK key most out xs=.inl o∨QcK key most out xs=.inr o)→Qgr key out→(∀x∈out,P x)→(∀x∈xs,P x)→Qgr key o∧∀x∈o,P x:=by
 intro xs
 induction xs with
 | nil=>intro out o h ha hp _;rcases h with h | h<;>cases h;exact⟨ha,hp⟩
 | cons x xs ih=>
  intro out o h ha hp hx
  rw [QcK]at h
  split at h
  ·exact ih h ha hp fun y hy=>hx y (QaC _ hy)
  rename_i c
  split at h
  ·rcases h with h | h<;>cases h;exact⟨ha,hp⟩
  refine ih h (ha.add (by simpa using c)) (fun y hy=>?_) fun y hy=>hx y (QaC _ hy)
  rcases Qcx.1 hy with hy | hy
  ·exact hp y hy
  simp at hy;subst hy;exact hx _ QaD
theorem QBE {P:M→Prop}(hs:∀x,P x→∀y∈succ x,P y){most:Nat}:∀(f:Nat) {out:List M} {a:Nat},out.length≤most→Qgr key out→(∀x∈out,P x)→
  (∃r,(QhZ key succ most f out a).1=out++r)∧(QhZ key succ most f out a).1.length≤most∧Qgr key (QhZ key succ most f out a).1∧∀x∈(QhZ key succ most f out a).1,P x:=by
 intro f
 induction f with
 | zero=>intro out a hl ha hp;exact⟨⟨[],by simp [QhZ]⟩,hl,ha,hp⟩
 | succ f ih=>
  intro out a hl ha hp
  rw [QhZ]
  cases ho:out[a]? with
  | none=>exact⟨⟨[],by simp⟩,hl,ha,hp⟩
  | some x=>
   simp only
   have hx:=hp x (Qap ho)
   cases e:QcK key most out (succ x)with
   | inl o=>
    obtain⟨h1,h2⟩:=QAz e hl
    obtain⟨h3,h4⟩:=QwN (.inl e) ha hp (hs x hx)
    exact⟨h1,by simp only;omega,h3,h4⟩
   | inr o=>
    obtain⟨⟨r,hr⟩,h2⟩:=QAy e hl
    obtain⟨h3,h4⟩:=QwN (.inr e) ha hp (hs x hx)
    simp only
    obtain⟨⟨r2,hr2⟩,k2⟩:=ih (a:=a+1) h2 h3 h4
    exact⟨⟨r++r2,by rw [hr2,hr,Qdp]⟩,k2⟩
end
end Go.Vm
noncomputable section
namespace Go.Proofs
open Go Go.RowKit Go.Vm
inductive Qdo : Qo→Prop where
 | mk (e:Qo):e.Kids.length≤maxLen→(∀k∈e.Kids,Qdo k)→Qdo e
theorem QeU {e:Qo}(h:Qdo e):QR Qdo e.Kids:=by
 cases h with
 | mk _ h1 h2=>exact⟨h1,h2⟩
theorem Qug {e k:Qo}(h:k∈e.Kids):SizeOf.sizeOf k<SizeOf.sizeOf e:=by
 obtain⟨a,b,l⟩:=e
 have:=List.sizeOf_lt_of_mem h
 simp only [Qo.mk.sizeOf_spec]at *
 omega
theorem Qo.pos (e:Qo):0<SizeOf.sizeOf e:=by
 obtain⟨a,b,l⟩:=e
 simp only [Qo.mk.sizeOf_spec];omega
inductive POk (v:Int):Qo→Prop where
 | mk (e:Qo):(e.Kind=1∨e.Kind=2∨e.Kind=3∨e.Kind=4∨e.Kind=5∨e.Kind=6)→(e.Kind=2→0≤e.Num∧e.Num<v)→(e.Kind=3∨e.Kind=4→e.Kids.length=1)→(e.Kind=5→e.Kids.length=2)→(e.Kind=6→e.Kids.length=3)→(∀k∈e.Kids,POk v k)→POk v e
def Qci (x:QJ):Prop:=Qgq x.Name∧True∧True∧True∧(QR Qgq) x.Names∧True∧True
def QcT (x:QN):Prop:=Qgq x.Name∧True∧(QR (fun _=>True)) x.First
def Qej (x:QaQ):Prop:=Qgq x.Name∧True
def Qkh (x:Qax):Prop:=True∧Qdo x.Expr
def QaN (x:QD):Prop:=Qgq x.Name∧(QR Qej) x.Vars∧Qdo x.Guard∧True∧True∧(QR Qkh) x.Ins∧(QR Qkh) x.Outs∧(QR (fun _=>True)) x.Cancel∧True∧True
def QY (x:Qj):Prop:=(QR Qci) x.Colours∧(QR QcT) x.Places∧(QR QaN) x.Tasks∧True∧True
def Qyj (x:QaY):Prop:=(QR Qci) x.all∧(QR (fun _=>True)) x.sizes∧True
theorem QwO (v1:Qj)(h_v1:QY v1):Qg (QlC v1) fun r=>True:=by
 unfold QlC
 exact T3
theorem Qcu (l1:(List QN))(k2:Int)(h_l1:(QR QcT) l1):Qg (QaR l1 k2) fun r=>r=true→0≤k2∧k2<l1.length:=by
 unfold QaR
 exact T2 (by first | (intro hr;first | (cases hr;done) | omega | ((try simp only [QI,Qc8,QcU,Qfs,Qib,QE,QW,beq_iff_eq,bne_iff_ne,ne_eq,Qlt,Qqc,Qdq,Qlv,Qny,Qnx,Qgg,QeW,Ql4,Ql5,QkV]at *);omega)) | ((try simp only [QI,Qc8,QcU,Qfs,Qib,QE,QW,beq_iff_eq,bne_iff_ne,ne_eq,Qlt,Qqc,Qdq,Qlv,Qny,Qnx,Qgg,QeW,Ql4,Ql5,QkV]at *);omega) | simp_all)
theorem QwP (v1:Qj)(h_v1:QY v1):Qg (QlD v1) fun r=>True:=by
 unfold QlD
 refine T0 (P:=fun _=>True) ?_ (fun x_1 hv2=>?_)
 ·unfold QpI
  refine T0 (Qcu v1.Places v1.From (h_v1.2.1)) (fun x_3 hv4=>?_)
  refine T1 (fun hc5=>?_) (fun hc5=>?_)
  ·refine T0 (Qcu v1.Places v1.To (h_v1.2.1)) (fun x_6 hv7=>?_)
   exact T3
  exact T3
 unfold Qir
 exact T3
theorem QwQ (v1:Qj)(h_v1:QY v1):Qg (QlE v1) fun r=>True:=by
 unfold QlE
 exact T3
theorem QwR (v1:Qj)(v2:Int)(v3:Int)(v4:Int)(h_v1:QY v1):Qg (QlF v1 v2 v3 v4) fun r=>True:=by
 unfold QlF
 refine T0 (QwO v1 (h_v1)) (fun x_1 hv2=>?_)
 refine T1 (fun hc3=>?_) (fun hc3=>?_)
 ·exact T3
 refine T0 (QwP v1 (h_v1)) (fun x_4 hv5=>?_)
 refine T1 (fun hc6=>?_) (fun hc6=>?_)
 ·exact T3
 refine T0 (QwQ v1 (h_v1)) (fun x_7 hv8=>?_)
 refine T1 (fun hc9=>?_) (fun hc9=>?_)
 ·exact T3
 exact T3
theorem QwS (lo1:Int)(hi2:Int)  : Qg (Qly lo1 hi2) fun r=>True:=by
 unfold Qly
 refine T1 (fun hc1=>?_) (fun hc1=>?_)
 ·exact T3
 exact T3
theorem QoB (c1:Int)  : Qg (Qe2 c1) fun r=>True:=by
 unfold Qe2
 exact T3
theorem QmV (s1:ByteArray)(h_s1:Qgq s1):Qg (QgD s1) fun r=>True:=by
 unfold QgD
 refine T0 (P:=fun _=>True) ?_ (fun x_1 hv2=>?_)
 ·unfold Qpt
  refine T1 (fun hc3=>?_) (fun hc3=>?_)
  ·exact T3
  have hshc3:=QBy hc3
  refine T1 (fun hc4=>?_) (fun hc4=>?_)
  ·exact T3
  refine T0 (Qg.sidx (by omega) (by omega)) (fun c_5 hv6=>?_)
  refine T0 (QoB c_5 ) (fun x_7 hv8=>?_)
  exact T3
 unfold Qin
 refine T1 (fun hc9=>?_) (fun hc9=>?_)
 ·exact T3
 refine T0 (Qg.up (s1.size) (fun st=>st) (fun _=>True) (Q:=fun q=>True) rfl trivial (fun i11 st hi12 hn13 hj14=>?_)) (fun q15 hq16=>?_)
 ·obtain⟨x_10,hst⟩:∃y,y=st:=⟨_,rfl⟩
  subst hst
  replace hi12:x_10=(i11:Int):=hi12
  show Qg (Qik s1 x_10) _
  unfold Qik
  refine T1 (fun hc17=>?_) (fun hc17=>?_)
  ·refine T0 (Qg.sidx (by omega) (by simp_all)) (fun c_18 hv19=>?_)
   refine T0 (P:=fun _=>True) ?_ (fun x_20 hv21=>?_)
   ·unfold Qpu
    refine T0 (QoB c_18 ) (fun x_22 hv23=>?_)
    refine T1 (fun hc24=>?_) (fun hc24=>?_)
    ·refine T1 (fun hc25=>?_) (fun hc25=>?_)
     ·exact T3
     refine T1 (fun hc26=>?_) (fun hc26=>?_)
     ·exact T3
     exact T3
    exact T3
   unfold Qij
   refine T1 (fun hc27=>?_) (fun hc27=>?_)
   ·exact T2 (Qm trivial)
   exact T2 (QC ⟨(by simp_all),by subst hi12;exact Qx (by simp_all) h_s1,trivial⟩)
  exact T2 (Qm trivial)
 rcases q15 with q15 | q15
 ·show Qg (Qil) _
  unfold Qil
  exact T3
 show Qg (Qim) _
 unfold Qim
 exact T3
theorem QvY (l1:(List ByteArray))(h_l1:(QR Qgq) l1):Qg (QkA l1) fun r=>True:=by
 unfold QkA
 refine T0 (Qg.up (l1.length) (fun st=>st.1) (fun _=>True) (Q:=fun q=>True) rfl trivial (fun i3 st hi4 hn5 hj6=>?_)) (fun q7 hq8=>?_)
 ·obtain⟨x_1,m_2⟩:=st
  replace hi4:x_1=(i3:Int):=hi4
  show Qg (Qhh l1 x_1 m_2) _
  unfold Qhh
  refine T1 (fun hc9=>?_) (fun hc9=>?_)
  ·refine T0 (T4 (by omega) (by simp_all)) (fun e_10 hv11=>?_)
   refine T0 (P:=fun _=>True) ?_ (fun x_12 hv13=>?_)
   ·unfold Qon
    refine T0 (QmV e_10 (((h_l1).2 e_10 hv11))) (fun x_14 hv15=>?_)
    refine T1 (fun hc16=>?_) (fun hc16=>?_)
    ·exact T3
    exact T3
   unfold Qhg
   refine T1 (fun hc17=>?_) (fun hc17=>?_)
   ·exact T2 (Qm trivial)
   exact T2 (QC ⟨(by simp_all),by subst hi4;exact Qx (by simp_all) (h_l1).1,trivial⟩)
  exact T2 (Qm trivial)
 rcases q7 with q7 | q7
 ·show Qg (Qhi) _
  unfold Qhi
  exact T3
 show Qg (Qhj) _
 unfold Qhj
 exact T3
theorem QwT (c1:QJ)(ahead2:(List Int))(h_c1:Qci c1)(h_ahead2:(QR (fun _=>True)) ahead2):Qg (Qlz c1 ahead2) fun r=>True:=by
 unfold Qlz
 refine T1 (fun hc1=>?_) (fun hc1=>?_)
 ·refine T0 (QwS c1.Lo c1.Hi ) (fun x_2 hv3=>?_)
  exact T3
 refine T1 (fun hc4=>?_) (fun hc4=>?_)
 ·refine T0 (QvY c1.Names (h_c1.2.2.2.2.1)) (fun x_5 hv6=>?_)
  refine T1 (fun hc7=>?_) (fun hc7=>?_)
  ·exact T3
  unfold Qdh
  exact T3
 refine T1 (fun hc8=>?_) (fun hc8=>?_)
 ·refine T1 (fun hc9=>?_) (fun hc9=>?_)
  ·refine T0 (T4 (by(try simp only [QI,Qc8,QcU,Qfs,Qib,QE,QW,beq_iff_eq,bne_iff_ne,ne_eq,Qlt,Qqc,Qdq,Qlv,Qny,Qnx,Qgg,QeW,Ql4,Ql5,QkV]at *);omega) (by(try simp only [QI,Qc8,QcU,Qfs,Qib,QE,QW,beq_iff_eq,bne_iff_ne,ne_eq,Qlt,Qqc,Qdq,Qlv,Qny,Qnx,Qgg,QeW,Ql4,Ql5,QkV]at *);omega)) (fun e_10 hv11=>?_)
   refine T0 (T4 (by(try simp only [QI,Qc8,QcU,Qfs,Qib,QE,QW,beq_iff_eq,bne_iff_ne,ne_eq,Qlt,Qqc,Qdq,Qlv,Qny,Qnx,Qgg,QeW,Ql4,Ql5,QkV]at *);omega) (by(try simp only [QI,Qc8,QcU,Qfs,Qib,QE,QW,beq_iff_eq,bne_iff_ne,ne_eq,Qlt,Qqc,Qdq,Qlv,Qny,Qnx,Qgg,QeW,Ql4,Ql5,QkV]at *);omega)) (fun e_12 hv13=>?_)
   exact T3
  unfold Qdh
  exact T3
 unfold Qdh
 exact T3
theorem QpS (l1:(List QJ))(h_l1:(QR Qci) l1):Qg (QhL l1) fun r=>((QR (fun _=>True)) r.1∧True)∧(r.2=true→r.1.length=l1.length∧∀x∈r.1,1≤x∧x≤1024):=by
 unfold QhL
 refine T1 (fun hc=>T2 ⟨⟨QR.nil,trivial⟩,fun h=>by cases h⟩) (fun hc=>?_)
 have hl:l1.length≤32:=by simp only [QW]at hc;omega
 refine T0 (Qg.up l1.length (fun st=>st.1) (fun st=>(st.2.2.length:Int)=st.1∧∀x∈st.2.2,1≤x∧x≤1024) (Q:=fun q=>∀l,q=.inr l→l.length=l1.length∧∀x∈l,1≤x∧x≤1024) rfl ⟨rfl,fun x h=>(by cases h)⟩ (fun i st hi hn hj=>?_)) (fun q hq=>?_)
 ·obtain⟨x,m,l⟩:=st
  replace hi:x=(i:Int):=hi
  replace hj:(l.length:Int)=x∧∀x∈l,1≤x∧x≤1024:=hj
  obtain⟨hj,hj2⟩:=hj
  show Qg (Qhl l1 x m l) _
  unfold Qhl
  refine T1 (fun hc2=>?_) (fun hc2=>?_)
  ·simp only [QE]at hc2
   refine T0 (T4 (by omega) (by omega)) fun e he=>?_
   refine T0 (QwT e l (h_l1.2 e he) ⟨by unfold maxLen;omega,fun _ _=>trivial⟩) fun y _=>?_
   refine T0 (P:=fun z=>z=false→1≤y∧y≤1024) ?_ fun z hz=>?_
   ·unfold Qoo
    refine T0 (QmV e.Name (h_l1.2 e he).1) fun z _=>?_
    refine T1 (fun _=>T2 (fun h=>by cases h)) fun _=>T1 (fun _=>T2 (fun h=>by cases h)) fun _=>T1 (fun _=>T2 (fun h=>by cases h)) fun h1=>T2 fun h2=>?_
    simp only [QW]at h1 h2
    omega
   unfold Qhk
   refine T1 (fun _=>T2 (Qm fun l h=>by cases h)) fun hz0=>?_
   refine T0 (T5 (by simp;omega)) fun _ _=>?_
   exact T2 (QC ⟨by omega,by subst hi;exact Qx (by omega) (by unfold maxLen;omega:l1.length≤maxLen),by simp only [Qdq,Qlv];subst hi;rw [Qx (show i<l1.length by omega) (by unfold maxLen;omega)];omega,fun u hu=>by
    rcases Qcx.1 hu with hu | hu
    ·exact hj2 u hu
    simp at hu;subst hu;exact hz hz0⟩)
  simp only [QW]at hc2
  exact T2 (Qm fun l' h=>by cases h;exact⟨by omega,hj2⟩)
 rcases q with q | q
 ·exact T2 ⟨⟨QR.nil,trivial⟩,fun h=>by cases h⟩
 have:=hq q rfl
 exact T2 ⟨⟨⟨by show q.length≤maxLen;unfold maxLen;omega,fun _ _=>trivial⟩,trivial⟩,fun _=>this⟩
theorem QvZ (l1:(List QJ))(h_l1:(QR Qci) l1):Qg (QkK l1) fun r=>True:=by
 unfold QkK
 refine T0 (QpS l1 (h_l1)) (fun x_1 hv2=>?_)
 exact T3
theorem QrT (v1:Qj)(v2:Int)(h_v1:QY v1)(hp0:0≤v2)(hp1:v2<v1.Colours.length):Qg (Qgi v1 v2) fun r=>True:=by
 have hl:=h_v1.1.1
 unfold maxLen at hl
 unfold Qgi
 rw [Qct (show -9223372036854775808≤v2+1∧v2+1≤9223372036854775807 by omega)]
 refine T0 (T5 (by simp only [QI,QE];omega)) fun _ _=>?_
 exact T0 (QvZ _ ((h_v1.1.drop _).take _)) fun x _=>T3
def QwU : List ByteArray:=(QiQ).getD []
set_option maxRecDepth 100000 in
theorem QCN : QiQ=some QwU:=by kernel_rfl
set_option maxRecDepth 100000 in
theorem QzC : (decide (QwU.length≤1000)&&QwU.all fun s=>decide (s.size≤1000))=true:=by kernel_rfl
theorem QwV : Qg (QiQ) fun r=>QR Qgq r:=by
 have h:=QzC
 rw [QI,decide_eq_true_iff,Qai]at h
 refine⟨QwU,QCN,by unfold maxLen;omega,fun x hx=>?_⟩
 have:=h.2 x hx
 rw [decide_eq_true_iff]at this
 unfold Qgq maxLen;omega
theorem QmW (s1:(List ByteArray))(v2:ByteArray)(h_s1:(QR Qgq) s1)(h_v2:Qgq v2):Qg (QcS s1 v2) fun r=>True:=by
 unfold QcS
 refine T0 (Qg.up (s1.length) (fun st=>st) (fun _=>True) (Q:=fun q=>True) rfl trivial (fun i2 st hi3 hn4 hj5=>?_)) (fun q6 hq7=>?_)
 ·obtain⟨x_1,hst⟩:∃y,y=st:=⟨_,rfl⟩
  subst hst
  replace hi3:x_1=(i2:Int):=hi3
  show Qg (Qcc s1 v2 x_1) _
  unfold Qcc
  refine T1 (fun hc8=>?_) (fun hc8=>?_)
  ·refine T0 (T4 (by omega) (by simp_all)) (fun e_9 hv10=>?_)
   refine T1 (fun hc11=>?_) (fun hc11=>?_)
   ·exact T2 (Qm trivial)
   exact T2 (QC ⟨(by simp_all),by subst hi3;exact Qx (by simp_all) (h_s1).1,trivial⟩)
  exact T2 (Qm trivial)
 rcases q6 with q6 | q6
 ·show Qg (Qcd q6) _
  unfold Qcd
  exact T3
 show Qg (Qce) _
 unfold Qce
 exact T3
theorem Qlr (s1:(List ByteArray))(v2:ByteArray)(h_s1:(QR Qgq) s1)(h_v2:Qgq v2):Qg (Qcf s1 v2) fun r=>True:=by
 unfold Qcf
 refine T0 (QmW s1 v2 (h_s1) (h_v2)) (fun x_1 hv2=>?_)
 exact T3
theorem QxA (s1:ByteArray)(h_s1:Qgq s1):Qg (QmK s1) fun r=>True:=by
 unfold QmK
 refine T0 (QwV  ) (fun x_1 hv2=>?_)
 refine T0 (Qlr x_1 s1 (hv2) (h_s1)) (fun x_3 hv4=>?_)
 exact T3
theorem Qh0 (s1:ByteArray)(h_s1:Qgq s1):Qg (QeT s1) fun r=>True:=by
 unfold QeT
 refine T0 (P:=fun _=>True) ?_ (fun x_1 hv2=>?_)
 ·unfold QqL
  refine T0 (QmV s1 (h_s1)) (fun x_3 hv4=>?_)
  refine T1 (fun hc5=>?_) (fun hc5=>?_)
  ·refine T0 (QxA s1 (h_s1)) (fun x_6 hv7=>?_)
   exact T3
  exact T3
 unfold QjC
 exact T3
theorem Qp5 (s1:ByteArray)(h_s1:Qgq s1):Qg (Qe8 s1) fun r=>True:=by
 unfold Qe8
 refine T0 (Qh0 s1 (h_s1)) (fun x_1 hv2=>?_)
 exact T3
theorem Qk7 (s1:(List ByteArray))(h_s1:(QR Qgq) s1):Qg (Qb2 s1) fun r=>True:=by
 unfold Qb2
 refine T0 (Qg.up (s1.length) (fun st=>st) (fun _=>True) (Q:=fun q=>True) rfl trivial (fun i2 st hi3 hn4 hj5=>?_)) (fun q6 hq7=>?_)
 ·obtain⟨x_1,hst⟩:∃y,y=st:=⟨_,rfl⟩
  subst hst
  replace hi3:x_1=(i2:Int):=hi3
  show Qg (Qbz s1 x_1) _
  unfold Qbz
  refine T1 (fun hc8=>?_) (fun hc8=>?_)
  ·refine T0 (T4 (by omega) (by simp_all)) (fun e_9 hv10=>?_)
   refine T0 (Qp5 e_9 (((h_s1).2 e_9 hv10))) (fun x_11 hv12=>?_)
   refine T1 (fun hc13=>?_) (fun hc13=>?_)
   ·exact T2 (Qm trivial)
   exact T2 (QC ⟨(by simp_all),by subst hi3;exact Qx (by simp_all) (h_s1).1,trivial⟩)
  exact T2 (Qm trivial)
 rcases q6 with q6 | q6
 ·show Qg (QbA q6) _
  unfold QbA
  exact T3
 show Qg (QbB) _
 unfold QbB
 exact T3
theorem QjV (s1:(List ByteArray))(h_s1:(QR Qgq) s1):Qg (QbC s1) fun r=>True:=by
 unfold QbC
 refine T0 (Qk7 s1 (h_s1)) (fun x_1 hv2=>?_)
 exact T3
theorem QrU (v1:QJ)(h_v1:Qci v1):Qg (Qgj v1) fun r=>True:=by
 unfold Qgj
 refine T0 (P:=fun _=>True) ?_ (fun x_1 hv2=>?_)
 ·unfold Qlq
  refine T0 (Qh0 v1.Name (h_v1.1)) (fun x_3 hv4=>?_)
  refine T1 (fun hc5=>?_) (fun hc5=>?_)
  ·refine T1 (fun hc6=>?_) (fun hc6=>?_)
   ·exact T3
   refine T0 (QjV v1.Names (h_v1.2.2.2.2.1)) (fun x_7 hv8=>?_)
   exact T3
  exact T3
 unfold QeH
 exact T3
theorem Quh (v1:Qj)(v2:Int)(v3:Int)(v4:QJ)(v5:Int)(h_v1:QY v1)(h_v4:Qci v4)(hp0:0≤v2)(hp1:v2<v1.Colours.length):Qg (Qis v1 v2 v3 v4 v5) fun r=>True:=by
 unfold Qis
 refine T0 (QrT v1 v2 (h_v1) (by omega) (by omega)) (fun x_1 hv2=>?_)
 refine T1 (fun hc3=>?_) (fun hc3=>?_)
 ·exact T3
 refine T0 (QrU v4 (h_v4)) (fun x_4 hv5=>?_)
 refine T1 (fun hc6=>?_) (fun hc6=>?_)
 ·exact T3
 exact T3
theorem Qts (k1:Int)(c2:QJ)(v3:Qj)(h_c2:Qci c2)(h_v3:QY v3)(hp0:0≤k1)(hp1:k1<v3.Colours.length):Qg (Qhx k1 c2 v3) fun r=>True:=by
 unfold Qhx
 refine T0 (Quh v3 k1 8 c2 8 (h_v3) (h_c2) (by omega) (by omega)) (fun x_1 hv2=>?_)
 exact T3
theorem QoY (l1:(List QJ))(v2:Qj)(h_l1:(QR Qci) l1)(h_v2:QY v2)(hp0:l1.length≤v2.Colours.length):Qg (Qd8 l1 v2) fun r=>True:=by
 unfold Qd8
 refine T0 (Qg.up (l1.length) (fun st=>st) (fun _=>True) (Q:=fun q=>True) rfl trivial (fun i2 st hi3 hn4 hj5=>?_)) (fun q6 hq7=>?_)
 ·obtain⟨x_1,hst⟩:∃y,y=st:=⟨_,rfl⟩
  subst hst
  replace hi3:x_1=(i2:Int):=hi3
  show Qg (Qdb l1 v2 x_1) _
  unfold Qdb
  refine T1 (fun hc8=>?_) (fun hc8=>?_)
  ·refine T0 (T4 (by omega) (by simp_all)) (fun e_9 hv10=>?_)
   refine T0 (Qts x_1 e_9 v2 (((h_l1).2 e_9 hv10)) (h_v2) (by omega) (by simp_all;omega)) (fun x_11 hv12=>?_)
   refine T1 (fun hc13=>?_) (fun hc13=>?_)
   ·exact T2 (Qm trivial)
   exact T2 (QC ⟨(by simp_all),by subst hi3;exact Qx (by simp_all) (h_l1).1,trivial⟩)
  exact T2 (Qm trivial)
 rcases q6 with q6 | q6
 ·show Qg (Qdc q6.1 q6.2) _
  unfold Qdc
  exact T3
 show Qg (Qdd) _
 unfold Qdd
 exact T3
theorem QoC (n1:Qj)(h_n1:QY n1):Qg (QgU n1) fun r=>True:=by
 unfold QgU
 refine T0 (QoY n1.Colours n1 (h_n1.1) (h_n1) (by omega)) (fun x_1 hv2=>?_)
 exact T3
theorem Qu9 (v1:QN)(h_v1:QcT v1):Qg (QjD v1) fun r=>True:=by
 unfold QjD
 refine T0 (Qh0 v1.Name (h_v1.1)) (fun x_1 hv2=>?_)
 exact T3
theorem Qva (p1:QN)(v2:QN)(h_p1:QcT p1)(h_v2:QcT v2):Qg (QjE p1 v2) fun r=>True:=by
 unfold QjE
 exact T3
theorem QiJ (s1:(List QN))(v2:QN)(h_s1:(QR QcT) s1)(h_v2:QcT v2):Qg (Qbf s1 v2) fun r=>True:=by
 unfold Qbf
 refine T0 (Qg.up (s1.length) (fun st=>st) (fun _=>True) (Q:=fun q=>True) rfl trivial (fun i2 st hi3 hn4 hj5=>?_)) (fun q6 hq7=>?_)
 ·obtain⟨x_1,hst⟩:∃y,y=st:=⟨_,rfl⟩
  subst hst
  replace hi3:x_1=(i2:Int):=hi3
  show Qg (QaS s1 v2 x_1) _
  unfold QaS
  refine T1 (fun hc8=>?_) (fun hc8=>?_)
  ·refine T0 (T4 (by omega) (by simp_all)) (fun e_9 hv10=>?_)
   refine T0 (Qva e_9 v2 (((h_s1).2 e_9 hv10)) (h_v2)) (fun x_11 hv12=>?_)
   refine T1 (fun hc13=>?_) (fun hc13=>?_)
   ·exact T2 (Qm trivial)
   exact T2 (QC ⟨(by simp_all),by subst hi3;exact Qx (by simp_all) (h_s1).1,trivial⟩)
  exact T2 (Qm trivial)
 rcases q6 with q6 | q6
 ·show Qg (QaT q6) _
  unfold QaT
  exact T3
 show Qg (QaU) _
 unfold QaU
 exact T3
theorem Qhd (s1:(List QN))(v2:QN)(h_s1:(QR QcT) s1)(h_v2:QcT v2):Qg (QaV s1 v2) fun r=>True:=by
 unfold QaV
 refine T0 (QiJ s1 v2 (h_s1) (h_v2)) (fun x_1 hv2=>?_)
 exact T3
theorem Qvb (v1:Qj)(v2:Int)(v3:QN)(h_v1:QY v1)(h_v3:QcT v3)(hp0:0≤v2)(hp1:v2<v1.Places.length):Qg (QjF v1 v2 v3) fun r=>True:=by
 unfold QjF
 refine T0 (T5 (by simp_all;omega)) (fun _ _=>?_)
 refine T0 (Qhd ((v1.Places.drop 0).take (v2.toNat-0)) v3 (((h_v1.2.1).drop _).take _) (h_v3)) (fun x_1 hv2=>?_)
 exact T3
theorem QiU (l1:(List QJ))(k2:Int)(h_l1:(QR Qci) l1):Qg (QcJ l1 k2) fun r=>True:=by
 unfold QcJ
 exact T3
theorem Qvc (v1:Qj)(v2:QN)(h_v1:QY v1)(h_v2:QcT v2):Qg (QjG v1 v2) fun r=>True:=by
 unfold QjG
 refine T0 (QiU v1.Colours v2.Colour (h_v1.1)) (fun x_1 hv2=>?_)
 exact T3
theorem Qyk (b1:(List (Int×Int)))(h_b1:(QR (fun _=>True)) b1):Qg (Qc3 b1) fun r=>True:=by
 unfold Qc3
 refine T0 (Qg.up (b1.length) (fun st=>st.2) (fun _=>True) (Q:=fun q=>True) rfl trivial (fun i3 st hi4 hn5 hj6=>?_)) (fun q7 hq8=>?_)
 ·obtain⟨last_1,x_2⟩:=st
  replace hi4:x_2=(i3:Int):=hi4
  show Qg (QcR b1 last_1 x_2) _
  unfold QcR
  refine T1 (fun hc9=>?_) (fun hc9=>?_)
  ·refine T0 (T4 (by omega) (by simp_all)) (fun e_10 hv11=>?_)
   refine T1 (fun hc12=>?_) (fun hc12=>?_)
   ·exact T2 (Qm trivial)
   exact T2 (QC ⟨(by simp_all),by subst hi4;exact Qx (by simp_all) (h_b1).1,trivial⟩)
  exact T2 (Qm trivial)
 rcases q7 with q7 | q7
 ·show Qg (Qkw) _
  unfold Qkw
  exact T3
 show Qg (Qkx) _
 unfold Qkx
 exact T3
theorem Qvd (v1:QN)(h_v1:QcT v1):Qg (QjH v1) fun r=>True:=by
 unfold QjH
 refine T0 (Qyk v1.First (h_v1.2.2)) (fun x_1 hv2=>?_)
 exact T3
theorem QiV (l1:(List QJ))(k2:Int)(h_l1:(QR Qci) l1):Qg (QfL l1 k2) fun r=>(True∧Qyj r.2)∧(r.1=true→(0≤k2∧k2<r.2.sizes.length)∧r.2.k=k2∧r.2.all.length=r.2.sizes.length∧∀x∈r.2.sizes,1≤x∧x≤1024):=by
 unfold QfL
 refine T0 (QpS l1 h_l1) fun x hx=>?_
 refine T1 (fun _=>T2 ⟨⟨trivial,QR.nil,QR.nil,trivial⟩,fun h=>by cases h⟩) fun hc=>?_
 simp only [QcU,Qib,QW]at hc
 have:=hx.2 hc.1
 exact T2 ⟨⟨trivial,h_l1,hx.1.1,trivial⟩,fun _=>⟨⟨by omega,by show k2<(x.1.length:Int);omega⟩,rfl,this.1.symm,this.2⟩⟩
theorem Qc0 (l1:(List QJ))(k2:Int)(h_l1:(QR Qci) l1):Qg (Qa6 l1 k2) fun r=>0≤r∧r≤1024:=by
 unfold Qa6
 refine T0 (QiV l1 k2 h_l1) (fun x hx=>?_)
 refine T1 (fun hc=>T2 (by omega)) (fun hc=>?_)
 have h:=hx.2 (by simpa using hc)
 exact T0 (T4 (by omega) (by omega)) fun e he=>T2 (by have:=h.2.2.2 e he;omega)
theorem Qtt (row1:(Int×Int))(v2:Int)  : Qg (Qhy row1 v2) fun r=>True:=by
 unfold Qhy
 exact T3
theorem Qk8 (s1:(List (Int×Int)))(v2:Int)(h_s1:(QR (fun _=>True)) s1):Qg (Qb3 s1 v2) fun r=>True:=by
 unfold Qb3
 refine T0 (Qg.up (s1.length) (fun st=>st) (fun _=>True) (Q:=fun q=>True) rfl trivial (fun i2 st hi3 hn4 hj5=>?_)) (fun q6 hq7=>?_)
 ·obtain⟨x_1,hst⟩:∃y,y=st:=⟨_,rfl⟩
  subst hst
  replace hi3:x_1=(i2:Int):=hi3
  show Qg (QbD s1 v2 x_1) _
  unfold QbD
  refine T1 (fun hc8=>?_) (fun hc8=>?_)
  ·refine T0 (T4 (by omega) (by simp_all)) (fun e_9 hv10=>?_)
   refine T0 (Qtt e_9 v2 ) (fun x_11 hv12=>?_)
   refine T1 (fun hc13=>?_) (fun hc13=>?_)
   ·exact T2 (Qm trivial)
   exact T2 (QC ⟨(by simp_all),by subst hi3;exact Qx (by simp_all) (h_s1).1,trivial⟩)
  exact T2 (Qm trivial)
 rcases q6 with q6 | q6
 ·show Qg (QbE q6) _
  unfold QbE
  exact T3
 show Qg (QbF) _
 unfold QbF
 exact T3
theorem QjW (s1:(List (Int×Int)))(v2:Int)(h_s1:(QR (fun _=>True)) s1):Qg (QbG s1 v2) fun r=>True:=by
 unfold QbG
 refine T0 (Qk8 s1 v2 (h_s1)) (fun x_1 hv2=>?_)
 exact T3
theorem Qve (v1:Qj)(v2:QN)(h_v1:QY v1)(h_v2:QcT v2):Qg (QjI v1 v2) fun r=>True:=by
 unfold QjI
 refine T0 (Qc0 v1.Colours v2.Colour (h_v1.1)) (fun x_1 hv2=>?_)
 refine T0 (QjW v2.First x_1 (h_v2.2.2)) (fun x_3 hv4=>?_)
 exact T3
theorem Qui (v1:QN)(v2:Int)(v3:Qj)(v4:Int)(v5:Int)(v6:Int)(v7:Int)(v8:Int)(h_v1:QcT v1)(h_v3:QY v3)(hp0:0≤v4)(hp1:v4<v3.Places.length):Qg (Qit v1 v2 v3 v4 v5 v6 v7 v8) fun r=>True:=by
 unfold Qit
 refine T0 (Qu9 v1 (h_v1)) (fun x_1 hv2=>?_)
 refine T1 (fun hc3=>?_) (fun hc3=>?_)
 ·exact T3
 refine T0 (Qvb v3 v4 v1 (h_v3) (h_v1) (by omega) (by omega)) (fun x_4 hv5=>?_)
 refine T1 (fun hc6=>?_) (fun hc6=>?_)
 ·exact T3
 refine T0 (Qvc v3 v1 (h_v3) (h_v1)) (fun x_7 hv8=>?_)
 refine T1 (fun hc9=>?_) (fun hc9=>?_)
 ·exact T3
 refine T0 (Qvd v1 (h_v1)) (fun x_10 hv11=>?_)
 refine T1 (fun hc12=>?_) (fun hc12=>?_)
 ·exact T3
 refine T0 (Qve v3 v1 (h_v3) (h_v1)) (fun x_13 hv14=>?_)
 refine T1 (fun hc15=>?_) (fun hc15=>?_)
 ·exact T3
 exact T3
theorem QwW (n1:Qj)(k2:Int)(h_n1:QY n1):Qg (QlG n1 k2) fun r=>True:=by
 unfold QlG
 refine T0 (Qcu n1.Places k2 (h_n1.2.1)) (fun x_1 hv2=>?_)
 refine T1 (fun hc3=>?_) (fun hc3=>?_)
 ·exact T3
 refine T0 (T4 (by simp_all) (by simp_all)) (fun e_4 hv5=>?_)
 refine T0 (Qui e_4 1 n1 k2 5 3 1 8 (((h_n1.2.1).2 e_4 hv5)) (h_n1) (by simp_all) (by simp_all)) (fun x_6 hv7=>?_)
 exact T3
theorem QwX (k1:Int)(p2:QN)(v3:Qj)(h_p2:QcT p2)(h_v3:QY v3):Qg (QlH k1 p2 v3) fun r=>True:=by
 unfold QlH
 refine T0 (QwW v3 k1 (h_v3)) (fun x_1 hv2=>?_)
 exact T3
theorem QpT (l1:(List QN))(v2:Qj)(h_l1:(QR QcT) l1)(h_v2:QY v2):Qg (QeI l1 v2) fun r=>True:=by
 unfold QeI
 refine T0 (Qg.up (l1.length) (fun st=>st) (fun _=>True) (Q:=fun q=>True) rfl trivial (fun i2 st hi3 hn4 hj5=>?_)) (fun q6 hq7=>?_)
 ·obtain⟨x_1,hst⟩:∃y,y=st:=⟨_,rfl⟩
  subst hst
  replace hi3:x_1=(i2:Int):=hi3
  show Qg (Qdy l1 v2 x_1) _
  unfold Qdy
  refine T1 (fun hc8=>?_) (fun hc8=>?_)
  ·refine T0 (T4 (by omega) (by simp_all)) (fun e_9 hv10=>?_)
   refine T0 (QwX x_1 e_9 v2 (((h_l1).2 e_9 hv10)) (h_v2)) (fun x_11 hv12=>?_)
   refine T1 (fun hc13=>?_) (fun hc13=>?_)
   ·exact T2 (Qm trivial)
   exact T2 (QC ⟨(by simp_all),by subst hi3;exact Qx (by simp_all) (h_l1).1,trivial⟩)
  exact T2 (Qm trivial)
 rcases q6 with q6 | q6
 ·show Qg (Qdz q6.1 q6.2) _
  unfold Qdz
  exact T3
 show Qg (QdA) _
 unfold QdA
 exact T3
theorem Qki (l1:(List QD))(k2:Int)(h_l1:(QR QaN) l1):Qg (Qbv l1 k2) fun r=>r=true→0≤k2∧k2<l1.length:=by
 unfold Qbv
 exact T2 (by first | (intro hr;first | (cases hr;done) | omega | ((try simp only [QI,Qc8,QcU,Qfs,Qib,QE,QW,beq_iff_eq,bne_iff_ne,ne_eq,Qlt,Qqc,Qdq,Qlv,Qny,Qnx,Qgg,QeW,Ql4,Ql5,QkV]at *);omega)) | ((try simp only [QI,Qc8,QcU,Qfs,Qib,QE,QW,beq_iff_eq,bne_iff_ne,ne_eq,Qlt,Qqc,Qdq,Qlv,Qny,Qnx,Qgg,QeW,Ql4,Ql5,QkV]at *);omega) | simp_all)
theorem QwY (v1:Int)(v2:Qj)(v3:QD)(h_v2:QY v2)(h_v3:QaN v3):Qg (QlI v1 v2 v3) fun r=>True:=by
 unfold QlI
 exact T3
theorem Quj (v1:Int)(v2:Qj)(v3:QD)(v4:Int)(h_v2:QY v2)(h_v3:QaN v3):Qg (Qiu v1 v2 v3 v4) fun r=>True:=by
 unfold Qiu
 exact T3
theorem Quk (v1:Int)(v2:Qj)(v3:QD)(v4:Int)(h_v2:QY v2)(h_v3:QaN v3):Qg (Qiv v1 v2 v3 v4) fun r=>True:=by
 unfold Qiv
 exact T3
theorem Qul (v1:Int)(v2:Qj)(v3:QD)(h_v2:QY v2)(h_v3:QaN v3):Qg (Qiw v1 v2 v3) fun r=>True:=by
 unfold Qiw
 exact T3
theorem Qv0 (v1:QD)(h_v1:QaN v1):Qg (QkN v1) fun r=>True:=by
 unfold QkN
 refine T0 (Qh0 v1.Name (h_v1.1)) (fun x_1 hv2=>?_)
 exact T3
theorem Qv1 (p1:QD)(v2:QD)(h_p1:QaN p1)(h_v2:QaN v2):Qg (QkO p1 v2) fun r=>True:=by
 unfold QkO
 exact T3
theorem Qjd (s1:(List QD))(v2:QD)(h_s1:(QR QaN) s1)(h_v2:QaN v2):Qg (Qbr s1 v2) fun r=>True:=by
 unfold Qbr
 refine T0 (Qg.up (s1.length) (fun st=>st) (fun _=>True) (Q:=fun q=>True) rfl trivial (fun i2 st hi3 hn4 hj5=>?_)) (fun q6 hq7=>?_)
 ·obtain⟨x_1,hst⟩:∃y,y=st:=⟨_,rfl⟩
  subst hst
  replace hi3:x_1=(i2:Int):=hi3
  show Qg (Qa7 s1 v2 x_1) _
  unfold Qa7
  refine T1 (fun hc8=>?_) (fun hc8=>?_)
  ·refine T0 (T4 (by omega) (by simp_all)) (fun e_9 hv10=>?_)
   refine T0 (Qv1 e_9 v2 (((h_s1).2 e_9 hv10)) (h_v2)) (fun x_11 hv12=>?_)
   refine T1 (fun hc13=>?_) (fun hc13=>?_)
   ·exact T2 (Qm trivial)
   exact T2 (QC ⟨(by simp_all),by subst hi3;exact Qx (by simp_all) (h_s1).1,trivial⟩)
  exact T2 (Qm trivial)
 rcases q6 with q6 | q6
 ·show Qg (Qa8 q6) _
  unfold Qa8
  exact T3
 show Qg (Qa9) _
 unfold Qa9
 exact T3
theorem Qh6 (s1:(List QD))(v2:QD)(h_s1:(QR QaN) s1)(h_v2:QaN v2):Qg (Qba s1 v2) fun r=>True:=by
 unfold Qba
 refine T0 (Qjd s1 v2 (h_s1) (h_v2)) (fun x_1 hv2=>?_)
 exact T3
theorem Qv2 (v1:Qj)(v2:Int)(v3:QD)(h_v1:QY v1)(h_v3:QaN v3)(hp0:0≤v2)(hp1:v2<v1.Tasks.length):Qg (QkP v1 v2 v3) fun r=>True:=by
 unfold QkP
 refine T0 (T5 (by simp_all;omega)) (fun _ _=>?_)
 refine T0 (Qh6 ((v1.Tasks.drop 0).take (v2.toNat-0)) v3 (((h_v1.2.2.1).drop _).take _) (h_v3)) (fun x_1 hv2=>?_)
 exact T3
theorem Qv3 (v1:Int)(v2:QD)(h_v2:QaN v2):Qg (QhW v1 v2) fun r=>True:=by
 unfold QhW
 exact T3
theorem Qp6 (v1:QaQ)(h_v1:Qej v1):Qg (Qe9 v1) fun r=>True:=by
 unfold Qe9
 refine T0 (Qh0 v1.Name (h_v1.1)) (fun x_1 hv2=>?_)
 exact T3
theorem Qp7 (p1:QaQ)(v2:QaQ)(h_p1:Qej p1)(h_v2:Qej v2):Qg (Qfa p1 v2) fun r=>True:=by
 unfold Qfa
 exact T3
theorem Qkj (s1:(List QaQ))(v2:QaQ)(h_s1:(QR Qej) s1)(h_v2:Qej v2):Qg (QbK s1 v2) fun r=>True:=by
 unfold QbK
 refine T0 (Qg.up (s1.length) (fun st=>st) (fun _=>True) (Q:=fun q=>True) rfl trivial (fun i2 st hi3 hn4 hj5=>?_)) (fun q6 hq7=>?_)
 ·obtain⟨x_1,hst⟩:∃y,y=st:=⟨_,rfl⟩
  subst hst
  replace hi3:x_1=(i2:Int):=hi3
  show Qg (Qbj s1 v2 x_1) _
  unfold Qbj
  refine T1 (fun hc8=>?_) (fun hc8=>?_)
  ·refine T0 (T4 (by omega) (by simp_all)) (fun e_9 hv10=>?_)
   refine T0 (Qp7 e_9 v2 (((h_s1).2 e_9 hv10)) (h_v2)) (fun x_11 hv12=>?_)
   refine T1 (fun hc13=>?_) (fun hc13=>?_)
   ·exact T2 (Qm trivial)
   exact T2 (QC ⟨(by simp_all),by subst hi3;exact Qx (by simp_all) (h_s1).1,trivial⟩)
  exact T2 (Qm trivial)
 rcases q6 with q6 | q6
 ·show Qg (Qbk q6) _
  unfold Qbk
  exact T3
 show Qg (Qbl) _
 unfold Qbl
 exact T3
theorem QiW (s1:(List QaQ))(v2:QaQ)(h_s1:(QR Qej) s1)(h_v2:Qej v2):Qg (Qbm s1 v2) fun r=>True:=by
 unfold Qbm
 refine T0 (Qkj s1 v2 (h_s1) (h_v2)) (fun x_1 hv2=>?_)
 exact T3
theorem Qp8 (v1:(List QaQ))(v2:Int)(v3:QaQ)(h_v1:(QR Qej) v1)(h_v3:Qej v3)(hp0:0≤v2)(hp1:v2<v1.length):Qg (Qfb v1 v2 v3) fun r=>True:=by
 unfold Qfb
 refine T0 (T5 (by simp_all;omega)) (fun _ _=>?_)
 refine T0 (QiW ((v1.drop 0).take (v2.toNat-0)) v3 (((h_v1).drop _).take _) (h_v3)) (fun x_1 hv2=>?_)
 exact T3
theorem Qp9 (v1:Qj)(v2:QaQ)(h_v1:QY v1)(h_v2:Qej v2):Qg (Qfc v1 v2) fun r=>True:=by
 unfold Qfc
 refine T0 (QiU v1.Colours v2.Colour (h_v1.1)) (fun x_1 hv2=>?_)
 exact T3
theorem Qum (v1:QaQ)(v2:Int)(v3:(List QaQ))(v4:Int)(v5:Int)(v6:Qj)(v7:Int)(h_v1:Qej v1)(h_v3:(QR Qej) v3)(h_v6:QY v6)(hp0:0≤v4)(hp1:v4<v3.length):Qg (Qiy v1 v2 v3 v4 v5 v6 v7) fun r=>True:=by
 unfold Qiy
 refine T0 (Qp6 v1 (h_v1)) (fun x_1 hv2=>?_)
 refine T1 (fun hc3=>?_) (fun hc3=>?_)
 ·exact T3
 refine T0 (Qp8 v3 v4 v1 (h_v3) (h_v1) (by omega) (by omega)) (fun x_4 hv5=>?_)
 refine T1 (fun hc6=>?_) (fun hc6=>?_)
 ·exact T3
 refine T0 (Qp9 v6 v1 (h_v6) (h_v1)) (fun x_7 hv8=>?_)
 refine T1 (fun hc9=>?_) (fun hc9=>?_)
 ·exact T3
 exact T3
theorem QrV (k1:Int)(v2:QaQ)(v3:(List QaQ))(v4:Qj)(h_v2:Qej v2)(h_v3:(QR Qej) v3)(h_v4:QY v4)(hp0:0≤k1)(hp1:k1<v3.length):Qg (Qgk k1 v2 v3 v4) fun r=>True:=by
 unfold Qgk
 refine T0 (Qum v2 1 v3 k1 5 v4 3 (h_v2) (h_v3) (h_v4) (by omega) (by omega)) (fun x_1 hv2=>?_)
 exact T3
theorem Qrk (l1:(List QaQ))(v2:(List QaQ))(v3:Qj)(h_l1:(QR Qej) l1)(h_v2:(QR Qej) v2)(h_v3:QY v3)(hp0:l1.length≤v2.length):Qg (QfD l1 v2 v3) fun r=>True:=by
 unfold QfD
 refine T0 (Qg.up (l1.length) (fun st=>st) (fun _=>True) (Q:=fun q=>True) rfl trivial (fun i2 st hi3 hn4 hj5=>?_)) (fun q6 hq7=>?_)
 ·obtain⟨x_1,hst⟩:∃y,y=st:=⟨_,rfl⟩
  subst hst
  replace hi3:x_1=(i2:Int):=hi3
  show Qg (Qd9 l1 v2 v3 x_1) _
  unfold Qd9
  refine T1 (fun hc8=>?_) (fun hc8=>?_)
  ·refine T0 (T4 (by omega) (by simp_all)) (fun e_9 hv10=>?_)
   refine T0 (QrV x_1 e_9 v2 v3 (((h_l1).2 e_9 hv10)) (h_v2) (h_v3) (by omega) (by simp_all;omega)) (fun x_11 hv12=>?_)
   refine T1 (fun hc13=>?_) (fun hc13=>?_)
   ·exact T2 (Qm trivial)
   exact T2 (QC ⟨(by simp_all),by subst hi3;exact Qx (by simp_all) (h_l1).1,trivial⟩)
  exact T2 (Qm trivial)
 rcases q6 with q6 | q6
 ·show Qg (Qea q6.1 q6.2) _
  unfold Qea
  exact T3
 show Qg (Qeb) _
 unfold Qeb
 exact T3
theorem Qtu (n1:Qj)(l2:(List QaQ))(h_n1:QY n1)(h_l2:(QR Qej) l2):Qg (Qhz n1 l2) fun r=>True:=by
 unfold Qhz
 refine T0 (Qrk l2 l2 n1 (h_l2) (h_l2) (h_n1) (by omega)) (fun x_1 hv2=>?_)
 exact T3
theorem Qv4 (v1:Qj)(v2:QD)(h_v1:QY v1)(h_v2:QaN v2):Qg (QkQ v1 v2) fun r=>True:=by
 unfold QkQ
 refine T0 (Qtu v1 v2.Vars (h_v1) (h_v2.2.1)) (fun x_1 hv2=>?_)
 exact T3
theorem Qvf (v1:Qj)(v2:QD)(v3:Int)(h_v1:QY v1)(h_v2:QaN v2):Qg (QgV v1 v2 v3) fun r=>True:=by
 unfold QgV
 refine T0 (Qv4 v1 v2 (h_v1) (h_v2)) (fun x_1 hv2=>?_)
 exact T3
theorem QqZ (n1:Qj)(k2:Int)(h_n1:QY n1):Qg (Qde n1 k2) fun r=>True:=by
 unfold Qde
 refine T0 (Qki n1.Tasks k2 (h_n1.2.2.1)) (fun x_1 hv2=>?_)
 refine T1 (fun hc3=>?_) (fun hc3=>?_)
 ·exact T3
 refine T0 (T4 (by simp_all) (by simp_all)) (fun e_4 hv5=>?_)
 refine T0 (Qg.up (e_4.Vars.length) (fun st=>st.2) (fun _=>True) (Q:=fun q=>True) rfl trivial (fun i8 st hi9 hn10 hj11=>?_)) (fun q12 hq13=>?_)
 ·obtain⟨out_6,x_7⟩:=st
  replace hi9:x_7=(i8:Int):=hi9
  show Qg (Qew e_4 n1 out_6 x_7) _
  unfold Qew
  refine T1 (fun hc14=>?_) (fun hc14=>?_)
  ·refine T0 (T4 (by omega) (by simp_all)) (fun e_15 hv16=>?_)
   refine T0 (Qc0 n1.Colours e_15.Colour (h_n1.1)) (fun x_17 hv18=>?_)
   refine T1 (fun hc19=>?_) (fun hc19=>?_)
   ·exact T2 (Qm trivial)
   exact T2 (QC ⟨(by simp_all),by subst hi9;exact Qx (by simp_all) (((h_n1.2.2.1).2 e_4 hv5).2.1).1,trivial⟩)
  exact T2 (Qm trivial)
 rcases q12 with q12 | q12
 ·show Qg (Qiz) _
  unfold Qiz
  exact T3
 show Qg (QiA q12) _
 unfold QiA
 exact T3
theorem Qv5 (v1:Qj)(v2:Int)(h_v1:QY v1):Qg (QhX v1 v2) fun r=>True:=by
 unfold QhX
 refine T0 (QqZ v1 v2 (h_v1)) (fun x_1 hv2=>?_)
 exact T3
theorem Qyl (kind1:Int):Qg (QnI kind1) fun r=>0≤r→(kind1=1∨kind1=2∨kind1=3∨kind1=4∨kind1=5∨kind1=6)∧(kind1=3∨kind1=4→r=1)∧(kind1=5→r=2)∧(kind1=6→r=3):=by
 unfold QnI
 refine T1 (fun hc=>?_) (fun hc=>?_)
 ·unfold QhN;rw [hc]
  simp only [beq_iff_eq]at hc
  exact T2 (by omega)
 simp only [beq_eq_false_iff_ne]at hc
 unfold QhN
 refine T1 (fun hc=>T2 (by simp only [beq_iff_eq]at hc;omega)) (fun hc2=>?_)
 simp only [beq_eq_false_iff_ne]at hc2
 refine T1 (fun hc3=>?_) (fun hc3=>?_)
 ·unfold QhM;rw [hc3]
  simp only [beq_iff_eq]at hc3
  exact T2 (by omega)
 simp only [beq_eq_false_iff_ne]at hc3
 unfold QhM
 refine T1 (fun hc=>T2 (by simp only [beq_iff_eq]at hc;omega)) (fun hc4=>?_)
 simp only [beq_eq_false_iff_ne]at hc4
 refine T1 (fun hc=>T2 (by simp only [beq_iff_eq]at hc;omega)) (fun hc5=>?_)
 simp only [beq_eq_false_iff_ne]at hc5
 exact T1 (fun hc=>T2 (by simp only [beq_iff_eq]at hc;omega)) (fun hc6=>T2 (by omega))
theorem QxB (op1:Int)  : Qg (Qmo op1) fun r=>True:=by
 unfold Qmo
 exact T3
theorem Qnt (rec_:Qo→Int→Option Bool)(s1:List Qo)(v2:Int)(h1:s1.length≤maxLen)(h:∀k∈s1,Qg (rec_ k v2) fun r=>r=true→POk v2 k):Qg (Qa5 rec_ s1 v2) fun r=>r=false→∀k∈s1,POk v2 k:=by
 unfold Qa5 QcE
 refine T0 (P:=fun x=>x<0→∀k∈s1,POk v2 k) ?_ fun x hx=>T2 fun h=>hx (by simp only [QW]at h;omega)
 refine T0 (Qg.up s1.length (fun st=>st) (fun st=>∀(j:Nat) k,(j:Int)<st→s1[j]? = some k→POk v2 k) (Q:=fun q=>(∀x,q=.inl x→0≤x)∧(q=.inr ()→∀k∈s1,POk v2 k)) rfl (fun j k hj=>by omega) (fun i st hi hn hj=>?_)) (fun q hq=>?_)
 ·show Qg (Qa4 s1 rec_ v2 st) _
  unfold Qa4 Qnh
  refine T1 (fun hc=>?_) (fun hc=>T2 (Qm ⟨fun x h=>(by cases h),fun _ k hk=>by
   obtain⟨j,hj1,hj2⟩:=Qjf.1 hk
   simp only [QW]at hc
   exact hj j k (by omega) (by rw [Qw hj1,hj2])⟩))
  simp only [QE]at hc
  rw [Qi1 (by omega)]
  have hlt:st.toNat<s1.length:=by omega
  rw [Qw hlt]
  refine T0 (P:=fun k=>k=s1[st.toNat]) (T2 rfl) fun k hk=>?_
  subst hk
  refine T0 (P:=fun r=>r=false→POk v2 s1[st.toNat]) (T0 (h _ (Qao hlt)) fun x hx=>T2 fun h=>hx (by simpa using h)) fun x hx=>?_
  refine T1 (fun _=>T2 (Qm ⟨fun x h=>(by cases h;omega),fun h=>(by cases h)⟩)) fun hxf=>T2 (QC ⟨by omega,by rw [hi];exact Qx (by omega) h1,?_⟩)
  rw [hi,Qx (show i<s1.length by omega) h1]
  intro j k hj' hk
  by_cases c:j=i
  ·subst c
   have e:st.toNat=j:=by omega
   have:=hx hxf
   rw [Qw (by omega)]at hk
   cases hk
   simpa only [e] using this
  exact hj j k (by omega) hk
 rcases q with q | q
 ·exact T2 fun h=>absurd (hq.1 q rfl) (by omega)
 exact T2 fun _=>hq.2 rfl
theorem QpU : ∀(n:Nat) (e:Qo) (v:Int),Qdo e→SizeOf.sizeOf e≤n→Qg (Qeq n e v) fun r=>r=true→POk v e
 | 0,e,_,_,h=>absurd e.pos (by omega)
 | n+1,e,v,he,h=>by
  unfold Qeq Qni
  refine T0 (Qyl e.Kind) fun x hx=>?_
  refine T1 (fun _=>T2 fun h=>by cases h) fun h1=>T1 (fun _=>T2 fun h=>by cases h) fun h2=>?_
  refine T0 (P:=fun _=>True) ?_ fun y _=>?_
  ·unfold Qqw
   exact T1 (fun _=>T0 (QxB e.Num) fun x _=>T3) fun _=>T3
  unfold Qjn
  refine T1 (fun _=>T2 fun h=>by cases h) fun _=>?_
  refine T0 (Qnt (Qeq n) e.Kids v (QeU he).1 fun k hk=>QpU n k v ((QeU he).2 k hk) (by have:=Qug hk;omega)) fun x hx2=>T2 fun hx3=>?_
  simp only [bne_eq_false_iff_eq]at h1
  have h3:=hx (by omega)
  simp only [Bool.and_eq_false_iff,QcU,QW,beq_eq_false_iff_ne]at h2
  exact .mk e h3.1 (fun hk=>by omega) (fun hk=>by have:=h3.2.1 hk;omega) (fun hk=>by have:=h3.2.2.1 hk;omega) (fun hk=>by have:=h3.2.2.2 hk;omega) (hx2 (by simpa using hx3))
theorem QxC (e1:Qo)(vars2:Int)(h_e1:Qdo e1):Qg (Qpx e1 vars2) fun r=>r=true→POk vars2 e1:=QpU _ e1 vars2 h_e1 (QbX _)
theorem QpV : ∀(n:Nat) (e:Qo),Qdo e→SizeOf.sizeOf e≤n→Qg (Qep n e) fun _=>True
 | 0,e,_,h=>absurd e.pos (by omega)
 | n+1,e,he,h=>by
  unfold Qep Qnf
  refine T0 (Qg.up e.Kids.length (fun st=>st.2) (fun _=>True) (Q:=fun _=>True) rfl trivial (fun i st hi hn _=>?_)) (fun q _=>?_)
  ·obtain⟨a,x⟩:=st
   replace hi:x=(i:Int):=hi
   show Qg (Qjm e (Qep n) a x) _
   unfold Qjm
   refine T1 (fun hc=>?_) (fun hc=>?_)
   ·simp only [QE]at hc
    refine T0 (T4 (by omega) (by omega)) fun k hk=>?_
    have:=Qug hk
    refine T0 (QpV n k ((QeU he).2 k hk) (by omega)) fun d _=>?_
    exact T2 (QC ⟨by omega,by subst hi;exact Qx (by omega) (QeU he).1,trivial⟩)
   exact T2 (Qm trivial)
  unfold Qmn
  exact T3
theorem QxD (e1:Qo)(h_e1:Qdo e1):Qg (Qpv e1) fun _=>True:=QpV _ e1 h_e1 (QbX _)
theorem Qq0 : ∀(n:Nat) (e:Qo),Qdo e→SizeOf.sizeOf e≤n→Qg (Qfh n e) fun _=>True
 | 0,e,_,h=>absurd e.pos (by omega)
 | n+1,e,he,h=>by
  unfold Qfh Qn7
  refine T0 (Qg.up e.Kids.length (fun st=>st.2) (fun _=>True) (Q:=fun _=>True) rfl trivial (fun i st hi hn _=>?_)) (fun q _=>?_)
  ·obtain⟨a,x⟩:=st
   replace hi:x=(i:Int):=hi
   show Qg (QkB e (Qfh n) a x) _
   unfold QkB
   refine T1 (fun hc=>?_) (fun hc=>?_)
   ·simp only [QE]at hc
    refine T0 (T4 (by omega) (by omega)) fun k hk=>?_
    have:=Qug hk
    refine T0 (Qq0 n k ((QeU he).2 k hk) (by omega)) fun d _=>?_
    exact T2 (QC ⟨by omega,by subst hi;exact Qx (by omega) (QeU he).1,trivial⟩)
   exact T2 (Qm trivial)
  unfold Qng
  exact T3
theorem Qym (e1:Qo)(h_e1:Qdo e1):Qg (Qrc e1) fun _=>True:=Qq0 _ e1 h_e1 (QbX _)
theorem Qnu (e1:Qo)(vars2:Int)(h_e1:Qdo e1):Qg (QhP e1 vars2) fun r=>r=true→POk vars2 e1:=by
 unfold QhP
 refine T0 (P:=fun r=>r=true→POk vars2 e1) ?_ (fun x hx=>T2 hx)
 unfold Qqx
 refine T0 (QxD e1 h_e1) (fun x _=>?_)
 refine T1 (fun _=>?_) (fun _=>T2 fun h=>by cases h)
 refine T0 (Qym e1 h_e1) (fun x _=>?_)
 refine T1 (fun _=>?_) (fun _=>T2 fun h=>by cases h)
 exact T0 (QxC e1 vars2 h_e1) (fun x hx=>T2 hx)
theorem Qv6 (v1:QD)(v2:Int)(h_v1:QaN v1):Qg (QkR v1 v2) fun r=>True:=by
 unfold QkR
 refine T0 (P:=fun _=>True) ?_ (fun x_1 hv2=>?_)
 ·unfold QoA
  refine T0 (Qnu v1.Guard v2 (h_v1.2.2.1)) (fun x_3 hv4=>?_)
  refine T1 (fun hc5=>?_) (fun hc5=>?_)
  ·refine T1 (fun hc6=>?_) (fun hc6=>?_)
   ·exact T3
   exact T3
  exact T3
 unfold QhA
 exact T3
theorem Qun (v1:Qj)(v2:Qax)(h_v1:QY v1)(h_v2:Qkh v2):Qg (QiB v1 v2) fun r=>True:=by
 unfold QiB
 refine T0 (Qcu v1.Places v2.Place (h_v1.2.1)) (fun x_1 hv2=>?_)
 exact T3
theorem Quo (v1:Qax)(v2:Int)(h_v1:Qkh v1):Qg (QiC v1 v2) fun r=>True:=by
 unfold QiC
 refine T0 (Qnu v1.Expr v2 (h_v1.2)) (fun x_1 hv2=>?_)
 exact T3
theorem Qup (v1:Qj)(v2:Qax)(v3:Int)(v4:Int)(v5:Int)(h_v1:QY v1)(h_v2:Qkh v2):Qg (QiD v1 v2 v3 v4 v5) fun r=>True:=by
 unfold QiD
 refine T0 (Qun v1 v2 (h_v1) (h_v2)) (fun x_1 hv2=>?_)
 refine T1 (fun hc3=>?_) (fun hc3=>?_)
 ·exact T3
 refine T0 (Quo v2 v4 (h_v2)) (fun x_4 hv5=>?_)
 refine T1 (fun hc6=>?_) (fun hc6=>?_)
 ·exact T3
 exact T3
theorem Qv7 (p1:Int)(a2:Qax)(v3:Qj)(v4:Int)(h_a2:Qkh a2)(h_v3:QY v3):Qg (QkS p1 a2 v3 v4) fun r=>True:=by
 unfold QkS
 refine T0 (Qup v3 a2 3 v4 1 (h_v3) (h_a2)) (fun x_1 hv2=>?_)
 exact T3
theorem Qrl (l1:(List Qax))(v2:Qj)(v3:Int)(h_l1:(QR Qkh) l1)(h_v2:QY v2):Qg (QfE l1 v2 v3) fun r=>True:=by
 unfold QfE
 refine T0 (Qg.up (l1.length) (fun st=>st) (fun _=>True) (Q:=fun q=>True) rfl trivial (fun i2 st hi3 hn4 hj5=>?_)) (fun q6 hq7=>?_)
 ·obtain⟨x_1,hst⟩:∃y,y=st:=⟨_,rfl⟩
  subst hst
  replace hi3:x_1=(i2:Int):=hi3
  show Qg (Qec l1 v2 v3 x_1) _
  unfold Qec
  refine T1 (fun hc8=>?_) (fun hc8=>?_)
  ·refine T0 (T4 (by omega) (by simp_all)) (fun e_9 hv10=>?_)
   refine T0 (Qv7 x_1 e_9 v2 v3 (((h_l1).2 e_9 hv10)) (h_v2)) (fun x_11 hv12=>?_)
   refine T1 (fun hc13=>?_) (fun hc13=>?_)
   ·exact T2 (Qm trivial)
   exact T2 (QC ⟨(by simp_all),by subst hi3;exact Qx (by simp_all) (h_l1).1,trivial⟩)
  exact T2 (Qm trivial)
 rcases q6 with q6 | q6
 ·show Qg (Qed q6.1 q6.2) _
  unfold Qed
  exact T3
 show Qg (Qee) _
 unfold Qee
 exact T3
theorem QrW (n1:Qj)(l2:(List Qax))(vars3:Int)(h_n1:QY n1)(h_l2:(QR Qkh) l2):Qg (Qkc n1 l2 vars3) fun r=>True:=by
 unfold Qkc
 refine T0 (Qrl l2 n1 vars3 (h_l2) (h_n1)) (fun x_1 hv2=>?_)
 exact T3
theorem Qv8 (v1:Qj)(v2:QD)(v3:Int)(h_v1:QY v1)(h_v2:QaN v2):Qg (QkT v1 v2 v3) fun r=>True:=by
 unfold QkT
 refine T0 (QrW v1 v2.Ins v3 (h_v1) (h_v2.2.2.2.2.2.1)) (fun x_1 hv2=>?_)
 exact T3
theorem QsP (v1:Qj)(v2:QD)(v3:Int)(v4:Int)(h_v1:QY v1)(h_v2:QaN v2):Qg (QgW v1 v2 v3 v4) fun r=>True:=by
 unfold QgW
 refine T0 (Qv8 v1 v2 v3 (h_v1) (h_v2)) (fun x_1 hv2=>?_)
 exact T3
theorem Qv9 (v1:Qj)(v2:QD)(v3:Int)(h_v1:QY v1)(h_v2:QaN v2):Qg (QkU v1 v2 v3) fun r=>True:=by
 unfold QkU
 refine T0 (QrW v1 v2.Outs v3 (h_v1) (h_v2.2.2.2.2.2.2.1)) (fun x_1 hv2=>?_)
 exact T3
theorem QsQ (v1:Qj)(v2:QD)(v3:Int)(v4:Int)(h_v1:QY v1)(h_v2:QaN v2):Qg (QgX v1 v2 v3 v4) fun r=>True:=by
 unfold QgX
 refine T0 (Qv9 v1 v2 v3 (h_v1) (h_v2)) (fun x_1 hv2=>?_)
 exact T3
theorem QrX (v1:Qj)(v2:Int)(h_v1:QY v1):Qg (Qgl v1 v2) fun r=>True:=by
 unfold Qgl
 refine T0 (Qcu v1.Places v2 (h_v1.2.1)) (fun x_1 hv2=>?_)
 exact T3
theorem QpW (s1:(List Int))(v2:Int)(h_s1:(QR (fun _=>True)) s1):Qg (QeC s1 v2) fun r=>True:=by
 unfold QeC
 refine T0 (Qg.up (s1.length) (fun st=>st) (fun _=>True) (Q:=fun q=>True) rfl trivial (fun i2 st hi3 hn4 hj5=>?_)) (fun q6 hq7=>?_)
 ·obtain⟨x_1,hst⟩:∃y,y=st:=⟨_,rfl⟩
  subst hst
  replace hi3:x_1=(i2:Int):=hi3
  show Qg (Qdu s1 v2 x_1) _
  unfold Qdu
  refine T1 (fun hc8=>?_) (fun hc8=>?_)
  ·refine T0 (T4 (by omega) (by simp_all)) (fun e_9 hv10=>?_)
   refine T1 (fun hc11=>?_) (fun hc11=>?_)
   ·exact T2 (Qm trivial)
   exact T2 (QC ⟨(by simp_all),by subst hi3;exact Qx (by simp_all) (h_s1).1,trivial⟩)
  exact T2 (Qm trivial)
 rcases q6 with q6 | q6
 ·show Qg (Qdv q6) _
  unfold Qdv
  exact T3
 show Qg (Qdw) _
 unfold Qdw
 exact T3
theorem Qia (s1:(List Int))(v2:Int)(h_s1:(QR (fun _=>True)) s1):Qg (Qbx s1 v2) fun r=>True:=by
 unfold Qbx
 refine T0 (QpW s1 v2 (h_s1)) (fun x_1 hv2=>?_)
 exact T3
theorem QrY (v1:(List Int))(v2:Int)(v3:Int)(h_v1:(QR (fun _=>True)) v1)(hp0:0≤v2)(hp1:v2<v1.length):Qg (Qgm v1 v2 v3) fun r=>True:=by
 unfold Qgm
 refine T0 (T5 (by simp_all;omega)) (fun _ _=>?_)
 refine T0 (Qia ((v1.drop 0).take (v2.toNat-0)) v3 (((h_v1).drop _).take _)) (fun x_1 hv2=>?_)
 exact T3
theorem Quq (v1:Qj)(v2:Int)(v3:Int)(v4:(List Int))(v5:Int)(v6:Int)(h_v1:QY v1)(h_v4:(QR (fun _=>True)) v4)(hp0:0≤v5)(hp1:v5<v4.length):Qg (QiE v1 v2 v3 v4 v5 v6) fun r=>True:=by
 unfold QiE
 refine T0 (QrX v1 v2 (h_v1)) (fun x_1 hv2=>?_)
 refine T1 (fun hc3=>?_) (fun hc3=>?_)
 ·exact T3
 refine T0 (QrY v4 v5 v2 (h_v4) (by omega) (by omega)) (fun x_4 hv5=>?_)
 refine T1 (fun hc6=>?_) (fun hc6=>?_)
 ·exact T3
 exact T3
theorem Qtv (k1:Int)(place2:Int)(v3:Qj)(v4:(List Int))(h_v3:QY v3)(h_v4:(QR (fun _=>True)) v4)(hp0:0≤k1)(hp1:k1<v4.length):Qg (QhB k1 place2 v3 v4) fun r=>True:=by
 unfold QhB
 refine T0 (Quq v3 place2 3 v4 k1 5 (h_v3) (h_v4) (by omega) (by omega)) (fun x_1 hv2=>?_)
 exact T3
theorem Qur (l1:(List Int))(v2:Qj)(v3:(List Int))(h_l1:(QR (fun _=>True)) l1)(h_v2:QY v2)(h_v3:(QR (fun _=>True)) v3)(hp0:l1.length≤v3.length):Qg (QiF l1 v2 v3) fun r=>True:=by
 unfold QiF
 refine T0 (Qg.up (l1.length) (fun st=>st) (fun _=>True) (Q:=fun q=>True) rfl trivial (fun i2 st hi3 hn4 hj5=>?_)) (fun q6 hq7=>?_)
 ·obtain⟨x_1,hst⟩:∃y,y=st:=⟨_,rfl⟩
  subst hst
  replace hi3:x_1=(i2:Int):=hi3
  show Qg (Qgn l1 v2 v3 x_1) _
  unfold Qgn
  refine T1 (fun hc8=>?_) (fun hc8=>?_)
  ·refine T0 (T4 (by omega) (by simp_all)) (fun e_9 hv10=>?_)
   refine T0 (Qtv x_1 e_9 v2 v3 (h_v2) (h_v3) (by omega) (by simp_all;omega)) (fun x_11 hv12=>?_)
   refine T1 (fun hc13=>?_) (fun hc13=>?_)
   ·exact T2 (Qm trivial)
   exact T2 (QC ⟨(by simp_all),by subst hi3;exact Qx (by simp_all) (h_l1).1,trivial⟩)
  exact T2 (Qm trivial)
 rcases q6 with q6 | q6
 ·show Qg (Qgo q6.1 q6.2) _
  unfold Qgo
  exact T3
 show Qg (Qgp) _
 unfold Qgp
 exact T3
theorem Qvg (n1:Qj)(l2:(List Int))(h_n1:QY n1)(h_l2:(QR (fun _=>True)) l2):Qg (QjK n1 l2) fun r=>True:=by
 unfold QjK
 refine T0 (Qur l2 n1 l2 (h_l2) (h_n1) (h_l2) (by omega)) (fun x_1 hv2=>?_)
 exact T3
theorem Qvh (v1:Qj)(v2:QD)(h_v1:QY v1)(h_v2:QaN v2):Qg (QjL v1 v2) fun r=>True:=by
 unfold QjL
 refine T0 (Qvg v1 v2.Cancel (h_v1) (h_v2.2.2.2.2.2.2.2.1)) (fun x_1 hv2=>?_)
 exact T3
theorem QsR (v1:Qj)(v2:QD)(v3:Int)(h_v1:QY v1)(h_v2:QaN v2):Qg (QgY v1 v2 v3) fun r=>True:=by
 unfold QgY
 refine T0 (Qvh v1 v2 (h_v1) (h_v2)) (fun x_1 hv2=>?_)
 exact T3
theorem QoD (k1:Int)(l2:(List Qax))(h_l2:(QR Qkh) l2):Qg (Qfd k1 l2) fun r=>True:=by
 unfold Qfd
 exact T3
theorem QwZ (t1:QD)(h_t1:QaN t1):Qg (QiS t1) fun r=>True:=by
 unfold QiS
 refine T0 (P:=fun _=>True) ?_ (fun x_1 hv2=>?_)
 ·unfold QpQ
  refine T0 (QoD t1.Join t1.Ins (h_t1.2.2.2.2.2.1)) (fun x_3 hv4=>?_)
  refine T1 (fun hc5=>?_) (fun hc5=>?_)
  ·refine T0 (QoD t1.Split t1.Outs (h_t1.2.2.2.2.2.2.1)) (fun x_6 hv7=>?_)
   refine T1 (fun hc8=>?_) (fun hc8=>?_)
   ·refine T1 (fun hc9=>?_) (fun hc9=>?_)
    ·refine T1 (fun hc10=>?_) (fun hc10=>?_)
     ·exact T3
     exact T3
    exact T3
   exact T3
  exact T3
 unfold QiG
 exact T3
theorem Qvi (v1:QD)(h_v1:QaN v1):Qg (QjM v1) fun r=>True:=by
 unfold QjM
 refine T0 (QwZ v1 (h_v1)) (fun x_1 hv2=>?_)
 exact T3
theorem Qus (v1:QD)(v2:Int)(v3:Qj)(v4:Int)(v5:Int)(v6:Int)(v7:Int)(v8:Int)(v9:Int)(v10:Int)(v11:Int)(v12:Int)(v13:Int)(v14:Int)(v15:Int)(h_v1:QaN v1)(h_v3:QY v3)(hp0:0≤v4)(hp1:v4<v3.Tasks.length):Qg (Qex v1 v2 v3 v4 v5 v6 v7 v8 v9 v10 v11 v12 v13 v14 v15) fun r=>True:=by
 unfold Qex
 refine T0 (Qv0 v1 (h_v1)) (fun x_1 hv2=>?_)
 refine T1 (fun hc3=>?_) (fun hc3=>?_)
 ·exact T3
 refine T0 (Qv2 v3 v4 v1 (h_v3) (h_v1) (by omega) (by omega)) (fun x_4 hv5=>?_)
 refine T1 (fun hc6=>?_) (fun hc6=>?_)
 ·exact T3
 refine T0 (Qv3 v6 v1 (h_v1)) (fun x_7 hv8=>?_)
 refine T1 (fun hc9=>?_) (fun hc9=>?_)
 ·exact T3
 refine T0 (Qvf v3 v1 v8 (h_v3) (h_v1)) (fun x_10 hv11=>?_)
 refine T1 (fun hc12=>?_) (fun hc12=>?_)
 ·exact T3
 refine T0 (Qv5 v3 v4 (h_v3)) (fun x_13 hv14=>?_)
 refine T1 (fun hc15=>?_) (fun hc15=>?_)
 ·exact T3
 refine T0 (Qv6 v1 v6 (h_v1)) (fun x_16 hv17=>?_)
 refine T1 (fun hc18=>?_) (fun hc18=>?_)
 ·exact T3
 refine T0 (QsP v3 v1 v6 x_10.2 (h_v3) (h_v1)) (fun x_19 hv20=>?_)
 refine T1 (fun hc21=>?_) (fun hc21=>?_)
 ·exact T3
 refine T0 (QsQ v3 v1 v6 x_19.2 (h_v3) (h_v1)) (fun x_22 hv23=>?_)
 refine T1 (fun hc24=>?_) (fun hc24=>?_)
 ·exact T3
 refine T0 (QsR v3 v1 x_22.2 (h_v3) (h_v1)) (fun x_25 hv26=>?_)
 refine T1 (fun hc27=>?_) (fun hc27=>?_)
 ·exact T3
 refine T0 (Qvi v1 (h_v1)) (fun x_28 hv29=>?_)
 refine T1 (fun hc30=>?_) (fun hc30=>?_)
 ·exact T3
 exact T3
theorem QrZ (n1:Qj)(k2:Int)(h_n1:QY n1):Qg (Qb9 n1 k2) fun r=>True:=by
 unfold Qb9
 refine T0 (Qki n1.Tasks k2 (h_n1.2.2.1)) (fun x_1 hv2=>?_)
 refine T1 (fun hc3=>?_) (fun hc3=>?_)
 ·exact T3
 refine T0 (QoC n1 (h_n1)) (fun x_4 hv5=>?_)
 refine T1 (fun hc6=>?_) (fun hc6=>?_)
 ·exact T3
 refine T0 (T4 (by simp_all) (by simp_all)) (fun e_7 hv8=>?_)
 refine T0 (T4 (by simp_all) (by simp_all)) (fun e_9 hv10=>?_)
 refine T0 (QwY 0 n1 e_7 (h_n1) (((h_n1.2.2.1).2 e_7 hv8))) (fun x_11 hv12=>?_)
 refine T0 (Quj 0 n1 e_7 (e_9.Vars.length:Int) (h_n1) (((h_n1.2.2.1).2 e_7 hv8))) (fun x_13 hv14=>?_)
 refine T0 (Quk 0 n1 e_7 (e_9.Vars.length:Int) (h_n1) (((h_n1.2.2.1).2 e_7 hv8))) (fun x_15 hv16=>?_)
 refine T0 (Qul 0 n1 e_7 (h_n1) (((h_n1.2.2.1).2 e_7 hv8))) (fun x_17 hv18=>?_)
 refine T0 (Qus e_7 1 n1 k2 5 (e_9.Vars.length:Int) 2 0 (-1) 2 1 (-1) (-1) (-1) 11 (((h_n1.2.2.1).2 e_7 hv8)) (h_n1) (by simp_all) (by simp_all)) (fun x_19 hv20=>?_)
 refine T1 (fun hc21=>?_) (fun hc21=>?_)
 ·exact T3
 exact T3
theorem Qw0 (k1:Int)(p2:QD)(v3:Qj)(h_p2:QaN p2)(h_v3:QY v3):Qg (QiT k1 p2 v3) fun r=>True:=by
 unfold QiT
 refine T0 (QrZ v3 k1 (h_v3)) (fun x_1 hv2=>?_)
 exact T3
theorem Qqa (l1:(List QD))(v2:Qj)(h_l1:(QR QaN) l1)(h_v2:QY v2):Qg (Qcw l1 v2) fun r=>True:=by
 unfold Qcw
 refine T0 (Qg.up (l1.length) (fun st=>st) (fun _=>True) (Q:=fun q=>True) rfl trivial (fun i2 st hi3 hn4 hj5=>?_)) (fun q6 hq7=>?_)
 ·obtain⟨x_1,hst⟩:∃y,y=st:=⟨_,rfl⟩
  subst hst
  replace hi3:x_1=(i2:Int):=hi3
  show Qg (QbS l1 v2 x_1) _
  unfold QbS
  refine T1 (fun hc8=>?_) (fun hc8=>?_)
  ·refine T0 (T4 (by omega) (by simp_all)) (fun e_9 hv10=>?_)
   refine T0 (Qw0 x_1 e_9 v2 (((h_l1).2 e_9 hv10)) (h_v2)) (fun x_11 hv12=>?_)
   refine T1 (fun hc13=>?_) (fun hc13=>?_)
   ·exact T2 (Qm trivial)
   exact T2 (QC ⟨(by simp_all),by subst hi3;exact Qx (by simp_all) (h_l1).1,trivial⟩)
  exact T2 (Qm trivial)
 rcases q6 with q6 | q6
 ·show Qg (QdP q6.1 q6.2) _
  unfold QdP
  exact T3
 show Qg (QdQ) _
 unfold QdQ
 exact T3
theorem Qyn (n1:Qj)(h_n1:QY n1):Qg (QfO n1) fun r=>True:=by
 unfold QfO
 refine T0 (QwR n1 2 3 1 (h_n1)) (fun x_1 hv2=>?_)
 refine T1 (fun hc3=>?_) (fun hc3=>?_)
 ·exact T3
 refine T0 (QoC n1 (h_n1)) (fun x_4 hv5=>?_)
 refine T1 (fun hc6=>?_) (fun hc6=>?_)
 ·exact T3
 refine T0 (QpT n1.Places n1 (h_n1.2.1) (h_n1)) (fun x_7 hv8=>?_)
 refine T1 (fun hc9=>?_) (fun hc9=>?_)
 ·exact T3
 refine T0 (Qqa n1.Tasks n1 (h_n1.2.2.1) (h_n1)) (fun x_10 hv11=>?_)
 refine T1 (fun hc12=>?_) (fun hc12=>?_)
 ·exact T3
 exact T3
theorem Qza (a1:Int)(b2:Int)  : Qg (QoQ a1 b2) fun r=>True:=by
 unfold QoQ
 refine T1 (fun hc1=>?_) (fun hc1=>?_)
 ·exact T3
 exact T3
theorem Qtw (a1:Int)(b2:Int)  : Qg (Qhm a1 b2) fun r=>True:=by
 unfold Qhm
 refine T1 (fun hc1=>?_) (fun hc1=>?_)
 ·exact T3
 exact T3
theorem Qta (a1:Int)  : Qg (Qlf a1) fun r=>True:=by
 unfold Qlf
 refine T1 (fun hc1=>?_) (fun hc1=>?_)
 ·exact T3
 exact T3
theorem Qtx (p1:Int)(y2:Int)  : Qg (Qhn p1 y2) fun r=>True:=by
 unfold Qhn
 exact T3
theorem Qwa (a1:Int)(b2:Int)  : Qg (QkC a1 b2) fun r=>True:=by
 unfold QkC
 refine T0 (Qta a1 ) (fun x_1 hv2=>?_)
 refine T0 (Qta b2 ) (fun x_3 hv4=>?_)
 refine T0 (Qtx x_1 x_3 ) (fun x_5 hv6=>?_)
 refine T1 (fun hc7=>?_) (fun hc7=>?_)
 ·unfold Qfl
  refine T1 (fun hc8=>?_) (fun hc8=>?_)
  ·exact T3
  exact T3
 unfold Qfl
 refine T1 (fun hc9=>?_) (fun hc9=>?_)
 ·exact T3
 exact T3
theorem QoE (a1:Int)(b2:Int)  : Qg (QgK a1 b2) fun r=>True:=by
 unfold QgK
 refine T1 (fun hc1=>?_) (fun hc1=>?_)
 ·exact T3
 refine T1 (fun hc2=>?_) (fun hc2=>?_)
 ·exact T3
 refine T0 (T5 (by simp_all)) (fun _ _=>?_)
 refine T0 (T5 (by simp_all)) (fun _ _=>?_)
 exact T3
theorem QeV (is1:Bool)  : Qg (QdI is1) fun r=>True:=by
 unfold QdI
 refine T1 (fun hc1=>?_) (fun hc1=>?_)
 ·exact T3
 exact T3
theorem Qls (op1:Int)(a2:Int)(b3:Int)  : Qg (Qj4 op1 a2 b3) fun r=>True:=by
 unfold Qj4
 refine T1 (fun hc1=>?_) (fun hc1=>?_)
 ·refine T0 (Qza a2 b3 ) (fun x_2 hv3=>?_)
  exact T3
 refine T1 (fun hc4=>?_) (fun hc4=>?_)
 ·refine T0 (Qtw a2 b3 ) (fun x_5 hv6=>?_)
  exact T3
 refine T1 (fun hc7=>?_) (fun hc7=>?_)
 ·refine T0 (Qwa a2 b3 ) (fun x_8 hv9=>?_)
  exact T3
 refine T1 (fun hc10=>?_) (fun hc10=>?_)
 ·refine T0 (QoE a2 b3 ) (fun x_11 hv12=>?_)
  exact T3
 refine T1 (fun hc13=>?_) (fun hc13=>?_)
 ·refine T0 (QoE a2 b3 ) (fun x_14 hv15=>?_)
  exact T3
 refine T1 (fun hc16=>?_) (fun hc16=>?_)
 ·refine T0 (QeV (a2==b3) ) (fun x_17 hv18=>?_)
  exact T3
 refine T1 (fun hc19=>?_) (fun hc19=>?_)
 ·refine T0 (QeV (a2 != b3) ) (fun x_20 hv21=>?_)
  exact T3
 refine T1 (fun hc22=>?_) (fun hc22=>?_)
 ·refine T0 (QeV (decide (a2<b3)) ) (fun x_23 hv24=>?_)
  exact T3
 refine T1 (fun hc25=>?_) (fun hc25=>?_)
 ·refine T0 (QeV (decide (a2≤b3)) ) (fun x_26 hv27=>?_)
  exact T3
 refine T1 (fun hc28=>?_) (fun hc28=>?_)
 ·refine T0 (P:=fun _=>True) ?_ (fun v_29 hv30=>?_)
  ·unfold QtX
   refine T1 (fun hc31=>?_) (fun hc31=>?_)
   ·refine T0 (QeV (b3 != 0) ) (fun x_32 hv33=>?_)
    exact T3
   refine T0 (QeV false ) (fun x_34 hv35=>?_)
   exact T3
  unfold Qmr
  exact T3
 refine T1 (fun hc36=>?_) (fun hc36=>?_)
 ·refine T0 (P:=fun _=>True) ?_ (fun v_37 hv38=>?_)
  ·unfold QtY
   refine T1 (fun hc39=>?_) (fun hc39=>?_)
   ·refine T0 (QeV true ) (fun x_40 hv41=>?_)
    exact T3
   refine T0 (QeV (b3 != 0) ) (fun x_42 hv43=>?_)
   exact T3
  unfold Qms
  exact T3
 exact T3
theorem Qut (a1:Int)  : Qg (QoR a1) fun r=>True:=by
 unfold QoR
 refine T0 (Qls 2 0 a1 ) (fun x_1 hv2=>?_)
 exact T3
end Go.Proofs
noncomputable section
namespace Go.Proofs
open Go Go.RowKit Go.Vm
theorem Qh1 (b:List (Int×Int))(h:b.length≤maxLen):Qc3 b=some (rtF (-1) b):=by
 unfold Qc3
 have h1:=Qx1 (body:=fun st=>QcR b st.1 st.2) (l:=b) (ρ:=Unit⊕Unit) (fun i (t:Int)=>(t,(i:Int)))
  (fun i t x=>bif ((decide (x.1≤t))||((decide (x.2<1))||(decide (1048576<x.2))))then .inr (.inl ())else .inl x.1) (fun _=>.inr ())
  (fun i t x hi hx=>by
   show QcR b t i=_
   unfold QcR
   rw [Qb5 (by omega:(i:Int)<b.length),cond_true,Q1,hx,Qn]
   cases ((decide (x.1≤t))||((decide (x.2<1))||(decide (1048576<x.2))))with
   | true=>rfl
   | false=>simp only [cond_false,Sum.elim_inl];rw [Qx hi h])
  (fun t=>by
   show QcR b t b.length=_
   unfold QcR
   rw [QeK (by omega)];rfl) (-1) (s0:=(-1,0)) rfl
 rw [h1]
 have:∀(l:List (Int×Int)) (k:Nat) (t:Int),QoW (fun i t (x:Int×Int)=>(bif ((decide (x.1≤t))||((decide (x.2<1))||(decide (1048576<x.2))))then .inr (.inl ())else .inl x.1:Int⊕(Unit⊕Unit))) (fun _=>.inr ()) k t l=bif rtF t l then .inr ()else .inl ():=by
  intro l
  induction l with
  | nil=>intro k t;rfl
  | cons x l ih=>
   intro k t
   rw [QoW,rtF]
   cases ((decide (x.1≤t))||((decide (x.2<1))||(decide (1048576<x.2))))with
   | true=>rfl
   | false=>simp only [cond_false,Sum.elim_inl,Bool.not_false,Bool.true_and];exact ih _ _
 rw [this]
 cases rtF (-1) b<;>rfl
theorem Qq1 (b:List (Int×Int))(h:b.length≤maxLen):QlM b=some (bif rtF (-1) b then .inr b else .inl ()):=by
 unfold QlM
 rw [Qh1 b h,Qn]
 cases hr:rtF (-1) b with
 | false=>rfl
 | true=>
  simp only [Qje,cond_false,cond_true]
  have ha:=(QdS.1 hr).1
  obtain⟨r,h1,h2⟩:=QzH (body:=fun st=>Qg7 b st.1 st.2) b.length (fun i s=>s=((i:Int),b.take i)) (fun r=>r=b)
   (fun i s hi hs=>by
    subst hs
    refine .inl ⟨(((i+1:Nat):Int),b.take (i+1)),?_,rfl⟩
    show Qg7 b i (b.take i)=_
    unfold Qg7
    rw [Qb5 (by omega:(i:Int)<b.length),cond_true,Q1,Qw hi,Qn,Qx hi h]
    have e:b.take (i+1)=b.take i++[b[i]]:=by rw [Qd6,Qw hi];rfl
    rw [e,←QCJ (by have:=(ha.sublist (List.take_sublist (i+1) b));rw [e]at this;exact this)])
   (fun s hs=>by
    subst hs
    refine⟨_,?_,rfl⟩
    show Qg7 b b.length (b.take b.length)=_
    unfold Qg7
    rw [QeK (by omega),Qqj];rfl) (0,[]) rfl
  rw [h1,h2];rfl
theorem Qrm (a b:List (Int×Int))(ha:a.length≤maxLen)(hb:b.length≤maxLen):Qky a b=some (bif rtF (-1) a then(bif rtF (-1) b then .inr (.inr (.inr (a,b)))else .inr (.inr (.inl a)))else(bif rtF (-1) b then .inr (.inl b)else .inl ())):=by
 unfold Qky
 rw [Qq1 a ha]
 cases rtF (-1) a with
 | true=>
  simp only [cond_true,Qn,Sum.elim_inr]
  unfold Qn4
  rw [Qq1 b hb]
  cases rtF (-1) b<;>rfl
 | false=>
  simp only [cond_false,Qn,Sum.elim_inl]
  unfold Qn3
  rw [Qq1 b hb]
  cases rtF (-1) b<;>rfl
theorem QlJ (m:List (Int×Int))(ha:Asc m)(h':m.length≤4294967296):Qem m=some (Qkf m):=by
 have h:m.length≤maxLen:=by unfold maxLen;omega
 unfold Qem QdG Qi7
 simp only [Qb5 h',QAu rfl,Qn,QBB ha]
 obtain⟨r,h1,h2⟩:=QzH (body:=fun st=>Qcj (m.map Prod.fst) m st.1 st.2) m.length (fun i s=>s=((i:Int),Qkf (m.take i))) (fun r=>r=Qkf m)
  (fun i s hi hs=>by
   subst hs
   refine .inl ⟨(((i+1:Nat):Int),Qkf (m.take (i+1))),?_,rfl⟩
   show Qcj (m.map Prod.fst) m i (Qkf (m.take i))=_
   unfold Qcj
   have e:m.take (i+1)=m.take i++[m[i]]:=by rw [Qd6,Qw hi];rfl
   have ec:(QG m m[i].1).getD 0=m[i].2:=Qi2 ha.nd (Qao hi)
   rw [Qb5 (by simp;omega),cond_true,Q1,Qaz,Qw hi,QcD,Qn,ec]
   have hl:(Qkf (m.take i)).length≤i:=Qcb (Quy _ _) (by simp;omega)
   cases hc:decide (0<m[i].2)with
   | true=>
    simp only [cond_true]
    rw [QqY (by simp;omega),Qn]
    unfold Qeg
    rw [Qx hi h,e]
    unfold Qkf
    rw [Qr5,Qkn,if_pos hc];rfl
   | false=>
    simp only [cond_false]
    unfold Qeg
    rw [Qx hi h,e]
    unfold Qkf
    rw [Qr5,Qkn,if_neg (by rw [hc];decide),List.filter_nil,Qqd])
  (fun s hs=>by
   subst hs
   refine⟨_,?_,rfl⟩
   show Qcj (m.map Prod.fst) m m.length (Qkf (m.take m.length))=_
   unfold Qcj
   rw [QeK (by simp),Qqj];rfl) (0,[]) rfl
 rw [h1,h2];rfl
theorem Qzb (m:List (Int×Int)):(Qkf m).length≤m.length:=Quy _ _
theorem Qkk (a b:List (Int×Int))(h:a.length+b.length≤4294967296):(¬(Rt a∧Rt b)∧QbH a b=some ([],1))∨(Rt a∧Rt b∧(∃k,1048576<QQ a k+QQ b k)∧QbH a b=some ([],2))∨
  (Rt a∧Rt b∧∃r,QbH a b=some (r,0)∧Rt r∧(∀k,QQ r k=QQ a k+QQ b k)∧r.length≤a.length+b.length):=by
 unfold QbH
 rw [Qrm a b (by unfold maxLen;omega) (by unfold maxLen;omega),Qn]
 cases ra:rtF (-1) a with
 | false=>exact .inl ⟨fun hh=>(by rw [QdS.2 hh.1]at ra;cases ra),by cases rtF (-1) b<;>rfl⟩
 | true=>
  cases rb:rtF (-1) b with
  | false=>exact .inl ⟨fun hh=>(by rw [QdS.2 hh.2]at rb;cases rb),rfl⟩
  | true=>
   have hra:=QdS.1 ra
   have hrb:=QdS.1 rb
   simp only [cond_true,Sum.elim_inr]
   unfold Qpi
   have hw:∀p∈b,QQ a p.1+p.2=QQ a p.1+QQ b p.1:=fun p hp=>by rw [Qi2 hrb.1.nd hp]
   rcases QwM (g:=fun x v=>w64 (x+v)) (stop:=fun x=>decide (1048576<x)) (q:=some ()) (body:=fun st p=>QhJ st p.1 p.2) (fun s p=>by
     show QhJ s p.1 p.2=_
     unfold QhJ
     rw [Qke,if_pos rfl]
     unfold QQ
     simp only [QnO]
     cases decide (1048576<w64 ((QG s p.1).getD 0+p.2))<;>rfl) hra.1 hrb.1.nd with⟨⟨p,h1,h2⟩,h3⟩|⟨h1,s',h3,h4,h5,h6⟩
   ·refine .inr (.inl ⟨hra,hrb,⟨p.1,?_⟩,?_⟩)
    ·have:=hra.cnt p.1
     have:=hrb.cnt p.1
     have h2:=Q8 h2
     rw [Qi2 hrb.1.nd h1]
     rw [Qi2 hrb.1.nd h1]at this
     rwa [Qct (by omega)]at h2
    simp only [h3 () rfl];rfl
   have hk:∀k,QQ s' k=QQ a k+QQ b k∧QQ s' k≤1048576:=fun k=>by
    have ca:=hra.cnt k
    have cb:=hrb.cnt k
    have e:=h6 k
    unfold QuI at e
    cases hm:QG b k with
    | none=>
     rw [hm]at e
     simp only at e
     have:QQ b k=0:=by unfold QQ;rw [hm];rfl
     have e2:QQ s' k=QQ a k:=by unfold QQ;rw [e]
     omega
    | some v=>
     rw [hm]at e
     simp only at e
     have e1:QQ b k=v:=by unfold QQ;rw [hm];rfl
     have e2:QQ s' k=w64 (QQ a k+v):=by unfold QQ;rw [e];rfl
     have h7:=h1 (k,v) ((Qd1 hrb.1.nd).1 hm)
     simp only [QW]at h7
     rw [Qct (by omega)]at e2 h7
     omega
   refine .inr (.inr ⟨hra,hrb,Qkf s',?_,QBA h4 (fun k hk0=>⟨?_,(hk k).2⟩),fun k=>?_,Qcb (Qzb s') h5⟩)
   ·simp only [h3,Qn,Sum.elim_inl]
    unfold Qph
    rw [QlJ s' h4 (by omega)];rfl
   ·have:=(hk k).1
    have ca:=hra.cnt k
    have cb:=hrb.cnt k
    by_cases c:0<QQ a k
    ·exact hra.cnt_pos c
    exact hrb.cnt_pos (by omega)
   rw [Qy9 h4,(hk k).1]
   have ca:=hra.cnt k
   have cb:=hrb.cnt k
   split<;>omega
theorem QpX (m m':List (Int×Int)):Qeh m m'=some (!(m.any fun p=>decide (QQ m' p.1<p.2))):=by
 unfold Qeh
 rw [QAw (bad:=fun p=>decide (QQ m' p.1<p.2)) (q:=()) (fun p=>by
  show Qc6 m' p.1 p.2=_
  unfold Qc6 QQ
  cases decide ((QG m' p.1).getD 0<p.2)<;>rfl)]
 cases m.any fun p=>decide (QQ m' p.1<p.2)<;>rfl
theorem Qw1 {a b:List (Int×Int)}(ha:Rt a)(hb:Rt b):(a.any fun p=>decide (QQ b p.1<p.2))=false↔∀k,QQ a k≤QQ b k:=by
 rw [←Qlt,Qkm]
 simp only [QE,not_exists,not_and]
 constructor
 ·intro h k
  have cb:=hb.cnt k
  cases e:QG a k with
  | none=>
   have:QQ a k=0:=by unfold QQ;rw [e];rfl
   omega
  | some v=>
   have h1:=h _ ((Qd1 ha.1.nd).1 e)
   have:QQ a k=v:=by unfold QQ;rw [e];rfl
   simp only at h1
   omega
 intro h p hp hlt
 have:=h p.1
 rw [Qi2 ha.1.nd hp]at this
 omega
theorem Qw2 (a b:List (Int×Int))(ha:a.length≤maxLen)(hb:b.length≤maxLen):∃r,Qmx a b=some r∧(r=true↔Rt a∧Rt b∧∀k,QQ a k≤QQ b k):=by
 unfold Qmx
 rw [Qrm a b ha hb,Qn]
 cases ra:rtF (-1) a with
 | false=>exact⟨false,by cases rtF (-1) b<;>rfl,by simp;intro hh;rw [QdS.2 hh]at ra;cases ra⟩
 | true=>
  cases rb:rtF (-1) b with
  | false=>exact⟨false,rfl,by simp;intro _ hh;rw [QdS.2 hh]at rb;cases rb⟩
  | true=>
   have hra:=QdS.1 ra
   have hrb:=QdS.1 rb
   refine⟨!(a.any fun p=>decide (QQ b p.1<p.2)),?_,?_⟩
   ·simp only [cond_true,Sum.elim_inr]
    unfold Qmw
    rw [QpX];rfl
   rw [Qfs,Qw1 hra hrb]
   exact⟨fun h=>⟨hra,hrb,h⟩,fun h=>h.2.2⟩
theorem Qof (a b:List (Int×Int))(h:a.length+b.length≤4294967296):(¬(Rt a∧Rt b)∧Qb0 a b=some ([],1))∨(Rt a∧Rt b∧(∃k,QQ a k<QQ b k)∧Qb0 a b=some ([],10))∨
  (Rt a∧Rt b∧(∀k,QQ b k≤QQ a k)∧∃r,Qb0 a b=some (r,0)∧Rt r∧(∀k,QQ r k=QQ a k-QQ b k)∧r.length≤a.length+b.length):=by
 unfold Qb0
 rw [Qrm a b (by unfold maxLen;omega) (by unfold maxLen;omega),Qn]
 cases ra:rtF (-1) a with
 | false=>exact .inl ⟨fun hh=>(by rw [QdS.2 hh.1]at ra;cases ra),by cases rtF (-1) b<;>rfl⟩
 | true=>
  cases rb:rtF (-1) b with
  | false=>exact .inl ⟨fun hh=>(by rw [QdS.2 hh.2]at rb;cases rb),rfl⟩
  | true=>
   have hra:=QdS.1 ra
   have hrb:=QdS.1 rb
   simp only [cond_true,Sum.elim_inr]
   unfold Qn9
   rw [QpX,Qn]
   cases hw:b.any fun p=>decide (QQ a p.1<p.2)with
   | true=>
    refine .inr (.inl ⟨hra,hrb,?_,rfl⟩)
    obtain⟨p,h1,h2⟩:=Qkm.1 hw
    exact⟨p.1,by rw [Qi2 hrb.1.nd h1];exact Q8 h2⟩
   | false=>
    have hle:=(Qw1 hrb hra).1 hw
    simp only [Bool.not_false,Qje,cond_false]
    rcases QwM (g:=fun x v=>w64 (x-v)) (stop:=fun _=>false) (q:=none) (body:=fun st p=>QgF st p.1 p.2) (fun s p=>by
      show QgF s p.1 p.2=_
      unfold QgF QQ
      rfl) hra.1 hrb.1.nd with⟨⟨p,h1,h2⟩,h3⟩|⟨h1,s',h3,h4,h5,h6⟩
    ·cases h2
    have hk:∀k,QQ s' k=QQ a k-QQ b k:=fun k=>by
     have ca:=hra.cnt k
     have cb:=hrb.cnt k
     have e:=h6 k
     unfold QuI at e
     cases hm:QG b k with
     | none=>
      rw [hm]at e
      simp only at e
      have:QQ b k=0:=by unfold QQ;rw [hm];rfl
      have e2:QQ s' k=QQ a k:=by unfold QQ;rw [e]
      omega
     | some v=>
      rw [hm]at e
      simp only at e
      have e1:QQ b k=v:=by unfold QQ;rw [hm];rfl
      have e2:QQ s' k=w64 (QQ a k-v):=by unfold QQ;rw [e];rfl
      rw [Qct (by omega)]at e2
      omega
    refine .inr (.inr ⟨hra,hrb,hle,Qkf s',?_,QBA h4 (fun k hk0=>?_),fun k=>?_,Qcb (Qzb s') h5⟩)
    ·simp only [h3,Qn,Sum.elim_inl]
     unfold Qn8
     rw [QlJ s' h4 (by omega)];rfl
    ·have:=hk k
     have ca:=hra.cnt k
     have cb:=hrb.cnt k
     exact⟨hra.cnt_pos (by omega),by omega⟩
    rw [Qy9 h4,hk k]
    have:=hle k
    split<;>omega
theorem Qw3 (t:Int):Qnc [t]=some (bif decide (0≤t)then [(t,1)]else []):=by
 unfold Qnc
 rw [Qel]
 show((QfJ [t] 0 []).bind _).bind _=_
 unfold QfJ
 rw [Qb5 (by simp),cond_true,show idx [t] 0=some t from rfl,Qn]
 unfold QnE
 rw [show w64 (0+1)=1 from by decide]
 cases h:decide (0≤t)with
 | false=>
  simp only [cond_false,Qn,Sum.elim_inl]
  rw [Qel]
  show((QfJ [t] 1 []).bind _).bind _=_
  unfold QfJ
  rw [QeK (by simp)]
  simp only [cond_false,Qn,Sum.elim_inr]
  unfold QnF
  rw [QlJ [] List.Pairwise.nil (by simp)];rfl
 | true=>
  simp only [cond_true,Qn,Sum.elim_inl]
  rw [Qel]
  show((QfJ [t] 1 [(t,min2 (w64 (0+1)) 1048576)]).bind _).bind _=_
  unfold QfJ
  rw [QeK (by simp)]
  simp only [cond_false,Qn,Sum.elim_inr]
  unfold QnF
  rw [QlJ _ (Qqi _ _) (by simp [maxLen]),show min2 (w64 (0+1)) 1048576=1 from by decide];rfl
end Go.Proofs
noncomputable section
namespace Go.Proofs
open Go Go.RowKit Go.Vm
theorem QzM : ∀(n:Nat) (e:Qo) (d:Int),Qdo e→SizeOf.sizeOf e≤n→Qg (Qfj n e d) fun _=>True
 | 0,e,_,_,h=>absurd e.pos (by omega)
 | n+1,e,d,he,h=>by
  unfold Qfj Qod
  refine T1 (fun _=>T3) fun _=>?_
  refine T0 (Qg.up e.Kids.length (fun st=>st.2) (fun _=>True) (Q:=fun _=>True) rfl trivial (fun i st hi hn _=>?_)) (fun q _=>?_)
  ·obtain⟨a,x⟩:=st
   replace hi:x=(i:Int):=hi
   show Qg (QkI e (Qfj n) d a x) _
   unfold QkI
   refine T1 (fun hc=>?_) (fun hc=>T2 (Qm trivial))
   simp only [QE]at hc
   refine T0 (T4 (by omega) (by omega)) fun k hk=>?_
   have:=Qug hk
   refine T0 (QzM n k _ ((QeU he).2 k hk) (by omega)) fun y _=>?_
   refine T1 (fun _=>T2 (Qm trivial)) fun _=>T1 (fun _=>T2 (Qm trivial)) fun _=>?_
   exact T2 (QC ⟨by omega,by subst hi;exact Qx (by omega) (QeU he).1,trivial⟩)
  rcases q with q | q
  ·exact T3
  exact T3
theorem QxE (e:Qo)(he:Qdo e):Qg (Qi0 e) fun _=>True:=by
 unfold Qi0 Qre
 exact T0 (QzM _ e 60 he (QbX _)) fun _ _=>T3
theorem QzN (n1:Qj)(h:QY n1)(q0:Int):Qg (QjB n1 q0) fun r=>r=true→q0≤400:=by
 unfold QjB
 refine T0 (Qg.up n1.Tasks.length (fun st=>st.2) (fun _=>True) (Q:=fun _=>True) rfl trivial (fun i st hi hn _=>?_)) (fun q _=>?_)
 ·obtain⟨a,x⟩:=st
  replace hi:x=(i:Int):=hi
  show Qg (QjA n1 a x) _
  unfold QjA
  refine T1 (fun hc=>?_) (fun _=>T2 (Qm trivial))
  simp only [QE]at hc
  refine T0 (T4 (by omega) (by omega)) fun e he=>?_
  have ke:=h.2.2.1.2 e he
  refine T1 (fun _=>T2 (Qm trivial)) fun _=>?_
  refine T0 (Qg.up e.Vars.length (fun st=>st) (fun _=>True) (Q:=fun _=>True) rfl trivial (fun i2 st hi2 hn2 _=>?_)) (fun q _=>?_)
  ·show Qg (Qju e st) _
   unfold Qju
   refine T1 (fun hc=>?_) (fun _=>T2 (Qm trivial))
   simp only [QE]at hc
   refine T0 (T4 (by omega) (by omega)) fun s _=>?_
   exact T1 (fun _=>T2 (Qm trivial)) fun _=>T2 (QC ⟨by omega,by rw [hi2];exact Qx (by omega) ke.2.1.1,trivial⟩)
  rcases q with q | q
  ·exact T2 (Qm trivial)
  show Qg (Qjz e a x) _
  unfold Qjz
  refine T0 (QxE e.Guard ke.2.2.1) fun g _=>?_
  refine T0 (Qg.up e.Ins.length (fun st=>st.2) (fun _=>True) (Q:=fun _=>True) rfl trivial (fun i2 st hi2 hn2 _=>?_)) (fun q _=>?_)
  ·obtain⟨b,y⟩:=st
   replace hi2:y=(i2:Int):=hi2
   show Qg (Qjv e b y) _
   unfold Qjv
   refine T1 (fun hc=>?_) (fun _=>T2 (Qm trivial))
   simp only [QE]at hc
   refine T0 (T4 (by omega) (by omega)) fun s hs=>?_
   refine T0 (QxE s.Expr (ke.2.2.2.2.2.1.2 s hs).2) fun g _=>?_
   exact T2 (QC ⟨by omega,by subst hi2;exact Qx (by omega) ke.2.2.2.2.2.1.1,trivial⟩)
  show Qg (Qjy e a x q) _
  unfold Qjy
  refine T0 (Qg.up e.Outs.length (fun st=>st.2) (fun _=>True) (Q:=fun _=>True) rfl trivial (fun i2 st hi2 hn2 _=>?_)) (fun q _=>?_)
  ·obtain⟨b,y⟩:=st
   replace hi2:y=(i2:Int):=hi2
   show Qg (Qjw e b y) _
   unfold Qjw
   refine T1 (fun hc=>?_) (fun _=>T2 (Qm trivial))
   simp only [QE]at hc
   refine T0 (T4 (by omega) (by omega)) fun s hs=>?_
   refine T0 (QxE s.Expr (ke.2.2.2.2.2.2.1.2 s hs).2) fun g _=>?_
   exact T2 (QC ⟨by omega,by subst hi2;exact Qx (by omega) ke.2.2.2.2.2.2.1.1,trivial⟩)
  show Qg (Qjx a e x q) _
  unfold Qjx
  exact T1 (fun _=>T2 (Qm trivial)) fun _=>T2 (QC ⟨by omega,by subst hi;exact Qx (by omega) h.2.2.1.1,trivial⟩)
 rcases q with q | q
 ·exact T2 fun h=>by cases h
 exact T2 fun h=>by simpa using h
theorem QDA (n1:Qj)(h:QY n1):Qg (QfN n1) fun r=>r=true→n1.Colours.length≤40∧n1.Places.length≤70∧n1.Tasks.length≤70:=by
 unfold QfN
 refine T1 (fun _=>T2 fun h=>by cases h) fun hc=>?_
 simp only [QcU,QW]at hc
 refine T6 (P:=fun _=>True) ?_ fun _ _ _=>by omega
 refine T0 (Qg.up n1.Colours.length (fun st=>st.2) (fun _=>True) (Q:=fun _=>True) rfl trivial (fun i st hi hn _=>?_)) (fun q _=>?_)
 ·obtain⟨a,x⟩:=st
  replace hi:x=(i:Int):=hi
  show Qg (QfT n1 a x) _
  unfold QfT
  refine T1 (fun hc=>?_) (fun _=>T2 (Qm trivial))
  simp only [QE]at hc
  refine T0 (T4 (by omega) (by omega)).self fun e he=>?_
  obtain⟨he,hm⟩:=he
  refine T0 (P:=fun _=>True) ?_ fun y _=>?_
  ·unfold Qns
   rw [he,Qn]
   exact T1 (fun _=>T3) fun _=>T3
  unfold QhU
  refine T1 (fun _=>T2 (Qm trivial)) fun _=>?_
  refine T0 (Qg.up e.Names.length (fun st=>st) (fun _=>True) (Q:=fun _=>True) rfl trivial (fun i2 st hi2 hn2 _=>?_)) (fun q _=>?_)
  ·show Qg (QfS n1 x st) _
   unfold QfS
   simp only [he,Qn]
   refine T1 (fun hc=>?_) (fun _=>T2 (Qm trivial))
   simp only [QE]at hc
   refine T0 (T4 (by omega) (by omega)) fun s _=>?_
   refine T1 (fun _=>T2 (Qm trivial)) fun _=>?_
   exact T2 (QC ⟨by omega,by rw [hi2];exact Qx (by omega) (h.1.2 e hm).2.2.2.2.1.1,trivial⟩)
  rcases q with q | q
  ·exact T2 (Qm trivial)
  exact T2 (QC ⟨by omega,by subst hi;exact Qx (by omega) h.1.1,trivial⟩)
 rcases q with q | q
 ·exact T3
 show Qg (Qe7 n1 q) _
 unfold Qe7
 refine T0 (Qg.up n1.Places.length (fun st=>st.2) (fun _=>True) (Q:=fun _=>True) rfl trivial (fun i st hi hn _=>?_)) (fun q _=>?_)
 ·obtain⟨a,x⟩:=st
  replace hi:x=(i:Int):=hi
  show Qg (QfU n1 a x) _
  unfold QfU
  refine T1 (fun hc=>?_) (fun _=>T2 (Qm trivial))
  simp only [QE]at hc
  refine T0 (T4 (by omega) (by omega)) fun e _=>?_
  refine T0 (T4 (by omega) (by omega)) fun e2 _=>?_
  exact T1 (fun _=>T2 (Qm trivial)) fun _=>T2 (QC ⟨by omega,by subst hi;exact Qx (by omega) h.2.1.1,trivial⟩)
 rcases q with q | q
 ·exact T3
 exact(QzN n1 h q).mono fun _ _=>trivial
theorem QDB (m:List (List (Int×Int)))(h:m.length≤maxLen):Qg (QnK m) fun _=>True:=by
 unfold QnK
 refine T0 (Qg.up m.length (fun st=>st.2) (fun _=>True) (Q:=fun _=>True) rfl trivial (fun i st hi hn _=>?_)) (fun q _=>T3)
 obtain⟨a,x⟩:=st
 replace hi:x=(i:Int):=hi
 show Qg (QkJ m a x) _
 unfold QkJ
 refine T1 (fun hc=>?_) (fun _=>T2 (Qm trivial))
 simp only [QI,QE]at hc
 refine T0 (T4 (by omega) (by omega)) fun e _=>?_
 exact T2 (QC ⟨by omega,by subst hi;exact Qx (by omega) h,trivial⟩)
theorem QzO {l:List (Int×Int)}(h:Asc l):∀{a:Int},(∀p∈l,a≤p.1)→∀(i:Nat) (hi:i<l.length),a+i≤(l[i]).1:=by
 induction l with
 | nil=>intro a _ i hi;simp at hi
 | cons p l ih=>
  intro a ha i hi
  obtain⟨h1,h2⟩:=Qgf.1 h
  cases i with
  | zero=>have:=ha p QaD;simpa using this
  | succ i=>
   have h3:=ih h2 (a:=a+1) (fun q hq=>by have:=h1 q hq;have:=ha p QaD;omega) i (by simpa using hi)
   simp only [List.getElem_cons_succ]
   omega
theorem QCO {l:List (Int×Int)}(h:Asc l)(h0:0<l.length){k:Int}(hk:0<QQ l k):k≤(l[l.length-1]).1:=by
 unfold QQ at hk
 cases e:QG l k with
 | none=>rw [e]at hk;simp at hk
 | some v=>
  obtain⟨j,hj,hjk⟩:=Qjf.1 ((Qd1 h.nd).1 e)
  by_cases c:j=l.length-1
  ·subst c;rw [hjk];exact Int.le_refl _
  have:=Qyt.1 h j (l.length-1) hj (by omega) (by omega)
  rw [hjk]at this
  simp only at this
  omega
def MOk (n:Qj)(c:Nat)(m:List (List (Int×Int))):Prop:=m.length=n.Places.length∧∀b∈m,Rt b∧b.length≤c
theorem MOk.mono {n:Qj}{c c':Nat}{m:List (List (Int×Int))}(h:MOk n c m)(hc:c≤c'):MOk n c' m:=⟨h.1,fun b hb=>⟨(h.2 b hb).1,Qcb (h.2 b hb).2 hc⟩⟩
def Low (n:Qj)(m:List (List (Int×Int))):Prop:=∀(j:Nat) b p,m[j]? = some b→n.Places[j]? = some p→∀k,0<QQ b k→∃z,Qa6 n.Colours p.Colour=some z∧k<z
theorem Qzc (n1:Qj)(m:List (List (Int×Int)))(h:QY n1)(hm:QR (QR fun _=>True) m):Qg (QmL n1 m) fun r=>r=true→MOk n1 1024 m∧Low n1 m:=by
 unfold QmL
 refine T1 (fun _=>T2 fun h=>by cases h) fun hc=>?_
 have hl:m.length=n1.Places.length:=by simp only [bne_eq_false_iff_eq]at hc;omega
 refine T0 (Qg.up m.length (fun st=>st) (fun st=>∀(j:Nat) (hj:j<m.length),(j:Int)<st→(Rt m[j]∧(m[j]).length≤1024)∧∀p,n1.Places[j]? = some p→∀k,0<QQ m[j] k→∃z,Qa6 n1.Colours p.Colour=some z∧k<z) (Q:=fun q=>q=.inr ()→(∀b∈m,Rt b∧b.length≤1024)∧Low n1 m) rfl (fun j _ hj=>by omega) (fun i st hi hn hJ=>?_)) (fun q hq=>?_)
 ·show Qg (QjO m n1 st) _
  unfold QjO
  refine T1 (fun hc=>?_) (fun hc=>T2 (Qm fun _=>⟨fun b hb=>by
   obtain⟨j,hj,rfl⟩:=Qjf.1 hb
   simp only [QW]at hc
   exact(hJ j hj (by omega)).1,fun j b p hb hp=>by
   obtain⟨hj,rfl⟩:=QV.1 hb
   simp only [QW]at hc
   exact(hJ j hj (by omega)).2 p hp⟩))
  simp only [QE]at hc
  have hlt:i<m.length:=by omega
  have hlp:i<n1.Places.length:=by omega
  rw [hi,Q1,Qw hlt,Qn,Q1,Qw hlp,Qn]
  refine T0 (Qc0 n1.Colours (n1.Places[i]).Colour h.1).self fun sz hsz=>?_
  obtain⟨hze,hsz⟩:=hsz
  have hb:=hm.2 _ (Qao hlt)
  have hbl:=hb.1
  refine T0 (P:=fun r=>r=false→(Rt m[i]∧(m[i]).length≤1024)∧∀k,0<QQ m[i] k→k<sz) ?_ fun x hx=>?_
  ·unfold QqN
   rw [Qh1 _ hb.1,Qn]
   refine T1 (fun _=>T2 fun h=>by cases h) fun hr=>?_
   have hrt:=QdS.1 (by simpa using hr:rtF (-1) m[i]=true)
   refine T1 (fun h0=>?_) (fun h0=>T2 fun _=>⟨⟨hrt,by simp only [QW]at h0;omega⟩,fun k hk=>by
    simp only [QW]at h0
    rw [show m[i]=[]from Qma.1 (by omega)]at hk
    simp [QQ,QG]at hk⟩)
   simp only [QE]at h0
   unfold maxLen at hbl
   rw [Qct (by omega),show((m[i]).length:Int)-1=(((m[i]).length-1:Nat):Int) by omega,Q1,Qw (by omega),Qn]
   refine T2 fun hf=>?_
   simp only [QW]at hf
   have:=QzO hrt.1 (a:=0) (fun p hp=>(hrt.2 p hp).1) ((m[i]).length-1) (by omega)
   refine⟨⟨hrt,by omega⟩,fun k hk=>?_⟩
   have:=QCO hrt.1 (by omega) hk
   omega
  unfold QjN
  refine T1 (fun _=>T2 (Qm fun h=>by cases h)) fun hxf=>?_
  refine T2 (QC ⟨hlt,Qx hlt hm.1,fun j hj hjs=>?_⟩)
  rw [Qx hlt hm.1]at hjs
  by_cases c:j=i
  ·subst c
   refine⟨(hx hxf).1,fun p hp k hk=>⟨sz,?_,(hx hxf).2 k hk⟩⟩
   rw [Qw hlp]at hp
   cases hp
   exact hze
  exact hJ j hj (by omega)
 rcases q with q | q
 ·exact T2 fun h=>by cases h
 exact T2 fun _=>⟨⟨hl,(hq rfl).1⟩,(hq rfl).2⟩
structure Q0 (n:Qj):Prop where
 k:QY n
 pl:n.Places.length≤70
 tl:n.Tasks.length≤12
 tk:∀t∈n.Tasks,t.Vars.length≤16∧t.Ins.length≤16∧t.Outs.length≤16∧t.Cancel.length≤16
theorem QBF (n1:Qj)(k2:Int)(h:Qb9 n1 k2=some 0):∃t,idx n1.Tasks k2=some t∧t.Vars.length≤16∧t.Ins.length≤16∧t.Outs.length≤16∧t.Cancel.length≤16:=by
 unfold Qb9 at h
 obtain⟨x5,_,h⟩:=Qb h
 rcases Qr h with⟨_,h⟩|⟨_,h⟩
 ·cases h
 obtain⟨x7,_,h⟩:=Qb h
 rcases Qr h with⟨c,h⟩|⟨_,h⟩
 ·simp only [Option.some.injEq]at h;rw [h]at c;cases c
 obtain⟨e9,he9,h⟩:=Qb h
 obtain⟨e10,he10,h⟩:=Qb h
 rw [he9]at he10;cases he10
 obtain⟨_,_,h⟩:=Qb h
 obtain⟨_,_,h⟩:=Qb h
 obtain⟨_,_,h⟩:=Qb h
 obtain⟨_,_,h⟩:=Qb h
 obtain⟨x15,hx,h⟩:=Qb h
 have bad:∀a b:Int,0<a→x15=(a,b)→False:=fun a b ha e=>by
  subst e
  simp only at h
  rcases Qr h with⟨c,h⟩|⟨_,h⟩
  ·simp only [beq_iff_eq]at c;omega
  simp only [Option.some.injEq]at h;omega
 unfold Qex at hx
 obtain⟨x20,_,hx⟩:=Qb hx
 rcases Qr hx with⟨_,hx⟩|⟨_,hx⟩
 ·exact(bad _ _ (by decide) (Option.some.inj hx).symm).elim
 obtain⟨x22,_,hx⟩:=Qb hx
 rcases Qr hx with⟨_,hx⟩|⟨_,hx⟩
 ·exact(bad _ _ (by decide) (Option.some.inj hx).symm).elim
 obtain⟨x24,h24,hx⟩:=Qb hx
 rcases Qr hx with⟨_,hx⟩|⟨c,hx⟩
 ·exact(bad _ _ (by decide) (Option.some.inj hx).symm).elim
 unfold QhW at h24
 simp only [Option.some.injEq]at h24
 rw [←h24]at c
 simp only [Qib,QI,QE,QkV]at c
 exact⟨e9,he9,by omega,by omega,by omega,by omega⟩
theorem Qvw (l1:List QD)(n1:Qj)(h:QY n1)(hl:QR QaN l1):Qg (Qcw l1 n1) fun r=>r.2=0→∀(j:Nat),j<l1.length→Qb9 n1 j=some 0:=by
 unfold Qcw
 refine T0 (Qg.up l1.length (fun st=>st) (fun st=>∀(j:Nat),(j:Int)<st→Qb9 n1 j=some 0) (Q:=fun q=>(∀a b,q=.inl (a,b)→b≠0)∧(q=.inr ()→∀(j:Nat),j<l1.length→Qb9 n1 j=some 0)) rfl (fun j hj=>by omega) (fun i st hi hn hJ=>?_)) (fun q hq=>?_)
 ·show Qg (QbS l1 n1 st) _
  unfold QbS
  refine T1 (fun hc=>?_) (fun hc=>T2 (Qm ⟨fun a b h=>(by cases h),fun _ j hj=>by
   simp only [QW]at hc
   exact hJ j (by omega)⟩))
  simp only [QE]at hc
  refine T0 (T4 (by omega) (by omega)) fun e he=>?_
  refine T0 (P:=fun x=>Qb9 n1 st=some x) ?_ fun x hx=>?_
  ·unfold QiT
   exact T0 (QrZ n1 st h).self fun x hx=>T2 hx.1
  refine T1 (fun hc=>T2 (Qm ⟨fun a b h=>(by cases h;simpa using hc),fun h=>(by cases h)⟩)) fun hc=>?_
  simp only [bne_eq_false_iff_eq]at hc
  refine T2 (QC ⟨by omega,by rw [hi];exact Qx (by omega) hl.1,fun j hj=>?_⟩)
  rw [hi,Qx (show i<l1.length by omega) hl.1]at hj
  by_cases c:j=i
  ·subst c;rw [←hi,hx,hc]
  exact hJ j (by omega)
 rcases q with q | q
 ·exact T2 fun h=>absurd h (hq.1 q.1 q.2 rfl)
 exact T2 fun _=>hq.2 rfl
theorem QBG (n1:Qj)(h:QY n1){p:Qe0}(hn:QfO n1=some (0,p)):∀t∈n1.Tasks,t.Vars.length≤16∧t.Ins.length≤16∧t.Outs.length≤16∧t.Cancel.length≤16:=by
 unfold QfO at hn
 obtain⟨x6,_,hn⟩:=Qb hn
 rcases Qr hn with⟨c,hn⟩|⟨_,hn⟩
 ·simp only [Option.some.injEq,Prod.mk.injEq]at hn;rw [hn.1]at c;cases c
 obtain⟨x8,_,hn⟩:=Qb hn
 rcases Qr hn with⟨c,hn⟩|⟨_,hn⟩
 ·simp only [Option.some.injEq,Prod.mk.injEq]at hn;rw [hn.1]at c;cases c
 obtain⟨x10,_,hn⟩:=Qb hn
 rcases Qr hn with⟨c,hn⟩|⟨_,hn⟩
 ·simp only [Option.some.injEq,Prod.mk.injEq]at hn;rw [hn.1]at c;cases c
 obtain⟨x12,h12,hn⟩:=Qb hn
 rcases Qr hn with⟨c,hn⟩|⟨c,hn⟩
 ·simp only [Option.some.injEq,Prod.mk.injEq]at hn;rw [hn.1]at c;cases c
 simp only [bne_eq_false_iff_eq]at c
 obtain⟨r,hr,hr2⟩:=Qvw n1.Tasks n1 h h.2.2.1
 rw [h12]at hr;cases hr
 intro t ht
 obtain⟨j,hj,rfl⟩:=Qjf.1 ht
 obtain⟨t,h1,h2⟩:=QBF n1 j (hr2 c j hj)
 rw [Q1,Qw hj]at h1
 cases h1
 exact h2
theorem QEl (n1:Qj)(m:List (List (Int×Int)))(h:QY n1)(hm:QR (QR fun _=>True) m):Qg (QhY n1 m) fun r=>r=true→Q0 n1∧MOk n1 1024 m∧Low n1 m:=by
 unfold QhY
 refine T0 (QDA n1 h) fun x5 h5=>?_
 refine T0 (QDB m hm.1) fun x6 _=>?_
 refine T1 (fun _=>T2 fun h=>by cases h) fun hc=>?_
 simp only [QcU,Qib,QW]at hc
 have h5:=h5 hc.1
 refine T0 (Qyn n1 h).self fun x11 h11=>?_
 refine T0 (P:=fun r=>r=false→Q0 n1∧MOk n1 1024 m∧Low n1 m) ?_ fun x12 h12=>?_
 ·unfold QmM
  refine T1 (fun _=>T2 fun h=>by cases h) fun hc1=>?_
  simp only [bne_eq_false_iff_eq]at hc1
  refine T0 (Qzc n1 m h hm) fun r hr=>T2 fun hrf=>⟨⟨h,h5.2.1,by omega,?_⟩,hr (by simpa using hrf)⟩
  obtain⟨a,b⟩:=x11
  simp only at hc1
  subst hc1
  exact QBG n1 h h11.1
 unfold QgZ
 refine T1 (fun _=>T2 fun h=>by cases h) fun hx=>?_
 have hfin:=h12 hx
 refine T6 (P:=fun _=>True) ?_ fun _ _ _=>hfin
 refine T0 (Qg.up n1.Tasks.length (fun st=>st.2) (fun _=>True) (Q:=fun _=>True) rfl trivial (fun i st hi hn _=>?_)) (fun q _=>T3)
 obtain⟨a,x⟩:=st
 replace hi:x=(i:Int):=hi
 show Qg (QjP n1 a x) _
 unfold QjP
 refine T1 (fun hc=>?_) (fun _=>T2 (Qm trivial))
 simp only [QE]at hc
 refine T0 (T4 (by omega) (by omega)) fun e _=>?_
 refine T0 (QqZ n1 x h) fun y _=>?_
 exact T2 (QC ⟨by omega,by subst hi;exact Qx (by omega) h.2.2.1.1,trivial⟩)
end Go.Proofs
noncomputable section
namespace Go.Proofs
open Go Go.RowKit Go.Vm
theorem Qx3 (s:QaY)(m:Int)(h:0≤s.k∧s.k<s.sizes.length):Qg (Qdi s m) fun r=>r=true→0≤m:=by
 unfold Qdi
 refine T0 (P:=fun r=>r=true→0≤m) ?_ fun x hx=>T2 hx
 unfold Qgh
 refine T1 (fun hc=>?_) fun _=>T2 fun h=>by cases h
 exact T0 (T4 h.1 h.2) fun _ _=>T2 fun _=>by simpa using hc
theorem Qh2 (s:QaY)(h:0≤s.k∧s.k<s.all.length):Qg (Qc1 s) fun _=>True:=by
 unfold Qc1
 exact T0 (T4 h.1 h.2) fun _ _=>T3
theorem QCP (l:List QJ)(k m:Int)(hl:QR Qci l):Qg (Qe3 l k m) fun _=>True:=by
 unfold Qe3
 refine T0 (QiV l k hl) fun x hx=>?_
 refine T0 (P:=fun r=>r=false→x.1=true) ?_ fun r hr=>?_
 ·unfold Qj3
  refine T1 (fun _=>T2 fun h=>by cases h) fun hc=>?_
  have hc:x.1=true:=by simpa using hc
  have h:=hx.2 hc
  exact T0 (Qx3 x.2 m (by omega)) fun _ _=>T2 fun _=>hc
 unfold QeP
 refine T1 (fun _=>T3) fun hc=>?_
 have h:=hx.2 (hr hc)
 refine T0 (Qh2 x.2 (by omega)) fun _ _=>?_
 refine T1 (fun _=>?_) fun _=>T3
 exact T0 (Qh2 x.2 (by omega)) fun _ _=>T3
theorem QCQ (l:List QJ)(k n:Int)(hl:QR Qci l):Qg (Qe4 l k n) fun r=>r.2=true→0≤r.1:=by
 unfold Qe4
 refine T0 (QiV l k hl) fun x hx=>?_
 refine T1 (fun _=>T2 fun h=>by cases h) fun hc=>?_
 have h:=hx.2 (by simpa using hc)
 have k1:∀m,Qg (QcG x m) fun r=>r.2=true→0≤r.1:=fun m=>by
  unfold QcG
  refine T0 (Qx3 x.2 m (by omega)) fun y hy=>?_
  exact T1 (fun _=>T2 fun h=>by cases h) fun hc=>T2 fun _=>hy (by simpa using hc)
 refine T0 (Qh2 x.2 (by omega)) fun _ _=>?_
 refine T1 (fun _=>?_) fun _=>k1 _
 exact T1 (fun _=>T2 fun h=>by cases h) fun _=>k1 _
theorem QBH (l:List QJ)(k n:Int)(hl:QR Qci l):Qg (Qe4 l k n) fun r=>r.2=true→∃z,Qa6 l k=some z∧r.1<z:=by
 unfold Qe4 Qa6
 refine T0 (QiV l k hl).self fun x hx=>?_
 obtain⟨hxe,hx⟩:=hx
 refine T1 (fun _=>T2 fun h=>by cases h) fun hc=>?_
 have h:=hx.2 (by simpa using hc)
 have hk:k.toNat<x.2.sizes.length:=by omega
 have ei:idx x.2.sizes k=some x.2.sizes[k.toNat]:=Que h.1.1 h.1.2
 have k1:∀m,Qg (QcG x m) fun r=>r.2=true→∃z,((QfL l k).bind fun x5=>bif (!x5.1)then some 0 else(idx x5.2.sizes k).bind fun e7=>some e7)=some z∧r.1<z:=fun m=>by
  unfold QcG
  refine T0 (P:=fun y=>y=true→m<x.2.sizes[k.toNat]) ?_ fun y hy=>?_
  ·unfold Qdi
   refine T0 (P:=fun y=>y=true→m<x.2.sizes[k.toNat]) ?_ fun y hy=>T2 hy
   unfold Qgh
   refine T1 (fun _=>?_) fun _=>T2 fun h=>by cases h
   rw [h.2.1,ei,Qn]
   exact T2 fun h=>by simpa using h
  refine T1 (fun _=>T2 fun h=>by cases h) fun hc2=>T2 fun _=>⟨x.2.sizes[k.toNat],?_,hy (by simpa using hc2)⟩
  rw [hxe,Qn,hc,cond_false,ei];rfl
 refine T0 (Qh2 x.2 (by omega)) fun _ _=>?_
 refine T1 (fun _=>?_) fun _=>k1 _
 exact T1 (fun _=>T2 fun h=>by cases h) fun _=>k1 _
theorem Qh3 {α:Type}{o:Option α}{P:α→Prop}(h:Qg o P){r:α}(e:o=some r):P r:=by
 obtain⟨r',h1,h2⟩:=h
 rw [e]at h1;cases h1;exact h2
theorem Qzd : ∀(n:Nat) (v:List Int) (e:Qo),POk v.length e→SizeOf.sizeOf e≤n→Qg (QaI n v e) fun _=>True
 | 0,_,e,_,h=>absurd e.pos (by omega)
 | n+1,v,e,he,h=>by
  cases he with
  | mk _ hk h2 h3 h5 h6 hr=>
  unfold QaI Qk4
  have sub:∀(j:Nat) (hj:j<e.Kids.length),Qg (QaI n v (e.Kids[j])) fun _=>True:=fun j hj=>
   Qzd n v _ (hr _ (Qao hj)) (by have:=Qug (Qao hj);omega)
  have kid:∀(j:Nat) (hj:j<e.Kids.length),idx e.Kids (j:Int)=some e.Kids[j]:=fun j hj=>by rw [Q1,Qw hj]
  rcases hk with hk | hk | hk | hk | hk | hk
  ·refine T0 (P:=fun x=>x=.inl v) (by unfold QcW;rw [hk];exact T2 rfl) fun x hx=>?_
   subst hx
   exact T3
  ·refine T0 (P:=fun x=>x=.inr (.inl v)) (by unfold QcW;rw [hk];exact T2 rfl) fun x hx=>?_
   subst hx
   show Qg (QgL e v) _
   unfold QgL Qja
   have:=h2 hk
   exact T0 (T0 (T4 (by omega) (by omega)) fun _ _=>T3) fun _ _=>T3
  ·refine T0 (P:=fun x=>x=.inr (.inr (.inl v))) (by unfold QcW QcF;rw [hk];exact T2 rfl) fun x hx=>?_
   subst hx
   show Qg (Qdn (QaI n) e v) _
   unfold Qdn Qho
   have hl:=h3 (.inl hk)
   refine T0 (P:=fun _=>True) ?_ fun _ _=>T3
   rw [show idx e.Kids 0=some (e.Kids[0]'(by omega))from kid 0 (by omega),Qn]
   refine T0 (sub 0 (by omega)) fun x _=>?_
   refine T1 (fun _=>T3) fun _=>T1 (fun _=>T0 (Qut _) fun _ _=>T3) fun _=>T0 (Qls _ _ _) fun _ _=>T3
  ·refine T0 (P:=fun x=>x=.inr (.inr (.inl v))) (by unfold QcW QcF;rw [hk];exact T2 rfl) fun x hx=>?_
   subst hx
   show Qg (Qdn (QaI n) e v) _
   unfold Qdn Qho
   have hl:=h3 (.inr hk)
   refine T0 (P:=fun _=>True) ?_ fun _ _=>T3
   rw [show idx e.Kids 0=some (e.Kids[0]'(by omega))from kid 0 (by omega),Qn]
   refine T0 (sub 0 (by omega)) fun x _=>?_
   refine T1 (fun _=>T3) fun _=>T1 (fun _=>T0 (Qut _) fun _ _=>T3) fun _=>T0 (Qls _ _ _) fun _ _=>T3
  ·refine T0 (P:=fun x=>x=.inr (.inr (.inr (.inl v)))) (by unfold QcW QcF;rw [hk];exact T2 rfl) fun x hx=>?_
   subst hx
   show Qg (QgM (QaI n) e v) _
   unfold QgM Qnj
   have hl:=h5 hk
   refine T0 (P:=fun _=>True) ?_ fun _ _=>T3
   rw [show idx e.Kids 0=some (e.Kids[0]'(by omega))from kid 0 (by omega),Qn]
   refine T0 (sub 0 (by omega)) fun x _=>?_
   have k1:∀b,Qg (QdU x e (QaI n) v b) fun _=>True:=fun b=>by
    unfold QdU
    refine T1 (fun _=>T0 (Qls _ _ _) fun _ _=>T3) fun _=>?_
    rw [show idx e.Kids 1=some (e.Kids[1]'(by omega))from kid 1 (by omega),Qn]
    refine T0 (sub 1 (by omega)) fun y _=>?_
    exact T1 (fun _=>T3) fun _=>T0 (Qls _ _ _) fun _ _=>T3
   exact T1 (fun _=>T3) fun _=>T1 (fun _=>k1 _) fun _=>T1 (fun _=>k1 _) fun _=>k1 _
  refine T0 (P:=fun x=>x=.inr (.inr (.inr (.inr v)))) (by unfold QcW QcF;rw [hk];exact T2 rfl) fun x hx=>?_
  subst hx
  show Qg (QgN (QaI n) e v) _
  unfold QgN Qk3
  have hl:=h6 hk
  refine T0 (P:=fun _=>True) ?_ fun _ _=>T3
  rw [show idx e.Kids 0=some (e.Kids[0]'(by omega))from kid 0 (by omega),Qn]
  refine T0 (sub 0 (by omega)) fun x _=>?_
  refine T1 (fun _=>T3) fun _=>T1 (fun _=>?_) fun _=>?_
  ·rw [show idx e.Kids 1=some (e.Kids[1]'(by omega))from kid 1 (by omega),Qn]
   exact T0 (sub 1 (by omega)) fun y _=>T3
  rw [show idx e.Kids 2=some (e.Kids[2]'(by omega))from kid 2 (by omega),Qn]
  exact T0 (sub 2 (by omega)) fun y _=>T3
theorem QBI (e:Qo)(v:List Int)(h:Qdo e):Qg (Qlg e v) fun _=>True:=by
 unfold Qlg
 refine T0 (Qnu e v.length h) fun x hx=>?_
 refine T1 (fun _=>T3) fun hc=>?_
 unfold Qmu
 exact T0 (Qzd _ v e (hx (by simpa using hc)) (QbX _)) fun _ _=>T3
theorem QAA (n:Qj)(task:Int)(vars:List Int)(h:Q0 n):Qg (Qfx n task vars) fun r=>r.2=0→0≤task∧task<n.Tasks.length:=by
 unfold Qfx
 refine T1 (fun _=>T2 fun h=>by cases h) fun hc=>?_
 simp only [QcU,QW]at hc
 refine T0 (T4 (by omega) (by omega)) fun e he=>?_
 have hv:=(h.tk e he).1
 have ke:=h.k.2.2.1.2 e he
 refine T1 (fun _=>T2 fun h=>by cases h) fun hl=>?_
 simp only [bne_eq_false_iff_eq]at hl
 refine T0 (T5 (by simp only [QI,QE];omega)) fun _ _=>?_
 refine T6 (P:=fun _=>True) ?_ fun _ _ _=>by omega
 refine T0 (Qg.up e.Vars.length (fun st=>st.1) (fun st=>st.2.length=e.Vars.length) (Q:=fun _=>True) rfl (by simp) (fun i st hi hn hJ=>?_)) (fun q _=>?_)
 ·obtain⟨x,l⟩:=st
  replace hi:x=(i:Int):=hi
  replace hJ:l.length=e.Vars.length:=hJ
  show Qg (QgE e vars n x l) _
  unfold QgE
  refine T1 (fun hc=>?_) (fun _=>T2 (Qm trivial))
  simp only [QE]at hc
  refine T0 (T4 (by omega) (by omega)) fun a _=>?_
  refine T0 (T4 (by omega) (by omega)) fun b _=>?_
  refine T0 (QCP _ _ _ h.k.1) fun c _=>?_
  refine T1 (fun _=>T2 (Qm trivial)) fun _=>?_
  refine T0 (T4 (by omega) (by omega)) fun d _=>?_
  exact T2 (QC ⟨by omega,by subst hi;exact Qx (by omega) (by unfold maxLen;omega:e.Vars.length≤maxLen),by simpa using hJ⟩)
 rcases q with q | q
 ·exact T3
 exact T3
theorem Qr0 {α:Type}{l:List α}{i:Nat}{x y:α}(h:y∈l.set i x):y=x∨y∈l:=by
 rcases List.mem_or_eq_of_mem_set h with h | h
 ·exact .inr h
 exact .inl h
theorem QpY (n:Qj)(l:List Qax)(which env:List Int)(h:Q0 n)(hl:QR Qkh l)(hw:which.length≤1000):Qg (QdZ n l which env) fun r=>r.2=0→MOk n which.length r.1∧Low n r.1:=by
 unfold QdZ
 have hpl:=h.pl
 refine T0 (T5 (by simp only [QI,QE];omega)) fun _ _=>?_
 refine T0 (Qg.up which.length (fun st=>st.1) (fun st=>(st.2.length=n.Places.length∧∀b∈st.2,Rt b∧(b.length:Int)≤st.1)∧Low n st.2) (Q:=fun q=>(∀x,q=.inl x→x≠0)∧∀m,q=.inr m→MOk n which.length m∧Low n m) rfl ⟨⟨by simp,fun b hb=>?_⟩,fun j b p hb hp k hk=>?_⟩ (fun i st hi hn hJ=>?_)) (fun q hq=>?_)
 ·have:=Qr4 hb
  subst this
  exact⟨Rt.nil,by simp⟩
 ·have:=Qr4 (Qap hb)
  subst this
  simp [QQ,QG]at hk
 ·obtain⟨x,m⟩:=st
  replace hi:x=(i:Int):=hi
  obtain⟨⟨hJ1,hJ2⟩,hJ3⟩:(m.length=n.Places.length∧∀b∈m,Rt b∧(b.length:Int)≤x)∧Low n m:=hJ
  have err:∀y:Int,y≠0→(∀s',(Sum.inr (Sum.inl y):(Int×List (List (Int×Int)))⊕(Int⊕List (List (Int×Int))))=.inl s'→i<which.length∧s'.1=((i+1:Nat):Int)∧(s'.2.length=n.Places.length∧∀b∈s'.2,Rt b∧(b.length:Int)≤s'.1)∧Low n s'.2)∧∀r,(Sum.inr (Sum.inl y):(Int×List (List (Int×Int)))⊕(Int⊕List (List (Int×Int))))=.inr r→(∀x,r=.inl x→x≠0)∧∀m,r=.inr m→MOk n which.length m∧Low n m:=
   fun y hy=>⟨fun s' e=>(by cases e),fun r e=>(by cases e;exact⟨fun x e=>(by cases e;exact hy),fun m e=>(by cases e)⟩)⟩
  show Qg (Qio which l env n x m) _
  unfold Qio
  refine T1 (fun hc=>?_) (fun hc=>T2 (Qm ⟨fun x e=>(by cases e),fun m' e=>?_⟩))
  ·simp only [QE]at hc
   refine T0 (T4 (by omega) (by omega)) fun e18 _=>?_
   refine T1 (fun _=>T2 (err _ (by decide))) fun hc1=>?_
   simp only [QcU,QW]at hc1
   refine T0 (T4 (by omega) (by omega)) fun e22 h22=>?_
   refine T0 (QBI e22.Expr env (hl.2 e22 h22).2) fun x23 _=>?_
   refine T1 (fun hc2=>T2 (err _ (by simpa using hc2))) fun _=>?_
   refine T0 (T4 (by omega) (by omega)) fun e25 _=>?_
   refine T1 (fun _=>T2 (err _ (by decide))) fun hc3=>?_
   simp only [QcU,QW]at hc3
   refine T0 (T4 (by omega) (by omega)).self fun e29 h29=>?_
   refine T0 (QCQ _ _ _ h.k.1).self fun x30 h30=>?_
   refine T1 (fun _=>T2 (err _ (by decide))) fun hc4=>?_
   have hz:=Qh3 (QBH _ _ _ h.k.1) h30.1 (by simpa using hc4)
   have h30:=h30.2 (by simpa using hc4)
   refine T0 (T4 (by omega) (by omega)).self fun e32 h32e=>?_
   have h32:=h32e.2
   have h32e:=h32e.1
   have h29:=h29.1
   rw [Qw3,Qb5 h30]
   simp only [cond_true,Qn]
   have hb:=hJ2 e32 h32
   have key:∃s,QbH e32 [(x30.1,1)]=some s∧(s.2=0→(Rt s.1∧s.1.length≤e32.length+1)∧∀k,QQ s.1 k=QQ e32 k+QQ [(x30.1,1)] k):=by
    rcases Qkk e32 [(x30.1,1)] (by simp;omega)with⟨_,e⟩|⟨_,_,_,e⟩|⟨_,_,r,e,h1,hcn,h2⟩
    ·exact⟨_,e,fun h=>by cases h⟩
    ·exact⟨_,e,fun h=>by cases h⟩
    exact⟨_,e,fun _=>⟨⟨h1,by simpa using h2⟩,hcn⟩⟩
   obtain⟨s,es,hs⟩:=key
   rw [es,Qn]
   refine T0 (T4 (by omega) (by omega)) fun _ _=>?_
   refine T1 (fun hc5=>T2 (err _ (by simpa using hc5))) fun hc5=>?_
   obtain⟨hs,hcn⟩:=hs (by simpa using hc5)
   refine T2 (QC ⟨by omega,by subst hi;exact Qx (by omega) (by unfold maxLen;omega:which.length≤maxLen),⟨by simpa using hJ1,fun b hb'=>?_⟩,fun j b p hb' hp k hk=>?_⟩)
   ·subst hi
    show Rt b∧(b.length:Int)≤w64 ((i:Int)+1)
    rw [Qx (by omega) (by unfold maxLen;omega:which.length≤maxLen)]
    rcases Qr0 hb' with rfl | hb'
    ·exact⟨hs.1,by omega⟩
    have:=hJ2 b hb'
    exact⟨this.1,by omega⟩
   have hb':(m.set e25.Place.toNat s.1)[j]? = some b:=hb'
   by_cases cj:e25.Place.toNat=j
   ·subst cj
    rw [Qqe (by omega)]at hb'
    cases hb'
    rw [Qi1 (by omega)]at h29 h32e
    rw [h29]at hp
    cases hp
    rw [hcn]at hk
    by_cases c0:0<QQ e32 k
    ·exact hJ3 _ e32 e29 h32e h29 k c0
    have h9:0<QQ [(x30.1,1)] k:=by omega
    have h8:x30.1=k:=by
     apply Decidable.byContradiction
     intro hne
     simp [QQ,QG,hne]at h9
    obtain⟨z,hz1,hz2⟩:=hz
    exact⟨z,hz1,by omega⟩
   rw [QoG cj]at hb'
   exact hJ3 j b p hb' hp k hk
  cases e
  exact⟨⟨hJ1,fun b hb=>⟨(hJ2 b hb).1,by have:=(hJ2 b hb).2;omega⟩⟩,hJ3⟩
 rcases q with q | q
 ·exact T2 fun h=>absurd h (hq.1 q rfl)
 exact T2 fun _=>hq.2 q rfl
theorem Qze (a m:List (List (Int×Int)))(ha:QR (QR fun _=>True) a)(hm:QR (QR fun _=>True) m):Qg (QiP a m) fun _=>True:=by
 unfold QiP Qay
 refine T0 (P:=fun _=>True) ?_ fun _ _=>T3
 refine T1 (fun _=>T3) fun hc=>?_
 simp only [bne_eq_false_iff_eq]at hc
 refine T0 (Qg.up a.length (fun st=>st) (fun _=>True) (Q:=fun _=>True) rfl trivial (fun i st hi hn hJ=>?_)) (fun q _=>?_)
 ·show Qg (Qae a m st) _
  unfold Qae
  refine T1 (fun hc=>?_) (fun _=>T2 (Qm trivial))
  simp only [QE]at hc
  refine T0 (T4 (by omega) (by omega)) fun x hx=>?_
  refine T0 (T4 (by omega) (by omega)) fun y hy=>?_
  refine T0 (P:=fun _=>True) (by obtain⟨r,hr,_⟩:=Qw2 x y (ha.2 x hx).1 (hm.2 y hy).1;exact⟨r,hr,trivial⟩) fun _ _=>?_
  exact T1 (fun _=>T2 (Qm trivial)) fun _=>T2 (QC ⟨by omega,by rw [hi];exact Qx (by omega) ha.1,trivial⟩)
 rcases q with q | q
 ·exact T3
 exact T3
theorem MOk.len {n:Qj}{c:Nat}{m:List (List (Int×Int))}(h:MOk n c m)(hn:Q0 n)(hc:c≤1000000):QR (QR fun _=>True) m:=
 ⟨by have:=h.1;have:=hn.pl;unfold maxLen;omega,fun b hb=>⟨by have:=(h.2 b hb).2;unfold maxLen;omega,fun _ _=>trivial⟩⟩
end Go.Proofs
