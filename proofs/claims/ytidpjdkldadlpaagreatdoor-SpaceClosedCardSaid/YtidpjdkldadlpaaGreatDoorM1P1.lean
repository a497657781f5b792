/- A part of the proof; what it holds is told at each theorem. -/
import Derived.Test.YtidpjdkldadlpaaGreatDoorM1XPlA
import Derived.Test.YtidpjdkldadlpaaGreatDoorM1V3
import Derived.Test.YtidpjdkldadlpaaGreatDoorM1T3
import Derived.KernelRfl
set_option linter.unusedVariables false
set_option linter.unusedSimpArgs false
set_option linter.unusedSectionVars false
set_option linter.deprecated false
namespace Go.Vm
open Go Go.RowKit
def Qf {α:Type}(o:Option α)(Q:α→Prop):Prop:=∃r,o=some r∧Q r
section
variable {α β σ ρ:Type}
theorem Qf.ok {a:α}{Q:α→Prop}(h:Q a):Qf (some a) Q:=⟨a,rfl,h⟩
theorem Qf.okT {a:α}:Qf (some a) fun _=>True:=⟨a,rfl,trivial⟩
theorem Qf.bind {o:Option α}{f:α→Option β}{P:α→Prop}{Q:β→Prop}(h:Qf o P)(k:∀x,P x→Qf (f x) Q):Qf (o.bind f) Q:=by
 obtain⟨x,rfl,hx⟩:=h
 exact k x hx
theorem Qf.bif {c:Bool}{a b:Option α}{Q:α→Prop}(h1:c=true→Qf a Q)(h2:c=false→Qf b Q):Qf (bif c then a else b) Q:=by
 cases c with
 | true=>exact h1 rfl
 | false=>exact h2 rfl
theorem Qf.chk {c:Bool}(h:c=true):Qf (chk c) fun _=>True:=⟨(),Qz6 h,trivial⟩
theorem Qf.idx {l:List α}{j:Int}(h0:0≤j)(h1:j<l.length):Qf (idx l j) fun x=>x∈l:=by
 rw [Qt4 h0 h1]
 exact⟨_,rfl,Qav _⟩
theorem Qf.get {l:List α}{j:Nat}(h1:j<l.length):Qf (l[j]?) fun x=>x∈l:=by
 rw [Qw h1]
 exact⟨_,rfl,Qav _⟩
theorem Qf.sidx {s:ByteArray}{j:Int}(h0:0≤j)(h1:j<s.size):Qf (sidx s j) fun _=>True:=by
 unfold Vm.sidx
 rw [if_pos h0]
 have:j.toNat<s.size:=by omega
 rw [getElem?_pos s j.toNat this]
 exact⟨_,rfl,trivial⟩
theorem Qf.mono {o:Option α}{P Q:α→Prop}(h:Qf o P)(k:∀x,P x→Q x):Qf o Q:=let ⟨r,h1,h2⟩:=h;⟨r,h1,k r h2⟩
theorem Qf.tot {o:Option α}{P:α→Prop}(h:Qf o P):∃r,o=some r:=let ⟨r,h1,_⟩:=h;⟨r,h1⟩
theorem Qf.self {o:Option α}{P:α→Prop}(h:Qf o P):Qf o fun x=>o=some x∧P x:=let ⟨r,h1,h2⟩:=h;⟨r,h1,h1,h2⟩
theorem Qf.up {body:σ→Option (σ⊕ρ)}(n:Nat)(ix:σ→Int)(J:σ→Prop){Q:ρ→Prop}{s0:σ}(h0:ix s0=0)(hJ:J s0)
  (step:∀(i:Nat) s,ix s=(i:Int)→i≤n→J s→Qf (body s) fun o=>(∀s',o=.inl s'→i<n∧ix s'=((i+1:Nat):Int)∧J s')∧∀r,o=.inr r→Q r):Qf (QK body s0) Q:=by
 have key:∀k i s,i+k=n→ix s=(i:Int)→J s→∃r,QK body s=some r∧Q r:=by
  intro k
  induction k with
  | zero=>
   intro i s hk hi hj
   obtain⟨o,ho,h1,h2⟩:=step i s hi (by omega) hj
   rw [Qeq,ho]
   cases o with
   | inl s'=>have:=(h1 s' rfl).1;omega
   | inr r=>exact⟨r,rfl,h2 r rfl⟩
  | succ k ih=>
   intro i s hk hi hj
   obtain⟨o,ho,h1,h2⟩:=step i s hi (by omega) hj
   rw [Qeq,ho]
   cases o with
   | inl s'=>
    obtain⟨_,h3,h4⟩:=h1 s' rfl
    exact ih (i+1) s' (by omega) h3 h4
   | inr r=>exact⟨r,rfl,h2 r rfl⟩
 exact key n 0 s0 (by omega) h0 hJ
theorem QC {s:σ}{n i:Nat}{ix:σ→Int}{J:σ→Prop}{Q:ρ→Prop}(h:i<n∧ix s=((i+1:Nat):Int)∧J s):
  (∀s',(Sum.inl s:σ⊕ρ)=.inl s'→i<n∧ix s'=((i+1:Nat):Int)∧J s')∧∀r,(Sum.inl s:σ⊕ρ)=.inr r→Q r:=
 ⟨fun s' e=>(by cases e;exact h),fun r e=>(by cases e)⟩
theorem Ql {r:ρ}{n i:Nat}{ix:σ→Int}{J:σ→Prop}{Q:ρ→Prop}(h:Q r):
  (∀s',(Sum.inr r:σ⊕ρ)=.inl s'→i<n∧ix s'=((i+1:Nat):Int)∧J s')∧∀r',(Sum.inr r:σ⊕ρ)=.inr r'→Q r':=
 ⟨fun s' e=>(by cases e),fun r' e=>(by cases e;exact h)⟩
end
def QQ {α:Type}(ok:α→Prop)(l:List α):Prop:=l.length≤maxLen∧∀x∈l,ok x
theorem QQ.drop {α:Type}{ok:α→Prop}{l:List α}(h:QQ ok l)(k:Nat):QQ ok (l.drop k):=⟨by have:=h.1;rw [Qnl];omega,fun x hx=>h.2 x (Qr1 hx)⟩
theorem QQ.take {α:Type}{ok:α→Prop}{l:List α}(h:QQ ok l)(k:Nat):QQ ok (l.take k):=⟨by have:=h.1;rw [Qfu];omega,fun x hx=>h.2 x (Qig hx)⟩
theorem QQ.nil {α:Type}{ok:α→Prop}:QQ ok ([]:List α):=⟨by simp,fun x h=>by cases h⟩
theorem QQ.app {α:Type}{ok:α→Prop}{l m:List α}(h:QQ ok l)(hm:QQ ok m)(hs:l.length+m.length≤maxLen):QQ ok (l++m):=⟨by simpa using hs,fun x hx=>by rcases QcK.1 hx with h1 | h1;exact h.2 x h1;exact hm.2 x h1⟩
def Qgr (s:ByteArray):Prop:=s.size≤maxLen
theorem QA7 {s:ByteArray}(h:Qih s (⟨#[]⟩:ByteArray)=false):0<s.size:=by
 apply Nat.pos_of_ne_zero
 intro h0
 have:s=⟨#[]⟩:=by
  obtain⟨a⟩:=s
  have:a=#[]:=Array.eq_empty_of_size_eq_zero h0
  rw [this]
 subst this
 simp [Qih]at h
theorem Ql6 {a b:Int}:0≤min2 a b↔0≤a∧0≤b:=by unfold min2;split<;>omega
theorem Ql7 {a b n:Int}:max2 a b<n↔a<n∧b<n:=by unfold max2;split<;>omega
theorem QkV {a b n:Int}:max2 a b≤n↔a≤n∧b≤n:=by unfold max2;split<;>omega
abbrev T0:=@Qf.bind
abbrev T1:=@Qf.bif
abbrev T2:=@Qf.ok
abbrev T3:=@Qf.okT
abbrev T4:=@Qf.idx
abbrev T5:=@Qf.chk
abbrev T6:=@Qf.mono
end Go.Vm
namespace Go.Vm
open Go Go.RowKit
def Asc (l:List (Int×Int)):Prop:=l.Pairwise fun p q=>p.1<q.1
def Qnx (l:List (Int×Int)):Prop:=l.Pairwise fun p q=>p.1≠q.1
theorem Asc.nd {l:List (Int×Int)}(h:Asc l):Qnx l:=h.imp fun h=>by omega
theorem Qgh {p:Int×Int}{l:List (Int×Int)}:Asc (p::l)↔(∀q∈l,p.1<q.1)∧Asc l:=Qum
theorem Qzk {p:Int×Int}{l:List (Int×Int)}:Qnx (p::l)↔(∀q∈l,p.1≠q.1)∧Qnx l:=Qum
theorem Qwt {l:List (Int×Int)}{k:Int}:QE l k=none↔∀p∈l,p.1≠k:=by
 induction l with
 | nil=>simp [QE]
 | cons p l ih=>
  obtain⟨a,x⟩:=p
  rw [Qaw]
  by_cases h:a=k
  ·simp [h]
  simp [h,ih]
theorem Qd6 {l:List (Int×Int)}(hn:Qnx l){k v:Int}:QE l k=some v↔(k,v)∈l:=by
 induction l with
 | nil=>simp [QE]
 | cons p l ih=>
  obtain⟨a,x⟩:=p
  obtain⟨h1,h2⟩:=Qzk.1 hn
  rw [Qaw]
  by_cases h:a=k
  ·subst h
   rw [if_pos rfl]
   constructor
   ·intro e;cases e;simp
   intro e
   rcases Qa1.1 e with e | e
   ·cases e;rfl
   exact absurd rfl (h1 (a,v) e)
  rw [if_neg h,ih h2]
  constructor
  ·intro e;exact QaM _ e
  intro e
  rcases Qa1.1 e with e | e
  ·cases e;exact absurd rfl h
  exact e
theorem QA8 {l m:List (Int×Int)}(hl:Qnx l)(h:l.Perm m)(k:Int):QE l k=QE m k:=by
 have hm:Qnx m:=(h.pairwise_iff (fun hab=>Ne.symm hab)).1 hl
 apply Option.ext
 intro v
 rw [Qd6 hl,Qd6 hm]
 exact h.mem_iff
theorem Qzl {l m:List (Int×Int)}(hl:Asc l)(hm:Asc m)(h:∀k,QE l k=QE m k):l=m:=by
 induction l generalizing m with
 | nil=>
  cases m with
  | nil=>rfl
  | cons p m=>have:=h p.1;rw [Qaw (κ:=Int)]at this;simp [QE]at this
 | cons p l ih=>
  obtain⟨a,x⟩:=p
  cases m with
  | nil=>have:=h a;rw [Qaw]at this;simp [QE]at this
  | cons q m=>
   obtain⟨b,y⟩:=q
   obtain⟨l1,l2⟩:=Qgh.1 hl
   obtain⟨m1,m2⟩:=Qgh.1 hm
   have hab:a=b:=by
    rcases Int.lt_trichotomy a b with hc | hc | hc
    ·have e:=h a
     rw [Qaw,Qaw,if_pos rfl,if_neg (by omega),Qwt.2 (fun p hp=>by have:=m1 p hp;simp at this;omega)]at e
     cases e
    ·exact hc
    have e:=h b
    rw [Qaw,Qaw,if_neg (by omega),if_pos rfl,Qwt.2 (fun p hp=>by have:=l1 p hp;simp at this;omega)]at e
    cases e
   subst hab
   have e:=h a
   rw [Qaw,Qaw,if_pos rfl,if_pos rfl]at e
   cases e
   rw [ih l2 m2 fun k=>?_]
   by_cases hk:a=k
   ·subst hk
    rw [Qwt.2 (fun p hp=>by have:=l1 p hp;simp at this;omega),Qwt.2 (fun p hp=>by have:=m1 p hp;simp at this;omega)]
   have:=h k
   rwa [Qaw,Qaw,if_neg hk,if_neg hk]at this
theorem QDO {l:List (Int×Int)}{k v:Int}{p:Int×Int}(h:p∈QhH l k v):∃q∈l,q.1=p.1:=by
 induction l with
 | nil=>cases h
 | cons q l ih=>
  obtain⟨a,x⟩:=q
  rw [QhH]at h
  split at h
  ·rename_i e
   rcases Qa1.1 h with rfl | h
   ·exact⟨_,QaN,e⟩
   exact⟨p,QaM _ h,rfl⟩
  rcases Qa1.1 h with rfl | h
  ·exact⟨_,QaN,rfl⟩
  obtain⟨q,h1,h2⟩:=ih h
  exact⟨q,QaM _ h1,h2⟩
theorem QCc {lt:Int→Int→Bool}{l:List (Int×Int)}{k v:Int}{p:Int×Int}(h:p∈Qg0 lt l k v):p=(k,v)∨p∈l:=by
 induction l with
 | nil=>simp [Qg0]at h;exact .inl h
 | cons q l ih=>
  obtain⟨a,x⟩:=q
  rw [Qg0]at h
  split at h
  ·rcases Qa1.1 h with h | h
   ·exact .inl h
   exact .inr h
  rcases Qa1.1 h with h | h
  ·exact .inr (h▸QaN)
  rcases ih h with h | h
  ·exact .inl h
  exact .inr (QaM _ h)
theorem QyJ {l:List (Int×Int)}(h:Asc l)(k v:Int):Asc (Qan ltI l k v):=by
 unfold Qan
 split
 ·rename_i x hx
  clear hx
  induction l with
  | nil=>exact h
  | cons p l ih=>
   obtain⟨a,x⟩:=p
   obtain⟨h1,h2⟩:=Qgh.1 h
   rw [QhH]
   split
   ·rename_i e;subst e;exact Qgh.2 ⟨h1,h2⟩
   refine Qgh.2 ⟨fun q hq=>?_,ih h2⟩
   obtain⟨q',hq',e⟩:=QDO hq
   rw [←e];exact h1 _ hq'
 rename_i hn
 induction l with
 | nil=>exact Qr2 _ _
 | cons p l ih=>
  obtain⟨a,x⟩:=p
  obtain⟨h1,h2⟩:=Qgh.1 h
  rw [Qaw]at hn
  split at hn
  ·cases hn
  rename_i hne
  rw [Qg0]
  split
  ·rename_i e
   have e:k<a:=Q7 e
   refine Qgh.2 ⟨fun q hq=>?_,h⟩
   rcases Qa1.1 hq with rfl | hq
   ·exact e
   have:=h1 q hq;simp at this ⊢;omega
  rename_i e
  have e:¬k<a:=fun c=>e (QbW c)
  refine Qgh.2 ⟨fun q hq=>?_,ih h2 hn⟩
  rcases QCc hq with rfl | hq
  ·show a<k;omega
  exact h1 q hq
theorem QCd {l:List (Int×Int)}{k v:Int}:(QhH l k v).length=l.length:=by
 induction l with
 | nil=>rfl
 | cons p l ih=>
  obtain⟨a,x⟩:=p
  rw [QhH]
  split
  ·rfl
  simp [ih]
theorem QCe {lt:Int→Int→Bool}{l:List (Int×Int)}{k v:Int}:(Qg0 lt l k v).length=l.length+1:=by
 induction l with
 | nil=>rfl
 | cons p l ih=>
  obtain⟨a,x⟩:=p
  rw [Qg0]
  split
  ·rfl
  simp [ih]
theorem QCf {l:List (Int×Int)}{k v:Int}:(Qan ltI l k v).length≤l.length+1:=by
 unfold Qan
 split
 ·rw [QCd];omega
 rw [QCe];exact QbZ _
theorem QCg {l:List (Int×Int)}{k v:Int}(h:Asc (l++[(k,v)])):Qan ltI l k v=l++[(k,v)]:=by
 have hl:Asc l:=(List.pairwise_append.1 h).1
 refine Qzl (QyJ hl k v) h fun j=>?_
 rw [Qkb]
 have hk:∀p∈l,p.1<k:=fun p hp=>(List.pairwise_append.1 h).2.2 p hp (k,v) (by simp)
 clear h
 induction l with
 | nil=>
  show(if j=k then some v else none)=(if k=j then some v else none)
  by_cases c:j=k
  ·rw [if_pos c,if_pos c.symm]
  rw [if_neg c,if_neg (fun e=>c e.symm)]
 | cons p l ih=>
  obtain⟨a,x⟩:=p
  have h1:=hk (a,x) QaN
  simp only at h1
  rw [List.cons_append,Qaw,Qaw]
  rw [←ih (Qgh.1 hl).2 fun p hp=>hk p (QaM _ hp)]
  by_cases c:j=k
  ·subst c;rw [if_pos rfl,if_pos rfl,if_neg (by omega)]
  rw [if_neg c,if_neg c]
section
variable {ρ:Type}{g:Int→Int→Int}{stop:Int→Bool}{q:Option ρ}{body:List (Int×Int)→Int×Int→Option (List (Int×Int)⊕ρ)}
def QP (s:List (Int×Int))(k:Int):Int:=(QE s k).getD 0
def Quv (g:Int→Int→Int)(s l:List (Int×Int))(k:Int):Option Int:=match QE l k with
 | some v=>some (g (QP s k) v)
 | none=>QE s k
theorem QsH (hb:∀s p,body s p=bif stop (g (QP s p.1) p.2)then q.map Sum.inr else some (.inl (Qan ltI s p.1 (g (QP s p.1) p.2)))):
  ∀l s,Asc s→Qnx l→((∃p∈l,stop (g (QP s p.1) p.2)=true)∧Qdi body s l=q.map Sum.inr)∨
   ((∀p∈l,stop (g (QP s p.1) p.2)=false)∧∃s',Qdi body s l=some (.inl s')∧Asc s'∧s'.length≤s.length+l.length∧∀k,QE s' k=Quv g s l k):=by
 intro l
 induction l with
 | nil=>intro s hs _;exact .inr ⟨fun p h=>(by cases h),s,rfl,hs,by simp,fun k=>rfl⟩
 | cons p l ih=>
  intro s hs hl
  obtain⟨h1,h2⟩:=Qzk.1 hl
  simp only [Qdi,hb]
  cases hst:stop (g (QP s p.1) p.2)with
  | true=>exact .inl ⟨⟨p,QaN,hst⟩,by cases q<;>rfl⟩
  | false=>
   simp only [cond_false,Qn,Sum.elim_inl]
   have hc:∀r∈l,QP (Qan ltI s p.1 (g (QP s p.1) p.2)) r.1=QP s r.1:=fun r hr=>by
    unfold QP
    rw [Qkb,if_neg (fun e=>h1 r hr e.symm)]
   rcases ih _ (QyJ hs p.1 (g (QP s p.1) p.2)) h2 with⟨⟨r,hr,h3⟩,h4⟩|⟨h3,s',h4,h5,h6,h7⟩
   ·exact .inl ⟨⟨r,QaM _ hr,by rw [hc r hr]at h3;exact h3⟩,h4⟩
   refine .inr ⟨fun r hr=>?_,s',h4,h5,?_,fun k=>?_⟩
   ·rcases Qa1.1 hr with rfl | hr
    ·exact hst
    have:=h3 r hr;rwa [hc r hr]at this
   ·have:=QCf (l:=s) (k:=p.1) (v:=g (QP s p.1) p.2)
    simp;omega
   rw [h7]
   obtain⟨a,x⟩:=p
   unfold Quv
   rw [Qaw]
   by_cases e:a=k
   ·subst e
    rw [if_pos rfl,Qwt.2 (fun r hr=>Ne.symm (h1 r hr)),Qkb,if_pos rfl]
   rw [if_neg e]
   simp only [QP,Qkb,if_neg (fun e'=>e (Eq.symm e'):¬k=a)]
theorem Qwu (hb:∀s p,body s p=bif stop (g (QP s p.1) p.2)then q.map Sum.inr else some (.inl (Qan ltI s p.1 (g (QP s p.1) p.2)))){l s:List (Int×Int)}(hs:Asc s)(hl:Qnx l):
  ((∃p∈l,stop (g (QP s p.1) p.2)=true)∧∀r,q=some r→QiP body s l=some (.inr r))∨
   ((∀p∈l,stop (g (QP s p.1) p.2)=false)∧∃s',QiP body s l=some (.inl s')∧Asc s'∧s'.length≤s.length+l.length∧∀k,QE s' k=Quv g s l k):=by
 have key:∀l':List (Int×Int),l'.Perm l→Qdi body s l'=Qdi body s l:=fun l' hp=>by
  have hl':Qnx l':=(hp.pairwise_iff (fun hab=>Ne.symm hab)).2 hl
  rcases QsH hb l' s hs hl' with⟨⟨p,h1,h2⟩,h3⟩|⟨h1,s1,h3,h4,_,h5⟩
  ·rcases QsH hb l s hs hl with⟨_,g3⟩|⟨g1,_⟩
   ·rw [h3,g3]
   rw [g1 p (hp.mem_iff.1 h1)]at h2;cases h2
  rcases QsH hb l s hs hl with⟨⟨p,g1,g2⟩,g3⟩|⟨g1,s2,g3,g4,_,g5⟩
  ·rw [h1 p (hp.mem_iff.2 g1)]at g2;cases g2
  rw [h3,g3,Qzl h4 g4 fun k=>?_]
  rw [h5,g5]
  unfold Quv
  rw [QA8 hl' hp k]
 rcases QsH hb l s hs hl with⟨h1,h3⟩|⟨h1,s1,h3,h4,h6,h5⟩
 ·exact .inl ⟨h1,fun r hr=>Qkn.2 ⟨key,by rw [h3,hr];rfl⟩⟩
 exact .inr ⟨h1,s1,Qkn.2 ⟨key,h3⟩,h4,h6,h5⟩
end
theorem Qz8 {ρ:Type}{bad:Int×Int→Bool}{q:ρ}{body:Unit→Int×Int→Option (Unit⊕ρ)}(hb:∀p,body () p=some (bif bad p then .inr q else .inl ()))(l:List (Int×Int)):
  QiP body () l=some (bif l.any bad then .inr q else .inl ()):=by
 have h1:∀l:List (Int×Int),Qdi body () l=some (bif l.any bad then .inr q else .inl ()):=by
  intro l
  induction l with
  | nil=>rfl
  | cons p l ih=>
   simp only [Qdi,hb,Qn,List.any_cons]
   cases bad p with
   | true=>rfl
   | false=>exact ih
 refine Qkn.2 ⟨fun l' hp=>?_,h1 l⟩
 rw [h1,h1]
 congr 2
 rw [Bool.eq_iff_iff,Qkk,Qkk]
 exact⟨fun ⟨x,a,b⟩=>⟨x,hp.mem_iff.1 a,b⟩,fun ⟨x,a,b⟩=>⟨x,hp.mem_iff.2 a,b⟩⟩
def rtF (a:Int):List (Int×Int)→Bool
 | []=>true
 | p::r=>!(decide (p.1≤a)||(decide (p.2<1)||decide (1048576<p.2)))&&rtF p.1 r
theorem QC2 {a:Int}{l:List (Int×Int)}:rtF a l=true↔Asc l∧∀p∈l,a<p.1∧1≤p.2∧p.2≤1048576:=by
 induction l generalizing a with
 | nil=>simp [rtF,Asc]
 | cons p l ih=>
  rw [rtF,QG,ih,Qgh]
  simp only [Qfs,Qdb,QW]
  constructor
  ·rintro ⟨⟨h1,h2,h3⟩,h4,h5⟩
   refine⟨⟨fun q hq=>(h5 q hq).1,h4⟩,fun q hq=>?_⟩
   rcases Qa1.1 hq with rfl | hq
   ·omega
   have:=h5 q hq;omega
  rintro ⟨⟨h1,h2⟩,h3⟩
  have:=h3 p QaN
  exact⟨by omega,h2,fun q hq=>⟨h1 q hq,(h3 q (QaM _ hq)).2⟩⟩
def Rt (l:List (Int×Int)):Prop:=Asc l∧∀p∈l,0≤p.1∧1≤p.2∧p.2≤1048576
theorem QdX {l:List (Int×Int)}:rtF (-1) l=true↔Rt l:=by
 rw [QC2]
 constructor
 ·rintro ⟨h1,h2⟩;exact⟨h1,fun p hp=>by have:=h2 p hp;omega⟩
 rintro ⟨h1,h2⟩;exact⟨h1,fun p hp=>by have:=h2 p hp;omega⟩
theorem Rt.nil : Rt []:=⟨List.Pairwise.nil,fun p h=>by cases h⟩
theorem Qi3 {l:List (Int×Int)}(h:Qnx l){p:Int×Int}(hp:p∈l):QP l p.1=p.2:=by
 unfold QP;rw [(Qd6 h).2 (show(p.1,p.2)∈l from hp)];rfl
theorem Rt.cnt {l:List (Int×Int)}(h:Rt l)(k:Int):0≤QP l k∧QP l k≤1048576:=by
 unfold QP
 cases e:QE l k with
 | none=>simp
 | some v=>have:=h.2 _ ((Qd6 h.1.nd).1 e);simp at this ⊢;omega
theorem Rt.cnt_pos {l:List (Int×Int)}(h:Rt l){k:Int}(hk:0<QP l k):0≤k:=by
 unfold QP at hk
 cases e:QE l k with
 | none=>rw [e]at hk;simp at hk
 | some v=>exact(h.2 _ ((Qd6 h.1.nd).1 e)).1
def Qkc (l:List (Int×Int)):List (Int×Int):=l.filter fun p=>decide (0<p.2)
theorem QyK {l:List (Int×Int)}(h:Asc l)(k:Int):QP (Qkc l) k=if 0<QP l k then QP l k else 0:=by
 have hp:Asc (Qkc l):=h.sublist List.filter_sublist
 by_cases c:0<QP l k
 ·rw [if_pos c]
  unfold QP at c
  cases e:QE l k with
  | none=>rw [e]at c;simp at c
  | some v=>
   rw [e]at c
   have h1:(k,v)∈Qkc l:=Qnn.2 ⟨(Qd6 h.nd).1 e,by simpa using c⟩
   unfold QP
   rw [(Qd6 hp.nd).2 h1,e]
 rw [if_neg c]
 unfold QP
 cases e:QE (Qkc l) k with
 | none=>rfl
 | some v=>
  have h1:=Qnn.1 ((Qd6 hp.nd).1 e)
  have h2:=(Qd6 h.nd).2 h1.1
  unfold QP at c
  rw [h2]at c
  simp at h1 c;omega
theorem QA9 {l:List (Int×Int)}(h:Asc l)(hb:∀k,0<QP l k→0≤k∧QP l k≤1048576):Rt (Qkc l):=by
 refine⟨h.sublist List.filter_sublist,fun p hp=>?_⟩
 obtain⟨h1,h2⟩:=Qnn.1 hp
 have h3:=Qi3 h.nd h1
 have h4:0<p.2:=Q7 h2
 have:=hb p.1 (by omega)
 omega
theorem QBa {l:List (Int×Int)}(h:Asc l):QeF (l.map Prod.fst)=l.map Prod.fst:=by
 rw [Qst]
 refine List.mergeSort_of_pairwise ?_
 rw [Qou]
 exact h.imp fun h=>by simp;omega
end Go.Vm
namespace Go.Vm
open Go Go.RowKit
def upL : Int→Nat→List Int
 | _,0=>[]
 | x,k+1=>x::upL (x+1) k
def binds : List Int→List (List Int)
 | []=>[[]]
 | s::r=>(0::upL 1 (s-1).toNat).flatMap fun x=>(binds r).map (x::·)
def QdY : List Int→List Int→List (List Int)
 | s::r,x::d=>(QdY r d).map (x::·)++(upL (x+1) (s-(x+1)).toNat).flatMap fun y=>(binds r).map (y::·)
 | _,_=>[]
def Qkd (l:List Int):List Int:=List.replicate l.length 0
theorem Qvh (l:List Int):binds l=Qkd l::QdY l (Qkd l):=by
 induction l with
 | nil=>rfl
 | cons s r ih=>
  show(0::upL 1 (s-1).toNat).flatMap (fun x=>(binds r).map (x::·))=(0::Qkd r)::((QdY r (Qkd r)).map (0::·)++(upL (0+1) (s-(0+1)).toNat).flatMap fun y=>(binds r).map (y::·))
  rw [Qlx,Int.zero_add]
  have:(binds r).map (fun x=>(0:Int)::x)=(0::Qkd r)::(QdY r (Qkd r)).map (0::·):=by rw [ih];rfl
  rw [this];rfl
def QoJ : List Int→List Int→Option (List Int)
 | s::r,x::d=>match QoJ r d with
  | some e=>some (x::e)
  | none=>if x+1<s then some ((x+1)::Qkd r)else none
 | _,_=>none
theorem Qz9 : ∀l d:List Int,QdY l d=match QoJ l d with
  | none=>[]
  | some e=>e::QdY l e:=by
 intro l
 induction l with
 | nil=>intro d;rfl
 | cons s r ih=>
  intro d
  cases d with
  | nil=>rfl
  | cons x d=>
   have h:=ih d
   rw [QoJ]
   cases e:QoJ r d with
   | some e'=>
    rw [e]at h
    simp only [QdY,h];rfl
   | none=>
    rw [e]at h
    simp only at h
    simp only [QdY,h,List.map_nil,Qp7]
    by_cases c:x+1<s
    ·rw [if_pos c]
     rw [show(s-(x+1)).toNat=(s-(x+1+1)).toNat+1 by omega,upL,Qlx]
     have:(binds r).map (fun z=>(x+1)::z)=((x+1)::Qkd r)::(QdY r (Qkd r)).map ((x+1)::·):=by rw [Qvh r];rfl
     rw [this];rfl
    rw [if_neg c,show(s-(x+1)).toNat=0 by omega];rfl
theorem QxI : ∀l d:List Int,(∀(j:Nat) x s,d[j]? = some x→l[j]? = some s→¬x+1<s)→QoJ l d=none:=by
 intro l
 induction l with
 | nil=>intro d _;cases d<;>rfl
 | cons s r ih=>
  intro d h
  cases d with
  | nil=>rfl
  | cons x d=>
   rw [QoJ,ih d fun j y z h1 h2=>h (j+1) y z (by simpa using h1) (by simpa using h2)]
   simp only
   rw [if_neg (h 0 x s rfl rfl)]
theorem QC3 : ∀(k:Nat) (l d:List Int) (x s:Int),l.length=d.length→d[k]? = some x→l[k]? = some s→x+1<s→(∀(j:Nat) y z,k<j→d[j]? = some y→l[j]? = some z→¬y+1<z)→
  QoJ l d=some (d.take k++(x+1)::List.replicate (d.length-(k+1)) 0):=by
 intro k
 induction k with
 | zero=>
  intro l d x s hl hd hs hlt ha
  cases l with
  | nil=>cases hs
  | cons s' r=>
   cases d with
   | nil=>cases hd
   | cons x' d=>
    simp only [List.getElem?_cons_zero,Option.some.injEq]at hd hs
    subst hd;subst hs
    rw [QoJ,QxI r d fun j y z h1 h2=>ha (j+1) y z (by omega) (by simpa using h1) (by simpa using h2)]
    simp only
    rw [if_pos hlt]
    simp only [Qft]at hl
    simp [Qkd];omega
 | succ k ih=>
  intro l d x s hl hd hs hlt ha
  cases l with
  | nil=>cases hs
  | cons s' r=>
   cases d with
   | nil=>cases hd
   | cons x' d=>
    simp only [QrY]at hd hs
    simp only [Qft,Nat.add_right_cancel_iff]at hl
    rw [QoJ,ih r d x s hl hd hs hlt fun j y z h0 h1 h2=>ha (j+1) y z (by omega) (by simpa using h1) (by simpa using h2)]
    simp
def inB : List Int→List Int→Prop
 | [],[]=>True
 | s::r,x::d=>0≤x∧(x=0∨x<s)∧inB r d
 | _,_=>False
theorem QC4 {y x:Int}{k:Nat}:y∈upL x k↔x≤y∧y<x+k:=by
 induction k generalizing x with
 | zero=>
  simp only [upL,List.not_mem_nil,false_iff];omega
 | succ k ih=>simp only [upL,Qa1,ih];omega
theorem QBb {l d:List Int}:d∈binds l↔inB l d:=by
 induction l generalizing d with
 | nil=>cases d<;>simp [binds,inB]
 | cons s r ih=>
  cases d with
  | nil=>simp [binds,inB]
  | cons x d=>
   simp only [binds,List.mem_flatMap,Qa1,QC4,Qa2,List.cons.injEq,inB,←ih]
   constructor
   ·rintro ⟨y,h1,e,h2,rfl,rfl⟩
    exact⟨by omega,by omega,h2⟩
   rintro ⟨h1,h2,h3⟩
   exact⟨x,by omega,d,h3,rfl,rfl⟩
theorem QC5 {l d:List Int}(h:inB l d):d.length=l.length:=by
 induction l generalizing d with
 | nil=>cases d with
  | nil=>rfl
  | cons x d=>exact h.elim
 | cons s r ih=>cases d with
  | nil=>exact h.elim
  | cons x d=>simp [ih h.2.2]
section
variable {α:Type}
def adv (most:Nat)(acc X:List α):List α⊕List α:=if (acc++X).length<most then .inr (acc++X)else .inl ((acc++X).take most)
theorem QrJ {most:Nat}{acc:List α}(h:acc.length<most):adv most acc []=.inr acc:=by
 unfold adv
 rw [Qp2,if_pos h]
theorem QCh {most:Nat}{acc X:List α}(h:acc.length=most):adv most acc X=.inl acc:=by
 unfold adv
 rw [if_neg (by simp;omega)]
 subst h
 rw [List.take_left]
theorem QCi {most:Nat}{acc X:List α}{x:α}:adv most acc (x::X)=adv most (acc++[x]) X:=by
 unfold adv
 rw [Qdu];rfl
theorem Qzm {most:Nat}{acc X Y:List α}:adv most acc (X++Y)=match adv most acc X with
  | .inl a=>.inl a
  | .inr a=>adv most a Y:=by
 unfold adv
 by_cases c:(acc++X).length<most
 ·rw [if_pos c]
  simp only [Qdu]
 rw [if_neg c,if_neg (by simp at c ⊢;omega),←Qdu,Qun (by omega)]
theorem QBc {most:Nat}{acc X a:List α}(h:adv most acc X=.inr a):a.length<most:=by
 unfold adv at h
 split at h
 ·cases h;assumption
 cases h
theorem Qzn {most:Nat}{acc X a:List α}(h:adv most acc X=.inr a):a=acc++X:=by
 unfold adv at h
 split at h
 ·cases h;rfl
 cases h
theorem QCj {most:Nat}{X:List α}(h:0<most):(match adv most [] X with | .inl a=>a | .inr a=>a)=X.take most:=by
 unfold adv
 rw [Qp7]
 by_cases c:X.length<most
 ·rw [if_pos c];simp only;rw [Qcm (by omega)]
 rw [if_neg c]
end
end Go.Vm
namespace Go.Vm
open Go Go.RowKit
section
variable {M K:Type}[DecidableEq K](key:M→K)(succ:M→List M)
def Qxh (out:List M)(x:M):Bool:=out.any fun y=>decide (key y=key x)
def QcH (most:Nat):List M→List M→List M⊕List M
 | out,[]=>.inr out
 | out,x::xs=>if Qxh key out x then QcH most out xs else if out.length=most then .inl out else QcH most (out++[x]) xs
def Qh3 (most:Nat):Nat→List M→Nat→List M×Bool
 | 0,out,_=>(out,true)
 | f+1,out,a=>match out[a]? with
  | none=>(out,true)
  | some x=>match QcH key most out (succ x)with
   | .inl o=>(o,false)
   | .inr o=>Qh3 most f o (a+1)
variable {key}{succ}
theorem QAa {most:Nat}:∀{xs out o:List M},QcH key most out xs=.inr o→out.length≤most→(∃r,o=out++r)∧o.length≤most:=by
 intro xs
 induction xs with
 | nil=>intro out o h hl;cases h;exact⟨⟨[],by simp⟩,hl⟩
 | cons x xs ih=>
  intro out o h hl
  rw [QcH]at h
  split at h
  ·exact ih h hl
  split at h
  ·cases h
  obtain⟨⟨r,hr⟩,h2⟩:=ih h (by simp;omega)
  exact⟨⟨x::r,by rw [hr];simp⟩,h2⟩
theorem QAb {most:Nat}:∀{xs out o:List M},QcH key most out xs=.inl o→out.length≤most→(∃r,o=out++r)∧o.length=most:=by
 intro xs
 induction xs with
 | nil=>intro out o h hl;cases h
 | cons x xs ih=>
  intro out o h hl
  rw [QcH]at h
  split at h
  ·exact ih h hl
  split at h
  ·cases h;exact⟨⟨[],by simp⟩,by assumption⟩
  obtain⟨⟨r,hr⟩,h2⟩:=ih h (by simp;omega)
  exact⟨⟨x::r,by rw [hr];simp⟩,h2⟩
def QiJ (key:M→K)(l:List M):Prop:=l.Pairwise fun a b=>key a≠key b
theorem QiJ.add {l:List M}{x:M}(h:QiJ key l)(hx:Qxh key l x=false):QiJ key (l++[x]):=by
 unfold QiJ
 rw [List.pairwise_append]
 refine⟨h,Qr2 _ _,fun a ha b hb=>?_⟩
 rw [List.mem_singleton]at hb
 subst hb
 intro e
 have:Qxh key l b=true:=Qkk.2 ⟨a,ha,QbW e⟩
 rw [this]at hx;cases hx
theorem Qwv {P:M→Prop}{most:Nat}:∀{xs out o:List M},(QcH key most out xs=.inl o∨QcH key most out xs=.inr o)→QiJ key out→(∀x∈out,P x)→(∀x∈xs,P x)→QiJ key o∧∀x∈o,P x:=by
 intro xs
 induction xs with
 | nil=>intro out o h ha hp _;rcases h with h | h<;>cases h;exact⟨ha,hp⟩
 | cons x xs ih=>
  intro out o h ha hp hx
  rw [QcH]at h
  split at h
  ·exact ih h ha hp fun y hy=>hx y (QaM _ hy)
  rename_i c
  split at h
  ·rcases h with h | h<;>cases h;exact⟨ha,hp⟩
  refine ih h (ha.add (by simpa using c)) (fun y hy=>?_) fun y hy=>hx y (QaM _ hy)
  rcases QcK.1 hy with hy | hy
  ·exact hp y hy
  simp at hy;subst hy;exact hx _ QaN
theorem QBd {P:M→Prop}(hs:∀x,P x→∀y∈succ x,P y){most:Nat}:∀(f:Nat) {out:List M} {a:Nat},out.length≤most→QiJ key out→(∀x∈out,P x)→
  (∃r,(Qh3 key succ most f out a).1=out++r)∧(Qh3 key succ most f out a).1.length≤most∧QiJ key (Qh3 key succ most f out a).1∧∀x∈(Qh3 key succ most f out a).1,P x:=by
 intro f
 induction f with
 | zero=>intro out a hl ha hp;exact⟨⟨[],by simp [Qh3]⟩,hl,ha,hp⟩
 | succ f ih=>
  intro out a hl ha hp
  rw [Qh3]
  cases ho:out[a]? with
  | none=>exact⟨⟨[],by simp⟩,hl,ha,hp⟩
  | some x=>
   simp only
   have hx:=hp x (Qap ho)
   cases e:QcH key most out (succ x)with
   | inl o=>
    obtain⟨h1,h2⟩:=QAb e hl
    obtain⟨h3,h4⟩:=Qwv (.inl e) ha hp (hs x hx)
    exact⟨h1,by simp only;omega,h3,h4⟩
   | inr o=>
    obtain⟨⟨r,hr⟩,h2⟩:=QAa e hl
    obtain⟨h3,h4⟩:=Qwv (.inr e) ha hp (hs x hx)
    simp only
    obtain⟨⟨r2,hr2⟩,k2⟩:=ih (a:=a+1) h2 h3 h4
    exact⟨⟨r++r2,by rw [hr2,hr,Qdu]⟩,k2⟩
end
end Go.Vm
noncomputable section
namespace Go.Proofs
open Go Go.RowKit Go.Vm
inductive Qds : Qo→Prop where
 | mk (e:Qo):e.Kids.length≤maxLen→(∀k∈e.Kids,Qds k)→Qds e
theorem QeW {e:Qo}(h:Qds e):QQ Qds e.Kids:=by
 cases h with
 | mk _ h1 h2=>exact⟨h1,h2⟩
theorem Qt5 {e k:Qo}(h:k∈e.Kids):SizeOf.sizeOf k<SizeOf.sizeOf e:=by
 obtain⟨a,b,l⟩:=e
 have:=List.sizeOf_lt_of_mem h
 simp only [Qo.mk.sizeOf_spec]at *
 omega
theorem Qo.pos (e:Qo):0<SizeOf.sizeOf e:=by
 obtain⟨a,b,l⟩:=e
 simp only [Qo.mk.sizeOf_spec];omega
inductive POk (v:Int):Qo→Prop where
 | mk (e:Qo):(e.Kind=1∨e.Kind=2∨e.Kind=3∨e.Kind=4∨e.Kind=5∨e.Kind=6)→(e.Kind=2→0≤e.Num∧e.Num<v)→(e.Kind=3∨e.Kind=4→e.Kids.length=1)→(e.Kind=5→e.Kids.length=2)→(e.Kind=6→e.Kids.length=3)→(∀k∈e.Kids,POk v k)→POk v e
def Qcj (x:QI):Prop:=Qgr x.Name∧True∧True∧True∧(QQ Qgr) x.Names∧True∧True
def QcV (x:QN):Prop:=Qgr x.Name∧True∧(QQ (fun _=>True)) x.First
def Qep (x:QaQ):Prop:=Qgr x.Name∧True
def Qke (x:Qax):Prop:=True∧Qds x.Expr
def QaL (x:QB):Prop:=Qgr x.Name∧(QQ Qep) x.Vars∧Qds x.Guard∧True∧True∧(QQ Qke) x.Ins∧(QQ Qke) x.Outs∧(QQ (fun _=>True)) x.Cancel∧True∧True
def QY (x:Qj):Prop:=(QQ Qcj) x.Colours∧(QQ QcV) x.Places∧(QQ QaL) x.Tasks∧True∧True
def QxX (x:QaY):Prop:=(QQ Qcj) x.all∧(QQ (fun _=>True)) x.sizes∧True
theorem Qww (v1:Qj)(h_v1:QY v1):Qf (QlE v1) fun r=>True:=by
 unfold QlE
 exact T3
theorem Qcu (l1:(List QN))(k2:Int)(h_l1:(QQ QcV) l1):Qf (QaR l1 k2) fun r=>r=true→0≤k2∧k2<l1.length:=by
 unfold QaR
 exact T2 (by first | (intro hr;first | (cases hr;done) | omega | ((try simp only [QG,Qdt,Qdb,Qfs,Qjf,QD,QW,beq_iff_eq,bne_iff_ne,ne_eq,Qoq,Qp1,QcW,Qmd,Qnm,Qnl,Qfu,Qft,Ql6,Ql7,QkV]at *);omega)) | ((try simp only [QG,Qdt,Qdb,Qfs,Qjf,QD,QW,beq_iff_eq,bne_iff_ne,ne_eq,Qoq,Qp1,QcW,Qmd,Qnm,Qnl,Qfu,Qft,Ql6,Ql7,QkV]at *);omega) | simp_all)
theorem Qwx (v1:Qj)(h_v1:QY v1):Qf (QlF v1) fun r=>True:=by
 unfold QlF
 refine T0 (P:=fun _=>True) ?_ (fun x_1 hv2=>?_)
 ·unfold Qpy
  refine T0 (Qcu v1.Places v1.From (h_v1.2.1)) (fun x_3 hv4=>?_)
  refine T1 (fun hc5=>?_) (fun hc5=>?_)
  ·refine T0 (Qcu v1.Places v1.To (h_v1.2.1)) (fun x_6 hv7=>?_)
   exact T3
  exact T3
 unfold Qit
 exact T3
theorem Qwy (v1:Qj)(h_v1:QY v1):Qf (QlG v1) fun r=>True:=by
 unfold QlG
 exact T3
theorem Qwz (v1:Qj)(v2:Int)(v3:Int)(v4:Int)(h_v1:QY v1):Qf (QlH v1 v2 v3 v4) fun r=>True:=by
 unfold QlH
 refine T0 (Qww v1 (h_v1)) (fun x_1 hv2=>?_)
 refine T1 (fun hc3=>?_) (fun hc3=>?_)
 ·exact T3
 refine T0 (Qwx v1 (h_v1)) (fun x_4 hv5=>?_)
 refine T1 (fun hc6=>?_) (fun hc6=>?_)
 ·exact T3
 refine T0 (Qwy v1 (h_v1)) (fun x_7 hv8=>?_)
 refine T1 (fun hc9=>?_) (fun hc9=>?_)
 ·exact T3
 exact T3
theorem QwA (lo1:Int)(hi2:Int)  : Qf (QlA lo1 hi2) fun r=>True:=by
 unfold QlA
 refine T1 (fun hc1=>?_) (fun hc1=>?_)
 ·exact T3
 exact T3
theorem Qom (c1:Int)  : Qf (Qe2 c1) fun r=>True:=by
 unfold Qe2
 exact T3
theorem QmO (s1:ByteArray)(h_s1:Qgr s1):Qf (QgE s1) fun r=>True:=by
 unfold QgE
 refine T0 (P:=fun _=>True) ?_ (fun x_1 hv2=>?_)
 ·unfold Qpg
  refine T1 (fun hc3=>?_) (fun hc3=>?_)
  ·exact T3
  have hshc3:=QA7 hc3
  refine T1 (fun hc4=>?_) (fun hc4=>?_)
  ·exact T3
  refine T0 (Qf.sidx (by omega) (by omega)) (fun c_5 hv6=>?_)
  refine T0 (Qom c_5 ) (fun x_7 hv8=>?_)
  exact T3
 unfold Qip
 refine T1 (fun hc9=>?_) (fun hc9=>?_)
 ·exact T3
 refine T0 (Qf.up (s1.size) (fun st=>st) (fun _=>True) (Q:=fun q=>True) rfl trivial (fun i11 st hi12 hn13 hj14=>?_)) (fun q15 hq16=>?_)
 ·obtain⟨x_10,hst⟩:∃y,y=st:=⟨_,rfl⟩
  subst hst
  replace hi12:x_10=(i11:Int):=hi12
  show Qf (Qim s1 x_10) _
  unfold Qim
  refine T1 (fun hc17=>?_) (fun hc17=>?_)
  ·refine T0 (Qf.sidx (by omega) (by simp_all)) (fun c_18 hv19=>?_)
   refine T0 (P:=fun _=>True) ?_ (fun x_20 hv21=>?_)
   ·unfold Qph
    refine T0 (Qom c_18 ) (fun x_22 hv23=>?_)
    refine T1 (fun hc24=>?_) (fun hc24=>?_)
    ·refine T1 (fun hc25=>?_) (fun hc25=>?_)
     ·exact T3
     refine T1 (fun hc26=>?_) (fun hc26=>?_)
     ·exact T3
     exact T3
    exact T3
   unfold Qil
   refine T1 (fun hc27=>?_) (fun hc27=>?_)
   ·exact T2 (Ql trivial)
   exact T2 (QC ⟨(by simp_all),by subst hi12;exact Qy (by simp_all) h_s1,trivial⟩)
  exact T2 (Ql trivial)
 rcases q15 with q15 | q15
 ·show Qf (Qin) _
  unfold Qin
  exact T3
 show Qf (Qio) _
 unfold Qio
 exact T3
theorem QvI (l1:(List ByteArray))(h_l1:(QQ Qgr) l1):Qf (Qkx l1) fun r=>True:=by
 unfold Qkx
 refine T0 (Qf.up (l1.length) (fun st=>st.1) (fun _=>True) (Q:=fun q=>True) rfl trivial (fun i3 st hi4 hn5 hj6=>?_)) (fun q7 hq8=>?_)
 ·obtain⟨x_1,m_2⟩:=st
  replace hi4:x_1=(i3:Int):=hi4
  show Qf (Qhj l1 x_1 m_2) _
  unfold Qhj
  refine T1 (fun hc9=>?_) (fun hc9=>?_)
  ·refine T0 (T4 (by omega) (by simp_all)) (fun e_10 hv11=>?_)
   refine T0 (P:=fun _=>True) ?_ (fun x_12 hv13=>?_)
   ·unfold Qn8
    refine T0 (QmO e_10 (((h_l1).2 e_10 hv11))) (fun x_14 hv15=>?_)
    refine T1 (fun hc16=>?_) (fun hc16=>?_)
    ·exact T3
    exact T3
   unfold Qhi
   refine T1 (fun hc17=>?_) (fun hc17=>?_)
   ·exact T2 (Ql trivial)
   exact T2 (QC ⟨(by simp_all),by subst hi4;exact Qy (by simp_all) (h_l1).1,trivial⟩)
  exact T2 (Ql trivial)
 rcases q7 with q7 | q7
 ·show Qf (Qhk) _
  unfold Qhk
  exact T3
 show Qf (Qhl) _
 unfold Qhl
 exact T3
theorem QwB (c1:QI)(ahead2:(List Int))(h_c1:Qcj c1)(h_ahead2:(QQ (fun _=>True)) ahead2):Qf (QlB c1 ahead2) fun r=>True:=by
 unfold QlB
 refine T1 (fun hc1=>?_) (fun hc1=>?_)
 ·refine T0 (QwA c1.Lo c1.Hi ) (fun x_2 hv3=>?_)
  exact T3
 refine T1 (fun hc4=>?_) (fun hc4=>?_)
 ·refine T0 (QvI c1.Names (h_c1.2.2.2.2.1)) (fun x_5 hv6=>?_)
  refine T1 (fun hc7=>?_) (fun hc7=>?_)
  ·exact T3
  unfold Qdk
  exact T3
 refine T1 (fun hc8=>?_) (fun hc8=>?_)
 ·refine T1 (fun hc9=>?_) (fun hc9=>?_)
  ·refine T0 (T4 (by(try simp only [QG,Qdt,Qdb,Qfs,Qjf,QD,QW,beq_iff_eq,bne_iff_ne,ne_eq,Qoq,Qp1,QcW,Qmd,Qnm,Qnl,Qfu,Qft,Ql6,Ql7,QkV]at *);omega) (by(try simp only [QG,Qdt,Qdb,Qfs,Qjf,QD,QW,beq_iff_eq,bne_iff_ne,ne_eq,Qoq,Qp1,QcW,Qmd,Qnm,Qnl,Qfu,Qft,Ql6,Ql7,QkV]at *);omega)) (fun e_10 hv11=>?_)
   refine T0 (T4 (by(try simp only [QG,Qdt,Qdb,Qfs,Qjf,QD,QW,beq_iff_eq,bne_iff_ne,ne_eq,Qoq,Qp1,QcW,Qmd,Qnm,Qnl,Qfu,Qft,Ql6,Ql7,QkV]at *);omega) (by(try simp only [QG,Qdt,Qdb,Qfs,Qjf,QD,QW,beq_iff_eq,bne_iff_ne,ne_eq,Qoq,Qp1,QcW,Qmd,Qnm,Qnl,Qfu,Qft,Ql6,Ql7,QkV]at *);omega)) (fun e_12 hv13=>?_)
   exact T3
  unfold Qdk
  exact T3
 unfold Qdk
 exact T3
theorem QpI (l1:(List QI))(h_l1:(QQ Qcj) l1):Qf (QhN l1) fun r=>((QQ (fun _=>True)) r.1∧True)∧(r.2=true→r.1.length=l1.length∧∀x∈r.1,1≤x∧x≤1024):=by
 unfold QhN
 refine T1 (fun hc=>T2 ⟨⟨QQ.nil,trivial⟩,fun h=>by cases h⟩) (fun hc=>?_)
 have hl:l1.length≤32:=by simp only [QW]at hc;omega
 refine T0 (Qf.up l1.length (fun st=>st.1) (fun st=>(st.2.2.length:Int)=st.1∧∀x∈st.2.2,1≤x∧x≤1024) (Q:=fun q=>∀l,q=.inr l→l.length=l1.length∧∀x∈l,1≤x∧x≤1024) rfl ⟨rfl,fun x h=>(by cases h)⟩ (fun i st hi hn hj=>?_)) (fun q hq=>?_)
 ·obtain⟨x,m,l⟩:=st
  replace hi:x=(i:Int):=hi
  replace hj:(l.length:Int)=x∧∀x∈l,1≤x∧x≤1024:=hj
  obtain⟨hj,hj2⟩:=hj
  show Qf (Qhn l1 x m l) _
  unfold Qhn
  refine T1 (fun hc2=>?_) (fun hc2=>?_)
  ·simp only [QD]at hc2
   refine T0 (T4 (by omega) (by omega)) fun e he=>?_
   refine T0 (QwB e l (h_l1.2 e he) ⟨by unfold maxLen;omega,fun _ _=>trivial⟩) fun y _=>?_
   refine T0 (P:=fun z=>z=false→1≤y∧y≤1024) ?_ fun z hz=>?_
   ·unfold Qn9
    refine T0 (QmO e.Name (h_l1.2 e he).1) fun z _=>?_
    refine T1 (fun _=>T2 (fun h=>by cases h)) fun _=>T1 (fun _=>T2 (fun h=>by cases h)) fun _=>T1 (fun _=>T2 (fun h=>by cases h)) fun h1=>T2 fun h2=>?_
    simp only [QW]at h1 h2
    omega
   unfold Qhm
   refine T1 (fun _=>T2 (Ql fun l h=>by cases h)) fun hz0=>?_
   refine T0 (T5 (by simp;omega)) fun _ _=>?_
   exact T2 (QC ⟨by omega,by subst hi;exact Qy (by omega) (by unfold maxLen;omega:l1.length≤maxLen),by simp only [QcW,Qmd];subst hi;rw [Qy (show i<l1.length by omega) (by unfold maxLen;omega)];omega,fun u hu=>by
    rcases QcK.1 hu with hu | hu
    ·exact hj2 u hu
    simp at hu;subst hu;exact hz hz0⟩)
  simp only [QW]at hc2
  exact T2 (Ql fun l' h=>by cases h;exact⟨by omega,hj2⟩)
 rcases q with q | q
 ·exact T2 ⟨⟨QQ.nil,trivial⟩,fun h=>by cases h⟩
 have:=hq q rfl
 exact T2 ⟨⟨⟨by show q.length≤maxLen;unfold maxLen;omega,fun _ _=>trivial⟩,trivial⟩,fun _=>this⟩
theorem QvJ (l1:(List QI))(h_l1:(QQ Qcj) l1):Qf (QkJ l1) fun r=>True:=by
 unfold QkJ
 refine T0 (QpI l1 (h_l1)) (fun x_1 hv2=>?_)
 exact T3
theorem QrK (v1:Qj)(v2:Int)(h_v1:QY v1)(hp0:0≤v2)(hp1:v2<v1.Colours.length):Qf (Qgj v1 v2) fun r=>True:=by
 have hl:=h_v1.1.1
 unfold maxLen at hl
 unfold Qgj
 rw [Qca (show -9223372036854775808≤v2+1∧v2+1≤9223372036854775807 by omega)]
 refine T0 (T5 (by simp only [QG,QD];omega)) fun _ _=>?_
 exact T0 (QvJ _ ((h_v1.1.drop _).take _)) fun x _=>T3
def QwC : List ByteArray:=(QiS).getD []
set_option maxRecDepth 100000 in
theorem QCk : QiS=some QwC:=by kernel_rfl
set_option maxRecDepth 100000 in
theorem Qze : (decide (QwC.length≤1000)&&QwC.all fun s=>decide (s.size≤1000))=true:=by kernel_rfl
theorem QwD : Qf (QiS) fun r=>QQ Qgr r:=by
 have h:=Qze
 rw [QG,decide_eq_true_iff,Qag]at h
 refine⟨QwC,QCk,by unfold maxLen;omega,fun x hx=>?_⟩
 have:=h.2 x hx
 rw [decide_eq_true_iff]at this
 unfold Qgr maxLen;omega
theorem QmP (s1:(List ByteArray))(v2:ByteArray)(h_s1:(QQ Qgr) s1)(h_v2:Qgr v2):Qf (QcP s1 v2) fun r=>True:=by
 unfold QcP
 refine T0 (Qf.up (s1.length) (fun st=>st) (fun _=>True) (Q:=fun q=>True) rfl trivial (fun i2 st hi3 hn4 hj5=>?_)) (fun q6 hq7=>?_)
 ·obtain⟨x_1,hst⟩:∃y,y=st:=⟨_,rfl⟩
  subst hst
  replace hi3:x_1=(i2:Int):=hi3
  show Qf (Qcd s1 v2 x_1) _
  unfold Qcd
  refine T1 (fun hc8=>?_) (fun hc8=>?_)
  ·refine T0 (T4 (by omega) (by simp_all)) (fun e_9 hv10=>?_)
   refine T1 (fun hc11=>?_) (fun hc11=>?_)
   ·exact T2 (Ql trivial)
   exact T2 (QC ⟨(by simp_all),by subst hi3;exact Qy (by simp_all) (h_s1).1,trivial⟩)
  exact T2 (Ql trivial)
 rcases q6 with q6 | q6
 ·show Qf (Qce q6) _
  unfold Qce
  exact T3
 show Qf (Qcf) _
 unfold Qcf
 exact T3
theorem Qlu (s1:(List ByteArray))(v2:ByteArray)(h_s1:(QQ Qgr) s1)(h_v2:Qgr v2):Qf (Qcg s1 v2) fun r=>True:=by
 unfold Qcg
 refine T0 (QmP s1 v2 (h_s1) (h_v2)) (fun x_1 hv2=>?_)
 exact T3
theorem Qxi (s1:ByteArray)(h_s1:Qgr s1):Qf (QmJ s1) fun r=>True:=by
 unfold QmJ
 refine T0 (QwD  ) (fun x_1 hv2=>?_)
 refine T0 (Qlu x_1 s1 (hv2) (h_s1)) (fun x_3 hv4=>?_)
 exact T3
theorem Qh4 (s1:ByteArray)(h_s1:Qgr s1):Qf (QeV s1) fun r=>True:=by
 unfold QeV
 refine T0 (P:=fun _=>True) ?_ (fun x_1 hv2=>?_)
 ·unfold QqG
  refine T0 (QmO s1 (h_s1)) (fun x_3 hv4=>?_)
  refine T1 (fun hc5=>?_) (fun hc5=>?_)
  ·refine T0 (Qxi s1 (h_s1)) (fun x_6 hv7=>?_)
   exact T3
  exact T3
 unfold QjB
 exact T3
theorem QpU (s1:ByteArray)(h_s1:Qgr s1):Qf (Qe8 s1) fun r=>True:=by
 unfold Qe8
 refine T0 (Qh4 s1 (h_s1)) (fun x_1 hv2=>?_)
 exact T3
theorem Qk8 (s1:(List ByteArray))(h_s1:(QQ Qgr) s1):Qf (Qb4 s1) fun r=>True:=by
 unfold Qb4
 refine T0 (Qf.up (s1.length) (fun st=>st) (fun _=>True) (Q:=fun q=>True) rfl trivial (fun i2 st hi3 hn4 hj5=>?_)) (fun q6 hq7=>?_)
 ·obtain⟨x_1,hst⟩:∃y,y=st:=⟨_,rfl⟩
  subst hst
  replace hi3:x_1=(i2:Int):=hi3
  show Qf (Qbz s1 x_1) _
  unfold Qbz
  refine T1 (fun hc8=>?_) (fun hc8=>?_)
  ·refine T0 (T4 (by omega) (by simp_all)) (fun e_9 hv10=>?_)
   refine T0 (QpU e_9 (((h_s1).2 e_9 hv10))) (fun x_11 hv12=>?_)
   refine T1 (fun hc13=>?_) (fun hc13=>?_)
   ·exact T2 (Ql trivial)
   exact T2 (QC ⟨(by simp_all),by subst hi3;exact Qy (by simp_all) (h_s1).1,trivial⟩)
  exact T2 (Ql trivial)
 rcases q6 with q6 | q6
 ·show Qf (QbA q6) _
  unfold QbA
  exact T3
 show Qf (QbB) _
 unfold QbB
 exact T3
theorem QjS (s1:(List ByteArray))(h_s1:(QQ Qgr) s1):Qf (QbC s1) fun r=>True:=by
 unfold QbC
 refine T0 (Qk8 s1 (h_s1)) (fun x_1 hv2=>?_)
 exact T3
theorem QrL (v1:QI)(h_v1:Qcj v1):Qf (Qgk v1) fun r=>True:=by
 unfold Qgk
 refine T0 (P:=fun _=>True) ?_ (fun x_1 hv2=>?_)
 ·unfold Qlr
  refine T0 (Qh4 v1.Name (h_v1.1)) (fun x_3 hv4=>?_)
  refine T1 (fun hc5=>?_) (fun hc5=>?_)
  ·refine T1 (fun hc6=>?_) (fun hc6=>?_)
   ·exact T3
   refine T0 (QjS v1.Names (h_v1.2.2.2.2.1)) (fun x_7 hv8=>?_)
   exact T3
  exact T3
 unfold QeN
 exact T3
theorem Qt6 (v1:Qj)(v2:Int)(v3:Int)(v4:QI)(v5:Int)(h_v1:QY v1)(h_v4:Qcj v4)(hp0:0≤v2)(hp1:v2<v1.Colours.length):Qf (Qiu v1 v2 v3 v4 v5) fun r=>True:=by
 unfold Qiu
 refine T0 (QrK v1 v2 (h_v1) (by omega) (by omega)) (fun x_1 hv2=>?_)
 refine T1 (fun hc3=>?_) (fun hc3=>?_)
 ·exact T3
 refine T0 (QrL v4 (h_v4)) (fun x_4 hv5=>?_)
 refine T1 (fun hc6=>?_) (fun hc6=>?_)
 ·exact T3
 exact T3
theorem Qtj (k1:Int)(c2:QI)(v3:Qj)(h_c2:Qcj c2)(h_v3:QY v3)(hp0:0≤k1)(hp1:k1<v3.Colours.length):Qf (Qhz k1 c2 v3) fun r=>True:=by
 unfold Qhz
 refine T0 (Qt6 v3 k1 8 c2 8 (h_v3) (h_c2) (by omega) (by omega)) (fun x_1 hv2=>?_)
 exact T3
theorem QoK (l1:(List QI))(v2:Qj)(h_l1:(QQ Qcj) l1)(h_v2:QY v2)(hp0:l1.length≤v2.Colours.length):Qf (Qeb l1 v2) fun r=>True:=by
 unfold Qeb
 refine T0 (Qf.up (l1.length) (fun st=>st) (fun _=>True) (Q:=fun q=>True) rfl trivial (fun i2 st hi3 hn4 hj5=>?_)) (fun q6 hq7=>?_)
 ·obtain⟨x_1,hst⟩:∃y,y=st:=⟨_,rfl⟩
  subst hst
  replace hi3:x_1=(i2:Int):=hi3
  show Qf (Qde l1 v2 x_1) _
  unfold Qde
  refine T1 (fun hc8=>?_) (fun hc8=>?_)
  ·refine T0 (T4 (by omega) (by simp_all)) (fun e_9 hv10=>?_)
   refine T0 (Qtj x_1 e_9 v2 (((h_l1).2 e_9 hv10)) (h_v2) (by omega) (by simp_all;omega)) (fun x_11 hv12=>?_)
   refine T1 (fun hc13=>?_) (fun hc13=>?_)
   ·exact T2 (Ql trivial)
   exact T2 (QC ⟨(by simp_all),by subst hi3;exact Qy (by simp_all) (h_l1).1,trivial⟩)
  exact T2 (Ql trivial)
 rcases q6 with q6 | q6
 ·show Qf (Qdf q6.1 q6.2) _
  unfold Qdf
  exact T3
 show Qf (Qdg) _
 unfold Qdg
 exact T3
theorem Qon (n1:Qj)(h_n1:QY n1):Qf (QgT n1) fun r=>True:=by
 unfold QgT
 refine T0 (QoK n1.Colours n1 (h_n1.1) (h_n1) (by omega)) (fun x_1 hv2=>?_)
 exact T3
theorem QuV (v1:QN)(h_v1:QcV v1):Qf (QjC v1) fun r=>True:=by
 unfold QjC
 refine T0 (Qh4 v1.Name (h_v1.1)) (fun x_1 hv2=>?_)
 exact T3
theorem QuW (p1:QN)(v2:QN)(h_p1:QcV p1)(h_v2:QcV v2):Qf (QjD p1 v2) fun r=>True:=by
 unfold QjD
 exact T3
theorem QiK (s1:(List QN))(v2:QN)(h_s1:(QQ QcV) s1)(h_v2:QcV v2):Qf (Qbe s1 v2) fun r=>True:=by
 unfold Qbe
 refine T0 (Qf.up (s1.length) (fun st=>st) (fun _=>True) (Q:=fun q=>True) rfl trivial (fun i2 st hi3 hn4 hj5=>?_)) (fun q6 hq7=>?_)
 ·obtain⟨x_1,hst⟩:∃y,y=st:=⟨_,rfl⟩
  subst hst
  replace hi3:x_1=(i2:Int):=hi3
  show Qf (QaS s1 v2 x_1) _
  unfold QaS
  refine T1 (fun hc8=>?_) (fun hc8=>?_)
  ·refine T0 (T4 (by omega) (by simp_all)) (fun e_9 hv10=>?_)
   refine T0 (QuW e_9 v2 (((h_s1).2 e_9 hv10)) (h_v2)) (fun x_11 hv12=>?_)
   refine T1 (fun hc13=>?_) (fun hc13=>?_)
   ·exact T2 (Ql trivial)
   exact T2 (QC ⟨(by simp_all),by subst hi3;exact Qy (by simp_all) (h_s1).1,trivial⟩)
  exact T2 (Ql trivial)
 rcases q6 with q6 | q6
 ·show Qf (QaT q6) _
  unfold QaT
  exact T3
 show Qf (QaU) _
 unfold QaU
 exact T3
theorem Qhe (s1:(List QN))(v2:QN)(h_s1:(QQ QcV) s1)(h_v2:QcV v2):Qf (QaV s1 v2) fun r=>True:=by
 unfold QaV
 refine T0 (QiK s1 v2 (h_s1) (h_v2)) (fun x_1 hv2=>?_)
 exact T3
theorem QuX (v1:Qj)(v2:Int)(v3:QN)(h_v1:QY v1)(h_v3:QcV v3)(hp0:0≤v2)(hp1:v2<v1.Places.length):Qf (QjE v1 v2 v3) fun r=>True:=by
 unfold QjE
 refine T0 (T5 (by simp_all;omega)) (fun _ _=>?_)
 refine T0 (Qhe ((v1.Places.drop 0).take (v2.toNat-0)) v3 (((h_v1.2.1).drop _).take _) (h_v3)) (fun x_1 hv2=>?_)
 exact T3
theorem QiW (l1:(List QI))(k2:Int)(h_l1:(QQ Qcj) l1):Qf (QcG l1 k2) fun r=>True:=by
 unfold QcG
 exact T3
theorem QuY (v1:Qj)(v2:QN)(h_v1:QY v1)(h_v2:QcV v2):Qf (QjF v1 v2) fun r=>True:=by
 unfold QjF
 refine T0 (QiW v1.Colours v2.Colour (h_v1.1)) (fun x_1 hv2=>?_)
 exact T3
theorem QxY (b1:(List (Int×Int)))(h_b1:(QQ (fun _=>True)) b1):Qf (Qc5 b1) fun r=>True:=by
 unfold Qc5
 refine T0 (Qf.up (b1.length) (fun st=>st.2) (fun _=>True) (Q:=fun q=>True) rfl trivial (fun i3 st hi4 hn5 hj6=>?_)) (fun q7 hq8=>?_)
 ·obtain⟨last_1,x_2⟩:=st
  replace hi4:x_2=(i3:Int):=hi4
  show Qf (QcO b1 last_1 x_2) _
  unfold QcO
  refine T1 (fun hc9=>?_) (fun hc9=>?_)
  ·refine T0 (T4 (by omega) (by simp_all)) (fun e_10 hv11=>?_)
   refine T1 (fun hc12=>?_) (fun hc12=>?_)
   ·exact T2 (Ql trivial)
   exact T2 (QC ⟨(by simp_all),by subst hi4;exact Qy (by simp_all) (h_b1).1,trivial⟩)
  exact T2 (Ql trivial)
 rcases q7 with q7 | q7
 ·show Qf (Qkt) _
  unfold Qkt
  exact T3
 show Qf (Qku) _
 unfold Qku
 exact T3
theorem QuZ (v1:QN)(h_v1:QcV v1):Qf (QjG v1) fun r=>True:=by
 unfold QjG
 refine T0 (QxY v1.First (h_v1.2.2)) (fun x_1 hv2=>?_)
 exact T3
theorem QiX (l1:(List QI))(k2:Int)(h_l1:(QQ Qcj) l1):Qf (QfO l1 k2) fun r=>(True∧QxX r.2)∧(r.1=true→(0≤k2∧k2<r.2.sizes.length)∧r.2.k=k2∧r.2.all.length=r.2.sizes.length∧∀x∈r.2.sizes,1≤x∧x≤1024):=by
 unfold QfO
 refine T0 (QpI l1 h_l1) fun x hx=>?_
 refine T1 (fun _=>T2 ⟨⟨trivial,QQ.nil,QQ.nil,trivial⟩,fun h=>by cases h⟩) fun hc=>?_
 simp only [Qdb,Qjf,QW]at hc
 have:=hx.2 hc.1
 exact T2 ⟨⟨trivial,h_l1,hx.1.1,trivial⟩,fun _=>⟨⟨by omega,by show k2<(x.1.length:Int);omega⟩,rfl,this.1.symm,this.2⟩⟩
theorem Qc2 (l1:(List QI))(k2:Int)(h_l1:(QQ Qcj) l1):Qf (Qa6 l1 k2) fun r=>0≤r∧r≤1024:=by
 unfold Qa6
 refine T0 (QiX l1 k2 h_l1) (fun x hx=>?_)
 refine T1 (fun hc=>T2 (by omega)) (fun hc=>?_)
 have h:=hx.2 (by simpa using hc)
 exact T0 (T4 (by omega) (by omega)) fun e he=>T2 (by have:=h.2.2.2 e he;omega)
theorem Qtk (row1:(Int×Int))(v2:Int)  : Qf (QhA row1 v2) fun r=>True:=by
 unfold QhA
 exact T3
theorem Qk9 (s1:(List (Int×Int)))(v2:Int)(h_s1:(QQ (fun _=>True)) s1):Qf (Qb5 s1 v2) fun r=>True:=by
 unfold Qb5
 refine T0 (Qf.up (s1.length) (fun st=>st) (fun _=>True) (Q:=fun q=>True) rfl trivial (fun i2 st hi3 hn4 hj5=>?_)) (fun q6 hq7=>?_)
 ·obtain⟨x_1,hst⟩:∃y,y=st:=⟨_,rfl⟩
  subst hst
  replace hi3:x_1=(i2:Int):=hi3
  show Qf (QbD s1 v2 x_1) _
  unfold QbD
  refine T1 (fun hc8=>?_) (fun hc8=>?_)
  ·refine T0 (T4 (by omega) (by simp_all)) (fun e_9 hv10=>?_)
   refine T0 (Qtk e_9 v2 ) (fun x_11 hv12=>?_)
   refine T1 (fun hc13=>?_) (fun hc13=>?_)
   ·exact T2 (Ql trivial)
   exact T2 (QC ⟨(by simp_all),by subst hi3;exact Qy (by simp_all) (h_s1).1,trivial⟩)
  exact T2 (Ql trivial)
 rcases q6 with q6 | q6
 ·show Qf (QbE q6) _
  unfold QbE
  exact T3
 show Qf (QbF) _
 unfold QbF
 exact T3
theorem QjT (s1:(List (Int×Int)))(v2:Int)(h_s1:(QQ (fun _=>True)) s1):Qf (QbG s1 v2) fun r=>True:=by
 unfold QbG
 refine T0 (Qk9 s1 v2 (h_s1)) (fun x_1 hv2=>?_)
 exact T3
theorem Qu0 (v1:Qj)(v2:QN)(h_v1:QY v1)(h_v2:QcV v2):Qf (QjH v1 v2) fun r=>True:=by
 unfold QjH
 refine T0 (Qc2 v1.Colours v2.Colour (h_v1.1)) (fun x_1 hv2=>?_)
 refine T0 (QjT v2.First x_1 (h_v2.2.2)) (fun x_3 hv4=>?_)
 exact T3
theorem Qt7 (v1:QN)(v2:Int)(v3:Qj)(v4:Int)(v5:Int)(v6:Int)(v7:Int)(v8:Int)(h_v1:QcV v1)(h_v3:QY v3)(hp0:0≤v4)(hp1:v4<v3.Places.length):Qf (Qiv v1 v2 v3 v4 v5 v6 v7 v8) fun r=>True:=by
 unfold Qiv
 refine T0 (QuV v1 (h_v1)) (fun x_1 hv2=>?_)
 refine T1 (fun hc3=>?_) (fun hc3=>?_)
 ·exact T3
 refine T0 (QuX v3 v4 v1 (h_v3) (h_v1) (by omega) (by omega)) (fun x_4 hv5=>?_)
 refine T1 (fun hc6=>?_) (fun hc6=>?_)
 ·exact T3
 refine T0 (QuY v3 v1 (h_v3) (h_v1)) (fun x_7 hv8=>?_)
 refine T1 (fun hc9=>?_) (fun hc9=>?_)
 ·exact T3
 refine T0 (QuZ v1 (h_v1)) (fun x_10 hv11=>?_)
 refine T1 (fun hc12=>?_) (fun hc12=>?_)
 ·exact T3
 refine T0 (Qu0 v3 v1 (h_v3) (h_v1)) (fun x_13 hv14=>?_)
 refine T1 (fun hc15=>?_) (fun hc15=>?_)
 ·exact T3
 exact T3
theorem QwE (n1:Qj)(k2:Int)(h_n1:QY n1):Qf (QlI n1 k2) fun r=>True:=by
 unfold QlI
 refine T0 (Qcu n1.Places k2 (h_n1.2.1)) (fun x_1 hv2=>?_)
 refine T1 (fun hc3=>?_) (fun hc3=>?_)
 ·exact T3
 refine T0 (T4 (by simp_all) (by simp_all)) (fun e_4 hv5=>?_)
 refine T0 (Qt7 e_4 1 n1 k2 5 3 1 8 (((h_n1.2.1).2 e_4 hv5)) (h_n1) (by simp_all) (by simp_all)) (fun x_6 hv7=>?_)
 exact T3
theorem QwF (k1:Int)(p2:QN)(v3:Qj)(h_p2:QcV p2)(h_v3:QY v3):Qf (QlJ k1 p2 v3) fun r=>True:=by
 unfold QlJ
 refine T0 (QwE v3 k1 (h_v3)) (fun x_1 hv2=>?_)
 exact T3
theorem QpJ (l1:(List QN))(v2:Qj)(h_l1:(QQ QcV) l1)(h_v2:QY v2):Qf (QeO l1 v2) fun r=>True:=by
 unfold QeO
 refine T0 (Qf.up (l1.length) (fun st=>st) (fun _=>True) (Q:=fun q=>True) rfl trivial (fun i2 st hi3 hn4 hj5=>?_)) (fun q6 hq7=>?_)
 ·obtain⟨x_1,hst⟩:∃y,y=st:=⟨_,rfl⟩
  subst hst
  replace hi3:x_1=(i2:Int):=hi3
  show Qf (QdC l1 v2 x_1) _
  unfold QdC
  refine T1 (fun hc8=>?_) (fun hc8=>?_)
  ·refine T0 (T4 (by omega) (by simp_all)) (fun e_9 hv10=>?_)
   refine T0 (QwF x_1 e_9 v2 (((h_l1).2 e_9 hv10)) (h_v2)) (fun x_11 hv12=>?_)
   refine T1 (fun hc13=>?_) (fun hc13=>?_)
   ·exact T2 (Ql trivial)
   exact T2 (QC ⟨(by simp_all),by subst hi3;exact Qy (by simp_all) (h_l1).1,trivial⟩)
  exact T2 (Ql trivial)
 rcases q6 with q6 | q6
 ·show Qf (QdD q6.1 q6.2) _
  unfold QdD
  exact T3
 show Qf (QdE) _
 unfold QdE
 exact T3
theorem Qkf (l1:(List QB))(k2:Int)(h_l1:(QQ QaL) l1):Qf (Qbv l1 k2) fun r=>r=true→0≤k2∧k2<l1.length:=by
 unfold Qbv
 exact T2 (by first | (intro hr;first | (cases hr;done) | omega | ((try simp only [QG,Qdt,Qdb,Qfs,Qjf,QD,QW,beq_iff_eq,bne_iff_ne,ne_eq,Qoq,Qp1,QcW,Qmd,Qnm,Qnl,Qfu,Qft,Ql6,Ql7,QkV]at *);omega)) | ((try simp only [QG,Qdt,Qdb,Qfs,Qjf,QD,QW,beq_iff_eq,bne_iff_ne,ne_eq,Qoq,Qp1,QcW,Qmd,Qnm,Qnl,Qfu,Qft,Ql6,Ql7,QkV]at *);omega) | simp_all)
theorem QwG (v1:Int)(v2:Qj)(v3:QB)(h_v2:QY v2)(h_v3:QaL v3):Qf (QlK v1 v2 v3) fun r=>True:=by
 unfold QlK
 exact T3
theorem Qt8 (v1:Int)(v2:Qj)(v3:QB)(v4:Int)(h_v2:QY v2)(h_v3:QaL v3):Qf (Qiw v1 v2 v3 v4) fun r=>True:=by
 unfold Qiw
 exact T3
theorem Qt9 (v1:Int)(v2:Qj)(v3:QB)(v4:Int)(h_v2:QY v2)(h_v3:QaL v3):Qf (Qix v1 v2 v3 v4) fun r=>True:=by
 unfold Qix
 exact T3
theorem Qua (v1:Int)(v2:Qj)(v3:QB)(h_v2:QY v2)(h_v3:QaL v3):Qf (Qiy v1 v2 v3) fun r=>True:=by
 unfold Qiy
 exact T3
theorem QvK (v1:QB)(h_v1:QaL v1):Qf (QkM v1) fun r=>True:=by
 unfold QkM
 refine T0 (Qh4 v1.Name (h_v1.1)) (fun x_1 hv2=>?_)
 exact T3
theorem QvL (p1:QB)(v2:QB)(h_p1:QaL p1)(h_v2:QaL v2):Qf (QkN p1 v2) fun r=>True:=by
 unfold QkN
 exact T3
theorem Qje (s1:(List QB))(v2:QB)(h_s1:(QQ QaL) s1)(h_v2:QaL v2):Qf (Qbq s1 v2) fun r=>True:=by
 unfold Qbq
 refine T0 (Qf.up (s1.length) (fun st=>st) (fun _=>True) (Q:=fun q=>True) rfl trivial (fun i2 st hi3 hn4 hj5=>?_)) (fun q6 hq7=>?_)
 ·obtain⟨x_1,hst⟩:∃y,y=st:=⟨_,rfl⟩
  subst hst
  replace hi3:x_1=(i2:Int):=hi3
  show Qf (Qa7 s1 v2 x_1) _
  unfold Qa7
  refine T1 (fun hc8=>?_) (fun hc8=>?_)
  ·refine T0 (T4 (by omega) (by simp_all)) (fun e_9 hv10=>?_)
   refine T0 (QvL e_9 v2 (((h_s1).2 e_9 hv10)) (h_v2)) (fun x_11 hv12=>?_)
   refine T1 (fun hc13=>?_) (fun hc13=>?_)
   ·exact T2 (Ql trivial)
   exact T2 (QC ⟨(by simp_all),by subst hi3;exact Qy (by simp_all) (h_s1).1,trivial⟩)
  exact T2 (Ql trivial)
 rcases q6 with q6 | q6
 ·show Qf (Qa8 q6) _
  unfold Qa8
  exact T3
 show Qf (Qa9) _
 unfold Qa9
 exact T3
theorem Qh9 (s1:(List QB))(v2:QB)(h_s1:(QQ QaL) s1)(h_v2:QaL v2):Qf (Qba s1 v2) fun r=>True:=by
 unfold Qba
 refine T0 (Qje s1 v2 (h_s1) (h_v2)) (fun x_1 hv2=>?_)
 exact T3
theorem QvM (v1:Qj)(v2:Int)(v3:QB)(h_v1:QY v1)(h_v3:QaL v3)(hp0:0≤v2)(hp1:v2<v1.Tasks.length):Qf (QkO v1 v2 v3) fun r=>True:=by
 unfold QkO
 refine T0 (T5 (by simp_all;omega)) (fun _ _=>?_)
 refine T0 (Qh9 ((v1.Tasks.drop 0).take (v2.toNat-0)) v3 (((h_v1.2.2.1).drop _).take _) (h_v3)) (fun x_1 hv2=>?_)
 exact T3
theorem QvN (v1:Int)(v2:QB)(h_v2:QaL v2):Qf (Qh0 v1 v2) fun r=>True:=by
 unfold Qh0
 exact T3
theorem QpV (v1:QaQ)(h_v1:Qep v1):Qf (Qe9 v1) fun r=>True:=by
 unfold Qe9
 refine T0 (Qh4 v1.Name (h_v1.1)) (fun x_1 hv2=>?_)
 exact T3
theorem QpW (p1:QaQ)(v2:QaQ)(h_p1:Qep p1)(h_v2:Qep v2):Qf (Qfa p1 v2) fun r=>True:=by
 unfold Qfa
 exact T3
theorem Qkg (s1:(List QaQ))(v2:QaQ)(h_s1:(QQ Qep) s1)(h_v2:Qep v2):Qf (QbK s1 v2) fun r=>True:=by
 unfold QbK
 refine T0 (Qf.up (s1.length) (fun st=>st) (fun _=>True) (Q:=fun q=>True) rfl trivial (fun i2 st hi3 hn4 hj5=>?_)) (fun q6 hq7=>?_)
 ·obtain⟨x_1,hst⟩:∃y,y=st:=⟨_,rfl⟩
  subst hst
  replace hi3:x_1=(i2:Int):=hi3
  show Qf (Qbi s1 v2 x_1) _
  unfold Qbi
  refine T1 (fun hc8=>?_) (fun hc8=>?_)
  ·refine T0 (T4 (by omega) (by simp_all)) (fun e_9 hv10=>?_)
   refine T0 (QpW e_9 v2 (((h_s1).2 e_9 hv10)) (h_v2)) (fun x_11 hv12=>?_)
   refine T1 (fun hc13=>?_) (fun hc13=>?_)
   ·exact T2 (Ql trivial)
   exact T2 (QC ⟨(by simp_all),by subst hi3;exact Qy (by simp_all) (h_s1).1,trivial⟩)
  exact T2 (Ql trivial)
 rcases q6 with q6 | q6
 ·show Qf (Qbj q6) _
  unfold Qbj
  exact T3
 show Qf (Qbk) _
 unfold Qbk
 exact T3
theorem QiY (s1:(List QaQ))(v2:QaQ)(h_s1:(QQ Qep) s1)(h_v2:Qep v2):Qf (Qbl s1 v2) fun r=>True:=by
 unfold Qbl
 refine T0 (Qkg s1 v2 (h_s1) (h_v2)) (fun x_1 hv2=>?_)
 exact T3
theorem QpX (v1:(List QaQ))(v2:Int)(v3:QaQ)(h_v1:(QQ Qep) v1)(h_v3:Qep v3)(hp0:0≤v2)(hp1:v2<v1.length):Qf (Qfb v1 v2 v3) fun r=>True:=by
 unfold Qfb
 refine T0 (T5 (by simp_all;omega)) (fun _ _=>?_)
 refine T0 (QiY ((v1.drop 0).take (v2.toNat-0)) v3 (((h_v1).drop _).take _) (h_v3)) (fun x_1 hv2=>?_)
 exact T3
theorem QpY (v1:Qj)(v2:QaQ)(h_v1:QY v1)(h_v2:Qep v2):Qf (Qfc v1 v2) fun r=>True:=by
 unfold Qfc
 refine T0 (QiW v1.Colours v2.Colour (h_v1.1)) (fun x_1 hv2=>?_)
 exact T3
theorem Qub (v1:QaQ)(v2:Int)(v3:(List QaQ))(v4:Int)(v5:Int)(v6:Qj)(v7:Int)(h_v1:Qep v1)(h_v3:(QQ Qep) v3)(h_v6:QY v6)(hp0:0≤v4)(hp1:v4<v3.length):Qf (QiA v1 v2 v3 v4 v5 v6 v7) fun r=>True:=by
 unfold QiA
 refine T0 (QpV v1 (h_v1)) (fun x_1 hv2=>?_)
 refine T1 (fun hc3=>?_) (fun hc3=>?_)
 ·exact T3
 refine T0 (QpX v3 v4 v1 (h_v3) (h_v1) (by omega) (by omega)) (fun x_4 hv5=>?_)
 refine T1 (fun hc6=>?_) (fun hc6=>?_)
 ·exact T3
 refine T0 (QpY v6 v1 (h_v6) (h_v1)) (fun x_7 hv8=>?_)
 refine T1 (fun hc9=>?_) (fun hc9=>?_)
 ·exact T3
 exact T3
theorem QrM (k1:Int)(v2:QaQ)(v3:(List QaQ))(v4:Qj)(h_v2:Qep v2)(h_v3:(QQ Qep) v3)(h_v4:QY v4)(hp0:0≤k1)(hp1:k1<v3.length):Qf (Qgl k1 v2 v3 v4) fun r=>True:=by
 unfold Qgl
 refine T0 (Qub v2 1 v3 k1 5 v4 3 (h_v2) (h_v3) (h_v4) (by omega) (by omega)) (fun x_1 hv2=>?_)
 exact T3
theorem Qra (l1:(List QaQ))(v2:(List QaQ))(v3:Qj)(h_l1:(QQ Qep) l1)(h_v2:(QQ Qep) v2)(h_v3:QY v3)(hp0:l1.length≤v2.length):Qf (QfG l1 v2 v3) fun r=>True:=by
 unfold QfG
 refine T0 (Qf.up (l1.length) (fun st=>st) (fun _=>True) (Q:=fun q=>True) rfl trivial (fun i2 st hi3 hn4 hj5=>?_)) (fun q6 hq7=>?_)
 ·obtain⟨x_1,hst⟩:∃y,y=st:=⟨_,rfl⟩
  subst hst
  replace hi3:x_1=(i2:Int):=hi3
  show Qf (Qec l1 v2 v3 x_1) _
  unfold Qec
  refine T1 (fun hc8=>?_) (fun hc8=>?_)
  ·refine T0 (T4 (by omega) (by simp_all)) (fun e_9 hv10=>?_)
   refine T0 (QrM x_1 e_9 v2 v3 (((h_l1).2 e_9 hv10)) (h_v2) (h_v3) (by omega) (by simp_all;omega)) (fun x_11 hv12=>?_)
   refine T1 (fun hc13=>?_) (fun hc13=>?_)
   ·exact T2 (Ql trivial)
   exact T2 (QC ⟨(by simp_all),by subst hi3;exact Qy (by simp_all) (h_l1).1,trivial⟩)
  exact T2 (Ql trivial)
 rcases q6 with q6 | q6
 ·show Qf (Qed q6.1 q6.2) _
  unfold Qed
  exact T3
 show Qf (Qee) _
 unfold Qee
 exact T3
theorem Qtl (n1:Qj)(l2:(List QaQ))(h_n1:QY n1)(h_l2:(QQ Qep) l2):Qf (QhB n1 l2) fun r=>True:=by
 unfold QhB
 refine T0 (Qra l2 l2 n1 (h_l2) (h_l2) (h_n1) (by omega)) (fun x_1 hv2=>?_)
 exact T3
theorem QvO (v1:Qj)(v2:QB)(h_v1:QY v1)(h_v2:QaL v2):Qf (QkP v1 v2) fun r=>True:=by
 unfold QkP
 refine T0 (Qtl v1 v2.Vars (h_v1) (h_v2.2.1)) (fun x_1 hv2=>?_)
 exact T3
theorem Qu1 (v1:Qj)(v2:QB)(v3:Int)(h_v1:QY v1)(h_v2:QaL v2):Qf (QgU v1 v2 v3) fun r=>True:=by
 unfold QgU
 refine T0 (QvO v1 v2 (h_v1) (h_v2)) (fun x_1 hv2=>?_)
 exact T3
theorem QqO (n1:Qj)(k2:Int)(h_n1:QY n1):Qf (Qdh n1 k2) fun r=>True:=by
 unfold Qdh
 refine T0 (Qkf n1.Tasks k2 (h_n1.2.2.1)) (fun x_1 hv2=>?_)
 refine T1 (fun hc3=>?_) (fun hc3=>?_)
 ·exact T3
 refine T0 (T4 (by simp_all) (by simp_all)) (fun e_4 hv5=>?_)
 refine T0 (Qf.up (e_4.Vars.length) (fun st=>st.2) (fun _=>True) (Q:=fun q=>True) rfl trivial (fun i8 st hi9 hn10 hj11=>?_)) (fun q12 hq13=>?_)
 ·obtain⟨out_6,x_7⟩:=st
  replace hi9:x_7=(i8:Int):=hi9
  show Qf (QeB e_4 n1 out_6 x_7) _
  unfold QeB
  refine T1 (fun hc14=>?_) (fun hc14=>?_)
  ·refine T0 (T4 (by omega) (by simp_all)) (fun e_15 hv16=>?_)
   refine T0 (Qc2 n1.Colours e_15.Colour (h_n1.1)) (fun x_17 hv18=>?_)
   refine T1 (fun hc19=>?_) (fun hc19=>?_)
   ·exact T2 (Ql trivial)
   exact T2 (QC ⟨(by simp_all),by subst hi9;exact Qy (by simp_all) (((h_n1.2.2.1).2 e_4 hv5).2.1).1,trivial⟩)
  exact T2 (Ql trivial)
 rcases q12 with q12 | q12
 ·show Qf (QiB) _
  unfold QiB
  exact T3
 show Qf (QiC q12) _
 unfold QiC
 exact T3
theorem QvP (v1:Qj)(v2:Int)(h_v1:QY v1):Qf (Qh1 v1 v2) fun r=>True:=by
 unfold Qh1
 refine T0 (QqO v1 v2 (h_v1)) (fun x_1 hv2=>?_)
 exact T3
theorem QxZ (kind1:Int):Qf (Qnv kind1) fun r=>0≤r→(kind1=1∨kind1=2∨kind1=3∨kind1=4∨kind1=5∨kind1=6)∧(kind1=3∨kind1=4→r=1)∧(kind1=5→r=2)∧(kind1=6→r=3):=by
 unfold Qnv
 refine T1 (fun hc=>?_) (fun hc=>?_)
 ·unfold QhP;rw [hc]
  simp only [beq_iff_eq]at hc
  exact T2 (by omega)
 simp only [beq_eq_false_iff_ne]at hc
 unfold QhP
 refine T1 (fun hc=>T2 (by simp only [beq_iff_eq]at hc;omega)) (fun hc2=>?_)
 simp only [beq_eq_false_iff_ne]at hc2
 refine T1 (fun hc3=>?_) (fun hc3=>?_)
 ·unfold QhO;rw [hc3]
  simp only [beq_iff_eq]at hc3
  exact T2 (by omega)
 simp only [beq_eq_false_iff_ne]at hc3
 unfold QhO
 refine T1 (fun hc=>T2 (by simp only [beq_iff_eq]at hc;omega)) (fun hc4=>?_)
 simp only [beq_eq_false_iff_ne]at hc4
 refine T1 (fun hc=>T2 (by simp only [beq_iff_eq]at hc;omega)) (fun hc5=>?_)
 simp only [beq_eq_false_iff_ne]at hc5
 exact T1 (fun hc=>T2 (by simp only [beq_iff_eq]at hc;omega)) (fun hc6=>T2 (by omega))
theorem Qxj (op1:Int)  : Qf (Qmr op1) fun r=>True:=by
 unfold Qmr
 exact T3
theorem Qnh (rec_:Qo→Int→Option Bool)(s1:List Qo)(v2:Int)(h1:s1.length≤maxLen)(h:∀k∈s1,Qf (rec_ k v2) fun r=>r=true→POk v2 k):Qf (Qa5 rec_ s1 v2) fun r=>r=false→∀k∈s1,POk v2 k:=by
 unfold Qa5 QcB
 refine T0 (P:=fun x=>x<0→∀k∈s1,POk v2 k) ?_ fun x hx=>T2 fun h=>hx (by simp only [QW]at h;omega)
 refine T0 (Qf.up s1.length (fun st=>st) (fun st=>∀(j:Nat) k,(j:Int)<st→s1[j]? = some k→POk v2 k) (Q:=fun q=>(∀x,q=.inl x→0≤x)∧(q=.inr ()→∀k∈s1,POk v2 k)) rfl (fun j k hj=>by omega) (fun i st hi hn hj=>?_)) (fun q hq=>?_)
 ·show Qf (Qa4 s1 rec_ v2 st) _
  unfold Qa4 Qm7
  refine T1 (fun hc=>?_) (fun hc=>T2 (Ql ⟨fun x h=>(by cases h),fun _ k hk=>by
   obtain⟨j,hj1,hj2⟩:=Qme.1 hk
   simp only [QW]at hc
   exact hj j k (by omega) (by rw [Qw hj1,hj2])⟩))
  simp only [QD]at hc
  rw [QkU (by omega)]
  have hlt:st.toNat<s1.length:=by omega
  rw [Qw hlt]
  refine T0 (P:=fun k=>k=s1[st.toNat]) (T2 rfl) fun k hk=>?_
  subst hk
  refine T0 (P:=fun r=>r=false→POk v2 s1[st.toNat]) (T0 (h _ (Qav hlt)) fun x hx=>T2 fun h=>hx (by simpa using h)) fun x hx=>?_
  refine T1 (fun _=>T2 (Ql ⟨fun x h=>(by cases h;omega),fun h=>(by cases h)⟩)) fun hxf=>T2 (QC ⟨by omega,by rw [hi];exact Qy (by omega) h1,?_⟩)
  rw [hi,Qy (show i<s1.length by omega) h1]
  intro j k hj' hk
  by_cases c:j=i
  ·subst c
   have e:st.toNat=j:=by omega
   have:=hx hxf
   rw [Qw (by omega)]at hk
   cases hk
   simpa only [e] using this
  exact hj j k (by omega) hk
 rcases q with q | q
 ·exact T2 fun h=>absurd (hq.1 q rfl) (by omega)
 exact T2 fun _=>hq.2 rfl
theorem QpK : ∀(n:Nat) (e:Qo) (v:Int),Qds e→SizeOf.sizeOf e≤n→Qf (Qev n e v) fun r=>r=true→POk v e
 | 0,e,_,_,h=>absurd e.pos (by omega)
 | n+1,e,v,he,h=>by
  unfold Qev Qm8
  refine T0 (QxZ e.Kind) fun x hx=>?_
  refine T1 (fun _=>T2 fun h=>by cases h) fun h1=>T1 (fun _=>T2 fun h=>by cases h) fun h2=>?_
  refine T0 (P:=fun _=>True) ?_ fun y _=>?_
  ·unfold Qqm
   exact T1 (fun _=>T0 (Qxj e.Num) fun x _=>T3) fun _=>T3
  unfold Qjn
  refine T1 (fun _=>T2 fun h=>by cases h) fun _=>?_
  refine T0 (Qnh (Qev n) e.Kids v (QeW he).1 fun k hk=>QpK n k v ((QeW he).2 k hk) (by have:=Qt5 hk;omega)) fun x hx2=>T2 fun hx3=>?_
  simp only [bne_eq_false_iff_eq]at h1
  have h3:=hx (by omega)
  simp only [Bool.and_eq_false_iff,Qdb,QW,beq_eq_false_iff_ne]at h2
  exact .mk e h3.1 (fun hk=>by omega) (fun hk=>by have:=h3.2.1 hk;omega) (fun hk=>by have:=h3.2.2.1 hk;omega) (fun hk=>by have:=h3.2.2.2 hk;omega) (hx2 (by simpa using hx3))
theorem Qxk (e1:Qo)(vars2:Int)(h_e1:Qds e1):Qf (Qpk e1 vars2) fun r=>r=true→POk vars2 e1:=QpK _ e1 vars2 h_e1 (QbZ _)
theorem QpL : ∀(n:Nat) (e:Qo),Qds e→SizeOf.sizeOf e≤n→Qf (Qeu n e) fun _=>True
 | 0,e,_,h=>absurd e.pos (by omega)
 | n+1,e,he,h=>by
  unfold Qeu Qm5
  refine T0 (Qf.up e.Kids.length (fun st=>st.2) (fun _=>True) (Q:=fun _=>True) rfl trivial (fun i st hi hn _=>?_)) (fun q _=>?_)
  ·obtain⟨a,x⟩:=st
   replace hi:x=(i:Int):=hi
   show Qf (Qjm e (Qeu n) a x) _
   unfold Qjm
   refine T1 (fun hc=>?_) (fun hc=>?_)
   ·simp only [QD]at hc
    refine T0 (T4 (by omega) (by omega)) fun k hk=>?_
    have:=Qt5 hk
    refine T0 (QpL n k ((QeW he).2 k hk) (by omega)) fun d _=>?_
    exact T2 (QC ⟨by omega,by subst hi;exact Qy (by omega) (QeW he).1,trivial⟩)
   exact T2 (Ql trivial)
  unfold Qmq
  exact T3
theorem Qxl (e1:Qo)(h_e1:Qds e1):Qf (Qpi e1) fun _=>True:=QpL _ e1 h_e1 (QbZ _)
theorem QqP : ∀(n:Nat) (e:Qo),Qds e→SizeOf.sizeOf e≤n→Qf (Qfh n e) fun _=>True
 | 0,e,_,h=>absurd e.pos (by omega)
 | n+1,e,he,h=>by
  unfold Qfh QnS
  refine T0 (Qf.up e.Kids.length (fun st=>st.2) (fun _=>True) (Q:=fun _=>True) rfl trivial (fun i st hi hn _=>?_)) (fun q _=>?_)
  ·obtain⟨a,x⟩:=st
   replace hi:x=(i:Int):=hi
   show Qf (Qky e (Qfh n) a x) _
   unfold Qky
   refine T1 (fun hc=>?_) (fun hc=>?_)
   ·simp only [QD]at hc
    refine T0 (T4 (by omega) (by omega)) fun k hk=>?_
    have:=Qt5 hk
    refine T0 (QqP n k ((QeW he).2 k hk) (by omega)) fun d _=>?_
    exact T2 (QC ⟨by omega,by subst hi;exact Qy (by omega) (QeW he).1,trivial⟩)
   exact T2 (Ql trivial)
  unfold Qm6
  exact T3
theorem Qx0 (e1:Qo)(h_e1:Qds e1):Qf (Qq1 e1) fun _=>True:=QqP _ e1 h_e1 (QbZ _)
theorem Qni (e1:Qo)(vars2:Int)(h_e1:Qds e1):Qf (QhR e1 vars2) fun r=>r=true→POk vars2 e1:=by
 unfold QhR
 refine T0 (P:=fun r=>r=true→POk vars2 e1) ?_ (fun x hx=>T2 hx)
 unfold Qqn
 refine T0 (Qxl e1 h_e1) (fun x _=>?_)
 refine T1 (fun _=>?_) (fun _=>T2 fun h=>by cases h)
 refine T0 (Qx0 e1 h_e1) (fun x _=>?_)
 refine T1 (fun _=>?_) (fun _=>T2 fun h=>by cases h)
 exact T0 (Qxk e1 vars2 h_e1) (fun x hx=>T2 hx)
theorem QvQ (v1:QB)(v2:Int)(h_v1:QaL v1):Qf (QkQ v1 v2) fun r=>True:=by
 unfold QkQ
 refine T0 (P:=fun _=>True) ?_ (fun x_1 hv2=>?_)
 ·unfold Qol
  refine T0 (Qni v1.Guard v2 (h_v1.2.2.1)) (fun x_3 hv4=>?_)
  refine T1 (fun hc5=>?_) (fun hc5=>?_)
  ·refine T1 (fun hc6=>?_) (fun hc6=>?_)
   ·exact T3
   exact T3
  exact T3
 unfold QhC
 exact T3
theorem Quc (v1:Qj)(v2:Qax)(h_v1:QY v1)(h_v2:Qke v2):Qf (QiD v1 v2) fun r=>True:=by
 unfold QiD
 refine T0 (Qcu v1.Places v2.Place (h_v1.2.1)) (fun x_1 hv2=>?_)
 exact T3
theorem Qud (v1:Qax)(v2:Int)(h_v1:Qke v1):Qf (QiE v1 v2) fun r=>True:=by
 unfold QiE
 refine T0 (Qni v1.Expr v2 (h_v1.2)) (fun x_1 hv2=>?_)
 exact T3
theorem Que (v1:Qj)(v2:Qax)(v3:Int)(v4:Int)(v5:Int)(h_v1:QY v1)(h_v2:Qke v2):Qf (QiF v1 v2 v3 v4 v5) fun r=>True:=by
 unfold QiF
 refine T0 (Quc v1 v2 (h_v1) (h_v2)) (fun x_1 hv2=>?_)
 refine T1 (fun hc3=>?_) (fun hc3=>?_)
 ·exact T3
 refine T0 (Qud v2 v4 (h_v2)) (fun x_4 hv5=>?_)
 refine T1 (fun hc6=>?_) (fun hc6=>?_)
 ·exact T3
 exact T3
theorem QvR (p1:Int)(a2:Qax)(v3:Qj)(v4:Int)(h_a2:Qke a2)(h_v3:QY v3):Qf (QkR p1 a2 v3 v4) fun r=>True:=by
 unfold QkR
 refine T0 (Que v3 a2 3 v4 1 (h_v3) (h_a2)) (fun x_1 hv2=>?_)
 exact T3
theorem Qrb (l1:(List Qax))(v2:Qj)(v3:Int)(h_l1:(QQ Qke) l1)(h_v2:QY v2):Qf (QfH l1 v2 v3) fun r=>True:=by
 unfold QfH
 refine T0 (Qf.up (l1.length) (fun st=>st) (fun _=>True) (Q:=fun q=>True) rfl trivial (fun i2 st hi3 hn4 hj5=>?_)) (fun q6 hq7=>?_)
 ·obtain⟨x_1,hst⟩:∃y,y=st:=⟨_,rfl⟩
  subst hst
  replace hi3:x_1=(i2:Int):=hi3
  show Qf (Qef l1 v2 v3 x_1) _
  unfold Qef
  refine T1 (fun hc8=>?_) (fun hc8=>?_)
  ·refine T0 (T4 (by omega) (by simp_all)) (fun e_9 hv10=>?_)
   refine T0 (QvR x_1 e_9 v2 v3 (((h_l1).2 e_9 hv10)) (h_v2)) (fun x_11 hv12=>?_)
   refine T1 (fun hc13=>?_) (fun hc13=>?_)
   ·exact T2 (Ql trivial)
   exact T2 (QC ⟨(by simp_all),by subst hi3;exact Qy (by simp_all) (h_l1).1,trivial⟩)
  exact T2 (Ql trivial)
 rcases q6 with q6 | q6
 ·show Qf (Qeg q6.1 q6.2) _
  unfold Qeg
  exact T3
 show Qf (Qeh) _
 unfold Qeh
 exact T3
theorem QrN (n1:Qj)(l2:(List Qax))(vars3:Int)(h_n1:QY n1)(h_l2:(QQ Qke) l2):Qf (Qka n1 l2 vars3) fun r=>True:=by
 unfold Qka
 refine T0 (Qrb l2 n1 vars3 (h_l2) (h_n1)) (fun x_1 hv2=>?_)
 exact T3
theorem QvS (v1:Qj)(v2:QB)(v3:Int)(h_v1:QY v1)(h_v2:QaL v2):Qf (QkS v1 v2 v3) fun r=>True:=by
 unfold QkS
 refine T0 (QrN v1 v2.Ins v3 (h_v1) (h_v2.2.2.2.2.2.1)) (fun x_1 hv2=>?_)
 exact T3
theorem QsI (v1:Qj)(v2:QB)(v3:Int)(v4:Int)(h_v1:QY v1)(h_v2:QaL v2):Qf (QgV v1 v2 v3 v4) fun r=>True:=by
 unfold QgV
 refine T0 (QvS v1 v2 v3 (h_v1) (h_v2)) (fun x_1 hv2=>?_)
 exact T3
theorem QvT (v1:Qj)(v2:QB)(v3:Int)(h_v1:QY v1)(h_v2:QaL v2):Qf (QkT v1 v2 v3) fun r=>True:=by
 unfold QkT
 refine T0 (QrN v1 v2.Outs v3 (h_v1) (h_v2.2.2.2.2.2.2.1)) (fun x_1 hv2=>?_)
 exact T3
theorem QsJ (v1:Qj)(v2:QB)(v3:Int)(v4:Int)(h_v1:QY v1)(h_v2:QaL v2):Qf (QgW v1 v2 v3 v4) fun r=>True:=by
 unfold QgW
 refine T0 (QvT v1 v2 v3 (h_v1) (h_v2)) (fun x_1 hv2=>?_)
 exact T3
theorem QrO (v1:Qj)(v2:Int)(h_v1:QY v1):Qf (Qgm v1 v2) fun r=>True:=by
 unfold Qgm
 refine T0 (Qcu v1.Places v2 (h_v1.2.1)) (fun x_1 hv2=>?_)
 exact T3
theorem QpM (s1:(List Int))(v2:Int)(h_s1:(QQ (fun _=>True)) s1):Qf (QeH s1 v2) fun r=>True:=by
 unfold QeH
 refine T0 (Qf.up (s1.length) (fun st=>st) (fun _=>True) (Q:=fun q=>True) rfl trivial (fun i2 st hi3 hn4 hj5=>?_)) (fun q6 hq7=>?_)
 ·obtain⟨x_1,hst⟩:∃y,y=st:=⟨_,rfl⟩
  subst hst
  replace hi3:x_1=(i2:Int):=hi3
  show Qf (Qdy s1 v2 x_1) _
  unfold Qdy
  refine T1 (fun hc8=>?_) (fun hc8=>?_)
  ·refine T0 (T4 (by omega) (by simp_all)) (fun e_9 hv10=>?_)
   refine T1 (fun hc11=>?_) (fun hc11=>?_)
   ·exact T2 (Ql trivial)
   exact T2 (QC ⟨(by simp_all),by subst hi3;exact Qy (by simp_all) (h_s1).1,trivial⟩)
  exact T2 (Ql trivial)
 rcases q6 with q6 | q6
 ·show Qf (Qdz q6) _
  unfold Qdz
  exact T3
 show Qf (QdA) _
 unfold QdA
 exact T3
theorem Qid (s1:(List Int))(v2:Int)(h_s1:(QQ (fun _=>True)) s1):Qf (Qbx s1 v2) fun r=>True:=by
 unfold Qbx
 refine T0 (QpM s1 v2 (h_s1)) (fun x_1 hv2=>?_)
 exact T3
theorem QrP (v1:(List Int))(v2:Int)(v3:Int)(h_v1:(QQ (fun _=>True)) v1)(hp0:0≤v2)(hp1:v2<v1.length):Qf (Qgn v1 v2 v3) fun r=>True:=by
 unfold Qgn
 refine T0 (T5 (by simp_all;omega)) (fun _ _=>?_)
 refine T0 (Qid ((v1.drop 0).take (v2.toNat-0)) v3 (((h_v1).drop _).take _)) (fun x_1 hv2=>?_)
 exact T3
theorem Quf (v1:Qj)(v2:Int)(v3:Int)(v4:(List Int))(v5:Int)(v6:Int)(h_v1:QY v1)(h_v4:(QQ (fun _=>True)) v4)(hp0:0≤v5)(hp1:v5<v4.length):Qf (QiG v1 v2 v3 v4 v5 v6) fun r=>True:=by
 unfold QiG
 refine T0 (QrO v1 v2 (h_v1)) (fun x_1 hv2=>?_)
 refine T1 (fun hc3=>?_) (fun hc3=>?_)
 ·exact T3
 refine T0 (QrP v4 v5 v2 (h_v4) (by omega) (by omega)) (fun x_4 hv5=>?_)
 refine T1 (fun hc6=>?_) (fun hc6=>?_)
 ·exact T3
 exact T3
theorem Qtm (k1:Int)(place2:Int)(v3:Qj)(v4:(List Int))(h_v3:QY v3)(h_v4:(QQ (fun _=>True)) v4)(hp0:0≤k1)(hp1:k1<v4.length):Qf (QhD k1 place2 v3 v4) fun r=>True:=by
 unfold QhD
 refine T0 (Quf v3 place2 3 v4 k1 5 (h_v3) (h_v4) (by omega) (by omega)) (fun x_1 hv2=>?_)
 exact T3
theorem Qug (l1:(List Int))(v2:Qj)(v3:(List Int))(h_l1:(QQ (fun _=>True)) l1)(h_v2:QY v2)(h_v3:(QQ (fun _=>True)) v3)(hp0:l1.length≤v3.length):Qf (QiH l1 v2 v3) fun r=>True:=by
 unfold QiH
 refine T0 (Qf.up (l1.length) (fun st=>st) (fun _=>True) (Q:=fun q=>True) rfl trivial (fun i2 st hi3 hn4 hj5=>?_)) (fun q6 hq7=>?_)
 ·obtain⟨x_1,hst⟩:∃y,y=st:=⟨_,rfl⟩
  subst hst
  replace hi3:x_1=(i2:Int):=hi3
  show Qf (Qgo l1 v2 v3 x_1) _
  unfold Qgo
  refine T1 (fun hc8=>?_) (fun hc8=>?_)
  ·refine T0 (T4 (by omega) (by simp_all)) (fun e_9 hv10=>?_)
   refine T0 (Qtm x_1 e_9 v2 v3 (h_v2) (h_v3) (by omega) (by simp_all;omega)) (fun x_11 hv12=>?_)
   refine T1 (fun hc13=>?_) (fun hc13=>?_)
   ·exact T2 (Ql trivial)
   exact T2 (QC ⟨(by simp_all),by subst hi3;exact Qy (by simp_all) (h_l1).1,trivial⟩)
  exact T2 (Ql trivial)
 rcases q6 with q6 | q6
 ·show Qf (Qgp q6.1 q6.2) _
  unfold Qgp
  exact T3
 show Qf (Qgq) _
 unfold Qgq
 exact T3
theorem Qu2 (n1:Qj)(l2:(List Int))(h_n1:QY n1)(h_l2:(QQ (fun _=>True)) l2):Qf (QjJ n1 l2) fun r=>True:=by
 unfold QjJ
 refine T0 (Qug l2 n1 l2 (h_l2) (h_n1) (h_l2) (by omega)) (fun x_1 hv2=>?_)
 exact T3
theorem Qu3 (v1:Qj)(v2:QB)(h_v1:QY v1)(h_v2:QaL v2):Qf (QjK v1 v2) fun r=>True:=by
 unfold QjK
 refine T0 (Qu2 v1 v2.Cancel (h_v1) (h_v2.2.2.2.2.2.2.2.1)) (fun x_1 hv2=>?_)
 exact T3
theorem QsK (v1:Qj)(v2:QB)(v3:Int)(h_v1:QY v1)(h_v2:QaL v2):Qf (QgX v1 v2 v3) fun r=>True:=by
 unfold QgX
 refine T0 (Qu3 v1 v2 (h_v1) (h_v2)) (fun x_1 hv2=>?_)
 exact T3
theorem Qoo (k1:Int)(l2:(List Qax))(h_l2:(QQ Qke) l2):Qf (Qfd k1 l2) fun r=>True:=by
 unfold Qfd
 exact T3
theorem QwH (t1:QB)(h_t1:QaL t1):Qf (QiU t1) fun r=>True:=by
 unfold QiU
 refine T0 (P:=fun _=>True) ?_ (fun x_1 hv2=>?_)
 ·unfold QpG
  refine T0 (Qoo t1.Join t1.Ins (h_t1.2.2.2.2.2.1)) (fun x_3 hv4=>?_)
  refine T1 (fun hc5=>?_) (fun hc5=>?_)
  ·refine T0 (Qoo t1.Split t1.Outs (h_t1.2.2.2.2.2.2.1)) (fun x_6 hv7=>?_)
   refine T1 (fun hc8=>?_) (fun hc8=>?_)
   ·refine T1 (fun hc9=>?_) (fun hc9=>?_)
    ·refine T1 (fun hc10=>?_) (fun hc10=>?_)
     ·exact T3
     exact T3
    exact T3
   exact T3
  exact T3
 unfold QiI
 exact T3
theorem Qu4 (v1:QB)(h_v1:QaL v1):Qf (QjL v1) fun r=>True:=by
 unfold QjL
 refine T0 (QwH v1 (h_v1)) (fun x_1 hv2=>?_)
 exact T3
theorem Quh (v1:QB)(v2:Int)(v3:Qj)(v4:Int)(v5:Int)(v6:Int)(v7:Int)(v8:Int)(v9:Int)(v10:Int)(v11:Int)(v12:Int)(v13:Int)(v14:Int)(v15:Int)(h_v1:QaL v1)(h_v3:QY v3)(hp0:0≤v4)(hp1:v4<v3.Tasks.length):Qf (QeC v1 v2 v3 v4 v5 v6 v7 v8 v9 v10 v11 v12 v13 v14 v15) fun r=>True:=by
 unfold QeC
 refine T0 (QvK v1 (h_v1)) (fun x_1 hv2=>?_)
 refine T1 (fun hc3=>?_) (fun hc3=>?_)
 ·exact T3
 refine T0 (QvM v3 v4 v1 (h_v3) (h_v1) (by omega) (by omega)) (fun x_4 hv5=>?_)
 refine T1 (fun hc6=>?_) (fun hc6=>?_)
 ·exact T3
 refine T0 (QvN v6 v1 (h_v1)) (fun x_7 hv8=>?_)
 refine T1 (fun hc9=>?_) (fun hc9=>?_)
 ·exact T3
 refine T0 (Qu1 v3 v1 v8 (h_v3) (h_v1)) (fun x_10 hv11=>?_)
 refine T1 (fun hc12=>?_) (fun hc12=>?_)
 ·exact T3
 refine T0 (QvP v3 v4 (h_v3)) (fun x_13 hv14=>?_)
 refine T1 (fun hc15=>?_) (fun hc15=>?_)
 ·exact T3
 refine T0 (QvQ v1 v6 (h_v1)) (fun x_16 hv17=>?_)
 refine T1 (fun hc18=>?_) (fun hc18=>?_)
 ·exact T3
 refine T0 (QsI v3 v1 v6 x_10.2 (h_v3) (h_v1)) (fun x_19 hv20=>?_)
 refine T1 (fun hc21=>?_) (fun hc21=>?_)
 ·exact T3
 refine T0 (QsJ v3 v1 v6 x_19.2 (h_v3) (h_v1)) (fun x_22 hv23=>?_)
 refine T1 (fun hc24=>?_) (fun hc24=>?_)
 ·exact T3
 refine T0 (QsK v3 v1 x_22.2 (h_v3) (h_v1)) (fun x_25 hv26=>?_)
 refine T1 (fun hc27=>?_) (fun hc27=>?_)
 ·exact T3
 refine T0 (Qu4 v1 (h_v1)) (fun x_28 hv29=>?_)
 refine T1 (fun hc30=>?_) (fun hc30=>?_)
 ·exact T3
 exact T3
theorem QrQ (n1:Qj)(k2:Int)(h_n1:QY n1):Qf (Qb9 n1 k2) fun r=>True:=by
 unfold Qb9
 refine T0 (Qkf n1.Tasks k2 (h_n1.2.2.1)) (fun x_1 hv2=>?_)
 refine T1 (fun hc3=>?_) (fun hc3=>?_)
 ·exact T3
 refine T0 (Qon n1 (h_n1)) (fun x_4 hv5=>?_)
 refine T1 (fun hc6=>?_) (fun hc6=>?_)
 ·exact T3
 refine T0 (T4 (by simp_all) (by simp_all)) (fun e_7 hv8=>?_)
 refine T0 (T4 (by simp_all) (by simp_all)) (fun e_9 hv10=>?_)
 refine T0 (QwG 0 n1 e_7 (h_n1) (((h_n1.2.2.1).2 e_7 hv8))) (fun x_11 hv12=>?_)
 refine T0 (Qt8 0 n1 e_7 (e_9.Vars.length:Int) (h_n1) (((h_n1.2.2.1).2 e_7 hv8))) (fun x_13 hv14=>?_)
 refine T0 (Qt9 0 n1 e_7 (e_9.Vars.length:Int) (h_n1) (((h_n1.2.2.1).2 e_7 hv8))) (fun x_15 hv16=>?_)
 refine T0 (Qua 0 n1 e_7 (h_n1) (((h_n1.2.2.1).2 e_7 hv8))) (fun x_17 hv18=>?_)
 refine T0 (Quh e_7 1 n1 k2 5 (e_9.Vars.length:Int) 2 0 (-1) 2 1 (-1) (-1) (-1) 11 (((h_n1.2.2.1).2 e_7 hv8)) (h_n1) (by simp_all) (by simp_all)) (fun x_19 hv20=>?_)
 refine T1 (fun hc21=>?_) (fun hc21=>?_)
 ·exact T3
 exact T3
theorem QwI (k1:Int)(p2:QB)(v3:Qj)(h_p2:QaL p2)(h_v3:QY v3):Qf (QiV k1 p2 v3) fun r=>True:=by
 unfold QiV
 refine T0 (QrQ v3 k1 (h_v3)) (fun x_1 hv2=>?_)
 exact T3
theorem QpZ (l1:(List QB))(v2:Qj)(h_l1:(QQ QaL) l1)(h_v2:QY v2):Qf (Qcw l1 v2) fun r=>True:=by
 unfold Qcw
 refine T0 (Qf.up (l1.length) (fun st=>st) (fun _=>True) (Q:=fun q=>True) rfl trivial (fun i2 st hi3 hn4 hj5=>?_)) (fun q6 hq7=>?_)
 ·obtain⟨x_1,hst⟩:∃y,y=st:=⟨_,rfl⟩
  subst hst
  replace hi3:x_1=(i2:Int):=hi3
  show Qf (QbS l1 v2 x_1) _
  unfold QbS
  refine T1 (fun hc8=>?_) (fun hc8=>?_)
  ·refine T0 (T4 (by omega) (by simp_all)) (fun e_9 hv10=>?_)
   refine T0 (QwI x_1 e_9 v2 (((h_l1).2 e_9 hv10)) (h_v2)) (fun x_11 hv12=>?_)
   refine T1 (fun hc13=>?_) (fun hc13=>?_)
   ·exact T2 (Ql trivial)
   exact T2 (QC ⟨(by simp_all),by subst hi3;exact Qy (by simp_all) (h_l1).1,trivial⟩)
  exact T2 (Ql trivial)
 rcases q6 with q6 | q6
 ·show Qf (QdV q6.1 q6.2) _
  unfold QdV
  exact T3
 show Qf (QdW) _
 unfold QdW
 exact T3
theorem Qx1 (n1:Qj)(h_n1:QY n1):Qf (QfQ n1) fun r=>True:=by
 unfold QfQ
 refine T0 (Qwz n1 2 3 1 (h_n1)) (fun x_1 hv2=>?_)
 refine T1 (fun hc3=>?_) (fun hc3=>?_)
 ·exact T3
 refine T0 (Qon n1 (h_n1)) (fun x_4 hv5=>?_)
 refine T1 (fun hc6=>?_) (fun hc6=>?_)
 ·exact T3
 refine T0 (QpJ n1.Places n1 (h_n1.2.1) (h_n1)) (fun x_7 hv8=>?_)
 refine T1 (fun hc9=>?_) (fun hc9=>?_)
 ·exact T3
 refine T0 (QpZ n1.Tasks n1 (h_n1.2.2.1) (h_n1)) (fun x_10 hv11=>?_)
 refine T1 (fun hc12=>?_) (fun hc12=>?_)
 ·exact T3
 exact T3
theorem QyL (a1:Int)(b2:Int)  : Qf (QoD a1 b2) fun r=>True:=by
 unfold QoD
 refine T1 (fun hc1=>?_) (fun hc1=>?_)
 ·exact T3
 exact T3
theorem Qtn (a1:Int)(b2:Int)  : Qf (Qho a1 b2) fun r=>True:=by
 unfold Qho
 refine T1 (fun hc1=>?_) (fun hc1=>?_)
 ·exact T3
 exact T3
theorem Qs2 (a1:Int)  : Qf (Qlg a1) fun r=>True:=by
 unfold Qlg
 refine T1 (fun hc1=>?_) (fun hc1=>?_)
 ·exact T3
 exact T3
theorem Qto (p1:Int)(y2:Int)  : Qf (Qhp p1 y2) fun r=>True:=by
 unfold Qhp
 exact T3
theorem QvU (a1:Int)(b2:Int)  : Qf (Qkz a1 b2) fun r=>True:=by
 unfold Qkz
 refine T0 (Qs2 a1 ) (fun x_1 hv2=>?_)
 refine T0 (Qs2 b2 ) (fun x_3 hv4=>?_)
 refine T0 (Qto x_1 x_3 ) (fun x_5 hv6=>?_)
 refine T1 (fun hc7=>?_) (fun hc7=>?_)
 ·unfold Qfm
  refine T1 (fun hc8=>?_) (fun hc8=>?_)
  ·exact T3
  exact T3
 unfold Qfm
 refine T1 (fun hc9=>?_) (fun hc9=>?_)
 ·exact T3
 exact T3
theorem Qop (a1:Int)(b2:Int)  : Qf (QgK a1 b2) fun r=>True:=by
 unfold QgK
 refine T1 (fun hc1=>?_) (fun hc1=>?_)
 ·exact T3
 refine T1 (fun hc2=>?_) (fun hc2=>?_)
 ·exact T3
 refine T0 (T5 (by simp_all)) (fun _ _=>?_)
 refine T0 (T5 (by simp_all)) (fun _ _=>?_)
 exact T3
theorem QeX (is1:Bool)  : Qf (QdO is1) fun r=>True:=by
 unfold QdO
 refine T1 (fun hc1=>?_) (fun hc1=>?_)
 ·exact T3
 exact T3
theorem Qlv (op1:Int)(a2:Int)(b3:Int)  : Qf (Qj1 op1 a2 b3) fun r=>True:=by
 unfold Qj1
 refine T1 (fun hc1=>?_) (fun hc1=>?_)
 ·refine T0 (QyL a2 b3 ) (fun x_2 hv3=>?_)
  exact T3
 refine T1 (fun hc4=>?_) (fun hc4=>?_)
 ·refine T0 (Qtn a2 b3 ) (fun x_5 hv6=>?_)
  exact T3
 refine T1 (fun hc7=>?_) (fun hc7=>?_)
 ·refine T0 (QvU a2 b3 ) (fun x_8 hv9=>?_)
  exact T3
 refine T1 (fun hc10=>?_) (fun hc10=>?_)
 ·refine T0 (Qop a2 b3 ) (fun x_11 hv12=>?_)
  exact T3
 refine T1 (fun hc13=>?_) (fun hc13=>?_)
 ·refine T0 (Qop a2 b3 ) (fun x_14 hv15=>?_)
  exact T3
 refine T1 (fun hc16=>?_) (fun hc16=>?_)
 ·refine T0 (QeX (a2==b3) ) (fun x_17 hv18=>?_)
  exact T3
 refine T1 (fun hc19=>?_) (fun hc19=>?_)
 ·refine T0 (QeX (a2 != b3) ) (fun x_20 hv21=>?_)
  exact T3
 refine T1 (fun hc22=>?_) (fun hc22=>?_)
 ·refine T0 (QeX (decide (a2<b3)) ) (fun x_23 hv24=>?_)
  exact T3
 refine T1 (fun hc25=>?_) (fun hc25=>?_)
 ·refine T0 (QeX (decide (a2≤b3)) ) (fun x_26 hv27=>?_)
  exact T3
 refine T1 (fun hc28=>?_) (fun hc28=>?_)
 ·refine T0 (P:=fun _=>True) ?_ (fun v_29 hv30=>?_)
  ·unfold QtO
   refine T1 (fun hc31=>?_) (fun hc31=>?_)
   ·refine T0 (QeX (b3 != 0) ) (fun x_32 hv33=>?_)
    exact T3
   refine T0 (QeX false ) (fun x_34 hv35=>?_)
   exact T3
  unfold Qmu
  exact T3
 refine T1 (fun hc36=>?_) (fun hc36=>?_)
 ·refine T0 (P:=fun _=>True) ?_ (fun v_37 hv38=>?_)
  ·unfold QtP
   refine T1 (fun hc39=>?_) (fun hc39=>?_)
   ·refine T0 (QeX true ) (fun x_40 hv41=>?_)
    exact T3
   refine T0 (QeX (b3 != 0) ) (fun x_42 hv43=>?_)
   exact T3
  unfold Qmv
  exact T3
 exact T3
theorem Qui (a1:Int)  : Qf (QoE a1) fun r=>True:=by
 unfold QoE
 refine T0 (Qlv 2 0 a1 ) (fun x_1 hv2=>?_)
 exact T3
end Go.Proofs
noncomputable section
namespace Go.Proofs
open Go Go.RowKit Go.Vm
theorem Qh5 (b:List (Int×Int))(h:b.length≤maxLen):Qc5 b=some (rtF (-1) b):=by
 unfold Qc5
 have h1:=QA6 (body:=fun st=>QcO b st.1 st.2) (l:=b) (ρ:=Unit⊕Unit) (fun i (t:Int)=>(t,(i:Int)))
  (fun i t x=>bif ((decide (x.1≤t))||((decide (x.2<1))||(decide (1048576<x.2))))then .inr (.inl ())else .inl x.1) (fun _=>.inr ())
  (fun i t x hi hx=>by
   show QcO b t i=_
   unfold QcO
   rw [QbW (by omega:(i:Int)<b.length),cond_true,Q0,hx,Qn]
   cases ((decide (x.1≤t))||((decide (x.2<1))||(decide (1048576<x.2))))with
   | true=>rfl
   | false=>simp only [cond_false,Sum.elim_inl];rw [Qy hi h])
  (fun t=>by
   show QcO b t b.length=_
   unfold QcO
   rw [QcS (by omega)];rfl) (-1) (s0:=(-1,0)) rfl
 rw [h1]
 have:∀(l:List (Int×Int)) (k:Nat) (t:Int),QsG (fun i t (x:Int×Int)=>(bif ((decide (x.1≤t))||((decide (x.2<1))||(decide (1048576<x.2))))then .inr (.inl ())else .inl x.1:Int⊕(Unit⊕Unit))) (fun _=>.inr ()) k t l=bif rtF t l then .inr ()else .inl ():=by
  intro l
  induction l with
  | nil=>intro k t;rfl
  | cons x l ih=>
   intro k t
   rw [QsG,rtF]
   cases ((decide (x.1≤t))||((decide (x.2<1))||(decide (1048576<x.2))))with
   | true=>rfl
   | false=>simp only [cond_false,Sum.elim_inl,Bool.not_false,Bool.true_and];exact ih _ _
 rw [this]
 cases rtF (-1) b<;>rfl
theorem QqQ (b:List (Int×Int))(h:b.length≤maxLen):QlO b=some (bif rtF (-1) b then .inr b else .inl ()):=by
 unfold QlO
 rw [Qh5 b h,Qn]
 cases hr:rtF (-1) b with
 | false=>rfl
 | true=>
  simp only [Qkj,cond_false,cond_true]
  have ha:=(QdX.1 hr).1
  obtain⟨r,h1,h2⟩:=Qzj (body:=fun st=>Qg3 b st.1 st.2) b.length (fun i s=>s=((i:Int),b.take i)) (fun r=>r=b)
   (fun i s hi hs=>by
    subst hs
    refine .inl ⟨(((i+1:Nat):Int),b.take (i+1)),?_,rfl⟩
    show Qg3 b i (b.take i)=_
    unfold Qg3
    rw [QbW (by omega:(i:Int)<b.length),cond_true,Q0,Qw hi,Qn,Qy hi h]
    have e:b.take (i+1)=b.take i++[b[i]]:=by rw [QdH,Qw hi];rfl
    rw [e,←QCg (by have:=(ha.sublist (List.take_sublist (i+1) b));rw [e]at this;exact this)])
   (fun s hs=>by
    subst hs
    refine⟨_,?_,rfl⟩
    show Qg3 b b.length (b.take b.length)=_
    unfold Qg3
    rw [QcS (by omega),Qp8];rfl) (0,[]) rfl
  rw [h1,h2];rfl
theorem Qrc (a b:List (Int×Int))(ha:a.length≤maxLen)(hb:b.length≤maxLen):Qkv a b=some (bif rtF (-1) a then(bif rtF (-1) b then .inr (.inr (.inr (a,b)))else .inr (.inr (.inl a)))else(bif rtF (-1) b then .inr (.inl b)else .inl ())):=by
 unfold Qkv
 rw [QqQ a ha]
 cases rtF (-1) a with
 | true=>
  simp only [cond_true,Qn,Sum.elim_inr]
  unfold QnP
  rw [QqQ b hb]
  cases rtF (-1) b<;>rfl
 | false=>
  simp only [cond_false,Qn,Sum.elim_inl]
  unfold QnO
  rw [QqQ b hb]
  cases rtF (-1) b<;>rfl
theorem QlL (m:List (Int×Int))(ha:Asc m)(h':m.length≤4294967296):Qer m=some (Qkc m):=by
 have h:m.length≤maxLen:=by unfold maxLen;omega
 unfold Qer QdM Qi8
 simp only [QbW h',Qz6 rfl,Qn,QBa ha]
 obtain⟨r,h1,h2⟩:=Qzj (body:=fun st=>Qck (m.map Prod.fst) m st.1 st.2) m.length (fun i s=>s=((i:Int),Qkc (m.take i))) (fun r=>r=Qkc m)
  (fun i s hi hs=>by
   subst hs
   refine .inl ⟨(((i+1:Nat):Int),Qkc (m.take (i+1))),?_,rfl⟩
   show Qck (m.map Prod.fst) m i (Qkc (m.take i))=_
   unfold Qck
   have e:m.take (i+1)=m.take i++[m[i]]:=by rw [QdH,Qw hi];rfl
   have ec:(QE m m[i].1).getD 0=m[i].2:=Qi3 ha.nd (Qav hi)
   rw [QbW (by simp;omega),cond_true,Q0,QaA,Qw hi,QcR,Qn,ec]
   have hl:(Qkc (m.take i)).length≤i:=Qcc (QrZ _ _) (by simp;omega)
   cases hc:decide (0<m[i].2)with
   | true=>
    simp only [cond_true]
    rw [QqN (by simp;omega),Qn]
    unfold Qem
    rw [Qy hi h,e]
    unfold Qkc
    rw [Qp3,Qie,if_pos hc];rfl
   | false=>
    simp only [cond_false]
    unfold Qem
    rw [Qy hi h,e]
    unfold Qkc
    rw [Qp3,Qie,if_neg (by rw [hc];decide),List.filter_nil,Qp2])
  (fun s hs=>by
   subst hs
   refine⟨_,?_,rfl⟩
   show Qck (m.map Prod.fst) m m.length (Qkc (m.take m.length))=_
   unfold Qck
   rw [QcS (by simp),Qp8];rfl) (0,[]) rfl
 rw [h1,h2];rfl
theorem QyM (m:List (Int×Int)):(Qkc m).length≤m.length:=QrZ _ _
theorem Qkh (a b:List (Int×Int))(h:a.length+b.length≤4294967296):(¬(Rt a∧Rt b)∧QbH a b=some ([],1))∨(Rt a∧Rt b∧(∃k,1048576<QP a k+QP b k)∧QbH a b=some ([],2))∨
  (Rt a∧Rt b∧∃r,QbH a b=some (r,0)∧Rt r∧(∀k,QP r k=QP a k+QP b k)∧r.length≤a.length+b.length):=by
 unfold QbH
 rw [Qrc a b (by unfold maxLen;omega) (by unfold maxLen;omega),Qn]
 cases ra:rtF (-1) a with
 | false=>exact .inl ⟨fun hh=>(by rw [QdX.2 hh.1]at ra;cases ra),by cases rtF (-1) b<;>rfl⟩
 | true=>
  cases rb:rtF (-1) b with
  | false=>exact .inl ⟨fun hh=>(by rw [QdX.2 hh.2]at rb;cases rb),rfl⟩
  | true=>
   have hra:=QdX.1 ra
   have hrb:=QdX.1 rb
   simp only [cond_true,Sum.elim_inr]
   unfold Qo5
   have hw:∀p∈b,QP a p.1+p.2=QP a p.1+QP b p.1:=fun p hp=>by rw [Qi3 hrb.1.nd hp]
   rcases Qwu (g:=fun x v=>w64 (x+v)) (stop:=fun x=>decide (1048576<x)) (q:=some ()) (body:=fun st p=>QhL st p.1 p.2) (fun s p=>by
     show QhL s p.1 p.2=_
     unfold QhL
     rw [Qkb,if_pos rfl]
     unfold QP
     simp only [QoP]
     cases decide (1048576<w64 ((QE s p.1).getD 0+p.2))<;>rfl) hra.1 hrb.1.nd with⟨⟨p,h1,h2⟩,h3⟩|⟨h1,s',h3,h4,h5,h6⟩
   ·refine .inr (.inl ⟨hra,hrb,⟨p.1,?_⟩,?_⟩)
    ·have:=hra.cnt p.1
     have:=hrb.cnt p.1
     have h2:=Q7 h2
     rw [Qi3 hrb.1.nd h1]
     rw [Qi3 hrb.1.nd h1]at this
     rwa [Qca (by omega)]at h2
    simp only [h3 () rfl];rfl
   have hk:∀k,QP s' k=QP a k+QP b k∧QP s' k≤1048576:=fun k=>by
    have ca:=hra.cnt k
    have cb:=hrb.cnt k
    have e:=h6 k
    unfold Quv at e
    cases hm:QE b k with
    | none=>
     rw [hm]at e
     simp only at e
     have:QP b k=0:=by unfold QP;rw [hm];rfl
     have e2:QP s' k=QP a k:=by unfold QP;rw [e]
     omega
    | some v=>
     rw [hm]at e
     simp only at e
     have e1:QP b k=v:=by unfold QP;rw [hm];rfl
     have e2:QP s' k=w64 (QP a k+v):=by unfold QP;rw [e];rfl
     have h7:=h1 (k,v) ((Qd6 hrb.1.nd).1 hm)
     simp only [QW]at h7
     rw [Qca (by omega)]at e2 h7
     omega
   refine .inr (.inr ⟨hra,hrb,Qkc s',?_,QA9 h4 (fun k hk0=>⟨?_,(hk k).2⟩),fun k=>?_,Qcc (QyM s') h5⟩)
   ·simp only [h3,Qn,Sum.elim_inl]
    unfold Qo4
    rw [QlL s' h4 (by omega)];rfl
   ·have:=(hk k).1
    have ca:=hra.cnt k
    have cb:=hrb.cnt k
    by_cases c:0<QP a k
    ·exact hra.cnt_pos c
    exact hrb.cnt_pos (by omega)
   rw [QyK h4,(hk k).1]
   have ca:=hra.cnt k
   have cb:=hrb.cnt k
   split<;>omega
theorem QpN (m m':List (Int×Int)):Qen m m'=some (!(m.any fun p=>decide (QP m' p.1<p.2))):=by
 unfold Qen
 rw [Qz8 (bad:=fun p=>decide (QP m' p.1<p.2)) (q:=()) (fun p=>by
  show Qc8 m' p.1 p.2=_
  unfold Qc8 QP
  cases decide ((QE m' p.1).getD 0<p.2)<;>rfl)]
 cases m.any fun p=>decide (QP m' p.1<p.2)<;>rfl
theorem QwJ {a b:List (Int×Int)}(ha:Rt a)(hb:Rt b):(a.any fun p=>decide (QP b p.1<p.2))=false↔∀k,QP a k≤QP b k:=by
 rw [←Qoq,Qkk]
 simp only [QD,not_exists,not_and]
 constructor
 ·intro h k
  have cb:=hb.cnt k
  cases e:QE a k with
  | none=>
   have:QP a k=0:=by unfold QP;rw [e];rfl
   omega
  | some v=>
   have h1:=h _ ((Qd6 ha.1.nd).1 e)
   have:QP a k=v:=by unfold QP;rw [e];rfl
   simp only at h1
   omega
 intro h p hp hlt
 have:=h p.1
 rw [Qi3 ha.1.nd hp]at this
 omega
theorem QwK (a b:List (Int×Int))(ha:a.length≤maxLen)(hb:b.length≤maxLen):∃r,QmA a b=some r∧(r=true↔Rt a∧Rt b∧∀k,QP a k≤QP b k):=by
 unfold QmA
 rw [Qrc a b ha hb,Qn]
 cases ra:rtF (-1) a with
 | false=>exact⟨false,by cases rtF (-1) b<;>rfl,by simp;intro hh;rw [QdX.2 hh]at ra;cases ra⟩
 | true=>
  cases rb:rtF (-1) b with
  | false=>exact⟨false,rfl,by simp;intro _ hh;rw [QdX.2 hh]at rb;cases rb⟩
  | true=>
   have hra:=QdX.1 ra
   have hrb:=QdX.1 rb
   refine⟨!(a.any fun p=>decide (QP b p.1<p.2)),?_,?_⟩
   ·simp only [cond_true,Sum.elim_inr]
    unfold Qmz
    rw [QpN];rfl
   rw [Qfs,QwJ hra hrb]
   exact⟨fun h=>⟨hra,hrb,h⟩,fun h=>h.2.2⟩
theorem Qn0 (a b:List (Int×Int))(h:a.length+b.length≤4294967296):(¬(Rt a∧Rt b)∧Qb2 a b=some ([],1))∨(Rt a∧Rt b∧(∃k,QP a k<QP b k)∧Qb2 a b=some ([],10))∨
  (Rt a∧Rt b∧(∀k,QP b k≤QP a k)∧∃r,Qb2 a b=some (r,0)∧Rt r∧(∀k,QP r k=QP a k-QP b k)∧r.length≤a.length+b.length):=by
 unfold Qb2
 rw [Qrc a b (by unfold maxLen;omega) (by unfold maxLen;omega),Qn]
 cases ra:rtF (-1) a with
 | false=>exact .inl ⟨fun hh=>(by rw [QdX.2 hh.1]at ra;cases ra),by cases rtF (-1) b<;>rfl⟩
 | true=>
  cases rb:rtF (-1) b with
  | false=>exact .inl ⟨fun hh=>(by rw [QdX.2 hh.2]at rb;cases rb),rfl⟩
  | true=>
   have hra:=QdX.1 ra
   have hrb:=QdX.1 rb
   simp only [cond_true,Sum.elim_inr]
   unfold QnU
   rw [QpN,Qn]
   cases hw:b.any fun p=>decide (QP a p.1<p.2)with
   | true=>
    refine .inr (.inl ⟨hra,hrb,?_,rfl⟩)
    obtain⟨p,h1,h2⟩:=Qkk.1 hw
    exact⟨p.1,by rw [Qi3 hrb.1.nd h1];exact Q7 h2⟩
   | false=>
    have hle:=(QwJ hrb hra).1 hw
    simp only [Bool.not_false,Qkj,cond_false]
    rcases Qwu (g:=fun x v=>w64 (x-v)) (stop:=fun _=>false) (q:=none) (body:=fun st p=>QgG st p.1 p.2) (fun s p=>by
      show QgG s p.1 p.2=_
      unfold QgG QP
      rfl) hra.1 hrb.1.nd with⟨⟨p,h1,h2⟩,h3⟩|⟨h1,s',h3,h4,h5,h6⟩
    ·cases h2
    have hk:∀k,QP s' k=QP a k-QP b k:=fun k=>by
     have ca:=hra.cnt k
     have cb:=hrb.cnt k
     have e:=h6 k
     unfold Quv at e
     cases hm:QE b k with
     | none=>
      rw [hm]at e
      simp only at e
      have:QP b k=0:=by unfold QP;rw [hm];rfl
      have e2:QP s' k=QP a k:=by unfold QP;rw [e]
      omega
     | some v=>
      rw [hm]at e
      simp only at e
      have e1:QP b k=v:=by unfold QP;rw [hm];rfl
      have e2:QP s' k=w64 (QP a k-v):=by unfold QP;rw [e];rfl
      rw [Qca (by omega)]at e2
      omega
    refine .inr (.inr ⟨hra,hrb,hle,Qkc s',?_,QA9 h4 (fun k hk0=>?_),fun k=>?_,Qcc (QyM s') h5⟩)
    ·simp only [h3,Qn,Sum.elim_inl]
     unfold QnT
     rw [QlL s' h4 (by omega)];rfl
    ·have:=hk k
     have ca:=hra.cnt k
     have cb:=hrb.cnt k
     exact⟨hra.cnt_pos (by omega),by omega⟩
    rw [QyK h4,hk k]
    have:=hle k
    split<;>omega
theorem QwL (t:Int):Qm2 [t]=some (bif decide (0≤t)then [(t,1)]else []):=by
 unfold Qm2
 rw [Qeq]
 show((QfM [t] 0 []).bind _).bind _=_
 unfold QfM
 rw [QbW (by simp),cond_true,show idx [t] 0=some t from rfl,Qn]
 unfold Qnr
 rw [show w64 (0+1)=1 from by decide]
 cases h:decide (0≤t)with
 | false=>
  simp only [cond_false,Qn,Sum.elim_inl]
  rw [Qeq]
  show((QfM [t] 1 []).bind _).bind _=_
  unfold QfM
  rw [QcS (by simp)]
  simp only [cond_false,Qn,Sum.elim_inr]
  unfold Qns
  rw [QlL [] List.Pairwise.nil (by simp)];rfl
 | true=>
  simp only [cond_true,Qn,Sum.elim_inl]
  rw [Qeq]
  show((QfM [t] 1 [(t,min2 (w64 (0+1)) 1048576)]).bind _).bind _=_
  unfold QfM
  rw [QcS (by simp)]
  simp only [cond_false,Qn,Sum.elim_inr]
  unfold Qns
  rw [QlL _ (Qr2 _ _) (by simp [maxLen]),show min2 (w64 (0+1)) 1048576=1 from by decide];rfl
end Go.Proofs
noncomputable section
namespace Go.Proofs
open Go Go.RowKit Go.Vm
theorem Qzo : ∀(n:Nat) (e:Qo) (d:Int),Qds e→SizeOf.sizeOf e≤n→Qf (Qfk n e d) fun _=>True
 | 0,e,_,_,h=>absurd e.pos (by omega)
 | n+1,e,d,he,h=>by
  unfold Qfk QnY
  refine T1 (fun _=>T3) fun _=>?_
  refine T0 (Qf.up e.Kids.length (fun st=>st.2) (fun _=>True) (Q:=fun _=>True) rfl trivial (fun i st hi hn _=>?_)) (fun q _=>?_)
  ·obtain⟨a,x⟩:=st
   replace hi:x=(i:Int):=hi
   show Qf (QkH e (Qfk n) d a x) _
   unfold QkH
   refine T1 (fun hc=>?_) (fun hc=>T2 (Ql trivial))
   simp only [QD]at hc
   refine T0 (T4 (by omega) (by omega)) fun k hk=>?_
   have:=Qt5 hk
   refine T0 (Qzo n k _ ((QeW he).2 k hk) (by omega)) fun y _=>?_
   refine T1 (fun _=>T2 (Ql trivial)) fun _=>T1 (fun _=>T2 (Ql trivial)) fun _=>?_
   exact T2 (QC ⟨by omega,by subst hi;exact Qy (by omega) (QeW he).1,trivial⟩)
  rcases q with q | q
  ·exact T3
  exact T3
theorem Qxm (e:Qo)(he:Qds e):Qf (Qi2 e) fun _=>True:=by
 unfold Qi2 Qq3
 exact T0 (Qzo _ e 60 he (QbZ _)) fun _ _=>T3
theorem Qzp (n1:Qj)(h:QY n1)(q0:Int):Qf (QjA n1 q0) fun r=>r=true→q0≤400:=by
 unfold QjA
 refine T0 (Qf.up n1.Tasks.length (fun st=>st.2) (fun _=>True) (Q:=fun _=>True) rfl trivial (fun i st hi hn _=>?_)) (fun q _=>?_)
 ·obtain⟨a,x⟩:=st
  replace hi:x=(i:Int):=hi
  show Qf (Qjz n1 a x) _
  unfold Qjz
  refine T1 (fun hc=>?_) (fun _=>T2 (Ql trivial))
  simp only [QD]at hc
  refine T0 (T4 (by omega) (by omega)) fun e he=>?_
  have ke:=h.2.2.1.2 e he
  refine T1 (fun _=>T2 (Ql trivial)) fun _=>?_
  refine T0 (Qf.up e.Vars.length (fun st=>st) (fun _=>True) (Q:=fun _=>True) rfl trivial (fun i2 st hi2 hn2 _=>?_)) (fun q _=>?_)
  ·show Qf (Qjt e st) _
   unfold Qjt
   refine T1 (fun hc=>?_) (fun _=>T2 (Ql trivial))
   simp only [QD]at hc
   refine T0 (T4 (by omega) (by omega)) fun s _=>?_
   exact T1 (fun _=>T2 (Ql trivial)) fun _=>T2 (QC ⟨by omega,by rw [hi2];exact Qy (by omega) ke.2.1.1,trivial⟩)
  rcases q with q | q
  ·exact T2 (Ql trivial)
  show Qf (Qjy e a x) _
  unfold Qjy
  refine T0 (Qxm e.Guard ke.2.2.1) fun g _=>?_
  refine T0 (Qf.up e.Ins.length (fun st=>st.2) (fun _=>True) (Q:=fun _=>True) rfl trivial (fun i2 st hi2 hn2 _=>?_)) (fun q _=>?_)
  ·obtain⟨b,y⟩:=st
   replace hi2:y=(i2:Int):=hi2
   show Qf (Qju e b y) _
   unfold Qju
   refine T1 (fun hc=>?_) (fun _=>T2 (Ql trivial))
   simp only [QD]at hc
   refine T0 (T4 (by omega) (by omega)) fun s hs=>?_
   refine T0 (Qxm s.Expr (ke.2.2.2.2.2.1.2 s hs).2) fun g _=>?_
   exact T2 (QC ⟨by omega,by subst hi2;exact Qy (by omega) ke.2.2.2.2.2.1.1,trivial⟩)
  show Qf (Qjx e a x q) _
  unfold Qjx
  refine T0 (Qf.up e.Outs.length (fun st=>st.2) (fun _=>True) (Q:=fun _=>True) rfl trivial (fun i2 st hi2 hn2 _=>?_)) (fun q _=>?_)
  ·obtain⟨b,y⟩:=st
   replace hi2:y=(i2:Int):=hi2
   show Qf (Qjv e b y) _
   unfold Qjv
   refine T1 (fun hc=>?_) (fun _=>T2 (Ql trivial))
   simp only [QD]at hc
   refine T0 (T4 (by omega) (by omega)) fun s hs=>?_
   refine T0 (Qxm s.Expr (ke.2.2.2.2.2.2.1.2 s hs).2) fun g _=>?_
   exact T2 (QC ⟨by omega,by subst hi2;exact Qy (by omega) ke.2.2.2.2.2.2.1.1,trivial⟩)
  show Qf (Qjw a e x q) _
  unfold Qjw
  exact T1 (fun _=>T2 (Ql trivial)) fun _=>T2 (QC ⟨by omega,by subst hi;exact Qy (by omega) h.2.2.1.1,trivial⟩)
 rcases q with q | q
 ·exact T2 fun h=>by cases h
 exact T2 fun h=>by simpa using h
theorem QC6 (n1:Qj)(h:QY n1):Qf (QfP n1) fun r=>r=true→n1.Colours.length≤40∧n1.Places.length≤70∧n1.Tasks.length≤70:=by
 unfold QfP
 refine T1 (fun _=>T2 fun h=>by cases h) fun hc=>?_
 simp only [Qdb,QW]at hc
 refine T6 (P:=fun _=>True) ?_ fun _ _ _=>by omega
 refine T0 (Qf.up n1.Colours.length (fun st=>st.2) (fun _=>True) (Q:=fun _=>True) rfl trivial (fun i st hi hn _=>?_)) (fun q _=>?_)
 ·obtain⟨a,x⟩:=st
  replace hi:x=(i:Int):=hi
  show Qf (QfV n1 a x) _
  unfold QfV
  refine T1 (fun hc=>?_) (fun _=>T2 (Ql trivial))
  simp only [QD]at hc
  refine T0 (T4 (by omega) (by omega)).self fun e he=>?_
  obtain⟨he,hm⟩:=he
  refine T0 (P:=fun _=>True) ?_ fun y _=>?_
  ·unfold Qng
   rw [he,Qn]
   exact T1 (fun _=>T3) fun _=>T3
  unfold QhY
  refine T1 (fun _=>T2 (Ql trivial)) fun _=>?_
  refine T0 (Qf.up e.Names.length (fun st=>st) (fun _=>True) (Q:=fun _=>True) rfl trivial (fun i2 st hi2 hn2 _=>?_)) (fun q _=>?_)
  ·show Qf (QfU n1 x st) _
   unfold QfU
   simp only [he,Qn]
   refine T1 (fun hc=>?_) (fun _=>T2 (Ql trivial))
   simp only [QD]at hc
   refine T0 (T4 (by omega) (by omega)) fun s _=>?_
   refine T1 (fun _=>T2 (Ql trivial)) fun _=>?_
   exact T2 (QC ⟨by omega,by rw [hi2];exact Qy (by omega) (h.1.2 e hm).2.2.2.2.1.1,trivial⟩)
  rcases q with q | q
  ·exact T2 (Ql trivial)
  exact T2 (QC ⟨by omega,by subst hi;exact Qy (by omega) h.1.1,trivial⟩)
 rcases q with q | q
 ·exact T3
 show Qf (Qe7 n1 q) _
 unfold Qe7
 refine T0 (Qf.up n1.Places.length (fun st=>st.2) (fun _=>True) (Q:=fun _=>True) rfl trivial (fun i st hi hn _=>?_)) (fun q _=>?_)
 ·obtain⟨a,x⟩:=st
  replace hi:x=(i:Int):=hi
  show Qf (QfW n1 a x) _
  unfold QfW
  refine T1 (fun hc=>?_) (fun _=>T2 (Ql trivial))
  simp only [QD]at hc
  refine T0 (T4 (by omega) (by omega)) fun e _=>?_
  refine T0 (T4 (by omega) (by omega)) fun e2 _=>?_
  exact T1 (fun _=>T2 (Ql trivial)) fun _=>T2 (QC ⟨by omega,by subst hi;exact Qy (by omega) h.2.1.1,trivial⟩)
 rcases q with q | q
 ·exact T3
 exact(Qzp n1 h q).mono fun _ _=>trivial
theorem QC7 (m:List (List (Int×Int)))(h:m.length≤maxLen):Qf (Qnw m) fun _=>True:=by
 unfold Qnw
 refine T0 (Qf.up m.length (fun st=>st.2) (fun _=>True) (Q:=fun _=>True) rfl trivial (fun i st hi hn _=>?_)) (fun q _=>T3)
 obtain⟨a,x⟩:=st
 replace hi:x=(i:Int):=hi
 show Qf (QkI m a x) _
 unfold QkI
 refine T1 (fun hc=>?_) (fun _=>T2 (Ql trivial))
 simp only [QG,QD]at hc
 refine T0 (T4 (by omega) (by omega)) fun e _=>?_
 exact T2 (QC ⟨by omega,by subst hi;exact Qy (by omega) h,trivial⟩)
theorem Qzq {l:List (Int×Int)}(h:Asc l):∀{a:Int},(∀p∈l,a≤p.1)→∀(i:Nat) (hi:i<l.length),a+i≤(l[i]).1:=by
 induction l with
 | nil=>intro a _ i hi;simp at hi
 | cons p l ih=>
  intro a ha i hi
  obtain⟨h1,h2⟩:=Qgh.1 h
  cases i with
  | zero=>have:=ha p QaN;simpa using this
  | succ i=>
   have h3:=ih h2 (a:=a+1) (fun q hq=>by have:=h1 q hq;have:=ha p QaN;omega) i (by simpa using hi)
   simp only [List.getElem_cons_succ]
   omega
theorem QCl {l:List (Int×Int)}(h:Asc l)(h0:0<l.length){k:Int}(hk:0<QP l k):k≤(l[l.length-1]).1:=by
 unfold QP at hk
 cases e:QE l k with
 | none=>rw [e]at hk;simp at hk
 | some v=>
  obtain⟨j,hj,hjk⟩:=Qme.1 ((Qd6 h.nd).1 e)
  by_cases c:j=l.length-1
  ·subst c;rw [hjk];exact Int.le_refl _
  have:=QvZ.1 h j (l.length-1) hj (by omega) (by omega)
  rw [hjk]at this
  simp only at this
  omega
def MOk (n:Qj)(c:Nat)(m:List (List (Int×Int))):Prop:=m.length=n.Places.length∧∀b∈m,Rt b∧b.length≤c
theorem MOk.mono {n:Qj}{c c':Nat}{m:List (List (Int×Int))}(h:MOk n c m)(hc:c≤c'):MOk n c' m:=⟨h.1,fun b hb=>⟨(h.2 b hb).1,Qcc (h.2 b hb).2 hc⟩⟩
def Low (n:Qj)(m:List (List (Int×Int))):Prop:=∀(j:Nat) b p,m[j]? = some b→n.Places[j]? = some p→∀k,0<QP b k→∃z,Qa6 n.Colours p.Colour=some z∧k<z
theorem QyN (n1:Qj)(m:List (List (Int×Int)))(h:QY n1)(hm:QQ (QQ fun _=>True) m):Qf (QmK n1 m) fun r=>r=true→MOk n1 1024 m∧Low n1 m:=by
 unfold QmK
 refine T1 (fun _=>T2 fun h=>by cases h) fun hc=>?_
 have hl:m.length=n1.Places.length:=by simp only [bne_eq_false_iff_eq]at hc;omega
 refine T0 (Qf.up m.length (fun st=>st) (fun st=>∀(j:Nat) (hj:j<m.length),(j:Int)<st→(Rt m[j]∧(m[j]).length≤1024)∧∀p,n1.Places[j]? = some p→∀k,0<QP m[j] k→∃z,Qa6 n1.Colours p.Colour=some z∧k<z) (Q:=fun q=>q=.inr ()→(∀b∈m,Rt b∧b.length≤1024)∧Low n1 m) rfl (fun j _ hj=>by omega) (fun i st hi hn hJ=>?_)) (fun q hq=>?_)
 ·show Qf (QjN m n1 st) _
  unfold QjN
  refine T1 (fun hc=>?_) (fun hc=>T2 (Ql fun _=>⟨fun b hb=>by
   obtain⟨j,hj,rfl⟩:=Qme.1 hb
   simp only [QW]at hc
   exact(hJ j hj (by omega)).1,fun j b p hb hp=>by
   obtain⟨hj,rfl⟩:=QV.1 hb
   simp only [QW]at hc
   exact(hJ j hj (by omega)).2 p hp⟩))
  simp only [QD]at hc
  have hlt:i<m.length:=by omega
  have hlp:i<n1.Places.length:=by omega
  rw [hi,Q0,Qw hlt,Qn,Q0,Qw hlp,Qn]
  refine T0 (Qc2 n1.Colours (n1.Places[i]).Colour h.1).self fun sz hsz=>?_
  obtain⟨hze,hsz⟩:=hsz
  have hb:=hm.2 _ (Qav hlt)
  have hbl:=hb.1
  refine T0 (P:=fun r=>r=false→(Rt m[i]∧(m[i]).length≤1024)∧∀k,0<QP m[i] k→k<sz) ?_ fun x hx=>?_
  ·unfold QqI
   rw [Qh5 _ hb.1,Qn]
   refine T1 (fun _=>T2 fun h=>by cases h) fun hr=>?_
   have hrt:=QdX.1 (by simpa using hr:rtF (-1) m[i]=true)
   refine T1 (fun h0=>?_) (fun h0=>T2 fun _=>⟨⟨hrt,by simp only [QW]at h0;omega⟩,fun k hk=>by
    simp only [QW]at h0
    rw [show m[i]=[]from Qmc.1 (by omega)]at hk
    simp [QP,QE]at hk⟩)
   simp only [QD]at h0
   unfold maxLen at hbl
   rw [Qca (by omega),show((m[i]).length:Int)-1=(((m[i]).length-1:Nat):Int) by omega,Q0,Qw (by omega),Qn]
   refine T2 fun hf=>?_
   simp only [QW]at hf
   have:=Qzq hrt.1 (a:=0) (fun p hp=>(hrt.2 p hp).1) ((m[i]).length-1) (by omega)
   refine⟨⟨hrt,by omega⟩,fun k hk=>?_⟩
   have:=QCl hrt.1 (by omega) hk
   omega
  unfold QjM
  refine T1 (fun _=>T2 (Ql fun h=>by cases h)) fun hxf=>?_
  refine T2 (QC ⟨hlt,Qy hlt hm.1,fun j hj hjs=>?_⟩)
  rw [Qy hlt hm.1]at hjs
  by_cases c:j=i
  ·subst c
   refine⟨(hx hxf).1,fun p hp k hk=>⟨sz,?_,(hx hxf).2 k hk⟩⟩
   rw [Qw hlp]at hp
   cases hp
   exact hze
  exact hJ j hj (by omega)
 rcases q with q | q
 ·exact T2 fun h=>by cases h
 exact T2 fun _=>⟨⟨hl,(hq rfl).1⟩,(hq rfl).2⟩
structure Q1 (n:Qj):Prop where
 k:QY n
 pl:n.Places.length≤70
 tl:n.Tasks.length≤12
 tk:∀t∈n.Tasks,t.Vars.length≤16∧t.Ins.length≤16∧t.Outs.length≤16∧t.Cancel.length≤16
theorem QBe (n1:Qj)(k2:Int)(h:Qb9 n1 k2=some 0):∃t,idx n1.Tasks k2=some t∧t.Vars.length≤16∧t.Ins.length≤16∧t.Outs.length≤16∧t.Cancel.length≤16:=by
 unfold Qb9 at h
 obtain⟨x5,_,h⟩:=Qb h
 rcases Qs h with⟨_,h⟩|⟨_,h⟩
 ·cases h
 obtain⟨x7,_,h⟩:=Qb h
 rcases Qs h with⟨c,h⟩|⟨_,h⟩
 ·simp only [Option.some.injEq]at h;rw [h]at c;cases c
 obtain⟨e9,he9,h⟩:=Qb h
 obtain⟨e10,he10,h⟩:=Qb h
 rw [he9]at he10;cases he10
 obtain⟨_,_,h⟩:=Qb h
 obtain⟨_,_,h⟩:=Qb h
 obtain⟨_,_,h⟩:=Qb h
 obtain⟨_,_,h⟩:=Qb h
 obtain⟨x15,hx,h⟩:=Qb h
 have bad:∀a b:Int,0<a→x15=(a,b)→False:=fun a b ha e=>by
  subst e
  simp only at h
  rcases Qs h with⟨c,h⟩|⟨_,h⟩
  ·simp only [beq_iff_eq]at c;omega
  simp only [Option.some.injEq]at h;omega
 unfold QeC at hx
 obtain⟨x20,_,hx⟩:=Qb hx
 rcases Qs hx with⟨_,hx⟩|⟨_,hx⟩
 ·exact(bad _ _ (by decide) (Option.some.inj hx).symm).elim
 obtain⟨x22,_,hx⟩:=Qb hx
 rcases Qs hx with⟨_,hx⟩|⟨_,hx⟩
 ·exact(bad _ _ (by decide) (Option.some.inj hx).symm).elim
 obtain⟨x24,h24,hx⟩:=Qb hx
 rcases Qs hx with⟨_,hx⟩|⟨c,hx⟩
 ·exact(bad _ _ (by decide) (Option.some.inj hx).symm).elim
 unfold Qh0 at h24
 simp only [Option.some.injEq]at h24
 rw [←h24]at c
 simp only [Qjf,QG,QD,QkV]at c
 exact⟨e9,he9,by omega,by omega,by omega,by omega⟩
theorem Qvi (l1:List QB)(n1:Qj)(h:QY n1)(hl:QQ QaL l1):Qf (Qcw l1 n1) fun r=>r.2=0→∀(j:Nat),j<l1.length→Qb9 n1 j=some 0:=by
 unfold Qcw
 refine T0 (Qf.up l1.length (fun st=>st) (fun st=>∀(j:Nat),(j:Int)<st→Qb9 n1 j=some 0) (Q:=fun q=>(∀a b,q=.inl (a,b)→b≠0)∧(q=.inr ()→∀(j:Nat),j<l1.length→Qb9 n1 j=some 0)) rfl (fun j hj=>by omega) (fun i st hi hn hJ=>?_)) (fun q hq=>?_)
 ·show Qf (QbS l1 n1 st) _
  unfold QbS
  refine T1 (fun hc=>?_) (fun hc=>T2 (Ql ⟨fun a b h=>(by cases h),fun _ j hj=>by
   simp only [QW]at hc
   exact hJ j (by omega)⟩))
  simp only [QD]at hc
  refine T0 (T4 (by omega) (by omega)) fun e he=>?_
  refine T0 (P:=fun x=>Qb9 n1 st=some x) ?_ fun x hx=>?_
  ·unfold QiV
   exact T0 (QrQ n1 st h).self fun x hx=>T2 hx.1
  refine T1 (fun hc=>T2 (Ql ⟨fun a b h=>(by cases h;simpa using hc),fun h=>(by cases h)⟩)) fun hc=>?_
  simp only [bne_eq_false_iff_eq]at hc
  refine T2 (QC ⟨by omega,by rw [hi];exact Qy (by omega) hl.1,fun j hj=>?_⟩)
  rw [hi,Qy (show i<l1.length by omega) hl.1]at hj
  by_cases c:j=i
  ·subst c;rw [←hi,hx,hc]
  exact hJ j (by omega)
 rcases q with q | q
 ·exact T2 fun h=>absurd h (hq.1 q.1 q.2 rfl)
 exact T2 fun _=>hq.2 rfl
theorem QBf (n1:Qj)(h:QY n1){p:Qe0}(hn:QfQ n1=some (0,p)):∀t∈n1.Tasks,t.Vars.length≤16∧t.Ins.length≤16∧t.Outs.length≤16∧t.Cancel.length≤16:=by
 unfold QfQ at hn
 obtain⟨x6,_,hn⟩:=Qb hn
 rcases Qs hn with⟨c,hn⟩|⟨_,hn⟩
 ·simp only [Option.some.injEq,Prod.mk.injEq]at hn;rw [hn.1]at c;cases c
 obtain⟨x8,_,hn⟩:=Qb hn
 rcases Qs hn with⟨c,hn⟩|⟨_,hn⟩
 ·simp only [Option.some.injEq,Prod.mk.injEq]at hn;rw [hn.1]at c;cases c
 obtain⟨x10,_,hn⟩:=Qb hn
 rcases Qs hn with⟨c,hn⟩|⟨_,hn⟩
 ·simp only [Option.some.injEq,Prod.mk.injEq]at hn;rw [hn.1]at c;cases c
 obtain⟨x12,h12,hn⟩:=Qb hn
 rcases Qs hn with⟨c,hn⟩|⟨c,hn⟩
 ·simp only [Option.some.injEq,Prod.mk.injEq]at hn;rw [hn.1]at c;cases c
 simp only [bne_eq_false_iff_eq]at c
 obtain⟨r,hr,hr2⟩:=Qvi n1.Tasks n1 h h.2.2.1
 rw [h12]at hr;cases hr
 intro t ht
 obtain⟨j,hj,rfl⟩:=Qme.1 ht
 obtain⟨t,h1,h2⟩:=QBe n1 j (hr2 c j hj)
 rw [Q0,Qw hj]at h1
 cases h1
 exact h2
theorem QDP (n1:Qj)(m:List (List (Int×Int)))(h:QY n1)(hm:QQ (QQ fun _=>True) m):Qf (Qh2 n1 m) fun r=>r=true→Q1 n1∧MOk n1 1024 m∧Low n1 m:=by
 unfold Qh2
 refine T0 (QC6 n1 h) fun x5 h5=>?_
 refine T0 (QC7 m hm.1) fun x6 _=>?_
 refine T1 (fun _=>T2 fun h=>by cases h) fun hc=>?_
 simp only [Qdb,Qjf,QW]at hc
 have h5:=h5 hc.1
 refine T0 (Qx1 n1 h).self fun x11 h11=>?_
 refine T0 (P:=fun r=>r=false→Q1 n1∧MOk n1 1024 m∧Low n1 m) ?_ fun x12 h12=>?_
 ·unfold QmL
  refine T1 (fun _=>T2 fun h=>by cases h) fun hc1=>?_
  simp only [bne_eq_false_iff_eq]at hc1
  refine T0 (QyN n1 m h hm) fun r hr=>T2 fun hrf=>⟨⟨h,h5.2.1,by omega,?_⟩,hr (by simpa using hrf)⟩
  obtain⟨a,b⟩:=x11
  simp only at hc1
  subst hc1
  exact QBf n1 h h11.1
 unfold QgY
 refine T1 (fun _=>T2 fun h=>by cases h) fun hx=>?_
 have hfin:=h12 hx
 refine T6 (P:=fun _=>True) ?_ fun _ _ _=>hfin
 refine T0 (Qf.up n1.Tasks.length (fun st=>st.2) (fun _=>True) (Q:=fun _=>True) rfl trivial (fun i st hi hn _=>?_)) (fun q _=>T3)
 obtain⟨a,x⟩:=st
 replace hi:x=(i:Int):=hi
 show Qf (QjO n1 a x) _
 unfold QjO
 refine T1 (fun hc=>?_) (fun _=>T2 (Ql trivial))
 simp only [QD]at hc
 refine T0 (T4 (by omega) (by omega)) fun e _=>?_
 refine T0 (QqO n1 x h) fun y _=>?_
 exact T2 (QC ⟨by omega,by subst hi;exact Qy (by omega) h.2.2.1.1,trivial⟩)
end Go.Proofs
noncomputable section
namespace Go.Proofs
open Go Go.RowKit Go.Vm
theorem QxJ (s:QaY)(m:Int)(h:0≤s.k∧s.k<s.sizes.length):Qf (Qdl s m) fun r=>r=true→0≤m:=by
 unfold Qdl
 refine T0 (P:=fun r=>r=true→0≤m) ?_ fun x hx=>T2 hx
 unfold Qgi
 refine T1 (fun hc=>?_) fun _=>T2 fun h=>by cases h
 exact T0 (T4 h.1 h.2) fun _ _=>T2 fun _=>by simpa using hc
theorem Qh6 (s:QaY)(h:0≤s.k∧s.k<s.all.length):Qf (Qc3 s) fun _=>True:=by
 unfold Qc3
 exact T0 (T4 h.1 h.2) fun _ _=>T3
theorem QCm (l:List QI)(k m:Int)(hl:QQ Qcj l):Qf (Qe3 l k m) fun _=>True:=by
 unfold Qe3
 refine T0 (QiX l k hl) fun x hx=>?_
 refine T0 (P:=fun r=>r=false→x.1=true) ?_ fun r hr=>?_
 ·unfold Qj0
  refine T1 (fun _=>T2 fun h=>by cases h) fun hc=>?_
  have hc:x.1=true:=by simpa using hc
  have h:=hx.2 hc
  exact T0 (QxJ x.2 m (by omega)) fun _ _=>T2 fun _=>hc
 unfold QeT
 refine T1 (fun _=>T3) fun hc=>?_
 have h:=hx.2 (hr hc)
 refine T0 (Qh6 x.2 (by omega)) fun _ _=>?_
 refine T1 (fun _=>?_) fun _=>T3
 exact T0 (Qh6 x.2 (by omega)) fun _ _=>T3
theorem QCn (l:List QI)(k n:Int)(hl:QQ Qcj l):Qf (Qe4 l k n) fun r=>r.2=true→0≤r.1:=by
 unfold Qe4
 refine T0 (QiX l k hl) fun x hx=>?_
 refine T1 (fun _=>T2 fun h=>by cases h) fun hc=>?_
 have h:=hx.2 (by simpa using hc)
 have k1:∀m,Qf (QcD x m) fun r=>r.2=true→0≤r.1:=fun m=>by
  unfold QcD
  refine T0 (QxJ x.2 m (by omega)) fun y hy=>?_
  exact T1 (fun _=>T2 fun h=>by cases h) fun hc=>T2 fun _=>hy (by simpa using hc)
 refine T0 (Qh6 x.2 (by omega)) fun _ _=>?_
 refine T1 (fun _=>?_) fun _=>k1 _
 exact T1 (fun _=>T2 fun h=>by cases h) fun _=>k1 _
theorem QBh (l:List QI)(k n:Int)(hl:QQ Qcj l):Qf (Qe4 l k n) fun r=>r.2=true→∃z,Qa6 l k=some z∧r.1<z:=by
 unfold Qe4 Qa6
 refine T0 (QiX l k hl).self fun x hx=>?_
 obtain⟨hxe,hx⟩:=hx
 refine T1 (fun _=>T2 fun h=>by cases h) fun hc=>?_
 have h:=hx.2 (by simpa using hc)
 have hk:k.toNat<x.2.sizes.length:=by omega
 have ei:idx x.2.sizes k=some x.2.sizes[k.toNat]:=Qt4 h.1.1 h.1.2
 have k1:∀m,Qf (QcD x m) fun r=>r.2=true→∃z,((QfO l k).bind fun x5=>bif (!x5.1)then some 0 else(idx x5.2.sizes k).bind fun e7=>some e7)=some z∧r.1<z:=fun m=>by
  unfold QcD
  refine T0 (P:=fun y=>y=true→m<x.2.sizes[k.toNat]) ?_ fun y hy=>?_
  ·unfold Qdl
   refine T0 (P:=fun y=>y=true→m<x.2.sizes[k.toNat]) ?_ fun y hy=>T2 hy
   unfold Qgi
   refine T1 (fun _=>?_) fun _=>T2 fun h=>by cases h
   rw [h.2.1,ei,Qn]
   exact T2 fun h=>by simpa using h
  refine T1 (fun _=>T2 fun h=>by cases h) fun hc2=>T2 fun _=>⟨x.2.sizes[k.toNat],?_,hy (by simpa using hc2)⟩
  rw [hxe,Qn,hc,cond_false,ei];rfl
 refine T0 (Qh6 x.2 (by omega)) fun _ _=>?_
 refine T1 (fun _=>?_) fun _=>k1 _
 exact T1 (fun _=>T2 fun h=>by cases h) fun _=>k1 _
theorem Qh7 {α:Type}{o:Option α}{P:α→Prop}(h:Qf o P){r:α}(e:o=some r):P r:=by
 obtain⟨r',h1,h2⟩:=h
 rw [e]at h1;cases h1;exact h2
theorem QyO : ∀(n:Nat) (v:List Int) (e:Qo),POk v.length e→SizeOf.sizeOf e≤n→Qf (QaG n v e) fun _=>True
 | 0,_,e,_,h=>absurd e.pos (by omega)
 | n+1,v,e,he,h=>by
  cases he with
  | mk _ hk h2 h3 h5 h6 hr=>
  unfold QaG Qk5
  have sub:∀(j:Nat) (hj:j<e.Kids.length),Qf (QaG n v (e.Kids[j])) fun _=>True:=fun j hj=>
   QyO n v _ (hr _ (Qav hj)) (by have:=Qt5 (Qav hj);omega)
  have kid:∀(j:Nat) (hj:j<e.Kids.length),idx e.Kids (j:Int)=some e.Kids[j]:=fun j hj=>by rw [Q0,Qw hj]
  rcases hk with hk | hk | hk | hk | hk | hk
  ·refine T0 (P:=fun x=>x=.inl v) (by unfold QcY;rw [hk];exact T2 rfl) fun x hx=>?_
   subst hx
   exact T3
  ·refine T0 (P:=fun x=>x=.inr (.inl v)) (by unfold QcY;rw [hk];exact T2 rfl) fun x hx=>?_
   subst hx
   show Qf (QgL e v) _
   unfold QgL Qjb
   have:=h2 hk
   exact T0 (T0 (T4 (by omega) (by omega)) fun _ _=>T3) fun _ _=>T3
  ·refine T0 (P:=fun x=>x=.inr (.inr (.inl v))) (by unfold QcY QcC;rw [hk];exact T2 rfl) fun x hx=>?_
   subst hx
   show Qf (Qdr (QaG n) e v) _
   unfold Qdr Qhq
   have hl:=h3 (.inl hk)
   refine T0 (P:=fun _=>True) ?_ fun _ _=>T3
   rw [show idx e.Kids 0=some (e.Kids[0]'(by omega))from kid 0 (by omega),Qn]
   refine T0 (sub 0 (by omega)) fun x _=>?_
   refine T1 (fun _=>T3) fun _=>T1 (fun _=>T0 (Qui _) fun _ _=>T3) fun _=>T0 (Qlv _ _ _) fun _ _=>T3
  ·refine T0 (P:=fun x=>x=.inr (.inr (.inl v))) (by unfold QcY QcC;rw [hk];exact T2 rfl) fun x hx=>?_
   subst hx
   show Qf (Qdr (QaG n) e v) _
   unfold Qdr Qhq
   have hl:=h3 (.inr hk)
   refine T0 (P:=fun _=>True) ?_ fun _ _=>T3
   rw [show idx e.Kids 0=some (e.Kids[0]'(by omega))from kid 0 (by omega),Qn]
   refine T0 (sub 0 (by omega)) fun x _=>?_
   refine T1 (fun _=>T3) fun _=>T1 (fun _=>T0 (Qui _) fun _ _=>T3) fun _=>T0 (Qlv _ _ _) fun _ _=>T3
  ·refine T0 (P:=fun x=>x=.inr (.inr (.inr (.inl v)))) (by unfold QcY QcC;rw [hk];exact T2 rfl) fun x hx=>?_
   subst hx
   show Qf (QgM (QaG n) e v) _
   unfold QgM Qm9
   have hl:=h5 hk
   refine T0 (P:=fun _=>True) ?_ fun _ _=>T3
   rw [show idx e.Kids 0=some (e.Kids[0]'(by omega))from kid 0 (by omega),Qn]
   refine T0 (sub 0 (by omega)) fun x _=>?_
   have k1:∀b,Qf (QdZ x e (QaG n) v b) fun _=>True:=fun b=>by
    unfold QdZ
    refine T1 (fun _=>T0 (Qlv _ _ _) fun _ _=>T3) fun _=>?_
    rw [show idx e.Kids 1=some (e.Kids[1]'(by omega))from kid 1 (by omega),Qn]
    refine T0 (sub 1 (by omega)) fun y _=>?_
    exact T1 (fun _=>T3) fun _=>T0 (Qlv _ _ _) fun _ _=>T3
   exact T1 (fun _=>T3) fun _=>T1 (fun _=>k1 _) fun _=>T1 (fun _=>k1 _) fun _=>k1 _
  refine T0 (P:=fun x=>x=.inr (.inr (.inr (.inr v)))) (by unfold QcY QcC;rw [hk];exact T2 rfl) fun x hx=>?_
  subst hx
  show Qf (QgN (QaG n) e v) _
  unfold QgN Qk4
  have hl:=h6 hk
  refine T0 (P:=fun _=>True) ?_ fun _ _=>T3
  rw [show idx e.Kids 0=some (e.Kids[0]'(by omega))from kid 0 (by omega),Qn]
  refine T0 (sub 0 (by omega)) fun x _=>?_
  refine T1 (fun _=>T3) fun _=>T1 (fun _=>?_) fun _=>?_
  ·rw [show idx e.Kids 1=some (e.Kids[1]'(by omega))from kid 1 (by omega),Qn]
   exact T0 (sub 1 (by omega)) fun y _=>T3
  rw [show idx e.Kids 2=some (e.Kids[2]'(by omega))from kid 2 (by omega),Qn]
  exact T0 (sub 2 (by omega)) fun y _=>T3
theorem QBi (e:Qo)(v:List Int)(h:Qds e):Qf (Qlh e v) fun _=>True:=by
 unfold Qlh
 refine T0 (Qni e v.length h) fun x hx=>?_
 refine T1 (fun _=>T3) fun hc=>?_
 unfold Qmx
 exact T0 (QyO _ v e (hx (by simpa using hc)) (QbZ _)) fun _ _=>T3
theorem QAc (n:Qj)(task:Int)(vars:List Int)(h:Q1 n):Qf (QfA n task vars) fun r=>r.2=0→0≤task∧task<n.Tasks.length:=by
 unfold QfA
 refine T1 (fun _=>T2 fun h=>by cases h) fun hc=>?_
 simp only [Qdb,QW]at hc
 refine T0 (T4 (by omega) (by omega)) fun e he=>?_
 have hv:=(h.tk e he).1
 have ke:=h.k.2.2.1.2 e he
 refine T1 (fun _=>T2 fun h=>by cases h) fun hl=>?_
 simp only [bne_eq_false_iff_eq]at hl
 refine T0 (T5 (by simp only [QG,QD];omega)) fun _ _=>?_
 refine T6 (P:=fun _=>True) ?_ fun _ _ _=>by omega
 refine T0 (Qf.up e.Vars.length (fun st=>st.1) (fun st=>st.2.length=e.Vars.length) (Q:=fun _=>True) rfl (by simp) (fun i st hi hn hJ=>?_)) (fun q _=>?_)
 ·obtain⟨x,l⟩:=st
  replace hi:x=(i:Int):=hi
  replace hJ:l.length=e.Vars.length:=hJ
  show Qf (QgF e vars n x l) _
  unfold QgF
  refine T1 (fun hc=>?_) (fun _=>T2 (Ql trivial))
  simp only [QD]at hc
  refine T0 (T4 (by omega) (by omega)) fun a _=>?_
  refine T0 (T4 (by omega) (by omega)) fun b _=>?_
  refine T0 (QCm _ _ _ h.k.1) fun c _=>?_
  refine T1 (fun _=>T2 (Ql trivial)) fun _=>?_
  refine T0 (T4 (by omega) (by omega)) fun d _=>?_
  exact T2 (QC ⟨by omega,by subst hi;exact Qy (by omega) (by unfold maxLen;omega:e.Vars.length≤maxLen),by simpa using hJ⟩)
 rcases q with q | q
 ·exact T3
 exact T3
theorem QrR {α:Type}{l:List α}{i:Nat}{x y:α}(h:y∈l.set i x):y=x∨y∈l:=by
 rcases List.mem_or_eq_of_mem_set h with h | h
 ·exact .inr h
 exact .inl h
theorem QpO (n:Qj)(l:List Qax)(which env:List Int)(h:Q1 n)(hl:QQ Qke l)(hw:which.length≤1000):Qf (Qd4 n l which env) fun r=>r.2=0→MOk n which.length r.1∧Low n r.1:=by
 unfold Qd4
 have hpl:=h.pl
 refine T0 (T5 (by simp only [QG,QD];omega)) fun _ _=>?_
 refine T0 (Qf.up which.length (fun st=>st.1) (fun st=>(st.2.length=n.Places.length∧∀b∈st.2,Rt b∧(b.length:Int)≤st.1)∧Low n st.2) (Q:=fun q=>(∀x,q=.inl x→x≠0)∧∀m,q=.inr m→MOk n which.length m∧Low n m) rfl ⟨⟨by simp,fun b hb=>?_⟩,fun j b p hb hp k hk=>?_⟩ (fun i st hi hn hJ=>?_)) (fun q hq=>?_)
 ·have:=QrX hb
  subst this
  exact⟨Rt.nil,by simp⟩
 ·have:=QrX (Qap hb)
  subst this
  simp [QP,QE]at hk
 ·obtain⟨x,m⟩:=st
  replace hi:x=(i:Int):=hi
  obtain⟨⟨hJ1,hJ2⟩,hJ3⟩:(m.length=n.Places.length∧∀b∈m,Rt b∧(b.length:Int)≤x)∧Low n m:=hJ
  have err:∀y:Int,y≠0→(∀s',(Sum.inr (Sum.inl y):(Int×List (List (Int×Int)))⊕(Int⊕List (List (Int×Int))))=.inl s'→i<which.length∧s'.1=((i+1:Nat):Int)∧(s'.2.length=n.Places.length∧∀b∈s'.2,Rt b∧(b.length:Int)≤s'.1)∧Low n s'.2)∧∀r,(Sum.inr (Sum.inl y):(Int×List (List (Int×Int)))⊕(Int⊕List (List (Int×Int))))=.inr r→(∀x,r=.inl x→x≠0)∧∀m,r=.inr m→MOk n which.length m∧Low n m:=
   fun y hy=>⟨fun s' e=>(by cases e),fun r e=>(by cases e;exact⟨fun x e=>(by cases e;exact hy),fun m e=>(by cases e)⟩)⟩
  show Qf (Qiq which l env n x m) _
  unfold Qiq
  refine T1 (fun hc=>?_) (fun hc=>T2 (Ql ⟨fun x e=>(by cases e),fun m' e=>?_⟩))
  ·simp only [QD]at hc
   refine T0 (T4 (by omega) (by omega)) fun e18 _=>?_
   refine T1 (fun _=>T2 (err _ (by decide))) fun hc1=>?_
   simp only [Qdb,QW]at hc1
   refine T0 (T4 (by omega) (by omega)) fun e22 h22=>?_
   refine T0 (QBi e22.Expr env (hl.2 e22 h22).2) fun x23 _=>?_
   refine T1 (fun hc2=>T2 (err _ (by simpa using hc2))) fun _=>?_
   refine T0 (T4 (by omega) (by omega)) fun e25 _=>?_
   refine T1 (fun _=>T2 (err _ (by decide))) fun hc3=>?_
   simp only [Qdb,QW]at hc3
   refine T0 (T4 (by omega) (by omega)).self fun e29 h29=>?_
   refine T0 (QCn _ _ _ h.k.1).self fun x30 h30=>?_
   refine T1 (fun _=>T2 (err _ (by decide))) fun hc4=>?_
   have hz:=Qh7 (QBh _ _ _ h.k.1) h30.1 (by simpa using hc4)
   have h30:=h30.2 (by simpa using hc4)
   refine T0 (T4 (by omega) (by omega)).self fun e32 h32e=>?_
   have h32:=h32e.2
   have h32e:=h32e.1
   have h29:=h29.1
   rw [QwL,QbW h30]
   simp only [cond_true,Qn]
   have hb:=hJ2 e32 h32
   have key:∃s,QbH e32 [(x30.1,1)]=some s∧(s.2=0→(Rt s.1∧s.1.length≤e32.length+1)∧∀k,QP s.1 k=QP e32 k+QP [(x30.1,1)] k):=by
    rcases Qkh e32 [(x30.1,1)] (by simp;omega)with⟨_,e⟩|⟨_,_,_,e⟩|⟨_,_,r,e,h1,hcn,h2⟩
    ·exact⟨_,e,fun h=>by cases h⟩
    ·exact⟨_,e,fun h=>by cases h⟩
    exact⟨_,e,fun _=>⟨⟨h1,by simpa using h2⟩,hcn⟩⟩
   obtain⟨s,es,hs⟩:=key
   rw [es,Qn]
   refine T0 (T4 (by omega) (by omega)) fun _ _=>?_
   refine T1 (fun hc5=>T2 (err _ (by simpa using hc5))) fun hc5=>?_
   obtain⟨hs,hcn⟩:=hs (by simpa using hc5)
   refine T2 (QC ⟨by omega,by subst hi;exact Qy (by omega) (by unfold maxLen;omega:which.length≤maxLen),⟨by simpa using hJ1,fun b hb'=>?_⟩,fun j b p hb' hp k hk=>?_⟩)
   ·subst hi
    show Rt b∧(b.length:Int)≤w64 ((i:Int)+1)
    rw [Qy (by omega) (by unfold maxLen;omega:which.length≤maxLen)]
    rcases QrR hb' with rfl | hb'
    ·exact⟨hs.1,by omega⟩
    have:=hJ2 b hb'
    exact⟨this.1,by omega⟩
   have hb':(m.set e25.Place.toNat s.1)[j]? = some b:=hb'
   by_cases cj:e25.Place.toNat=j
   ·subst cj
    rw [Qp4 (by omega)]at hb'
    cases hb'
    rw [QkU (by omega)]at h29 h32e
    rw [h29]at hp
    cases hp
    rw [hcn]at hk
    by_cases c0:0<QP e32 k
    ·exact hJ3 _ e32 e29 h32e h29 k c0
    have h9:0<QP [(x30.1,1)] k:=by omega
    have h8:x30.1=k:=by
     apply Decidable.byContradiction
     intro hne
     simp [QP,QE,hne]at h9
    obtain⟨z,hz1,hz2⟩:=hz
    exact⟨z,hz1,by omega⟩
   rw [Qos cj]at hb'
   exact hJ3 j b p hb' hp k hk
  cases e
  exact⟨⟨hJ1,fun b hb=>⟨(hJ2 b hb).1,by have:=(hJ2 b hb).2;omega⟩⟩,hJ3⟩
 rcases q with q | q
 ·exact T2 fun h=>absurd h (hq.1 q rfl)
 exact T2 fun _=>hq.2 q rfl
theorem QyP (a m:List (List (Int×Int)))(ha:QQ (QQ fun _=>True) a)(hm:QQ (QQ fun _=>True) m):Qf (QiR a m) fun _=>True:=by
 unfold QiR Qaz
 refine T0 (P:=fun _=>True) ?_ fun _ _=>T3
 refine T1 (fun _=>T3) fun hc=>?_
 simp only [bne_eq_false_iff_eq]at hc
 refine T0 (Qf.up a.length (fun st=>st) (fun _=>True) (Q:=fun _=>True) rfl trivial (fun i st hi hn hJ=>?_)) (fun q _=>?_)
 ·show Qf (Qad a m st) _
  unfold Qad
  refine T1 (fun hc=>?_) (fun _=>T2 (Ql trivial))
  simp only [QD]at hc
  refine T0 (T4 (by omega) (by omega)) fun x hx=>?_
  refine T0 (T4 (by omega) (by omega)) fun y hy=>?_
  refine T0 (P:=fun _=>True) (by obtain⟨r,hr,_⟩:=QwK x y (ha.2 x hx).1 (hm.2 y hy).1;exact⟨r,hr,trivial⟩) fun _ _=>?_
  exact T1 (fun _=>T2 (Ql trivial)) fun _=>T2 (QC ⟨by omega,by rw [hi];exact Qy (by omega) ha.1,trivial⟩)
 rcases q with q | q
 ·exact T3
 exact T3
theorem MOk.len {n:Qj}{c:Nat}{m:List (List (Int×Int))}(h:MOk n c m)(hn:Q1 n)(hc:c≤1000000):QQ (QQ fun _=>True) m:=
 ⟨by have:=h.1;have:=hn.pl;unfold maxLen;omega,fun b hb=>⟨by have:=(h.2 b hb).2;unfold maxLen;omega,fun _ _=>trivial⟩⟩
end Go.Proofs
