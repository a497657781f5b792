/- A part of the proof; what it holds is told at each theorem. -/
import Derived.Test.YtbfgchciebcbpaaGreatDoorM2XPlA
import Derived.Test.YtbfgchciebcbpaaGreatDoorM2V3
import Derived.Test.YtbfgchciebcbpaaGreatDoorM2T2
import Derived.KernelRfl
set_option linter.unusedVariables false
set_option linter.unusedSimpArgs false
set_option linter.unusedSectionVars false
set_option linter.deprecated false
namespace Go.Vm
open Go Go.RowKit
def Qi {α:Type}(o:Option α)(Q:α→Prop):Prop:=∃r,o=some r∧Q r
section
variable {α β σ ρ:Type}
theorem Qi.ok {a:α}{Q:α→Prop}(h:Q a):Qi (some a) Q:=⟨a,rfl,h⟩
theorem Qi.okT {a:α}:Qi (some a) fun _=>True:=⟨a,rfl,trivial⟩
theorem Qi.bind {o:Option α}{f:α→Option β}{P:α→Prop}{Q:β→Prop}(h:Qi o P)(k:∀x,P x→Qi (f x) Q):Qi (o.bind f) Q:=by
 obtain⟨x,rfl,hx⟩:=h
 exact k x hx
theorem Qi.bif {c:Bool}{a b:Option α}{Q:α→Prop}(h1:c=true→Qi a Q)(h2:c=false→Qi b Q):Qi (bif c then a else b) Q:=by
 cases c with
 | true=>exact h1 rfl
 | false=>exact h2 rfl
theorem Qi.chk {c:Bool}(h:c=true):Qi (chk c) fun _=>True:=⟨(),Qup h,trivial⟩
theorem Qi.idx {l:List α}{j:Int}(h0:0≤j)(h1:j<l.length):Qi (idx l j) fun x=>x∈l:=by
 rw [Qh7 h0 h1]
 exact⟨_,rfl,Qjo _⟩
theorem Qi.get {l:List α}{j:Nat}(h1:j<l.length):Qi (l[j]?) fun x=>x∈l:=by
 rw [QH h1]
 exact⟨_,rfl,Qjo _⟩
theorem Qi.sidx {s:ByteArray}{j:Int}(h0:0≤j)(h1:j<s.size):Qi (sidx s j) fun _=>True:=by
 unfold Vm.sidx
 rw [if_pos h0]
 have:j.toNat<s.size:=by omega
 rw [getElem?_pos s j.toNat this]
 exact⟨_,rfl,trivial⟩
theorem Qi.mono {o:Option α}{P Q:α→Prop}(h:Qi o P)(k:∀x,P x→Q x):Qi o Q:=let ⟨r,h1,h2⟩:=h;⟨r,h1,k r h2⟩
theorem Qi.tot {o:Option α}{P:α→Prop}(h:Qi o P):∃r,o=some r:=let ⟨r,h1,_⟩:=h;⟨r,h1⟩
theorem Qi.self {o:Option α}{P:α→Prop}(h:Qi o P):Qi o fun x=>o=some x∧P x:=let ⟨r,h1,h2⟩:=h;⟨r,h1,h1,h2⟩
theorem Qi.up {body:σ→Option (σ⊕ρ)}(n:Nat)(ix:σ→Int)(J:σ→Prop){Q:ρ→Prop}{s0:σ}(h0:ix s0=0)(hJ:J s0)
  (step:∀(i:Nat) s,ix s=(i:Int)→i≤n→J s→Qi (body s) fun o=>(∀s',o=.inl s'→i<n∧ix s'=((i+1:Nat):Int)∧J s')∧∀r,o=.inr r→Q r):Qi (Qt body s0) Q:=by
 have key:∀k i s,i+k=n→ix s=(i:Int)→J s→∃r,Qt body s=some r∧Q r:=by
  intro k
  induction k with
  | zero=>
   intro i s hk hi hj
   obtain⟨o,ho,h1,h2⟩:=step i s hi (by omega) hj
   rw [QbO,ho]
   cases o with
   | inl s'=>have:=(h1 s' rfl).1;omega
   | inr r=>exact⟨r,rfl,h2 r rfl⟩
  | succ k ih=>
   intro i s hk hi hj
   obtain⟨o,ho,h1,h2⟩:=step i s hi (by omega) hj
   rw [QbO,ho]
   cases o with
   | inl s'=>
    obtain⟨_,h3,h4⟩:=h1 s' rfl
    exact ih (i+1) s' (by omega) h3 h4
   | inr r=>exact⟨r,rfl,h2 r rfl⟩
 exact key n 0 s0 (by omega) h0 hJ
theorem QE {s:σ}{n i:Nat}{ix:σ→Int}{J:σ→Prop}{Q:ρ→Prop}(h:i<n∧ix s=((i+1:Nat):Int)∧J s):
  (∀s',(Sum.inl s:σ⊕ρ)=.inl s'→i<n∧ix s'=((i+1:Nat):Int)∧J s')∧∀r,(Sum.inl s:σ⊕ρ)=.inr r→Q r:=
 ⟨fun s' e=>(by cases e;exact h),fun r e=>(by cases e)⟩
theorem Qs {r:ρ}{n i:Nat}{ix:σ→Int}{J:σ→Prop}{Q:ρ→Prop}(h:Q r):
  (∀s',(Sum.inr r:σ⊕ρ)=.inl s'→i<n∧ix s'=((i+1:Nat):Int)∧J s')∧∀r',(Sum.inr r:σ⊕ρ)=.inr r'→Q r':=
 ⟨fun s' e=>(by cases e),fun r' e=>(by cases e;exact h)⟩
end
def QQ {α:Type}(ok:α→Prop)(l:List α):Prop:=l.length≤maxLen∧∀x∈l,ok x
theorem QQ.drop {α:Type}{ok:α→Prop}{l:List α}(h:QQ ok l)(k:Nat):QQ ok (l.drop k):=⟨by have:=h.1;rw [QkX];omega,fun x hx=>h.2 x (QqQ hx)⟩
theorem QQ.take {α:Type}{ok:α→Prop}{l:List α}(h:QQ ok l)(k:Nat):QQ ok (l.take k):=⟨by have:=h.1;rw [Qf9];omega,fun x hx=>h.2 x (Qjp hx)⟩
theorem QQ.nil {α:Type}{ok:α→Prop}:QQ ok ([]:List α):=⟨by simp,fun x h=>by cases h⟩
theorem QQ.app {α:Type}{ok:α→Prop}{l m:List α}(h:QQ ok l)(hm:QQ ok m)(hs:l.length+m.length≤maxLen):QQ ok (l++m):=⟨by simpa using hs,fun x hx=>by rcases Qkb.1 hx with h1 | h1;exact h.2 x h1;exact hm.2 x h1⟩
def QeO (s:ByteArray):Prop:=s.size≤maxLen
theorem QwE {s:ByteArray}(h:Qgc s (⟨#[]⟩:ByteArray)=false):0<s.size:=by
 apply Nat.pos_of_ne_zero
 intro h0
 have:s=⟨#[]⟩:=by
  obtain⟨a⟩:=s
  have:a=#[]:=Array.eq_empty_of_size_eq_zero h0
  rw [this]
 subst this
 simp [Qgc]at h
theorem QiR {a b:Int}:0≤min2 a b↔0≤a∧0≤b:=by unfold min2;split<;>omega
theorem Qj8 {a b n:Int}:max2 a b<n↔a<n∧b<n:=by unfold max2;split<;>omega
theorem QiS {a b n:Int}:max2 a b≤n↔a≤n∧b≤n:=by unfold max2;split<;>omega
abbrev T0:=@Qi.bind
abbrev T1:=@Qi.bif
abbrev T2:=@Qi.ok
abbrev T3:=@Qi.okT
abbrev T4:=@Qi.idx
abbrev T5:=@Qi.chk
abbrev T6:=@Qi.mono
end Go.Vm
namespace Go.Vm
open Go Go.RowKit
def Asc (l:List (Int×Int)):Prop:=l.Pairwise fun p q=>p.1<q.1
theorem Qfq {p:Int×Int}{l:List (Int×Int)}:Asc (p::l)↔(∀q∈l,p.1<q.1)∧Asc l:=QqR
theorem Quq {l:List (Int×Int)}{k:Int}:Qa3 l k=none↔∀p∈l,p.1≠k:=by
 induction l with
 | nil=>simp [Qa3]
 | cons p l ih=>
  obtain⟨a,x⟩:=p
  rw [Q4]
  by_cases h:a=k
  ·simp [h]
  simp [h,ih]
theorem QxL {l m:List (Int×Int)}(hl:Asc l)(hm:Asc m)(h:∀k,Qa3 l k=Qa3 m k):l=m:=by
 induction l generalizing m with
 | nil=>
  cases m with
  | nil=>rfl
  | cons p m=>have:=h p.1;rw [Q4 (κ:=Int)]at this;simp [Qa3]at this
 | cons p l ih=>
  obtain⟨a,x⟩:=p
  cases m with
  | nil=>have:=h a;rw [Q4]at this;simp [Qa3]at this
  | cons q m=>
   obtain⟨b,y⟩:=q
   obtain⟨l1,l2⟩:=Qfq.1 hl
   obtain⟨m1,m2⟩:=Qfq.1 hm
   have hab:a=b:=by
    rcases Int.lt_trichotomy a b with hc | hc | hc
    ·have e:=h a
     rw [Q4,Q4,if_pos rfl,if_neg (by omega),Quq.2 (fun p hp=>by have:=m1 p hp;simp at this;omega)]at e
     cases e
    ·exact hc
    have e:=h b
    rw [Q4,Q4,if_neg (by omega),if_pos rfl,Quq.2 (fun p hp=>by have:=l1 p hp;simp at this;omega)]at e
    cases e
   subst hab
   have e:=h a
   rw [Q4,Q4,if_pos rfl,if_pos rfl]at e
   cases e
   rw [ih l2 m2 fun k=>?_]
   by_cases hk:a=k
   ·subst hk
    rw [Quq.2 (fun p hp=>by have:=l1 p hp;simp at this;omega),Quq.2 (fun p hp=>by have:=m1 p hp;simp at this;omega)]
   have:=h k
   rwa [Q4,Q4,if_neg hk,if_neg hk]at this
theorem Qym {l:List (Int×Int)}{k v:Int}{p:Int×Int}(h:p∈QgZ l k v):∃q∈l,q.1=p.1:=by
 induction l with
 | nil=>cases h
 | cons q l ih=>
  obtain⟨a,x⟩:=q
  rw [QgZ]at h
  split at h
  ·rename_i e
   rcases Qa0.1 h with rfl | h
   ·exact⟨_,Qa1,e⟩
   exact⟨p,QbI _ h,rfl⟩
  rcases Qa0.1 h with rfl | h
  ·exact⟨_,Qa1,rfl⟩
  obtain⟨q,h1,h2⟩:=ih h
  exact⟨q,QbI _ h1,h2⟩
theorem Qxk {lt:Int→Int→Bool}{l:List (Int×Int)}{k v:Int}{p:Int×Int}(h:p∈QkF lt l k v):p=(k,v)∨p∈l:=by
 induction l with
 | nil=>simp [QkF]at h;exact .inl h
 | cons q l ih=>
  obtain⟨a,x⟩:=q
  rw [QkF]at h
  split at h
  ·rcases Qa0.1 h with h | h
   ·exact .inl h
   exact .inr h
  rcases Qa0.1 h with h | h
  ·exact .inr (h▸Qa1)
  rcases ih h with h | h
  ·exact .inl h
  exact .inr (QbI _ h)
theorem Qxl {l:List (Int×Int)}(h:Asc l)(k v:Int):Asc (Qb4 ltI l k v):=by
 unfold Qb4
 split
 ·rename_i x hx
  clear hx
  induction l with
  | nil=>exact h
  | cons p l ih=>
   obtain⟨a,x⟩:=p
   obtain⟨h1,h2⟩:=Qfq.1 h
   rw [QgZ]
   split
   ·rename_i e;subst e;exact Qfq.2 ⟨h1,h2⟩
   refine Qfq.2 ⟨fun q hq=>?_,ih h2⟩
   obtain⟨q',hq',e⟩:=Qym hq
   rw [←e];exact h1 _ hq'
 rename_i hn
 induction l with
 | nil=>exact List.pairwise_singleton _ _
 | cons p l ih=>
  obtain⟨a,x⟩:=p
  obtain⟨h1,h2⟩:=Qfq.1 h
  rw [Q4]at hn
  split at hn
  ·cases hn
  rename_i hne
  rw [QkF]
  split
  ·rename_i e
   have e:k<a:=Qag e
   refine Qfq.2 ⟨fun q hq=>?_,h⟩
   rcases Qa0.1 hq with rfl | hq
   ·exact e
   have:=h1 q hq;simp at this ⊢;omega
  rename_i e
  have e:¬k<a:=fun c=>e (QZ c)
  refine Qfq.2 ⟨fun q hq=>?_,ih h2 hn⟩
  rcases Qxk hq with rfl | hq
  ·show a<k;omega
  exact h1 q hq
theorem Qxm {l:List (Int×Int)}{k v:Int}(h:Asc (l++[(k,v)])):Qb4 ltI l k v=l++[(k,v)]:=by
 have hl:Asc l:=(List.pairwise_append.1 h).1
 refine QxL (Qxl hl k v) h fun j=>?_
 rw [QwC]
 have hk:∀p∈l,p.1<k:=fun p hp=>(List.pairwise_append.1 h).2.2 p hp (k,v) (by simp)
 clear h
 induction l with
 | nil=>
  show(if j=k then some v else none)=(if k=j then some v else none)
  by_cases c:j=k
  ·rw [if_pos c,if_pos c.symm]
  rw [if_neg c,if_neg (fun e=>c e.symm)]
 | cons p l ih=>
  obtain⟨a,x⟩:=p
  have h1:=hk (a,x) Qa1
  simp only at h1
  rw [List.cons_append,Q4,Q4]
  rw [←ih (Qfq.1 hl).2 fun p hp=>hk p (QbI _ hp)]
  by_cases c:j=k
  ·subst c;rw [if_pos rfl,if_pos rfl,if_neg (by omega)]
  rw [if_neg c,if_neg c]
section
variable {ρ:Type}{g:Int→Int→Int}{stop:Int→Bool}{q:Option ρ}{body:List (Int×Int)→Int×Int→Option (List (Int×Int)⊕ρ)}
end
def rtF (a:Int):List (Int×Int)→Bool
 | []=>true
 | p::r=>!(decide (p.1≤a)||(decide (p.2<1)||decide (1048576<p.2)))&&rtF p.1 r
theorem QxM {a:Int}{l:List (Int×Int)}:rtF a l=true↔Asc l∧∀p∈l,a<p.1∧1≤p.2∧p.2≤1048576:=by
 induction l generalizing a with
 | nil=>simp [rtF,Asc]
 | cons p l ih=>
  rw [rtF,Qw,ih,Qfq]
  simp only [Qd0,QdF,Qbc]
  constructor
  ·rintro ⟨⟨h1,h2,h3⟩,h4,h5⟩
   refine⟨⟨fun q hq=>(h5 q hq).1,h4⟩,fun q hq=>?_⟩
   rcases Qa0.1 hq with rfl | hq
   ·omega
   have:=h5 q hq;omega
  rintro ⟨⟨h1,h2⟩,h3⟩
  have:=h3 p Qa1
  exact⟨by omega,h2,fun q hq=>⟨h1 q hq,(h3 q (QbI _ hq)).2⟩⟩
def Rt (l:List (Int×Int)):Prop:=Asc l∧∀p∈l,0≤p.1∧1≤p.2∧p.2≤1048576
theorem Qyn {l:List (Int×Int)}:rtF (-1) l=true↔Rt l:=by
 rw [QxM]
 constructor
 ·rintro ⟨h1,h2⟩;exact⟨h1,fun p hp=>by have:=h2 p hp;omega⟩
 rintro ⟨h1,h2⟩;exact⟨h1,fun p hp=>by have:=h2 p hp;omega⟩
theorem Rt.nil : Rt []:=⟨List.Pairwise.nil,fun p h=>by cases h⟩
end Go.Vm
noncomputable section
namespace Go.Proofs
open Go Go.RowKit Go.Vm
inductive QcK : Qk→Prop where
 | mk (e:Qk):e.Kids.length≤maxLen→(∀k∈e.Kids,QcK k)→QcK e
theorem QdE {e:Qk}(h:QcK e):QQ QcK e.Kids:=by
 cases h with
 | mk _ h1 h2=>exact⟨h1,h2⟩
theorem QsT {e k:Qk}(h:k∈e.Kids):SizeOf.sizeOf k<SizeOf.sizeOf e:=by
 obtain⟨a,b,l⟩:=e
 have:=List.sizeOf_lt_of_mem h
 simp only [Qk.mk.sizeOf_spec]at *
 omega
theorem Qk.pos (e:Qk):0<SizeOf.sizeOf e:=by
 obtain⟨a,b,l⟩:=e
 simp only [Qk.mk.sizeOf_spec];omega
inductive POk (v:Int):Qk→Prop where
 | mk (e:Qk):(e.Kind=1∨e.Kind=2∨e.Kind=3∨e.Kind=4∨e.Kind=5∨e.Kind=6)→(e.Kind=2→0≤e.Num∧e.Num<v)→(e.Kind=3∨e.Kind=4→e.Kids.length=1)→(e.Kind=5→e.Kids.length=2)→(e.Kind=6→e.Kids.length=3)→(∀k∈e.Kids,POk v k)→POk v e
def QcO (x:QM):Prop:=QeO x.Name∧True∧True∧True∧(QQ QeO) x.Names∧True∧True
def QbP (x:QG):Prop:=QeO x.Name∧True∧(QQ (fun _=>True)) x.First
def Qda (x:Qae):Prop:=QeO x.Name∧True
def Qjk (x:QT):Prop:=True∧QcK x.Expr
def Qad (x:Qv):Prop:=QeO x.Name∧(QQ Qda) x.Vars∧QcK x.Guard∧True∧True∧(QQ Qjk) x.Ins∧(QQ Qjk) x.Outs∧(QQ (fun _=>True)) x.Cancel∧True∧True
def QF (x:Qm):Prop:=(QQ QcO) x.Colours∧(QQ QbP) x.Places∧(QQ Qad) x.Tasks∧True∧True
def Qub (x:Qdl):Prop:=(QQ QcO) x.all∧(QQ (fun _=>True)) x.sizes∧True
theorem QsU (v1:Qm)(h_v1:QF v1):Qi (Qju v1) fun r=>True:=by
 unfold Qju
 exact T3
theorem Qbz (l1:(List QG))(k2:Int)(h_l1:(QQ QbP) l1):Qi (Qak l1 k2) fun r=>r=true→0≤k2∧k2<l1.length:=by
 unfold Qak
 exact T2 (by first | (intro hr;first | (cases hr;done) | omega | ((try simp only [Qw,Qcn,QdF,Qd0,Qjm,QS,Qbc,beq_iff_eq,bne_iff_ne,ne_eq,Qma,QnC,Qib,QkZ,QkY,QkX,Qf9,Qic,QiR,Qj8,QiS]at *);omega)) | ((try simp only [Qw,Qcn,QdF,Qd0,Qjm,QS,Qbc,beq_iff_eq,bne_iff_ne,ne_eq,Qma,QnC,Qib,QkZ,QkY,QkX,Qf9,Qic,QiR,Qj8,QiS]at *);omega) | simp_all)
theorem QsV (v1:Qm)(h_v1:QF v1):Qi (Qjv v1) fun r=>True:=by
 unfold Qjv
 refine T0 (P:=fun _=>True) ?_ (fun x_1 hv2=>?_)
 ·unfold QmX
  refine T0 (Qbz v1.Places v1.From (h_v1.2.1)) (fun x_3 hv4=>?_)
  refine T1 (fun hc5=>?_) (fun hc5=>?_)
  ·refine T0 (Qbz v1.Places v1.To (h_v1.2.1)) (fun x_6 hv7=>?_)
   exact T3
  exact T3
 unfold Qgi
 exact T3
theorem QsW (v1:Qm)(h_v1:QF v1):Qi (Qjw v1) fun r=>True:=by
 unfold Qjw
 exact T3
theorem QsX (v1:Qm)(v2:Int)(v3:Int)(v4:Int)(h_v1:QF v1):Qi (Qjx v1 v2 v3 v4) fun r=>True:=by
 unfold Qjx
 refine T0 (QsU v1 (h_v1)) (fun x_1 hv2=>?_)
 refine T1 (fun hc3=>?_) (fun hc3=>?_)
 ·exact T3
 refine T0 (QsV v1 (h_v1)) (fun x_4 hv5=>?_)
 refine T1 (fun hc6=>?_) (fun hc6=>?_)
 ·exact T3
 refine T0 (QsW v1 (h_v1)) (fun x_7 hv8=>?_)
 refine T1 (fun hc9=>?_) (fun hc9=>?_)
 ·exact T3
 exact T3
theorem QsY (lo1:Int)(hi2:Int)  : Qi (Qjy lo1 hi2) fun r=>True:=by
 unfold Qjy
 refine T1 (fun hc1=>?_) (fun hc1=>?_)
 ·exact T3
 exact T3
theorem Ql7 (c1:Int)  : Qi (QdK c1) fun r=>True:=by
 unfold QdK
 exact T3
theorem Qkv (s1:ByteArray)(h_s1:QeO s1):Qi (QeW s1) fun r=>True:=by
 unfold QeW
 refine T0 (P:=fun _=>True) ?_ (fun x_1 hv2=>?_)
 ·unfold QmY
  refine T1 (fun hc3=>?_) (fun hc3=>?_)
  ·exact T3
  have hshc3:=QwE hc3
  refine T1 (fun hc4=>?_) (fun hc4=>?_)
  ·exact T3
  refine T0 (Qi.sidx (by omega) (by omega)) (fun c_5 hv6=>?_)
  refine T0 (Ql7 c_5 ) (fun x_7 hv8=>?_)
  exact T3
 unfold Qgn
 refine T1 (fun hc9=>?_) (fun hc9=>?_)
 ·exact T3
 refine T0 (Qi.up (s1.size) (fun st=>st) (fun _=>True) (Q:=fun q=>True) rfl trivial (fun i11 st hi12 hn13 hj14=>?_)) (fun q15 hq16=>?_)
 ·obtain⟨x_10,hst⟩:∃y,y=st:=⟨_,rfl⟩
  subst hst
  replace hi12:x_10=(i11:Int):=hi12
  show Qi (Qgk s1 x_10) _
  unfold Qgk
  refine T1 (fun hc17=>?_) (fun hc17=>?_)
  ·refine T0 (Qi.sidx (by omega) (by simp_all)) (fun c_18 hv19=>?_)
   refine T0 (P:=fun _=>True) ?_ (fun x_20 hv21=>?_)
   ·unfold QmZ
    refine T0 (Ql7 c_18 ) (fun x_22 hv23=>?_)
    refine T1 (fun hc24=>?_) (fun hc24=>?_)
    ·refine T1 (fun hc25=>?_) (fun hc25=>?_)
     ·exact T3
     refine T1 (fun hc26=>?_) (fun hc26=>?_)
     ·exact T3
     exact T3
    exact T3
   unfold Qgj
   refine T1 (fun hc27=>?_) (fun hc27=>?_)
   ·exact T2 (Qs trivial)
   exact T2 (QE ⟨(by simp_all),by subst hi12;exact Qx (by simp_all) h_s1,trivial⟩)
  exact T2 (Qs trivial)
 rcases q15 with q15 | q15
 ·show Qi (Qgl) _
  unfold Qgl
  exact T3
 show Qi (Qgm) _
 unfold Qgm
 exact T3
theorem Qr8 (l1:(List ByteArray))(h_l1:(QQ QeO) l1):Qi (QiC l1) fun r=>True:=by
 unfold QiC
 refine T0 (Qi.up (l1.length) (fun st=>st.1) (fun _=>True) (Q:=fun q=>True) rfl trivial (fun i3 st hi4 hn5 hj6=>?_)) (fun q7 hq8=>?_)
 ·obtain⟨x_1,m_2⟩:=st
  replace hi4:x_1=(i3:Int):=hi4
  show Qi (QfE l1 x_1 m_2) _
  unfold QfE
  refine T1 (fun hc9=>?_) (fun hc9=>?_)
  ·refine T0 (T4 (by omega) (by simp_all)) (fun e_10 hv11=>?_)
   refine T0 (P:=fun _=>True) ?_ (fun x_12 hv13=>?_)
   ·unfold QlZ
    refine T0 (Qkv e_10 (((h_l1).2 e_10 hv11))) (fun x_14 hv15=>?_)
    refine T1 (fun hc16=>?_) (fun hc16=>?_)
    ·exact T3
    exact T3
   unfold QfD
   refine T1 (fun hc17=>?_) (fun hc17=>?_)
   ·exact T2 (Qs trivial)
   exact T2 (QE ⟨(by simp_all),by subst hi4;exact Qx (by simp_all) (h_l1).1,trivial⟩)
  exact T2 (Qs trivial)
 rcases q7 with q7 | q7
 ·show Qi (QfF) _
  unfold QfF
  exact T3
 show Qi (QfG) _
 unfold QfG
 exact T3
theorem QsZ (c1:QM)(ahead2:(List Int))(h_c1:QcO c1)(h_ahead2:(QQ (fun _=>True)) ahead2):Qi (Qjz c1 ahead2) fun r=>True:=by
 unfold Qjz
 refine T1 (fun hc1=>?_) (fun hc1=>?_)
 ·refine T0 (QsY c1.Lo c1.Hi ) (fun x_2 hv3=>?_)
  exact T3
 refine T1 (fun hc4=>?_) (fun hc4=>?_)
 ·refine T0 (Qr8 c1.Names (h_c1.2.2.2.2.1)) (fun x_5 hv6=>?_)
  refine T1 (fun hc7=>?_) (fun hc7=>?_)
  ·exact T3
  unfold Qb8
  exact T3
 refine T1 (fun hc8=>?_) (fun hc8=>?_)
 ·refine T1 (fun hc9=>?_) (fun hc9=>?_)
  ·refine T0 (T4 (by(try simp only [Qw,Qcn,QdF,Qd0,Qjm,QS,Qbc,beq_iff_eq,bne_iff_ne,ne_eq,Qma,QnC,Qib,QkZ,QkY,QkX,Qf9,Qic,QiR,Qj8,QiS]at *);omega) (by(try simp only [Qw,Qcn,QdF,Qd0,Qjm,QS,Qbc,beq_iff_eq,bne_iff_ne,ne_eq,Qma,QnC,Qib,QkZ,QkY,QkX,Qf9,Qic,QiR,Qj8,QiS]at *);omega)) (fun e_10 hv11=>?_)
   refine T0 (T4 (by(try simp only [Qw,Qcn,QdF,Qd0,Qjm,QS,Qbc,beq_iff_eq,bne_iff_ne,ne_eq,Qma,QnC,Qib,QkZ,QkY,QkX,Qf9,Qic,QiR,Qj8,QiS]at *);omega) (by(try simp only [Qw,Qcn,QdF,Qd0,Qjm,QS,Qbc,beq_iff_eq,bne_iff_ne,ne_eq,Qma,QnC,Qib,QkZ,QkY,QkX,Qf9,Qic,QiR,Qj8,QiS]at *);omega)) (fun e_12 hv13=>?_)
   exact T3
  unfold Qb8
  exact T3
 unfold Qb8
 exact T3
theorem Qnl (l1:(List QM))(h_l1:(QQ QcO) l1):Qi (QfU l1) fun r=>((QQ (fun _=>True)) r.1∧True)∧(r.2=true→r.1.length=l1.length∧∀x∈r.1,1≤x∧x≤1024):=by
 unfold QfU
 refine T1 (fun hc=>T2 ⟨⟨QQ.nil,trivial⟩,fun h=>by cases h⟩) (fun hc=>?_)
 have hl:l1.length≤32:=by simp only [Qbc]at hc;omega
 refine T0 (Qi.up l1.length (fun st=>st.1) (fun st=>(st.2.2.length:Int)=st.1∧∀x∈st.2.2,1≤x∧x≤1024) (Q:=fun q=>∀l,q=.inr l→l.length=l1.length∧∀x∈l,1≤x∧x≤1024) rfl ⟨rfl,fun x h=>(by cases h)⟩ (fun i st hi hn hj=>?_)) (fun q hq=>?_)
 ·obtain⟨x,m,l⟩:=st
  replace hi:x=(i:Int):=hi
  replace hj:(l.length:Int)=x∧∀x∈l,1≤x∧x≤1024:=hj
  obtain⟨hj,hj2⟩:=hj
  show Qi (QfI l1 x m l) _
  unfold QfI
  refine T1 (fun hc2=>?_) (fun hc2=>?_)
  ·simp only [QS]at hc2
   refine T0 (T4 (by omega) (by omega)) fun e he=>?_
   refine T0 (QsZ e l (h_l1.2 e he) ⟨by unfold maxLen;omega,fun _ _=>trivial⟩) fun y _=>?_
   refine T0 (P:=fun z=>z=false→1≤y∧y≤1024) ?_ fun z hz=>?_
   ·unfold Ql0
    refine T0 (Qkv e.Name (h_l1.2 e he).1) fun z _=>?_
    refine T1 (fun _=>T2 (fun h=>by cases h)) fun _=>T1 (fun _=>T2 (fun h=>by cases h)) fun _=>T1 (fun _=>T2 (fun h=>by cases h)) fun h1=>T2 fun h2=>?_
    simp only [Qbc]at h1 h2
    omega
   unfold QfH
   refine T1 (fun _=>T2 (Qs fun l h=>by cases h)) fun hz0=>?_
   refine T0 (T5 (by simp;omega)) fun _ _=>?_
   exact T2 (QE ⟨by omega,by subst hi;exact Qx (by omega) (by unfold maxLen;omega:l1.length≤maxLen),by simp only [Qib,QkZ];subst hi;rw [Qx (show i<l1.length by omega) (by unfold maxLen;omega)];omega,fun u hu=>by
    rcases Qkb.1 hu with hu | hu
    ·exact hj2 u hu
    simp at hu;subst hu;exact hz hz0⟩)
  simp only [Qbc]at hc2
  exact T2 (Qs fun l' h=>by cases h;exact⟨by omega,hj2⟩)
 rcases q with q | q
 ·exact T2 ⟨⟨QQ.nil,trivial⟩,fun h=>by cases h⟩
 have:=hq q rfl
 exact T2 ⟨⟨⟨by show q.length≤maxLen;unfold maxLen;omega,fun _ _=>trivial⟩,trivial⟩,fun _=>this⟩
theorem Qr9 (l1:(List QM))(h_l1:(QQ QcO) l1):Qi (QiD l1) fun r=>True:=by
 unfold QiD
 refine T0 (Qnl l1 (h_l1)) (fun x_1 hv2=>?_)
 exact T3
theorem QoJ (v1:Qm)(v2:Int)(h_v1:QF v1)(hp0:0≤v2)(hp1:v2<v1.Colours.length):Qi (QeF v1 v2) fun r=>True:=by
 have hl:=h_v1.1.1
 unfold maxLen at hl
 unfold QeF
 rw [Qaf (show -9223372036854775808≤v2+1∧v2+1≤9223372036854775807 by omega)]
 refine T0 (T5 (by simp only [Qw,QS];omega)) fun _ _=>?_
 exact T0 (Qr9 _ ((h_v1.1.drop _).take _)) fun x _=>T3
def Qs0 : List ByteArray:=(QgN).getD []
set_option maxRecDepth 100000 in
theorem Qxn : QgN=some Qs0:=by kernel_rfl
set_option maxRecDepth 100000 in
theorem Qvj : (decide (Qs0.length≤1000)&&Qs0.all fun s=>decide (s.size≤1000))=true:=by kernel_rfl
theorem Qs1 : Qi (QgN) fun r=>QQ QeO r:=by
 have h:=Qvj
 rw [Qw,decide_eq_true_iff,QV]at h
 refine⟨Qs0,Qxn,by unfold maxLen;omega,fun x hx=>?_⟩
 have:=h.2 x hx
 rw [decide_eq_true_iff]at this
 unfold QeO maxLen;omega
theorem Qkw (s1:(List ByteArray))(v2:ByteArray)(h_s1:(QQ QeO) s1)(h_v2:QeO v2):Qi (QbN s1 v2) fun r=>True:=by
 unfold QbN
 refine T0 (Qi.up (s1.length) (fun st=>st) (fun _=>True) (Q:=fun q=>True) rfl trivial (fun i2 st hi3 hn4 hj5=>?_)) (fun q6 hq7=>?_)
 ·obtain⟨x_1,hst⟩:∃y,y=st:=⟨_,rfl⟩
  subst hst
  replace hi3:x_1=(i2:Int):=hi3
  show Qi (Qbq s1 v2 x_1) _
  unfold Qbq
  refine T1 (fun hc8=>?_) (fun hc8=>?_)
  ·refine T0 (T4 (by omega) (by simp_all)) (fun e_9 hv10=>?_)
   refine T1 (fun hc11=>?_) (fun hc11=>?_)
   ·exact T2 (Qs trivial)
   exact T2 (QE ⟨(by simp_all),by subst hi3;exact Qx (by simp_all) (h_s1).1,trivial⟩)
  exact T2 (Qs trivial)
 rcases q6 with q6 | q6
 ·show Qi (Qbr q6) _
  unfold Qbr
  exact T3
 show Qi (Qbs) _
 unfold Qbs
 exact T3
theorem Qjl (s1:(List ByteArray))(v2:ByteArray)(h_s1:(QQ QeO) s1)(h_v2:QeO v2):Qi (Qbt s1 v2) fun r=>True:=by
 unfold Qbt
 refine T0 (Qkw s1 v2 (h_s1) (h_v2)) (fun x_1 hv2=>?_)
 exact T3
theorem QtF (s1:ByteArray)(h_s1:QeO s1):Qi (Qkq s1) fun r=>True:=by
 unfold Qkq
 refine T0 (Qs1  ) (fun x_1 hv2=>?_)
 refine T0 (Qjl x_1 s1 (hv2) (h_s1)) (fun x_3 hv4=>?_)
 exact T3
theorem Qf1 (s1:ByteArray)(h_s1:QeO s1):Qi (Qdz s1) fun r=>True:=by
 unfold Qdz
 refine T0 (P:=fun _=>True) ?_ (fun x_1 hv2=>?_)
 ·unfold QnR
  refine T0 (Qkv s1 (h_s1)) (fun x_3 hv4=>?_)
  refine T1 (fun hc5=>?_) (fun hc5=>?_)
  ·refine T0 (QtF s1 (h_s1)) (fun x_6 hv7=>?_)
   exact T3
  exact T3
 unfold Qhp
 exact T3
theorem Qnv (s1:ByteArray)(h_s1:QeO s1):Qi (QdL s1) fun r=>True:=by
 unfold QdL
 refine T0 (Qf1 s1 (h_s1)) (fun x_1 hv2=>?_)
 exact T3
theorem Qi3 (s1:(List ByteArray))(h_s1:(QQ QeO) s1):Qi (Qbh s1) fun r=>True:=by
 unfold Qbh
 refine T0 (Qi.up (s1.length) (fun st=>st) (fun _=>True) (Q:=fun q=>True) rfl trivial (fun i2 st hi3 hn4 hj5=>?_)) (fun q6 hq7=>?_)
 ·obtain⟨x_1,hst⟩:∃y,y=st:=⟨_,rfl⟩
  subst hst
  replace hi3:x_1=(i2:Int):=hi3
  show Qi (QaN s1 x_1) _
  unfold QaN
  refine T1 (fun hc8=>?_) (fun hc8=>?_)
  ·refine T0 (T4 (by omega) (by simp_all)) (fun e_9 hv10=>?_)
   refine T0 (Qnv e_9 (((h_s1).2 e_9 hv10))) (fun x_11 hv12=>?_)
   refine T1 (fun hc13=>?_) (fun hc13=>?_)
   ·exact T2 (Qs trivial)
   exact T2 (QE ⟨(by simp_all),by subst hi3;exact Qx (by simp_all) (h_s1).1,trivial⟩)
  exact T2 (Qs trivial)
 rcases q6 with q6 | q6
 ·show Qi (QaO q6) _
  unfold QaO
  exact T3
 show Qi (QaP) _
 unfold QaP
 exact T3
theorem QhF (s1:(List ByteArray))(h_s1:(QQ QeO) s1):Qi (QaQ s1) fun r=>True:=by
 unfold QaQ
 refine T0 (Qi3 s1 (h_s1)) (fun x_1 hv2=>?_)
 exact T3
theorem QoK (v1:QM)(h_v1:QcO v1):Qi (QeG v1) fun r=>True:=by
 unfold QeG
 refine T0 (P:=fun _=>True) ?_ (fun x_1 hv2=>?_)
 ·unfold Qjh
  refine T0 (Qf1 v1.Name (h_v1.1)) (fun x_3 hv4=>?_)
  refine T1 (fun hc5=>?_) (fun hc5=>?_)
  ·refine T1 (fun hc6=>?_) (fun hc6=>?_)
   ·exact T3
   refine T0 (QhF v1.Names (h_v1.2.2.2.2.1)) (fun x_7 hv8=>?_)
   exact T3
  exact T3
 unfold Qdo
 exact T3
theorem Qqs (v1:Qm)(v2:Int)(v3:Int)(v4:QM)(v5:Int)(h_v1:QF v1)(h_v4:QcO v4)(hp0:0≤v2)(hp1:v2<v1.Colours.length):Qi (Qgo v1 v2 v3 v4 v5) fun r=>True:=by
 unfold Qgo
 refine T0 (QoJ v1 v2 (h_v1) (by omega) (by omega)) (fun x_1 hv2=>?_)
 refine T1 (fun hc3=>?_) (fun hc3=>?_)
 ·exact T3
 refine T0 (QoK v4 (h_v4)) (fun x_4 hv5=>?_)
 refine T1 (fun hc6=>?_) (fun hc6=>?_)
 ·exact T3
 exact T3
theorem QpP (k1:Int)(c2:QM)(v3:Qm)(h_c2:QcO c2)(h_v3:QF v3)(hp0:0≤k1)(hp1:k1<v3.Colours.length):Qi (QfJ k1 c2 v3) fun r=>True:=by
 unfold QfJ
 refine T0 (Qqs v3 k1 8 c2 8 (h_v3) (h_c2) (by omega) (by omega)) (fun x_1 hv2=>?_)
 exact T3
theorem Qmt (l1:(List QM))(v2:Qm)(h_l1:(QQ QcO) l1)(h_v2:QF v2)(hp0:l1.length≤v2.Colours.length):Qi (Qc1 l1 v2) fun r=>True:=by
 unfold Qc1
 refine T0 (Qi.up (l1.length) (fun st=>st) (fun _=>True) (Q:=fun q=>True) rfl trivial (fun i2 st hi3 hn4 hj5=>?_)) (fun q6 hq7=>?_)
 ·obtain⟨x_1,hst⟩:∃y,y=st:=⟨_,rfl⟩
  subst hst
  replace hi3:x_1=(i2:Int):=hi3
  show Qi (Qb1 l1 v2 x_1) _
  unfold Qb1
  refine T1 (fun hc8=>?_) (fun hc8=>?_)
  ·refine T0 (T4 (by omega) (by simp_all)) (fun e_9 hv10=>?_)
   refine T0 (QpP x_1 e_9 v2 (((h_l1).2 e_9 hv10)) (h_v2) (by omega) (by simp_all;omega)) (fun x_11 hv12=>?_)
   refine T1 (fun hc13=>?_) (fun hc13=>?_)
   ·exact T2 (Qs trivial)
   exact T2 (QE ⟨(by simp_all),by subst hi3;exact Qx (by simp_all) (h_l1).1,trivial⟩)
  exact T2 (Qs trivial)
 rcases q6 with q6 | q6
 ·show Qi (Qb2 q6.1 q6.2) _
  unfold Qb2
  exact T3
 show Qi (Qb3) _
 unfold Qb3
 exact T3
theorem Ql8 (n1:Qm)(h_n1:QF n1):Qi (Qe4 n1) fun r=>True:=by
 unfold Qe4
 refine T0 (Qmt n1.Colours n1 (h_n1.1) (h_n1) (by omega)) (fun x_1 hv2=>?_)
 exact T3
theorem Qrk (v1:QG)(h_v1:QbP v1):Qi (Qhq v1) fun r=>True:=by
 unfold Qhq
 refine T0 (Qf1 v1.Name (h_v1.1)) (fun x_1 hv2=>?_)
 exact T3
theorem Qrl (p1:QG)(v2:QG)(h_p1:QbP p1)(h_v2:QbP v2):Qi (Qhr p1 v2) fun r=>True:=by
 unfold Qhr
 exact T3
theorem QgG (s1:(List QG))(v2:QG)(h_s1:(QQ QbP) s1)(h_v2:QbP v2):Qi (QaB s1 v2) fun r=>True:=by
 unfold QaB
 refine T0 (Qi.up (s1.length) (fun st=>st) (fun _=>True) (Q:=fun q=>True) rfl trivial (fun i2 st hi3 hn4 hj5=>?_)) (fun q6 hq7=>?_)
 ·obtain⟨x_1,hst⟩:∃y,y=st:=⟨_,rfl⟩
  subst hst
  replace hi3:x_1=(i2:Int):=hi3
  show Qi (Qan s1 v2 x_1) _
  unfold Qan
  refine T1 (fun hc8=>?_) (fun hc8=>?_)
  ·refine T0 (T4 (by omega) (by simp_all)) (fun e_9 hv10=>?_)
   refine T0 (Qrl e_9 v2 (((h_s1).2 e_9 hv10)) (h_v2)) (fun x_11 hv12=>?_)
   refine T1 (fun hc13=>?_) (fun hc13=>?_)
   ·exact T2 (Qs trivial)
   exact T2 (QE ⟨(by simp_all),by subst hi3;exact Qx (by simp_all) (h_s1).1,trivial⟩)
  exact T2 (Qs trivial)
 rcases q6 with q6 | q6
 ·show Qi (Qao q6) _
  unfold Qao
  exact T3
 show Qi (Qap) _
 unfold Qap
 exact T3
theorem Qfx (s1:(List QG))(v2:QG)(h_s1:(QQ QbP) s1)(h_v2:QbP v2):Qi (Qaq s1 v2) fun r=>True:=by
 unfold Qaq
 refine T0 (QgG s1 v2 (h_s1) (h_v2)) (fun x_1 hv2=>?_)
 exact T3
theorem Qrm (v1:Qm)(v2:Int)(v3:QG)(h_v1:QF v1)(h_v3:QbP v3)(hp0:0≤v2)(hp1:v2<v1.Places.length):Qi (Qhs v1 v2 v3) fun r=>True:=by
 unfold Qhs
 refine T0 (T5 (by simp_all;omega)) (fun _ _=>?_)
 refine T0 (Qfx ((v1.Places.drop 0).take (v2.toNat-0)) v3 (((h_v1.2.1).drop _).take _) (h_v3)) (fun x_1 hv2=>?_)
 exact T3
theorem QgT (l1:(List QM))(k2:Int)(h_l1:(QQ QcO) l1):Qi (QbF l1 k2) fun r=>True:=by
 unfold QbF
 exact T3
theorem Qrn (v1:Qm)(v2:QG)(h_v1:QF v1)(h_v2:QbP v2):Qi (Qht v1 v2) fun r=>True:=by
 unfold Qht
 refine T0 (QgT v1.Colours v2.Colour (h_v1.1)) (fun x_1 hv2=>?_)
 exact T3
theorem Quc (b1:(List (Int×Int)))(h_b1:(QQ (fun _=>True)) b1):Qi (Qfn b1) fun r=>True:=by
 unfold Qfn
 refine T0 (Qi.up (b1.length) (fun st=>st.2) (fun _=>True) (Q:=fun q=>True) rfl trivial (fun i3 st hi4 hn5 hj6=>?_)) (fun q7 hq8=>?_)
 ·obtain⟨last_1,x_2⟩:=st
  replace hi4:x_2=(i3:Int):=hi4
  show Qi (QbM b1 last_1 x_2) _
  unfold QbM
  refine T1 (fun hc9=>?_) (fun hc9=>?_)
  ·refine T0 (T4 (by omega) (by simp_all)) (fun e_10 hv11=>?_)
   refine T1 (fun hc12=>?_) (fun hc12=>?_)
   ·exact T2 (Qs trivial)
   exact T2 (QE ⟨(by simp_all),by subst hi4;exact Qx (by simp_all) (h_b1).1,trivial⟩)
  exact T2 (Qs trivial)
 rcases q7 with q7 | q7
 ·show Qi (Qin) _
  unfold Qin
  exact T3
 show Qi (Qio) _
 unfold Qio
 exact T3
theorem Qro (v1:QG)(h_v1:QbP v1):Qi (Qhu v1) fun r=>True:=by
 unfold Qhu
 refine T0 (Quc v1.First (h_v1.2.2)) (fun x_1 hv2=>?_)
 exact T3
theorem Qud (l1:(List QM))(k2:Int)(h_l1:(QQ QcO) l1):Qi (Qk9 l1 k2) fun r=>(True∧Qub r.2)∧(r.1=true→(0≤k2∧k2<r.2.sizes.length)∧r.2.k=k2∧r.2.all.length=r.2.sizes.length∧∀x∈r.2.sizes,1≤x∧x≤1024):=by
 unfold Qk9
 refine T0 (Qnl l1 h_l1) fun x hx=>?_
 refine T1 (fun _=>T2 ⟨⟨trivial,QQ.nil,QQ.nil,trivial⟩,fun h=>by cases h⟩) fun hc=>?_
 simp only [QdF,Qjm,Qbc]at hc
 have:=hx.2 hc.1
 exact T2 ⟨⟨trivial,h_l1,hx.1.1,trivial⟩,fun _=>⟨⟨by omega,by show k2<(x.1.length:Int);omega⟩,rfl,this.1.symm,this.2⟩⟩
theorem QnW (l1:(List QM))(k2:Int)(h_l1:(QQ QcO) l1):Qi (QgO l1 k2) fun r=>0≤r∧r≤1024:=by
 unfold QgO
 refine T0 (Qud l1 k2 h_l1) (fun x hx=>?_)
 refine T1 (fun hc=>T2 (by omega)) (fun hc=>?_)
 have h:=hx.2 (by simpa using hc)
 exact T0 (T4 (by omega) (by omega)) fun e he=>T2 (by have:=h.2.2.2 e he;omega)
theorem QpQ (row1:(Int×Int))(v2:Int)  : Qi (QfK row1 v2) fun r=>True:=by
 unfold QfK
 exact T3
theorem Qi4 (s1:(List (Int×Int)))(v2:Int)(h_s1:(QQ (fun _=>True)) s1):Qi (Qbi s1 v2) fun r=>True:=by
 unfold Qbi
 refine T0 (Qi.up (s1.length) (fun st=>st) (fun _=>True) (Q:=fun q=>True) rfl trivial (fun i2 st hi3 hn4 hj5=>?_)) (fun q6 hq7=>?_)
 ·obtain⟨x_1,hst⟩:∃y,y=st:=⟨_,rfl⟩
  subst hst
  replace hi3:x_1=(i2:Int):=hi3
  show Qi (QaR s1 v2 x_1) _
  unfold QaR
  refine T1 (fun hc8=>?_) (fun hc8=>?_)
  ·refine T0 (T4 (by omega) (by simp_all)) (fun e_9 hv10=>?_)
   refine T0 (QpQ e_9 v2 ) (fun x_11 hv12=>?_)
   refine T1 (fun hc13=>?_) (fun hc13=>?_)
   ·exact T2 (Qs trivial)
   exact T2 (QE ⟨(by simp_all),by subst hi3;exact Qx (by simp_all) (h_s1).1,trivial⟩)
  exact T2 (Qs trivial)
 rcases q6 with q6 | q6
 ·show Qi (QaS q6) _
  unfold QaS
  exact T3
 show Qi (QaT) _
 unfold QaT
 exact T3
theorem QhG (s1:(List (Int×Int)))(v2:Int)(h_s1:(QQ (fun _=>True)) s1):Qi (QaU s1 v2) fun r=>True:=by
 unfold QaU
 refine T0 (Qi4 s1 v2 (h_s1)) (fun x_1 hv2=>?_)
 exact T3
theorem Qrp (v1:Qm)(v2:QG)(h_v1:QF v1)(h_v2:QbP v2):Qi (Qhv v1 v2) fun r=>True:=by
 unfold Qhv
 refine T0 (QnW v1.Colours v2.Colour (h_v1.1)) (fun x_1 hv2=>?_)
 refine T0 (QhG v2.First x_1 (h_v2.2.2)) (fun x_3 hv4=>?_)
 exact T3
theorem Qqt (v1:QG)(v2:Int)(v3:Qm)(v4:Int)(v5:Int)(v6:Int)(v7:Int)(v8:Int)(h_v1:QbP v1)(h_v3:QF v3)(hp0:0≤v4)(hp1:v4<v3.Places.length):Qi (Qgp v1 v2 v3 v4 v5 v6 v7 v8) fun r=>True:=by
 unfold Qgp
 refine T0 (Qrk v1 (h_v1)) (fun x_1 hv2=>?_)
 refine T1 (fun hc3=>?_) (fun hc3=>?_)
 ·exact T3
 refine T0 (Qrm v3 v4 v1 (h_v3) (h_v1) (by omega) (by omega)) (fun x_4 hv5=>?_)
 refine T1 (fun hc6=>?_) (fun hc6=>?_)
 ·exact T3
 refine T0 (Qrn v3 v1 (h_v3) (h_v1)) (fun x_7 hv8=>?_)
 refine T1 (fun hc9=>?_) (fun hc9=>?_)
 ·exact T3
 refine T0 (Qro v1 (h_v1)) (fun x_10 hv11=>?_)
 refine T1 (fun hc12=>?_) (fun hc12=>?_)
 ·exact T3
 refine T0 (Qrp v3 v1 (h_v3) (h_v1)) (fun x_13 hv14=>?_)
 refine T1 (fun hc15=>?_) (fun hc15=>?_)
 ·exact T3
 exact T3
theorem Qs2 (n1:Qm)(k2:Int)(h_n1:QF n1):Qi (QjA n1 k2) fun r=>True:=by
 unfold QjA
 refine T0 (Qbz n1.Places k2 (h_n1.2.1)) (fun x_1 hv2=>?_)
 refine T1 (fun hc3=>?_) (fun hc3=>?_)
 ·exact T3
 refine T0 (T4 (by simp_all) (by simp_all)) (fun e_4 hv5=>?_)
 refine T0 (Qqt e_4 1 n1 k2 5 3 1 8 (((h_n1.2.1).2 e_4 hv5)) (h_n1) (by simp_all) (by simp_all)) (fun x_6 hv7=>?_)
 exact T3
theorem Qs3 (k1:Int)(p2:QG)(v3:Qm)(h_p2:QbP p2)(h_v3:QF v3):Qi (QjB k1 p2 v3) fun r=>True:=by
 unfold QjB
 refine T0 (Qs2 v3 k1 (h_v3)) (fun x_1 hv2=>?_)
 exact T3
theorem Qnm (l1:(List QG))(v2:Qm)(h_l1:(QQ QbP) l1)(h_v2:QF v2):Qi (Qdp l1 v2) fun r=>True:=by
 unfold Qdp
 refine T0 (Qi.up (l1.length) (fun st=>st) (fun _=>True) (Q:=fun q=>True) rfl trivial (fun i2 st hi3 hn4 hj5=>?_)) (fun q6 hq7=>?_)
 ·obtain⟨x_1,hst⟩:∃y,y=st:=⟨_,rfl⟩
  subst hst
  replace hi3:x_1=(i2:Int):=hi3
  show Qi (Qcr l1 v2 x_1) _
  unfold Qcr
  refine T1 (fun hc8=>?_) (fun hc8=>?_)
  ·refine T0 (T4 (by omega) (by simp_all)) (fun e_9 hv10=>?_)
   refine T0 (Qs3 x_1 e_9 v2 (((h_l1).2 e_9 hv10)) (h_v2)) (fun x_11 hv12=>?_)
   refine T1 (fun hc13=>?_) (fun hc13=>?_)
   ·exact T2 (Qs trivial)
   exact T2 (QE ⟨(by simp_all),by subst hi3;exact Qx (by simp_all) (h_l1).1,trivial⟩)
  exact T2 (Qs trivial)
 rcases q6 with q6 | q6
 ·show Qi (Qcs q6.1 q6.2) _
  unfold Qcs
  exact T3
 show Qi (Qct) _
 unfold Qct
 exact T3
theorem Qh8 (l1:(List Qv))(k2:Int)(h_l1:(QQ Qad) l1):Qi (QbX l1 k2) fun r=>r=true→0≤k2∧k2<l1.length:=by
 unfold QbX
 exact T2 (by first | (intro hr;first | (cases hr;done) | omega | ((try simp only [Qw,Qcn,QdF,Qd0,Qjm,QS,Qbc,beq_iff_eq,bne_iff_ne,ne_eq,Qma,QnC,Qib,QkZ,QkY,QkX,Qf9,Qic,QiR,Qj8,QiS]at *);omega)) | ((try simp only [Qw,Qcn,QdF,Qd0,Qjm,QS,Qbc,beq_iff_eq,bne_iff_ne,ne_eq,Qma,QnC,Qib,QkZ,QkY,QkX,Qf9,Qic,QiR,Qj8,QiS]at *);omega) | simp_all)
theorem Qs4 (v1:Int)(v2:Qm)(v3:Qv)(h_v2:QF v2)(h_v3:Qad v3):Qi (QjC v1 v2 v3) fun r=>True:=by
 unfold QjC
 exact T3
theorem Qqu (v1:Int)(v2:Qm)(v3:Qv)(v4:Int)(h_v2:QF v2)(h_v3:Qad v3):Qi (Qgq v1 v2 v3 v4) fun r=>True:=by
 unfold Qgq
 exact T3
theorem Qqv (v1:Int)(v2:Qm)(v3:Qv)(v4:Int)(h_v2:QF v2)(h_v3:Qad v3):Qi (Qgr v1 v2 v3 v4) fun r=>True:=by
 unfold Qgr
 exact T3
theorem Qqw (v1:Int)(v2:Qm)(v3:Qv)(h_v2:QF v2)(h_v3:Qad v3):Qi (Qgs v1 v2 v3) fun r=>True:=by
 unfold Qgs
 exact T3
theorem Qsa (v1:Qv)(h_v1:Qad v1):Qi (QiG v1) fun r=>True:=by
 unfold QiG
 refine T0 (Qf1 v1.Name (h_v1.1)) (fun x_1 hv2=>?_)
 exact T3
theorem Qsb (p1:Qv)(v2:Qv)(h_p1:Qad p1)(h_v2:Qad v2):Qi (QiH p1 v2) fun r=>True:=by
 unfold QiH
 exact T3
theorem Qg5 (s1:(List Qv))(v2:Qv)(h_s1:(QQ Qad) s1)(h_v2:Qad v2):Qi (QaM s1 v2) fun r=>True:=by
 unfold QaM
 refine T0 (Qi.up (s1.length) (fun st=>st) (fun _=>True) (Q:=fun q=>True) rfl trivial (fun i2 st hi3 hn4 hj5=>?_)) (fun q6 hq7=>?_)
 ·obtain⟨x_1,hst⟩:∃y,y=st:=⟨_,rfl⟩
  subst hst
  replace hi3:x_1=(i2:Int):=hi3
  show Qi (Qau s1 v2 x_1) _
  unfold Qau
  refine T1 (fun hc8=>?_) (fun hc8=>?_)
  ·refine T0 (T4 (by omega) (by simp_all)) (fun e_9 hv10=>?_)
   refine T0 (Qsb e_9 v2 (((h_s1).2 e_9 hv10)) (h_v2)) (fun x_11 hv12=>?_)
   refine T1 (fun hc13=>?_) (fun hc13=>?_)
   ·exact T2 (Qs trivial)
   exact T2 (QE ⟨(by simp_all),by subst hi3;exact Qx (by simp_all) (h_s1).1,trivial⟩)
  exact T2 (Qs trivial)
 rcases q6 with q6 | q6
 ·show Qi (Qav q6) _
  unfold Qav
  exact T3
 show Qi (Qaw) _
 unfold Qaw
 exact T3
theorem Qf3 (s1:(List Qv))(v2:Qv)(h_s1:(QQ Qad) s1)(h_v2:Qad v2):Qi (Qax s1 v2) fun r=>True:=by
 unfold Qax
 refine T0 (Qg5 s1 v2 (h_s1) (h_v2)) (fun x_1 hv2=>?_)
 exact T3
theorem Qsc (v1:Qm)(v2:Int)(v3:Qv)(h_v1:QF v1)(h_v3:Qad v3)(hp0:0≤v2)(hp1:v2<v1.Tasks.length):Qi (QiI v1 v2 v3) fun r=>True:=by
 unfold QiI
 refine T0 (T5 (by simp_all;omega)) (fun _ _=>?_)
 refine T0 (Qf3 ((v1.Tasks.drop 0).take (v2.toNat-0)) v3 (((h_v1.2.2.1).drop _).take _) (h_v3)) (fun x_1 hv2=>?_)
 exact T3
theorem Qsd (v1:Int)(v2:Qv)(h_v2:Qad v2):Qi (QfW v1 v2) fun r=>True:=by
 unfold QfW
 exact T3
theorem Qnw (v1:Qae)(h_v1:Qda v1):Qi (QdM v1) fun r=>True:=by
 unfold QdM
 refine T0 (Qf1 v1.Name (h_v1.1)) (fun x_1 hv2=>?_)
 exact T3
theorem Qnx (p1:Qae)(v2:Qae)(h_p1:Qda p1)(h_v2:Qda v2):Qi (QdN p1 v2) fun r=>True:=by
 unfold QdN
 exact T3
theorem Qh9 (s1:(List Qae))(v2:Qae)(h_s1:(QQ Qda) s1)(h_v2:Qda v2):Qi (QaX s1 v2) fun r=>True:=by
 unfold QaX
 refine T0 (Qi.up (s1.length) (fun st=>st) (fun _=>True) (Q:=fun q=>True) rfl trivial (fun i2 st hi3 hn4 hj5=>?_)) (fun q6 hq7=>?_)
 ·obtain⟨x_1,hst⟩:∃y,y=st:=⟨_,rfl⟩
  subst hst
  replace hi3:x_1=(i2:Int):=hi3
  show Qi (QaD s1 v2 x_1) _
  unfold QaD
  refine T1 (fun hc8=>?_) (fun hc8=>?_)
  ·refine T0 (T4 (by omega) (by simp_all)) (fun e_9 hv10=>?_)
   refine T0 (Qnx e_9 v2 (((h_s1).2 e_9 hv10)) (h_v2)) (fun x_11 hv12=>?_)
   refine T1 (fun hc13=>?_) (fun hc13=>?_)
   ·exact T2 (Qs trivial)
   exact T2 (QE ⟨(by simp_all),by subst hi3;exact Qx (by simp_all) (h_s1).1,trivial⟩)
  exact T2 (Qs trivial)
 rcases q6 with q6 | q6
 ·show Qi (QaE q6) _
  unfold QaE
  exact T3
 show Qi (QaF) _
 unfold QaF
 exact T3
theorem QgU (s1:(List Qae))(v2:Qae)(h_s1:(QQ Qda) s1)(h_v2:Qda v2):Qi (QaG s1 v2) fun r=>True:=by
 unfold QaG
 refine T0 (Qh9 s1 v2 (h_s1) (h_v2)) (fun x_1 hv2=>?_)
 exact T3
theorem Qny (v1:(List Qae))(v2:Int)(v3:Qae)(h_v1:(QQ Qda) v1)(h_v3:Qda v3)(hp0:0≤v2)(hp1:v2<v1.length):Qi (QdO v1 v2 v3) fun r=>True:=by
 unfold QdO
 refine T0 (T5 (by simp_all;omega)) (fun _ _=>?_)
 refine T0 (QgU ((v1.drop 0).take (v2.toNat-0)) v3 (((h_v1).drop _).take _) (h_v3)) (fun x_1 hv2=>?_)
 exact T3
theorem Qnz (v1:Qm)(v2:Qae)(h_v1:QF v1)(h_v2:Qda v2):Qi (QdP v1 v2) fun r=>True:=by
 unfold QdP
 refine T0 (QgT v1.Colours v2.Colour (h_v1.1)) (fun x_1 hv2=>?_)
 exact T3
theorem Qqx (v1:Qae)(v2:Int)(v3:(List Qae))(v4:Int)(v5:Int)(v6:Qm)(v7:Int)(h_v1:Qda v1)(h_v3:(QQ Qda) v3)(h_v6:QF v6)(hp0:0≤v4)(hp1:v4<v3.length):Qi (Qgu v1 v2 v3 v4 v5 v6 v7) fun r=>True:=by
 unfold Qgu
 refine T0 (Qnw v1 (h_v1)) (fun x_1 hv2=>?_)
 refine T1 (fun hc3=>?_) (fun hc3=>?_)
 ·exact T3
 refine T0 (Qny v3 v4 v1 (h_v3) (h_v1) (by omega) (by omega)) (fun x_4 hv5=>?_)
 refine T1 (fun hc6=>?_) (fun hc6=>?_)
 ·exact T3
 refine T0 (Qnz v6 v1 (h_v6) (h_v1)) (fun x_7 hv8=>?_)
 refine T1 (fun hc9=>?_) (fun hc9=>?_)
 ·exact T3
 exact T3
theorem QoL (k1:Int)(v2:Qae)(v3:(List Qae))(v4:Qm)(h_v2:Qda v2)(h_v3:(QQ Qda) v3)(h_v4:QF v4)(hp0:0≤k1)(hp1:k1<v3.length):Qi (QeH k1 v2 v3 v4) fun r=>True:=by
 unfold QeH
 refine T0 (Qqx v2 1 v3 k1 5 v4 3 (h_v2) (h_v3) (h_v4) (by omega) (by omega)) (fun x_1 hv2=>?_)
 exact T3
theorem Qog (l1:(List Qae))(v2:(List Qae))(v3:Qm)(h_l1:(QQ Qda) l1)(h_v2:(QQ Qda) v2)(h_v3:QF v3)(hp0:l1.length≤v2.length):Qi (Qd9 l1 v2 v3) fun r=>True:=by
 unfold Qd9
 refine T0 (Qi.up (l1.length) (fun st=>st) (fun _=>True) (Q:=fun q=>True) rfl trivial (fun i2 st hi3 hn4 hj5=>?_)) (fun q6 hq7=>?_)
 ·obtain⟨x_1,hst⟩:∃y,y=st:=⟨_,rfl⟩
  subst hst
  replace hi3:x_1=(i2:Int):=hi3
  show Qi (Qc2 l1 v2 v3 x_1) _
  unfold Qc2
  refine T1 (fun hc8=>?_) (fun hc8=>?_)
  ·refine T0 (T4 (by omega) (by simp_all)) (fun e_9 hv10=>?_)
   refine T0 (QoL x_1 e_9 v2 v3 (((h_l1).2 e_9 hv10)) (h_v2) (h_v3) (by omega) (by simp_all;omega)) (fun x_11 hv12=>?_)
   refine T1 (fun hc13=>?_) (fun hc13=>?_)
   ·exact T2 (Qs trivial)
   exact T2 (QE ⟨(by simp_all),by subst hi3;exact Qx (by simp_all) (h_l1).1,trivial⟩)
  exact T2 (Qs trivial)
 rcases q6 with q6 | q6
 ·show Qi (Qc3 q6.1 q6.2) _
  unfold Qc3
  exact T3
 show Qi (Qc4) _
 unfold Qc4
 exact T3
theorem QpR (n1:Qm)(l2:(List Qae))(h_n1:QF n1)(h_l2:(QQ Qda) l2):Qi (QfL n1 l2) fun r=>True:=by
 unfold QfL
 refine T0 (Qog l2 l2 n1 (h_l2) (h_l2) (h_n1) (by omega)) (fun x_1 hv2=>?_)
 exact T3
theorem Qse (v1:Qm)(v2:Qv)(h_v1:QF v1)(h_v2:Qad v2):Qi (QiJ v1 v2) fun r=>True:=by
 unfold QiJ
 refine T0 (QpR v1 v2.Vars (h_v1) (h_v2.2.1)) (fun x_1 hv2=>?_)
 exact T3
theorem Qrq (v1:Qm)(v2:Qv)(v3:Int)(h_v1:QF v1)(h_v2:Qad v2):Qi (Qhx v1 v2 v3) fun r=>True:=by
 unfold Qhx
 refine T0 (Qse v1 v2 (h_v1) (h_v2)) (fun x_1 hv2=>?_)
 exact T3
theorem Qs5 (n1:Qm)(k2:Int)(h_n1:QF n1):Qi (QjD n1 k2) fun r=>True:=by
 unfold QjD
 refine T0 (Qh8 n1.Tasks k2 (h_n1.2.2.1)) (fun x_1 hv2=>?_)
 refine T1 (fun hc3=>?_) (fun hc3=>?_)
 ·exact T3
 refine T0 (T4 (by simp_all) (by simp_all)) (fun e_4 hv5=>?_)
 refine T0 (Qi.up (e_4.Vars.length) (fun st=>st.2) (fun _=>True) (Q:=fun q=>True) rfl trivial (fun i8 st hi9 hn10 hj11=>?_)) (fun q12 hq13=>?_)
 ·obtain⟨out_6,x_7⟩:=st
  replace hi9:x_7=(i8:Int):=hi9
  show Qi (Qgv e_4 n1 out_6 x_7) _
  unfold Qgv
  refine T1 (fun hc14=>?_) (fun hc14=>?_)
  ·refine T0 (T4 (by omega) (by simp_all)) (fun e_15 hv16=>?_)
   refine T0 (QnW n1.Colours e_15.Colour (h_n1.1)) (fun x_17 hv18=>?_)
   refine T1 (fun hc19=>?_) (fun hc19=>?_)
   ·exact T2 (Qs trivial)
   exact T2 (QE ⟨(by simp_all),by subst hi9;exact Qx (by simp_all) (((h_n1.2.2.1).2 e_4 hv5).2.1).1,trivial⟩)
  exact T2 (Qs trivial)
 rcases q12 with q12 | q12
 ·show Qi (Qgw) _
  unfold Qgw
  exact T3
 show Qi (Qgx q12) _
 unfold Qgx
 exact T3
theorem Qsf (v1:Qm)(v2:Int)(h_v1:QF v1):Qi (QiK v1 v2) fun r=>True:=by
 unfold QiK
 refine T0 (Qs5 v1 v2 (h_v1)) (fun x_1 hv2=>?_)
 exact T3
theorem Que (kind1:Int):Qi (Qla kind1) fun r=>0≤r→(kind1=1∨kind1=2∨kind1=3∨kind1=4∨kind1=5∨kind1=6)∧(kind1=3∨kind1=4→r=1)∧(kind1=5→r=2)∧(kind1=6→r=3):=by
 unfold Qla
 refine T1 (fun hc=>?_) (fun hc=>?_)
 ·unfold QfY;rw [hc]
  simp only [beq_iff_eq]at hc
  exact T2 (by omega)
 simp only [beq_eq_false_iff_ne]at hc
 unfold QfY
 refine T1 (fun hc=>T2 (by simp only [beq_iff_eq]at hc;omega)) (fun hc2=>?_)
 simp only [beq_eq_false_iff_ne]at hc2
 refine T1 (fun hc3=>?_) (fun hc3=>?_)
 ·unfold QfX;rw [hc3]
  simp only [beq_iff_eq]at hc3
  exact T2 (by omega)
 simp only [beq_eq_false_iff_ne]at hc3
 unfold QfX
 refine T1 (fun hc=>T2 (by simp only [beq_iff_eq]at hc;omega)) (fun hc4=>?_)
 simp only [beq_eq_false_iff_ne]at hc4
 refine T1 (fun hc=>T2 (by simp only [beq_iff_eq]at hc;omega)) (fun hc5=>?_)
 simp only [beq_eq_false_iff_ne]at hc5
 exact T1 (fun hc=>T2 (by simp only [beq_iff_eq]at hc;omega)) (fun hc6=>T2 (by omega))
theorem QtG (op1:Int)  : Qi (Qks op1) fun r=>True:=by
 unfold Qks
 exact T3
theorem QkU (rec_:Qk→Int→Option Bool)(s1:List Qk)(v2:Int)(h1:s1.length≤maxLen)(h:∀k∈s1,Qi (rec_ k v2) fun r=>r=true→POk v2 k):Qi (Qaz rec_ s1 v2) fun r=>r=false→∀k∈s1,POk v2 k:=by
 unfold Qaz QbG
 refine T0 (P:=fun x=>x<0→∀k∈s1,POk v2 k) ?_ fun x hx=>T2 fun h=>hx (by simp only [Qbc]at h;omega)
 refine T0 (Qi.up s1.length (fun st=>st) (fun st=>∀(j:Nat) k,(j:Int)<st→s1[j]? = some k→POk v2 k) (Q:=fun q=>(∀x,q=.inl x→0≤x)∧(q=.inr ()→∀k∈s1,POk v2 k)) rfl (fun j k hj=>by omega) (fun i st hi hn hj=>?_)) (fun q hq=>?_)
 ·show Qi (Qay s1 rec_ v2 st) _
  unfold Qay QkN
  refine T1 (fun hc=>?_) (fun hc=>T2 (Qs ⟨fun x h=>(by cases h),fun _ k hk=>by
   obtain⟨j,hj1,hj2⟩:=Qss.1 hk
   simp only [Qbc]at hc
   exact hj j k (by omega) (by rw [QH hj1,hj2])⟩))
  simp only [QS]at hc
  rw [Qvn (by omega)]
  have hlt:st.toNat<s1.length:=by omega
  rw [QH hlt]
  refine T0 (P:=fun k=>k=s1[st.toNat]) (T2 rfl) fun k hk=>?_
  subst hk
  refine T0 (P:=fun r=>r=false→POk v2 s1[st.toNat]) (T0 (h _ (Qjo hlt)) fun x hx=>T2 fun h=>hx (by simpa using h)) fun x hx=>?_
  refine T1 (fun _=>T2 (Qs ⟨fun x h=>(by cases h;omega),fun h=>(by cases h)⟩)) fun hxf=>T2 (QE ⟨by omega,by rw [hi];exact Qx (by omega) h1,?_⟩)
  rw [hi,Qx (show i<s1.length by omega) h1]
  intro j k hj' hk
  by_cases c:j=i
  ·subst c
   have e:st.toNat=j:=by omega
   have:=hx hxf
   rw [QH (by omega)]at hk
   cases hk
   simpa only [e] using this
  exact hj j k (by omega) hk
 rcases q with q | q
 ·exact T2 fun h=>absurd (hq.1 q rfl) (by omega)
 exact T2 fun _=>hq.2 rfl
theorem Qnn : ∀(n:Nat) (e:Qk) (v:Int),QcK e→SizeOf.sizeOf e≤n→Qi (Qdg n e v) fun r=>r=true→POk v e
 | 0,e,_,_,h=>absurd e.pos (by omega)
 | n+1,e,v,he,h=>by
  unfold Qdg QkO
  refine T0 (Que e.Kind) fun x hx=>?_
  refine T1 (fun _=>T2 fun h=>by cases h) fun h1=>T1 (fun _=>T2 fun h=>by cases h) fun h2=>?_
  refine T0 (P:=fun _=>True) ?_ fun y _=>?_
  ·unfold QnS
   exact T1 (fun _=>T0 (QtG e.Num) fun x _=>T3) fun _=>T3
  unfold Qhz
  refine T1 (fun _=>T2 fun h=>by cases h) fun _=>?_
  refine T0 (QkU (Qdg n) e.Kids v (QdE he).1 fun k hk=>Qnn n k v ((QdE he).2 k hk) (by have:=QsT hk;omega)) fun x hx2=>T2 fun hx3=>?_
  simp only [bne_eq_false_iff_eq]at h1
  have h3:=hx (by omega)
  simp only [Bool.and_eq_false_iff,QdF,Qbc,beq_eq_false_iff_ne]at h2
  exact .mk e h3.1 (fun hk=>by omega) (fun hk=>by have:=h3.2.1 hk;omega) (fun hk=>by have:=h3.2.2.1 hk;omega) (fun hk=>by have:=h3.2.2.2 hk;omega) (hx2 (by simpa using hx3))
theorem QtH (e1:Qk)(vars2:Int)(h_e1:QcK e1):Qi (Qm9 e1 vars2) fun r=>r=true→POk vars2 e1:=Qnn _ e1 vars2 h_e1 (Qb0 _)
theorem Qno : ∀(n:Nat) (e:Qk),QcK e→SizeOf.sizeOf e≤n→Qi (Qdf n e) fun _=>True
 | 0,e,_,h=>absurd e.pos (by omega)
 | n+1,e,he,h=>by
  unfold Qdf QkL
  refine T0 (Qi.up e.Kids.length (fun st=>st.2) (fun _=>True) (Q:=fun _=>True) rfl trivial (fun i st hi hn _=>?_)) (fun q _=>?_)
  ·obtain⟨a,x⟩:=st
   replace hi:x=(i:Int):=hi
   show Qi (Qhy e (Qdf n) a x) _
   unfold Qhy
   refine T1 (fun hc=>?_) (fun hc=>?_)
   ·simp only [QS]at hc
    refine T0 (T4 (by omega) (by omega)) fun k hk=>?_
    have:=QsT hk
    refine T0 (Qno n k ((QdE he).2 k hk) (by omega)) fun d _=>?_
    exact T2 (QE ⟨by omega,by subst hi;exact Qx (by omega) (QdE he).1,trivial⟩)
   exact T2 (Qs trivial)
  unfold Qkr
  exact T3
theorem QtI (e1:Qk)(h_e1:QcK e1):Qi (Qm7 e1) fun _=>True:=Qno _ e1 h_e1 (Qb0 _)
theorem QnX : ∀(n:Nat) (e:Qk),QcK e→SizeOf.sizeOf e≤n→Qi (QdW n e) fun _=>True
 | 0,e,_,h=>absurd e.pos (by omega)
 | n+1,e,he,h=>by
  unfold QdW QlK
  refine T0 (Qi.up e.Kids.length (fun st=>st.2) (fun _=>True) (Q:=fun _=>True) rfl trivial (fun i st hi hn _=>?_)) (fun q _=>?_)
  ·obtain⟨a,x⟩:=st
   replace hi:x=(i:Int):=hi
   show Qi (QiL e (QdW n) a x) _
   unfold QiL
   refine T1 (fun hc=>?_) (fun hc=>?_)
   ·simp only [QS]at hc
    refine T0 (T4 (by omega) (by omega)) fun k hk=>?_
    have:=QsT hk
    refine T0 (QnX n k ((QdE he).2 k hk) (by omega)) fun d _=>?_
    exact T2 (QE ⟨by omega,by subst hi;exact Qx (by omega) (QdE he).1,trivial⟩)
   exact T2 (Qs trivial)
  unfold QkM
  exact T3
theorem Quf (e1:Qk)(h_e1:QcK e1):Qi (Qoc e1) fun _=>True:=QnX _ e1 h_e1 (Qb0 _)
theorem QoM (e1:Qk)(vars2:Int)(h_e1:QcK e1):Qi (QhV e1 vars2) fun r=>r=true→POk vars2 e1:=by
 unfold QhV
 refine T0 (P:=fun r=>r=true→POk vars2 e1) ?_ (fun x hx=>T2 hx)
 unfold QnT
 refine T0 (QtI e1 h_e1) (fun x _=>?_)
 refine T1 (fun _=>?_) (fun _=>T2 fun h=>by cases h)
 refine T0 (Quf e1 h_e1) (fun x _=>?_)
 refine T1 (fun _=>?_) (fun _=>T2 fun h=>by cases h)
 exact T0 (QtH e1 vars2 h_e1) (fun x hx=>T2 hx)
theorem Qsg (v1:Qv)(v2:Int)(h_v1:Qad v1):Qi (QiM v1 v2) fun r=>True:=by
 unfold QiM
 refine T0 (P:=fun _=>True) ?_ (fun x_1 hv2=>?_)
 ·unfold Ql6
  refine T0 (QoM v1.Guard v2 (h_v1.2.2.1)) (fun x_3 hv4=>?_)
  refine T1 (fun hc5=>?_) (fun hc5=>?_)
  ·refine T1 (fun hc6=>?_) (fun hc6=>?_)
   ·exact T3
   exact T3
  exact T3
 unfold QfM
 exact T3
theorem Qqy (v1:Qm)(v2:QT)(h_v1:QF v1)(h_v2:Qjk v2):Qi (Qgy v1 v2) fun r=>True:=by
 unfold Qgy
 refine T0 (Qbz v1.Places v2.Place (h_v1.2.1)) (fun x_1 hv2=>?_)
 exact T3
theorem Qqz (v1:QT)(v2:Int)(h_v1:Qjk v1):Qi (Qgz v1 v2) fun r=>True:=by
 unfold Qgz
 refine T0 (QoM v1.Expr v2 (h_v1.2)) (fun x_1 hv2=>?_)
 exact T3
theorem QqA (v1:Qm)(v2:QT)(v3:Int)(v4:Int)(v5:Int)(h_v1:QF v1)(h_v2:Qjk v2):Qi (QgA v1 v2 v3 v4 v5) fun r=>True:=by
 unfold QgA
 refine T0 (Qqy v1 v2 (h_v1) (h_v2)) (fun x_1 hv2=>?_)
 refine T1 (fun hc3=>?_) (fun hc3=>?_)
 ·exact T3
 refine T0 (Qqz v2 v4 (h_v2)) (fun x_4 hv5=>?_)
 refine T1 (fun hc6=>?_) (fun hc6=>?_)
 ·exact T3
 exact T3
theorem Qsh (p1:Int)(a2:QT)(v3:Qm)(v4:Int)(h_a2:Qjk a2)(h_v3:QF v3):Qi (QiN p1 a2 v3 v4) fun r=>True:=by
 unfold QiN
 refine T0 (QqA v3 a2 3 v4 1 (h_v3) (h_a2)) (fun x_1 hv2=>?_)
 exact T3
theorem Qoh (l1:(List QT))(v2:Qm)(v3:Int)(h_l1:(QQ Qjk) l1)(h_v2:QF v2):Qi (Qea l1 v2 v3) fun r=>True:=by
 unfold Qea
 refine T0 (Qi.up (l1.length) (fun st=>st) (fun _=>True) (Q:=fun q=>True) rfl trivial (fun i2 st hi3 hn4 hj5=>?_)) (fun q6 hq7=>?_)
 ·obtain⟨x_1,hst⟩:∃y,y=st:=⟨_,rfl⟩
  subst hst
  replace hi3:x_1=(i2:Int):=hi3
  show Qi (Qc5 l1 v2 v3 x_1) _
  unfold Qc5
  refine T1 (fun hc8=>?_) (fun hc8=>?_)
  ·refine T0 (T4 (by omega) (by simp_all)) (fun e_9 hv10=>?_)
   refine T0 (Qsh x_1 e_9 v2 v3 (((h_l1).2 e_9 hv10)) (h_v2)) (fun x_11 hv12=>?_)
   refine T1 (fun hc13=>?_) (fun hc13=>?_)
   ·exact T2 (Qs trivial)
   exact T2 (QE ⟨(by simp_all),by subst hi3;exact Qx (by simp_all) (h_l1).1,trivial⟩)
  exact T2 (Qs trivial)
 rcases q6 with q6 | q6
 ·show Qi (Qc6 q6.1 q6.2) _
  unfold Qc6
  exact T3
 show Qi (Qc7) _
 unfold Qc7
 exact T3
theorem QoN (n1:Qm)(l2:(List QT))(vars3:Int)(h_n1:QF n1)(h_l2:(QQ Qjk) l2):Qi (QhW n1 l2 vars3) fun r=>True:=by
 unfold QhW
 refine T0 (Qoh l2 n1 vars3 (h_l2) (h_n1)) (fun x_1 hv2=>?_)
 exact T3
theorem Qsi (v1:Qm)(v2:Qv)(v3:Int)(h_v1:QF v1)(h_v2:Qad v2):Qi (QiO v1 v2 v3) fun r=>True:=by
 unfold QiO
 refine T0 (QoN v1 v2.Ins v3 (h_v1) (h_v2.2.2.2.2.2.1)) (fun x_1 hv2=>?_)
 exact T3
theorem Qpr (v1:Qm)(v2:Qv)(v3:Int)(v4:Int)(h_v1:QF v1)(h_v2:Qad v2):Qi (Qe5 v1 v2 v3 v4) fun r=>True:=by
 unfold Qe5
 refine T0 (Qsi v1 v2 v3 (h_v1) (h_v2)) (fun x_1 hv2=>?_)
 exact T3
theorem Qsj (v1:Qm)(v2:Qv)(v3:Int)(h_v1:QF v1)(h_v2:Qad v2):Qi (QiP v1 v2 v3) fun r=>True:=by
 unfold QiP
 refine T0 (QoN v1 v2.Outs v3 (h_v1) (h_v2.2.2.2.2.2.2.1)) (fun x_1 hv2=>?_)
 exact T3
theorem Qps (v1:Qm)(v2:Qv)(v3:Int)(v4:Int)(h_v1:QF v1)(h_v2:Qad v2):Qi (Qe6 v1 v2 v3 v4) fun r=>True:=by
 unfold Qe6
 refine T0 (Qsj v1 v2 v3 (h_v1) (h_v2)) (fun x_1 hv2=>?_)
 exact T3
theorem QoO (v1:Qm)(v2:Int)(h_v1:QF v1):Qi (QeI v1 v2) fun r=>True:=by
 unfold QeI
 refine T0 (Qbz v1.Places v2 (h_v1.2.1)) (fun x_1 hv2=>?_)
 exact T3
theorem Qnp (s1:(List Int))(v2:Int)(h_s1:(QQ (fun _=>True)) s1):Qi (Qdq s1 v2) fun r=>True:=by
 unfold Qdq
 refine T0 (Qi.up (s1.length) (fun st=>st) (fun _=>True) (Q:=fun q=>True) rfl trivial (fun i2 st hi3 hn4 hj5=>?_)) (fun q6 hq7=>?_)
 ·obtain⟨x_1,hst⟩:∃y,y=st:=⟨_,rfl⟩
  subst hst
  replace hi3:x_1=(i2:Int):=hi3
  show Qi (Qcu s1 v2 x_1) _
  unfold Qcu
  refine T1 (fun hc8=>?_) (fun hc8=>?_)
  ·refine T0 (T4 (by omega) (by simp_all)) (fun e_9 hv10=>?_)
   refine T1 (fun hc11=>?_) (fun hc11=>?_)
   ·exact T2 (Qs trivial)
   exact T2 (QE ⟨(by simp_all),by subst hi3;exact Qx (by simp_all) (h_s1).1,trivial⟩)
  exact T2 (Qs trivial)
 rcases q6 with q6 | q6
 ·show Qi (Qcv q6) _
  unfold Qcv
  exact T3
 show Qi (Qcw) _
 unfold Qcw
 exact T3
theorem QlE (s1:(List Int))(v2:Int)(h_s1:(QQ (fun _=>True)) s1):Qi (Qcx s1 v2) fun r=>True:=by
 unfold Qcx
 refine T0 (Qnp s1 v2 (h_s1)) (fun x_1 hv2=>?_)
 exact T3
theorem QoP (v1:(List Int))(v2:Int)(v3:Int)(h_v1:(QQ (fun _=>True)) v1)(hp0:0≤v2)(hp1:v2<v1.length):Qi (QeJ v1 v2 v3) fun r=>True:=by
 unfold QeJ
 refine T0 (T5 (by simp_all;omega)) (fun _ _=>?_)
 refine T0 (QlE ((v1.drop 0).take (v2.toNat-0)) v3 (((h_v1).drop _).take _)) (fun x_1 hv2=>?_)
 exact T3
theorem QqB (v1:Qm)(v2:Int)(v3:Int)(v4:(List Int))(v5:Int)(v6:Int)(h_v1:QF v1)(h_v4:(QQ (fun _=>True)) v4)(hp0:0≤v5)(hp1:v5<v4.length):Qi (QgB v1 v2 v3 v4 v5 v6) fun r=>True:=by
 unfold QgB
 refine T0 (QoO v1 v2 (h_v1)) (fun x_1 hv2=>?_)
 refine T1 (fun hc3=>?_) (fun hc3=>?_)
 ·exact T3
 refine T0 (QoP v4 v5 v2 (h_v4) (by omega) (by omega)) (fun x_4 hv5=>?_)
 refine T1 (fun hc6=>?_) (fun hc6=>?_)
 ·exact T3
 exact T3
theorem QpS (k1:Int)(place2:Int)(v3:Qm)(v4:(List Int))(h_v3:QF v3)(h_v4:(QQ (fun _=>True)) v4)(hp0:0≤k1)(hp1:k1<v4.length):Qi (QfN k1 place2 v3 v4) fun r=>True:=by
 unfold QfN
 refine T0 (QqB v3 place2 3 v4 k1 5 (h_v3) (h_v4) (by omega) (by omega)) (fun x_1 hv2=>?_)
 exact T3
theorem QqC (l1:(List Int))(v2:Qm)(v3:(List Int))(h_l1:(QQ (fun _=>True)) l1)(h_v2:QF v2)(h_v3:(QQ (fun _=>True)) v3)(hp0:l1.length≤v3.length):Qi (QgC l1 v2 v3) fun r=>True:=by
 unfold QgC
 refine T0 (Qi.up (l1.length) (fun st=>st) (fun _=>True) (Q:=fun q=>True) rfl trivial (fun i2 st hi3 hn4 hj5=>?_)) (fun q6 hq7=>?_)
 ·obtain⟨x_1,hst⟩:∃y,y=st:=⟨_,rfl⟩
  subst hst
  replace hi3:x_1=(i2:Int):=hi3
  show Qi (QeK l1 v2 v3 x_1) _
  unfold QeK
  refine T1 (fun hc8=>?_) (fun hc8=>?_)
  ·refine T0 (T4 (by omega) (by simp_all)) (fun e_9 hv10=>?_)
   refine T0 (QpS x_1 e_9 v2 v3 (h_v2) (h_v3) (by omega) (by simp_all;omega)) (fun x_11 hv12=>?_)
   refine T1 (fun hc13=>?_) (fun hc13=>?_)
   ·exact T2 (Qs trivial)
   exact T2 (QE ⟨(by simp_all),by subst hi3;exact Qx (by simp_all) (h_l1).1,trivial⟩)
  exact T2 (Qs trivial)
 rcases q6 with q6 | q6
 ·show Qi (QeL q6.1 q6.2) _
  unfold QeL
  exact T3
 show Qi (QeM) _
 unfold QeM
 exact T3
theorem Qrr (n1:Qm)(l2:(List Int))(h_n1:QF n1)(h_l2:(QQ (fun _=>True)) l2):Qi (QhA n1 l2) fun r=>True:=by
 unfold QhA
 refine T0 (QqC l2 n1 l2 (h_l2) (h_n1) (h_l2) (by omega)) (fun x_1 hv2=>?_)
 exact T3
theorem Qrs (v1:Qm)(v2:Qv)(h_v1:QF v1)(h_v2:Qad v2):Qi (QhB v1 v2) fun r=>True:=by
 unfold QhB
 refine T0 (Qrr v1 v2.Cancel (h_v1) (h_v2.2.2.2.2.2.2.2.1)) (fun x_1 hv2=>?_)
 exact T3
theorem Qpt (v1:Qm)(v2:Qv)(v3:Int)(h_v1:QF v1)(h_v2:Qad v2):Qi (Qe7 v1 v2 v3) fun r=>True:=by
 unfold Qe7
 refine T0 (Qrs v1 v2 (h_v1) (h_v2)) (fun x_1 hv2=>?_)
 exact T3
theorem Ql9 (k1:Int)(l2:(List QT))(h_l2:(QQ Qjk) l2):Qi (QdQ k1 l2) fun r=>True:=by
 unfold QdQ
 exact T3
theorem Qs6 (t1:Qv)(h_t1:Qad t1):Qi (QgR t1) fun r=>True:=by
 unfold QgR
 refine T0 (P:=fun _=>True) ?_ (fun x_1 hv2=>?_)
 ·unfold Qna
  refine T0 (Ql9 t1.Join t1.Ins (h_t1.2.2.2.2.2.1)) (fun x_3 hv4=>?_)
  refine T1 (fun hc5=>?_) (fun hc5=>?_)
  ·refine T0 (Ql9 t1.Split t1.Outs (h_t1.2.2.2.2.2.2.1)) (fun x_6 hv7=>?_)
   refine T1 (fun hc8=>?_) (fun hc8=>?_)
   ·refine T1 (fun hc9=>?_) (fun hc9=>?_)
    ·refine T1 (fun hc10=>?_) (fun hc10=>?_)
     ·exact T3
     exact T3
    exact T3
   exact T3
  exact T3
 unfold QgD
 exact T3
theorem Qrt (v1:Qv)(h_v1:Qad v1):Qi (QhC v1) fun r=>True:=by
 unfold QhC
 refine T0 (Qs6 v1 (h_v1)) (fun x_1 hv2=>?_)
 exact T3
theorem QqD (v1:Qv)(v2:Int)(v3:Qm)(v4:Int)(v5:Int)(v6:Int)(v7:Int)(v8:Int)(v9:Int)(v10:Int)(v11:Int)(v12:Int)(v13:Int)(v14:Int)(v15:Int)(h_v1:Qad v1)(h_v3:QF v3)(hp0:0≤v4)(hp1:v4<v3.Tasks.length):Qi (Qez v1 v2 v3 v4 v5 v6 v7 v8 v9 v10 v11 v12 v13 v14 v15) fun r=>True:=by
 unfold Qez
 refine T0 (Qsa v1 (h_v1)) (fun x_1 hv2=>?_)
 refine T1 (fun hc3=>?_) (fun hc3=>?_)
 ·exact T3
 refine T0 (Qsc v3 v4 v1 (h_v3) (h_v1) (by omega) (by omega)) (fun x_4 hv5=>?_)
 refine T1 (fun hc6=>?_) (fun hc6=>?_)
 ·exact T3
 refine T0 (Qsd v6 v1 (h_v1)) (fun x_7 hv8=>?_)
 refine T1 (fun hc9=>?_) (fun hc9=>?_)
 ·exact T3
 refine T0 (Qrq v3 v1 v8 (h_v3) (h_v1)) (fun x_10 hv11=>?_)
 refine T1 (fun hc12=>?_) (fun hc12=>?_)
 ·exact T3
 refine T0 (Qsf v3 v4 (h_v3)) (fun x_13 hv14=>?_)
 refine T1 (fun hc15=>?_) (fun hc15=>?_)
 ·exact T3
 refine T0 (Qsg v1 v6 (h_v1)) (fun x_16 hv17=>?_)
 refine T1 (fun hc18=>?_) (fun hc18=>?_)
 ·exact T3
 refine T0 (Qpr v3 v1 v6 x_10.2 (h_v3) (h_v1)) (fun x_19 hv20=>?_)
 refine T1 (fun hc21=>?_) (fun hc21=>?_)
 ·exact T3
 refine T0 (Qps v3 v1 v6 x_19.2 (h_v3) (h_v1)) (fun x_22 hv23=>?_)
 refine T1 (fun hc24=>?_) (fun hc24=>?_)
 ·exact T3
 refine T0 (Qpt v3 v1 x_22.2 (h_v3) (h_v1)) (fun x_25 hv26=>?_)
 refine T1 (fun hc27=>?_) (fun hc27=>?_)
 ·exact T3
 refine T0 (Qrt v1 (h_v1)) (fun x_28 hv29=>?_)
 refine T1 (fun hc30=>?_) (fun hc30=>?_)
 ·exact T3
 exact T3
theorem QoQ (n1:Qm)(k2:Int)(h_n1:QF n1):Qi (QbY n1 k2) fun r=>True:=by
 unfold QbY
 refine T0 (Qh8 n1.Tasks k2 (h_n1.2.2.1)) (fun x_1 hv2=>?_)
 refine T1 (fun hc3=>?_) (fun hc3=>?_)
 ·exact T3
 refine T0 (Ql8 n1 (h_n1)) (fun x_4 hv5=>?_)
 refine T1 (fun hc6=>?_) (fun hc6=>?_)
 ·exact T3
 refine T0 (T4 (by simp_all) (by simp_all)) (fun e_7 hv8=>?_)
 refine T0 (T4 (by simp_all) (by simp_all)) (fun e_9 hv10=>?_)
 refine T0 (Qs4 0 n1 e_7 (h_n1) (((h_n1.2.2.1).2 e_7 hv8))) (fun x_11 hv12=>?_)
 refine T0 (Qqu 0 n1 e_7 (e_9.Vars.length:Int) (h_n1) (((h_n1.2.2.1).2 e_7 hv8))) (fun x_13 hv14=>?_)
 refine T0 (Qqv 0 n1 e_7 (e_9.Vars.length:Int) (h_n1) (((h_n1.2.2.1).2 e_7 hv8))) (fun x_15 hv16=>?_)
 refine T0 (Qqw 0 n1 e_7 (h_n1) (((h_n1.2.2.1).2 e_7 hv8))) (fun x_17 hv18=>?_)
 refine T0 (QqD e_7 1 n1 k2 5 (e_9.Vars.length:Int) 2 0 (-1) 2 1 (-1) (-1) (-1) 11 (((h_n1.2.2.1).2 e_7 hv8)) (h_n1) (by simp_all) (by simp_all)) (fun x_19 hv20=>?_)
 refine T1 (fun hc21=>?_) (fun hc21=>?_)
 ·exact T3
 exact T3
theorem Qs7 (k1:Int)(p2:Qv)(v3:Qm)(h_p2:Qad p2)(h_v3:QF v3):Qi (QgS k1 p2 v3) fun r=>True:=by
 unfold QgS
 refine T0 (QoQ v3 k1 (h_v3)) (fun x_1 hv2=>?_)
 exact T3
theorem QnA (l1:(List Qv))(v2:Qm)(h_l1:(QQ Qad) l1)(h_v2:QF v2):Qi (QbA l1 v2) fun r=>True:=by
 unfold QbA
 refine T0 (Qi.up (l1.length) (fun st=>st) (fun _=>True) (Q:=fun q=>True) rfl trivial (fun i2 st hi3 hn4 hj5=>?_)) (fun q6 hq7=>?_)
 ·obtain⟨x_1,hst⟩:∃y,y=st:=⟨_,rfl⟩
  subst hst
  replace hi3:x_1=(i2:Int):=hi3
  show Qi (QaZ l1 v2 x_1) _
  unfold QaZ
  refine T1 (fun hc8=>?_) (fun hc8=>?_)
  ·refine T0 (T4 (by omega) (by simp_all)) (fun e_9 hv10=>?_)
   refine T0 (Qs7 x_1 e_9 v2 (((h_l1).2 e_9 hv10)) (h_v2)) (fun x_11 hv12=>?_)
   refine T1 (fun hc13=>?_) (fun hc13=>?_)
   ·exact T2 (Qs trivial)
   exact T2 (QE ⟨(by simp_all),by subst hi3;exact Qx (by simp_all) (h_l1).1,trivial⟩)
  exact T2 (Qs trivial)
 rcases q6 with q6 | q6
 ·show Qi (QcG q6.1 q6.2) _
  unfold QcG
  exact T3
 show Qi (QcH) _
 unfold QcH
 exact T3
theorem Qug (n1:Qm)(h_n1:QF n1):Qi (QgX n1) fun r=>True:=by
 unfold QgX
 refine T0 (QsX n1 2 3 1 (h_n1)) (fun x_1 hv2=>?_)
 refine T1 (fun hc3=>?_) (fun hc3=>?_)
 ·exact T3
 refine T0 (Ql8 n1 (h_n1)) (fun x_4 hv5=>?_)
 refine T1 (fun hc6=>?_) (fun hc6=>?_)
 ·exact T3
 refine T0 (Qnm n1.Places n1 (h_n1.2.1) (h_n1)) (fun x_7 hv8=>?_)
 refine T1 (fun hc9=>?_) (fun hc9=>?_)
 ·exact T3
 refine T0 (QnA n1.Tasks n1 (h_n1.2.2.1) (h_n1)) (fun x_10 hv11=>?_)
 refine T1 (fun hc12=>?_) (fun hc12=>?_)
 ·exact T3
 exact T3
end Go.Proofs
noncomputable section
namespace Go.Proofs
open Go Go.RowKit Go.Vm
theorem Qu0 (b:List (Int×Int))(h:b.length≤maxLen):Qfn b=some (rtF (-1) b):=by
 unfold Qfn
 have h1:=Qf7 (body:=fun st=>QbM b st.1 st.2) (l:=b) (ρ:=Unit⊕Unit) (fun i (t:Int)=>(t,(i:Int)))
  (fun i t x=>bif ((decide (x.1≤t))||((decide (x.2<1))||(decide (1048576<x.2))))then .inr (.inl ())else .inl x.1) (fun _=>.inr ())
  (fun i t x hi hx=>by
   show QbM b t i=_
   unfold QbM
   rw [QZ (by omega:(i:Int)<b.length),cond_true,Qac,hx,Qn]
   cases ((decide (x.1≤t))||((decide (x.2<1))||(decide (1048576<x.2))))with
   | true=>rfl
   | false=>simp only [cond_false,Sum.elim_inl];rw [Qx hi h])
  (fun t=>by
   show QbM b t b.length=_
   unfold QbM
   rw [Q0 (by omega)];rfl) (-1) (s0:=(-1,0)) rfl
 rw [h1]
 have:∀(l:List (Int×Int)) (k:Nat) (t:Int),Qby (fun i t (x:Int×Int)=>(bif ((decide (x.1≤t))||((decide (x.2<1))||(decide (1048576<x.2))))then .inr (.inl ())else .inl x.1:Int⊕(Unit⊕Unit))) (fun _=>.inr ()) k t l=bif rtF t l then .inr ()else .inl ():=by
  intro l
  induction l with
  | nil=>intro k t;rfl
  | cons x l ih=>
   intro k t
   rw [Qby,rtF]
   cases ((decide (x.1≤t))||((decide (x.2<1))||(decide (1048576<x.2))))with
   | true=>rfl
   | false=>simp only [cond_false,Sum.elim_inl,Bool.not_false,Bool.true_and];exact ih _ _
 rw [this]
 cases rtF (-1) b<;>rfl
theorem QwF (b:List (Int×Int))(h:b.length≤maxLen):Qpg b=some (bif rtF (-1) b then .inr b else .inl ()):=by
 unfold Qpg
 rw [Qu0 b h,Qn]
 cases hr:rtF (-1) b with
 | false=>rfl
 | true=>
  simp only [Bool.not_true,cond_false,cond_true]
  have ha:=(Qyn.1 hr).1
  obtain⟨r,h1,h2⟩:=Qvo (body:=fun st=>Qfo b st.1 st.2) b.length (fun i s=>s=((i:Int),b.take i)) (fun r=>r=b)
   (fun i s hi hs=>by
    subst hs
    refine .inl ⟨(((i+1:Nat):Int),b.take (i+1)),?_,rfl⟩
    show Qfo b i (b.take i)=_
    unfold Qfo
    rw [QZ (by omega:(i:Int)<b.length),cond_true,Qac,QH hi,Qn,Qx hi h]
    have e:b.take (i+1)=b.take i++[b[i]]:=by rw [Qk0,QH hi];rfl
    rw [e,←Qxm (by have:=(ha.sublist (List.take_sublist (i+1) b));rw [e]at this;exact this)])
   (fun s hs=>by
    subst hs
    refine⟨_,?_,rfl⟩
    show Qfo b b.length (b.take b.length)=_
    unfold Qfo
    rw [Q0 (by omega),List.take_length];rfl) (0,[]) rfl
  rw [h1,h2];rfl
end Go.Proofs
noncomputable section
namespace Go.Proofs
open Go Go.RowKit Go.Vm
theorem Qvp : ∀(n:Nat) (e:Qk) (d:Int),QcK e→SizeOf.sizeOf e≤n→Qi (QdV n e d) fun _=>True
 | 0,e,_,_,h=>absurd e.pos (by omega)
 | n+1,e,d,he,h=>by
  unfold QdV QlI
  refine T1 (fun _=>T3) fun _=>?_
  refine T0 (Qi.up e.Kids.length (fun st=>st.2) (fun _=>True) (Q:=fun _=>True) rfl trivial (fun i st hi hn _=>?_)) (fun q _=>?_)
  ·obtain⟨a,x⟩:=st
   replace hi:x=(i:Int):=hi
   show Qi (Qix e (QdV n) d a x) _
   unfold Qix
   refine T1 (fun hc=>?_) (fun hc=>T2 (Qs trivial))
   simp only [QS]at hc
   refine T0 (T4 (by omega) (by omega)) fun k hk=>?_
   have:=QsT hk
   refine T0 (Qvp n k _ ((QdE he).2 k hk) (by omega)) fun y _=>?_
   refine T1 (fun _=>T2 (Qs trivial)) fun _=>T1 (fun _=>T2 (Qs trivial)) fun _=>?_
   exact T2 (QE ⟨by omega,by subst hi;exact Qx (by omega) (QdE he).1,trivial⟩)
  rcases q with q | q
  ·exact T3
  exact T3
theorem QtJ (e:Qk)(he:QcK e):Qi (QgW e) fun _=>True:=by
 unfold QgW Qn8
 exact T0 (Qvp _ e 60 he (Qb0 _)) fun _ _=>T3
theorem QxN (n1:Qm)(h:QF n1)(q0:Int):Qi (Qhn n1 q0) fun r=>r=true→q0≤400:=by
 unfold Qhn
 refine T0 (Qi.up n1.Tasks.length (fun st=>st.2) (fun _=>True) (Q:=fun _=>True) rfl trivial (fun i st hi hn _=>?_)) (fun q _=>?_)
 ·obtain⟨a,x⟩:=st
  replace hi:x=(i:Int):=hi
  show Qi (Qhm n1 a x) _
  unfold Qhm
  refine T1 (fun hc=>?_) (fun _=>T2 (Qs trivial))
  simp only [QS]at hc
  refine T0 (T4 (by omega) (by omega)) fun e he=>?_
  have ke:=h.2.2.1.2 e he
  refine T1 (fun _=>T2 (Qs trivial)) fun _=>?_
  refine T0 (Qi.up e.Vars.length (fun st=>st) (fun _=>True) (Q:=fun _=>True) rfl trivial (fun i2 st hi2 hn2 _=>?_)) (fun q _=>?_)
  ·show Qi (Qhg e st) _
   unfold Qhg
   refine T1 (fun hc=>?_) (fun _=>T2 (Qs trivial))
   simp only [QS]at hc
   refine T0 (T4 (by omega) (by omega)) fun s _=>?_
   exact T1 (fun _=>T2 (Qs trivial)) fun _=>T2 (QE ⟨by omega,by rw [hi2];exact Qx (by omega) ke.2.1.1,trivial⟩)
  rcases q with q | q
  ·exact T2 (Qs trivial)
  show Qi (Qhl e a x) _
  unfold Qhl
  refine T0 (QtJ e.Guard ke.2.2.1) fun g _=>?_
  refine T0 (Qi.up e.Ins.length (fun st=>st.2) (fun _=>True) (Q:=fun _=>True) rfl trivial (fun i2 st hi2 hn2 _=>?_)) (fun q _=>?_)
  ·obtain⟨b,y⟩:=st
   replace hi2:y=(i2:Int):=hi2
   show Qi (Qhh e b y) _
   unfold Qhh
   refine T1 (fun hc=>?_) (fun _=>T2 (Qs trivial))
   simp only [QS]at hc
   refine T0 (T4 (by omega) (by omega)) fun s hs=>?_
   refine T0 (QtJ s.Expr (ke.2.2.2.2.2.1.2 s hs).2) fun g _=>?_
   exact T2 (QE ⟨by omega,by subst hi2;exact Qx (by omega) ke.2.2.2.2.2.1.1,trivial⟩)
  show Qi (Qhk e a x q) _
  unfold Qhk
  refine T0 (Qi.up e.Outs.length (fun st=>st.2) (fun _=>True) (Q:=fun _=>True) rfl trivial (fun i2 st hi2 hn2 _=>?_)) (fun q _=>?_)
  ·obtain⟨b,y⟩:=st
   replace hi2:y=(i2:Int):=hi2
   show Qi (Qhi e b y) _
   unfold Qhi
   refine T1 (fun hc=>?_) (fun _=>T2 (Qs trivial))
   simp only [QS]at hc
   refine T0 (T4 (by omega) (by omega)) fun s hs=>?_
   refine T0 (QtJ s.Expr (ke.2.2.2.2.2.2.1.2 s hs).2) fun g _=>?_
   exact T2 (QE ⟨by omega,by subst hi2;exact Qx (by omega) ke.2.2.2.2.2.2.1.1,trivial⟩)
  show Qi (Qhj a e x q) _
  unfold Qhj
  exact T1 (fun _=>T2 (Qs trivial)) fun _=>T2 (QE ⟨by omega,by subst hi;exact Qx (by omega) h.2.2.1.1,trivial⟩)
 rcases q with q | q
 ·exact T2 fun h=>by cases h
 exact T2 fun h=>by simpa using h
theorem QxO (n1:Qm)(h:QF n1):Qi (Qjg n1) fun r=>r=true→n1.Colours.length≤40∧n1.Places.length≤70∧n1.Tasks.length≤70:=by
 unfold Qjg
 refine T1 (fun _=>T2 fun h=>by cases h) fun hc=>?_
 simp only [QdF,Qbc]at hc
 refine T6 (P:=fun _=>True) ?_ fun _ _ _=>by omega
 refine T0 (Qi.up n1.Colours.length (fun st=>st.2) (fun _=>True) (Q:=fun _=>True) rfl trivial (fun i st hi hn _=>?_)) (fun q _=>?_)
 ·obtain⟨a,x⟩:=st
  replace hi:x=(i:Int):=hi
  show Qi (QiA n1 a x) _
  unfold QiA
  refine T1 (fun hc=>?_) (fun _=>T2 (Qs trivial))
  simp only [QS]at hc
  refine T0 (T4 (by omega) (by omega)).self fun e he=>?_
  obtain⟨he,hm⟩:=he
  refine T0 (P:=fun _=>True) ?_ fun y _=>?_
  ·unfold Qoy
   rw [he,Qn]
   exact T1 (fun _=>T3) fun _=>T3
  unfold Qiz
  refine T1 (fun _=>T2 (Qs trivial)) fun _=>?_
  refine T0 (Qi.up e.Names.length (fun st=>st) (fun _=>True) (Q:=fun _=>True) rfl trivial (fun i2 st hi2 hn2 _=>?_)) (fun q _=>?_)
  ·show Qi (Qiy n1 x st) _
   unfold Qiy
   simp only [he,Qn]
   refine T1 (fun hc=>?_) (fun _=>T2 (Qs trivial))
   simp only [QS]at hc
   refine T0 (T4 (by omega) (by omega)) fun s _=>?_
   refine T1 (fun _=>T2 (Qs trivial)) fun _=>?_
   exact T2 (QE ⟨by omega,by rw [hi2];exact Qx (by omega) (h.1.2 e hm).2.2.2.2.1.1,trivial⟩)
  rcases q with q | q
  ·exact T2 (Qs trivial)
  exact T2 (QE ⟨by omega,by subst hi;exact Qx (by omega) h.1.1,trivial⟩)
 rcases q with q | q
 ·exact T3
 show Qi (Qho n1 q) _
 unfold Qho
 refine T0 (Qi.up n1.Places.length (fun st=>st.2) (fun _=>True) (Q:=fun _=>True) rfl trivial (fun i st hi hn _=>?_)) (fun q _=>?_)
 ·obtain⟨a,x⟩:=st
  replace hi:x=(i:Int):=hi
  show Qi (QiB n1 a x) _
  unfold QiB
  refine T1 (fun hc=>?_) (fun _=>T2 (Qs trivial))
  simp only [QS]at hc
  refine T0 (T4 (by omega) (by omega)) fun e _=>?_
  refine T0 (T4 (by omega) (by omega)) fun e2 _=>?_
  exact T1 (fun _=>T2 (Qs trivial)) fun _=>T2 (QE ⟨by omega,by subst hi;exact Qx (by omega) h.2.1.1,trivial⟩)
 rcases q with q | q
 ·exact T3
 exact(QxN n1 h q).mono fun _ _=>trivial
theorem QxP (m:List (List (Int×Int)))(h:m.length≤maxLen):Qi (QgY m) fun _=>True:=by
 unfold QgY
 refine T0 (Qi.up m.length (fun st=>st.2) (fun _=>True) (Q:=fun _=>True) rfl trivial (fun i st hi hn _=>?_)) (fun q _=>T3)
 obtain⟨a,x⟩:=st
 replace hi:x=(i:Int):=hi
 show Qi (QiQ m a x) _
 unfold QiQ
 refine T1 (fun hc=>?_) (fun _=>T2 (Qs trivial))
 simp only [Qw,QS]at hc
 refine T0 (T4 (by omega) (by omega)) fun e _=>?_
 exact T2 (QE ⟨by omega,by subst hi;exact Qx (by omega) h,trivial⟩)
def MOk (n:Qm)(c:Nat)(m:List (List (Int×Int))):Prop:=m.length=n.Places.length∧∀b∈m,Rt b∧b.length≤c
theorem MOk.mono {n:Qm}{c c':Nat}{m:List (List (Int×Int))}(h:MOk n c m)(hc:c≤c'):MOk n c' m:=⟨h.1,fun b hb=>⟨(h.2 b hb).1,QdG (h.2 b hb).2 hc⟩⟩
structure QnY (n:Qm):Prop where
 k:QF n
 pl:n.Places.length≤70
 tl:n.Tasks.length≤12
 tk:∀t∈n.Tasks,t.Vars.length≤16∧t.Ins.length≤16∧t.Outs.length≤16∧t.Cancel.length≤16
theorem QwG (n1:Qm)(k2:Int)(h:QbY n1 k2=some 0):∃t,idx n1.Tasks k2=some t∧t.Vars.length≤16∧t.Ins.length≤16∧t.Outs.length≤16∧t.Cancel.length≤16:=by
 unfold QbY at h
 obtain⟨x5,_,h⟩:=Qc h
 rcases Qq h with⟨_,h⟩|⟨_,h⟩
 ·cases h
 obtain⟨x7,_,h⟩:=Qc h
 rcases Qq h with⟨c,h⟩|⟨_,h⟩
 ·simp only [Option.some.injEq]at h;rw [h]at c;cases c
 obtain⟨e9,he9,h⟩:=Qc h
 obtain⟨e10,he10,h⟩:=Qc h
 rw [he9]at he10;cases he10
 obtain⟨_,_,h⟩:=Qc h
 obtain⟨_,_,h⟩:=Qc h
 obtain⟨_,_,h⟩:=Qc h
 obtain⟨_,_,h⟩:=Qc h
 obtain⟨x15,hx,h⟩:=Qc h
 have bad:∀a b:Int,0<a→x15=(a,b)→False:=fun a b ha e=>by
  subst e
  simp only at h
  rcases Qq h with⟨c,h⟩|⟨_,h⟩
  ·simp only [beq_iff_eq]at c;omega
  simp only [Option.some.injEq]at h;omega
 unfold Qez at hx
 obtain⟨x20,_,hx⟩:=Qc hx
 rcases Qq hx with⟨_,hx⟩|⟨_,hx⟩
 ·exact(bad _ _ (by decide) (Option.some.inj hx).symm).elim
 obtain⟨x22,_,hx⟩:=Qc hx
 rcases Qq hx with⟨_,hx⟩|⟨_,hx⟩
 ·exact(bad _ _ (by decide) (Option.some.inj hx).symm).elim
 obtain⟨x24,h24,hx⟩:=Qc hx
 rcases Qq hx with⟨_,hx⟩|⟨c,hx⟩
 ·exact(bad _ _ (by decide) (Option.some.inj hx).symm).elim
 unfold QfW at h24
 simp only [Option.some.injEq]at h24
 rw [←h24]at c
 simp only [Qjm,Qw,QS,QiS]at c
 exact⟨e9,he9,by omega,by omega,by omega,by omega⟩
theorem Qvk (l1:List Qv)(n1:Qm)(h:QF n1)(hl:QQ Qad l1):Qi (QbA l1 n1) fun r=>r.2=0→∀(j:Nat),j<l1.length→QbY n1 j=some 0:=by
 unfold QbA
 refine T0 (Qi.up l1.length (fun st=>st) (fun st=>∀(j:Nat),(j:Int)<st→QbY n1 j=some 0) (Q:=fun q=>(∀a b,q=.inl (a,b)→b≠0)∧(q=.inr ()→∀(j:Nat),j<l1.length→QbY n1 j=some 0)) rfl (fun j hj=>by omega) (fun i st hi hn hJ=>?_)) (fun q hq=>?_)
 ·show Qi (QaZ l1 n1 st) _
  unfold QaZ
  refine T1 (fun hc=>?_) (fun hc=>T2 (Qs ⟨fun a b h=>(by cases h),fun _ j hj=>by
   simp only [Qbc]at hc
   exact hJ j (by omega)⟩))
  simp only [QS]at hc
  refine T0 (T4 (by omega) (by omega)) fun e he=>?_
  refine T0 (P:=fun x=>QbY n1 st=some x) ?_ fun x hx=>?_
  ·unfold QgS
   exact T0 (QoQ n1 st h).self fun x hx=>T2 hx.1
  refine T1 (fun hc=>T2 (Qs ⟨fun a b h=>(by cases h;simpa using hc),fun h=>(by cases h)⟩)) fun hc=>?_
  simp only [bne_eq_false_iff_eq]at hc
  refine T2 (QE ⟨by omega,by rw [hi];exact Qx (by omega) hl.1,fun j hj=>?_⟩)
  rw [hi,Qx (show i<l1.length by omega) hl.1]at hj
  by_cases c:j=i
  ·subst c;rw [←hi,hx,hc]
  exact hJ j (by omega)
 rcases q with q | q
 ·exact T2 fun h=>absurd h (hq.1 q.1 q.2 rfl)
 exact T2 fun _=>hq.2 rfl
theorem QwH (n1:Qm)(h:QF n1){p:QeD}(hn:QgX n1=some (0,p)):∀t∈n1.Tasks,t.Vars.length≤16∧t.Ins.length≤16∧t.Outs.length≤16∧t.Cancel.length≤16:=by
 unfold QgX at hn
 obtain⟨x6,_,hn⟩:=Qc hn
 rcases Qq hn with⟨c,hn⟩|⟨_,hn⟩
 ·simp only [Option.some.injEq,Prod.mk.injEq]at hn;rw [hn.1]at c;cases c
 obtain⟨x8,_,hn⟩:=Qc hn
 rcases Qq hn with⟨c,hn⟩|⟨_,hn⟩
 ·simp only [Option.some.injEq,Prod.mk.injEq]at hn;rw [hn.1]at c;cases c
 obtain⟨x10,_,hn⟩:=Qc hn
 rcases Qq hn with⟨c,hn⟩|⟨_,hn⟩
 ·simp only [Option.some.injEq,Prod.mk.injEq]at hn;rw [hn.1]at c;cases c
 obtain⟨x12,h12,hn⟩:=Qc hn
 rcases Qq hn with⟨c,hn⟩|⟨c,hn⟩
 ·simp only [Option.some.injEq,Prod.mk.injEq]at hn;rw [hn.1]at c;cases c
 simp only [bne_eq_false_iff_eq]at c
 obtain⟨r,hr,hr2⟩:=Qvk n1.Tasks n1 h h.2.2.1
 rw [h12]at hr;cases hr
 intro t ht
 obtain⟨j,hj,rfl⟩:=Qss.1 ht
 obtain⟨t,h1,h2⟩:=QwG n1 j (hr2 c j hj)
 rw [Qac,QH hj]at h1
 cases h1
 exact h2
end Go.Proofs
noncomputable section
namespace Go.Proofs
open Go Go.RowKit Go.Vm
theorem MOk.len {n:Qm}{c:Nat}{m:List (List (Int×Int))}(h:MOk n c m)(hn:QnY n)(hc:c≤1000000):QQ (QQ fun _=>True) m:=
 ⟨by have:=h.1;have:=hn.pl;unfold maxLen;omega,fun b hb=>⟨by have:=(h.2 b hb).2;unfold maxLen;omega,fun _ _=>trivial⟩⟩
end Go.Proofs
noncomputable section
namespace Go.Proofs
open Go Go.RowKit Go.Vm
def InI (a:Int):Prop:=-9223372036854775808≤a∧a≤9223372036854775807
instance (a : Int):Decidable (InI a):=by unfold InI;infer_instance
theorem Qq0 (x:Int):IntKind.u64.wrap x=x % 18446744073709551616:=rfl
theorem QgH {x:Int}(h:0≤x∧x<18446744073709551616):IntKind.u64.wrap x=x:=by rw [Qq0];omega
theorem Qs8 {x:Int}(h:0≤x):QcR .u64 x 32=x / 4294967296:=by
 unfold QcR
 rw [show min ((32:Int).toNat) (IntKind.bits .u64)=32 from rfl,Int.fdiv_eq_ediv_of_nonneg _ (by decide)]
 rfl
theorem Qv1 {x:Int}(h:0≤x∧x<18446744073709551616):Qcy .u64 x 4294967295=x % 4294967296:=by
 unfold Qcy
 have e:((BitVec.ofInt (IntKind.bits .u64) x &&& BitVec.ofInt (IntKind.bits .u64) 4294967295).toNat:Int)=x % 4294967296:=by
  rw [BitVec.toNat_and,BitVec.toNat_ofInt,BitVec.toNat_ofInt]
  have h1:(x % ((2:Nat) ^ (IntKind.bits .u64):Nat)).toNat=x.toNat:=by
   show(x % 18446744073709551616).toNat=x.toNat
   omega
  have h2:((4294967295:Int) % ((2:Nat) ^ (IntKind.bits .u64):Nat)).toNat=2 ^ 32-1:=by decide
  rw [h1,h2,Nat.and_two_pow_sub_one_eq_mod]
  omega
 rw [e]
 exact QgH (by omega)
theorem Qs9 {x y:Int}(hx:0≤x∧x≤4294967295)(hy:0≤y∧y≤4294967295):0≤x*y∧x*y≤18446744065119617025:=by
 refine⟨Int.mul_nonneg hx.1 hy.1,?_⟩
 have:=Int.mul_le_mul hx.2 hy.2 hy.1 (by decide)
 omega
theorem Qv2 {x y:Int}(hx:0≤x∧x<18446744073709551616)(hy:0≤y∧y<18446744073709551616):QfB x y=some (x*y / 18446744073709551616,x*y % 18446744073709551616):=by
 unfold QfB
 rw [Qs8 hx.1,Qs8 hy.1,Qv1 hx,Qv1 hy,Qq0 (x*y)]
 have e:x*y=(x / 4294967296)*(y / 4294967296)*18446744073709551616+((x / 4294967296)*(y % 4294967296)+(x % 4294967296)*(y / 4294967296))*4294967296+(x % 4294967296)*(y % 4294967296):=by
  have h1:x=(x / 4294967296)*4294967296+x % 4294967296:=by omega
  have h2:y=(y / 4294967296)*4294967296+y % 4294967296:=by omega
  generalize x / 4294967296=a at *
  generalize x % 4294967296=b at *
  generalize y / 4294967296=c at *
  generalize y % 4294967296=d at *
  subst h1 h2
  grind
 rw [e]
 have b1:=Qs9 (x:=x / 4294967296) (y:=y / 4294967296) (by omega) (by omega)
 have b2:=Qs9 (x:=x / 4294967296) (y:=y % 4294967296) (by omega) (by omega)
 have b3:=Qs9 (x:=x % 4294967296) (y:=y / 4294967296) (by omega) (by omega)
 have b4:=Qs9 (x:=x % 4294967296) (y:=y % 4294967296) (by omega) (by omega)
 generalize x / 4294967296*(y / 4294967296)=p at *
 generalize x / 4294967296*(y % 4294967296)=q at *
 generalize x % 4294967296*(y / 4294967296)=r at *
 generalize x % 4294967296*(y % 4294967296)=s at *
 rw [QgH (x:=s) (by omega),Qs8 (x:=s) (by omega),QgH (x:=q) (by omega),QgH (x:=q+s / 4294967296) (by omega),Qs8 (x:=q+s / 4294967296) (by omega),Qv1 (x:=q+s / 4294967296) (by omega),QgH (x:=r) (by omega),QgH (x:=p) (by omega),
  QgH (x:=(q+s / 4294967296) % 4294967296+r) (by omega),Qs8 (x:=(q+s / 4294967296) % 4294967296+r) (by omega),QgH (x:=p+(q+s / 4294967296) / 4294967296) (by omega),QgH (by omega)]
 congr 2
 omega
def Qdi (a:Int):Int:=if a<0 then -a else a
theorem Qt0 {a:Int}(h:InI a):Qje a=some (Qdi a):=by
 unfold Qje Qdi InI at *
 by_cases c:a<0
 ·rw [QZ c,cond_true,if_pos c,Qq0,Qq0];congr 1;omega
 rw [Q0 c,cond_false,if_neg c,Qq0];congr 1;omega
theorem Qvq (a b:Int):Qdi a*Qdi b=Qdi (a*b):=by
 unfold Qdi
 by_cases c1:a<0<;>by_cases c2:b<0
 ·rw [if_pos c1,if_pos c2,if_neg (by have:=Int.mul_pos_of_neg_of_neg c1 c2;omega),Int.neg_mul_neg]
 ·rw [if_pos c1,if_neg c2]
  by_cases c3:b=0
  ·subst c3;simp
  rw [if_pos (Int.mul_neg_of_neg_of_pos c1 (by omega)),Int.neg_mul]
 ·rw [if_neg c1,if_pos c2]
  by_cases c3:a=0
  ·subst c3;simp
  rw [if_pos (Int.mul_neg_of_pos_of_neg (by omega) c2),Int.mul_neg]
 rw [if_neg c1,if_neg c2,if_neg (by have:=Int.mul_nonneg (show 0≤a by omega) (show 0≤b by omega);omega)]
def Qkx (a b:Int):Int×Int:=if InI (a*b)then(a*b,0)else(0,6)
theorem Qu1 {a b:Int}(ha:InI a)(hb:InI b):Qir a b=some (Qkx a b):=by
 unfold Qir
 have h1:0≤Qdi a∧Qdi a≤9223372036854775808:=by unfold Qdi InI at *;split<;>omega
 have h2:0≤Qdi b∧Qdi b≤9223372036854775808:=by unfold Qdi InI at *;split<;>omega
 have h3:0≤Qdi a*Qdi b:=Int.mul_nonneg h1.1 h2.1
 rw [Qt0 ha,Qn,Qt0 hb,Qn,Qv2 (by omega) (by omega),Qn]
 rw [Qvq]at h3 ⊢
 have sg:(decide (a<0) != decide (b<0))=true∨(decide (a<0) != decide (b<0))=false:=by cases (decide (a<0) != decide (b<0))<;>simp
 have hsg:(decide (a<0) != decide (b<0))=true→a*b≤0:=fun h=>by
  by_cases c1:a<0<;>by_cases c2:b<0<;>simp [c1,c2]at h
  ·exact Int.mul_nonpos_of_nonpos_of_nonneg (by omega) (by omega)
  exact Int.mul_nonpos_of_nonneg_of_nonpos (by omega) (by omega)
 have hsg2:(decide (a<0) != decide (b<0))=false→0≤a*b:=fun h=>by
  by_cases c1:a<0<;>by_cases c2:b<0<;>simp [c1,c2]at h
  ·have:=Int.mul_pos_of_neg_of_neg c1 c2;omega
  exact Int.mul_nonneg (by omega) (by omega)
 have hw:InI (a*b)→w64 (a*b)=a*b:=fun h=>Qaf h
 generalize hm:a*b=m at *
 unfold Qkx
 rw [hm]
 unfold Qdi at h3 ⊢
 rcases sg with c | c
 ·rw [c,cond_true]
  have:=hsg c
  unfold QdZ
  rw [hm,Qq0]
  simp only
  by_cases ci:InI m
  ·rw [if_pos ci,hw ci]
   unfold InI at ci
   rw [Q0 (by split<;>omega),Q0 (by split<;>omega)];rfl
  rw [if_neg ci]
  have:decide (0<(if m<0 then -m else m) / 18446744073709551616)=true∨decide ((9223372036854775807+1) % 18446744073709551616<(if m<0 then -m else m) % 18446744073709551616)=true:=by
   unfold InI at ci
   rw [QS,QS]
   split<;>omega
  rcases this with h | h
  ·rw [h];rfl
  rw [h,Bool.or_true];rfl
 rw [c,cond_false]
 have:=hsg2 c
 unfold QdZ
 rw [hm]
 simp only
 by_cases ci:InI m
 ·rw [if_pos ci,hw ci]
  unfold InI at ci
  rw [Q0 (by split<;>omega),Q0 (by split<;>omega)];rfl
 rw [if_neg ci]
 have:decide (0<(if m<0 then -m else m) / 18446744073709551616)=true∨decide ((9223372036854775807:Int)<(if m<0 then -m else m) % 18446744073709551616)=true:=by
  unfold InI at ci
  rw [QS,QS]
  split<;>omega
 rcases this with h | h
 ·rw [h];rfl
 rw [h,Bool.or_true];rfl
def Qsk (a b:Int):Int×Int:=if InI (a+b)then(a+b,0)else(0,6)
theorem Qxo {a b:Int}(ha:InI a)(hb:InI b):Qmp a b=some (Qsk a b):=by
 unfold Qmp Qsk
 by_cases ci:InI (a+b)
 ·rw [if_pos ci,Qaf ci]
  have:((decide (a<0)==decide (b<0))&&(decide (a+b<0) != decide (a<0)))=false:=by
   by_cases c1:a<0<;>by_cases c2:b<0<;>simp [c1,c2]<;>omega
  rw [this];rfl
 rw [if_neg ci]
 have hw:w64 (a+b)=if a+b<0 then a+b+18446744073709551616 else a+b-18446744073709551616:=by
  rw [Qnj];unfold wrap64 InI at *;split<;>omega
 have:((decide (a<0)==decide (b<0))&&(decide (w64 (a+b)<0) != decide (a<0)))=true:=by
  rw [hw]
  unfold InI at *
  by_cases c1:a<0<;>by_cases c2:b<0<;>by_cases c3:a+b<0<;>simp [c1,c2,c3]<;>omega
 rw [this];rfl
theorem Qyo {a b:Int}(ha:InI a)(hb:InI b):Qe1 3 a b=some (Qkx a b):=by
 unfold Qe1
 rw [show((3:Int)==1)=false from rfl,cond_false,show((3:Int)==2)=false from rfl,cond_false,show((3:Int)==3)=true from rfl,cond_true,Qu1 ha hb];rfl
theorem Qyp {a b:Int}(ha:InI a)(hb:InI b):Qe1 1 a b=some (Qsk a b):=by
 unfold Qe1
 rw [show((1:Int)==1)=true from rfl,cond_true,Qxo ha hb];rfl
end Go.Proofs
noncomputable section
namespace Go.Proofs
open Go Go.RowKit Go.Vm
def Qlc : Int→List (Int×Int)→Int×Int
 | n,[]=>(n,0)
 | n,p::r=>if InI (p.1*p.2)then(if InI (n+p.1*p.2)then Qlc (n+p.1*p.2) r else(0,6))else(0,6)
theorem Qxp {x y t:Int}(v1 v2:Int)(hx:InI x)(hy:InI y)(ht:InI t):Qd6 v1 v2 t (Qfk.mk x y)=some (if InI (x*y)then(if InI (t+x*y)then .inr (t+x*y)else .inl (0,6))else .inl (0,6)):=by
 unfold Qd6
 show(Qe1 3 x y).bind _=_
 rw [Qyo hx hy,Qn]
 unfold Qkx
 by_cases c:InI (x*y)
 ·rw [if_pos c,if_pos c]
  show(Qe1 1 t (x*y)).bind _=_
  rw [Qyp ht c,Qn]
  unfold Qsk
  by_cases c2:InI (t+x*y)
  ·rw [if_pos c2,if_pos c2];rfl
  rw [if_neg c2,if_neg c2];rfl
 rw [if_neg c,if_neg c];rfl
theorem QxQ (a b:List Int)(ha:∀x∈a,InI x)(hb:∀x∈b,InI x)(hl:a.length≤maxLen):(QgL 0 0 0 a b).bind (Sum.elim (fun q=>Qis q) (fun q=>Qit q))=some (Qlc 0 (a.zip b)):=by
 unfold QgL
 have hlen:((a.zip b).length:Int)=min2 (a.length:Int) (b.length:Int):=by rw [List.length_zip];unfold min2;split<;>omega
 have main:=Qms (body:=fun st:Int×Int=>Qb6 a b 0 0 st.1 st.2) (l:=a.zip b) (fun _ (t:Int)=>InI t) (fun i t=>((i:Int),t))
  (fun _ t (p:Int×Int)=>if InI (p.1*p.2)∧InI (t+p.1*p.2)then .inl (t+p.1*p.2)else .inr (.inl (0,6,t))) (fun t=>(.inr t:(Int×Int×Int)⊕Int))
  (fun i t p ht hi hp=>by
   obtain⟨h1,h2⟩:=List.getElem?_zip_eq_some.1 hp
   have hx:=ha _ (QY h1)
   have hy:=hb _ (QY h2)
   refine⟨?_,fun t' e=>?_⟩
   ·show Qb6 a b 0 0 (i:Int) t=_
    unfold Qb6
    rw [QZ (by rw [←hlen];omega),cond_true,Qac,h1,Qn,Qac,h2,Qn,Qxp 0 0 hx hy ht,Qn]
    have hw:w64 ((i:Int)+1)=((i+1:Nat):Int):=Qx (n:=a.length) (QI.1 h1).1 hl
    by_cases c:InI (p.1*p.2)
    ·by_cases c2:InI (t+p.1*p.2)
     ·rw [if_pos c,if_pos c2,if_pos ⟨c,c2⟩]
      show Qgg i _=_
      unfold Qgg;rw [hw];rfl
     rw [if_pos c,if_neg c2,if_neg fun h=>c2 h.2];rfl
    rw [if_neg c,if_neg fun h=>c h.1];rfl
   replace e:(if InI (p.1*p.2)∧InI (t+p.1*p.2)then Sum.inl (t+p.1*p.2)else Sum.inr (.inl (0,6,t)):Int⊕((Int×Int×Int)⊕Int))=.inl t':=e
   split at e
   ·rename_i c;cases e;exact c.2
   cases e)
  (fun t _=>by
   show Qb6 a b 0 0 ((a.zip b).length:Int) t=_
   unfold Qb6
   rw [Q0 (by rw [hlen];omega),cond_false]) 0 (by unfold InI;omega) (s0:=(0,0)) rfl
 rw [main,Qn]
 have key:∀(l:List (Int×Int)) (i:Nat) (t:Int),(Sum.elim (fun q:Int×Int×Int=>QjQ q.1 q.2.1 q.2.2) (fun q=>QjR q) (Qby (fun (_:Nat) (t:Int) (p:Int×Int)=>if InI (p.1*p.2)∧InI (t+p.1*p.2)then .inl (t+p.1*p.2)else .inr (.inl (0,6,t))) (fun t=>(.inr t:(Int×Int×Int)⊕Int)) i t l)).bind (Sum.elim (fun q=>Qis q) (fun q=>Qit q))=some (Qlc t l):=by
  intro l
  induction l with
  | nil=>intro i t;rfl
  | cons p l ih=>
   intro i t
   rw [Qby,Qlc]
   by_cases c:InI (p.1*p.2)
   ·by_cases c2:InI (t+p.1*p.2)
    ·rw [if_pos ⟨c,c2⟩,if_pos c,if_pos c2];exact ih _ _
    rw [if_neg fun h=>c2 h.2,if_pos c,if_neg c2];rfl
   rw [if_neg fun h=>c h.1,if_neg c];rfl
 exact key _ _ _
theorem QwI {a b:List Int}(ha:∀x∈a,InI x)(hb:∀x∈b,InI x)(hl:a.length≤maxLen):Qjf a b=some (Qlc 0 (a.zip b)):=by
 unfold Qjf
 show(QgL 0 0 0 a b).bind _=_
 exact QxQ a b ha hb hl
end Go.Proofs
noncomputable section
namespace Go.Proofs
open Go Go.RowKit Go.Vm
theorem Qyq (n1:Qm)(h:QF n1):Qi (Qku n1) fun r=>r=true→QnY n1∧n1.Places.length≤12∧n1.Tasks.length≤8:=by
 unfold Qku
 refine T0 (QxO n1 h) fun x5 h5=>?_
 refine T1 (fun _=>T2 fun h=>by cases h) fun hc=>?_
 simp only [QdF,Qjm,Qbc]at hc
 have h5:=h5 hc.1
 refine T0 (Qug n1 h).self fun x11 h11=>T2 fun he=>?_
 obtain⟨a,b⟩:=x11
 have:a=0:=by simpa using he
 subst this
 exact⟨⟨h,h5.2.1,by omega,QwH n1 h h11.1⟩,by omega,by omega⟩
def Qta (arcs:Int)(r:List (List Int)):Prop:=r.length≤16∧∀row∈r,row.length≤16∧∀k∈row,0≤k∧k<arcs
def chI (arcs:Int)(o:Option (List (List Int))):Bool:=match o with
 | some r=>decide (r.length≤16)&&r.all fun row=>decide (row.length≤16)&&row.all fun k=>decide (0≤k)&&decide (k<arcs)
 | none=>false
theorem Qu2 {arcs:Int}{o:Option (List (List Int))}(h:chI arcs o=true):Qi o (Qta arcs):=by
 cases o with
 | none=>cases h
 | some r=>
  simp only [chI,Qw,QS,QV]at h
  exact T2 h
theorem Qtb {arcs:Int}(h0:¬arcs<0)(h1:¬16<arcs):arcs=0∨arcs=1∨arcs=2∨arcs=3∨arcs=4∨arcs=5∨arcs=6∨arcs=7∨arcs=8∨arcs=9∨arcs=10∨arcs=11∨arcs=12∨arcs=13∨arcs=14∨arcs=15∨arcs=16:=by omega
set_option maxRecDepth 100000 in
theorem Qq1 (kind arcs:Int):Qi (QaY kind arcs) (Qta arcs):=by
 by_cases hg:((decide (arcs<0))||((decide (16<arcs))||((kind==3)&&(decide (4<arcs)))))=true
 ·unfold QaY
  rw [hg]
  exact T2 ⟨by simp,fun r h=>by cases h⟩
 simp only [Qcn,Qw,QS,beq_iff_eq,not_or,not_and]at hg
 obtain⟨h0,h1,h2⟩:=hg
 by_cases e1:kind=1
 ·subst e1
  rcases Qtb h0 h1 with rfl | rfl | rfl | rfl | rfl | rfl | rfl | rfl | rfl | rfl | rfl | rfl | rfl | rfl | rfl | rfl | rfl<;>exact Qu2 (by kernel_rfl)
 by_cases e2:kind=2
 ·subst e2
  rcases Qtb h0 h1 with rfl | rfl | rfl | rfl | rfl | rfl | rfl | rfl | rfl | rfl | rfl | rfl | rfl | rfl | rfl | rfl | rfl<;>exact Qu2 (by kernel_rfl)
 by_cases e3:kind=3
 ·subst e3
  have h3:=h2 rfl
  have:arcs=0∨arcs=1∨arcs=2∨arcs=3∨arcs=4:=by omega
  rcases this with rfl | rfl | rfl | rfl | rfl<;>exact Qu2 (by kernel_rfl)
 have f1:(kind==1)=false:=by simpa using e1
 have f2:(kind==2)=false:=by simpa using e2
 have f3:(kind==3)=false:=by simpa using e3
 unfold QaY QdY
 rw [f1,f2,f3]
 exact T1 (fun _=>T2 ⟨by simp,fun r h=>by cases h⟩) fun _=>T2 ⟨by simp,fun r h=>by cases h⟩
def Eff (n:Qm)(b:Int)(e:List Int):Prop:=e.length=n.Places.length∧∀x∈e,-b≤x∧x≤b
theorem Eff.mono {n:Qm}{a b:Int}{e:List Int}(h:Eff n a e)(hb:a≤b):Eff n b e:=⟨h.1,fun x hx=>by have:=h.2 x hx;omega⟩
theorem Qu3 (l:List Int)(p k B:Int)(hB:0≤B∧B≤1000)(hk:-1≤k∧k≤1)(hl:∀x∈l,-B≤x∧x≤B):Qi (Qde l p k) fun r=>r.length=l.length∧∀x∈r,-(B+1)≤x∧x≤B+1:=by
 unfold Qde
 refine T1 (fun hc=>?_) fun _=>T2 ⟨rfl,fun x hx=>by have:=hl x hx;omega⟩
 simp only [Qw,QS]at hc
 refine T0 (T4 hc.1 hc.2) fun e he=>?_
 have:=hl e he
 refine T0 (T4 hc.1 hc.2) fun _ _=>T2 ⟨by simp,fun x hx=>?_⟩
 rcases List.mem_or_eq_of_mem_set hx with hx | rfl
 ·have:=hl x hx;omega
 rw [Qaf (by omega)];omega
theorem Qyr (n:Qm)(t:Qv)(row l:List Int)(hr:row.length≤16)(hk:∀k∈row,0≤k∧k<(t.Ins.length:Int))(hl:Eff n 0 l):Qi (Qt (fun st=>Qa4 row t st.1 st.2) (0,l)) (Eff n 16):=by
 refine Qi.up row.length (fun st=>st.1) (fun st=>Eff n st.1 st.2) rfl hl (fun i st hi hn hJ=>?_)
 obtain⟨x,l⟩:=st
 replace hi:x=(i:Int):=hi
 subst hi
 replace hJ:Eff n (i:Int) l:=hJ
 show Qi (Qa4 row t i l) _
 unfold Qa4
 refine T1 (fun hc=>?_) (fun hc=>T2 (Qs (hJ.mono (by omega))))
 simp only [QS]at hc
 refine T0 (T4 (by omega) hc) fun k hk'=>?_
 have:=hk k hk'
 refine T0 (T4 this.1 this.2) fun a _=>?_
 refine T0 (Qu3 l a.Place (-1) i (by omega) (by omega) hJ.2) fun l' hl'=>?_
 refine T0 (T5 (by simpa using hl'.1)) fun _ _=>?_
 have hw:w64 ((i:Int)+1)=(i:Int)+1:=Qaf (by omega)
 refine T2 (QE ⟨by omega,hw,hl'.1.trans hJ.1,?_⟩)
 show ∀x∈l',-(w64 ((i:Int)+1))≤x∧x≤w64 ((i:Int)+1)
 rw [hw];exact hl'.2
theorem Qys (n:Qm)(t:Qv)(row l:List Int)(hr:row.length≤16)(hk:∀k∈row,0≤k∧k<(t.Outs.length:Int))(hl:Eff n 16 l):Qi (Qt (fun st=>Qa5 row t st.1 st.2) (0,l)) (Eff n 32):=by
 refine Qi.up row.length (fun st=>st.1) (fun st=>Eff n (16+st.1) st.2) rfl hl (fun i st hi hn hJ=>?_)
 obtain⟨x,l⟩:=st
 replace hi:x=(i:Int):=hi
 subst hi
 replace hJ:Eff n (16+(i:Int)) l:=hJ
 show Qi (Qa5 row t i l) _
 unfold Qa5
 refine T1 (fun hc=>?_) (fun hc=>T2 (Qs (hJ.mono (by omega))))
 simp only [QS]at hc
 refine T0 (T4 (by omega) hc) fun k hk'=>?_
 have:=hk k hk'
 refine T0 (T4 this.1 this.2) fun a _=>?_
 refine T0 (Qu3 l a.Place 1 (16+i) (by omega) (by omega) hJ.2) fun l' hl'=>?_
 refine T0 (T5 (by simpa using hl'.1)) fun _ _=>?_
 have hw:w64 ((i:Int)+1)=(i:Int)+1:=Qaf (by omega)
 refine T2 (QE ⟨by omega,hw,hl'.1.trans hJ.1,?_⟩)
 show ∀x∈l',-(16+w64 ((i:Int)+1))≤x∧x≤16+w64 ((i:Int)+1)
 rw [hw];intro x hx;have:=hl'.2 x hx;omega
def Qg6 (n:Qm)(m:Int)(l:List (List Int)):Prop:=(l.length:Int)≤m∧∀e∈l,Eff n 32 e
theorem Qg6.mono {n:Qm}{a b:Int}{l:List (List Int)}(h:Qg6 n a l)(hb:a≤b):Qg6 n b l:=⟨by have:=h.1;omega,h.2⟩
theorem Qyt (n:Qm)(t:Qv)(ins:List Int)(outs l:List (List Int))(m:Int)(hp:n.Places.length≤12)(hi:ins.length≤16∧∀k∈ins,0≤k∧k<(t.Ins.length:Int))(ho:Qta (t.Outs.length:Int) outs)(hm:m≤100000)(hl:Qg6 n m l):Qi (Qt (fun st=>QaI outs n ins t st.1 st.2) (0,l)) (Qg6 n (m+16)):=by
 have ho1:=ho.1
 refine Qi.up outs.length (fun st=>st.1) (fun st=>Qg6 n (m+st.1) st.2) rfl (hl.mono (by show m≤m+0;omega)) (fun i st hi2 hn hJ=>?_)
 obtain⟨x,l⟩:=st
 replace hi2:x=(i:Int):=hi2
 subst hi2
 replace hJ:Qg6 n (m+(i:Int)) l:=hJ
 show Qi (QaI outs n ins t i l) _
 unfold QaI
 refine T1 (fun hc=>?_) (fun hc=>T2 (Qs (hJ.mono (by omega))))
 simp only [QS]at hc
 refine T0 (T4 (by omega) hc) fun row hrow=>?_
 have hrow:=ho.2 row hrow
 refine T0 (T5 (by simp;omega)) fun _ _=>?_
 refine T0 (Qyr n t ins _ hi.1 hi.2 ⟨by simp,fun x hx=>by have:=(List.mem_replicate.1 hx).2;omega⟩) fun l1 h1=>?_
 show Qi (Qcf row t l i l1) _
 unfold Qcf
 refine T0 (Qys n t row l1 hrow.1 hrow.2 h1) fun l2 h2=>?_
 show Qi (Qdw l i l2) _
 unfold Qdw
 have:=hJ.1
 refine T0 (T5 (by simp;omega)) fun _ _=>?_
 have hw:w64 ((i:Int)+1)=(i:Int)+1:=Qaf (by omega)
 refine T2 (QE ⟨by omega,hw,?_,fun e he=>?_⟩)
 ·show((l++[l2]).length:Int)≤m+w64 ((i:Int)+1)
  rw [hw,Qib,QkZ];omega
 rcases Qkb.1 he with he | he
 ·exact hJ.2 e he
 rw [List.mem_singleton.1 he];exact h2
theorem Qyu (n:Qm)(t:Qv)(ins l:List (List Int))(m:Int)(hp:n.Places.length≤12)(hi:Qta (t.Ins.length:Int) ins)(hm:m≤10000)(hl:Qg6 n m l):Qi (Qt (fun st=>QaJ ins t n st.1 st.2) (0,l)) (Qg6 n (m+256)):=by
 have hi1:=hi.1
 refine Qi.up ins.length (fun st=>st.1) (fun st=>Qg6 n (m+16*st.1) st.2) rfl (hl.mono (by show m≤m+16*0;omega)) (fun i st hi2 hn hJ=>?_)
 obtain⟨x,l⟩:=st
 replace hi2:x=(i:Int):=hi2
 subst hi2
 replace hJ:Qg6 n (m+16*(i:Int)) l:=hJ
 show Qi (QaJ ins t n i l) _
 unfold QaJ
 refine T1 (fun hc=>?_) (fun hc=>T2 (Qs (hJ.mono (by omega))))
 simp only [QS]at hc
 refine T0 (T4 (by omega) hc) fun row hrow=>?_
 refine T0 (Qq1 _ _) fun outs ho=>?_
 refine T0 (Qyt n t row outs l _ hp (hi.2 row hrow) ho (by omega) hJ) fun l1 h1=>?_
 show Qi (Qdx i l1) _
 unfold Qdx
 have hw:w64 ((i:Int)+1)=(i:Int)+1:=Qaf (by omega)
 refine T2 (QE ⟨by omega,hw,?_⟩)
 show Qg6 n (m+16*w64 ((i:Int)+1)) l1
 rw [hw];exact h1.mono (by omega)
theorem QqE (n:Qm)(hp:n.Places.length≤12)(ht:n.Tasks.length≤8):Qi (Qbw n) (Qg6 n 2048):=by
 unfold Qbw
 refine T0 (Qi.up n.Tasks.length (fun st=>st.1) (fun st=>Qg6 n (256*st.1) st.2) (Q:=Qg6 n 2048) rfl ⟨by simp,fun e he=>by cases he⟩ (fun i st hi2 hn hJ=>?_)) fun q hq=>T2 hq
 obtain⟨x,l⟩:=st
 replace hi2:x=(i:Int):=hi2
 subst hi2
 replace hJ:Qg6 n (256*(i:Int)) l:=hJ
 show Qi (Qcg n i l) _
 unfold Qcg
 refine T1 (fun hc=>?_) (fun hc=>T2 (Qs (hJ.mono (by omega))))
 simp only [QS]at hc
 refine T0 (T4 (by omega) hc) fun t _=>?_
 refine T0 (Qq1 _ _) fun ins hins=>?_
 refine T0 (Qyu n t ins l _ hp hins (by omega) hJ) fun l1 h1=>?_
 show Qi (Qe0 i l1) _
 unfold Qe0
 have hw:w64 ((i:Int)+1)=(i:Int)+1:=Qaf (by omega)
 refine T2 (QE ⟨by omega,hw,?_⟩)
 show Qg6 n (256*w64 ((i:Int)+1)) l1
 rw [hw];exact h1.mono (by omega)
def QeA (n:Qm)(k:Int):Bool:=decide (k<0)||decide ((n.Places.length:Int)≤k)
theorem QnZ {α:Type}{l:List α}(p:α→Bool){body:Int→Option (Int⊕(Int⊕Unit))}(hs:∀(i:Nat) x,i<l.length→l[i]? = some x→body (i:Int)=some (bif p x then .inr (.inl (i:Int))else .inl ((i+1:Nat):Int)))(hf:body (l.length:Int)=some (.inr (.inr ()))):
  Qt body 0=some ((QdT (fun _ x=>p x) 0 l).elim (.inr ()) fun i=>.inl (i:Int)):=
 QwD (ρ:=Int⊕Unit) (fun i:Nat=>(i:Int)) (fun _ x=>p x) (fun i=>Sum.inl (i:Int)) (Sum.inr ()) hs hf rfl
theorem QrG {α:Type}{p:Nat→α→Bool}:∀{l:List α} {k n:Nat},QdT p k l=some n→∀i x,k+i<n→l[i]? = some x→p (k+i) x=false:=by
 intro l
 induction l with
 | nil=>intro k n h;cases h
 | cons y l ih=>
  intro k n h i x hi hx
  rw [QdT]at h
  cases hp:p k y with
  | true=>rw [hp]at h;cases h;omega
  | false=>
   rw [hp]at h
   cases i with
   | zero=>cases hx;exact hp
   | succ i=>
    have:=ih h i x (by omega) hx
    rwa [show k+1+i=k+(i+1) by omega]at this
theorem Qsl {α:Type}(p:α→Bool)(l:List α):(decide (0≤(QdT (fun _ x=>p x) 0 l).elim (-1:Int) fun i=>(i:Int)))=l.any p:=by
 cases h:QdT (fun _ x=>p x) 0 l with
 | none=>
  have h2:=Qpq h
  show decide ((0:Int)≤-1)=_
  rw [eq_comm,show decide ((0:Int)≤-1)=false from rfl,List.any_eq_false]
  intro x hx
  obtain⟨i,hi⟩:=Qmc hx
  rw [h2 i x hi];simp
 | some i=>
  obtain⟨j,x,_,h3,h4⟩:=Qpp h
  show decide ((0:Int)≤(i:Int))=_
  rw [QZ (by omega),eq_comm,QnD]
  exact⟨x,QY h3,h4⟩
theorem Qt1 (l:List Int)(n:Qm)(hl:l.length≤maxLen):QbB l n=some ((QdT (fun _ x=>QeA n x) 0 l).elim (-1) fun i=>(i:Int)):=by
 unfold QbB
 rw [QnZ (l:=l) (QeA n) (fun i x hi hx=>by
  show Q5 l n i=_
  unfold Q5
  rw [QZ (by omega),cond_true,Qac,hx,Qn,show QcJ x n=some (QeA n x)from rfl,Qn,Qx hi hl]
  cases QeA n x<;>rfl) (by
  show Q5 l n l.length=_
  unfold Q5
  rw [Q0 (by omega),cond_false])]
 cases QdT (fun _ x=>QeA n x) 0 l<;>rfl
theorem Qxq (n:Qm)(l:List Int)(hl:l.length≤1000):Qi (Qaj l n) fun r=>r.length≤1000∧∀k∈r,QeA n k=false:=by
 unfold Qaj
 rw [Qt1 l n (by unfold maxLen;omega),Qn]
 cases hs:QdT (fun _ x=>QeA n x) 0 l with
 | none=>
  refine T1 (fun _=>T2 ⟨hl,fun k hk=>?_⟩) fun hc=>by cases hc
  obtain⟨i,hi⟩:=Qmc hk
  have:=Qpq hs i k hi
  exact this
 | some i0=>
  obtain⟨i1,x0,e0,hx0,_⟩:=Qpp hs
  have hi0:i0<l.length:=by have:=(QI.1 hx0).1;omega
  refine T1 (fun hc=>by simp at hc) fun _=>?_
  show Qi ((Qt _ ((i0:Int),w64 ((i0:Int)+1),l)).bind _) _
  have hw:w64 ((i0:Int)+1)=(i0:Int)+1:=Qaf (by omega)
  refine T0 (Qi.up (l.length-(i0+1)) (fun st=>st.2.1-((i0:Int)+1)) (fun st=>0≤st.1∧st.1<st.2.1∧st.2.2.length=l.length∧∀k∈st.2.2.take st.1.toNat,QeA n k=false) (Q:=fun q:Int×List Int=>0≤q.1∧q.1≤(l.length:Int)∧q.2.length=l.length∧∀k∈q.2.take q.1.toNat,QeA n k=false) (by show w64 ((i0:Int)+1)-((i0:Int)+1)=0;omega) ⟨by show(0:Int)≤i0;omega,by show(i0:Int)<w64 ((i0:Int)+1);omega,rfl,?_⟩ (fun i st hi hn hJ=>?_)) (fun q hq=>?_)
  ·show ∀k∈l.take (i0:Int).toNat,QeA n k=false
   rw [Int.toNat_natCast]
   intro k hk
   obtain⟨i,hi⟩:=Qmc hk
   have hlt:=(QI.1 hi).1
   rw [Qf9]at hlt
   rw [QbZ,if_pos (by omega)]at hi
   exact QrG hs i k (by omega) hi
  ·obtain⟨a,j,l2⟩:=st
   replace hi:j-((i0:Int)+1)=i:=hi
   obtain⟨j1,j2,j3,j4⟩:0≤a∧a<j∧l2.length=l.length∧∀k∈l2.take a.toNat,QeA n k=false:=hJ
   show Qi (Q1 n a j l2) _
   unfold Q1
   refine T1 (fun hc=>?_) (fun hc=>T2 (Qs ⟨j1,?_,j3,j4⟩))
   ·simp only [QS]at hc
    have hj:j.toNat<l2.length:=by omega
    have hw2:w64 (j+1)=j+1:=Qaf (by omega)
    have hw3:w64 (a+1)=a+1:=Qaf (by omega)
    rw [Qh7 (by omega) (by omega),Qn,show QcJ l2[j.toNat] n=some (QeA n l2[j.toNat])from rfl,Qn]
    refine T1 (fun hc2=>?_) fun hc2=>?_
    ·have hc2:QeA n l2[j.toNat]=false:=by simpa using hc2
     refine T0 (T4 (by omega) (by omega)) fun _ _=>?_
     refine T2 (QE ⟨by omega,by show w64 (j+1)-((i0:Int)+1)=_;omega,by show 0≤w64 (a+1);omega,by show w64 (a+1)<w64 (j+1);omega,by simpa using j3,?_⟩)
     show ∀k∈(l2.set a.toNat l2[j.toNat]).take (w64 (a+1)).toNat,QeA n k=false
     rw [hw3,show(a+1).toNat=a.toNat+1 by omega,Qk0,List.getElem?_set_self (by omega),List.take_set_of_le (Qb0 _)]
     intro k hk
     rcases Qkb.1 hk with hk | hk
     ·exact j4 k hk
     simp at hk;subst hk;exact hc2
    exact T2 (QE ⟨by omega,by show w64 (j+1)-((i0:Int)+1)=_;omega,j1,by show a<w64 (j+1);omega,j3,j4⟩)
   simp only [Qbc]at hc
   omega
  obtain⟨a,l2⟩:=q
  obtain⟨q1,q2,q3,q4⟩:0≤a∧a≤(l.length:Int)∧l2.length=l.length∧∀k∈l2.take a.toNat,QeA n k=false:=hq
  show Qi (Q2 a l2) _
  unfold Q2
  refine T0 (T5 (by simp;omega)) fun _ _=>?_
  refine T0 (T5 (by simp;omega)) fun _ _=>T2 ?_
  rw [QqS (by simp;omega),List.take_take,Nat.min_self]
  exact⟨by simp;omega,q4⟩
theorem QwJ {l:List Int}{x:Int}(h:x∈Qcq l):x∈l:=by
 unfold Qcq Lib.compact Lib.compactUpTo at h
 rw [Qah]at h
 obtain⟨j,hj,rfl⟩:=h
 have hj:=Qfz.1 (Qga.1 hj).1
 rw [getElem!_pos l.toArray j (by simpa using hj)]
 simp
theorem QqF (n:Qm)(h:QnY n)(ht:n.Tasks.length≤8):Qi (QaL n) fun r=>r.length≤1000∧∀k∈r,0≤k∧k<(n.Places.length:Int):=by
 unfold QaL
 refine T0 (Qi.up n.Tasks.length (fun st=>st.1) (fun st=>(st.2.length:Int)≤16*st.1) (Q:=fun l:List Int=>l.length≤128) rfl (by simp) (fun i st hi2 hn hJ=>?_)) fun l hl=>?_
 ·obtain⟨x,l⟩:=st
  replace hi2:x=(i:Int):=hi2
  subst hi2
  replace hJ:(l.length:Int)≤16*(i:Int):=hJ
  show Qi (Qch n i l) _
  unfold Qch
  refine T1 (fun hc=>?_) (fun hc=>T2 (Qs (by omega)))
  simp only [QS]at hc
  refine T0 (T4 (by omega) hc) fun t htm=>?_
  have:=(h.tk t htm).2.2.2
  refine T0 (T5 (by simp;omega)) fun _ _=>?_
  have hw:w64 ((i:Int)+1)=(i:Int)+1:=Qaf (by omega)
  refine T2 (QE ⟨by omega,hw,?_⟩)
  show((l++t.Cancel).length:Int)≤16*w64 ((i:Int)+1)
  rw [hw,Qib];omega
 show Qi (Qci n l) _
 unfold Qci QdI QcD
 refine T0 (Qxq n l (by omega)) fun l1 h1=>?_
 rw [QjI (by omega),Qn,Qn]
 refine T0 (T5 (by simp [Qlg])) fun _ _=>?_
 rw [QjI (by rw [Qlg];omega),Qn,Qn]
 refine T2 ⟨?_,fun k hk=>?_⟩
 ·refine QdG ?_ h1.1
  rw [←Qlg l1]
  unfold Qcq Lib.compact Lib.compactUpTo
  rw [Qka]
  refine QdG (Qsr _ _) ?_
  simp
 have:=h1.2 k ((Qmm l1).mem_iff.1 (QwJ hk))
 unfold QeA at this
 simp at this
 omega
end Go.Proofs
noncomputable section
namespace Go.Proofs
open Go Go.RowKit Go.Vm
theorem Qxr (E w:List Int)(hl:E.length≤1000)(hE:∀k∈E,0≤k∧k<(w.length:Int)):Qbe E w=some (E.any fun k=>w.getD k.toNat 0 != 0):=by
 unfold Qbe QcT
 rw [QnZ (l:=E) (fun k=>w.getD k.toNat 0 != 0) (fun i x hi hx=>by
  show Q6 E w i=_
  have hk:=hE x (QY hx)
  unfold Q6 Qkn
  rw [QZ (by omega),cond_true,Qac,hx,Qn,Qh7 hk.1 hk.2,Qn,Qn,Qx hi (by unfold maxLen;omega),show w.getD x.toNat 0=w[x.toNat] by rw [List.getD_eq_getElem?_getD,QH (by omega:x.toNat<w.length)];rfl]
  cases (w[x.toNat] != 0)<;>rfl) (by
  show Q6 E w E.length=_
  unfold Q6
  rw [Q0 (by omega),cond_false]),←Qsl]
 cases QdT (fun _ x=>w.getD x.toNat 0 != 0) 0 E<;>rfl
end Go.Proofs
noncomputable section
namespace Go.Proofs
open Go Go.RowKit Go.Vm
theorem Qtc {τ ρ π:Type}{body:τ→π→Option (τ⊕ρ)}{s:τ}{p q:π}{o:τ⊕ρ}(h1:QbV body s [p,q]=some o)(h2:QbV body s [q,p]=some o):QhM body s [p,q]=some o:=by
 refine Qo8.2 ⟨fun l hl=>?_,h1⟩
 have hlen:=hl.length_eq
 match l,hl,hlen with
 | [a,b],hl,_=>
  have ha:a∈[p,q]:=hl.mem_iff.1 Qa1
  simp only [Qa0,List.not_mem_nil,or_false]at ha
  rcases ha with rfl | rfl
  ·have:=List.perm_singleton.1 ((List.perm_cons a).1 hl)
   rw [this]
  have:=List.perm_singleton.1 ((List.perm_cons a).1 (hl.trans (List.Perm.swap a p [])))
  rw [this,h2,h1]
def Qoi : Qm:=(Qk7).getD (Qm.mk [] [] [] 0 0)
def QqG : List (Int×List Int):=[(0,[-1,1,0]),(2,[0,0,1])]
theorem Qv3 : QeE 3 QqG 1=some [1,1,0]:=by
 unfold QeE
 rw [show QqG=[(0,[-1,1,0]),(2,[0,0,1])]from rfl,Qtc (o:=.inl 1) (by kernel_rfl) (by kernel_rfl),Qn]
 show Qdn 3 1 _ 1=_
 unfold Qdn
 rw [show chk (decide ((0:Int)≤3)&&decide ((3:Int)≤3)&&decide ((3:Int)≤4294967296))=some () by kernel_rfl,Qn,show idx (List.replicate (3:Int).toNat (0:Int)) 1=some 0 by kernel_rfl,Qn,
  Qtc (o:=.inl [1,1,0]) (by kernel_rfl) (by kernel_rfl)]
 rfl
theorem Qvl : Qjs Qoi=some ([[1,1,0]],0):=by
 have h1:Qjs Qoi=Qgf Qoi QqG:=by kernel_rfl
 rw [h1]
 unfold Qgf
 have b0:Qb5 Qoi QqG 0 []=some (.inl (1,[])):=by kernel_rfl
 have b1:Qb5 Qoi QqG 1 []=some (.inl (2,[[1,1,0]])):=by
  unfold Qb5
  rw [show decide ((1:Int)<(Qoi.Places.length:Int))=true by kernel_rfl,cond_true,show(Qa3 QqG 1).isSome=false by kernel_rfl,cond_false,show(Qoi.Places.length:Int)=3 by kernel_rfl,Qv3]
  kernel_rfl
 have b2:Qb5 Qoi QqG 2 [[1,1,0]]=some (.inl (3,[[1,1,0]])):=by kernel_rfl
 have b3:Qb5 Qoi QqG 3 [[1,1,0]]=some (.inr [[1,1,0]]):=by kernel_rfl
 rw [QbO,b0];simp only [Qn]
 rw [QbO,b1];simp only [Qn]
 rw [QbO,b2];simp only [Qn]
 rw [QbO,b3]
 rfl
theorem Qv4 : Qjt=some true:=by
 unfold Qjt
 rw [show Qk7=some Qoi by kernel_rfl,Qn,Qvl,Qn]
 kernel_rfl
end Go.Proofs
noncomputable section
namespace Go.Proofs
open Go Go.RowKit Go.Vm
theorem Qxs {l m:List Int}{i:Nat}{x:Int}(hl:l.length=m.length)(h:l.take i=m.take i)(hx:m[i]? = some x):(l.set i x).take (i+1)=m.take (i+1):=by
 have:=(QI.1 hx).1
 rw [Qk0,Qk0,hx,List.getElem?_set_self (by omega),List.take_set_of_le (Qb0 _),h]
theorem eqB {a b:Bool}(h:a=true↔b=true):a=b:=by
 cases a<;>cases b<;>simp_all
end Go.Proofs
noncomputable section
namespace Go.Proofs
open Go Go.RowKit Go.Vm
theorem QxR {a b:Int}(ha:InI a)(hb:InI b):Qe8 1 a b=some (Qsk a b):=by
 unfold Qe8
 show(Qji a b).bind _=_
 unfold Qji Qsk
 have hc:(bif (decide (0<b))then((decide ((w64 (9223372036854775807-b))<a))||((decide (b<0))&&(decide (a<(w64 ((-9223372036854775808)-b))))))else((decide (b<0))&&(decide (a<(w64 ((-9223372036854775808)-b))))))=decide (¬InI (a+b)):=by
  unfold InI at *
  by_cases b1:0<b
  ·rw [QZ b1,cond_true,Q0 (by omega:¬b<0),Bool.false_and,Bool.or_false,Qaf (by omega)]
   exact decide_eq_decide.2 (by omega)
  rw [Q0 b1,cond_false]
  by_cases b2:b<0
  ·rw [QZ b2,Bool.true_and,Qaf (by omega)]
   exact decide_eq_decide.2 (by omega)
  rw [Q0 b2,Bool.false_and,eq_comm,Qbc]
  omega
 rw [hc]
 by_cases c:InI (a+b)
 ·rw [Q0 (by simpa using c),cond_false,Qaf c,if_pos c];rfl
 rw [QZ c,cond_true,if_neg c];rfl
theorem QwK {x y a b:Int}(hx:0≤x∧x≤9223372036854775807)(hy:0<y∧y≤9223372036854775807)(ha:x=Qdi a)(hb:y=Qdi b)(ha0:a≠0):(Qed x a b y).bind (fun x16=>QeX x16.1 x16.2)=some (Qkx a b):=by
 have hm:x*y=Qdi (a*b):=by rw [ha,hb,Qvq]
 unfold Qed
 rw [Qup (by simpa using (by omega:y≠0)),Qn,Int.tdiv_eq_ediv_of_nonneg (by decide)]
 have d1:0≤9223372036854775807 / y:=Int.ediv_nonneg (by decide) (by omega)
 have d2:9223372036854775807 / y≤9223372036854775807:=Int.ediv_le_self _ (by decide)
 rw [Qaf (by omega)]
 have le1:x≤9223372036854775807 / y↔x*y≤9223372036854775807:=Int.le_ediv_iff_mul_le hy.1
 by_cases c:x≤9223372036854775807 / y
 ·have:=le1.1 c
  have hin:InI (a*b):=by unfold InI Qdi at *;split at hm<;>omega
  rw [QZ c,cond_true,Qaf hin]
  unfold Qkx;rw [if_pos hin];rfl
 have:=fun h=>c (le1.2 h)
 rw [Q0 c,cond_false]
 unfold QoG
 have sg:(bif (decide (a<0))then((decide (0<b))||((decide (0<a))&&(decide (b<0))))else((decide (0<a))&&(decide (b<0))))=decide (a*b<0):=by
  have hb0:b≠0:=by intro h;subst h;unfold Qdi at hb;simp at hb;omega
  by_cases c1:a<0<;>by_cases c2:b<0
  ·have:=Int.mul_pos_of_neg_of_neg c1 c2
   rw [QZ c1,Q0 (by omega:¬0<b),Q0 (by omega:¬0<a),Q0 (by omega:¬a*b<0)];rfl
  ·have:=Int.mul_neg_of_neg_of_pos c1 (by omega:0<b)
   rw [QZ c1,QZ (by omega:0<b),QZ this];rfl
  ·have:=Int.mul_neg_of_pos_of_neg (by omega:0<a) c2
   rw [Q0 c1,QZ (by omega:0<a),QZ c2,QZ this];rfl
  have:=Int.mul_nonneg (by omega:0≤a) (by omega:0≤b)
  rw [Q0 c1,Q0 c2,Q0 (by omega:¬a*b<0),Bool.and_false];rfl
 rw [sg]
 by_cases c3:a*b<0
 ·rw [QZ c3,cond_true,Qup (by simpa using (by omega:y≠0)),Qn,Qaf (by omega:-9223372036854775808≤y-1∧y-1≤9223372036854775807),Qaf (by omega:-9223372036854775808≤9223372036854775807-(y-1)∧9223372036854775807-(y-1)≤9223372036854775807),Qaf (by omega:-9223372036854775808≤x-1∧x-1≤9223372036854775807),Int.tdiv_eq_ediv_of_nonneg (by omega)]
  have d3:0≤(9223372036854775807-(y-1)) / y:=Int.ediv_nonneg (by omega) (by omega)
  have d4:(9223372036854775807-(y-1)) / y≤9223372036854775807-(y-1):=Int.ediv_le_self _ (by omega)
  rw [Qaf (by omega)]
  have le2:x-1≤(9223372036854775807-(y-1)) / y↔(x-1)*y≤9223372036854775807-(y-1):=Int.le_ediv_iff_mul_le hy.1
  have e3:(x-1)*y=x*y-y:=by rw [Int.sub_mul,Int.one_mul]
  rw [e3]at le2
  unfold Qdi at hm
  rw [if_pos c3]at hm
  unfold Qkx
  by_cases c4:x-1≤(9223372036854775807-(y-1)) / y
  ·have h4:=le2.1 c4
   have e4:x*y=9223372036854775808:=by omega
   rw [QZ c4,cond_true,e4,if_pos (by unfold InI;omega),show a*b=-9223372036854775808 by omega]
   rfl
  have h4:=fun h=>c4 (le2.2 h)
  rw [Q0 c4,cond_false,if_neg (by unfold InI;omega)]
  rfl
 rw [Q0 c3,cond_false]
 unfold Qdi at hm
 rw [if_neg c3]at hm
 unfold Qkx
 rw [if_neg (by unfold InI;omega)]
 rfl
theorem QxS {a b:Int}(ha:InI a)(hb:InI b):Qe8 3 a b=some (Qkx a b):=by
 unfold Qe8
 show(Qlb a b).bind _=_
 unfold Qlb
 by_cases z:a=0∨b=0
 ·rw [show((a==0)||(b==0))=true by simpa using z,cond_true]
  have:a*b=0:=Int.mul_eq_zero.2 z
  unfold Qkx
  rw [this];rfl
 rw [show((a==0)||(b==0))=false by simpa using z,cond_false]
 simp only [not_or]at z
 by_cases m:a=-9223372036854775808∨b=-9223372036854775808
 ·rw [show((a==(-9223372036854775808))||(b==(-9223372036854775808)))=true by simpa using m,cond_true]
  by_cases o:a=1∨b=1
  ·rw [show((a==1)||(b==1))=true by simpa using o,cond_true]
   have hin:InI (a*b):=by
    rcases o with rfl | rfl
    ·rwa [Int.one_mul]
    rwa [Int.mul_one]
   rw [Qaf hin]
   unfold Qkx;rw [if_pos hin];rfl
  rw [show((a==1)||(b==1))=false by simpa using o,cond_false]
  simp only [not_or]at o
  have hin:¬InI (a*b):=by
   unfold InI
   rcases m with rfl | rfl
   ·omega
   omega
  unfold Qkx;rw [if_neg hin];rfl
 rw [show((a==(-9223372036854775808))||(b==(-9223372036854775808)))=false by simpa using m,cond_false]
 simp only [not_or]at m
 unfold InI at ha hb
 have k4:∀x,0≤x∧x≤9223372036854775807→x=Qdi a→(Qf0 b a x).bind (fun x16=>QeX x16.1 x16.2)=some (Qkx a b):=fun x hx he=>by
  unfold Qf0
  by_cases c:b<0
  ·rw [QZ c,cond_true,Qaf (by omega)]
   exact QwK hx (by omega) he (by unfold Qdi;rw [if_pos c];omega) z.1
  rw [Q0 c,cond_false]
  exact QwK hx (by omega) he (by unfold Qdi;rw [if_neg c]) z.1
 by_cases c:a<0
 ·rw [QZ c,cond_true,Qaf (by omega)]
  exact k4 _ (by omega) (by unfold Qdi;rw [if_pos c];omega)
 rw [Q0 c,cond_false]
 exact k4 _ (by omega) (by unfold Qdi;rw [if_neg c])
theorem Qvr {a b:List Int}(ha:∀x∈a,InI x)(hb:∀x∈b,InI x)(hl:a.length≤maxLen):Qjj a b=some (Qlc 0 (a.zip b)):=by
 unfold Qjj
 have hlen:(a.zip b).length=min a.length b.length:=List.length_zip
 have main:=Qms (body:=fun st:Int×Int=>Qdh a b st.1 st.2) (l:=a.zip b) (fun _ (t:Int)=>InI t) (fun i t=>(t,(i:Int)))
  (fun _ t (p:Int×Int)=>if InI (p.1*p.2)∧InI (t+p.1*p.2)then .inl (t+p.1*p.2)else .inr (.inl 6)) (fun t=>(.inr t:Int⊕Int))
  (fun i t p ht hi hp=>by
   obtain⟨h1,h2⟩:=List.getElem?_zip_eq_some.1 hp
   have hx:=ha _ (QY h1)
   have hy:=hb _ (QY h2)
   have i1:=(QI.1 h1).1
   have i2:=(QI.1 h2).1
   refine⟨?_,fun t' e=>?_⟩
   ·show Qdh a b t (i:Int)=_
    unfold Qdh
    rw [QZ (by omega),QZ (by omega),Bool.true_and,cond_true,Qac,h1,Qn,Qac,h2,Qn,QxS hx hy,Qn]
    unfold Qkx
    have hw:w64 ((i:Int)+1)=((i+1:Nat):Int):=Qx i1 hl
    by_cases c:InI (p.1*p.2)
    ·rw [if_pos c]
     show(Qe8 1 t (p.1*p.2)).bind _=_
     rw [QxR ht c,Qn]
     unfold Qsk
     by_cases c2:InI (t+p.1*p.2)
     ·rw [if_pos c2,if_pos ⟨c,c2⟩,hw];rfl
     rw [if_neg c2,if_neg fun h=>c2 h.2];rfl
    rw [if_neg c,if_neg fun h=>c h.1];rfl
   replace e:(if InI (p.1*p.2)∧InI (t+p.1*p.2)then Sum.inl (t+p.1*p.2)else Sum.inr (.inl 6):Int⊕(Int⊕Int))=.inl t':=e
   split at e
   ·rename_i c;cases e;exact c.2
   cases e)
  (fun t _=>by
   show Qdh a b t ((a.zip b).length:Int)=_
   unfold Qdh
   have:((decide (((a.zip b).length:Int)<(a.length:Int)))&&(decide (((a.zip b).length:Int)<(b.length:Int))))=false:=by
    rw [hlen,Bool.and_eq_false_iff,Qbc,Qbc];omega
   rw [this,cond_false]) 0 (by unfold InI;omega) (s0:=(0,0)) rfl
 rw [main,Qn]
 have key:∀(l:List (Int×Int)) (i:Nat) (t:Int),(Sum.elim (fun q:Int=>QkS q) (fun q=>QkT q) (Qby (fun (_:Nat) (t:Int) (p:Int×Int)=>if InI (p.1*p.2)∧InI (t+p.1*p.2)then .inl (t+p.1*p.2)else .inr (.inl 6)) (fun t=>(.inr t:Int⊕Int)) i t l))=some (Qlc t l):=by
  intro l
  induction l with
  | nil=>intro i t;rfl
  | cons p l ih=>
   intro i t
   rw [Qby,Qlc]
   by_cases c:InI (p.1*p.2)
   ·by_cases c2:InI (t+p.1*p.2)
    ·rw [if_pos ⟨c,c2⟩,if_pos c,if_pos c2];exact ih _ _
    rw [if_neg fun h=>c2 h.2,if_pos c,if_neg c2];rfl
   rw [if_neg fun h=>c h.1,if_neg c];rfl
 exact key _ _ _
theorem eqO {o p:Option (List (List Int))}(h:decide (o=p)=true):o=p:=Qag h
set_option maxRecDepth 100000 in
theorem QqH (kind arcs:Int):QcI kind arcs=QaY kind arcs:=by
 by_cases hg:((decide (arcs<0))||((decide (16<arcs))||((kind==3)&&(decide (4<arcs)))))=true
 ·unfold QaY QcI
  rw [hg,cond_true,cond_true]
 have hg':=hg
 simp only [Qcn,Qw,QS,beq_iff_eq,not_or,not_and]at hg
 obtain⟨h0,h1,h2⟩:=hg
 by_cases e1:kind=1
 ·subst e1
  rcases Qtb h0 h1 with rfl | rfl | rfl | rfl | rfl | rfl | rfl | rfl | rfl | rfl | rfl | rfl | rfl | rfl | rfl | rfl | rfl<;>exact eqO (by kernel_rfl)
 by_cases e2:kind=2
 ·subst e2
  rcases Qtb h0 h1 with rfl | rfl | rfl | rfl | rfl | rfl | rfl | rfl | rfl | rfl | rfl | rfl | rfl | rfl | rfl | rfl | rfl<;>exact eqO (by kernel_rfl)
 by_cases e3:kind=3
 ·subst e3
  have h3:=h2 rfl
  have:arcs=0∨arcs=1∨arcs=2∨arcs=3∨arcs=4:=by omega
  rcases this with rfl | rfl | rfl | rfl | rfl<;>exact eqO (by kernel_rfl)
 have f1:(kind==1)=false:=by simpa using e1
 have f2:(kind==2)=false:=by simpa using e2
 have f3:(kind==3)=false:=by simpa using e3
 have t0:∃l,Qt (fun st=>QhX arcs st.1 st.2) (0,([]:List Int))=some l:=by
  rcases Qtb h0 h1 with rfl | rfl | rfl | rfl | rfl | rfl | rfl | rfl | rfl | rfl | rfl | rfl | rfl | rfl | rfl | rfl | rfl<;>exact Option.isSome_iff_exists.1 (by kernel_rfl)
 obtain⟨l,hl⟩:=t0
 rw [Qma]at hg'
 unfold QaY QcI
 rw [hg',cond_false,cond_false,hl,Qn]
 unfold Qg4
 rw [f1,f2,f3]
 rfl
end Go.Proofs
noncomputable section
namespace Go.Proofs
open Go Go.RowKit Go.Vm
theorem Qyv {x11:List (List Int)}{i14:Int}{e:List Int}(t:Qv)(h:idx x11 i14=some e)(a:Int)(l:List Int):QdA x11 i14 t a l=Qa4 e t a l:=by
 unfold QdA Qa4
 rw [h,Qn]
 cases decide (a<(e.length:Int))with
 | false=>rfl
 | true=>
  rw [cond_true,cond_true,Qn]
  cases idx e a with
  | none=>rfl
  | some k=>
   rw [Qn,Qn]
   cases idx t.Ins k with
   | none=>rfl
   | some c=>
    rw [Qn,Qn]
    unfold Qde
    cases (decide (0≤c.Place)&&decide (c.Place<(l.length:Int)))with
    | false=>rw [cond_false,cond_false,Qn,QjI rfl];rfl
    | true=>
     rw [cond_true,cond_true]
     cases idx l c.Place with
     | none=>rfl
     | some y=>simp only [Qn];rw [QjI (by simp)];rfl
theorem Qyw {x12:List (List Int)}{j:Int}{e:List Int}(t:Qv)(h:idx x12 j=some e)(a:Int)(l:List Int):QdB x12 j t a l=Qa5 e t a l:=by
 unfold QdB Qa5
 rw [h,Qn]
 cases decide (a<(e.length:Int))with
 | false=>rfl
 | true=>
  rw [cond_true,cond_true,Qn]
  cases idx e a with
  | none=>rfl
  | some k=>
   rw [Qn,Qn]
   cases idx t.Outs k with
   | none=>rfl
   | some c=>
    rw [Qn,Qn]
    unfold Qde
    cases (decide (0≤c.Place)&&decide (c.Place<(l.length:Int)))with
    | false=>rw [cond_false,cond_false,Qn,QjI rfl];rfl
    | true=>
     rw [cond_true,cond_true]
     cases idx l c.Place with
     | none=>rfl
     | some y=>simp only [Qn];rw [QjI (by simp)];rfl
theorem Qyx {x11:List (List Int)}{i14:Int}{e:List Int}(n:Qm)(x12:List (List Int))(t:Qv)(h:idx x11 i14=some e)(j:Int)(hj:0≤j)(l:List (List Int)):Qfa x12 n x11 i14 t j l=QaI x12 n e t j l:=by
 unfold Qfa QaI
 by_cases c:j<(x12.length:Int)
 ·rw [QZ c,cond_true,cond_true,show(fun st:Int×List Int=>QdA x11 i14 t st.1 st.2)=fun st=>Qa4 e t st.1 st.2 from funext fun st=>Qyv t h st.1 st.2]
  rw [Qh7 hj c,Qn]
  have e4:(fun st:Int×List Int=>QdB x12 j t st.1 st.2)=fun st=>Qa5 (x12[j.toNat]'(by omega)) t st.1 st.2:=funext fun st=>Qyw t (Qh7 hj c) st.1 st.2
  unfold Qh2 Qcf
  rw [e4];rfl
 rw [Q0 c,cond_false,cond_false]
theorem Qt2 {σ ρ:Type}{b1 b2:σ→Option (σ⊕ρ)}(n:Nat)(ix:σ→Int)(s0:σ)(h0:ix s0=0)(he:∀s,0≤ix s→b1 s=b2 s)(hn:∀s s',0≤ix s→b2 s=some (.inl s')→ix s<n∧ix s'=ix s+1):Qt b1 s0=Qt b2 s0:=by
 have key:∀(k:Nat) s,0≤ix s→(n:Int)-ix s≤k→Qt b1 s=Qt b2 s:=by
  intro k
  induction k with
  | zero=>
   intro s hs hk
   rw [QbO,QbO (body:=b2),he s hs]
   cases hb:b2 s with
   | none=>rfl
   | some o=>
    cases o with
    | inr r=>rfl
    | inl s'=>have:=hn s s' hs hb;omega
  | succ k ih=>
   intro s hs hk
   rw [QbO,QbO (body:=b2),he s hs]
   cases hb:b2 s with
   | none=>rfl
   | some o=>
    cases o with
    | inr r=>rfl
    | inl s'=>
     obtain⟨h1,h2⟩:=hn s s' hs hb
     exact ih s' (by omega) (by omega)
 exact key n s0 (by omega) (by omega)
theorem Qzf {x12:List (List Int)}{n:Qm}{e:List Int}{t:Qv}{s s':Int×List (List Int)}(hl:x12.length≤16)(hs:0≤s.1)(h:QaI x12 n e t s.1 s.2=some (.inl s')):s.1<(16:Nat)∧s'.1=s.1+1:=by
 unfold QaI at h
 rcases Qq h with⟨c,h⟩|⟨c,h⟩
 ·simp only [QS]at c
  obtain⟨_,_,h⟩:=Qc h
  obtain⟨_,_,h⟩:=Qc h
  obtain⟨_,_,h⟩:=Qc h
  unfold Qcf at h
  obtain⟨_,_,h⟩:=Qc h
  unfold Qdw at h
  obtain⟨_,_,h⟩:=Qc h
  simp only [Option.some.injEq,Sum.inl.injEq]at h
  subst h
  exact⟨by omega,Qaf (by omega)⟩
 simp at h
theorem Qzg {x11:List (List Int)}{n:Qm}{t:Qv}{s s':Int×List (List Int)}(hl:x11.length≤16)(hs:0≤s.1)(h:QaJ x11 t n s.1 s.2=some (.inl s')):s.1<(16:Nat)∧s'.1=s.1+1:=by
 unfold QaJ at h
 rcases Qq h with⟨c,h⟩|⟨c,h⟩
 ·simp only [QS]at c
  obtain⟨_,_,h⟩:=Qc h
  obtain⟨_,_,h⟩:=Qc h
  obtain⟨_,_,h⟩:=Qc h
  unfold Qdx at h
  simp only [Option.some.injEq,Sum.inl.injEq]at h
  subst h
  exact⟨by omega,Qaf (by omega)⟩
 simp at h
theorem Qyy (x11 x12:List (List Int))(n:Qm)(t:Qv)(h12:QaY t.Split (t.Outs.length:Int)=some x12)(hl:x12.length≤16)(i:Int)(hi:0≤i)(l:List (List Int)):Qfb x11 x12 n t i l=QaJ x11 t n i l:=by
 unfold Qfb QaJ
 by_cases c:i<(x11.length:Int)
 ·rw [QZ c,cond_true,cond_true,Qh7 hi c,Qn,h12,Qn,Qt2 16 (fun st:Int×List (List Int)=>st.1) (0,l) rfl (fun st hs=>Qyx n x12 t (Qh7 hi c) st.1 hs st.2) (fun s s' hs h=>Qzf hl hs h)]
  rfl
 rw [Q0 c,cond_false,cond_false]
theorem QqI (n:Qm):Qfc n=Qbw n:=by
 unfold Qfc Qbw
 rw [show(fun st:Int×List (List Int)=>QeN n st.1 st.2)=fun st=>Qcg n st.1 st.2 from funext fun st=>?_]
 ·rfl
 unfold QeN Qcg
 cases decide (st.1<(n.Tasks.length:Int))with
 | false=>rfl
 | true=>
  rw [cond_true,cond_true]
  cases idx n.Tasks st.1 with
  | none=>rfl
  | some t=>
   rw [Qn,Qn,QqH,QqH]
   obtain⟨x11,h11,o11⟩:=Qq1 t.Join (t.Ins.length:Int)
   obtain⟨x12,h12,o12⟩:=Qq1 t.Split (t.Outs.length:Int)
   rw [h11,Qn,Qn,h12,Qn,Qt2 16 (fun st:Int×List (List Int)=>st.1) (0,st.2) rfl (fun st hs=>Qyy x11 x12 n t h12 o12.1 st.1 hs st.2) (fun s s' hs h=>Qzg o11.1 hs h)]
   rfl
end Go.Proofs
