/- A part of the proof; what it holds is told at each theorem. -/
import Derived.Test.YtphohlpbjofddaaGreatDoorL3XPlA
import Derived.Test.YtphohlpbjofddaaGreatDoorL3V3
import Derived.Test.YtphohlpbjofddaaGreatDoorL3T3
import Derived.KernelRfl
set_option linter.unusedVariables false
set_option linter.unusedSimpArgs false
set_option linter.unusedSectionVars false
set_option linter.deprecated false
namespace Go.Vm
open Go Go.RowKit
def TotP {α:Type}(o:Option α)(Q:α→Prop):Prop:=∃r,o=some r∧Q r
section
variable {α β σ ρ:Type}
theorem TotP.ok {a:α}{Q:α→Prop}(h:Q a):TotP (some a) Q:=⟨a,rfl,h⟩
theorem TotP.okT {a:α}:TotP (some a) fun _=>True:=⟨a,rfl,trivial⟩
theorem TotP.bind {o:Option α}{f:α→Option β}{P:α→Prop}{Q:β→Prop}(h:TotP o P)(k:∀x,P x→TotP (f x) Q):TotP (o.bind f) Q:=by
 obtain⟨x,rfl,hx⟩:=h
 exact k x hx
theorem TotP.bif {c:Bool}{a b:Option α}{Q:α→Prop}(h1:c=true→TotP a Q)(h2:c=false→TotP b Q):TotP (bif c then a else b) Q:=by
 cases c with
 | true=>exact h1 rfl
 | false=>exact h2 rfl
theorem TotP.chk {c:Bool}(h:c=true):TotP (chk c) fun _=>True:=⟨(),Qva h,trivial⟩
theorem TotP.idx {l:List α}{j:Int}(h0:0≤j)(h1:j<l.length):TotP (idx l j) fun x=>x∈l:=by
 rw [QpR h0 h1]
 exact⟨_,rfl,List.getElem_mem _⟩
theorem TotP.get {l:List α}{j:Nat}(h1:j<l.length):TotP (l[j]?) fun x=>x∈l:=by
 rw [List.getElem?_eq_getElem h1]
 exact⟨_,rfl,List.getElem_mem _⟩
theorem TotP.sidx {s:ByteArray}{j:Int}(h0:0≤j)(h1:j<s.size):TotP (sidx s j) fun _=>True:=by
 unfold Vm.sidx
 rw [if_pos h0]
 have:j.toNat<s.size:=by omega
 rw [getElem?_pos s j.toNat this]
 exact⟨_,rfl,trivial⟩
theorem TotP.mono {o:Option α}{P Q:α→Prop}(h:TotP o P)(k:∀x,P x→Q x):TotP o Q:=let ⟨r,h1,h2⟩:=h;⟨r,h1,k r h2⟩
theorem TotP.tot {o:Option α}{P:α→Prop}(h:TotP o P):∃r,o=some r:=let ⟨r,h1,_⟩:=h;⟨r,h1⟩
theorem TotP.self {o:Option α}{P:α→Prop}(h:TotP o P):TotP o fun x=>o=some x∧P x:=let ⟨r,h1,h2⟩:=h;⟨r,h1,h1,h2⟩
theorem TotP.up {body:σ→Option (σ⊕ρ)}(n:Nat)(ix:σ→Int)(J:σ→Prop){Q:ρ→Prop}{s0:σ}(h0:ix s0=0)(hJ:J s0)
  (step:∀(i:Nat) s,ix s=(i:Int)→i≤n→J s→TotP (body s) fun o=>(∀s',o=.inl s'→i<n∧ix s'=((i+1:Nat):Int)∧J s')∧∀r,o=.inr r→Q r):TotP (QC body s0) Q:=by
 have key:∀k i s,i+k=n→ix s=(i:Int)→J s→∃r,QC body s=some r∧Q r:=by
  intro k
  induction k with
  | zero=>
   intro i s hk hi hj
   obtain⟨o,ho,h1,h2⟩:=step i s hi (by omega) hj
   rw [QdX,ho]
   cases o with
   | inl s'=>have:=(h1 s' rfl).1;omega
   | inr r=>exact⟨r,rfl,h2 r rfl⟩
  | succ k ih=>
   intro i s hk hi hj
   obtain⟨o,ho,h1,h2⟩:=step i s hi (by omega) hj
   rw [QdX,ho]
   cases o with
   | inl s'=>
    obtain⟨_,h3,h4⟩:=h1 s' rfl
    exact ih (i+1) s' (by omega) h3 h4
   | inr r=>exact⟨r,rfl,h2 r rfl⟩
 exact key n 0 s0 (by omega) h0 hJ
theorem Qw {s:σ}{n i:Nat}{ix:σ→Int}{J:σ→Prop}{Q:ρ→Prop}(h:i<n∧ix s=((i+1:Nat):Int)∧J s):
  (∀s',(Sum.inl s:σ⊕ρ)=.inl s'→i<n∧ix s'=((i+1:Nat):Int)∧J s')∧∀r,(Sum.inl s:σ⊕ρ)=.inr r→Q r:=
 ⟨fun s' e=>(by cases e;exact h),fun r e=>(by cases e)⟩
theorem Ql {r:ρ}{n i:Nat}{ix:σ→Int}{J:σ→Prop}{Q:ρ→Prop}(h:Q r):
  (∀s',(Sum.inr r:σ⊕ρ)=.inl s'→i<n∧ix s'=((i+1:Nat):Int)∧J s')∧∀r',(Sum.inr r:σ⊕ρ)=.inr r'→Q r':=
 ⟨fun s' e=>(by cases e),fun r' e=>(by cases e;exact h)⟩
end
def lenL {α:Type}(ok:α→Prop)(l:List α):Prop:=l.length≤maxLen∧∀x∈l,ok x
theorem lenL.drop {α:Type}{ok:α→Prop}{l:List α}(h:lenL ok l)(k:Nat):lenL ok (l.drop k):=⟨by have:=h.1;rw [List.length_drop];omega,fun x hx=>h.2 x (List.mem_of_mem_drop hx)⟩
theorem lenL.take {α:Type}{ok:α→Prop}{l:List α}(h:lenL ok l)(k:Nat):lenL ok (l.take k):=⟨by have:=h.1;rw [List.length_take];omega,fun x hx=>h.2 x (List.mem_of_mem_take hx)⟩
theorem lenL.nil {α:Type}{ok:α→Prop}:lenL ok ([]:List α):=⟨by simp,fun x h=>by cases h⟩
theorem lenL.app {α:Type}{ok:α→Prop}{l m:List α}(h:lenL ok l)(hm:lenL ok m)(hs:l.length+m.length≤maxLen):lenL ok (l++m):=⟨by simpa using hs,fun x hx=>by rcases List.mem_append.1 hx with h1 | h1;exact h.2 x h1;exact hm.2 x h1⟩
def Qf8 (s:ByteArray):Prop:=s.size≤maxLen
theorem QvZ {s:ByteArray}(h:QhK s (⟨#[]⟩:ByteArray)=false):0<s.size:=by
 apply Nat.pos_of_ne_zero
 intro h0
 have:s=⟨#[]⟩:=by
  obtain⟨a⟩:=s
  have:a=#[]:=Array.eq_empty_of_size_eq_zero h0
  rw [this]
 subst this
 simp [QhK]at h
theorem QkF {a b:Int}:0≤min2 a b↔0≤a∧0≤b:=by unfold min2;split<;>omega
theorem QkG {a b n:Int}:max2 a b<n↔a<n∧b<n:=by unfold max2;split<;>omega
theorem Qjs {a b n:Int}:max2 a b≤n↔a≤n∧b≤n:=by unfold max2;split<;>omega
end Go.Vm
namespace Go.Vm
open Go Go.RowKit
def Asc (l:List (Int×Int)):Prop:=l.Pairwise fun p q=>p.1<q.1
def QlN (l:List (Int×Int)):Prop:=l.Pairwise fun p q=>p.1≠q.1
theorem Asc.nd {l:List (Int×Int)}(h:Asc l):QlN l:=h.imp fun h=>by omega
theorem Qf4 {p:Int×Int}{l:List (Int×Int)}:Asc (p::l)↔(∀q∈l,p.1<q.1)∧Asc l:=List.pairwise_cons
theorem Qut {p:Int×Int}{l:List (Int×Int)}:QlN (p::l)↔(∀q∈l,p.1≠q.1)∧QlN l:=List.pairwise_cons
theorem Qr1 {l:List (Int×Int)}{k:Int}:mget l k=none↔∀p∈l,p.1≠k:=by
 induction l with
 | nil=>simp [mget]
 | cons p l ih=>
  obtain⟨a,x⟩:=p
  rw [Qae]
  by_cases h:a=k
  ·simp [h]
  ·simp [h,ih]
theorem QdL {l:List (Int×Int)}(hn:QlN l){k v:Int}:mget l k=some v↔(k,v)∈l:=by
 induction l with
 | nil=>simp [mget]
 | cons p l ih=>
  obtain⟨a,x⟩:=p
  obtain⟨h1,h2⟩:=Qut.1 hn
  rw [Qae]
  by_cases h:a=k
  ·subst h
   rw [if_pos rfl]
   constructor
   ·intro e;cases e;simp
   ·intro e
    rcases List.mem_cons.1 e with e | e
    ·cases e;rfl
    ·exact absurd rfl (h1 (a,v) e)
  ·rw [if_neg h,ih h2]
   constructor
   ·intro e;exact List.mem_cons_of_mem _ e
   ·intro e
    rcases List.mem_cons.1 e with e | e
    ·cases e;exact absurd rfl h
    ·exact e
theorem Qv0 {l m:List (Int×Int)}(hl:QlN l)(h:l.Perm m)(k:Int):mget l k=mget m k:=by
 have hm:QlN m:=(h.pairwise_iff (fun hab=>Ne.symm hab)).1 hl
 apply Option.ext
 intro v
 rw [QdL hl,QdL hm]
 exact h.mem_iff
theorem Quu {l m:List (Int×Int)}(hl:Asc l)(hm:Asc m)(h:∀k,mget l k=mget m k):l=m:=by
 induction l generalizing m with
 | nil=>
  cases m with
  | nil=>rfl
  | cons p m=>have:=h p.1;rw [Qae (κ:=Int)]at this;simp [mget]at this
 | cons p l ih=>
  obtain⟨a,x⟩:=p
  cases m with
  | nil=>have:=h a;rw [Qae]at this;simp [mget]at this
  | cons q m=>
   obtain⟨b,y⟩:=q
   obtain⟨l1,l2⟩:=Qf4.1 hl
   obtain⟨m1,m2⟩:=Qf4.1 hm
   have hab:a=b:=by
    rcases Int.lt_trichotomy a b with hc | hc | hc
    ·have e:=h a
     rw [Qae,Qae,if_pos rfl,if_neg (by omega),Qr1.2 (fun p hp=>by have:=m1 p hp;simp at this;omega)]at e
     cases e
    ·exact hc
    ·have e:=h b
     rw [Qae,Qae,if_neg (by omega),if_pos rfl,Qr1.2 (fun p hp=>by have:=l1 p hp;simp at this;omega)]at e
     cases e
   subst hab
   have e:=h a
   rw [Qae,Qae,if_pos rfl,if_pos rfl]at e
   cases e
   rw [ih l2 m2 fun k=>?_]
   by_cases hk:a=k
   ·subst hk
    rw [Qr1.2 (fun p hp=>by have:=l1 p hp;simp at this;omega),Qr1.2 (fun p hp=>by have:=m1 p hp;simp at this;omega)]
   ·have:=h k
    rwa [Qae,Qae,if_neg hk,if_neg hk]at this
theorem QxW {l:List (Int×Int)}{k v:Int}{p:Int×Int}(h:p∈mrep l k v):∃q∈l,q.1=p.1:=by
 induction l with
 | nil=>cases h
 | cons q l ih=>
  obtain⟨a,x⟩:=q
  rw [mrep]at h
  split at h
  ·rename_i e
   rcases List.mem_cons.1 h with rfl | h
   ·exact⟨_,List.mem_cons_self,e⟩
   ·exact⟨p,List.mem_cons_of_mem _ h,rfl⟩
  ·rcases List.mem_cons.1 h with rfl | h
   ·exact⟨_,List.mem_cons_self,rfl⟩
   ·obtain⟨q,h1,h2⟩:=ih h
    exact⟨q,List.mem_cons_of_mem _ h1,h2⟩
theorem QwM {lt:Int→Int→Bool}{l:List (Int×Int)}{k v:Int}{p:Int×Int}(h:p∈mins lt l k v):p=(k,v)∨p∈l:=by
 induction l with
 | nil=>simp [mins]at h;exact .inl h
 | cons q l ih=>
  obtain⟨a,x⟩:=q
  rw [mins]at h
  split at h
  ·rcases List.mem_cons.1 h with h | h
   ·exact .inl h
   ·exact .inr h
  ·rcases List.mem_cons.1 h with h | h
   ·exact .inr (h▸List.mem_cons_self)
   ·rcases ih h with h | h
    ·exact .inl h
    ·exact .inr (List.mem_cons_of_mem _ h)
theorem QtT {l:List (Int×Int)}(h:Asc l)(k v:Int):Asc (mset ltI l k v):=by
 unfold mset
 split
 ·rename_i x hx
  clear hx
  induction l with
  | nil=>exact h
  | cons p l ih=>
   obtain⟨a,x⟩:=p
   obtain⟨h1,h2⟩:=Qf4.1 h
   rw [mrep]
   split
   ·rename_i e;subst e;exact Qf4.2 ⟨h1,h2⟩
   ·refine Qf4.2 ⟨fun q hq=>?_,ih h2⟩
    obtain⟨q',hq',e⟩:=QxW hq
    rw [←e];exact h1 _ hq'
 ·rename_i hn
  induction l with
  | nil=>exact List.pairwise_singleton _ _
  | cons p l ih=>
   obtain⟨a,x⟩:=p
   obtain⟨h1,h2⟩:=Qf4.1 h
   rw [Qae]at hn
   split at hn
   ·cases hn
   ·rename_i hne
    rw [mins]
    split
    ·rename_i e
     have e:k<a:=of_decide_eq_true e
     refine Qf4.2 ⟨fun q hq=>?_,h⟩
     rcases List.mem_cons.1 hq with rfl | hq
     ·exact e
     ·have:=h1 q hq;simp at this ⊢;omega
    ·rename_i e
     have e:¬k<a:=fun c=>e (decide_eq_true c)
     refine Qf4.2 ⟨fun q hq=>?_,ih h2 hn⟩
     rcases QwM hq with rfl | hq
     ·show a<k;omega
     ·exact h1 q hq
theorem QwN {l:List (Int×Int)}{k v:Int}:(mrep l k v).length=l.length:=by
 induction l with
 | nil=>rfl
 | cons p l ih=>
  obtain⟨a,x⟩:=p
  rw [mrep]
  split
  ·rfl
  ·simp [ih]
theorem QwO {lt:Int→Int→Bool}{l:List (Int×Int)}{k v:Int}:(mins lt l k v).length=l.length+1:=by
 induction l with
 | nil=>rfl
 | cons p l ih=>
  obtain⟨a,x⟩:=p
  rw [mins]
  split
  ·rfl
  ·simp [ih]
theorem QwP {l:List (Int×Int)}{k v:Int}:(mset ltI l k v).length≤l.length+1:=by
 unfold mset
 split
 ·rw [QwN];omega
 ·rw [QwO];exact Nat.le_refl _
theorem QwQ {l:List (Int×Int)}{k v:Int}(h:Asc (l++[(k,v)])):mset ltI l k v=l++[(k,v)]:=by
 have hl:Asc l:=(List.pairwise_append.1 h).1
 refine Quu (QtT hl k v) h fun j=>?_
 rw [QkE]
 have hk:∀p∈l,p.1<k:=fun p hp=>(List.pairwise_append.1 h).2.2 p hp (k,v) (by simp)
 clear h
 induction l with
 | nil=>
  show(if j=k then some v else none)=(if k=j then some v else none)
  by_cases c:j=k
  ·rw [if_pos c,if_pos c.symm]
  ·rw [if_neg c,if_neg (fun e=>c e.symm)]
 | cons p l ih=>
  obtain⟨a,x⟩:=p
  have h1:=hk (a,x) List.mem_cons_self
  simp only at h1
  rw [List.cons_append,Qae,Qae]
  rw [←ih (Qf4.1 hl).2 fun p hp=>hk p (List.mem_cons_of_mem _ hp)]
  by_cases c:j=k
  ·subst c;rw [if_pos rfl,if_pos rfl,if_neg (by omega)]
  ·rw [if_neg c,if_neg c]
section
variable {ρ:Type}{g:Int→Int→Int}{stop:Int→Bool}{q:Option ρ}{body:List (Int×Int)→Int×Int→Option (List (Int×Int)⊕ρ)}
def cntL (s:List (Int×Int))(k:Int):Int:=(mget s k).getD 0
def Qqh (g:Int→Int→Int)(s l:List (Int×Int))(k:Int):Option Int:=match mget l k with
 | some v=>some (g (cntL s k) v)
 | none=>mget s k
theorem QoP (hb:∀s p,body s p=bif stop (g (cntL s p.1) p.2)then q.map Sum.inr else some (.inl (mset ltI s p.1 (g (cntL s p.1) p.2)))):
  ∀l s,Asc s→QlN l→((∃p∈l,stop (g (cntL s p.1) p.2)=true)∧runL body s l=q.map Sum.inr)∨
   ((∀p∈l,stop (g (cntL s p.1) p.2)=false)∧∃s',runL body s l=some (.inl s')∧Asc s'∧s'.length≤s.length+l.length∧∀k,mget s' k=Qqh g s l k):=by
 intro l
 induction l with
 | nil=>intro s hs _;exact .inr ⟨fun p h=>(by cases h),s,rfl,hs,by simp,fun k=>rfl⟩
 | cons p l ih=>
  intro s hs hl
  obtain⟨h1,h2⟩:=Qut.1 hl
  simp only [runL,hb]
  cases hst:stop (g (cntL s p.1) p.2)with
  | true=>exact .inl ⟨⟨p,List.mem_cons_self,hst⟩,by cases q<;>rfl⟩
  | false=>
   simp only [cond_false,Option.bind_some,Sum.elim_inl]
   have hc:∀r∈l,cntL (mset ltI s p.1 (g (cntL s p.1) p.2)) r.1=cntL s r.1:=fun r hr=>by
    unfold cntL
    rw [QkE,if_neg (fun e=>h1 r hr e.symm)]
   rcases ih _ (QtT hs p.1 (g (cntL s p.1) p.2)) h2 with⟨⟨r,hr,h3⟩,h4⟩|⟨h3,s',h4,h5,h6,h7⟩
   ·exact .inl ⟨⟨r,List.mem_cons_of_mem _ hr,by rw [hc r hr]at h3;exact h3⟩,h4⟩
   ·refine .inr ⟨fun r hr=>?_,s',h4,h5,?_,fun k=>?_⟩
    ·rcases List.mem_cons.1 hr with rfl | hr
     ·exact hst
     ·have:=h3 r hr;rwa [hc r hr]at this
    ·have:=QwP (l:=s) (k:=p.1) (v:=g (cntL s p.1) p.2)
     simp;omega
    ·rw [h7]
     obtain⟨a,x⟩:=p
     unfold Qqh
     rw [Qae]
     by_cases e:a=k
     ·subst e
      rw [if_pos rfl,Qr1.2 (fun r hr=>Ne.symm (h1 r hr)),QkE,if_pos rfl]
     ·rw [if_neg e]
      simp only [cntL,QkE,if_neg (fun e'=>e (Eq.symm e'):¬k=a)]
theorem Qr2 (hb:∀s p,body s p=bif stop (g (cntL s p.1) p.2)then q.map Sum.inr else some (.inl (mset ltI s p.1 (g (cntL s p.1) p.2)))){l s:List (Int×Int)}(hs:Asc s)(hl:QlN l):
  ((∃p∈l,stop (g (cntL s p.1) p.2)=true)∧∀r,q=some r→Qh5 body s l=some (.inr r))∨
   ((∀p∈l,stop (g (cntL s p.1) p.2)=false)∧∃s',Qh5 body s l=some (.inl s')∧Asc s'∧s'.length≤s.length+l.length∧∀k,mget s' k=Qqh g s l k):=by
 have key:∀l':List (Int×Int),l'.Perm l→runL body s l'=runL body s l:=fun l' hp=>by
  have hl':QlN l':=(hp.pairwise_iff (fun hab=>Ne.symm hab)).2 hl
  rcases QoP hb l' s hs hl' with⟨⟨p,h1,h2⟩,h3⟩|⟨h1,s1,h3,h4,_,h5⟩
  ·rcases QoP hb l s hs hl with⟨_,g3⟩|⟨g1,_⟩
   ·rw [h3,g3]
   ·rw [g1 p (hp.mem_iff.1 h1)]at h2;cases h2
  ·rcases QoP hb l s hs hl with⟨⟨p,g1,g2⟩,g3⟩|⟨g1,s2,g3,g4,_,g5⟩
   ·rw [h1 p (hp.mem_iff.2 g1)]at g2;cases g2
   ·rw [h3,g3,Quu h4 g4 fun k=>?_]
    rw [h5,g5]
    unfold Qqh
    rw [Qv0 hl' hp k]
 rcases QoP hb l s hs hl with⟨h1,h3⟩|⟨h1,s1,h3,h4,h6,h5⟩
 ·exact .inl ⟨h1,fun r hr=>Qjc.2 ⟨key,by rw [h3,hr];rfl⟩⟩
 ·exact .inr ⟨h1,s1,Qjc.2 ⟨key,h3⟩,h4,h6,h5⟩
end
theorem Qvc {ρ:Type}{bad:Int×Int→Bool}{q:ρ}{body:Unit→Int×Int→Option (Unit⊕ρ)}(hb:∀p,body () p=some (bif bad p then .inr q else .inl ()))(l:List (Int×Int)):
  Qh5 body () l=some (bif l.any bad then .inr q else .inl ()):=by
 have h1:∀l:List (Int×Int),runL body () l=some (bif l.any bad then .inr q else .inl ()):=by
  intro l
  induction l with
  | nil=>rfl
  | cons p l ih=>
   simp only [runL,hb,Option.bind_some,List.any_cons]
   cases bad p with
   | true=>rfl
   | false=>exact ih
 refine Qjc.2 ⟨fun l' hp=>?_,h1 l⟩
 rw [h1,h1]
 congr 2
 rw [Bool.eq_iff_iff,List.any_eq_true,List.any_eq_true]
 exact⟨fun ⟨x,a,b⟩=>⟨x,hp.mem_iff.1 a,b⟩,fun ⟨x,a,b⟩=>⟨x,hp.mem_iff.2 a,b⟩⟩
def rtF (a:Int):List (Int×Int)→Bool
 | []=>true
 | p::r=>!(decide (p.1≤a)||(decide (p.2<1)||decide (1048576<p.2)))&&rtF p.1 r
theorem Qxp {a:Int}{l:List (Int×Int)}:rtF a l=true↔Asc l∧∀p∈l,a<p.1∧1≤p.2∧p.2≤1048576:=by
 induction l generalizing a with
 | nil=>simp [rtF,Asc]
 | cons p l ih=>
  rw [rtF,Bool.and_eq_true,ih,Qf4]
  simp only [Bool.not_eq_true',Bool.or_eq_false_iff,decide_eq_false_iff_not]
  constructor
  ·rintro ⟨⟨h1,h2,h3⟩,h4,h5⟩
   refine⟨⟨fun q hq=>(h5 q hq).1,h4⟩,fun q hq=>?_⟩
   rcases List.mem_cons.1 hq with rfl | hq
   ·omega
   ·have:=h5 q hq;omega
  ·rintro ⟨⟨h1,h2⟩,h3⟩
   have:=h3 p List.mem_cons_self
   exact⟨by omega,h2,fun q hq=>⟨h1 q hq,(h3 q (List.mem_cons_of_mem _ hq)).2⟩⟩
def Rt (l:List (Int×Int)):Prop:=Asc l∧∀p∈l,0≤p.1∧1≤p.2∧p.2≤1048576
theorem Qdy {l:List (Int×Int)}:rtF (-1) l=true↔Rt l:=by
 rw [Qxp]
 constructor
 ·rintro ⟨h1,h2⟩;exact⟨h1,fun p hp=>by have:=h2 p hp;omega⟩
 ·rintro ⟨h1,h2⟩;exact⟨h1,fun p hp=>by have:=h2 p hp;omega⟩
theorem Rt.nil : Rt []:=⟨List.Pairwise.nil,fun p h=>by cases h⟩
theorem Qjt {l:List (Int×Int)}(h:QlN l){p:Int×Int}(hp:p∈l):cntL l p.1=p.2:=by
 unfold cntL;rw [(QdL h).2 (show(p.1,p.2)∈l from hp)];rfl
theorem Rt.cnt {l:List (Int×Int)}(h:Rt l)(k:Int):0≤cntL l k∧cntL l k≤1048576:=by
 unfold cntL
 cases e:mget l k with
 | none=>simp
 | some v=>have:=h.2 _ ((QdL h.1.nd).1 e);simp at this ⊢;omega
theorem Rt.cnt_pos {l:List (Int×Int)}(h:Rt l){k:Int}(hk:0<cntL l k):0≤k:=by
 unfold cntL at hk
 cases e:mget l k with
 | none=>rw [e]at hk;simp at hk
 | some v=>exact(h.2 _ ((QdL h.1.nd).1 e)).1
def posL (l:List (Int×Int)):List (Int×Int):=l.filter fun p=>decide (0<p.2)
theorem QtU {l:List (Int×Int)}(h:Asc l)(k:Int):cntL (posL l) k=if 0<cntL l k then cntL l k else 0:=by
 have hp:Asc (posL l):=h.sublist List.filter_sublist
 by_cases c:0<cntL l k
 ·rw [if_pos c]
  unfold cntL at c
  cases e:mget l k with
  | none=>rw [e]at c;simp at c
  | some v=>
   rw [e]at c
   have h1:(k,v)∈posL l:=List.mem_filter.2 ⟨(QdL h.nd).1 e,by simpa using c⟩
   unfold cntL
   rw [(QdL hp.nd).2 h1,e]
 ·rw [if_neg c]
  unfold cntL
  cases e:mget (posL l) k with
  | none=>rfl
  | some v=>
   have h1:=List.mem_filter.1 ((QdL hp.nd).1 e)
   have h2:=(QdL h.nd).2 h1.1
   unfold cntL at c
   rw [h2]at c
   simp at h1 c;omega
theorem Qv1 {l:List (Int×Int)}(h:Asc l)(hb:∀k,0<cntL l k→0≤k∧cntL l k≤1048576):Rt (posL l):=by
 refine⟨h.sublist List.filter_sublist,fun p hp=>?_⟩
 obtain⟨h1,h2⟩:=List.mem_filter.1 hp
 have h3:=Qjt h.nd h1
 have h4:0<p.2:=of_decide_eq_true h2
 have:=hb p.1 (by omega)
 omega
theorem Qv2 {l:List (Int×Int)}(h:Asc l):Qd5 (l.map Prod.fst)=l.map Prod.fst:=by
 rw [QoB]
 refine List.mergeSort_of_pairwise ?_
 rw [List.pairwise_map]
 exact h.imp fun h=>by simp;omega
end Go.Vm
namespace Go.Vm
open Go Go.RowKit
def upL : Int→Nat→List Int
 | _,0=>[]
 | x,k+1=>x::upL (x+1) k
def binds : List Int→List (List Int)
 | []=>[[]]
 | s::r=>(0::upL 1 (s-1).toNat).flatMap fun x=>(binds r).map (x::·)
def Qdz : List Int→List Int→List (List Int)
 | s::r,x::d=>(Qdz r d).map (x::·)++(upL (x+1) (s-(x+1)).toNat).flatMap fun y=>(binds r).map (y::·)
 | _,_=>[]
def Qi7 (l:List Int):List Int:=List.replicate l.length 0
theorem QqT (l:List Int):binds l=Qi7 l::Qdz l (Qi7 l):=by
 induction l with
 | nil=>rfl
 | cons s r ih=>
  show(0::upL 1 (s-1).toNat).flatMap (fun x=>(binds r).map (x::·))=(0::Qi7 r)::((Qdz r (Qi7 r)).map (0::·)++(upL (0+1) (s-(0+1)).toNat).flatMap fun y=>(binds r).map (y::·))
  rw [List.flatMap_cons,Int.zero_add]
  have:(binds r).map (fun x=>(0:Int)::x)=(0::Qi7 r)::(Qdz r (Qi7 r)).map (0::·):=by rw [ih];rfl
  rw [this];rfl
def Qmw : List Int→List Int→Option (List Int)
 | s::r,x::d=>match Qmw r d with
  | some e=>some (x::e)
  | none=>if x+1<s then some ((x+1)::Qi7 r)else none
 | _,_=>none
theorem Qvd : ∀l d:List Int,Qdz l d=match Qmw l d with
  | none=>[]
  | some e=>e::Qdz l e:=by
 intro l
 induction l with
 | nil=>intro d;rfl
 | cons s r ih=>
  intro d
  cases d with
  | nil=>rfl
  | cons x d=>
   have h:=ih d
   rw [Qmw]
   cases e:Qmw r d with
   | some e'=>
    rw [e]at h
    simp only [Qdz,h];rfl
   | none=>
    rw [e]at h
    simp only at h
    simp only [Qdz,h,List.map_nil,List.nil_append]
    by_cases c:x+1<s
    ·rw [if_pos c]
     rw [show(s-(x+1)).toNat=(s-(x+1+1)).toNat+1 by omega,upL,List.flatMap_cons]
     have:(binds r).map (fun z=>(x+1)::z)=((x+1)::Qi7 r)::(Qdz r (Qi7 r)).map ((x+1)::·):=by rw [QqT r];rfl
     rw [this];rfl
    ·rw [if_neg c,show(s-(x+1)).toNat=0 by omega];rfl
theorem QsZ : ∀l d:List Int,(∀(j:Nat) x s,d[j]? = some x→l[j]? = some s→¬x+1<s)→Qmw l d=none:=by
 intro l
 induction l with
 | nil=>intro d _;cases d<;>rfl
 | cons s r ih=>
  intro d h
  cases d with
  | nil=>rfl
  | cons x d=>
   rw [Qmw,ih d fun j y z h1 h2=>h (j+1) y z (by simpa using h1) (by simpa using h2)]
   simp only
   rw [if_neg (h 0 x s rfl rfl)]
theorem Qxq : ∀(k:Nat) (l d:List Int) (x s:Int),l.length=d.length→d[k]? = some x→l[k]? = some s→x+1<s→(∀(j:Nat) y z,k<j→d[j]? = some y→l[j]? = some z→¬y+1<z)→
  Qmw l d=some (d.take k++(x+1)::List.replicate (d.length-(k+1)) 0):=by
 intro k
 induction k with
 | zero=>
  intro l d x s hl hd hs hlt ha
  cases l with
  | nil=>cases hs
  | cons s' r=>
   cases d with
   | nil=>cases hd
   | cons x' d=>
    simp only [List.getElem?_cons_zero,Option.some.injEq]at hd hs
    subst hd;subst hs
    rw [Qmw,QsZ r d fun j y z h1 h2=>ha (j+1) y z (by omega) (by simpa using h1) (by simpa using h2)]
    simp only
    rw [if_pos hlt]
    simp only [List.length_cons]at hl
    simp [Qi7];omega
 | succ k ih=>
  intro l d x s hl hd hs hlt ha
  cases l with
  | nil=>cases hs
  | cons s' r=>
   cases d with
   | nil=>cases hd
   | cons x' d=>
    simp only [List.getElem?_cons_succ]at hd hs
    simp only [List.length_cons,Nat.add_right_cancel_iff]at hl
    rw [Qmw,ih r d x s hl hd hs hlt fun j y z h0 h1 h2=>ha (j+1) y z (by omega) (by simpa using h1) (by simpa using h2)]
    simp
def inB : List Int→List Int→Prop
 | [],[]=>True
 | s::r,x::d=>0≤x∧(x=0∨x<s)∧inB r d
 | _,_=>False
theorem Qxr {y x:Int}{k:Nat}:y∈upL x k↔x≤y∧y<x+k:=by
 induction k generalizing x with
 | zero=>
  simp only [upL,List.not_mem_nil,false_iff];omega
 | succ k ih=>simp only [upL,List.mem_cons,ih];omega
theorem Qv3 {l d:List Int}:d∈binds l↔inB l d:=by
 induction l generalizing d with
 | nil=>cases d<;>simp [binds,inB]
 | cons s r ih=>
  cases d with
  | nil=>simp [binds,inB]
  | cons x d=>
   simp only [binds,List.mem_flatMap,List.mem_cons,Qxr,List.mem_map,List.cons.injEq,inB,←ih]
   constructor
   ·rintro ⟨y,h1,e,h2,rfl,rfl⟩
    exact⟨by omega,by omega,h2⟩
   ·rintro ⟨h1,h2,h3⟩
    exact⟨x,by omega,d,h3,rfl,rfl⟩
theorem Qxs {l d:List Int}(h:inB l d):d.length=l.length:=by
 induction l generalizing d with
 | nil=>cases d with
  | nil=>rfl
  | cons x d=>exact h.elim
 | cons s r ih=>cases d with
  | nil=>exact h.elim
  | cons x d=>simp [ih h.2.2]
section
variable {α:Type}
def adv (most:Nat)(acc X:List α):List α⊕List α:=if (acc++X).length<most then .inr (acc++X)else .inl ((acc++X).take most)
theorem Qn5 {most:Nat}{acc:List α}(h:acc.length<most):adv most acc []=.inr acc:=by
 unfold adv
 rw [List.append_nil,if_pos h]
theorem QwR {most:Nat}{acc X:List α}(h:acc.length=most):adv most acc X=.inl acc:=by
 unfold adv
 rw [if_neg (by simp;omega)]
 subst h
 rw [List.take_left]
theorem QwS {most:Nat}{acc X:List α}{x:α}:adv most acc (x::X)=adv most (acc++[x]) X:=by
 unfold adv
 rw [List.append_assoc];rfl
theorem Quv {most:Nat}{acc X Y:List α}:adv most acc (X++Y)=match adv most acc X with
  | .inl a=>.inl a
  | .inr a=>adv most a Y:=by
 unfold adv
 by_cases c:(acc++X).length<most
 ·rw [if_pos c]
  simp only [List.append_assoc]
 ·rw [if_neg c,if_neg (by simp at c ⊢;omega),←List.append_assoc,List.take_append_of_le_length (by omega)]
theorem Qv4 {most:Nat}{acc X a:List α}(h:adv most acc X=.inr a):a.length<most:=by
 unfold adv at h
 split at h
 ·cases h;assumption
 ·cases h
theorem Quw {most:Nat}{acc X a:List α}(h:adv most acc X=.inr a):a=acc++X:=by
 unfold adv at h
 split at h
 ·cases h;rfl
 ·cases h
theorem QwT {most:Nat}{X:List α}(h:0<most):(match adv most [] X with | .inl a=>a | .inr a=>a)=X.take most:=by
 unfold adv
 rw [List.nil_append]
 by_cases c:X.length<most
 ·rw [if_pos c];simp only;rw [List.take_of_length_le (by omega)]
 ·rw [if_neg c]
end
end Go.Vm
namespace Go.Vm
open Go Go.RowKit
section
variable {M K:Type}[DecidableEq K](key:M→K)(succ:M→List M)
def hasK (out:List M)(x:M):Bool:=out.any fun y=>decide (key y=key x)
def QaL (most:Nat):List M→List M→List M⊕List M
 | out,[]=>.inr out
 | out,x::xs=>if hasK key out x then QaL most out xs else if out.length=most then .inl out else QaL most (out++[x]) xs
def QbA (most:Nat):Nat→List M→Nat→List M×Bool
 | 0,out,_=>(out,true)
 | f+1,out,a=>match out[a]? with
  | none=>(out,true)
  | some x=>match QaL key most out (succ x)with
   | .inl o=>(o,false)
   | .inr o=>QbA most f o (a+1)
variable {key}{succ}
theorem Qlk {most:Nat}:∀{xs out o:List M},QaL key most out xs=.inr o→out.length≤most→(∃r,o=out++r)∧o.length≤most:=by
 intro xs
 induction xs with
 | nil=>intro out o h hl;cases h;exact⟨⟨[],by simp⟩,hl⟩
 | cons x xs ih=>
  intro out o h hl
  rw [QaL]at h
  split at h
  ·exact ih h hl
  ·split at h
   ·cases h
   ·obtain⟨⟨r,hr⟩,h2⟩:=ih h (by simp;omega)
    exact⟨⟨x::r,by rw [hr];simp⟩,h2⟩
theorem Qmx {most:Nat}:∀{xs out o:List M},QaL key most out xs=.inl o→out.length≤most→(∃r,o=out++r)∧o.length=most:=by
 intro xs
 induction xs with
 | nil=>intro out o h hl;cases h
 | cons x xs ih=>
  intro out o h hl
  rw [QaL]at h
  split at h
  ·exact ih h hl
  ·split at h
   ·cases h;exact⟨⟨[],by simp⟩,by assumption⟩
   ·obtain⟨⟨r,hr⟩,h2⟩:=ih h (by simp;omega)
    exact⟨⟨x::r,by rw [hr];simp⟩,h2⟩
theorem Qun {most most':Nat}(hm:most≤most'):∀{xs out o:List M},QaL key most out xs=.inr o→out.length≤most→QaL key most' out xs=.inr o:=by
 intro xs
 induction xs with
 | nil=>intro out o h hl;exact h
 | cons x xs ih=>
  intro out o h hl
  rw [QaL]at h ⊢
  split at h
  ·rename_i c;rw [if_pos c];exact ih h hl
  ·rename_i c
   split at h
   ·cases h
   ·rename_i c2
    rw [if_neg c,if_neg (by omega)]
    exact ih h (by simp;omega)
theorem Qve {most most':Nat}(hm:most≤most'):∀{xs out o:List M},QaL key most out xs=.inl o→out.length≤most→∃r,QaL key most' out xs=.inl (o++r)∨QaL key most' out xs=.inr (o++r):=by
 intro xs
 induction xs with
 | nil=>intro out o h hl;cases h
 | cons x xs ih=>
  intro out o h hl
  have h0:=h
  rw [QaL]at h ⊢
  split at h
  ·rename_i c;rw [if_pos c];exact ih h hl
  ·rename_i c
   rw [if_neg c]
   split at h
   ·cases h
    by_cases c2:out.length=most'
    ·rw [if_pos c2];exact⟨[],.inl (by simp)⟩
    ·rw [if_neg c2]
     cases e:QaL key most' (out++[x]) xs with
     | inl a=>
      obtain⟨⟨r,hr⟩,_⟩:=Qmx e (by simp;omega)
      exact⟨x::r,.inl (by rw [hr];simp)⟩
     | inr a=>
      obtain⟨⟨r,hr⟩,_⟩:=Qlk e (by simp;omega)
      exact⟨x::r,.inr (by rw [hr];simp)⟩
   ·rw [if_neg (by omega)]
    exact ih h (by simp;omega)
def Qmy (key:M→K)(l:List M):Prop:=l.Pairwise fun a b=>key a≠key b
theorem Qmy.add {l:List M}{x:M}(h:Qmy key l)(hx:hasK key l x=false):Qmy key (l++[x]):=by
 unfold Qmy
 rw [List.pairwise_append]
 refine⟨h,List.pairwise_singleton _ _,fun a ha b hb=>?_⟩
 rw [List.mem_singleton]at hb
 subst hb
 intro e
 have:hasK key l b=true:=List.any_eq_true.2 ⟨a,ha,decide_eq_true e⟩
 rw [this]at hx;cases hx
theorem Qr3 {P:M→Prop}{most:Nat}:∀{xs out o:List M},(QaL key most out xs=.inl o∨QaL key most out xs=.inr o)→Qmy key out→(∀x∈out,P x)→(∀x∈xs,P x)→Qmy key o∧∀x∈o,P x:=by
 intro xs
 induction xs with
 | nil=>intro out o h ha hp _;rcases h with h | h<;>cases h;exact⟨ha,hp⟩
 | cons x xs ih=>
  intro out o h ha hp hx
  rw [QaL]at h
  split at h
  ·exact ih h ha hp fun y hy=>hx y (List.mem_cons_of_mem _ hy)
  ·rename_i c
   split at h
   ·rcases h with h | h<;>cases h;exact⟨ha,hp⟩
   ·refine ih h (ha.add (by simpa using c)) (fun y hy=>?_) fun y hy=>hx y (List.mem_cons_of_mem _ hy)
    rcases List.mem_append.1 hy with hy | hy
    ·exact hp y hy
    ·simp at hy;subst hy;exact hx _ List.mem_cons_self
theorem Qv5 {P:M→Prop}(hs:∀x,P x→∀y∈succ x,P y){most:Nat}:∀(f:Nat) {out:List M} {a:Nat},out.length≤most→Qmy key out→(∀x∈out,P x)→
  (∃r,(QbA key succ most f out a).1=out++r)∧(QbA key succ most f out a).1.length≤most∧Qmy key (QbA key succ most f out a).1∧∀x∈(QbA key succ most f out a).1,P x:=by
 intro f
 induction f with
 | zero=>intro out a hl ha hp;exact⟨⟨[],by simp [QbA]⟩,hl,ha,hp⟩
 | succ f ih=>
  intro out a hl ha hp
  rw [QbA]
  cases ho:out[a]? with
  | none=>exact⟨⟨[],by simp⟩,hl,ha,hp⟩
  | some x=>
   simp only
   have hx:=hp x (List.mem_of_getElem? ho)
   cases e:QaL key most out (succ x)with
   | inl o=>
    obtain⟨h1,h2⟩:=Qmx e hl
    obtain⟨h3,h4⟩:=Qr3 (.inl e) ha hp (hs x hx)
    exact⟨h1,by simp only;omega,h3,h4⟩
   | inr o=>
    obtain⟨⟨r,hr⟩,h2⟩:=Qlk e hl
    obtain⟨h3,h4⟩:=Qr3 (.inr e) ha hp (hs x hx)
    simp only
    obtain⟨⟨r2,hr2⟩,k2⟩:=ih (a:=a+1) h2 h3 h4
    exact⟨⟨r++r2,by rw [hr2,hr,List.append_assoc]⟩,k2⟩
theorem Qvf {most most':Nat}(hm:most≤most'):∀(f f':Nat) {out:List M} {a:Nat},out.length≤most→most<f+a→f≤f'→
  (∃r,(QbA key succ most' f' out a).1=(QbA key succ most f out a).1++r)∧((QbA key succ most f out a).2=true→QbA key succ most' f' out a=QbA key succ most f out a):=by
 intro f
 induction f with
 | zero=>
  intro f' out a hl hf _
  have ho:out[a]? = none:=List.getElem?_eq_none (by omega)
  cases f' with
  | zero=>exact⟨⟨[],by simp [QbA]⟩,fun _=>rfl⟩
  | succ f'=>rw [QbA,QbA,ho];exact⟨⟨[],by simp⟩,fun _=>rfl⟩
 | succ f ih=>
  intro f' out a hl hf hff
  cases f' with
  | zero=>omega
  | succ f'=>
   rw [QbA,QbA]
   cases ho:out[a]? with
   | none=>exact⟨⟨[],by simp⟩,fun _=>rfl⟩
   | some x=>
    simp only
    cases e:QaL key most out (succ x)with
    | inl o=>
     obtain⟨r,hr⟩:=Qve hm e hl
     refine⟨?_,fun h=>by cases h⟩
     have hol:=Qmx e hl
     rcases hr with hr | hr
     ·rw [hr];exact⟨r,rfl⟩
     ·rw [hr]
      simp only
      have hl2:=(Qlk hr (by omega)).2
      have key2:∀(f:Nat) {out:List M} {a:Nat},out.length≤most'→∃r,(QbA key succ most' f out a).1=out++r:=by
       intro f
       induction f with
       | zero=>intro out a _;exact⟨[],by simp [QbA]⟩
       | succ f ih=>
        intro out a hl
        rw [QbA]
        cases ho:out[a]? with
        | none=>exact⟨[],by simp⟩
        | some x=>
         simp only
         cases e:QaL key most' out (succ x)with
         | inl o=>exact(Qmx e hl).1
         | inr o=>
          obtain⟨⟨r,hr⟩,h2⟩:=Qlk e hl
          simp only
          obtain⟨r2,hr2⟩:=ih (a:=a+1) h2
          exact⟨r++r2,by rw [hr2,hr,List.append_assoc]⟩
      obtain⟨r2,hr2⟩:=key2 f' (a:=a+1) hl2
      exact⟨r++r2,by rw [hr2,List.append_assoc]⟩
    | inr o=>
     rw [Qun hm e hl]
     simp only
     exact ih f' (Qlk e hl).2 (by omega) (by omega)
end
end Go.Vm
noncomputable section
namespace Go.Proofs
open Go Go.RowKit Go.Vm
inductive Qdd : Qg→Prop where
 | mk (e:Qg):e.Kids.length≤maxLen→(∀k∈e.Kids,Qdd k)→Qdd e
theorem Qep {e:Qg}(h:Qdd e):lenL Qdd e.Kids:=by
 cases h with
 | mk _ h1 h2=>exact⟨h1,h2⟩
theorem QpS {e k:Qg}(h:k∈e.Kids):SizeOf.sizeOf k<SizeOf.sizeOf e:=by
 obtain⟨a,b,l⟩:=e
 have:=List.sizeOf_lt_of_mem h
 simp only [Qg.mk.sizeOf_spec]at *
 omega
theorem Qg.pos (e:Qg):0<SizeOf.sizeOf e:=by
 obtain⟨a,b,l⟩:=e
 simp only [Qg.mk.sizeOf_spec];omega
inductive POk (v:Int):Qg→Prop where
 | mk (e:Qg):(e.Kind=1∨e.Kind=2∨e.Kind=3∨e.Kind=4∨e.Kind=5∨e.Kind=6)→(e.Kind=2→0≤e.Num∧e.Num<v)→(e.Kind=3∨e.Kind=4→e.Kids.length=1)→(e.Kind=5→e.Kids.length=2)→(e.Kind=6→e.Kids.length=3)→(∀k∈e.Kids,POk v k)→POk v e
def QbR (x:QA):Prop:=Qf8 x.Name∧True∧True∧True∧(lenL Qf8) x.Names∧True∧True
def Qcy (x:QB):Prop:=Qf8 x.Name∧True∧(lenL (fun _=>True)) x.First
def QdW (x:TVar):Prop:=Qf8 x.Name∧True
def Qi8 (x:TArc):Prop:=True∧Qdd x.Expr
def Qay (x:Qr):Prop:=Qf8 x.Name∧(lenL QdW) x.Vars∧Qdd x.Guard∧True∧True∧(lenL Qi8) x.Ins∧(lenL Qi8) x.Outs∧(lenL (fun _=>True)) x.Cancel∧True∧True
def QK (x:TNet):Prop:=(lenL QbR) x.Colours∧(lenL Qcy) x.Places∧(lenL Qay) x.Tasks∧True∧True
def Qtb (x:Qak):Prop:=(lenL QbR) x.all∧(lenL (fun _=>True)) x.sizes∧True
theorem Qr4 (v1:TNet)(h_v1:QK v1):TotP (Qh9 v1) fun r=>True:=by
 unfold Qh9
 exact TotP.okT
theorem Qb1 (l1:(List QB))(k2:Int)(h_l1:(lenL Qcy) l1):TotP (Qan l1 k2) fun r=>r=true→0≤k2∧k2<l1.length:=by
 unfold Qan
 exact TotP.ok (by first | (intro hr;first | (cases hr;done) | omega | ((try simp only [Bool.and_eq_true,Bool.or_eq_true,Bool.or_eq_false_iff,Bool.not_eq_true',Bool.not_eq_false',decide_eq_true_eq,decide_eq_false_iff_not,beq_iff_eq,bne_iff_ne,ne_eq,Bool.not_eq_true,Bool.not_eq_false,List.length_append,List.length_singleton,List.length_nil,List.length_drop,List.length_take,List.length_cons,QkF,QkG,Qjs]at *);omega)) | ((try simp only [Bool.and_eq_true,Bool.or_eq_true,Bool.or_eq_false_iff,Bool.not_eq_true',Bool.not_eq_false',decide_eq_true_eq,decide_eq_false_iff_not,beq_iff_eq,bne_iff_ne,ne_eq,Bool.not_eq_true,Bool.not_eq_false,List.length_append,List.length_singleton,List.length_nil,List.length_drop,List.length_take,List.length_cons,QkF,QkG,Qjs]at *);omega) | simp_all)
theorem Qr5 (v1:TNet)(h_v1:QK v1):TotP (Qia v1) fun r=>True:=by
 unfold Qia
 refine TotP.bind (P:=fun _=>True) ?_ (fun x_1 hv2=>?_)
 ·unfold Qkx
  refine TotP.bind (Qb1 v1.Places v1.From (h_v1.2.1)) (fun x_3 hv4=>?_)
  refine TotP.bif (fun hc5=>?_) (fun hc5=>?_)
  ·refine TotP.bind (Qb1 v1.Places v1.To (h_v1.2.1)) (fun x_6 hv7=>?_)
   exact TotP.okT
  ·exact TotP.okT
 unfold QfO
 exact TotP.okT
theorem Qr6 (v1:TNet)(h_v1:QK v1):TotP (Qib v1) fun r=>True:=by
 unfold Qib
 exact TotP.okT
theorem Qr7 (v1:TNet)(v2:Int)(v3:Int)(v4:Int)(h_v1:QK v1):TotP (Qic v1 v2 v3 v4) fun r=>True:=by
 unfold Qic
 refine TotP.bind (Qr4 v1 (h_v1)) (fun x_1 hv2=>?_)
 refine TotP.bif (fun hc3=>?_) (fun hc3=>?_)
 ·exact TotP.okT
 ·refine TotP.bind (Qr5 v1 (h_v1)) (fun x_4 hv5=>?_)
  refine TotP.bif (fun hc6=>?_) (fun hc6=>?_)
  ·exact TotP.okT
  ·refine TotP.bind (Qr6 v1 (h_v1)) (fun x_7 hv8=>?_)
   refine TotP.bif (fun hc9=>?_) (fun hc9=>?_)
   ·exact TotP.okT
   ·exact TotP.okT
theorem Qr8 (lo1:Int)(hi2:Int)  : TotP (Qh6 lo1 hi2) fun r=>True:=by
 unfold Qh6
 refine TotP.bif (fun hc1=>?_) (fun hc1=>?_)
 ·exact TotP.okT
 ·exact TotP.okT
theorem Qmm (c1:Int)  : TotP (Qer c1) fun r=>True:=by
 unfold Qer
 exact TotP.okT
theorem Qll (s1:ByteArray)(h_s1:Qf8 s1):TotP (QeG s1) fun r=>True:=by
 unfold QeG
 refine TotP.bind (P:=fun _=>True) ?_ (fun x_1 hv2=>?_)
 ·unfold Qkl
  refine TotP.bif (fun hc3=>?_) (fun hc3=>?_)
  ·exact TotP.okT
  ·have hshc3:=QvZ hc3
   refine TotP.bif (fun hc4=>?_) (fun hc4=>?_)
   ·exact TotP.okT
   ·refine TotP.bind (TotP.sidx (by omega) (by omega)) (fun c_5 hv6=>?_)
    refine TotP.bind (Qmm c_5 ) (fun x_7 hv8=>?_)
    exact TotP.okT
 unfold QfD
 refine TotP.bif (fun hc9=>?_) (fun hc9=>?_)
 ·exact TotP.okT
 ·refine TotP.bind (TotP.up (s1.size) (fun st=>st) (fun _=>True) (Q:=fun q=>True) rfl trivial (fun i11 st hi12 hn13 hj14=>?_)) (fun q15 hq16=>?_)
  ·obtain⟨x_10,hst⟩:∃y,y=st:=⟨_,rfl⟩
   subst hst
   replace hi12:x_10=(i11:Int):=hi12
   show TotP (QdZ s1 x_10) _
   unfold QdZ
   refine TotP.bif (fun hc17=>?_) (fun hc17=>?_)
   ·refine TotP.bind (TotP.sidx (by omega) (by simp_all)) (fun c_18 hv19=>?_)
    refine TotP.bind (P:=fun _=>True) ?_ (fun x_20 hv21=>?_)
    ·unfold Qkm
     refine TotP.bind (Qmm c_18 ) (fun x_22 hv23=>?_)
     refine TotP.bif (fun hc24=>?_) (fun hc24=>?_)
     ·refine TotP.bif (fun hc25=>?_) (fun hc25=>?_)
      ·exact TotP.okT
      ·refine TotP.bif (fun hc26=>?_) (fun hc26=>?_)
       ·exact TotP.okT
       ·exact TotP.okT
     ·exact TotP.okT
    unfold QfA
    refine TotP.bif (fun hc27=>?_) (fun hc27=>?_)
    ·exact TotP.ok (Ql trivial)
    ·exact TotP.ok (Qw ⟨(by simp_all),by subst hi12;exact Qt (by simp_all) h_s1,trivial⟩)
   ·exact TotP.ok (Ql trivial)
  rcases q15 with q15 | q15
  ·show TotP (QfB) _
   unfold QfB
   exact TotP.okT
  ·show TotP (QfC) _
   unfold QfC
   exact TotP.okT
theorem Qrk (l1:(List ByteArray))(h_l1:(lenL Qf8) l1):TotP (Qhg l1) fun r=>True:=by
 unfold Qhg
 refine TotP.bind (TotP.up (l1.length) (fun st=>st.1) (fun _=>True) (Q:=fun q=>True) rfl trivial (fun i3 st hi4 hn5 hj6=>?_)) (fun q7 hq8=>?_)
 ·obtain⟨x_1,m_2⟩:=st
  replace hi4:x_1=(i3:Int):=hi4
  show TotP (QdC l1 x_1 m_2) _
  unfold QdC
  refine TotP.bif (fun hc9=>?_) (fun hc9=>?_)
  ·refine TotP.bind (TotP.idx (by omega) (by simp_all)) (fun e_10 hv11=>?_)
   refine TotP.bind (P:=fun _=>True) ?_ (fun x_12 hv13=>?_)
   ·unfold Qjz
    refine TotP.bind (Qll e_10 (((h_l1).2 e_10 hv11))) (fun x_14 hv15=>?_)
    refine TotP.bif (fun hc16=>?_) (fun hc16=>?_)
    ·exact TotP.okT
    ·exact TotP.okT
   unfold QeL
   refine TotP.bif (fun hc17=>?_) (fun hc17=>?_)
   ·exact TotP.ok (Ql trivial)
   ·exact TotP.ok (Qw ⟨(by simp_all),by subst hi4;exact Qt (by simp_all) (h_l1).1,trivial⟩)
  ·exact TotP.ok (Ql trivial)
 rcases q7 with q7 | q7
 ·show TotP (QeM) _
  unfold QeM
  exact TotP.okT
 ·show TotP (QeN) _
  unfold QeN
  exact TotP.okT
theorem Qr9 (c1:QA)(ahead2:(List Int))(h_c1:QbR c1)(h_ahead2:(lenL (fun _=>True)) ahead2):TotP (Qh7 c1 ahead2) fun r=>True:=by
 unfold Qh7
 refine TotP.bif (fun hc1=>?_) (fun hc1=>?_)
 ·refine TotP.bind (Qr8 c1.Lo c1.Hi ) (fun x_2 hv3=>?_)
  exact TotP.okT
 ·refine TotP.bif (fun hc4=>?_) (fun hc4=>?_)
  ·refine TotP.bind (Qrk c1.Names (h_c1.2.2.2.2.1)) (fun x_5 hv6=>?_)
   refine TotP.bif (fun hc7=>?_) (fun hc7=>?_)
   ·exact TotP.okT
   ·unfold Qb6
    exact TotP.okT
  ·refine TotP.bif (fun hc8=>?_) (fun hc8=>?_)
   ·refine TotP.bif (fun hc9=>?_) (fun hc9=>?_)
    ·refine TotP.bind (TotP.idx (by(try simp only [Bool.and_eq_true,Bool.or_eq_true,Bool.or_eq_false_iff,Bool.not_eq_true',Bool.not_eq_false',decide_eq_true_eq,decide_eq_false_iff_not,beq_iff_eq,bne_iff_ne,ne_eq,Bool.not_eq_true,Bool.not_eq_false,List.length_append,List.length_singleton,List.length_nil,List.length_drop,List.length_take,List.length_cons,QkF,QkG,Qjs]at *);omega) (by(try simp only [Bool.and_eq_true,Bool.or_eq_true,Bool.or_eq_false_iff,Bool.not_eq_true',Bool.not_eq_false',decide_eq_true_eq,decide_eq_false_iff_not,beq_iff_eq,bne_iff_ne,ne_eq,Bool.not_eq_true,Bool.not_eq_false,List.length_append,List.length_singleton,List.length_nil,List.length_drop,List.length_take,List.length_cons,QkF,QkG,Qjs]at *);omega)) (fun e_10 hv11=>?_)
     refine TotP.bind (TotP.idx (by(try simp only [Bool.and_eq_true,Bool.or_eq_true,Bool.or_eq_false_iff,Bool.not_eq_true',Bool.not_eq_false',decide_eq_true_eq,decide_eq_false_iff_not,beq_iff_eq,bne_iff_ne,ne_eq,Bool.not_eq_true,Bool.not_eq_false,List.length_append,List.length_singleton,List.length_nil,List.length_drop,List.length_take,List.length_cons,QkF,QkG,Qjs]at *);omega) (by(try simp only [Bool.and_eq_true,Bool.or_eq_true,Bool.or_eq_false_iff,Bool.not_eq_true',Bool.not_eq_false',decide_eq_true_eq,decide_eq_false_iff_not,beq_iff_eq,bne_iff_ne,ne_eq,Bool.not_eq_true,Bool.not_eq_false,List.length_append,List.length_singleton,List.length_nil,List.length_drop,List.length_take,List.length_cons,QkF,QkG,Qjs]at *);omega)) (fun e_12 hv13=>?_)
     exact TotP.okT
    ·unfold Qb6
     exact TotP.okT
   ·unfold Qb6
    exact TotP.okT
theorem Qm8 (l1:(List QA))(h_l1:(lenL QbR) l1):TotP (Qfi l1) fun r=>((lenL (fun _=>True)) r.1∧True)∧(r.2=true→r.1.length=l1.length∧∀x∈r.1,1≤x∧x≤1024):=by
 unfold Qfi
 refine TotP.bif (fun hc=>TotP.ok ⟨⟨lenL.nil,trivial⟩,fun h=>by cases h⟩) (fun hc=>?_)
 have hl:l1.length≤32:=by simp only [decide_eq_false_iff_not]at hc;omega
 refine TotP.bind (TotP.up l1.length (fun st=>st.1) (fun st=>(st.2.2.length:Int)=st.1∧∀x∈st.2.2,1≤x∧x≤1024) (Q:=fun q=>∀l,q=.inr l→l.length=l1.length∧∀x∈l,1≤x∧x≤1024) rfl ⟨rfl,fun x h=>(by cases h)⟩ (fun i st hi hn hj=>?_)) (fun q hq=>?_)
 ·obtain⟨x,m,l⟩:=st
  replace hi:x=(i:Int):=hi
  replace hj:(l.length:Int)=x∧∀x∈l,1≤x∧x≤1024:=hj
  obtain⟨hj,hj2⟩:=hj
  show TotP (QdD l1 x m l) _
  unfold QdD
  refine TotP.bif (fun hc2=>?_) (fun hc2=>?_)
  ·simp only [decide_eq_true_eq]at hc2
   refine TotP.bind (TotP.idx (by omega) (by omega)) fun e he=>?_
   refine TotP.bind (Qr9 e l (h_l1.2 e he) ⟨by unfold maxLen;omega,fun _ _=>trivial⟩) fun y _=>?_
   refine TotP.bind (P:=fun z=>z=false→1≤y∧y≤1024) ?_ fun z hz=>?_
   ·unfold QjA
    refine TotP.bind (Qll e.Name (h_l1.2 e he).1) fun z _=>?_
    refine TotP.bif (fun _=>TotP.ok (fun h=>by cases h)) fun _=>TotP.bif (fun _=>TotP.ok (fun h=>by cases h)) fun _=>TotP.bif (fun _=>TotP.ok (fun h=>by cases h)) fun h1=>TotP.ok fun h2=>?_
    simp only [decide_eq_false_iff_not]at h1 h2
    omega
   unfold QeO
   refine TotP.bif (fun _=>TotP.ok (Ql fun l h=>by cases h)) fun hz0=>?_
   refine TotP.bind (TotP.chk (by simp;omega)) fun _ _=>?_
   exact TotP.ok (Qw ⟨by omega,by subst hi;exact Qt (by omega) (by unfold maxLen;omega:l1.length≤maxLen),by simp only [List.length_append,List.length_singleton];subst hi;rw [Qt (show i<l1.length by omega) (by unfold maxLen;omega)];omega,fun u hu=>by
    rcases List.mem_append.1 hu with hu | hu
    ·exact hj2 u hu
    ·simp at hu;subst hu;exact hz hz0⟩)
  ·simp only [decide_eq_false_iff_not]at hc2
   exact TotP.ok (Ql fun l' h=>by cases h;exact⟨by omega,hj2⟩)
 ·rcases q with q | q
  ·exact TotP.ok ⟨⟨lenL.nil,trivial⟩,fun h=>by cases h⟩
  ·have:=hq q rfl
   exact TotP.ok ⟨⟨⟨by show q.length≤maxLen;unfold maxLen;omega,fun _ _=>trivial⟩,trivial⟩,fun _=>this⟩
theorem Qrl (l1:(List QA))(h_l1:(lenL QbR) l1):TotP (Qho l1) fun r=>True:=by
 unfold Qho
 refine TotP.bind (Qm8 l1 (h_l1)) (fun x_1 hv2=>?_)
 exact TotP.okT
theorem Qn6 (v1:TNet)(v2:Int)(h_v1:QK v1)(hp0:0≤v2)(hp1:v2<v1.Colours.length):TotP (QdP v1 v2) fun r=>True:=by
 have hl:=h_v1.1.1
 unfold maxLen at hl
 unfold QdP
 rw [Qcs (show -9223372036854775808≤v2+1∧v2+1≤9223372036854775807 by omega)]
 refine TotP.bind (TotP.chk (by simp only [Bool.and_eq_true,decide_eq_true_eq];omega)) fun _ _=>?_
 exact TotP.bind (Qrl _ ((h_v1.1.drop _).take _)) fun x _=>TotP.okT
def Qsa : List ByteArray:=(Qgj).getD []
set_option maxRecDepth 100000 in
theorem QwU : Qgj=some Qsa:=by kernel_rfl
set_option maxRecDepth 100000 in
theorem Quo : (decide (Qsa.length≤1000)&&Qsa.all fun s=>decide (s.size≤1000))=true:=by kernel_rfl
theorem Qsb : TotP (Qgj) fun r=>lenL Qf8 r:=by
 have h:=Quo
 rw [Bool.and_eq_true,decide_eq_true_iff,List.all_eq_true]at h
 refine⟨Qsa,QwU,by unfold maxLen;omega,fun x hx=>?_⟩
 have:=h.2 x hx
 rw [decide_eq_true_iff]at this
 unfold Qf8 maxLen;omega
theorem Qlm (s1:(List ByteArray))(v2:ByteArray)(h_s1:(lenL Qf8) s1)(h_v2:Qf8 v2):TotP (Qbs s1 v2) fun r=>True:=by
 unfold Qbs
 refine TotP.bind (TotP.up (s1.length) (fun st=>st) (fun _=>True) (Q:=fun q=>True) rfl trivial (fun i2 st hi3 hn4 hj5=>?_)) (fun q6 hq7=>?_)
 ·obtain⟨x_1,hst⟩:∃y,y=st:=⟨_,rfl⟩
  subst hst
  replace hi3:x_1=(i2:Int):=hi3
  show TotP (Qax s1 v2 x_1) _
  unfold Qax
  refine TotP.bif (fun hc8=>?_) (fun hc8=>?_)
  ·refine TotP.bind (TotP.idx (by omega) (by simp_all)) (fun e_9 hv10=>?_)
   refine TotP.bif (fun hc11=>?_) (fun hc11=>?_)
   ·exact TotP.ok (Ql trivial)
   ·exact TotP.ok (Qw ⟨(by simp_all),by subst hi3;exact Qt (by simp_all) (h_s1).1,trivial⟩)
  ·exact TotP.ok (Ql trivial)
 rcases q6 with q6 | q6
 ·show TotP (QaY q6) _
  unfold QaY
  exact TotP.okT
 ·show TotP (QaZ) _
  unfold QaZ
  exact TotP.okT
theorem Qj1 (s1:(List ByteArray))(v2:ByteArray)(h_s1:(lenL Qf8) s1)(h_v2:Qf8 v2):TotP (Qa0 s1 v2) fun r=>True:=by
 unfold Qa0
 refine TotP.bind (Qlm s1 v2 (h_s1) (h_v2)) (fun x_1 hv2=>?_)
 exact TotP.okT
theorem QsD (s1:ByteArray)(h_s1:Qf8 s1):TotP (Qi3 s1) fun r=>True:=by
 unfold Qi3
 refine TotP.bind (Qsb  ) (fun x_1 hv2=>?_)
 refine TotP.bind (Qj1 x_1 s1 (hv2) (h_s1)) (fun x_3 hv4=>?_)
 exact TotP.okT
theorem QhA (s1:ByteArray)(h_s1:Qf8 s1):TotP (Qdu s1) fun r=>True:=by
 unfold Qdu
 refine TotP.bind (P:=fun _=>True) ?_ (fun x_1 hv2=>?_)
 ·unfold Qld
  refine TotP.bind (Qll s1 (h_s1)) (fun x_3 hv4=>?_)
  refine TotP.bif (fun hc5=>?_) (fun hc5=>?_)
  ·refine TotP.bind (QsD s1 (h_s1)) (fun x_6 hv7=>?_)
   exact TotP.okT
  ·exact TotP.okT
 unfold Qgx
 exact TotP.okT
theorem Qnk (s1:ByteArray)(h_s1:Qf8 s1):TotP (Qc7 s1) fun r=>True:=by
 unfold Qc7
 refine TotP.bind (QhA s1 (h_s1)) (fun x_1 hv2=>?_)
 exact TotP.okT
theorem QjK (s1:(List ByteArray))(h_s1:(lenL Qf8) s1):TotP (QaT s1) fun r=>True:=by
 unfold QaT
 refine TotP.bind (TotP.up (s1.length) (fun st=>st) (fun _=>True) (Q:=fun q=>True) rfl trivial (fun i2 st hi3 hn4 hj5=>?_)) (fun q6 hq7=>?_)
 ·obtain⟨x_1,hst⟩:∃y,y=st:=⟨_,rfl⟩
  subst hst
  replace hi3:x_1=(i2:Int):=hi3
  show TotP (Qaa s1 x_1) _
  unfold Qaa
  refine TotP.bif (fun hc8=>?_) (fun hc8=>?_)
  ·refine TotP.bind (TotP.idx (by omega) (by simp_all)) (fun e_9 hv10=>?_)
   refine TotP.bind (Qnk e_9 (((h_s1).2 e_9 hv10))) (fun x_11 hv12=>?_)
   refine TotP.bif (fun hc13=>?_) (fun hc13=>?_)
   ·exact TotP.ok (Ql trivial)
   ·exact TotP.ok (Qw ⟨(by simp_all),by subst hi3;exact Qt (by simp_all) (h_s1).1,trivial⟩)
  ·exact TotP.ok (Ql trivial)
 rcases q6 with q6 | q6
 ·show TotP (QaC q6) _
  unfold QaC
  exact TotP.okT
 ·show TotP (QaD) _
  unfold QaD
  exact TotP.okT
theorem QiM (s1:(List ByteArray))(h_s1:(lenL Qf8) s1):TotP (QaE s1) fun r=>True:=by
 unfold QaE
 refine TotP.bind (QjK s1 (h_s1)) (fun x_1 hv2=>?_)
 exact TotP.okT
theorem Qn7 (v1:QA)(h_v1:QbR v1):TotP (QdQ v1) fun r=>True:=by
 unfold QdQ
 refine TotP.bind (P:=fun _=>True) ?_ (fun x_1 hv2=>?_)
 ·unfold QgT
  refine TotP.bind (QhA v1.Name (h_v1.1)) (fun x_3 hv4=>?_)
  refine TotP.bif (fun hc5=>?_) (fun hc5=>?_)
  ·refine TotP.bif (fun hc6=>?_) (fun hc6=>?_)
   ·exact TotP.okT
   ·refine TotP.bind (QiM v1.Names (h_v1.2.2.2.2.1)) (fun x_7 hv8=>?_)
    exact TotP.okT
  ·exact TotP.okT
 unfold QcH
 exact TotP.okT
theorem QpT (v1:TNet)(v2:Int)(v3:Int)(v4:QA)(v5:Int)(h_v1:QK v1)(h_v4:QbR v4)(hp0:0≤v2)(hp1:v2<v1.Colours.length):TotP (QfP v1 v2 v3 v4 v5) fun r=>True:=by
 unfold QfP
 refine TotP.bind (Qn6 v1 v2 (h_v1) (by omega) (by omega)) (fun x_1 hv2=>?_)
 refine TotP.bif (fun hc3=>?_) (fun hc3=>?_)
 ·exact TotP.okT
 ·refine TotP.bind (Qn7 v4 (h_v4)) (fun x_4 hv5=>?_)
  refine TotP.bif (fun hc6=>?_) (fun hc6=>?_)
  ·exact TotP.okT
  ·exact TotP.okT
theorem Qpe (k1:Int)(c2:QA)(v3:TNet)(h_c2:QbR c2)(h_v3:QK v3)(hp0:0≤k1)(hp1:k1<v3.Colours.length):TotP (QeZ k1 c2 v3) fun r=>True:=by
 unfold QeZ
 refine TotP.bind (QpT v3 k1 8 c2 8 (h_v3) (h_c2) (by omega) (by omega)) (fun x_1 hv2=>?_)
 exact TotP.okT
theorem Qmz (l1:(List QA))(v2:TNet)(h_l1:(lenL QbR) l1)(h_v2:QK v2)(hp0:l1.length≤v2.Colours.length):TotP (Qcn l1 v2) fun r=>True:=by
 unfold Qcn
 refine TotP.bind (TotP.up (l1.length) (fun st=>st) (fun _=>True) (Q:=fun q=>True) rfl trivial (fun i2 st hi3 hn4 hj5=>?_)) (fun q6 hq7=>?_)
 ·obtain⟨x_1,hst⟩:∃y,y=st:=⟨_,rfl⟩
  subst hst
  replace hi3:x_1=(i2:Int):=hi3
  show TotP (Qa2 l1 v2 x_1) _
  unfold Qa2
  refine TotP.bif (fun hc8=>?_) (fun hc8=>?_)
  ·refine TotP.bind (TotP.idx (by omega) (by simp_all)) (fun e_9 hv10=>?_)
   refine TotP.bind (Qpe x_1 e_9 v2 (((h_l1).2 e_9 hv10)) (h_v2) (by omega) (by simp_all;omega)) (fun x_11 hv12=>?_)
   refine TotP.bif (fun hc13=>?_) (fun hc13=>?_)
   ·exact TotP.ok (Ql trivial)
   ·exact TotP.ok (Qw ⟨(by simp_all),by subst hi3;exact Qt (by simp_all) (h_l1).1,trivial⟩)
  ·exact TotP.ok (Ql trivial)
 rcases q6 with q6 | q6
 ·show TotP (QbK q6.1 q6.2) _
  unfold QbK
  exact TotP.okT
 ·show TotP (QbL) _
  unfold QbL
  exact TotP.okT
theorem Qmn (n1:TNet)(h_n1:QK n1):TotP (Qey n1) fun r=>True:=by
 unfold Qey
 refine TotP.bind (Qmz n1.Colours n1 (h_n1.1) (h_n1) (by omega)) (fun x_1 hv2=>?_)
 exact TotP.okT
theorem QqB (v1:QB)(h_v1:Qcy v1):TotP (Qgz v1) fun r=>True:=by
 unfold Qgz
 refine TotP.bind (QhA v1.Name (h_v1.1)) (fun x_1 hv2=>?_)
 exact TotP.okT
theorem QqC (p1:QB)(v2:QB)(h_p1:Qcy p1)(h_v2:Qcy v2):TotP (QgA p1 v2) fun r=>True:=by
 unfold QgA
 exact TotP.okT
theorem Qh2 (s1:(List QB))(v2:QB)(h_s1:(lenL Qcy) s1)(h_v2:Qcy v2):TotP (Qao s1 v2) fun r=>True:=by
 unfold Qao
 refine TotP.bind (TotP.up (s1.length) (fun st=>st) (fun _=>True) (Q:=fun q=>True) rfl trivial (fun i2 st hi3 hn4 hj5=>?_)) (fun q6 hq7=>?_)
 ·obtain⟨x_1,hst⟩:∃y,y=st:=⟨_,rfl⟩
  subst hst
  replace hi3:x_1=(i2:Int):=hi3
  show TotP (QW s1 v2 x_1) _
  unfold QW
  refine TotP.bif (fun hc8=>?_) (fun hc8=>?_)
  ·refine TotP.bind (TotP.idx (by omega) (by simp_all)) (fun e_9 hv10=>?_)
   refine TotP.bind (QqC e_9 v2 (((h_s1).2 e_9 hv10)) (h_v2)) (fun x_11 hv12=>?_)
   refine TotP.bif (fun hc13=>?_) (fun hc13=>?_)
   ·exact TotP.ok (Ql trivial)
   ·exact TotP.ok (Qw ⟨(by simp_all),by subst hi3;exact Qt (by simp_all) (h_s1).1,trivial⟩)
  ·exact TotP.ok (Ql trivial)
 rcases q6 with q6 | q6
 ·show TotP (Q7 q6) _
  unfold Q7
  exact TotP.okT
 ·show TotP (Q8) _
  unfold Q8
  exact TotP.okT
theorem QgZ (s1:(List QB))(v2:QB)(h_s1:(lenL Qcy) s1)(h_v2:Qcy v2):TotP (Q9 s1 v2) fun r=>True:=by
 unfold Q9
 refine TotP.bind (Qh2 s1 v2 (h_s1) (h_v2)) (fun x_1 hv2=>?_)
 exact TotP.okT
theorem QqD (v1:TNet)(v2:Int)(v3:QB)(h_v1:QK v1)(h_v3:Qcy v3)(hp0:0≤v2)(hp1:v2<v1.Places.length):TotP (QgB v1 v2 v3) fun r=>True:=by
 unfold QgB
 refine TotP.bind (TotP.chk (by simp_all;omega)) (fun _ _=>?_)
 refine TotP.bind (QgZ ((v1.Places.drop 0).take (v2.toNat-0)) v3 (((h_v1.2.1).drop _).take _) (h_v3)) (fun x_1 hv2=>?_)
 exact TotP.okT
theorem Qij (l1:(List QA))(k2:Int)(h_l1:(lenL QbR) l1):TotP (Qbt l1 k2) fun r=>True:=by
 unfold Qbt
 exact TotP.okT
theorem QqE (v1:TNet)(v2:QB)(h_v1:QK v1)(h_v2:Qcy v2):TotP (QgC v1 v2) fun r=>True:=by
 unfold QgC
 refine TotP.bind (Qij v1.Colours v2.Colour (h_v1.1)) (fun x_1 hv2=>?_)
 exact TotP.okT
theorem Qtc (b1:(List (Int×Int)))(h_b1:(lenL (fun _=>True)) b1):TotP (Qce b1) fun r=>True:=by
 unfold Qce
 refine TotP.bind (TotP.up (b1.length) (fun st=>st.2) (fun _=>True) (Q:=fun q=>True) rfl trivial (fun i3 st hi4 hn5 hj6=>?_)) (fun q7 hq8=>?_)
 ·obtain⟨last_1,x_2⟩:=st
  replace hi4:x_2=(i3:Int):=hi4
  show TotP (Qbo b1 last_1 x_2) _
  unfold Qbo
  refine TotP.bif (fun hc9=>?_) (fun hc9=>?_)
  ·refine TotP.bind (TotP.idx (by omega) (by simp_all)) (fun e_10 hv11=>?_)
   refine TotP.bif (fun hc12=>?_) (fun hc12=>?_)
   ·exact TotP.ok (Ql trivial)
   ·exact TotP.ok (Qw ⟨(by simp_all),by subst hi4;exact Qt (by simp_all) (h_b1).1,trivial⟩)
  ·exact TotP.ok (Ql trivial)
 rcases q7 with q7 | q7
 ·show TotP (Qhe) _
  unfold Qhe
  exact TotP.okT
 ·show TotP (Qhf) _
  unfold Qhf
  exact TotP.okT
theorem QqF (v1:QB)(h_v1:Qcy v1):TotP (QgD v1) fun r=>True:=by
 unfold QgD
 refine TotP.bind (Qtc v1.First (h_v1.2.2)) (fun x_1 hv2=>?_)
 exact TotP.okT
theorem Qik (l1:(List QA))(k2:Int)(h_l1:(lenL QbR) l1):TotP (Qd8 l1 k2) fun r=>(True∧Qtb r.2)∧(r.1=true→(0≤k2∧k2<r.2.sizes.length)∧r.2.k=k2∧r.2.all.length=r.2.sizes.length∧∀x∈r.2.sizes,1≤x∧x≤1024):=by
 unfold Qd8
 refine TotP.bind (Qm8 l1 h_l1) fun x hx=>?_
 refine TotP.bif (fun _=>TotP.ok ⟨⟨trivial,lenL.nil,lenL.nil,trivial⟩,fun h=>by cases h⟩) fun hc=>?_
 simp only [Bool.or_eq_false_iff,Bool.not_eq_false',decide_eq_false_iff_not]at hc
 have:=hx.2 hc.1
 exact TotP.ok ⟨⟨trivial,h_l1,hx.1.1,trivial⟩,fun _=>⟨⟨by omega,by show k2<(x.1.length:Int);omega⟩,rfl,this.1.symm,this.2⟩⟩
theorem QdA (l1:(List QA))(k2:Int)(h_l1:(lenL QbR) l1):TotP (QaI l1 k2) fun r=>0≤r∧r≤1024:=by
 unfold QaI
 refine TotP.bind (Qik l1 k2 h_l1) (fun x hx=>?_)
 refine TotP.bif (fun hc=>TotP.ok (by omega)) (fun hc=>?_)
 have h:=hx.2 (by simpa using hc)
 exact TotP.bind (TotP.idx (by omega) (by omega)) fun e he=>TotP.ok (by have:=h.2.2.2 e he;omega)
theorem Qpf (row1:(Int×Int))(v2:Int)  : TotP (Qe0 row1 v2) fun r=>True:=by
 unfold Qe0
 exact TotP.okT
theorem QjL (s1:(List (Int×Int)))(v2:Int)(h_s1:(lenL (fun _=>True)) s1):TotP (QaU s1 v2) fun r=>True:=by
 unfold QaU
 refine TotP.bind (TotP.up (s1.length) (fun st=>st) (fun _=>True) (Q:=fun q=>True) rfl trivial (fun i2 st hi3 hn4 hj5=>?_)) (fun q6 hq7=>?_)
 ·obtain⟨x_1,hst⟩:∃y,y=st:=⟨_,rfl⟩
  subst hst
  replace hi3:x_1=(i2:Int):=hi3
  show TotP (Qab s1 v2 x_1) _
  unfold Qab
  refine TotP.bif (fun hc8=>?_) (fun hc8=>?_)
  ·refine TotP.bind (TotP.idx (by omega) (by simp_all)) (fun e_9 hv10=>?_)
   refine TotP.bind (Qpf e_9 v2 ) (fun x_11 hv12=>?_)
   refine TotP.bif (fun hc13=>?_) (fun hc13=>?_)
   ·exact TotP.ok (Ql trivial)
   ·exact TotP.ok (Qw ⟨(by simp_all),by subst hi3;exact Qt (by simp_all) (h_s1).1,trivial⟩)
  ·exact TotP.ok (Ql trivial)
 rcases q6 with q6 | q6
 ·show TotP (QaF q6) _
  unfold QaF
  exact TotP.okT
 ·show TotP (QaG) _
  unfold QaG
  exact TotP.okT
theorem QiN (s1:(List (Int×Int)))(v2:Int)(h_s1:(lenL (fun _=>True)) s1):TotP (QaH s1 v2) fun r=>True:=by
 unfold QaH
 refine TotP.bind (QjL s1 v2 (h_s1)) (fun x_1 hv2=>?_)
 exact TotP.okT
theorem QqG (v1:TNet)(v2:QB)(h_v1:QK v1)(h_v2:Qcy v2):TotP (QgE v1 v2) fun r=>True:=by
 unfold QgE
 refine TotP.bind (QdA v1.Colours v2.Colour (h_v1.1)) (fun x_1 hv2=>?_)
 refine TotP.bind (QiN v2.First x_1 (h_v2.2.2)) (fun x_3 hv4=>?_)
 exact TotP.okT
theorem QpU (v1:QB)(v2:Int)(v3:TNet)(v4:Int)(v5:Int)(v6:Int)(v7:Int)(v8:Int)(h_v1:Qcy v1)(h_v3:QK v3)(hp0:0≤v4)(hp1:v4<v3.Places.length):TotP (QfQ v1 v2 v3 v4 v5 v6 v7 v8) fun r=>True:=by
 unfold QfQ
 refine TotP.bind (QqB v1 (h_v1)) (fun x_1 hv2=>?_)
 refine TotP.bif (fun hc3=>?_) (fun hc3=>?_)
 ·exact TotP.okT
 ·refine TotP.bind (QqD v3 v4 v1 (h_v3) (h_v1) (by omega) (by omega)) (fun x_4 hv5=>?_)
  refine TotP.bif (fun hc6=>?_) (fun hc6=>?_)
  ·exact TotP.okT
  ·refine TotP.bind (QqE v3 v1 (h_v3) (h_v1)) (fun x_7 hv8=>?_)
   refine TotP.bif (fun hc9=>?_) (fun hc9=>?_)
   ·exact TotP.okT
   ·refine TotP.bind (QqF v1 (h_v1)) (fun x_10 hv11=>?_)
    refine TotP.bif (fun hc12=>?_) (fun hc12=>?_)
    ·exact TotP.okT
    ·refine TotP.bind (QqG v3 v1 (h_v3) (h_v1)) (fun x_13 hv14=>?_)
     refine TotP.bif (fun hc15=>?_) (fun hc15=>?_)
     ·exact TotP.okT
     ·exact TotP.okT
theorem Qsc (n1:TNet)(k2:Int)(h_n1:QK n1):TotP (Qid n1 k2) fun r=>True:=by
 unfold Qid
 refine TotP.bind (Qb1 n1.Places k2 (h_n1.2.1)) (fun x_1 hv2=>?_)
 refine TotP.bif (fun hc3=>?_) (fun hc3=>?_)
 ·exact TotP.okT
 ·refine TotP.bind (TotP.idx (by simp_all) (by simp_all)) (fun e_4 hv5=>?_)
  refine TotP.bind (QpU e_4 1 n1 k2 5 3 1 8 (((h_n1.2.1).2 e_4 hv5)) (h_n1) (by simp_all) (by simp_all)) (fun x_6 hv7=>?_)
  exact TotP.okT
theorem Qsd (k1:Int)(p2:QB)(v3:TNet)(h_p2:Qcy p2)(h_v3:QK v3):TotP (Qie k1 p2 v3) fun r=>True:=by
 unfold Qie
 refine TotP.bind (Qsc v3 k1 (h_v3)) (fun x_1 hv2=>?_)
 exact TotP.okT
theorem Qm9 (l1:(List QB))(v2:TNet)(h_l1:(lenL Qcy) l1)(h_v2:QK v2):TotP (QcI l1 v2) fun r=>True:=by
 unfold QcI
 refine TotP.bind (TotP.up (l1.length) (fun st=>st) (fun _=>True) (Q:=fun q=>True) rfl trivial (fun i2 st hi3 hn4 hj5=>?_)) (fun q6 hq7=>?_)
 ·obtain⟨x_1,hst⟩:∃y,y=st:=⟨_,rfl⟩
  subst hst
  replace hi3:x_1=(i2:Int):=hi3
  show TotP (Qbc l1 v2 x_1) _
  unfold Qbc
  refine TotP.bif (fun hc8=>?_) (fun hc8=>?_)
  ·refine TotP.bind (TotP.idx (by omega) (by simp_all)) (fun e_9 hv10=>?_)
   refine TotP.bind (Qsd x_1 e_9 v2 (((h_l1).2 e_9 hv10)) (h_v2)) (fun x_11 hv12=>?_)
   refine TotP.bif (fun hc13=>?_) (fun hc13=>?_)
   ·exact TotP.ok (Ql trivial)
   ·exact TotP.ok (Qw ⟨(by simp_all),by subst hi3;exact Qt (by simp_all) (h_l1).1,trivial⟩)
  ·exact TotP.ok (Ql trivial)
 rcases q6 with q6 | q6
 ·show TotP (QbZ q6.1 q6.2) _
  unfold QbZ
  exact TotP.okT
 ·show TotP (Qb0) _
  unfold Qb0
  exact TotP.okT
theorem Qi9 (l1:(List Qr))(k2:Int)(h_l1:(lenL Qay) l1):TotP (QaP l1 k2) fun r=>r=true→0≤k2∧k2<l1.length:=by
 unfold QaP
 exact TotP.ok (by first | (intro hr;first | (cases hr;done) | omega | ((try simp only [Bool.and_eq_true,Bool.or_eq_true,Bool.or_eq_false_iff,Bool.not_eq_true',Bool.not_eq_false',decide_eq_true_eq,decide_eq_false_iff_not,beq_iff_eq,bne_iff_ne,ne_eq,Bool.not_eq_true,Bool.not_eq_false,List.length_append,List.length_singleton,List.length_nil,List.length_drop,List.length_take,List.length_cons,QkF,QkG,Qjs]at *);omega)) | ((try simp only [Bool.and_eq_true,Bool.or_eq_true,Bool.or_eq_false_iff,Bool.not_eq_true',Bool.not_eq_false',decide_eq_true_eq,decide_eq_false_iff_not,beq_iff_eq,bne_iff_ne,ne_eq,Bool.not_eq_true,Bool.not_eq_false,List.length_append,List.length_singleton,List.length_nil,List.length_drop,List.length_take,List.length_cons,QkF,QkG,Qjs]at *);omega) | simp_all)
theorem Qse (v1:Int)(v2:TNet)(v3:Qr)(h_v2:QK v2)(h_v3:Qay v3):TotP (Qif v1 v2 v3) fun r=>True:=by
 unfold Qif
 exact TotP.okT
theorem QpV (v1:Int)(v2:TNet)(v3:Qr)(v4:Int)(h_v2:QK v2)(h_v3:Qay v3):TotP (QfR v1 v2 v3 v4) fun r=>True:=by
 unfold QfR
 exact TotP.okT
theorem QpW (v1:Int)(v2:TNet)(v3:Qr)(v4:Int)(h_v2:QK v2)(h_v3:Qay v3):TotP (QfS v1 v2 v3 v4) fun r=>True:=by
 unfold QfS
 exact TotP.okT
theorem QpX (v1:Int)(v2:TNet)(v3:Qr)(h_v2:QK v2)(h_v3:Qay v3):TotP (QfT v1 v2 v3) fun r=>True:=by
 unfold QfT
 exact TotP.okT
theorem Qrm (v1:Qr)(h_v1:Qay v1):TotP (Qhp v1) fun r=>True:=by
 unfold Qhp
 refine TotP.bind (QhA v1.Name (h_v1.1)) (fun x_1 hv2=>?_)
 exact TotP.okT
theorem Qrn (p1:Qr)(v2:Qr)(h_p1:Qay p1)(h_v2:Qay v2):TotP (Qhq p1 v2) fun r=>True:=by
 unfold Qhq
 exact TotP.okT
theorem Qiz (s1:(List Qr))(v2:Qr)(h_s1:(lenL Qay) s1)(h_v2:Qay v2):TotP (Qaz s1 v2) fun r=>True:=by
 unfold Qaz
 refine TotP.bind (TotP.up (s1.length) (fun st=>st) (fun _=>True) (Q:=fun q=>True) rfl trivial (fun i2 st hi3 hn4 hj5=>?_)) (fun q6 hq7=>?_)
 ·obtain⟨x_1,hst⟩:∃y,y=st:=⟨_,rfl⟩
  subst hst
  replace hi3:x_1=(i2:Int):=hi3
  show TotP (QZ s1 v2 x_1) _
  unfold QZ
  refine TotP.bif (fun hc8=>?_) (fun hc8=>?_)
  ·refine TotP.bind (TotP.idx (by omega) (by simp_all)) (fun e_9 hv10=>?_)
   refine TotP.bind (Qrn e_9 v2 (((h_s1).2 e_9 hv10)) (h_v2)) (fun x_11 hv12=>?_)
   refine TotP.bif (fun hc13=>?_) (fun hc13=>?_)
   ·exact TotP.ok (Ql trivial)
   ·exact TotP.ok (Qw ⟨(by simp_all),by subst hi3;exact Qt (by simp_all) (h_s1).1,trivial⟩)
  ·exact TotP.ok (Ql trivial)
 rcases q6 with q6 | q6
 ·show TotP (Qag q6) _
  unfold Qag
  exact TotP.okT
 ·show TotP (Qah) _
  unfold Qah
  exact TotP.okT
theorem QhE (s1:(List Qr))(v2:Qr)(h_s1:(lenL Qay) s1)(h_v2:Qay v2):TotP (Qai s1 v2) fun r=>True:=by
 unfold Qai
 refine TotP.bind (Qiz s1 v2 (h_s1) (h_v2)) (fun x_1 hv2=>?_)
 exact TotP.okT
theorem Qro (v1:TNet)(v2:Int)(v3:Qr)(h_v1:QK v1)(h_v3:Qay v3)(hp0:0≤v2)(hp1:v2<v1.Tasks.length):TotP (Qhs v1 v2 v3) fun r=>True:=by
 unfold Qhs
 refine TotP.bind (TotP.chk (by simp_all;omega)) (fun _ _=>?_)
 refine TotP.bind (QhE ((v1.Tasks.drop 0).take (v2.toNat-0)) v3 (((h_v1.2.2.1).drop _).take _) (h_v3)) (fun x_1 hv2=>?_)
 exact TotP.okT
theorem Qrp (v1:Int)(v2:Qr)(h_v2:Qay v2):TotP (Qfs v1 v2) fun r=>True:=by
 unfold Qfs
 exact TotP.okT
theorem Qnl (v1:TVar)(h_v1:QdW v1):TotP (Qc8 v1) fun r=>True:=by
 unfold Qc8
 refine TotP.bind (QhA v1.Name (h_v1.1)) (fun x_1 hv2=>?_)
 exact TotP.okT
theorem Qnm (p1:TVar)(v2:TVar)(h_p1:QdW p1)(h_v2:QdW v2):TotP (Qc9 p1 v2) fun r=>True:=by
 unfold Qc9
 exact TotP.okT
theorem Qja (s1:(List TVar))(v2:TVar)(h_s1:(lenL QdW) s1)(h_v2:QdW v2):TotP (QaK s1 v2) fun r=>True:=by
 unfold QaK
 refine TotP.bind (TotP.up (s1.length) (fun st=>st) (fun _=>True) (Q:=fun q=>True) rfl trivial (fun i2 st hi3 hn4 hj5=>?_)) (fun q6 hq7=>?_)
 ·obtain⟨x_1,hst⟩:∃y,y=st:=⟨_,rfl⟩
  subst hst
  replace hi3:x_1=(i2:Int):=hi3
  show TotP (Q1 s1 v2 x_1) _
  unfold Q1
  refine TotP.bif (fun hc8=>?_) (fun hc8=>?_)
  ·refine TotP.bind (TotP.idx (by omega) (by simp_all)) (fun e_9 hv10=>?_)
   refine TotP.bind (Qnm e_9 v2 (((h_s1).2 e_9 hv10)) (h_v2)) (fun x_11 hv12=>?_)
   refine TotP.bif (fun hc13=>?_) (fun hc13=>?_)
   ·exact TotP.ok (Ql trivial)
   ·exact TotP.ok (Qw ⟨(by simp_all),by subst hi3;exact Qt (by simp_all) (h_s1).1,trivial⟩)
  ·exact TotP.ok (Ql trivial)
 rcases q6 with q6 | q6
 ·show TotP (Qar q6) _
  unfold Qar
  exact TotP.okT
 ·show TotP (Qas) _
  unfold Qas
  exact TotP.okT
theorem Qil (s1:(List TVar))(v2:TVar)(h_s1:(lenL QdW) s1)(h_v2:QdW v2):TotP (Qat s1 v2) fun r=>True:=by
 unfold Qat
 refine TotP.bind (Qja s1 v2 (h_s1) (h_v2)) (fun x_1 hv2=>?_)
 exact TotP.okT
theorem Qnn (v1:(List TVar))(v2:Int)(v3:TVar)(h_v1:(lenL QdW) v1)(h_v3:QdW v3)(hp0:0≤v2)(hp1:v2<v1.length):TotP (Qda v1 v2 v3) fun r=>True:=by
 unfold Qda
 refine TotP.bind (TotP.chk (by simp_all;omega)) (fun _ _=>?_)
 refine TotP.bind (Qil ((v1.drop 0).take (v2.toNat-0)) v3 (((h_v1).drop _).take _) (h_v3)) (fun x_1 hv2=>?_)
 exact TotP.okT
theorem Qno (v1:TNet)(v2:TVar)(h_v1:QK v1)(h_v2:QdW v2):TotP (Qdb v1 v2) fun r=>True:=by
 unfold Qdb
 refine TotP.bind (Qij v1.Colours v2.Colour (h_v1.1)) (fun x_1 hv2=>?_)
 exact TotP.okT
theorem QpY (v1:TVar)(v2:Int)(v3:(List TVar))(v4:Int)(v5:Int)(v6:TNet)(v7:Int)(h_v1:QdW v1)(h_v3:(lenL QdW) v3)(h_v6:QK v6)(hp0:0≤v4)(hp1:v4<v3.length):TotP (QfU v1 v2 v3 v4 v5 v6 v7) fun r=>True:=by
 unfold QfU
 refine TotP.bind (Qnl v1 (h_v1)) (fun x_1 hv2=>?_)
 refine TotP.bif (fun hc3=>?_) (fun hc3=>?_)
 ·exact TotP.okT
 ·refine TotP.bind (Qnn v3 v4 v1 (h_v3) (h_v1) (by omega) (by omega)) (fun x_4 hv5=>?_)
  refine TotP.bif (fun hc6=>?_) (fun hc6=>?_)
  ·exact TotP.okT
  ·refine TotP.bind (Qno v6 v1 (h_v6) (h_v1)) (fun x_7 hv8=>?_)
   refine TotP.bif (fun hc9=>?_) (fun hc9=>?_)
   ·exact TotP.okT
   ·exact TotP.okT
theorem Qn8 (k1:Int)(v2:TVar)(v3:(List TVar))(v4:TNet)(h_v2:QdW v2)(h_v3:(lenL QdW) v3)(h_v4:QK v4)(hp0:0≤k1)(hp1:k1<v3.length):TotP (QdR k1 v2 v3 v4) fun r=>True:=by
 unfold QdR
 refine TotP.bind (QpY v2 1 v3 k1 5 v4 3 (h_v2) (h_v3) (h_v4) (by omega) (by omega)) (fun x_1 hv2=>?_)
 exact TotP.okT
theorem QnS (l1:(List TVar))(v2:(List TVar))(v3:TNet)(h_l1:(lenL QdW) l1)(h_v2:(lenL QdW) v2)(h_v3:QK v3)(hp0:l1.length≤v2.length):TotP (Qdv l1 v2 v3) fun r=>True:=by
 unfold Qdv
 refine TotP.bind (TotP.up (l1.length) (fun st=>st) (fun _=>True) (Q:=fun q=>True) rfl trivial (fun i2 st hi3 hn4 hj5=>?_)) (fun q6 hq7=>?_)
 ·obtain⟨x_1,hst⟩:∃y,y=st:=⟨_,rfl⟩
  subst hst
  replace hi3:x_1=(i2:Int):=hi3
  show TotP (QbB l1 v2 v3 x_1) _
  unfold QbB
  refine TotP.bif (fun hc8=>?_) (fun hc8=>?_)
  ·refine TotP.bind (TotP.idx (by omega) (by simp_all)) (fun e_9 hv10=>?_)
   refine TotP.bind (Qn8 x_1 e_9 v2 v3 (((h_l1).2 e_9 hv10)) (h_v2) (h_v3) (by omega) (by simp_all;omega)) (fun x_11 hv12=>?_)
   refine TotP.bif (fun hc13=>?_) (fun hc13=>?_)
   ·exact TotP.ok (Ql trivial)
   ·exact TotP.ok (Qw ⟨(by simp_all),by subst hi3;exact Qt (by simp_all) (h_l1).1,trivial⟩)
  ·exact TotP.ok (Ql trivial)
 rcases q6 with q6 | q6
 ·show TotP (Qco q6.1 q6.2) _
  unfold Qco
  exact TotP.okT
 ·show TotP (Qcp) _
  unfold Qcp
  exact TotP.okT
theorem Qpg (n1:TNet)(l2:(List TVar))(h_n1:QK n1)(h_l2:(lenL QdW) l2):TotP (Qe1 n1 l2) fun r=>True:=by
 unfold Qe1
 refine TotP.bind (QnS l2 l2 n1 (h_l2) (h_l2) (h_n1) (by omega)) (fun x_1 hv2=>?_)
 exact TotP.okT
theorem Qrq (v1:TNet)(v2:Qr)(h_v1:QK v1)(h_v2:Qay v2):TotP (Qht v1 v2) fun r=>True:=by
 unfold Qht
 refine TotP.bind (Qpg v1 v2.Vars (h_v1) (h_v2.2.1)) (fun x_1 hv2=>?_)
 exact TotP.okT
theorem QqH (v1:TNet)(v2:Qr)(v3:Int)(h_v1:QK v1)(h_v2:Qay v2):TotP (Qez v1 v2 v3) fun r=>True:=by
 unfold Qez
 refine TotP.bind (Qrq v1 v2 (h_v1) (h_v2)) (fun x_1 hv2=>?_)
 exact TotP.okT
theorem QnA (n1:TNet)(k2:Int)(h_n1:QK n1):TotP (Qcf n1 k2) fun r=>True:=by
 unfold Qcf
 refine TotP.bind (Qi9 n1.Tasks k2 (h_n1.2.2.1)) (fun x_1 hv2=>?_)
 refine TotP.bif (fun hc3=>?_) (fun hc3=>?_)
 ·exact TotP.okT
 ·refine TotP.bind (TotP.idx (by simp_all) (by simp_all)) (fun e_4 hv5=>?_)
  refine TotP.bind (TotP.up (e_4.Vars.length) (fun st=>st.2) (fun _=>True) (Q:=fun q=>True) rfl trivial (fun i8 st hi9 hn10 hj11=>?_)) (fun q12 hq13=>?_)
  ·obtain⟨out_6,x_7⟩:=st
   replace hi9:x_7=(i8:Int):=hi9
   show TotP (Qcb e_4 n1 out_6 x_7) _
   unfold Qcb
   refine TotP.bif (fun hc14=>?_) (fun hc14=>?_)
   ·refine TotP.bind (TotP.idx (by omega) (by simp_all)) (fun e_15 hv16=>?_)
    refine TotP.bind (QdA n1.Colours e_15.Colour (h_n1.1)) (fun x_17 hv18=>?_)
    refine TotP.bif (fun hc19=>?_) (fun hc19=>?_)
    ·exact TotP.ok (Ql trivial)
    ·exact TotP.ok (Qw ⟨(by simp_all),by subst hi9;exact Qt (by simp_all) (((h_n1.2.2.1).2 e_4 hv5).2.1).1,trivial⟩)
   ·exact TotP.ok (Ql trivial)
  rcases q12 with q12 | q12
  ·show TotP (QfV) _
   unfold QfV
   exact TotP.okT
  ·show TotP (QfW q12) _
   unfold QfW
   exact TotP.okT
theorem Qrr (v1:TNet)(v2:Int)(h_v1:QK v1):TotP (Qft v1 v2) fun r=>True:=by
 unfold Qft
 refine TotP.bind (QnA v1 v2 (h_v1)) (fun x_1 hv2=>?_)
 exact TotP.okT
theorem Qtd (kind1:Int):TotP (QjQ kind1) fun r=>0≤r→(kind1=1∨kind1=2∨kind1=3∨kind1=4∨kind1=5∨kind1=6)∧(kind1=3∨kind1=4→r=1)∧(kind1=5→r=2)∧(kind1=6→r=3):=by
 unfold QjQ
 refine TotP.bif (fun hc=>?_) (fun hc=>?_)
 ·unfold Qfl;rw [hc]
  simp only [beq_iff_eq]at hc
  exact TotP.ok (by omega)
 ·simp only [beq_eq_false_iff_ne]at hc
  unfold Qfl
  refine TotP.bif (fun hc=>TotP.ok (by simp only [beq_iff_eq]at hc;omega)) (fun hc2=>?_)
  simp only [beq_eq_false_iff_ne]at hc2
  refine TotP.bif (fun hc3=>?_) (fun hc3=>?_)
  ·unfold Qfk;rw [hc3]
   simp only [beq_iff_eq]at hc3
   exact TotP.ok (by omega)
  ·simp only [beq_eq_false_iff_ne]at hc3
   unfold Qfk
   refine TotP.bif (fun hc=>TotP.ok (by simp only [beq_iff_eq]at hc;omega)) (fun hc4=>?_)
   simp only [beq_eq_false_iff_ne]at hc4
   refine TotP.bif (fun hc=>TotP.ok (by simp only [beq_iff_eq]at hc;omega)) (fun hc5=>?_)
   simp only [beq_eq_false_iff_ne]at hc5
   exact TotP.bif (fun hc=>TotP.ok (by simp only [beq_iff_eq]at hc;omega)) (fun hc6=>TotP.ok (by omega))
theorem QsE (op1:Int)  : TotP (QiU op1) fun r=>True:=by
 unfold QiU
 exact TotP.okT
theorem QlI (rec_:Qg→Int→Option Bool)(s1:List Qg)(v2:Int)(h1:s1.length≤maxLen)(h:∀k∈s1,TotP (rec_ k v2) fun r=>r=true→POk v2 k):TotP (Qaf rec_ s1 v2) fun r=>r=false→∀k∈s1,POk v2 k:=by
 unfold Qaf Qa6
 refine TotP.bind (P:=fun x=>x<0→∀k∈s1,POk v2 k) ?_ fun x hx=>TotP.ok fun h=>hx (by simp only [decide_eq_false_iff_not]at h;omega)
 refine TotP.bind (TotP.up s1.length (fun st=>st) (fun st=>∀(j:Nat) k,(j:Int)<st→s1[j]? = some k→POk v2 k) (Q:=fun q=>(∀x,q=.inl x→0≤x)∧(q=.inr ()→∀k∈s1,POk v2 k)) rfl (fun j k hj=>by omega) (fun i st hi hn hj=>?_)) (fun q hq=>?_)
 ·show TotP (QY s1 rec_ v2 st) _
  unfold QY Qjj
  refine TotP.bif (fun hc=>?_) (fun hc=>TotP.ok (Ql ⟨fun x h=>(by cases h),fun _ k hk=>by
   obtain⟨j,hj1,hj2⟩:=List.mem_iff_getElem.1 hk
   simp only [decide_eq_false_iff_not]at hc
   exact hj j k (by omega) (by rw [List.getElem?_eq_getElem hj1,hj2])⟩))
  simp only [decide_eq_true_eq]at hc
  rw [Qjr (by omega)]
  have hlt:st.toNat<s1.length:=by omega
  rw [List.getElem?_eq_getElem hlt]
  refine TotP.bind (P:=fun k=>k=s1[st.toNat]) (TotP.ok rfl) fun k hk=>?_
  subst hk
  refine TotP.bind (P:=fun r=>r=false→POk v2 s1[st.toNat]) (TotP.bind (h _ (List.getElem_mem hlt)) fun x hx=>TotP.ok fun h=>hx (by simpa using h)) fun x hx=>?_
  refine TotP.bif (fun _=>TotP.ok (Ql ⟨fun x h=>(by cases h;omega),fun h=>(by cases h)⟩)) fun hxf=>TotP.ok (Qw ⟨by omega,by rw [hi];exact Qt (by omega) h1,?_⟩)
  rw [hi,Qt (show i<s1.length by omega) h1]
  intro j k hj' hk
  by_cases c:j=i
  ·subst c
   have e:st.toNat=j:=by omega
   have:=hx hxf
   rw [List.getElem?_eq_getElem (by omega)]at hk
   cases hk
   simpa only [e] using this
  ·exact hj j k (by omega) hk
 ·rcases q with q | q
  ·exact TotP.ok fun h=>absurd (hq.1 q rfl) (by omega)
  ·exact TotP.ok fun _=>hq.2 rfl
theorem Qna : ∀(n:Nat) (e:Qg) (v:Int),Qdd e→SizeOf.sizeOf e≤n→TotP (Qd1 n e v) fun r=>r=true→POk v e
 | 0,e,_,_,h=>absurd e.pos (by omega)
 | n+1,e,v,he,h=>by
  unfold Qd1 Qjk
  refine TotP.bind (Qtd e.Kind) fun x hx=>?_
  refine TotP.bif (fun _=>TotP.ok fun h=>by cases h) fun h1=>TotP.bif (fun _=>TotP.ok fun h=>by cases h) fun h2=>?_
  refine TotP.bind (P:=fun _=>True) ?_ fun y _=>?_
  ·unfold QkS
   exact TotP.bif (fun _=>TotP.bind (QsE e.Num) fun x _=>TotP.okT) fun _=>TotP.okT
  ·unfold Qgo
   refine TotP.bif (fun _=>TotP.ok fun h=>by cases h) fun _=>?_
   refine TotP.bind (QlI (Qd1 n) e.Kids v (Qep he).1 fun k hk=>Qna n k v ((Qep he).2 k hk) (by have:=QpS hk;omega)) fun x hx2=>TotP.ok fun hx3=>?_
   simp only [bne_eq_false_iff_eq]at h1
   have h3:=hx (by omega)
   simp only [Bool.and_eq_false_iff,Bool.or_eq_false_iff,decide_eq_false_iff_not,beq_eq_false_iff_ne]at h2
   exact .mk e h3.1 (fun hk=>by omega) (fun hk=>by have:=h3.2.1 hk;omega) (fun hk=>by have:=h3.2.2.1 hk;omega) (fun hk=>by have:=h3.2.2.2 hk;omega) (hx2 (by simpa using hx3))
theorem QsF (e1:Qg)(vars2:Int)(h_e1:Qdd e1):TotP (QmO e1 vars2) fun r=>r=true→POk vars2 e1:=Qna _ e1 vars2 h_e1 (Nat.le_refl _)
theorem Qnb : ∀(n:Nat) (e:Qg),Qdd e→SizeOf.sizeOf e≤n→TotP (Qd0 n e) fun _=>True
 | 0,e,_,h=>absurd e.pos (by omega)
 | n+1,e,he,h=>by
  unfold Qd0 Qjh
  refine TotP.bind (TotP.up e.Kids.length (fun st=>st.2) (fun _=>True) (Q:=fun _=>True) rfl trivial (fun i st hi hn _=>?_)) (fun q _=>?_)
  ·obtain⟨a,x⟩:=st
   replace hi:x=(i:Int):=hi
   show TotP (Qes e (Qd0 n) a x) _
   unfold Qes
   refine TotP.bif (fun hc=>?_) (fun hc=>?_)
   ·simp only [decide_eq_true_eq]at hc
    refine TotP.bind (TotP.idx (by omega) (by omega)) fun k hk=>?_
    have:=QpS hk
    refine TotP.bind (Qnb n k ((Qep he).2 k hk) (by omega)) fun d _=>?_
    exact TotP.ok (Qw ⟨by omega,by subst hi;exact Qt (by omega) (Qep he).1,trivial⟩)
   ·exact TotP.ok (Ql trivial)
  ·unfold QiE
   exact TotP.okT
theorem QsG (e1:Qg)(h_e1:Qdd e1):TotP (QmM e1) fun _=>True:=Qnb _ e1 h_e1 (Nat.le_refl _)
theorem QnB : ∀(n:Nat) (e:Qg),Qdd e→SizeOf.sizeOf e≤n→TotP (QeH n e) fun _=>True
 | 0,e,_,h=>absurd e.pos (by omega)
 | n+1,e,he,h=>by
  unfold QeH Qj4
  refine TotP.bind (TotP.up e.Kids.length (fun st=>st.2) (fun _=>True) (Q:=fun _=>True) rfl trivial (fun i st hi hn _=>?_)) (fun q _=>?_)
  ·obtain⟨a,x⟩:=st
   replace hi:x=(i:Int):=hi
   show TotP (Qfj e (QeH n) a x) _
   unfold Qfj
   refine TotP.bif (fun hc=>?_) (fun hc=>?_)
   ·simp only [decide_eq_true_eq]at hc
    refine TotP.bind (TotP.idx (by omega) (by omega)) fun k hk=>?_
    have:=QpS hk
    refine TotP.bind (QnB n k ((Qep he).2 k hk) (by omega)) fun d _=>?_
    exact TotP.ok (Qw ⟨by omega,by subst hi;exact Qt (by omega) (Qep he).1,trivial⟩)
   ·exact TotP.ok (Ql trivial)
  ·unfold Qji
   exact TotP.okT
theorem Qte (e1:Qg)(h_e1:Qdd e1):TotP (QnH e1) fun _=>True:=QnB _ e1 h_e1 (Nat.le_refl _)
theorem QlJ (e1:Qg)(vars2:Int)(h_e1:Qdd e1):TotP (QfE e1 vars2) fun r=>r=true→POk vars2 e1:=by
 unfold QfE
 refine TotP.bind (P:=fun r=>r=true→POk vars2 e1) ?_ (fun x hx=>TotP.ok hx)
 unfold QkT
 refine TotP.bind (QsG e1 h_e1) (fun x _=>?_)
 refine TotP.bif (fun _=>?_) (fun _=>TotP.ok fun h=>by cases h)
 refine TotP.bind (Qte e1 h_e1) (fun x _=>?_)
 refine TotP.bif (fun _=>?_) (fun _=>TotP.ok fun h=>by cases h)
 exact TotP.bind (QsF e1 vars2 h_e1) (fun x hx=>TotP.ok hx)
theorem Qrs (v1:Qr)(v2:Int)(h_v1:Qay v1):TotP (Qhu v1 v2) fun r=>True:=by
 unfold Qhu
 refine TotP.bind (P:=fun _=>True) ?_ (fun x_1 hv2=>?_)
 ·unfold QjJ
  refine TotP.bind (QlJ v1.Guard v2 (h_v1.2.2.1)) (fun x_3 hv4=>?_)
  refine TotP.bif (fun hc5=>?_) (fun hc5=>?_)
  ·refine TotP.bif (fun hc6=>?_) (fun hc6=>?_)
   ·exact TotP.okT
   ·exact TotP.okT
  ·exact TotP.okT
 unfold Qe2
 exact TotP.okT
theorem QpZ (v1:TNet)(v2:TArc)(h_v1:QK v1)(h_v2:Qi8 v2):TotP (QfX v1 v2) fun r=>True:=by
 unfold QfX
 refine TotP.bind (Qb1 v1.Places v2.Place (h_v1.2.1)) (fun x_1 hv2=>?_)
 exact TotP.okT
theorem Qp0 (v1:TArc)(v2:Int)(h_v1:Qi8 v1):TotP (QfY v1 v2) fun r=>True:=by
 unfold QfY
 refine TotP.bind (QlJ v1.Expr v2 (h_v1.2)) (fun x_1 hv2=>?_)
 exact TotP.okT
theorem Qp1 (v1:TNet)(v2:TArc)(v3:Int)(v4:Int)(v5:Int)(h_v1:QK v1)(h_v2:Qi8 v2):TotP (QfZ v1 v2 v3 v4 v5) fun r=>True:=by
 unfold QfZ
 refine TotP.bind (QpZ v1 v2 (h_v1) (h_v2)) (fun x_1 hv2=>?_)
 refine TotP.bif (fun hc3=>?_) (fun hc3=>?_)
 ·exact TotP.okT
 ·refine TotP.bind (Qp0 v2 v4 (h_v2)) (fun x_4 hv5=>?_)
  refine TotP.bif (fun hc6=>?_) (fun hc6=>?_)
  ·exact TotP.okT
  ·exact TotP.okT
theorem Qrt (p1:Int)(a2:TArc)(v3:TNet)(v4:Int)(h_a2:Qi8 a2)(h_v3:QK v3):TotP (Qhv p1 a2 v3 v4) fun r=>True:=by
 unfold Qhv
 refine TotP.bind (Qp1 v3 a2 3 v4 1 (h_v3) (h_a2)) (fun x_1 hv2=>?_)
 exact TotP.okT
theorem QnT (l1:(List TArc))(v2:TNet)(v3:Int)(h_l1:(lenL Qi8) l1)(h_v2:QK v2):TotP (Qdw l1 v2 v3) fun r=>True:=by
 unfold Qdw
 refine TotP.bind (TotP.up (l1.length) (fun st=>st) (fun _=>True) (Q:=fun q=>True) rfl trivial (fun i2 st hi3 hn4 hj5=>?_)) (fun q6 hq7=>?_)
 ·obtain⟨x_1,hst⟩:∃y,y=st:=⟨_,rfl⟩
  subst hst
  replace hi3:x_1=(i2:Int):=hi3
  show TotP (QbC l1 v2 v3 x_1) _
  unfold QbC
  refine TotP.bif (fun hc8=>?_) (fun hc8=>?_)
  ·refine TotP.bind (TotP.idx (by omega) (by simp_all)) (fun e_9 hv10=>?_)
   refine TotP.bind (Qrt x_1 e_9 v2 v3 (((h_l1).2 e_9 hv10)) (h_v2)) (fun x_11 hv12=>?_)
   refine TotP.bif (fun hc13=>?_) (fun hc13=>?_)
   ·exact TotP.ok (Ql trivial)
   ·exact TotP.ok (Qw ⟨(by simp_all),by subst hi3;exact Qt (by simp_all) (h_l1).1,trivial⟩)
  ·exact TotP.ok (Ql trivial)
 rcases q6 with q6 | q6
 ·show TotP (Qcq q6.1 q6.2) _
  unfold Qcq
  exact TotP.okT
 ·show TotP (Qcr) _
  unfold Qcr
  exact TotP.okT
theorem Qn9 (n1:TNet)(l2:(List TArc))(vars3:Int)(h_n1:QK n1)(h_l2:(lenL Qi8) l2):TotP (Qhw n1 l2 vars3) fun r=>True:=by
 unfold Qhw
 refine TotP.bind (QnT l2 n1 vars3 (h_l2) (h_n1)) (fun x_1 hv2=>?_)
 exact TotP.okT
theorem Qru (v1:TNet)(v2:Qr)(v3:Int)(h_v1:QK v1)(h_v2:Qay v2):TotP (Qhx v1 v2 v3) fun r=>True:=by
 unfold Qhx
 refine TotP.bind (Qn9 v1 v2.Ins v3 (h_v1) (h_v2.2.2.2.2.2.1)) (fun x_1 hv2=>?_)
 exact TotP.okT
theorem QoQ (v1:TNet)(v2:Qr)(v3:Int)(v4:Int)(h_v1:QK v1)(h_v2:Qay v2):TotP (Qem v1 v2 v3 v4) fun r=>True:=by
 unfold Qem
 refine TotP.bind (Qru v1 v2 v3 (h_v1) (h_v2)) (fun x_1 hv2=>?_)
 exact TotP.okT
theorem Qrv (v1:TNet)(v2:Qr)(v3:Int)(h_v1:QK v1)(h_v2:Qay v2):TotP (Qhy v1 v2 v3) fun r=>True:=by
 unfold Qhy
 refine TotP.bind (Qn9 v1 v2.Outs v3 (h_v1) (h_v2.2.2.2.2.2.2.1)) (fun x_1 hv2=>?_)
 exact TotP.okT
theorem QoR (v1:TNet)(v2:Qr)(v3:Int)(v4:Int)(h_v1:QK v1)(h_v2:Qay v2):TotP (Qen v1 v2 v3 v4) fun r=>True:=by
 unfold Qen
 refine TotP.bind (Qrv v1 v2 v3 (h_v1) (h_v2)) (fun x_1 hv2=>?_)
 exact TotP.okT
theorem Qoa (v1:TNet)(v2:Int)(h_v1:QK v1):TotP (QdS v1 v2) fun r=>True:=by
 unfold QdS
 refine TotP.bind (Qb1 v1.Places v2 (h_v1.2.1)) (fun x_1 hv2=>?_)
 exact TotP.okT
theorem Qnc (s1:(List Int))(v2:Int)(h_s1:(lenL (fun _=>True)) s1):TotP (QcE s1 v2) fun r=>True:=by
 unfold QcE
 refine TotP.bind (TotP.up (s1.length) (fun st=>st) (fun _=>True) (Q:=fun q=>True) rfl trivial (fun i2 st hi3 hn4 hj5=>?_)) (fun q6 hq7=>?_)
 ·obtain⟨x_1,hst⟩:∃y,y=st:=⟨_,rfl⟩
  subst hst
  replace hi3:x_1=(i2:Int):=hi3
  show TotP (Qbb s1 v2 x_1) _
  unfold Qbb
  refine TotP.bif (fun hc8=>?_) (fun hc8=>?_)
  ·refine TotP.bind (TotP.idx (by omega) (by simp_all)) (fun e_9 hv10=>?_)
   refine TotP.bif (fun hc11=>?_) (fun hc11=>?_)
   ·exact TotP.ok (Ql trivial)
   ·exact TotP.ok (Qw ⟨(by simp_all),by subst hi3;exact Qt (by simp_all) (h_s1).1,trivial⟩)
  ·exact TotP.ok (Ql trivial)
 rcases q6 with q6 | q6
 ·show TotP (QbW q6) _
  unfold QbW
  exact TotP.okT
 ·show TotP (QbX) _
  unfold QbX
  exact TotP.okT
theorem QhJ (s1:(List Int))(v2:Int)(h_s1:(lenL (fun _=>True)) s1):TotP (QaM s1 v2) fun r=>True:=by
 unfold QaM
 refine TotP.bind (Qnc s1 v2 (h_s1)) (fun x_1 hv2=>?_)
 exact TotP.okT
theorem Qob (v1:(List Int))(v2:Int)(v3:Int)(h_v1:(lenL (fun _=>True)) v1)(hp0:0≤v2)(hp1:v2<v1.length):TotP (QdT v1 v2 v3) fun r=>True:=by
 unfold QdT
 refine TotP.bind (TotP.chk (by simp_all;omega)) (fun _ _=>?_)
 refine TotP.bind (QhJ ((v1.drop 0).take (v2.toNat-0)) v3 (((h_v1).drop _).take _)) (fun x_1 hv2=>?_)
 exact TotP.okT
theorem Qp2 (v1:TNet)(v2:Int)(v3:Int)(v4:(List Int))(v5:Int)(v6:Int)(h_v1:QK v1)(h_v4:(lenL (fun _=>True)) v4)(hp0:0≤v5)(hp1:v5<v4.length):TotP (Qf0 v1 v2 v3 v4 v5 v6) fun r=>True:=by
 unfold Qf0
 refine TotP.bind (Qoa v1 v2 (h_v1)) (fun x_1 hv2=>?_)
 refine TotP.bif (fun hc3=>?_) (fun hc3=>?_)
 ·exact TotP.okT
 ·refine TotP.bind (Qob v4 v5 v2 (h_v4) (by omega) (by omega)) (fun x_4 hv5=>?_)
  refine TotP.bif (fun hc6=>?_) (fun hc6=>?_)
  ·exact TotP.okT
  ·exact TotP.okT
theorem Qph (k1:Int)(place2:Int)(v3:TNet)(v4:(List Int))(h_v3:QK v3)(h_v4:(lenL (fun _=>True)) v4)(hp0:0≤k1)(hp1:k1<v4.length):TotP (Qe3 k1 place2 v3 v4) fun r=>True:=by
 unfold Qe3
 refine TotP.bind (Qp2 v3 place2 3 v4 k1 5 (h_v3) (h_v4) (by omega) (by omega)) (fun x_1 hv2=>?_)
 exact TotP.okT
theorem Qp3 (l1:(List Int))(v2:TNet)(v3:(List Int))(h_l1:(lenL (fun _=>True)) l1)(h_v2:QK v2)(h_v3:(lenL (fun _=>True)) v3)(hp0:l1.length≤v3.length):TotP (Qf1 l1 v2 v3) fun r=>True:=by
 unfold Qf1
 refine TotP.bind (TotP.up (l1.length) (fun st=>st) (fun _=>True) (Q:=fun q=>True) rfl trivial (fun i2 st hi3 hn4 hj5=>?_)) (fun q6 hq7=>?_)
 ·obtain⟨x_1,hst⟩:∃y,y=st:=⟨_,rfl⟩
  subst hst
  replace hi3:x_1=(i2:Int):=hi3
  show TotP (QcB l1 v2 v3 x_1) _
  unfold QcB
  refine TotP.bif (fun hc8=>?_) (fun hc8=>?_)
  ·refine TotP.bind (TotP.idx (by omega) (by simp_all)) (fun e_9 hv10=>?_)
   refine TotP.bind (Qph x_1 e_9 v2 v3 (h_v2) (h_v3) (by omega) (by simp_all;omega)) (fun x_11 hv12=>?_)
   refine TotP.bif (fun hc13=>?_) (fun hc13=>?_)
   ·exact TotP.ok (Ql trivial)
   ·exact TotP.ok (Qw ⟨(by simp_all),by subst hi3;exact Qt (by simp_all) (h_l1).1,trivial⟩)
  ·exact TotP.ok (Ql trivial)
 rcases q6 with q6 | q6
 ·show TotP (QdU q6.1 q6.2) _
  unfold QdU
  exact TotP.okT
 ·show TotP (QdV) _
  unfold QdV
  exact TotP.okT
theorem QqI (n1:TNet)(l2:(List Int))(h_n1:QK n1)(h_l2:(lenL (fun _=>True)) l2):TotP (QgF n1 l2) fun r=>True:=by
 unfold QgF
 refine TotP.bind (Qp3 l2 n1 l2 (h_l2) (h_n1) (h_l2) (by omega)) (fun x_1 hv2=>?_)
 exact TotP.okT
theorem QqJ (v1:TNet)(v2:Qr)(h_v1:QK v1)(h_v2:Qay v2):TotP (QgG v1 v2) fun r=>True:=by
 unfold QgG
 refine TotP.bind (QqI v1 v2.Cancel (h_v1) (h_v2.2.2.2.2.2.2.2.1)) (fun x_1 hv2=>?_)
 exact TotP.okT
theorem QoS (v1:TNet)(v2:Qr)(v3:Int)(h_v1:QK v1)(h_v2:Qay v2):TotP (Qeo v1 v2 v3) fun r=>True:=by
 unfold Qeo
 refine TotP.bind (QqJ v1 v2 (h_v1) (h_v2)) (fun x_1 hv2=>?_)
 exact TotP.okT
theorem Qmo (k1:Int)(l2:(List TArc))(h_l2:(lenL Qi8) l2):TotP (QeA k1 l2) fun r=>True:=by
 unfold QeA
 exact TotP.okT
theorem Qsf (t1:Qr)(h_t1:Qay t1):TotP (Qih t1) fun r=>True:=by
 unfold Qih
 refine TotP.bind (P:=fun _=>True) ?_ (fun x_1 hv2=>?_)
 ·unfold Qkz
  refine TotP.bind (Qmo t1.Join t1.Ins (h_t1.2.2.2.2.2.1)) (fun x_3 hv4=>?_)
  refine TotP.bif (fun hc5=>?_) (fun hc5=>?_)
  ·refine TotP.bind (Qmo t1.Split t1.Outs (h_t1.2.2.2.2.2.2.1)) (fun x_6 hv7=>?_)
   refine TotP.bif (fun hc8=>?_) (fun hc8=>?_)
   ·refine TotP.bif (fun hc9=>?_) (fun hc9=>?_)
    ·refine TotP.bif (fun hc10=>?_) (fun hc10=>?_)
     ·exact TotP.okT
     ·exact TotP.okT
    ·exact TotP.okT
   ·exact TotP.okT
  ·exact TotP.okT
 unfold Qf2
 exact TotP.okT
theorem QqK (v1:Qr)(h_v1:Qay v1):TotP (QgH v1) fun r=>True:=by
 unfold QgH
 refine TotP.bind (Qsf v1 (h_v1)) (fun x_1 hv2=>?_)
 exact TotP.okT
theorem Qp4 (v1:Qr)(v2:Int)(v3:TNet)(v4:Int)(v5:Int)(v6:Int)(v7:Int)(v8:Int)(v9:Int)(v10:Int)(v11:Int)(v12:Int)(v13:Int)(v14:Int)(v15:Int)(h_v1:Qay v1)(h_v3:QK v3)(hp0:0≤v4)(hp1:v4<v3.Tasks.length):TotP (QcZ v1 v2 v3 v4 v5 v6 v7 v8 v9 v10 v11 v12 v13 v14 v15) fun r=>True:=by
 unfold QcZ
 refine TotP.bind (Qrm v1 (h_v1)) (fun x_1 hv2=>?_)
 refine TotP.bif (fun hc3=>?_) (fun hc3=>?_)
 ·exact TotP.okT
 ·refine TotP.bind (Qro v3 v4 v1 (h_v3) (h_v1) (by omega) (by omega)) (fun x_4 hv5=>?_)
  refine TotP.bif (fun hc6=>?_) (fun hc6=>?_)
  ·exact TotP.okT
  ·refine TotP.bind (Qrp v6 v1 (h_v1)) (fun x_7 hv8=>?_)
   refine TotP.bif (fun hc9=>?_) (fun hc9=>?_)
   ·exact TotP.okT
   ·refine TotP.bind (QqH v3 v1 v8 (h_v3) (h_v1)) (fun x_10 hv11=>?_)
    refine TotP.bif (fun hc12=>?_) (fun hc12=>?_)
    ·exact TotP.okT
    ·refine TotP.bind (Qrr v3 v4 (h_v3)) (fun x_13 hv14=>?_)
     refine TotP.bif (fun hc15=>?_) (fun hc15=>?_)
     ·exact TotP.okT
     ·refine TotP.bind (Qrs v1 v6 (h_v1)) (fun x_16 hv17=>?_)
      refine TotP.bif (fun hc18=>?_) (fun hc18=>?_)
      ·exact TotP.okT
      ·refine TotP.bind (QoQ v3 v1 v6 x_10.2 (h_v3) (h_v1)) (fun x_19 hv20=>?_)
       refine TotP.bif (fun hc21=>?_) (fun hc21=>?_)
       ·exact TotP.okT
       ·refine TotP.bind (QoR v3 v1 v6 x_19.2 (h_v3) (h_v1)) (fun x_22 hv23=>?_)
        refine TotP.bif (fun hc24=>?_) (fun hc24=>?_)
        ·exact TotP.okT
        ·refine TotP.bind (QoS v3 v1 x_22.2 (h_v3) (h_v1)) (fun x_25 hv26=>?_)
         refine TotP.bif (fun hc27=>?_) (fun hc27=>?_)
         ·exact TotP.okT
         ·refine TotP.bind (QqK v1 (h_v1)) (fun x_28 hv29=>?_)
          refine TotP.bif (fun hc30=>?_) (fun hc30=>?_)
          ·exact TotP.okT
          ·exact TotP.okT
theorem Qoc (n1:TNet)(k2:Int)(h_n1:QK n1):TotP (Qbu n1 k2) fun r=>True:=by
 unfold Qbu
 refine TotP.bind (Qi9 n1.Tasks k2 (h_n1.2.2.1)) (fun x_1 hv2=>?_)
 refine TotP.bif (fun hc3=>?_) (fun hc3=>?_)
 ·exact TotP.okT
 ·refine TotP.bind (Qmn n1 (h_n1)) (fun x_4 hv5=>?_)
  refine TotP.bif (fun hc6=>?_) (fun hc6=>?_)
  ·exact TotP.okT
  ·refine TotP.bind (TotP.idx (by simp_all) (by simp_all)) (fun e_7 hv8=>?_)
   refine TotP.bind (TotP.idx (by simp_all) (by simp_all)) (fun e_9 hv10=>?_)
   refine TotP.bind (Qse 0 n1 e_7 (h_n1) (((h_n1.2.2.1).2 e_7 hv8))) (fun x_11 hv12=>?_)
   refine TotP.bind (QpV 0 n1 e_7 (e_9.Vars.length:Int) (h_n1) (((h_n1.2.2.1).2 e_7 hv8))) (fun x_13 hv14=>?_)
   refine TotP.bind (QpW 0 n1 e_7 (e_9.Vars.length:Int) (h_n1) (((h_n1.2.2.1).2 e_7 hv8))) (fun x_15 hv16=>?_)
   refine TotP.bind (QpX 0 n1 e_7 (h_n1) (((h_n1.2.2.1).2 e_7 hv8))) (fun x_17 hv18=>?_)
   refine TotP.bind (Qp4 e_7 1 n1 k2 5 (e_9.Vars.length:Int) 2 0 (-1) 2 1 (-1) (-1) (-1) 11 (((h_n1.2.2.1).2 e_7 hv8)) (h_n1) (by simp_all) (by simp_all)) (fun x_19 hv20=>?_)
   refine TotP.bif (fun hc21=>?_) (fun hc21=>?_)
   ·exact TotP.okT
   ·exact TotP.okT
theorem Qsg (k1:Int)(p2:Qr)(v3:TNet)(h_p2:Qay p2)(h_v3:QK v3):TotP (Qgk k1 p2 v3) fun r=>True:=by
 unfold Qgk
 refine TotP.bind (Qoc v3 k1 (h_v3)) (fun x_1 hv2=>?_)
 exact TotP.okT
theorem Qnp (l1:(List Qr))(v2:TNet)(h_l1:(lenL Qay) l1)(h_v2:QK v2):TotP (Qbv l1 v2) fun r=>True:=by
 unfold Qbv
 refine TotP.bind (TotP.up (l1.length) (fun st=>st) (fun _=>True) (Q:=fun q=>True) rfl trivial (fun i2 st hi3 hn4 hj5=>?_)) (fun q6 hq7=>?_)
 ·obtain⟨x_1,hst⟩:∃y,y=st:=⟨_,rfl⟩
  subst hst
  replace hi3:x_1=(i2:Int):=hi3
  show TotP (QaA l1 v2 x_1) _
  unfold QaA
  refine TotP.bif (fun hc8=>?_) (fun hc8=>?_)
  ·refine TotP.bind (TotP.idx (by omega) (by simp_all)) (fun e_9 hv10=>?_)
   refine TotP.bind (Qsg x_1 e_9 v2 (((h_l1).2 e_9 hv10)) (h_v2)) (fun x_11 hv12=>?_)
   refine TotP.bif (fun hc13=>?_) (fun hc13=>?_)
   ·exact TotP.ok (Ql trivial)
   ·exact TotP.ok (Qw ⟨(by simp_all),by subst hi3;exact Qt (by simp_all) (h_l1).1,trivial⟩)
  ·exact TotP.ok (Ql trivial)
 rcases q6 with q6 | q6
 ·show TotP (Qcc q6.1 q6.2) _
  unfold Qcc
  exact TotP.okT
 ·show TotP (Qcd) _
  unfold Qcd
  exact TotP.okT
theorem Qtf (n1:TNet)(h_n1:QK n1):TotP (Qeb n1) fun r=>True:=by
 unfold Qeb
 refine TotP.bind (Qr7 n1 2 3 1 (h_n1)) (fun x_1 hv2=>?_)
 refine TotP.bif (fun hc3=>?_) (fun hc3=>?_)
 ·exact TotP.okT
 ·refine TotP.bind (Qmn n1 (h_n1)) (fun x_4 hv5=>?_)
  refine TotP.bif (fun hc6=>?_) (fun hc6=>?_)
  ·exact TotP.okT
  ·refine TotP.bind (Qm9 n1.Places n1 (h_n1.2.1) (h_n1)) (fun x_7 hv8=>?_)
   refine TotP.bif (fun hc9=>?_) (fun hc9=>?_)
   ·exact TotP.okT
   ·refine TotP.bind (Qnp n1.Tasks n1 (h_n1.2.2.1) (h_n1)) (fun x_10 hv11=>?_)
    refine TotP.bif (fun hc12=>?_) (fun hc12=>?_)
    ·exact TotP.okT
    ·exact TotP.okT
theorem QtV (a1:Int)(b2:Int)  : TotP (QkV a1 b2) fun r=>True:=by
 unfold QkV
 refine TotP.bif (fun hc1=>?_) (fun hc1=>?_)
 ·exact TotP.okT
 ·exact TotP.okT
theorem Qpi (a1:Int)(b2:Int)  : TotP (QeP a1 b2) fun r=>True:=by
 unfold QeP
 refine TotP.bif (fun hc1=>?_) (fun hc1=>?_)
 ·exact TotP.okT
 ·exact TotP.okT
theorem QoY (a1:Int)  : TotP (Qio a1) fun r=>True:=by
 unfold Qio
 refine TotP.bif (fun hc1=>?_) (fun hc1=>?_)
 ·exact TotP.okT
 ·exact TotP.okT
theorem Qpj (p1:Int)(y2:Int)  : TotP (QeQ p1 y2) fun r=>True:=by
 unfold QeQ
 exact TotP.okT
theorem Qrw (a1:Int)(b2:Int)  : TotP (Qhi a1 b2) fun r=>True:=by
 unfold Qhi
 refine TotP.bind (QoY a1 ) (fun x_1 hv2=>?_)
 refine TotP.bind (QoY b2 ) (fun x_3 hv4=>?_)
 refine TotP.bind (Qpj x_1 x_3 ) (fun x_5 hv6=>?_)
 refine TotP.bif (fun hc7=>?_) (fun hc7=>?_)
 ·unfold QdE
  refine TotP.bif (fun hc8=>?_) (fun hc8=>?_)
  ·exact TotP.okT
  ·exact TotP.okT
 ·unfold QdE
  refine TotP.bif (fun hc9=>?_) (fun hc9=>?_)
  ·exact TotP.okT
  ·exact TotP.okT
theorem Qmp (a1:Int)(b2:Int)  : TotP (Qet a1 b2) fun r=>True:=by
 unfold Qet
 refine TotP.bif (fun hc1=>?_) (fun hc1=>?_)
 ·exact TotP.okT
 ·refine TotP.bif (fun hc2=>?_) (fun hc2=>?_)
  ·exact TotP.okT
  ·refine TotP.bind (TotP.chk (by simp_all)) (fun _ _=>?_)
   refine TotP.bind (TotP.chk (by simp_all)) (fun _ _=>?_)
   exact TotP.okT
theorem Qeq (is1:Bool)  : TotP (QcM is1) fun r=>True:=by
 unfold QcM
 refine TotP.bif (fun hc1=>?_) (fun hc1=>?_)
 ·exact TotP.okT
 ·exact TotP.okT
theorem Qj2 (op1:Int)(a2:Int)(b3:Int)  : TotP (QhH op1 a2 b3) fun r=>True:=by
 unfold QhH
 refine TotP.bif (fun hc1=>?_) (fun hc1=>?_)
 ·refine TotP.bind (QtV a2 b3 ) (fun x_2 hv3=>?_)
  exact TotP.okT
 ·refine TotP.bif (fun hc4=>?_) (fun hc4=>?_)
  ·refine TotP.bind (Qpi a2 b3 ) (fun x_5 hv6=>?_)
   exact TotP.okT
  ·refine TotP.bif (fun hc7=>?_) (fun hc7=>?_)
   ·refine TotP.bind (Qrw a2 b3 ) (fun x_8 hv9=>?_)
    exact TotP.okT
   ·refine TotP.bif (fun hc10=>?_) (fun hc10=>?_)
    ·refine TotP.bind (Qmp a2 b3 ) (fun x_11 hv12=>?_)
     exact TotP.okT
    ·refine TotP.bif (fun hc13=>?_) (fun hc13=>?_)
     ·refine TotP.bind (Qmp a2 b3 ) (fun x_14 hv15=>?_)
      exact TotP.okT
     ·refine TotP.bif (fun hc16=>?_) (fun hc16=>?_)
      ·refine TotP.bind (Qeq (a2==b3) ) (fun x_17 hv18=>?_)
       exact TotP.okT
      ·refine TotP.bif (fun hc19=>?_) (fun hc19=>?_)
       ·refine TotP.bind (Qeq (a2 != b3) ) (fun x_20 hv21=>?_)
        exact TotP.okT
       ·refine TotP.bif (fun hc22=>?_) (fun hc22=>?_)
        ·refine TotP.bind (Qeq (decide (a2<b3)) ) (fun x_23 hv24=>?_)
         exact TotP.okT
        ·refine TotP.bif (fun hc25=>?_) (fun hc25=>?_)
         ·refine TotP.bind (Qeq (decide (a2≤b3)) ) (fun x_26 hv27=>?_)
          exact TotP.okT
         ·refine TotP.bif (fun hc28=>?_) (fun hc28=>?_)
          ·refine TotP.bind (P:=fun _=>True) ?_ (fun v_29 hv30=>?_)
           ·unfold QmP
            refine TotP.bif (fun hc31=>?_) (fun hc31=>?_)
            ·refine TotP.bind (Qeq (b3 != 0) ) (fun x_32 hv33=>?_)
             exact TotP.okT
            ·refine TotP.bind (Qeq false ) (fun x_34 hv35=>?_)
             exact TotP.okT
           unfold QiV
           exact TotP.okT
          ·refine TotP.bif (fun hc36=>?_) (fun hc36=>?_)
           ·refine TotP.bind (P:=fun _=>True) ?_ (fun v_37 hv38=>?_)
            ·unfold QmQ
             refine TotP.bif (fun hc39=>?_) (fun hc39=>?_)
             ·refine TotP.bind (Qeq true ) (fun x_40 hv41=>?_)
              exact TotP.okT
             ·refine TotP.bind (Qeq (b3 != 0) ) (fun x_42 hv43=>?_)
              exact TotP.okT
            unfold QiW
            exact TotP.okT
           ·exact TotP.okT
theorem Qp5 (a1:Int)  : TotP (QkX a1) fun r=>True:=by
 unfold QkX
 refine TotP.bind (Qj2 2 0 a1 ) (fun x_1 hv2=>?_)
 exact TotP.okT
end Go.Proofs
noncomputable section
namespace Go.Proofs
open Go Go.RowKit Go.Vm
theorem QhB (b:List (Int×Int))(h:b.length≤maxLen):Qce b=some (rtF (-1) b):=by
 unfold Qce
 have h1:=QvY (body:=fun st=>Qbo b st.1 st.2) (l:=b) (ρ:=Unit⊕Unit) (fun i (t:Int)=>(t,(i:Int)))
  (fun i t x=>bif ((decide (x.1≤t))||((decide (x.2<1))||(decide (1048576<x.2))))then .inr (.inl ())else .inl x.1) (fun _=>.inr ())
  (fun i t x hi hx=>by
   show Qbo b t i=_
   unfold Qbo
   rw [decide_eq_true (by omega:(i:Int)<b.length),cond_true,QP,hx,Option.bind_some]
   cases ((decide (x.1≤t))||((decide (x.2<1))||(decide (1048576<x.2))))with
   | true=>rfl
   | false=>simp only [cond_false,Sum.elim_inl];rw [Qt hi h])
  (fun t=>by
   show Qbo b t b.length=_
   unfold Qbo
   rw [decide_eq_false (by omega)];rfl) (-1) (s0:=(-1,0)) rfl
 rw [h1]
 have:∀(l:List (Int×Int)) (k:Nat) (t:Int),QoO (fun i t (x:Int×Int)=>(bif ((decide (x.1≤t))||((decide (x.2<1))||(decide (1048576<x.2))))then .inr (.inl ())else .inl x.1:Int⊕(Unit⊕Unit))) (fun _=>.inr ()) k t l=bif rtF t l then .inr ()else .inl ():=by
  intro l
  induction l with
  | nil=>intro k t;rfl
  | cons x l ih=>
   intro k t
   rw [QoO,rtF]
   cases ((decide (x.1≤t))||((decide (x.2<1))||(decide (1048576<x.2))))with
   | true=>rfl
   | false=>simp only [cond_false,Sum.elim_inl,Bool.not_false,Bool.true_and];exact ih _ _
 rw [this]
 cases rtF (-1) b<;>rfl
theorem QnC (b:List (Int×Int))(h:b.length≤maxLen):QiZ b=some (bif rtF (-1) b then .inr b else .inl ()):=by
 unfold QiZ
 rw [QhB b h,Option.bind_some]
 cases hr:rtF (-1) b with
 | false=>rfl
 | true=>
  simp only [Bool.not_true,cond_false,cond_true]
  have ha:=(Qdy.1 hr).1
  obtain⟨r,h1,h2⟩:=Qus (body:=fun st=>Qea b st.1 st.2) b.length (fun i s=>s=((i:Int),b.take i)) (fun r=>r=b)
   (fun i s hi hs=>by
    subst hs
    refine .inl ⟨(((i+1:Nat):Int),b.take (i+1)),?_,rfl⟩
    show Qea b i (b.take i)=_
    unfold Qea
    rw [decide_eq_true (by omega:(i:Int)<b.length),cond_true,QP,List.getElem?_eq_getElem hi,Option.bind_some,Qt hi h]
    have e:b.take (i+1)=b.take i++[b[i]]:=by rw [List.take_add_one,List.getElem?_eq_getElem hi];rfl
    rw [e,←QwQ (by have:=(ha.sublist (List.take_sublist (i+1) b));rw [e]at this;exact this)])
   (fun s hs=>by
    subst hs
    refine⟨_,?_,rfl⟩
    show Qea b b.length (b.take b.length)=_
    unfold Qea
    rw [decide_eq_false (by omega),List.take_length];rfl) (0,[]) rfl
  rw [h1,h2];rfl
theorem QnU (a b:List (Int×Int))(ha:a.length≤maxLen)(hb:b.length≤maxLen):QhR a b=some (bif rtF (-1) a then(bif rtF (-1) b then .inr (.inr (.inr (a,b)))else .inr (.inr (.inl a)))else(bif rtF (-1) b then .inr (.inl b)else .inl ())):=by
 unfold QhR
 rw [QnC a ha]
 cases rtF (-1) a with
 | true=>
  simp only [cond_true,Option.bind_some,Sum.elim_inr]
  unfold Qj6
  rw [QnC b hb]
  cases rtF (-1) b<;>rfl
 | false=>
  simp only [cond_false,Option.bind_some,Sum.elim_inl]
  unfold Qj5
  rw [QnC b hb]
  cases rtF (-1) b<;>rfl
theorem Qkd (m:List (Int×Int))(ha:Asc m)(h':m.length≤4294967296):QcS m=some (posL m):=by
 have h:m.length≤maxLen:=by unfold maxLen;omega
 unfold QcS QbV Qf7
 simp only [decide_eq_true h',Qva rfl,Option.bind_some,Qv2 ha]
 obtain⟨r,h1,h2⟩:=Qus (body:=fun st=>QaV (m.map Prod.fst) m st.1 st.2) m.length (fun i s=>s=((i:Int),posL (m.take i))) (fun r=>r=posL m)
  (fun i s hi hs=>by
   subst hs
   refine .inl ⟨(((i+1:Nat):Int),posL (m.take (i+1))),?_,rfl⟩
   show QaV (m.map Prod.fst) m i (posL (m.take i))=_
   unfold QaV
   have e:m.take (i+1)=m.take i++[m[i]]:=by rw [List.take_add_one,List.getElem?_eq_getElem hi];rfl
   have ec:(mget m m[i].1).getD 0=m[i].2:=Qjt ha.nd (List.getElem_mem hi)
   rw [decide_eq_true (by simp;omega),cond_true,QP,List.getElem?_map,List.getElem?_eq_getElem hi,Option.map_some,Option.bind_some,ec]
   have hl:(posL (m.take i)).length≤i:=Nat.le_trans (List.length_filter_le _ _) (by simp;omega)
   cases hc:decide (0<m[i].2)with
   | true=>
    simp only [cond_true]
    rw [Qqg (by simp;omega),Option.bind_some]
    unfold Qcz
    rw [Qt hi h,e]
    unfold posL
    rw [List.filter_append,List.filter_cons,if_pos hc];rfl
   | false=>
    simp only [cond_false]
    unfold Qcz
    rw [Qt hi h,e]
    unfold posL
    rw [List.filter_append,List.filter_cons,if_neg (by rw [hc];decide),List.filter_nil,List.append_nil])
  (fun s hs=>by
   subst hs
   refine⟨_,?_,rfl⟩
   show QaV (m.map Prod.fst) m m.length (posL (m.take m.length))=_
   unfold QaV
   rw [decide_eq_false (by simp),List.take_length];rfl) (0,[]) rfl
 rw [h1,h2];rfl
theorem QtW (m:List (Int×Int)):(posL m).length≤m.length:=List.length_filter_le _ _
theorem Qln (a b:List (Int×Int))(h:a.length+b.length≤4294967296):(¬(Rt a∧Rt b)∧Qbg a b=some ([],1))∨(Rt a∧Rt b∧(∃k,1048576<cntL a k+cntL b k)∧Qbg a b=some ([],2))∨
  (Rt a∧Rt b∧∃r,Qbg a b=some (r,0)∧Rt r∧(∀k,cntL r k=cntL a k+cntL b k)∧r.length≤a.length+b.length):=by
 unfold Qbg
 rw [QnU a b (by unfold maxLen;omega) (by unfold maxLen;omega),Option.bind_some]
 cases ra:rtF (-1) a with
 | false=>exact .inl ⟨fun hh=>(by rw [Qdy.2 hh.1]at ra;cases ra),by cases rtF (-1) b<;>rfl⟩
 | true=>
  cases rb:rtF (-1) b with
  | false=>exact .inl ⟨fun hh=>(by rw [Qdy.2 hh.2]at rb;cases rb),rfl⟩
  | true=>
   have hra:=Qdy.1 ra
   have hrb:=Qdy.1 rb
   simp only [cond_true,Sum.elim_inr]
   unfold Qk1
   have hw:∀p∈b,cntL a p.1+p.2=cntL a p.1+cntL b p.1:=fun p hp=>by rw [Qjt hrb.1.nd hp]
   rcases Qr2 (g:=fun x v=>w64 (x+v)) (stop:=fun x=>decide (1048576<x)) (q:=some ()) (body:=fun st p=>QfG st p.1 p.2) (fun s p=>by
     show QfG s p.1 p.2=_
     unfold QfG
     rw [QkE,if_pos rfl]
     unfold cntL
     simp only [Option.getD_some]
     cases decide (1048576<w64 ((mget s p.1).getD 0+p.2))<;>rfl) hra.1 hrb.1.nd with⟨⟨p,h1,h2⟩,h3⟩|⟨h1,s',h3,h4,h5,h6⟩
   ·refine .inr (.inl ⟨hra,hrb,⟨p.1,?_⟩,?_⟩)
    ·have:=hra.cnt p.1
     have:=hrb.cnt p.1
     have h2:=of_decide_eq_true h2
     rw [Qjt hrb.1.nd h1]
     rw [Qjt hrb.1.nd h1]at this
     rwa [Qcs (by omega)]at h2
    ·simp only [h3 () rfl];rfl
   ·have hk:∀k,cntL s' k=cntL a k+cntL b k∧cntL s' k≤1048576:=fun k=>by
     have ca:=hra.cnt k
     have cb:=hrb.cnt k
     have e:=h6 k
     unfold Qqh at e
     cases hm:mget b k with
     | none=>
      rw [hm]at e
      simp only at e
      have:cntL b k=0:=by unfold cntL;rw [hm];rfl
      have e2:cntL s' k=cntL a k:=by unfold cntL;rw [e]
      omega
     | some v=>
      rw [hm]at e
      simp only at e
      have e1:cntL b k=v:=by unfold cntL;rw [hm];rfl
      have e2:cntL s' k=w64 (cntL a k+v):=by unfold cntL;rw [e];rfl
      have h7:=h1 (k,v) ((QdL hrb.1.nd).1 hm)
      simp only [decide_eq_false_iff_not]at h7
      rw [Qcs (by omega)]at e2 h7
      omega
    refine .inr (.inr ⟨hra,hrb,posL s',?_,Qv1 h4 (fun k hk0=>⟨?_,(hk k).2⟩),fun k=>?_,Nat.le_trans (QtW s') h5⟩)
    ·simp only [h3,Option.bind_some,Sum.elim_inl]
     unfold Qk0
     rw [Qkd s' h4 (by omega)];rfl
    ·have:=(hk k).1
     have ca:=hra.cnt k
     have cb:=hrb.cnt k
     by_cases c:0<cntL a k
     ·exact hra.cnt_pos c
     ·exact hrb.cnt_pos (by omega)
    ·rw [QtU h4,(hk k).1]
     have ca:=hra.cnt k
     have cb:=hrb.cnt k
     split<;>omega
theorem Qnd (m m':List (Int×Int)):QcA m m'=some (!(m.any fun p=>decide (cntL m' p.1<p.2))):=by
 unfold QcA
 rw [Qvc (bad:=fun p=>decide (cntL m' p.1<p.2)) (q:=()) (fun p=>by
  show QbN m' p.1 p.2=_
  unfold QbN cntL
  cases decide ((mget m' p.1).getD 0<p.2)<;>rfl)]
 cases m.any fun p=>decide (cntL m' p.1<p.2)<;>rfl
theorem Qsh {a b:List (Int×Int)}(ha:Rt a)(hb:Rt b):(a.any fun p=>decide (cntL b p.1<p.2))=false↔∀k,cntL a k≤cntL b k:=by
 rw [←Bool.not_eq_true,List.any_eq_true]
 simp only [decide_eq_true_eq,not_exists,not_and]
 constructor
 ·intro h k
  have cb:=hb.cnt k
  cases e:mget a k with
  | none=>
   have:cntL a k=0:=by unfold cntL;rw [e];rfl
   omega
  | some v=>
   have h1:=h _ ((QdL ha.1.nd).1 e)
   have:cntL a k=v:=by unfold cntL;rw [e];rfl
   simp only at h1
   omega
 ·intro h p hp hlt
  have:=h p.1
  rw [Qjt ha.1.nd hp]at this
  omega
theorem Qsi (a b:List (Int×Int))(ha:a.length≤maxLen)(hb:b.length≤maxLen):∃r,Qi0 a b=some r∧(r=true↔Rt a∧Rt b∧∀k,cntL a k≤cntL b k):=by
 unfold Qi0
 rw [QnU a b ha hb,Option.bind_some]
 cases ra:rtF (-1) a with
 | false=>exact⟨false,by cases rtF (-1) b<;>rfl,by simp;intro hh;rw [Qdy.2 hh]at ra;cases ra⟩
 | true=>
  cases rb:rtF (-1) b with
  | false=>exact⟨false,rfl,by simp;intro _ hh;rw [Qdy.2 hh]at rb;cases rb⟩
  | true=>
   have hra:=Qdy.1 ra
   have hrb:=Qdy.1 rb
   refine⟨!(a.any fun p=>decide (cntL b p.1<p.2)),?_,?_⟩
   ·simp only [cond_true,Sum.elim_inr]
    unfold QiG
    rw [Qnd];rfl
   ·rw [Bool.not_eq_true',Qsh hra hrb]
    exact⟨fun h=>⟨hra,hrb,h⟩,fun h=>h.2.2⟩
theorem Qmg (a b:List (Int×Int))(h:a.length+b.length≤4294967296):(¬(Rt a∧Rt b)∧Qbk a b=some ([],1))∨(Rt a∧Rt b∧(∃k,cntL a k<cntL b k)∧Qbk a b=some ([],10))∨
  (Rt a∧Rt b∧(∀k,cntL b k≤cntL a k)∧∃r,Qbk a b=some (r,0)∧Rt r∧(∀k,cntL r k=cntL a k-cntL b k)∧r.length≤a.length+b.length):=by
 unfold Qbk
 rw [QnU a b (by unfold maxLen;omega) (by unfold maxLen;omega),Option.bind_some]
 cases ra:rtF (-1) a with
 | false=>exact .inl ⟨fun hh=>(by rw [Qdy.2 hh.1]at ra;cases ra),by cases rtF (-1) b<;>rfl⟩
 | true=>
  cases rb:rtF (-1) b with
  | false=>exact .inl ⟨fun hh=>(by rw [Qdy.2 hh.2]at rb;cases rb),rfl⟩
  | true=>
   have hra:=Qdy.1 ra
   have hrb:=Qdy.1 rb
   simp only [cond_true,Sum.elim_inr]
   unfold Qj8
   rw [Qnd,Option.bind_some]
   cases hw:b.any fun p=>decide (cntL a p.1<p.2)with
   | true=>
    refine .inr (.inl ⟨hra,hrb,?_,rfl⟩)
    obtain⟨p,h1,h2⟩:=List.any_eq_true.1 hw
    exact⟨p.1,by rw [Qjt hrb.1.nd h1];exact of_decide_eq_true h2⟩
   | false=>
    have hle:=(Qsh hrb hra).1 hw
    simp only [Bool.not_false,Bool.not_true,cond_false]
    rcases Qr2 (g:=fun x v=>w64 (x-v)) (stop:=fun _=>false) (q:=none) (body:=fun st p=>QeI st p.1 p.2) (fun s p=>by
      show QeI s p.1 p.2=_
      unfold QeI cntL
      rfl) hra.1 hrb.1.nd with⟨⟨p,h1,h2⟩,h3⟩|⟨h1,s',h3,h4,h5,h6⟩
    ·cases h2
    ·have hk:∀k,cntL s' k=cntL a k-cntL b k:=fun k=>by
      have ca:=hra.cnt k
      have cb:=hrb.cnt k
      have e:=h6 k
      unfold Qqh at e
      cases hm:mget b k with
      | none=>
       rw [hm]at e
       simp only at e
       have:cntL b k=0:=by unfold cntL;rw [hm];rfl
       have e2:cntL s' k=cntL a k:=by unfold cntL;rw [e]
       omega
      | some v=>
       rw [hm]at e
       simp only at e
       have e1:cntL b k=v:=by unfold cntL;rw [hm];rfl
       have e2:cntL s' k=w64 (cntL a k-v):=by unfold cntL;rw [e];rfl
       rw [Qcs (by omega)]at e2
       omega
     refine .inr (.inr ⟨hra,hrb,hle,posL s',?_,Qv1 h4 (fun k hk0=>?_),fun k=>?_,Nat.le_trans (QtW s') h5⟩)
     ·simp only [h3,Option.bind_some,Sum.elim_inl]
      unfold Qj7
      rw [Qkd s' h4 (by omega)];rfl
     ·have:=hk k
      have ca:=hra.cnt k
      have cb:=hrb.cnt k
      exact⟨hra.cnt_pos (by omega),by omega⟩
     ·rw [QtU h4,hk k]
      have:=hle k
      split<;>omega
theorem Qvg (t:Int):QmR [t]=some (bif decide (0≤t)then [(t,1)]else []):=by
 unfold QmR
 rw [QdX]
 show((Qdj [t] 0 []).bind _).bind _=_
 unfold Qdj
 rw [decide_eq_true (by simp),cond_true,show idx [t] 0=some t from rfl,Option.bind_some]
 unfold QjS
 rw [show w64 (0+1)=1 from by decide]
 cases h:decide (0≤t)with
 | false=>
  simp only [cond_false,Option.bind_some,Sum.elim_inl]
  rw [QdX]
  show((Qdj [t] 1 []).bind _).bind _=_
  unfold Qdj
  rw [decide_eq_false (by simp)]
  simp only [cond_false,Option.bind_some,Sum.elim_inr]
  unfold QjT
  rw [Qkd [] List.Pairwise.nil (by simp)];rfl
 | true=>
  simp only [cond_true,Option.bind_some,Sum.elim_inl]
  rw [QdX]
  show((Qdj [t] 1 [(t,min2 (w64 (0+1)) 1048576)]).bind _).bind _=_
  unfold Qdj
  rw [decide_eq_false (by simp)]
  simp only [cond_false,Option.bind_some,Sum.elim_inr]
  unfold QjT
  rw [Qkd _ (List.pairwise_singleton _ _) (by simp [maxLen]),show min2 (w64 (0+1)) 1048576=1 from by decide];rfl
end Go.Proofs
noncomputable section
namespace Go.Proofs
open Go Go.RowKit Go.Vm
theorem Qux : ∀(n:Nat) (e:Qg) (d:Int),Qdd e→SizeOf.sizeOf e≤n→TotP (QeJ n e d) fun _=>True
 | 0,e,_,_,h=>absurd e.pos (by omega)
 | n+1,e,d,he,h=>by
  unfold QeJ Qka
  refine TotP.bif (fun _=>TotP.okT) fun _=>?_
  refine TotP.bind (TotP.up e.Kids.length (fun st=>st.2) (fun _=>True) (Q:=fun _=>True) rfl trivial (fun i st hi hn _=>?_)) (fun q _=>?_)
  ·obtain⟨a,x⟩:=st
   replace hi:x=(i:Int):=hi
   show TotP (Qfn e (QeJ n) d a x) _
   unfold Qfn
   refine TotP.bif (fun hc=>?_) (fun hc=>TotP.ok (Ql trivial))
   simp only [decide_eq_true_eq]at hc
   refine TotP.bind (TotP.idx (by omega) (by omega)) fun k hk=>?_
   have:=QpS hk
   refine TotP.bind (Qux n k _ ((Qep he).2 k hk) (by omega)) fun y _=>?_
   refine TotP.bif (fun _=>TotP.ok (Ql trivial)) fun _=>TotP.bif (fun _=>TotP.ok (Ql trivial)) fun _=>?_
   exact TotP.ok (Qw ⟨by omega,by subst hi;exact Qt (by omega) (Qep he).1,trivial⟩)
  ·rcases q with q | q
   ·exact TotP.okT
   ·exact TotP.okT
theorem QsH (e:Qg)(he:Qdd e):TotP (QgS e) fun _=>True:=by
 unfold QgS QnL
 exact TotP.bind (Qux _ e 60 he (Nat.le_refl _)) fun _ _=>TotP.okT
theorem Qxt (n1:TNet)(h:QK n1)(q0:Int):TotP (Qgv n1 q0) fun r=>r=true→q0≤400:=by
 unfold Qgv
 refine TotP.bind (TotP.up n1.Tasks.length (fun st=>st.2) (fun _=>True) (Q:=fun _=>True) rfl trivial (fun i st hi hn _=>?_)) (fun q _=>?_)
 ·obtain⟨a,x⟩:=st
  replace hi:x=(i:Int):=hi
  show TotP (Qex n1 a x) _
  unfold Qex
  refine TotP.bif (fun hc=>?_) (fun _=>TotP.ok (Ql trivial))
  simp only [decide_eq_true_eq]at hc
  refine TotP.bind (TotP.idx (by omega) (by omega)) fun e he=>?_
  have ke:=h.2.2.1.2 e he
  refine TotP.bif (fun _=>TotP.ok (Ql trivial)) fun _=>?_
  refine TotP.bind (TotP.up e.Vars.length (fun st=>st) (fun _=>True) (Q:=fun _=>True) rfl trivial (fun i2 st hi2 hn2 _=>?_)) (fun q _=>?_)
  ·show TotP (Qeu e st) _
   unfold Qeu
   refine TotP.bif (fun hc=>?_) (fun _=>TotP.ok (Ql trivial))
   simp only [decide_eq_true_eq]at hc
   refine TotP.bind (TotP.idx (by omega) (by omega)) fun s _=>?_
   exact TotP.bif (fun _=>TotP.ok (Ql trivial)) fun _=>TotP.ok (Qw ⟨by omega,by rw [hi2];exact Qt (by omega) ke.2.1.1,trivial⟩)
  rcases q with q | q
  ·exact TotP.ok (Ql trivial)
  show TotP (Qgu e a x) _
  unfold Qgu
  refine TotP.bind (QsH e.Guard ke.2.2.1) fun g _=>?_
  refine TotP.bind (TotP.up e.Ins.length (fun st=>st.2) (fun _=>True) (Q:=fun _=>True) rfl trivial (fun i2 st hi2 hn2 _=>?_)) (fun q _=>?_)
  ·obtain⟨b,y⟩:=st
   replace hi2:y=(i2:Int):=hi2
   show TotP (Qev e b y) _
   unfold Qev
   refine TotP.bif (fun hc=>?_) (fun _=>TotP.ok (Ql trivial))
   simp only [decide_eq_true_eq]at hc
   refine TotP.bind (TotP.idx (by omega) (by omega)) fun s hs=>?_
   refine TotP.bind (QsH s.Expr (ke.2.2.2.2.2.1.2 s hs).2) fun g _=>?_
   exact TotP.ok (Qw ⟨by omega,by subst hi2;exact Qt (by omega) ke.2.2.2.2.2.1.1,trivial⟩)
  show TotP (Qgt e a x q) _
  unfold Qgt
  refine TotP.bind (TotP.up e.Outs.length (fun st=>st.2) (fun _=>True) (Q:=fun _=>True) rfl trivial (fun i2 st hi2 hn2 _=>?_)) (fun q _=>?_)
  ·obtain⟨b,y⟩:=st
   replace hi2:y=(i2:Int):=hi2
   show TotP (Qew e b y) _
   unfold Qew
   refine TotP.bif (fun hc=>?_) (fun _=>TotP.ok (Ql trivial))
   simp only [decide_eq_true_eq]at hc
   refine TotP.bind (TotP.idx (by omega) (by omega)) fun s hs=>?_
   refine TotP.bind (QsH s.Expr (ke.2.2.2.2.2.2.1.2 s hs).2) fun g _=>?_
   exact TotP.ok (Qw ⟨by omega,by subst hi2;exact Qt (by omega) ke.2.2.2.2.2.2.1.1,trivial⟩)
  show TotP (Qgs a e x q) _
  unfold Qgs
  exact TotP.bif (fun _=>TotP.ok (Ql trivial)) fun _=>TotP.ok (Qw ⟨by omega,by subst hi;exact Qt (by omega) h.2.2.1.1,trivial⟩)
 rcases q with q | q
 ·exact TotP.ok fun h=>by cases h
 ·exact TotP.ok fun h=>by simpa using h
theorem Qxu (n1:TNet)(h:QK n1):TotP (QjY n1) fun r=>r=true→n1.Colours.length≤40∧n1.Places.length≤70∧n1.Tasks.length≤70:=by
 unfold QjY
 refine TotP.bif (fun _=>TotP.ok fun h=>by cases h) fun hc=>?_
 simp only [Bool.or_eq_false_iff,decide_eq_false_iff_not]at hc
 refine TotP.mono (P:=fun _=>True) ?_ fun _ _ _=>by omega
 refine TotP.bind (TotP.up n1.Colours.length (fun st=>st.2) (fun _=>True) (Q:=fun _=>True) rfl trivial (fun i st hi hn _=>?_)) (fun q _=>?_)
 ·obtain⟨a,x⟩:=st
  replace hi:x=(i:Int):=hi
  show TotP (Qfp n1 a x) _
  unfold Qfp
  refine TotP.bif (fun hc=>?_) (fun _=>TotP.ok (Ql trivial))
  simp only [decide_eq_true_eq]at hc
  refine TotP.bind (TotP.idx (by omega) (by omega)).self fun e he=>?_
  obtain⟨he,hm⟩:=he
  refine TotP.bind (P:=fun _=>True) ?_ fun y _=>?_
  ·unfold Qlz
   rw [he,Option.bind_some]
   exact TotP.bif (fun _=>TotP.okT) fun _=>TotP.okT
  unfold Qhn
  refine TotP.bif (fun _=>TotP.ok (Ql trivial)) fun _=>?_
  refine TotP.bind (TotP.up e.Names.length (fun st=>st) (fun _=>True) (Q:=fun _=>True) rfl trivial (fun i2 st hi2 hn2 _=>?_)) (fun q _=>?_)
  ·show TotP (Qfo n1 x st) _
   unfold Qfo
   simp only [he,Option.bind_some]
   refine TotP.bif (fun hc=>?_) (fun _=>TotP.ok (Ql trivial))
   simp only [decide_eq_true_eq]at hc
   refine TotP.bind (TotP.idx (by omega) (by omega)) fun s _=>?_
   refine TotP.bif (fun _=>TotP.ok (Ql trivial)) fun _=>?_
   exact TotP.ok (Qw ⟨by omega,by rw [hi2];exact Qt (by omega) (h.1.2 e hm).2.2.2.2.1.1,trivial⟩)
  ·rcases q with q | q
   ·exact TotP.ok (Ql trivial)
   ·exact TotP.ok (Qw ⟨by omega,by subst hi;exact Qt (by omega) h.1.1,trivial⟩)
 rcases q with q | q
 ·exact TotP.okT
 show TotP (Qgw n1 q) _
 unfold Qgw
 refine TotP.bind (TotP.up n1.Places.length (fun st=>st.2) (fun _=>True) (Q:=fun _=>True) rfl trivial (fun i st hi hn _=>?_)) (fun q _=>?_)
 ·obtain⟨a,x⟩:=st
  replace hi:x=(i:Int):=hi
  show TotP (Qfq n1 a x) _
  unfold Qfq
  refine TotP.bif (fun hc=>?_) (fun _=>TotP.ok (Ql trivial))
  simp only [decide_eq_true_eq]at hc
  refine TotP.bind (TotP.idx (by omega) (by omega)) fun e _=>?_
  refine TotP.bind (TotP.idx (by omega) (by omega)) fun e2 _=>?_
  exact TotP.bif (fun _=>TotP.ok (Ql trivial)) fun _=>TotP.ok (Qw ⟨by omega,by subst hi;exact Qt (by omega) h.2.1.1,trivial⟩)
 rcases q with q | q
 ·exact TotP.okT
 exact(Qxt n1 h q).mono fun _ _=>trivial
theorem Qxv (m:List (List (Int×Int)))(h:m.length≤maxLen):TotP (QjZ m) fun _=>True:=by
 unfold QjZ
 refine TotP.bind (TotP.up m.length (fun st=>st.2) (fun _=>True) (Q:=fun _=>True) rfl trivial (fun i st hi hn _=>?_)) (fun q _=>TotP.okT)
 obtain⟨a,x⟩:=st
 replace hi:x=(i:Int):=hi
 show TotP (Qfr m a x) _
 unfold Qfr
 refine TotP.bif (fun hc=>?_) (fun _=>TotP.ok (Ql trivial))
 simp only [Bool.and_eq_true,decide_eq_true_eq]at hc
 refine TotP.bind (TotP.idx (by omega) (by omega)) fun e _=>?_
 exact TotP.ok (Qw ⟨by omega,by subst hi;exact Qt (by omega) h,trivial⟩)
theorem Quy {l:List (Int×Int)}(h:Asc l):∀{a:Int},(∀p∈l,a≤p.1)→∀(i:Nat) (hi:i<l.length),a+i≤(l[i]).1:=by
 induction l with
 | nil=>intro a _ i hi;simp at hi
 | cons p l ih=>
  intro a ha i hi
  obtain⟨h1,h2⟩:=Qf4.1 h
  cases i with
  | zero=>have:=ha p List.mem_cons_self;simpa using this
  | succ i=>
   have h3:=ih h2 (a:=a+1) (fun q hq=>by have:=h1 q hq;have:=ha p List.mem_cons_self;omega) i (by simpa using hi)
   simp only [List.getElem_cons_succ]
   omega
theorem QwV {l:List (Int×Int)}(h:Asc l)(h0:0<l.length){k:Int}(hk:0<cntL l k):k≤(l[l.length-1]).1:=by
 unfold cntL at hk
 cases e:mget l k with
 | none=>rw [e]at hk;simp at hk
 | some v=>
  obtain⟨j,hj,hjk⟩:=List.mem_iff_getElem.1 ((QdL h.nd).1 e)
  by_cases c:j=l.length-1
  ·subst c;rw [hjk];exact Int.le_refl _
  ·have:=List.pairwise_iff_getElem.1 h j (l.length-1) hj (by omega) (by omega)
   rw [hjk]at this
   simp only at this
   omega
def MOk (n:TNet)(c:Nat)(m:List (List (Int×Int))):Prop:=m.length=n.Places.length∧∀b∈m,Rt b∧b.length≤c
theorem MOk.mono {n:TNet}{c c':Nat}{m:List (List (Int×Int))}(h:MOk n c m)(hc:c≤c'):MOk n c' m:=⟨h.1,fun b hb=>⟨(h.2 b hb).1,Nat.le_trans (h.2 b hb).2 hc⟩⟩
def Low (n:TNet)(m:List (List (Int×Int))):Prop:=∀(j:Nat) b p,m[j]? = some b→n.Places[j]? = some p→∀k,0<cntL b k→∃z,QaI n.Colours p.Colour=some z∧k<z
theorem QtX (n1:TNet)(m:List (List (Int×Int)))(h:QK n1)(hm:lenL (lenL fun _=>True) m):TotP (Qi4 n1 m) fun r=>r=true→MOk n1 1024 m∧Low n1 m:=by
 unfold Qi4
 refine TotP.bif (fun _=>TotP.ok fun h=>by cases h) fun hc=>?_
 have hl:m.length=n1.Places.length:=by simp only [bne_eq_false_iff_eq]at hc;omega
 refine TotP.bind (TotP.up m.length (fun st=>st) (fun st=>∀(j:Nat) (hj:j<m.length),(j:Int)<st→(Rt m[j]∧(m[j]).length≤1024)∧∀p,n1.Places[j]? = some p→∀k,0<cntL m[j] k→∃z,QaI n1.Colours p.Colour=some z∧k<z) (Q:=fun q=>q=.inr ()→(∀b∈m,Rt b∧b.length≤1024)∧Low n1 m) rfl (fun j _ hj=>by omega) (fun i st hi hn hJ=>?_)) (fun q hq=>?_)
 ·show TotP (QeB m n1 st) _
  unfold QeB
  refine TotP.bif (fun hc=>?_) (fun hc=>TotP.ok (Ql fun _=>⟨fun b hb=>by
   obtain⟨j,hj,rfl⟩:=List.mem_iff_getElem.1 hb
   simp only [decide_eq_false_iff_not]at hc
   exact(hJ j hj (by omega)).1,fun j b p hb hp=>by
   obtain⟨hj,rfl⟩:=List.getElem?_eq_some_iff.1 hb
   simp only [decide_eq_false_iff_not]at hc
   exact(hJ j hj (by omega)).2 p hp⟩))
  simp only [decide_eq_true_eq]at hc
  have hlt:i<m.length:=by omega
  have hlp:i<n1.Places.length:=by omega
  rw [hi,QP,List.getElem?_eq_getElem hlt,Option.bind_some,QP,List.getElem?_eq_getElem hlp,Option.bind_some]
  refine TotP.bind (QdA n1.Colours (n1.Places[i]).Colour h.1).self fun sz hsz=>?_
  obtain⟨hze,hsz⟩:=hsz
  have hb:=hm.2 _ (List.getElem_mem hlt)
  have hbl:=hb.1
  refine TotP.bind (P:=fun r=>r=false→(Rt m[i]∧(m[i]).length≤1024)∧∀k,0<cntL m[i] k→k<sz) ?_ fun x hx=>?_
  ·unfold Qle
   rw [QhB _ hb.1,Option.bind_some]
   refine TotP.bif (fun _=>TotP.ok fun h=>by cases h) fun hr=>?_
   have hrt:=Qdy.1 (by simpa using hr:rtF (-1) m[i]=true)
   refine TotP.bif (fun h0=>?_) (fun h0=>TotP.ok fun _=>⟨⟨hrt,by simp only [decide_eq_false_iff_not]at h0;omega⟩,fun k hk=>by
    simp only [decide_eq_false_iff_not]at h0
    rw [show m[i]=[]from List.length_eq_zero_iff.1 (by omega)]at hk
    simp [cntL,mget]at hk⟩)
   simp only [decide_eq_true_eq]at h0
   unfold maxLen at hbl
   rw [Qcs (by omega),show((m[i]).length:Int)-1=(((m[i]).length-1:Nat):Int) by omega,QP,List.getElem?_eq_getElem (by omega),Option.bind_some]
   refine TotP.ok fun hf=>?_
   simp only [decide_eq_false_iff_not]at hf
   have:=Quy hrt.1 (a:=0) (fun p hp=>(hrt.2 p hp).1) ((m[i]).length-1) (by omega)
   refine⟨⟨hrt,by omega⟩,fun k hk=>?_⟩
   have:=QwV hrt.1 (by omega) hk
   omega
  ·unfold QgI
   refine TotP.bif (fun _=>TotP.ok (Ql fun h=>by cases h)) fun hxf=>?_
   refine TotP.ok (Qw ⟨hlt,Qt hlt hm.1,fun j hj hjs=>?_⟩)
   rw [Qt hlt hm.1]at hjs
   by_cases c:j=i
   ·subst c
    refine⟨(hx hxf).1,fun p hp k hk=>⟨sz,?_,(hx hxf).2 k hk⟩⟩
    rw [List.getElem?_eq_getElem hlp]at hp
    cases hp
    exact hze
   ·exact hJ j hj (by omega)
 ·rcases q with q | q
  ·exact TotP.ok fun h=>by cases h
  ·exact TotP.ok fun _=>⟨⟨hl,(hq rfl).1⟩,(hq rfl).2⟩
structure QX (n:TNet):Prop where
 k:QK n
 pl:n.Places.length≤70
 tl:n.Tasks.length≤12
 tk:∀t∈n.Tasks,t.Vars.length≤16∧t.Ins.length≤16∧t.Outs.length≤16∧t.Cancel.length≤16
theorem Qv6 (n1:TNet)(k2:Int)(h:Qbu n1 k2=some 0):∃t,idx n1.Tasks k2=some t∧t.Vars.length≤16∧t.Ins.length≤16∧t.Outs.length≤16∧t.Cancel.length≤16:=by
 unfold Qbu at h
 obtain⟨x5,_,h⟩:=Qb h
 rcases bifE h with⟨_,h⟩|⟨_,h⟩
 ·cases h
 obtain⟨x7,_,h⟩:=Qb h
 rcases bifE h with⟨c,h⟩|⟨_,h⟩
 ·simp only [Option.some.injEq]at h;rw [h]at c;cases c
 obtain⟨e9,he9,h⟩:=Qb h
 obtain⟨e10,he10,h⟩:=Qb h
 rw [he9]at he10;cases he10
 obtain⟨_,_,h⟩:=Qb h
 obtain⟨_,_,h⟩:=Qb h
 obtain⟨_,_,h⟩:=Qb h
 obtain⟨_,_,h⟩:=Qb h
 obtain⟨x15,hx,h⟩:=Qb h
 have bad:∀a b:Int,0<a→x15=(a,b)→False:=fun a b ha e=>by
  subst e
  simp only at h
  rcases bifE h with⟨c,h⟩|⟨_,h⟩
  ·simp only [beq_iff_eq]at c;omega
  ·simp only [Option.some.injEq]at h;omega
 unfold QcZ at hx
 obtain⟨x20,_,hx⟩:=Qb hx
 rcases bifE hx with⟨_,hx⟩|⟨_,hx⟩
 ·exact(bad _ _ (by decide) (Option.some.inj hx).symm).elim
 obtain⟨x22,_,hx⟩:=Qb hx
 rcases bifE hx with⟨_,hx⟩|⟨_,hx⟩
 ·exact(bad _ _ (by decide) (Option.some.inj hx).symm).elim
 obtain⟨x24,h24,hx⟩:=Qb hx
 rcases bifE hx with⟨_,hx⟩|⟨c,hx⟩
 ·exact(bad _ _ (by decide) (Option.some.inj hx).symm).elim
 unfold Qfs at h24
 simp only [Option.some.injEq]at h24
 rw [←h24]at c
 simp only [Bool.not_eq_false',Bool.and_eq_true,decide_eq_true_eq,Qjs]at c
 exact⟨e9,he9,by omega,by omega,by omega,by omega⟩
theorem QqU (l1:List Qr)(n1:TNet)(h:QK n1)(hl:lenL Qay l1):TotP (Qbv l1 n1) fun r=>r.2=0→∀(j:Nat),j<l1.length→Qbu n1 j=some 0:=by
 unfold Qbv
 refine TotP.bind (TotP.up l1.length (fun st=>st) (fun st=>∀(j:Nat),(j:Int)<st→Qbu n1 j=some 0) (Q:=fun q=>(∀a b,q=.inl (a,b)→b≠0)∧(q=.inr ()→∀(j:Nat),j<l1.length→Qbu n1 j=some 0)) rfl (fun j hj=>by omega) (fun i st hi hn hJ=>?_)) (fun q hq=>?_)
 ·show TotP (QaA l1 n1 st) _
  unfold QaA
  refine TotP.bif (fun hc=>?_) (fun hc=>TotP.ok (Ql ⟨fun a b h=>(by cases h),fun _ j hj=>by
   simp only [decide_eq_false_iff_not]at hc
   exact hJ j (by omega)⟩))
  simp only [decide_eq_true_eq]at hc
  refine TotP.bind (TotP.idx (by omega) (by omega)) fun e he=>?_
  refine TotP.bind (P:=fun x=>Qbu n1 st=some x) ?_ fun x hx=>?_
  ·unfold Qgk
   exact TotP.bind (Qoc n1 st h).self fun x hx=>TotP.ok hx.1
  refine TotP.bif (fun hc=>TotP.ok (Ql ⟨fun a b h=>(by cases h;simpa using hc),fun h=>(by cases h)⟩)) fun hc=>?_
  simp only [bne_eq_false_iff_eq]at hc
  refine TotP.ok (Qw ⟨by omega,by rw [hi];exact Qt (by omega) hl.1,fun j hj=>?_⟩)
  rw [hi,Qt (show i<l1.length by omega) hl.1]at hj
  by_cases c:j=i
  ·subst c;rw [←hi,hx,hc]
  ·exact hJ j (by omega)
 ·rcases q with q | q
  ·exact TotP.ok fun h=>absurd h (hq.1 q.1 q.2 rfl)
  ·exact TotP.ok fun _=>hq.2 rfl
theorem Qv7 (n1:TNet)(h:QK n1){p:Qd6}(hn:Qeb n1=some (0,p)):∀t∈n1.Tasks,t.Vars.length≤16∧t.Ins.length≤16∧t.Outs.length≤16∧t.Cancel.length≤16:=by
 unfold Qeb at hn
 obtain⟨x6,_,hn⟩:=Qb hn
 rcases bifE hn with⟨c,hn⟩|⟨_,hn⟩
 ·simp only [Option.some.injEq,Prod.mk.injEq]at hn;rw [hn.1]at c;cases c
 obtain⟨x8,_,hn⟩:=Qb hn
 rcases bifE hn with⟨c,hn⟩|⟨_,hn⟩
 ·simp only [Option.some.injEq,Prod.mk.injEq]at hn;rw [hn.1]at c;cases c
 obtain⟨x10,_,hn⟩:=Qb hn
 rcases bifE hn with⟨c,hn⟩|⟨_,hn⟩
 ·simp only [Option.some.injEq,Prod.mk.injEq]at hn;rw [hn.1]at c;cases c
 obtain⟨x12,h12,hn⟩:=Qb hn
 rcases bifE hn with⟨c,hn⟩|⟨c,hn⟩
 ·simp only [Option.some.injEq,Prod.mk.injEq]at hn;rw [hn.1]at c;cases c
 simp only [bne_eq_false_iff_eq]at c
 obtain⟨r,hr,hr2⟩:=QqU n1.Tasks n1 h h.2.2.1
 rw [h12]at hr;cases hr
 intro t ht
 obtain⟨j,hj,rfl⟩:=List.mem_iff_getElem.1 ht
 obtain⟨t,h1,h2⟩:=Qv6 n1 j (hr2 c j hj)
 rw [QP,List.getElem?_eq_getElem hj]at h1
 cases h1
 exact h2
theorem QxX (n1:TNet)(m:List (List (Int×Int)))(h:QK n1)(hm:lenL (lenL fun _=>True) m):TotP (Qf3 n1 m) fun r=>r=true→QX n1∧MOk n1 1024 m∧Low n1 m:=by
 unfold Qf3
 refine TotP.bind (Qxu n1 h) fun x5 h5=>?_
 refine TotP.bind (Qxv m hm.1) fun x6 _=>?_
 refine TotP.bif (fun _=>TotP.ok fun h=>by cases h) fun hc=>?_
 simp only [Bool.or_eq_false_iff,Bool.not_eq_false',decide_eq_false_iff_not]at hc
 have h5:=h5 hc.1
 refine TotP.bind (Qtf n1 h).self fun x11 h11=>?_
 refine TotP.bind (P:=fun r=>r=false→QX n1∧MOk n1 1024 m∧Low n1 m) ?_ fun x12 h12=>?_
 ·unfold QiJ
  refine TotP.bif (fun _=>TotP.ok fun h=>by cases h) fun hc1=>?_
  simp only [bne_eq_false_iff_eq]at hc1
  refine TotP.bind (QtX n1 m h hm) fun r hr=>TotP.ok fun hrf=>⟨⟨h,h5.2.1,by omega,?_⟩,hr (by simpa using hrf)⟩
  obtain⟨a,b⟩:=x11
  simp only at hc1
  subst hc1
  exact Qv7 n1 h h11.1
 unfold QeD
 refine TotP.bif (fun _=>TotP.ok fun h=>by cases h) fun hx=>?_
 have hfin:=h12 hx
 refine TotP.mono (P:=fun _=>True) ?_ fun _ _ _=>hfin
 refine TotP.bind (TotP.up n1.Tasks.length (fun st=>st.2) (fun _=>True) (Q:=fun _=>True) rfl trivial (fun i st hi hn _=>?_)) (fun q _=>TotP.okT)
 obtain⟨a,x⟩:=st
 replace hi:x=(i:Int):=hi
 show TotP (QeC n1 a x) _
 unfold QeC
 refine TotP.bif (fun hc=>?_) (fun _=>TotP.ok (Ql trivial))
 simp only [decide_eq_true_eq]at hc
 refine TotP.bind (TotP.idx (by omega) (by omega)) fun e _=>?_
 refine TotP.bind (QnA n1 x h) fun y _=>?_
 exact TotP.ok (Qw ⟨by omega,by subst hi;exact Qt (by omega) h.2.2.1.1,trivial⟩)
end Go.Proofs
