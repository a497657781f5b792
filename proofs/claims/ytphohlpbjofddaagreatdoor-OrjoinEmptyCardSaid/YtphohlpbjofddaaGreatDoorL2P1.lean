/- A part of the proof; what it holds is told at each theorem. -/
import Derived.Test.YtphohlpbjofddaaGreatDoorL2XPlA
import Derived.Test.YtphohlpbjofddaaGreatDoorL2V3
import Derived.Test.YtphohlpbjofddaaGreatDoorL2T3
import Derived.KernelRfl
set_option linter.unusedVariables false
set_option linter.unusedSimpArgs false
set_option linter.unusedSectionVars false
set_option linter.deprecated false
namespace Go.Vm
open Go Go.RowKit
def TotP {α:Type}(o:Option α)(Q:α→Prop):Prop:=∃r,o=some r∧Q r
section
variable {α β σ ρ:Type}
theorem TotP.ok {a:α}{Q:α→Prop}(h:Q a):TotP (some a) Q:=⟨a,rfl,h⟩
theorem TotP.okT {a:α}:TotP (some a) fun _=>True:=⟨a,rfl,trivial⟩
theorem TotP.bind {o:Option α}{f:α→Option β}{P:α→Prop}{Q:β→Prop}(h:TotP o P)(k:∀x,P x→TotP (f x) Q):TotP (o.bind f) Q:=by
 obtain⟨x,rfl,hx⟩:=h
 exact k x hx
theorem TotP.bif {c:Bool}{a b:Option α}{Q:α→Prop}(h1:c=true→TotP a Q)(h2:c=false→TotP b Q):TotP (bif c then a else b) Q:=by
 cases c with
 | true=>exact h1 rfl
 | false=>exact h2 rfl
theorem TotP.chk {c:Bool}(h:c=true):TotP (chk c) fun _=>True:=⟨(),QuL h,trivial⟩
theorem TotP.idx {l:List α}{j:Int}(h0:0≤j)(h1:j<l.length):TotP (idx l j) fun x=>x∈l:=by
 rw [Qpx h0 h1]
 exact⟨_,rfl,List.getElem_mem _⟩
theorem TotP.get {l:List α}{j:Nat}(h1:j<l.length):TotP (l[j]?) fun x=>x∈l:=by
 rw [List.getElem?_eq_getElem h1]
 exact⟨_,rfl,List.getElem_mem _⟩
theorem TotP.sidx {s:ByteArray}{j:Int}(h0:0≤j)(h1:j<s.size):TotP (sidx s j) fun _=>True:=by
 unfold Vm.sidx
 rw [if_pos h0]
 have:j.toNat<s.size:=by omega
 rw [getElem?_pos s j.toNat this]
 exact⟨_,rfl,trivial⟩
theorem TotP.mono {o:Option α}{P Q:α→Prop}(h:TotP o P)(k:∀x,P x→Q x):TotP o Q:=let ⟨r,h1,h2⟩:=h;⟨r,h1,k r h2⟩
theorem TotP.tot {o:Option α}{P:α→Prop}(h:TotP o P):∃r,o=some r:=let ⟨r,h1,_⟩:=h;⟨r,h1⟩
theorem TotP.self {o:Option α}{P:α→Prop}(h:TotP o P):TotP o fun x=>o=some x∧P x:=let ⟨r,h1,h2⟩:=h;⟨r,h1,h1,h2⟩
theorem TotP.up {body:σ→Option (σ⊕ρ)}(n:Nat)(ix:σ→Int)(J:σ→Prop){Q:ρ→Prop}{s0:σ}(h0:ix s0=0)(hJ:J s0)
  (step:∀(i:Nat) s,ix s=(i:Int)→i≤n→J s→TotP (body s) fun o=>(∀s',o=.inl s'→i<n∧ix s'=((i+1:Nat):Int)∧J s')∧∀r,o=.inr r→Q r):TotP (QC body s0) Q:=by
 have key:∀k i s,i+k=n→ix s=(i:Int)→J s→∃r,QC body s=some r∧Q r:=by
  intro k
  induction k with
  | zero=>
   intro i s hk hi hj
   obtain⟨o,ho,h1,h2⟩:=step i s hi (by omega) hj
   rw [QdI,ho]
   cases o with
   | inl s'=>have:=(h1 s' rfl).1;omega
   | inr r=>exact⟨r,rfl,h2 r rfl⟩
  | succ k ih=>
   intro i s hk hi hj
   obtain⟨o,ho,h1,h2⟩:=step i s hi (by omega) hj
   rw [QdI,ho]
   cases o with
   | inl s'=>
    obtain⟨_,h3,h4⟩:=h1 s' rfl
    exact ih (i+1) s' (by omega) h3 h4
   | inr r=>exact⟨r,rfl,h2 r rfl⟩
 exact key n 0 s0 (by omega) h0 hJ
theorem Qv {s:σ}{n i:Nat}{ix:σ→Int}{J:σ→Prop}{Q:ρ→Prop}(h:i<n∧ix s=((i+1:Nat):Int)∧J s):
  (∀s',(Sum.inl s:σ⊕ρ)=.inl s'→i<n∧ix s'=((i+1:Nat):Int)∧J s')∧∀r,(Sum.inl s:σ⊕ρ)=.inr r→Q r:=
 ⟨fun s' e=>(by cases e;exact h),fun r e=>(by cases e)⟩
theorem Ql {r:ρ}{n i:Nat}{ix:σ→Int}{J:σ→Prop}{Q:ρ→Prop}(h:Q r):
  (∀s',(Sum.inr r:σ⊕ρ)=.inl s'→i<n∧ix s'=((i+1:Nat):Int)∧J s')∧∀r',(Sum.inr r:σ⊕ρ)=.inr r'→Q r':=
 ⟨fun s' e=>(by cases e),fun r' e=>(by cases e;exact h)⟩
end
def lenL {α:Type}(ok:α→Prop)(l:List α):Prop:=l.length≤maxLen∧∀x∈l,ok x
theorem lenL.drop {α:Type}{ok:α→Prop}{l:List α}(h:lenL ok l)(k:Nat):lenL ok (l.drop k):=⟨by have:=h.1;rw [List.length_drop];omega,fun x hx=>h.2 x (List.mem_of_mem_drop hx)⟩
theorem lenL.take {α:Type}{ok:α→Prop}{l:List α}(h:lenL ok l)(k:Nat):lenL ok (l.take k):=⟨by have:=h.1;rw [List.length_take];omega,fun x hx=>h.2 x (List.mem_of_mem_take hx)⟩
theorem lenL.nil {α:Type}{ok:α→Prop}:lenL ok ([]:List α):=⟨by simp,fun x h=>by cases h⟩
theorem lenL.app {α:Type}{ok:α→Prop}{l m:List α}(h:lenL ok l)(hm:lenL ok m)(hs:l.length+m.length≤maxLen):lenL ok (l++m):=⟨by simpa using hs,fun x hx=>by rcases List.mem_append.1 hx with h1 | h1;exact h.2 x h1;exact hm.2 x h1⟩
def QfX (s:ByteArray):Prop:=s.size≤maxLen
theorem Qvx {s:ByteArray}(h:Qhu s (⟨#[]⟩:ByteArray)=false):0<s.size:=by
 apply Nat.pos_of_ne_zero
 intro h0
 have:s=⟨#[]⟩:=by
  obtain⟨a⟩:=s
  have:a=#[]:=Array.eq_empty_of_size_eq_zero h0
  rw [this]
 subst this
 simp [Qhu]at h
theorem Qkr {a b:Int}:0≤min2 a b↔0≤a∧0≤b:=by unfold min2;split<;>omega
theorem Qks {a b n:Int}:max2 a b<n↔a<n∧b<n:=by unfold max2;split<;>omega
theorem Qjf {a b n:Int}:max2 a b≤n↔a≤n∧b≤n:=by unfold max2;split<;>omega
end Go.Vm
namespace Go.Vm
open Go Go.RowKit
def Asc (l:List (Int×Int)):Prop:=l.Pairwise fun p q=>p.1<q.1
def Qlx (l:List (Int×Int)):Prop:=l.Pairwise fun p q=>p.1≠q.1
theorem Asc.nd {l:List (Int×Int)}(h:Asc l):Qlx l:=h.imp fun h=>by omega
theorem QfT {p:Int×Int}{l:List (Int×Int)}:Asc (p::l)↔(∀q∈l,p.1<q.1)∧Asc l:=List.pairwise_cons
theorem Qt4 {p:Int×Int}{l:List (Int×Int)}:Qlx (p::l)↔(∀q∈l,p.1≠q.1)∧Qlx l:=List.pairwise_cons
theorem QrG {l:List (Int×Int)}{k:Int}:mget l k=none↔∀p∈l,p.1≠k:=by
 induction l with
 | nil=>simp [mget]
 | cons p l ih=>
  obtain⟨a,x⟩:=p
  rw [Q8]
  by_cases h:a=k
  ·simp [h]
  ·simp [h,ih]
theorem Qdw {l:List (Int×Int)}(hn:Qlx l){k v:Int}:mget l k=some v↔(k,v)∈l:=by
 induction l with
 | nil=>simp [mget]
 | cons p l ih=>
  obtain⟨a,x⟩:=p
  obtain⟨h1,h2⟩:=Qt4.1 hn
  rw [Q8]
  by_cases h:a=k
  ·subst h
   rw [if_pos rfl]
   constructor
   ·intro e;cases e;simp
   ·intro e
    rcases List.mem_cons.1 e with e | e
    ·cases e;rfl
    ·exact absurd rfl (h1 (a,v) e)
  ·rw [if_neg h,ih h2]
   constructor
   ·intro e;exact List.mem_cons_of_mem _ e
   ·intro e
    rcases List.mem_cons.1 e with e | e
    ·cases e;exact absurd rfl h
    ·exact e
theorem Qvy {l m:List (Int×Int)}(hl:Qlx l)(h:l.Perm m)(k:Int):mget l k=mget m k:=by
 have hm:Qlx m:=(h.pairwise_iff (fun hab=>Ne.symm hab)).1 hl
 apply Option.ext
 intro v
 rw [Qdw hl,Qdw hm]
 exact h.mem_iff
theorem Qt5 {l m:List (Int×Int)}(hl:Asc l)(hm:Asc m)(h:∀k,mget l k=mget m k):l=m:=by
 induction l generalizing m with
 | nil=>
  cases m with
  | nil=>rfl
  | cons p m=>have:=h p.1;rw [Q8 (κ:=Int)]at this;simp [mget]at this
 | cons p l ih=>
  obtain⟨a,x⟩:=p
  cases m with
  | nil=>have:=h a;rw [Q8]at this;simp [mget]at this
  | cons q m=>
   obtain⟨b,y⟩:=q
   obtain⟨l1,l2⟩:=QfT.1 hl
   obtain⟨m1,m2⟩:=QfT.1 hm
   have hab:a=b:=by
    rcases Int.lt_trichotomy a b with hc | hc | hc
    ·have e:=h a
     rw [Q8,Q8,if_pos rfl,if_neg (by omega),QrG.2 (fun p hp=>by have:=m1 p hp;simp at this;omega)]at e
     cases e
    ·exact hc
    ·have e:=h b
     rw [Q8,Q8,if_neg (by omega),if_pos rfl,QrG.2 (fun p hp=>by have:=l1 p hp;simp at this;omega)]at e
     cases e
   subst hab
   have e:=h a
   rw [Q8,Q8,if_pos rfl,if_pos rfl]at e
   cases e
   rw [ih l2 m2 fun k=>?_]
   by_cases hk:a=k
   ·subst hk
    rw [QrG.2 (fun p hp=>by have:=l1 p hp;simp at this;omega),QrG.2 (fun p hp=>by have:=m1 p hp;simp at this;omega)]
   ·have:=h k
    rwa [Q8,Q8,if_neg hk,if_neg hk]at this
theorem Qxu {l:List (Int×Int)}{k v:Int}{p:Int×Int}(h:p∈mrep l k v):∃q∈l,q.1=p.1:=by
 induction l with
 | nil=>cases h
 | cons q l ih=>
  obtain⟨a,x⟩:=q
  rw [mrep]at h
  split at h
  ·rename_i e
   rcases List.mem_cons.1 h with rfl | h
   ·exact⟨_,List.mem_cons_self,e⟩
   ·exact⟨p,List.mem_cons_of_mem _ h,rfl⟩
  ·rcases List.mem_cons.1 h with rfl | h
   ·exact⟨_,List.mem_cons_self,rfl⟩
   ·obtain⟨q,h1,h2⟩:=ih h
    exact⟨q,List.mem_cons_of_mem _ h1,h2⟩
theorem Qwl {lt:Int→Int→Bool}{l:List (Int×Int)}{k v:Int}{p:Int×Int}(h:p∈mins lt l k v):p=(k,v)∨p∈l:=by
 induction l with
 | nil=>simp [mins]at h;exact .inl h
 | cons q l ih=>
  obtain⟨a,x⟩:=q
  rw [mins]at h
  split at h
  ·rcases List.mem_cons.1 h with h | h
   ·exact .inl h
   ·exact .inr h
  ·rcases List.mem_cons.1 h with h | h
   ·exact .inr (h▸List.mem_cons_self)
   ·rcases ih h with h | h
    ·exact .inl h
    ·exact .inr (List.mem_cons_of_mem _ h)
theorem Qtv {l:List (Int×Int)}(h:Asc l)(k v:Int):Asc (mset ltI l k v):=by
 unfold mset
 split
 ·rename_i x hx
  clear hx
  induction l with
  | nil=>exact h
  | cons p l ih=>
   obtain⟨a,x⟩:=p
   obtain⟨h1,h2⟩:=QfT.1 h
   rw [mrep]
   split
   ·rename_i e;subst e;exact QfT.2 ⟨h1,h2⟩
   ·refine QfT.2 ⟨fun q hq=>?_,ih h2⟩
    obtain⟨q',hq',e⟩:=Qxu hq
    rw [←e];exact h1 _ hq'
 ·rename_i hn
  induction l with
  | nil=>exact List.pairwise_singleton _ _
  | cons p l ih=>
   obtain⟨a,x⟩:=p
   obtain⟨h1,h2⟩:=QfT.1 h
   rw [Q8]at hn
   split at hn
   ·cases hn
   ·rename_i hne
    rw [mins]
    split
    ·rename_i e
     have e:k<a:=of_decide_eq_true e
     refine QfT.2 ⟨fun q hq=>?_,h⟩
     rcases List.mem_cons.1 hq with rfl | hq
     ·exact e
     ·have:=h1 q hq;simp at this ⊢;omega
    ·rename_i e
     have e:¬k<a:=fun c=>e (decide_eq_true c)
     refine QfT.2 ⟨fun q hq=>?_,ih h2 hn⟩
     rcases Qwl hq with rfl | hq
     ·show a<k;omega
     ·exact h1 q hq
theorem Qwm {l:List (Int×Int)}{k v:Int}:(mrep l k v).length=l.length:=by
 induction l with
 | nil=>rfl
 | cons p l ih=>
  obtain⟨a,x⟩:=p
  rw [mrep]
  split
  ·rfl
  ·simp [ih]
theorem Qwn {lt:Int→Int→Bool}{l:List (Int×Int)}{k v:Int}:(mins lt l k v).length=l.length+1:=by
 induction l with
 | nil=>rfl
 | cons p l ih=>
  obtain⟨a,x⟩:=p
  rw [mins]
  split
  ·rfl
  ·simp [ih]
theorem Qwo {l:List (Int×Int)}{k v:Int}:(mset ltI l k v).length≤l.length+1:=by
 unfold mset
 split
 ·rw [Qwm];omega
 ·rw [Qwn];exact Nat.le_refl _
theorem Qwp {l:List (Int×Int)}{k v:Int}(h:Asc (l++[(k,v)])):mset ltI l k v=l++[(k,v)]:=by
 have hl:Asc l:=(List.pairwise_append.1 h).1
 refine Qt5 (Qtv hl k v) h fun j=>?_
 rw [Qkq]
 have hk:∀p∈l,p.1<k:=fun p hp=>(List.pairwise_append.1 h).2.2 p hp (k,v) (by simp)
 clear h
 induction l with
 | nil=>
  show(if j=k then some v else none)=(if k=j then some v else none)
  by_cases c:j=k
  ·rw [if_pos c,if_pos c.symm]
  ·rw [if_neg c,if_neg (fun e=>c e.symm)]
 | cons p l ih=>
  obtain⟨a,x⟩:=p
  have h1:=hk (a,x) List.mem_cons_self
  simp only at h1
  rw [List.cons_append,Q8,Q8]
  rw [←ih (QfT.1 hl).2 fun p hp=>hk p (List.mem_cons_of_mem _ hp)]
  by_cases c:j=k
  ·subst c;rw [if_pos rfl,if_pos rfl,if_neg (by omega)]
  ·rw [if_neg c,if_neg c]
section
variable {ρ:Type}{g:Int→Int→Int}{stop:Int→Bool}{q:Option ρ}{body:List (Int×Int)→Int×Int→Option (List (Int×Int)⊕ρ)}
def cntL (s:List (Int×Int))(k:Int):Int:=(mget s k).getD 0
def QpX (g:Int→Int→Int)(s l:List (Int×Int))(k:Int):Option Int:=match mget l k with
 | some v=>some (g (cntL s k) v)
 | none=>mget s k
theorem Qow (hb:∀s p,body s p=bif stop (g (cntL s p.1) p.2)then q.map Sum.inr else some (.inl (mset ltI s p.1 (g (cntL s p.1) p.2)))):
  ∀l s,Asc s→Qlx l→((∃p∈l,stop (g (cntL s p.1) p.2)=true)∧runL body s l=q.map Sum.inr)∨
   ((∀p∈l,stop (g (cntL s p.1) p.2)=false)∧∃s',runL body s l=some (.inl s')∧Asc s'∧s'.length≤s.length+l.length∧∀k,mget s' k=QpX g s l k):=by
 intro l
 induction l with
 | nil=>intro s hs _;exact .inr ⟨fun p h=>(by cases h),s,rfl,hs,by simp,fun k=>rfl⟩
 | cons p l ih=>
  intro s hs hl
  obtain⟨h1,h2⟩:=Qt4.1 hl
  simp only [runL,hb]
  cases hst:stop (g (cntL s p.1) p.2)with
  | true=>exact .inl ⟨⟨p,List.mem_cons_self,hst⟩,by cases q<;>rfl⟩
  | false=>
   simp only [cond_false,Option.bind_some,Sum.elim_inl]
   have hc:∀r∈l,cntL (mset ltI s p.1 (g (cntL s p.1) p.2)) r.1=cntL s r.1:=fun r hr=>by
    unfold cntL
    rw [Qkq,if_neg (fun e=>h1 r hr e.symm)]
   rcases ih _ (Qtv hs p.1 (g (cntL s p.1) p.2)) h2 with⟨⟨r,hr,h3⟩,h4⟩|⟨h3,s',h4,h5,h6,h7⟩
   ·exact .inl ⟨⟨r,List.mem_cons_of_mem _ hr,by rw [hc r hr]at h3;exact h3⟩,h4⟩
   ·refine .inr ⟨fun r hr=>?_,s',h4,h5,?_,fun k=>?_⟩
    ·rcases List.mem_cons.1 hr with rfl | hr
     ·exact hst
     ·have:=h3 r hr;rwa [hc r hr]at this
    ·have:=Qwo (l:=s) (k:=p.1) (v:=g (cntL s p.1) p.2)
     simp;omega
    ·rw [h7]
     obtain⟨a,x⟩:=p
     unfold QpX
     rw [Q8]
     by_cases e:a=k
     ·subst e
      rw [if_pos rfl,QrG.2 (fun r hr=>Ne.symm (h1 r hr)),Qkq,if_pos rfl]
     ·rw [if_neg e]
      simp only [cntL,Qkq,if_neg (fun e'=>e (Eq.symm e'):¬k=a)]
theorem QrH (hb:∀s p,body s p=bif stop (g (cntL s p.1) p.2)then q.map Sum.inr else some (.inl (mset ltI s p.1 (g (cntL s p.1) p.2)))){l s:List (Int×Int)}(hs:Asc s)(hl:Qlx l):
  ((∃p∈l,stop (g (cntL s p.1) p.2)=true)∧∀r,q=some r→QhP body s l=some (.inr r))∨
   ((∀p∈l,stop (g (cntL s p.1) p.2)=false)∧∃s',QhP body s l=some (.inl s')∧Asc s'∧s'.length≤s.length+l.length∧∀k,mget s' k=QpX g s l k):=by
 have key:∀l':List (Int×Int),l'.Perm l→runL body s l'=runL body s l:=fun l' hp=>by
  have hl':Qlx l':=(hp.pairwise_iff (fun hab=>Ne.symm hab)).2 hl
  rcases Qow hb l' s hs hl' with⟨⟨p,h1,h2⟩,h3⟩|⟨h1,s1,h3,h4,_,h5⟩
  ·rcases Qow hb l s hs hl with⟨_,g3⟩|⟨g1,_⟩
   ·rw [h3,g3]
   ·rw [g1 p (hp.mem_iff.1 h1)]at h2;cases h2
  ·rcases Qow hb l s hs hl with⟨⟨p,g1,g2⟩,g3⟩|⟨g1,s2,g3,g4,_,g5⟩
   ·rw [h1 p (hp.mem_iff.2 g1)]at g2;cases g2
   ·rw [h3,g3,Qt5 h4 g4 fun k=>?_]
    rw [h5,g5]
    unfold QpX
    rw [Qvy hl' hp k]
 rcases Qow hb l s hs hl with⟨h1,h3⟩|⟨h1,s1,h3,h4,h6,h5⟩
 ·exact .inl ⟨h1,fun r hr=>Qi0.2 ⟨key,by rw [h3,hr];rfl⟩⟩
 ·exact .inr ⟨h1,s1,Qi0.2 ⟨key,h3⟩,h4,h6,h5⟩
end
theorem QuN {ρ:Type}{bad:Int×Int→Bool}{q:ρ}{body:Unit→Int×Int→Option (Unit⊕ρ)}(hb:∀p,body () p=some (bif bad p then .inr q else .inl ()))(l:List (Int×Int)):
  QhP body () l=some (bif l.any bad then .inr q else .inl ()):=by
 have h1:∀l:List (Int×Int),runL body () l=some (bif l.any bad then .inr q else .inl ()):=by
  intro l
  induction l with
  | nil=>rfl
  | cons p l ih=>
   simp only [runL,hb,Option.bind_some,List.any_cons]
   cases bad p with
   | true=>rfl
   | false=>exact ih
 refine Qi0.2 ⟨fun l' hp=>?_,h1 l⟩
 rw [h1,h1]
 congr 2
 rw [Bool.eq_iff_iff,List.any_eq_true,List.any_eq_true]
 exact⟨fun ⟨x,a,b⟩=>⟨x,hp.mem_iff.1 a,b⟩,fun ⟨x,a,b⟩=>⟨x,hp.mem_iff.2 a,b⟩⟩
def rtF (a:Int):List (Int×Int)→Bool
 | []=>true
 | p::r=>!(decide (p.1≤a)||(decide (p.2<1)||decide (1048576<p.2)))&&rtF p.1 r
theorem QwY {a:Int}{l:List (Int×Int)}:rtF a l=true↔Asc l∧∀p∈l,a<p.1∧1≤p.2∧p.2≤1048576:=by
 induction l generalizing a with
 | nil=>simp [rtF,Asc]
 | cons p l ih=>
  rw [rtF,Bool.and_eq_true,ih,QfT]
  simp only [Bool.not_eq_true',Bool.or_eq_false_iff,decide_eq_false_iff_not]
  constructor
  ·rintro ⟨⟨h1,h2,h3⟩,h4,h5⟩
   refine⟨⟨fun q hq=>(h5 q hq).1,h4⟩,fun q hq=>?_⟩
   rcases List.mem_cons.1 hq with rfl | hq
   ·omega
   ·have:=h5 q hq;omega
  ·rintro ⟨⟨h1,h2⟩,h3⟩
   have:=h3 p List.mem_cons_self
   exact⟨by omega,h2,fun q hq=>⟨h1 q hq,(h3 q (List.mem_cons_of_mem _ hq)).2⟩⟩
def Rt (l:List (Int×Int)):Prop:=Asc l∧∀p∈l,0≤p.1∧1≤p.2∧p.2≤1048576
theorem QeS {l:List (Int×Int)}:rtF (-1) l=true↔Rt l:=by
 rw [QwY]
 constructor
 ·rintro ⟨h1,h2⟩;exact⟨h1,fun p hp=>by have:=h2 p hp;omega⟩
 ·rintro ⟨h1,h2⟩;exact⟨h1,fun p hp=>by have:=h2 p hp;omega⟩
theorem Rt.nil : Rt []:=⟨List.Pairwise.nil,fun p h=>by cases h⟩
theorem Qjg {l:List (Int×Int)}(h:Qlx l){p:Int×Int}(hp:p∈l):cntL l p.1=p.2:=by
 unfold cntL;rw [(Qdw h).2 (show(p.1,p.2)∈l from hp)];rfl
theorem Rt.cnt {l:List (Int×Int)}(h:Rt l)(k:Int):0≤cntL l k∧cntL l k≤1048576:=by
 unfold cntL
 cases e:mget l k with
 | none=>simp
 | some v=>have:=h.2 _ ((Qdw h.1.nd).1 e);simp at this ⊢;omega
theorem Rt.cnt_pos {l:List (Int×Int)}(h:Rt l){k:Int}(hk:0<cntL l k):0≤k:=by
 unfold cntL at hk
 cases e:mget l k with
 | none=>rw [e]at hk;simp at hk
 | some v=>exact(h.2 _ ((Qdw h.1.nd).1 e)).1
def posL (l:List (Int×Int)):List (Int×Int):=l.filter fun p=>decide (0<p.2)
theorem Qtw {l:List (Int×Int)}(h:Asc l)(k:Int):cntL (posL l) k=if 0<cntL l k then cntL l k else 0:=by
 have hp:Asc (posL l):=h.sublist List.filter_sublist
 by_cases c:0<cntL l k
 ·rw [if_pos c]
  unfold cntL at c
  cases e:mget l k with
  | none=>rw [e]at c;simp at c
  | some v=>
   rw [e]at c
   have h1:(k,v)∈posL l:=List.mem_filter.2 ⟨(Qdw h.nd).1 e,by simpa using c⟩
   unfold cntL
   rw [(Qdw hp.nd).2 h1,e]
 ·rw [if_neg c]
  unfold cntL
  cases e:mget (posL l) k with
  | none=>rfl
  | some v=>
   have h1:=List.mem_filter.1 ((Qdw hp.nd).1 e)
   have h2:=(Qdw h.nd).2 h1.1
   unfold cntL at c
   rw [h2]at c
   simp at h1 c;omega
theorem Qvz {l:List (Int×Int)}(h:Asc l)(hb:∀k,0<cntL l k→0≤k∧cntL l k≤1048576):Rt (posL l):=by
 refine⟨h.sublist List.filter_sublist,fun p hp=>?_⟩
 obtain⟨h1,h2⟩:=List.mem_filter.1 hp
 have h3:=Qjg h.nd h1
 have h4:0<p.2:=of_decide_eq_true h2
 have:=hb p.1 (by omega)
 omega
theorem QvA {l:List (Int×Int)}(h:Asc l):QdP (l.map Prod.fst)=l.map Prod.fst:=by
 rw [Qoi]
 refine List.mergeSort_of_pairwise ?_
 rw [List.pairwise_map]
 exact h.imp fun h=>by simp;omega
end Go.Vm
namespace Go.Vm
open Go Go.RowKit
def upL : Int→Nat→List Int
 | _,0=>[]
 | x,k+1=>x::upL (x+1) k
def binds : List Int→List (List Int)
 | []=>[[]]
 | s::r=>(0::upL 1 (s-1).toNat).flatMap fun x=>(binds r).map (x::·)
def Qdl : List Int→List Int→List (List Int)
 | s::r,x::d=>(Qdl r d).map (x::·)++(upL (x+1) (s-(x+1)).toNat).flatMap fun y=>(binds r).map (y::·)
 | _,_=>[]
def QiU (l:List Int):List Int:=List.replicate l.length 0
theorem Qqz (l:List Int):binds l=QiU l::Qdl l (QiU l):=by
 induction l with
 | nil=>rfl
 | cons s r ih=>
  show(0::upL 1 (s-1).toNat).flatMap (fun x=>(binds r).map (x::·))=(0::QiU r)::((Qdl r (QiU r)).map (0::·)++(upL (0+1) (s-(0+1)).toNat).flatMap fun y=>(binds r).map (y::·))
  rw [List.flatMap_cons,Int.zero_add]
  have:(binds r).map (fun x=>(0:Int)::x)=(0::QiU r)::(Qdl r (QiU r)).map (0::·):=by rw [ih];rfl
  rw [this];rfl
def Qmf : List Int→List Int→Option (List Int)
 | s::r,x::d=>match Qmf r d with
  | some e=>some (x::e)
  | none=>if x+1<s then some ((x+1)::QiU r)else none
 | _,_=>none
theorem QuO : ∀l d:List Int,Qdl l d=match Qmf l d with
  | none=>[]
  | some e=>e::Qdl l e:=by
 intro l
 induction l with
 | nil=>intro d;rfl
 | cons s r ih=>
  intro d
  cases d with
  | nil=>rfl
  | cons x d=>
   have h:=ih d
   rw [Qmf]
   cases e:Qmf r d with
   | some e'=>
    rw [e]at h
    simp only [Qdl,h];rfl
   | none=>
    rw [e]at h
    simp only at h
    simp only [Qdl,h,List.map_nil,List.nil_append]
    by_cases c:x+1<s
    ·rw [if_pos c]
     rw [show(s-(x+1)).toNat=(s-(x+1+1)).toNat+1 by omega,upL,List.flatMap_cons]
     have:(binds r).map (fun z=>(x+1)::z)=((x+1)::QiU r)::(Qdl r (QiU r)).map ((x+1)::·):=by rw [Qqz r];rfl
     rw [this];rfl
    ·rw [if_neg c,show(s-(x+1)).toNat=0 by omega];rfl
theorem QsD : ∀l d:List Int,(∀(j:Nat) x s,d[j]? = some x→l[j]? = some s→¬x+1<s)→Qmf l d=none:=by
 intro l
 induction l with
 | nil=>intro d _;cases d<;>rfl
 | cons s r ih=>
  intro d h
  cases d with
  | nil=>rfl
  | cons x d=>
   rw [Qmf,ih d fun j y z h1 h2=>h (j+1) y z (by simpa using h1) (by simpa using h2)]
   simp only
   rw [if_neg (h 0 x s rfl rfl)]
theorem QwZ : ∀(k:Nat) (l d:List Int) (x s:Int),l.length=d.length→d[k]? = some x→l[k]? = some s→x+1<s→(∀(j:Nat) y z,k<j→d[j]? = some y→l[j]? = some z→¬y+1<z)→
  Qmf l d=some (d.take k++(x+1)::List.replicate (d.length-(k+1)) 0):=by
 intro k
 induction k with
 | zero=>
  intro l d x s hl hd hs hlt ha
  cases l with
  | nil=>cases hs
  | cons s' r=>
   cases d with
   | nil=>cases hd
   | cons x' d=>
    simp only [List.getElem?_cons_zero,Option.some.injEq]at hd hs
    subst hd;subst hs
    rw [Qmf,QsD r d fun j y z h1 h2=>ha (j+1) y z (by omega) (by simpa using h1) (by simpa using h2)]
    simp only
    rw [if_pos hlt]
    simp only [List.length_cons]at hl
    simp [QiU];omega
 | succ k ih=>
  intro l d x s hl hd hs hlt ha
  cases l with
  | nil=>cases hs
  | cons s' r=>
   cases d with
   | nil=>cases hd
   | cons x' d=>
    simp only [List.getElem?_cons_succ]at hd hs
    simp only [List.length_cons,Nat.add_right_cancel_iff]at hl
    rw [Qmf,ih r d x s hl hd hs hlt fun j y z h0 h1 h2=>ha (j+1) y z (by omega) (by simpa using h1) (by simpa using h2)]
    simp
def inB : List Int→List Int→Prop
 | [],[]=>True
 | s::r,x::d=>0≤x∧(x=0∨x<s)∧inB r d
 | _,_=>False
theorem Qw0 {y x:Int}{k:Nat}:y∈upL x k↔x≤y∧y<x+k:=by
 induction k generalizing x with
 | zero=>
  simp only [upL,List.not_mem_nil,false_iff];omega
 | succ k ih=>simp only [upL,List.mem_cons,ih];omega
theorem QvB {l d:List Int}:d∈binds l↔inB l d:=by
 induction l generalizing d with
 | nil=>cases d<;>simp [binds,inB]
 | cons s r ih=>
  cases d with
  | nil=>simp [binds,inB]
  | cons x d=>
   simp only [binds,List.mem_flatMap,List.mem_cons,Qw0,List.mem_map,List.cons.injEq,inB,←ih]
   constructor
   ·rintro ⟨y,h1,e,h2,rfl,rfl⟩
    exact⟨by omega,by omega,h2⟩
   ·rintro ⟨h1,h2,h3⟩
    exact⟨x,by omega,d,h3,rfl,rfl⟩
theorem Qw1 {l d:List Int}(h:inB l d):d.length=l.length:=by
 induction l generalizing d with
 | nil=>cases d with
  | nil=>rfl
  | cons x d=>exact h.elim
 | cons s r ih=>cases d with
  | nil=>exact h.elim
  | cons x d=>simp [ih h.2.2]
section
variable {α:Type}
def adv (most:Nat)(acc X:List α):List α⊕List α:=if (acc++X).length<most then .inr (acc++X)else .inl ((acc++X).take most)
theorem QnN {most:Nat}{acc:List α}(h:acc.length<most):adv most acc []=.inr acc:=by
 unfold adv
 rw [List.append_nil,if_pos h]
theorem Qwq {most:Nat}{acc X:List α}(h:acc.length=most):adv most acc X=.inl acc:=by
 unfold adv
 rw [if_neg (by simp;omega)]
 subst h
 rw [List.take_left]
theorem Qwr {most:Nat}{acc X:List α}{x:α}:adv most acc (x::X)=adv most (acc++[x]) X:=by
 unfold adv
 rw [List.append_assoc];rfl
theorem Qt6 {most:Nat}{acc X Y:List α}:adv most acc (X++Y)=match adv most acc X with
  | .inl a=>.inl a
  | .inr a=>adv most a Y:=by
 unfold adv
 by_cases c:(acc++X).length<most
 ·rw [if_pos c]
  simp only [List.append_assoc]
 ·rw [if_neg c,if_neg (by simp at c ⊢;omega),←List.append_assoc,List.take_append_of_le_length (by omega)]
theorem QvC {most:Nat}{acc X a:List α}(h:adv most acc X=.inr a):a.length<most:=by
 unfold adv at h
 split at h
 ·cases h;assumption
 ·cases h
theorem Qt7 {most:Nat}{acc X a:List α}(h:adv most acc X=.inr a):a=acc++X:=by
 unfold adv at h
 split at h
 ·cases h;rfl
 ·cases h
theorem Qws {most:Nat}{X:List α}(h:0<most):(match adv most [] X with | .inl a=>a | .inr a=>a)=X.take most:=by
 unfold adv
 rw [List.nil_append]
 by_cases c:X.length<most
 ·rw [if_pos c];simp only;rw [List.take_of_length_le (by omega)]
 ·rw [if_neg c]
end
end Go.Vm
namespace Go.Vm
open Go Go.RowKit
section
variable {M K:Type}[DecidableEq K](key:M→K)(succ:M→List M)
def hasK (out:List M)(x:M):Bool:=out.any fun y=>decide (key y=key x)
def Qb6 (most:Nat):List M→List M→List M⊕List M
 | out,[]=>.inr out
 | out,x::xs=>if hasK key out x then Qb6 most out xs else if out.length=most then .inl out else Qb6 most (out++[x]) xs
def Qhk (most:Nat):Nat→List M→Nat→List M×Bool
 | 0,out,_=>(out,true)
 | f+1,out,a=>match out[a]? with
  | none=>(out,true)
  | some x=>match Qb6 key most out (succ x)with
   | .inl o=>(o,false)
   | .inr o=>Qhk most f o (a+1)
variable {key}{succ}
theorem QuP {most:Nat}:∀{xs out o:List M},Qb6 key most out xs=.inr o→out.length≤most→(∃r,o=out++r)∧o.length≤most:=by
 intro xs
 induction xs with
 | nil=>intro out o h hl;cases h;exact⟨⟨[],by simp⟩,hl⟩
 | cons x xs ih=>
  intro out o h hl
  rw [Qb6]at h
  split at h
  ·exact ih h hl
  ·split at h
   ·cases h
   ·obtain⟨⟨r,hr⟩,h2⟩:=ih h (by simp;omega)
    exact⟨⟨x::r,by rw [hr];simp⟩,h2⟩
theorem QuQ {most:Nat}:∀{xs out o:List M},Qb6 key most out xs=.inl o→out.length≤most→(∃r,o=out++r)∧o.length=most:=by
 intro xs
 induction xs with
 | nil=>intro out o h hl;cases h
 | cons x xs ih=>
  intro out o h hl
  rw [Qb6]at h
  split at h
  ·exact ih h hl
  ·split at h
   ·cases h;exact⟨⟨[],by simp⟩,by assumption⟩
   ·obtain⟨⟨r,hr⟩,h2⟩:=ih h (by simp;omega)
    exact⟨⟨x::r,by rw [hr];simp⟩,h2⟩
def Qmg (key:M→K)(l:List M):Prop:=l.Pairwise fun a b=>key a≠key b
theorem Qmg.add {l:List M}{x:M}(h:Qmg key l)(hx:hasK key l x=false):Qmg key (l++[x]):=by
 unfold Qmg
 rw [List.pairwise_append]
 refine⟨h,List.pairwise_singleton _ _,fun a ha b hb=>?_⟩
 rw [List.mem_singleton]at hb
 subst hb
 intro e
 have:hasK key l b=true:=List.any_eq_true.2 ⟨a,ha,decide_eq_true e⟩
 rw [this]at hx;cases hx
theorem QrI {P:M→Prop}{most:Nat}:∀{xs out o:List M},(Qb6 key most out xs=.inl o∨Qb6 key most out xs=.inr o)→Qmg key out→(∀x∈out,P x)→(∀x∈xs,P x)→Qmg key o∧∀x∈o,P x:=by
 intro xs
 induction xs with
 | nil=>intro out o h ha hp _;rcases h with h | h<;>cases h;exact⟨ha,hp⟩
 | cons x xs ih=>
  intro out o h ha hp hx
  rw [Qb6]at h
  split at h
  ·exact ih h ha hp fun y hy=>hx y (List.mem_cons_of_mem _ hy)
  ·rename_i c
   split at h
   ·rcases h with h | h<;>cases h;exact⟨ha,hp⟩
   ·refine ih h (ha.add (by simpa using c)) (fun y hy=>?_) fun y hy=>hx y (List.mem_cons_of_mem _ hy)
    rcases List.mem_append.1 hy with hy | hy
    ·exact hp y hy
    ·simp at hy;subst hy;exact hx _ List.mem_cons_self
theorem QvD {P:M→Prop}(hs:∀x,P x→∀y∈succ x,P y){most:Nat}:∀(f:Nat) {out:List M} {a:Nat},out.length≤most→Qmg key out→(∀x∈out,P x)→
  (∃r,(Qhk key succ most f out a).1=out++r)∧(Qhk key succ most f out a).1.length≤most∧Qmg key (Qhk key succ most f out a).1∧∀x∈(Qhk key succ most f out a).1,P x:=by
 intro f
 induction f with
 | zero=>intro out a hl ha hp;exact⟨⟨[],by simp [Qhk]⟩,hl,ha,hp⟩
 | succ f ih=>
  intro out a hl ha hp
  rw [Qhk]
  cases ho:out[a]? with
  | none=>exact⟨⟨[],by simp⟩,hl,ha,hp⟩
  | some x=>
   simp only
   have hx:=hp x (List.mem_of_getElem? ho)
   cases e:Qb6 key most out (succ x)with
   | inl o=>
    obtain⟨h1,h2⟩:=QuQ e hl
    obtain⟨h3,h4⟩:=QrI (.inl e) ha hp (hs x hx)
    exact⟨h1,by simp only;omega,h3,h4⟩
   | inr o=>
    obtain⟨⟨r,hr⟩,h2⟩:=QuP e hl
    obtain⟨h3,h4⟩:=QrI (.inr e) ha hp (hs x hx)
    simp only
    obtain⟨⟨r2,hr2⟩,k2⟩:=ih (a:=a+1) h2 h3 h4
    exact⟨⟨r++r2,by rw [hr2,hr,List.append_assoc]⟩,k2⟩
end
end Go.Vm
noncomputable section
namespace Go.Proofs
open Go Go.RowKit Go.Vm
inductive Qc2 : Qg→Prop where
 | mk (e:Qg):e.Kids.length≤maxLen→(∀k∈e.Kids,Qc2 k)→Qc2 e
theorem Qec {e:Qg}(h:Qc2 e):lenL Qc2 e.Kids:=by
 cases h with
 | mk _ h1 h2=>exact⟨h1,h2⟩
theorem Qpy {e k:Qg}(h:k∈e.Kids):SizeOf.sizeOf k<SizeOf.sizeOf e:=by
 obtain⟨a,b,l⟩:=e
 have:=List.sizeOf_lt_of_mem h
 simp only [Qg.mk.sizeOf_spec]at *
 omega
theorem Qg.pos (e:Qg):0<SizeOf.sizeOf e:=by
 obtain⟨a,b,l⟩:=e
 simp only [Qg.mk.sizeOf_spec];omega
inductive POk (v:Int):Qg→Prop where
 | mk (e:Qg):(e.Kind=1∨e.Kind=2∨e.Kind=3∨e.Kind=4∨e.Kind=5∨e.Kind=6)→(e.Kind=2→0≤e.Num∧e.Num<v)→(e.Kind=3∨e.Kind=4→e.Kids.length=1)→(e.Kind=5→e.Kids.length=2)→(e.Kind=6→e.Kids.length=3)→(∀k∈e.Kids,POk v k)→POk v e
def QbK (x:Qy):Prop:=QfX x.Name∧True∧True∧True∧(lenL QfX) x.Names∧True∧True
def Qcq (x:Qz):Prop:=QfX x.Name∧True∧(lenL (fun _=>True)) x.First
def QdH (x:TVar):Prop:=QfX x.Name∧True
def QiV (x:TArc):Prop:=True∧Qc2 x.Expr
def Qat (x:Qr):Prop:=QfX x.Name∧(lenL QdH) x.Vars∧Qc2 x.Guard∧True∧True∧(lenL QiV) x.Ins∧(lenL QiV) x.Outs∧(lenL (fun _=>True)) x.Cancel∧True∧True
def QI (x:TNet):Prop:=(lenL QbK) x.Colours∧(lenL Qcq) x.Places∧(lenL Qat) x.Tasks∧True∧True
def QsO (x:Qae):Prop:=(lenL QbK) x.all∧(lenL (fun _=>True)) x.sizes∧True
theorem QrJ (v1:TNet)(h_v1:QI v1):TotP (QhT v1) fun r=>True:=by
 unfold QhT
 exact TotP.okT
theorem QbU (l1:(List Qz))(k2:Int)(h_l1:(lenL Qcq) l1):TotP (Qah l1 k2) fun r=>r=true→0≤k2∧k2<l1.length:=by
 unfold Qah
 exact TotP.ok (by first | (intro hr;first | (cases hr;done) | omega | ((try simp only [Bool.and_eq_true,Bool.or_eq_true,Bool.or_eq_false_iff,Bool.not_eq_true',Bool.not_eq_false',decide_eq_true_eq,decide_eq_false_iff_not,beq_iff_eq,bne_iff_ne,ne_eq,Bool.not_eq_true,Bool.not_eq_false,List.length_append,List.length_singleton,List.length_nil,List.length_drop,List.length_take,List.length_cons,Qkr,Qks,Qjf]at *);omega)) | ((try simp only [Bool.and_eq_true,Bool.or_eq_true,Bool.or_eq_false_iff,Bool.not_eq_true',Bool.not_eq_false',decide_eq_true_eq,decide_eq_false_iff_not,beq_iff_eq,bne_iff_ne,ne_eq,Bool.not_eq_true,Bool.not_eq_false,List.length_append,List.length_singleton,List.length_nil,List.length_drop,List.length_take,List.length_cons,Qkr,Qks,Qjf]at *);omega) | simp_all)
theorem QrK (v1:TNet)(h_v1:QI v1):TotP (QhU v1) fun r=>True:=by
 unfold QhU
 refine TotP.bind (P:=fun _=>True) ?_ (fun x_1 hv2=>?_)
 ·unfold Qkj
  refine TotP.bind (QbU v1.Places v1.From (h_v1.2.1)) (fun x_3 hv4=>?_)
  refine TotP.bif (fun hc5=>?_) (fun hc5=>?_)
  ·refine TotP.bind (QbU v1.Places v1.To (h_v1.2.1)) (fun x_6 hv7=>?_)
   exact TotP.okT
  ·exact TotP.okT
 unfold QfD
 exact TotP.okT
theorem QrL (v1:TNet)(h_v1:QI v1):TotP (QhV v1) fun r=>True:=by
 unfold QhV
 exact TotP.okT
theorem QrM (v1:TNet)(v2:Int)(v3:Int)(v4:Int)(h_v1:QI v1):TotP (QhW v1 v2 v3 v4) fun r=>True:=by
 unfold QhW
 refine TotP.bind (QrJ v1 (h_v1)) (fun x_1 hv2=>?_)
 refine TotP.bif (fun hc3=>?_) (fun hc3=>?_)
 ·exact TotP.okT
 ·refine TotP.bind (QrK v1 (h_v1)) (fun x_4 hv5=>?_)
  refine TotP.bif (fun hc6=>?_) (fun hc6=>?_)
  ·exact TotP.okT
  ·refine TotP.bind (QrL v1 (h_v1)) (fun x_7 hv8=>?_)
   refine TotP.bif (fun hc9=>?_) (fun hc9=>?_)
   ·exact TotP.okT
   ·exact TotP.okT
theorem QrN (lo1:Int)(hi2:Int)  : TotP (QhQ lo1 hi2) fun r=>True:=by
 unfold QhQ
 refine TotP.bif (fun hc1=>?_) (fun hc1=>?_)
 ·exact TotP.okT
 ·exact TotP.okT
theorem Ql5 (c1:Int)  : TotP (Qee c1) fun r=>True:=by
 unfold Qee
 exact TotP.okT
theorem Qk6 (s1:ByteArray)(h_s1:QfX s1):TotP (Qet s1) fun r=>True:=by
 unfold Qet
 refine TotP.bind (P:=fun _=>True) ?_ (fun x_1 hv2=>?_)
 ·unfold Qj7
  refine TotP.bif (fun hc3=>?_) (fun hc3=>?_)
  ·exact TotP.okT
  ·have hshc3:=Qvx hc3
   refine TotP.bif (fun hc4=>?_) (fun hc4=>?_)
   ·exact TotP.okT
   ·refine TotP.bind (TotP.sidx (by omega) (by omega)) (fun c_5 hv6=>?_)
    refine TotP.bind (Ql5 c_5 ) (fun x_7 hv8=>?_)
    exact TotP.okT
 unfold Qfs
 refine TotP.bif (fun hc9=>?_) (fun hc9=>?_)
 ·exact TotP.okT
 ·refine TotP.bind (TotP.up (s1.size) (fun st=>st) (fun _=>True) (Q:=fun q=>True) rfl trivial (fun i11 st hi12 hn13 hj14=>?_)) (fun q15 hq16=>?_)
  ·obtain⟨x_10,hst⟩:∃y,y=st:=⟨_,rfl⟩
   subst hst
   replace hi12:x_10=(i11:Int):=hi12
   show TotP (QdK s1 x_10) _
   unfold QdK
   refine TotP.bif (fun hc17=>?_) (fun hc17=>?_)
   ·refine TotP.bind (TotP.sidx (by omega) (by simp_all)) (fun c_18 hv19=>?_)
    refine TotP.bind (P:=fun _=>True) ?_ (fun x_20 hv21=>?_)
    ·unfold Qj8
     refine TotP.bind (Ql5 c_18 ) (fun x_22 hv23=>?_)
     refine TotP.bif (fun hc24=>?_) (fun hc24=>?_)
     ·refine TotP.bif (fun hc25=>?_) (fun hc25=>?_)
      ·exact TotP.okT
      ·refine TotP.bif (fun hc26=>?_) (fun hc26=>?_)
       ·exact TotP.okT
       ·exact TotP.okT
     ·exact TotP.okT
    unfold Qfp
    refine TotP.bif (fun hc27=>?_) (fun hc27=>?_)
    ·exact TotP.ok (Ql trivial)
    ·exact TotP.ok (Qv ⟨(by simp_all),by subst hi12;exact Qt (by simp_all) h_s1,trivial⟩)
   ·exact TotP.ok (Ql trivial)
  rcases q15 with q15 | q15
  ·show TotP (Qfq) _
   unfold Qfq
   exact TotP.okT
  ·show TotP (Qfr) _
   unfold Qfr
   exact TotP.okT
theorem QqZ (l1:(List ByteArray))(h_l1:(lenL QfX) l1):TotP (Qg0 l1) fun r=>True:=by
 unfold Qg0
 refine TotP.bind (TotP.up (l1.length) (fun st=>st.1) (fun _=>True) (Q:=fun q=>True) rfl trivial (fun i3 st hi4 hn5 hj6=>?_)) (fun q7 hq8=>?_)
 ·obtain⟨x_1,m_2⟩:=st
  replace hi4:x_1=(i3:Int):=hi4
  show TotP (Qdo l1 x_1 m_2) _
  unfold Qdo
  refine TotP.bif (fun hc9=>?_) (fun hc9=>?_)
  ·refine TotP.bind (TotP.idx (by omega) (by simp_all)) (fun e_10 hv11=>?_)
   refine TotP.bind (P:=fun _=>True) ?_ (fun x_12 hv13=>?_)
   ·unfold Qjm
    refine TotP.bind (Qk6 e_10 (((h_l1).2 e_10 hv11))) (fun x_14 hv15=>?_)
    refine TotP.bif (fun hc16=>?_) (fun hc16=>?_)
    ·exact TotP.okT
    ·exact TotP.okT
   unfold Qey
   refine TotP.bif (fun hc17=>?_) (fun hc17=>?_)
   ·exact TotP.ok (Ql trivial)
   ·exact TotP.ok (Qv ⟨(by simp_all),by subst hi4;exact Qt (by simp_all) (h_l1).1,trivial⟩)
  ·exact TotP.ok (Ql trivial)
 rcases q7 with q7 | q7
 ·show TotP (Qez) _
  unfold Qez
  exact TotP.okT
 ·show TotP (QeA) _
  unfold QeA
  exact TotP.okT
theorem QrO (c1:Qy)(ahead2:(List Int))(h_c1:QbK c1)(h_ahead2:(lenL (fun _=>True)) ahead2):TotP (QhR c1 ahead2) fun r=>True:=by
 unfold QhR
 refine TotP.bif (fun hc1=>?_) (fun hc1=>?_)
 ·refine TotP.bind (QrN c1.Lo c1.Hi ) (fun x_2 hv3=>?_)
  exact TotP.okT
 ·refine TotP.bif (fun hc4=>?_) (fun hc4=>?_)
  ·refine TotP.bind (QqZ c1.Names (h_c1.2.2.2.2.1)) (fun x_5 hv6=>?_)
   refine TotP.bif (fun hc7=>?_) (fun hc7=>?_)
   ·exact TotP.okT
   ·unfold QbY
    exact TotP.okT
  ·refine TotP.bif (fun hc8=>?_) (fun hc8=>?_)
   ·refine TotP.bif (fun hc9=>?_) (fun hc9=>?_)
    ·refine TotP.bind (TotP.idx (by(try simp only [Bool.and_eq_true,Bool.or_eq_true,Bool.or_eq_false_iff,Bool.not_eq_true',Bool.not_eq_false',decide_eq_true_eq,decide_eq_false_iff_not,beq_iff_eq,bne_iff_ne,ne_eq,Bool.not_eq_true,Bool.not_eq_false,List.length_append,List.length_singleton,List.length_nil,List.length_drop,List.length_take,List.length_cons,Qkr,Qks,Qjf]at *);omega) (by(try simp only [Bool.and_eq_true,Bool.or_eq_true,Bool.or_eq_false_iff,Bool.not_eq_true',Bool.not_eq_false',decide_eq_true_eq,decide_eq_false_iff_not,beq_iff_eq,bne_iff_ne,ne_eq,Bool.not_eq_true,Bool.not_eq_false,List.length_append,List.length_singleton,List.length_nil,List.length_drop,List.length_take,List.length_cons,Qkr,Qks,Qjf]at *);omega)) (fun e_10 hv11=>?_)
     refine TotP.bind (TotP.idx (by(try simp only [Bool.and_eq_true,Bool.or_eq_true,Bool.or_eq_false_iff,Bool.not_eq_true',Bool.not_eq_false',decide_eq_true_eq,decide_eq_false_iff_not,beq_iff_eq,bne_iff_ne,ne_eq,Bool.not_eq_true,Bool.not_eq_false,List.length_append,List.length_singleton,List.length_nil,List.length_drop,List.length_take,List.length_cons,Qkr,Qks,Qjf]at *);omega) (by(try simp only [Bool.and_eq_true,Bool.or_eq_true,Bool.or_eq_false_iff,Bool.not_eq_true',Bool.not_eq_false',decide_eq_true_eq,decide_eq_false_iff_not,beq_iff_eq,bne_iff_ne,ne_eq,Bool.not_eq_true,Bool.not_eq_false,List.length_append,List.length_singleton,List.length_nil,List.length_drop,List.length_take,List.length_cons,Qkr,Qks,Qjf]at *);omega)) (fun e_12 hv13=>?_)
     exact TotP.okT
    ·unfold QbY
     exact TotP.okT
   ·unfold QbY
    exact TotP.okT
theorem QmQ (l1:(List Qy))(h_l1:(lenL QbK) l1):TotP (Qe6 l1) fun r=>((lenL (fun _=>True)) r.1∧True)∧(r.2=true→r.1.length=l1.length∧∀x∈r.1,1≤x∧x≤1024):=by
 unfold Qe6
 refine TotP.bif (fun hc=>TotP.ok ⟨⟨lenL.nil,trivial⟩,fun h=>by cases h⟩) (fun hc=>?_)
 have hl:l1.length≤32:=by simp only [decide_eq_false_iff_not]at hc;omega
 refine TotP.bind (TotP.up l1.length (fun st=>st.1) (fun st=>(st.2.2.length:Int)=st.1∧∀x∈st.2.2,1≤x∧x≤1024) (Q:=fun q=>∀l,q=.inr l→l.length=l1.length∧∀x∈l,1≤x∧x≤1024) rfl ⟨rfl,fun x h=>(by cases h)⟩ (fun i st hi hn hj=>?_)) (fun q hq=>?_)
 ·obtain⟨x,m,l⟩:=st
  replace hi:x=(i:Int):=hi
  replace hj:(l.length:Int)=x∧∀x∈l,1≤x∧x≤1024:=hj
  obtain⟨hj,hj2⟩:=hj
  show TotP (Qdp l1 x m l) _
  unfold Qdp
  refine TotP.bif (fun hc2=>?_) (fun hc2=>?_)
  ·simp only [decide_eq_true_eq]at hc2
   refine TotP.bind (TotP.idx (by omega) (by omega)) fun e he=>?_
   refine TotP.bind (QrO e l (h_l1.2 e he) ⟨by unfold maxLen;omega,fun _ _=>trivial⟩) fun y _=>?_
   refine TotP.bind (P:=fun z=>z=false→1≤y∧y≤1024) ?_ fun z hz=>?_
   ·unfold Qjn
    refine TotP.bind (Qk6 e.Name (h_l1.2 e he).1) fun z _=>?_
    refine TotP.bif (fun _=>TotP.ok (fun h=>by cases h)) fun _=>TotP.bif (fun _=>TotP.ok (fun h=>by cases h)) fun _=>TotP.bif (fun _=>TotP.ok (fun h=>by cases h)) fun h1=>TotP.ok fun h2=>?_
    simp only [decide_eq_false_iff_not]at h1 h2
    omega
   unfold QeB
   refine TotP.bif (fun _=>TotP.ok (Ql fun l h=>by cases h)) fun hz0=>?_
   refine TotP.bind (TotP.chk (by simp;omega)) fun _ _=>?_
   exact TotP.ok (Qv ⟨by omega,by subst hi;exact Qt (by omega) (by unfold maxLen;omega:l1.length≤maxLen),by simp only [List.length_append,List.length_singleton];subst hi;rw [Qt (show i<l1.length by omega) (by unfold maxLen;omega)];omega,fun u hu=>by
    rcases List.mem_append.1 hu with hu | hu
    ·exact hj2 u hu
    ·simp at hu;subst hu;exact hz hz0⟩)
  ·simp only [decide_eq_false_iff_not]at hc2
   exact TotP.ok (Ql fun l' h=>by cases h;exact⟨by omega,hj2⟩)
 ·rcases q with q | q
  ·exact TotP.ok ⟨⟨lenL.nil,trivial⟩,fun h=>by cases h⟩
  ·have:=hq q rfl
   exact TotP.ok ⟨⟨⟨by show q.length≤maxLen;unfold maxLen;omega,fun _ _=>trivial⟩,trivial⟩,fun _=>this⟩
theorem Qq0 (l1:(List Qy))(h_l1:(lenL QbK) l1):TotP (Qg8 l1) fun r=>True:=by
 unfold Qg8
 refine TotP.bind (QmQ l1 (h_l1)) (fun x_1 hv2=>?_)
 exact TotP.okT
theorem QnO (v1:TNet)(v2:Int)(h_v1:QI v1)(hp0:0≤v2)(hp1:v2<v1.Colours.length):TotP (QdA v1 v2) fun r=>True:=by
 have hl:=h_v1.1.1
 unfold maxLen at hl
 unfold QdA
 rw [Qck (show -9223372036854775808≤v2+1∧v2+1≤9223372036854775807 by omega)]
 refine TotP.bind (TotP.chk (by simp only [Bool.and_eq_true,decide_eq_true_eq];omega)) fun _ _=>?_
 exact TotP.bind (Qq0 _ ((h_v1.1.drop _).take _)) fun x _=>TotP.okT
def QrP : List ByteArray:=(Qf8).getD []
set_option maxRecDepth 100000 in
theorem Qwt : Qf8=some QrP:=by kernel_rfl
set_option maxRecDepth 100000 in
theorem QtZ : (decide (QrP.length≤1000)&&QrP.all fun s=>decide (s.size≤1000))=true:=by kernel_rfl
theorem QrQ : TotP (Qf8) fun r=>lenL QfX r:=by
 have h:=QtZ
 rw [Bool.and_eq_true,decide_eq_true_iff,List.all_eq_true]at h
 refine⟨QrP,Qwt,by unfold maxLen;omega,fun x hx=>?_⟩
 have:=h.2 x hx
 rw [decide_eq_true_iff]at this
 unfold QfX maxLen;omega
theorem Qk7 (s1:(List ByteArray))(v2:ByteArray)(h_s1:(lenL QfX) s1)(h_v2:QfX v2):TotP (Qbn s1 v2) fun r=>True:=by
 unfold Qbn
 refine TotP.bind (TotP.up (s1.length) (fun st=>st) (fun _=>True) (Q:=fun q=>True) rfl trivial (fun i2 st hi3 hn4 hj5=>?_)) (fun q6 hq7=>?_)
 ·obtain⟨x_1,hst⟩:∃y,y=st:=⟨_,rfl⟩
  subst hst
  replace hi3:x_1=(i2:Int):=hi3
  show TotP (Qas s1 v2 x_1) _
  unfold Qas
  refine TotP.bif (fun hc8=>?_) (fun hc8=>?_)
  ·refine TotP.bind (TotP.idx (by omega) (by simp_all)) (fun e_9 hv10=>?_)
   refine TotP.bif (fun hc11=>?_) (fun hc11=>?_)
   ·exact TotP.ok (Ql trivial)
   ·exact TotP.ok (Qv ⟨(by simp_all),by subst hi3;exact Qt (by simp_all) (h_s1).1,trivial⟩)
  ·exact TotP.ok (Ql trivial)
 rcases q6 with q6 | q6
 ·show TotP (QaS q6) _
  unfold QaS
  exact TotP.okT
 ·show TotP (QaT) _
  unfold QaT
  exact TotP.okT
theorem QjP (s1:(List ByteArray))(v2:ByteArray)(h_s1:(lenL QfX) s1)(h_v2:QfX v2):TotP (QaU s1 v2) fun r=>True:=by
 unfold QaU
 refine TotP.bind (Qk7 s1 v2 (h_s1) (h_v2)) (fun x_1 hv2=>?_)
 exact TotP.okT
theorem Qsi (s1:ByteArray)(h_s1:QfX s1):TotP (QiQ s1) fun r=>True:=by
 unfold QiQ
 refine TotP.bind (QrQ  ) (fun x_1 hv2=>?_)
 refine TotP.bind (QjP x_1 s1 (hv2) (h_s1)) (fun x_3 hv4=>?_)
 exact TotP.okT
theorem Qhl (s1:ByteArray)(h_s1:QfX s1):TotP (Qdh s1) fun r=>True:=by
 unfold Qdh
 refine TotP.bind (P:=fun _=>True) ?_ (fun x_1 hv2=>?_)
 ·unfold QkZ
  refine TotP.bind (Qk6 s1 (h_s1)) (fun x_3 hv4=>?_)
  refine TotP.bif (fun hc5=>?_) (fun hc5=>?_)
  ·refine TotP.bind (Qsi s1 (h_s1)) (fun x_6 hv7=>?_)
   exact TotP.okT
  ·exact TotP.okT
 unfold Qgm
 exact TotP.okT
theorem Qm3 (s1:ByteArray)(h_s1:QfX s1):TotP (QcW s1) fun r=>True:=by
 unfold QcW
 refine TotP.bind (Qhl s1 (h_s1)) (fun x_1 hv2=>?_)
 exact TotP.okT
theorem Qjy (s1:(List ByteArray))(h_s1:(lenL QfX) s1):TotP (QaN s1) fun r=>True:=by
 unfold QaN
 refine TotP.bind (TotP.up (s1.length) (fun st=>st) (fun _=>True) (Q:=fun q=>True) rfl trivial (fun i2 st hi3 hn4 hj5=>?_)) (fun q6 hq7=>?_)
 ·obtain⟨x_1,hst⟩:∃y,y=st:=⟨_,rfl⟩
  subst hst
  replace hi3:x_1=(i2:Int):=hi3
  show TotP (Q4 s1 x_1) _
  unfold Q4
  refine TotP.bif (fun hc8=>?_) (fun hc8=>?_)
  ·refine TotP.bind (TotP.idx (by omega) (by simp_all)) (fun e_9 hv10=>?_)
   refine TotP.bind (Qm3 e_9 (((h_s1).2 e_9 hv10))) (fun x_11 hv12=>?_)
   refine TotP.bif (fun hc13=>?_) (fun hc13=>?_)
   ·exact TotP.ok (Ql trivial)
   ·exact TotP.ok (Qv ⟨(by simp_all),by subst hi3;exact Qt (by simp_all) (h_s1).1,trivial⟩)
  ·exact TotP.ok (Ql trivial)
 rcases q6 with q6 | q6
 ·show TotP (Qax q6) _
  unfold Qax
  exact TotP.okT
 ·show TotP (Qay) _
  unfold Qay
  exact TotP.okT
theorem Qiy (s1:(List ByteArray))(h_s1:(lenL QfX) s1):TotP (Qaz s1) fun r=>True:=by
 unfold Qaz
 refine TotP.bind (Qjy s1 (h_s1)) (fun x_1 hv2=>?_)
 exact TotP.okT
theorem QnP (v1:Qy)(h_v1:QbK v1):TotP (QdB v1) fun r=>True:=by
 unfold QdB
 refine TotP.bind (P:=fun _=>True) ?_ (fun x_1 hv2=>?_)
 ·unfold QgI
  refine TotP.bind (Qhl v1.Name (h_v1.1)) (fun x_3 hv4=>?_)
  refine TotP.bif (fun hc5=>?_) (fun hc5=>?_)
  ·refine TotP.bif (fun hc6=>?_) (fun hc6=>?_)
   ·exact TotP.okT
   ·refine TotP.bind (Qiy v1.Names (h_v1.2.2.2.2.1)) (fun x_7 hv8=>?_)
    exact TotP.okT
  ·exact TotP.okT
 unfold Qcz
 exact TotP.okT
theorem Qpz (v1:TNet)(v2:Int)(v3:Int)(v4:Qy)(v5:Int)(h_v1:QI v1)(h_v4:QbK v4)(hp0:0≤v2)(hp1:v2<v1.Colours.length):TotP (QfE v1 v2 v3 v4 v5) fun r=>True:=by
 unfold QfE
 refine TotP.bind (QnO v1 v2 (h_v1) (by omega) (by omega)) (fun x_1 hv2=>?_)
 refine TotP.bif (fun hc3=>?_) (fun hc3=>?_)
 ·exact TotP.okT
 ·refine TotP.bind (QnP v4 (h_v4)) (fun x_4 hv5=>?_)
  refine TotP.bif (fun hc6=>?_) (fun hc6=>?_)
  ·exact TotP.okT
  ·exact TotP.okT
theorem QoU (k1:Int)(c2:Qy)(v3:TNet)(h_c2:QbK c2)(h_v3:QI v3)(hp0:0≤k1)(hp1:k1<v3.Colours.length):TotP (QeN k1 c2 v3) fun r=>True:=by
 unfold QeN
 refine TotP.bind (Qpz v3 k1 8 c2 8 (h_v3) (h_c2) (by omega) (by omega)) (fun x_1 hv2=>?_)
 exact TotP.okT
theorem Qmh (l1:(List Qy))(v2:TNet)(h_l1:(lenL QbK) l1)(h_v2:QI v2)(hp0:l1.length≤v2.Colours.length):TotP (Qcf l1 v2) fun r=>True:=by
 unfold Qcf
 refine TotP.bind (TotP.up (l1.length) (fun st=>st) (fun _=>True) (Q:=fun q=>True) rfl trivial (fun i2 st hi3 hn4 hj5=>?_)) (fun q6 hq7=>?_)
 ·obtain⟨x_1,hst⟩:∃y,y=st:=⟨_,rfl⟩
  subst hst
  replace hi3:x_1=(i2:Int):=hi3
  show TotP (QaW l1 v2 x_1) _
  unfold QaW
  refine TotP.bif (fun hc8=>?_) (fun hc8=>?_)
  ·refine TotP.bind (TotP.idx (by omega) (by simp_all)) (fun e_9 hv10=>?_)
   refine TotP.bind (QoU x_1 e_9 v2 (((h_l1).2 e_9 hv10)) (h_v2) (by omega) (by simp_all;omega)) (fun x_11 hv12=>?_)
   refine TotP.bif (fun hc13=>?_) (fun hc13=>?_)
   ·exact TotP.ok (Ql trivial)
   ·exact TotP.ok (Qv ⟨(by simp_all),by subst hi3;exact Qt (by simp_all) (h_l1).1,trivial⟩)
  ·exact TotP.ok (Ql trivial)
 rcases q6 with q6 | q6
 ·show TotP (QbD q6.1 q6.2) _
  unfold QbD
  exact TotP.okT
 ·show TotP (QbE) _
  unfold QbE
  exact TotP.okT
theorem Ql6 (n1:TNet)(h_n1:QI n1):TotP (Qel n1) fun r=>True:=by
 unfold Qel
 refine TotP.bind (Qmh n1.Colours n1 (h_n1.1) (h_n1) (by omega)) (fun x_1 hv2=>?_)
 exact TotP.okT
theorem Qqh (v1:Qz)(h_v1:Qcq v1):TotP (Qgo v1) fun r=>True:=by
 unfold Qgo
 refine TotP.bind (Qhl v1.Name (h_v1.1)) (fun x_1 hv2=>?_)
 exact TotP.okT
theorem Qqi (p1:Qz)(v2:Qz)(h_p1:Qcq p1)(h_v2:Qcq v2):TotP (Qgp p1 v2) fun r=>True:=by
 unfold Qgp
 exact TotP.okT
theorem QhM (s1:(List Qz))(v2:Qz)(h_s1:(lenL Qcq) s1)(h_v2:Qcq v2):TotP (Qai s1 v2) fun r=>True:=by
 unfold Qai
 refine TotP.bind (TotP.up (s1.length) (fun st=>st) (fun _=>True) (Q:=fun q=>True) rfl trivial (fun i2 st hi3 hn4 hj5=>?_)) (fun q6 hq7=>?_)
 ·obtain⟨x_1,hst⟩:∃y,y=st:=⟨_,rfl⟩
  subst hst
  replace hi3:x_1=(i2:Int):=hi3
  show TotP (QR s1 v2 x_1) _
  unfold QR
  refine TotP.bif (fun hc8=>?_) (fun hc8=>?_)
  ·refine TotP.bind (TotP.idx (by omega) (by simp_all)) (fun e_9 hv10=>?_)
   refine TotP.bind (Qqi e_9 v2 (((h_s1).2 e_9 hv10)) (h_v2)) (fun x_11 hv12=>?_)
   refine TotP.bif (fun hc13=>?_) (fun hc13=>?_)
   ·exact TotP.ok (Ql trivial)
   ·exact TotP.ok (Qv ⟨(by simp_all),by subst hi3;exact Qt (by simp_all) (h_s1).1,trivial⟩)
  ·exact TotP.ok (Ql trivial)
 rcases q6 with q6 | q6
 ·show TotP (Q1 q6) _
  unfold Q1
  exact TotP.okT
 ·show TotP (Q2) _
  unfold Q2
  exact TotP.okT
theorem QgL (s1:(List Qz))(v2:Qz)(h_s1:(lenL Qcq) s1)(h_v2:Qcq v2):TotP (Q3 s1 v2) fun r=>True:=by
 unfold Q3
 refine TotP.bind (QhM s1 v2 (h_s1) (h_v2)) (fun x_1 hv2=>?_)
 exact TotP.okT
theorem Qqj (v1:TNet)(v2:Int)(v3:Qz)(h_v1:QI v1)(h_v3:Qcq v3)(hp0:0≤v2)(hp1:v2<v1.Places.length):TotP (Qgq v1 v2 v3) fun r=>True:=by
 unfold Qgq
 refine TotP.bind (TotP.chk (by simp_all;omega)) (fun _ _=>?_)
 refine TotP.bind (QgL ((v1.Places.drop 0).take (v2.toNat-0)) v3 (((h_v1.2.1).drop _).take _) (h_v3)) (fun x_1 hv2=>?_)
 exact TotP.okT
theorem Qh3 (l1:(List Qy))(k2:Int)(h_l1:(lenL QbK) l1):TotP (Qbo l1 k2) fun r=>True:=by
 unfold Qbo
 exact TotP.okT
theorem Qqk (v1:TNet)(v2:Qz)(h_v1:QI v1)(h_v2:Qcq v2):TotP (Qgr v1 v2) fun r=>True:=by
 unfold Qgr
 refine TotP.bind (Qh3 v1.Colours v2.Colour (h_v1.1)) (fun x_1 hv2=>?_)
 exact TotP.okT
theorem QsP (b1:(List (Int×Int)))(h_b1:(lenL (fun _=>True)) b1):TotP (Qc6 b1) fun r=>True:=by
 unfold Qc6
 refine TotP.bind (TotP.up (b1.length) (fun st=>st.2) (fun _=>True) (Q:=fun q=>True) rfl trivial (fun i3 st hi4 hn5 hj6=>?_)) (fun q7 hq8=>?_)
 ·obtain⟨last_1,x_2⟩:=st
  replace hi4:x_2=(i3:Int):=hi4
  show TotP (Qbj b1 last_1 x_2) _
  unfold Qbj
  refine TotP.bif (fun hc9=>?_) (fun hc9=>?_)
  ·refine TotP.bind (TotP.idx (by omega) (by simp_all)) (fun e_10 hv11=>?_)
   refine TotP.bif (fun hc12=>?_) (fun hc12=>?_)
   ·exact TotP.ok (Ql trivial)
   ·exact TotP.ok (Qv ⟨(by simp_all),by subst hi4;exact Qt (by simp_all) (h_b1).1,trivial⟩)
  ·exact TotP.ok (Ql trivial)
 rcases q7 with q7 | q7
 ·show TotP (QgY) _
  unfold QgY
  exact TotP.okT
 ·show TotP (QgZ) _
  unfold QgZ
  exact TotP.okT
theorem Qql (v1:Qz)(h_v1:Qcq v1):TotP (Qgs v1) fun r=>True:=by
 unfold Qgs
 refine TotP.bind (QsP v1.First (h_v1.2.2)) (fun x_1 hv2=>?_)
 exact TotP.okT
theorem Qh4 (l1:(List Qy))(k2:Int)(h_l1:(lenL QbK) l1):TotP (QdS l1 k2) fun r=>(True∧QsO r.2)∧(r.1=true→(0≤k2∧k2<r.2.sizes.length)∧r.2.k=k2∧r.2.all.length=r.2.sizes.length∧∀x∈r.2.sizes,1≤x∧x≤1024):=by
 unfold QdS
 refine TotP.bind (QmQ l1 h_l1) fun x hx=>?_
 refine TotP.bif (fun _=>TotP.ok ⟨⟨trivial,lenL.nil,lenL.nil,trivial⟩,fun h=>by cases h⟩) fun hc=>?_
 simp only [Bool.or_eq_false_iff,Bool.not_eq_false',decide_eq_false_iff_not]at hc
 have:=hx.2 hc.1
 exact TotP.ok ⟨⟨trivial,h_l1,hx.1.1,trivial⟩,fun _=>⟨⟨by omega,by show k2<(x.1.length:Int);omega⟩,rfl,this.1.symm,this.2⟩⟩
theorem Qdm (l1:(List Qy))(k2:Int)(h_l1:(lenL QbK) l1):TotP (QaD l1 k2) fun r=>0≤r∧r≤1024:=by
 unfold QaD
 refine TotP.bind (Qh4 l1 k2 h_l1) (fun x hx=>?_)
 refine TotP.bif (fun hc=>TotP.ok (by omega)) (fun hc=>?_)
 have h:=hx.2 (by simpa using hc)
 exact TotP.bind (TotP.idx (by omega) (by omega)) fun e he=>TotP.ok (by have:=h.2.2.2 e he;omega)
theorem QoV (row1:(Int×Int))(v2:Int)  : TotP (QeO row1 v2) fun r=>True:=by
 unfold QeO
 exact TotP.okT
theorem Qjz (s1:(List (Int×Int)))(v2:Int)(h_s1:(lenL (fun _=>True)) s1):TotP (QaO s1 v2) fun r=>True:=by
 unfold QaO
 refine TotP.bind (TotP.up (s1.length) (fun st=>st) (fun _=>True) (Q:=fun q=>True) rfl trivial (fun i2 st hi3 hn4 hj5=>?_)) (fun q6 hq7=>?_)
 ·obtain⟨x_1,hst⟩:∃y,y=st:=⟨_,rfl⟩
  subst hst
  replace hi3:x_1=(i2:Int):=hi3
  show TotP (Q5 s1 v2 x_1) _
  unfold Q5
  refine TotP.bif (fun hc8=>?_) (fun hc8=>?_)
  ·refine TotP.bind (TotP.idx (by omega) (by simp_all)) (fun e_9 hv10=>?_)
   refine TotP.bind (QoV e_9 v2 ) (fun x_11 hv12=>?_)
   refine TotP.bif (fun hc13=>?_) (fun hc13=>?_)
   ·exact TotP.ok (Ql trivial)
   ·exact TotP.ok (Qv ⟨(by simp_all),by subst hi3;exact Qt (by simp_all) (h_s1).1,trivial⟩)
  ·exact TotP.ok (Ql trivial)
 rcases q6 with q6 | q6
 ·show TotP (QaA q6) _
  unfold QaA
  exact TotP.okT
 ·show TotP (QaB) _
  unfold QaB
  exact TotP.okT
theorem Qiz (s1:(List (Int×Int)))(v2:Int)(h_s1:(lenL (fun _=>True)) s1):TotP (QaC s1 v2) fun r=>True:=by
 unfold QaC
 refine TotP.bind (Qjz s1 v2 (h_s1)) (fun x_1 hv2=>?_)
 exact TotP.okT
theorem Qqm (v1:TNet)(v2:Qz)(h_v1:QI v1)(h_v2:Qcq v2):TotP (Qgt v1 v2) fun r=>True:=by
 unfold Qgt
 refine TotP.bind (Qdm v1.Colours v2.Colour (h_v1.1)) (fun x_1 hv2=>?_)
 refine TotP.bind (Qiz v2.First x_1 (h_v2.2.2)) (fun x_3 hv4=>?_)
 exact TotP.okT
theorem QpA (v1:Qz)(v2:Int)(v3:TNet)(v4:Int)(v5:Int)(v6:Int)(v7:Int)(v8:Int)(h_v1:Qcq v1)(h_v3:QI v3)(hp0:0≤v4)(hp1:v4<v3.Places.length):TotP (QfF v1 v2 v3 v4 v5 v6 v7 v8) fun r=>True:=by
 unfold QfF
 refine TotP.bind (Qqh v1 (h_v1)) (fun x_1 hv2=>?_)
 refine TotP.bif (fun hc3=>?_) (fun hc3=>?_)
 ·exact TotP.okT
 ·refine TotP.bind (Qqj v3 v4 v1 (h_v3) (h_v1) (by omega) (by omega)) (fun x_4 hv5=>?_)
  refine TotP.bif (fun hc6=>?_) (fun hc6=>?_)
  ·exact TotP.okT
  ·refine TotP.bind (Qqk v3 v1 (h_v3) (h_v1)) (fun x_7 hv8=>?_)
   refine TotP.bif (fun hc9=>?_) (fun hc9=>?_)
   ·exact TotP.okT
   ·refine TotP.bind (Qql v1 (h_v1)) (fun x_10 hv11=>?_)
    refine TotP.bif (fun hc12=>?_) (fun hc12=>?_)
    ·exact TotP.okT
    ·refine TotP.bind (Qqm v3 v1 (h_v3) (h_v1)) (fun x_13 hv14=>?_)
     refine TotP.bif (fun hc15=>?_) (fun hc15=>?_)
     ·exact TotP.okT
     ·exact TotP.okT
theorem QrR (n1:TNet)(k2:Int)(h_n1:QI n1):TotP (QhX n1 k2) fun r=>True:=by
 unfold QhX
 refine TotP.bind (QbU n1.Places k2 (h_n1.2.1)) (fun x_1 hv2=>?_)
 refine TotP.bif (fun hc3=>?_) (fun hc3=>?_)
 ·exact TotP.okT
 ·refine TotP.bind (TotP.idx (by simp_all) (by simp_all)) (fun e_4 hv5=>?_)
  refine TotP.bind (QpA e_4 1 n1 k2 5 3 1 8 (((h_n1.2.1).2 e_4 hv5)) (h_n1) (by simp_all) (by simp_all)) (fun x_6 hv7=>?_)
  exact TotP.okT
theorem QrS (k1:Int)(p2:Qz)(v3:TNet)(h_p2:Qcq p2)(h_v3:QI v3):TotP (QhY k1 p2 v3) fun r=>True:=by
 unfold QhY
 refine TotP.bind (QrR v3 k1 (h_v3)) (fun x_1 hv2=>?_)
 exact TotP.okT
theorem QmR (l1:(List Qz))(v2:TNet)(h_l1:(lenL Qcq) l1)(h_v2:QI v2):TotP (QcA l1 v2) fun r=>True:=by
 unfold QcA
 refine TotP.bind (TotP.up (l1.length) (fun st=>st) (fun _=>True) (Q:=fun q=>True) rfl trivial (fun i2 st hi3 hn4 hj5=>?_)) (fun q6 hq7=>?_)
 ·obtain⟨x_1,hst⟩:∃y,y=st:=⟨_,rfl⟩
  subst hst
  replace hi3:x_1=(i2:Int):=hi3
  show TotP (Qa7 l1 v2 x_1) _
  unfold Qa7
  refine TotP.bif (fun hc8=>?_) (fun hc8=>?_)
  ·refine TotP.bind (TotP.idx (by omega) (by simp_all)) (fun e_9 hv10=>?_)
   refine TotP.bind (QrS x_1 e_9 v2 (((h_l1).2 e_9 hv10)) (h_v2)) (fun x_11 hv12=>?_)
   refine TotP.bif (fun hc13=>?_) (fun hc13=>?_)
   ·exact TotP.ok (Ql trivial)
   ·exact TotP.ok (Qv ⟨(by simp_all),by subst hi3;exact Qt (by simp_all) (h_l1).1,trivial⟩)
  ·exact TotP.ok (Ql trivial)
 rcases q6 with q6 | q6
 ·show TotP (QbS q6.1 q6.2) _
  unfold QbS
  exact TotP.okT
 ·show TotP (QbT) _
  unfold QbT
  exact TotP.okT
theorem QiW (l1:(List Qr))(k2:Int)(h_l1:(lenL Qat) l1):TotP (QaJ l1 k2) fun r=>r=true→0≤k2∧k2<l1.length:=by
 unfold QaJ
 exact TotP.ok (by first | (intro hr;first | (cases hr;done) | omega | ((try simp only [Bool.and_eq_true,Bool.or_eq_true,Bool.or_eq_false_iff,Bool.not_eq_true',Bool.not_eq_false',decide_eq_true_eq,decide_eq_false_iff_not,beq_iff_eq,bne_iff_ne,ne_eq,Bool.not_eq_true,Bool.not_eq_false,List.length_append,List.length_singleton,List.length_nil,List.length_drop,List.length_take,List.length_cons,Qkr,Qks,Qjf]at *);omega)) | ((try simp only [Bool.and_eq_true,Bool.or_eq_true,Bool.or_eq_false_iff,Bool.not_eq_true',Bool.not_eq_false',decide_eq_true_eq,decide_eq_false_iff_not,beq_iff_eq,bne_iff_ne,ne_eq,Bool.not_eq_true,Bool.not_eq_false,List.length_append,List.length_singleton,List.length_nil,List.length_drop,List.length_take,List.length_cons,Qkr,Qks,Qjf]at *);omega) | simp_all)
theorem QrT (v1:Int)(v2:TNet)(v3:Qr)(h_v2:QI v2)(h_v3:Qat v3):TotP (QhZ v1 v2 v3) fun r=>True:=by
 unfold QhZ
 exact TotP.okT
theorem QpB (v1:Int)(v2:TNet)(v3:Qr)(v4:Int)(h_v2:QI v2)(h_v3:Qat v3):TotP (QfG v1 v2 v3 v4) fun r=>True:=by
 unfold QfG
 exact TotP.okT
theorem QpC (v1:Int)(v2:TNet)(v3:Qr)(v4:Int)(h_v2:QI v2)(h_v3:Qat v3):TotP (QfH v1 v2 v3 v4) fun r=>True:=by
 unfold QfH
 exact TotP.okT
theorem QpD (v1:Int)(v2:TNet)(v3:Qr)(h_v2:QI v2)(h_v3:Qat v3):TotP (QfI v1 v2 v3) fun r=>True:=by
 unfold QfI
 exact TotP.okT
theorem Qq1 (v1:Qr)(h_v1:Qat v1):TotP (Qg9 v1) fun r=>True:=by
 unfold Qg9
 refine TotP.bind (Qhl v1.Name (h_v1.1)) (fun x_1 hv2=>?_)
 exact TotP.okT
theorem Qq2 (p1:Qr)(v2:Qr)(h_p1:Qat p1)(h_v2:Qat v2):TotP (Qha p1 v2) fun r=>True:=by
 unfold Qha
 exact TotP.okT
theorem Qil (s1:(List Qr))(v2:Qr)(h_s1:(lenL Qat) s1)(h_v2:Qat v2):TotP (Qau s1 v2) fun r=>True:=by
 unfold Qau
 refine TotP.bind (TotP.up (s1.length) (fun st=>st) (fun _=>True) (Q:=fun q=>True) rfl trivial (fun i2 st hi3 hn4 hj5=>?_)) (fun q6 hq7=>?_)
 ·obtain⟨x_1,hst⟩:∃y,y=st:=⟨_,rfl⟩
  subst hst
  replace hi3:x_1=(i2:Int):=hi3
  show TotP (QU s1 v2 x_1) _
  unfold QU
  refine TotP.bif (fun hc8=>?_) (fun hc8=>?_)
  ·refine TotP.bind (TotP.idx (by omega) (by simp_all)) (fun e_9 hv10=>?_)
   refine TotP.bind (Qq2 e_9 v2 (((h_s1).2 e_9 hv10)) (h_v2)) (fun x_11 hv12=>?_)
   refine TotP.bif (fun hc13=>?_) (fun hc13=>?_)
   ·exact TotP.ok (Ql trivial)
   ·exact TotP.ok (Qv ⟨(by simp_all),by subst hi3;exact Qt (by simp_all) (h_s1).1,trivial⟩)
  ·exact TotP.ok (Ql trivial)
 rcases q6 with q6 | q6
 ·show TotP (Qaa q6) _
  unfold Qaa
  exact TotP.okT
 ·show TotP (Qab) _
  unfold Qab
  exact TotP.okT
theorem Qho (s1:(List Qr))(v2:Qr)(h_s1:(lenL Qat) s1)(h_v2:Qat v2):TotP (Qac s1 v2) fun r=>True:=by
 unfold Qac
 refine TotP.bind (Qil s1 v2 (h_s1) (h_v2)) (fun x_1 hv2=>?_)
 exact TotP.okT
theorem Qq3 (v1:TNet)(v2:Int)(v3:Qr)(h_v1:QI v1)(h_v3:Qat v3)(hp0:0≤v2)(hp1:v2<v1.Tasks.length):TotP (Qhc v1 v2 v3) fun r=>True:=by
 unfold Qhc
 refine TotP.bind (TotP.chk (by simp_all;omega)) (fun _ _=>?_)
 refine TotP.bind (Qho ((v1.Tasks.drop 0).take (v2.toNat-0)) v3 (((h_v1.2.2.1).drop _).take _) (h_v3)) (fun x_1 hv2=>?_)
 exact TotP.okT
theorem Qq4 (v1:Int)(v2:Qr)(h_v2:Qat v2):TotP (Qfh v1 v2) fun r=>True:=by
 unfold Qfh
 exact TotP.okT
theorem Qm4 (v1:TVar)(h_v1:QdH v1):TotP (QcX v1) fun r=>True:=by
 unfold QcX
 refine TotP.bind (Qhl v1.Name (h_v1.1)) (fun x_1 hv2=>?_)
 exact TotP.okT
theorem Qm5 (p1:TVar)(v2:TVar)(h_p1:QdH p1)(h_v2:QdH v2):TotP (QcY p1 v2) fun r=>True:=by
 unfold QcY
 exact TotP.okT
theorem QiX (s1:(List TVar))(v2:TVar)(h_s1:(lenL QdH) s1)(h_v2:QdH v2):TotP (QaF s1 v2) fun r=>True:=by
 unfold QaF
 refine TotP.bind (TotP.up (s1.length) (fun st=>st) (fun _=>True) (Q:=fun q=>True) rfl trivial (fun i2 st hi3 hn4 hj5=>?_)) (fun q6 hq7=>?_)
 ·obtain⟨x_1,hst⟩:∃y,y=st:=⟨_,rfl⟩
  subst hst
  replace hi3:x_1=(i2:Int):=hi3
  show TotP (QX s1 v2 x_1) _
  unfold QX
  refine TotP.bif (fun hc8=>?_) (fun hc8=>?_)
  ·refine TotP.bind (TotP.idx (by omega) (by simp_all)) (fun e_9 hv10=>?_)
   refine TotP.bind (Qm5 e_9 v2 (((h_s1).2 e_9 hv10)) (h_v2)) (fun x_11 hv12=>?_)
   refine TotP.bif (fun hc13=>?_) (fun hc13=>?_)
   ·exact TotP.ok (Ql trivial)
   ·exact TotP.ok (Qv ⟨(by simp_all),by subst hi3;exact Qt (by simp_all) (h_s1).1,trivial⟩)
  ·exact TotP.ok (Ql trivial)
 rcases q6 with q6 | q6
 ·show TotP (Qam q6) _
  unfold Qam
  exact TotP.okT
 ·show TotP (Qan) _
  unfold Qan
  exact TotP.okT
theorem Qh5 (s1:(List TVar))(v2:TVar)(h_s1:(lenL QdH) s1)(h_v2:QdH v2):TotP (Qao s1 v2) fun r=>True:=by
 unfold Qao
 refine TotP.bind (QiX s1 v2 (h_s1) (h_v2)) (fun x_1 hv2=>?_)
 exact TotP.okT
theorem Qm6 (v1:(List TVar))(v2:Int)(v3:TVar)(h_v1:(lenL QdH) v1)(h_v3:QdH v3)(hp0:0≤v2)(hp1:v2<v1.length):TotP (QcZ v1 v2 v3) fun r=>True:=by
 unfold QcZ
 refine TotP.bind (TotP.chk (by simp_all;omega)) (fun _ _=>?_)
 refine TotP.bind (Qh5 ((v1.drop 0).take (v2.toNat-0)) v3 (((h_v1).drop _).take _) (h_v3)) (fun x_1 hv2=>?_)
 exact TotP.okT
theorem Qm7 (v1:TNet)(v2:TVar)(h_v1:QI v1)(h_v2:QdH v2):TotP (Qc0 v1 v2) fun r=>True:=by
 unfold Qc0
 refine TotP.bind (Qh3 v1.Colours v2.Colour (h_v1.1)) (fun x_1 hv2=>?_)
 exact TotP.okT
theorem QpE (v1:TVar)(v2:Int)(v3:(List TVar))(v4:Int)(v5:Int)(v6:TNet)(v7:Int)(h_v1:QdH v1)(h_v3:(lenL QdH) v3)(h_v6:QI v6)(hp0:0≤v4)(hp1:v4<v3.length):TotP (QfJ v1 v2 v3 v4 v5 v6 v7) fun r=>True:=by
 unfold QfJ
 refine TotP.bind (Qm4 v1 (h_v1)) (fun x_1 hv2=>?_)
 refine TotP.bif (fun hc3=>?_) (fun hc3=>?_)
 ·exact TotP.okT
 ·refine TotP.bind (Qm6 v3 v4 v1 (h_v3) (h_v1) (by omega) (by omega)) (fun x_4 hv5=>?_)
  refine TotP.bif (fun hc6=>?_) (fun hc6=>?_)
  ·exact TotP.okT
  ·refine TotP.bind (Qm7 v6 v1 (h_v6) (h_v1)) (fun x_7 hv8=>?_)
   refine TotP.bif (fun hc9=>?_) (fun hc9=>?_)
   ·exact TotP.okT
   ·exact TotP.okT
theorem QnQ (k1:Int)(v2:TVar)(v3:(List TVar))(v4:TNet)(h_v2:QdH v2)(h_v3:(lenL QdH) v3)(h_v4:QI v4)(hp0:0≤k1)(hp1:k1<v3.length):TotP (QdC k1 v2 v3 v4) fun r=>True:=by
 unfold QdC
 refine TotP.bind (QpE v2 1 v3 k1 5 v4 3 (h_v2) (h_v3) (h_v4) (by omega) (by omega)) (fun x_1 hv2=>?_)
 exact TotP.okT
theorem QnA (l1:(List TVar))(v2:(List TVar))(v3:TNet)(h_l1:(lenL QdH) l1)(h_v2:(lenL QdH) v2)(h_v3:QI v3)(hp0:l1.length≤v2.length):TotP (Qdi l1 v2 v3) fun r=>True:=by
 unfold Qdi
 refine TotP.bind (TotP.up (l1.length) (fun st=>st) (fun _=>True) (Q:=fun q=>True) rfl trivial (fun i2 st hi3 hn4 hj5=>?_)) (fun q6 hq7=>?_)
 ·obtain⟨x_1,hst⟩:∃y,y=st:=⟨_,rfl⟩
  subst hst
  replace hi3:x_1=(i2:Int):=hi3
  show TotP (Qbv l1 v2 v3 x_1) _
  unfold Qbv
  refine TotP.bif (fun hc8=>?_) (fun hc8=>?_)
  ·refine TotP.bind (TotP.idx (by omega) (by simp_all)) (fun e_9 hv10=>?_)
   refine TotP.bind (QnQ x_1 e_9 v2 v3 (((h_l1).2 e_9 hv10)) (h_v2) (h_v3) (by omega) (by simp_all;omega)) (fun x_11 hv12=>?_)
   refine TotP.bif (fun hc13=>?_) (fun hc13=>?_)
   ·exact TotP.ok (Ql trivial)
   ·exact TotP.ok (Qv ⟨(by simp_all),by subst hi3;exact Qt (by simp_all) (h_l1).1,trivial⟩)
  ·exact TotP.ok (Ql trivial)
 rcases q6 with q6 | q6
 ·show TotP (Qcg q6.1 q6.2) _
  unfold Qcg
  exact TotP.okT
 ·show TotP (Qch) _
  unfold Qch
  exact TotP.okT
theorem QoW (n1:TNet)(l2:(List TVar))(h_n1:QI n1)(h_l2:(lenL QdH) l2):TotP (QeP n1 l2) fun r=>True:=by
 unfold QeP
 refine TotP.bind (QnA l2 l2 n1 (h_l2) (h_l2) (h_n1) (by omega)) (fun x_1 hv2=>?_)
 exact TotP.okT
theorem Qq5 (v1:TNet)(v2:Qr)(h_v1:QI v1)(h_v2:Qat v2):TotP (Qhd v1 v2) fun r=>True:=by
 unfold Qhd
 refine TotP.bind (QoW v1 v2.Vars (h_v1) (h_v2.2.1)) (fun x_1 hv2=>?_)
 exact TotP.okT
theorem Qqn (v1:TNet)(v2:Qr)(v3:Int)(h_v1:QI v1)(h_v2:Qat v2):TotP (Qem v1 v2 v3) fun r=>True:=by
 unfold Qem
 refine TotP.bind (Qq5 v1 v2 (h_v1) (h_v2)) (fun x_1 hv2=>?_)
 exact TotP.okT
theorem Qni (n1:TNet)(k2:Int)(h_n1:QI n1):TotP (Qb7 n1 k2) fun r=>True:=by
 unfold Qb7
 refine TotP.bind (QiW n1.Tasks k2 (h_n1.2.2.1)) (fun x_1 hv2=>?_)
 refine TotP.bif (fun hc3=>?_) (fun hc3=>?_)
 ·exact TotP.okT
 ·refine TotP.bind (TotP.idx (by simp_all) (by simp_all)) (fun e_4 hv5=>?_)
  refine TotP.bind (TotP.up (e_4.Vars.length) (fun st=>st.2) (fun _=>True) (Q:=fun q=>True) rfl trivial (fun i8 st hi9 hn10 hj11=>?_)) (fun q12 hq13=>?_)
  ·obtain⟨out_6,x_7⟩:=st
   replace hi9:x_7=(i8:Int):=hi9
   show TotP (Qb3 e_4 n1 out_6 x_7) _
   unfold Qb3
   refine TotP.bif (fun hc14=>?_) (fun hc14=>?_)
   ·refine TotP.bind (TotP.idx (by omega) (by simp_all)) (fun e_15 hv16=>?_)
    refine TotP.bind (Qdm n1.Colours e_15.Colour (h_n1.1)) (fun x_17 hv18=>?_)
    refine TotP.bif (fun hc19=>?_) (fun hc19=>?_)
    ·exact TotP.ok (Ql trivial)
    ·exact TotP.ok (Qv ⟨(by simp_all),by subst hi9;exact Qt (by simp_all) (((h_n1.2.2.1).2 e_4 hv5).2.1).1,trivial⟩)
   ·exact TotP.ok (Ql trivial)
  rcases q12 with q12 | q12
  ·show TotP (QfK) _
   unfold QfK
   exact TotP.okT
  ·show TotP (QfL q12) _
   unfold QfL
   exact TotP.okT
theorem Qq6 (v1:TNet)(v2:Int)(h_v1:QI v1):TotP (Qfi v1 v2) fun r=>True:=by
 unfold Qfi
 refine TotP.bind (Qni v1 v2 (h_v1)) (fun x_1 hv2=>?_)
 exact TotP.okT
theorem QsQ (kind1:Int):TotP (QjE kind1) fun r=>0≤r→(kind1=1∨kind1=2∨kind1=3∨kind1=4∨kind1=5∨kind1=6)∧(kind1=3∨kind1=4→r=1)∧(kind1=5→r=2)∧(kind1=6→r=3):=by
 unfold QjE
 refine TotP.bif (fun hc=>?_) (fun hc=>?_)
 ·unfold Qe9;rw [hc]
  simp only [beq_iff_eq]at hc
  exact TotP.ok (by omega)
 ·simp only [beq_eq_false_iff_ne]at hc
  unfold Qe9
  refine TotP.bif (fun hc=>TotP.ok (by simp only [beq_iff_eq]at hc;omega)) (fun hc2=>?_)
  simp only [beq_eq_false_iff_ne]at hc2
  refine TotP.bif (fun hc3=>?_) (fun hc3=>?_)
  ·unfold Qe8;rw [hc3]
   simp only [beq_iff_eq]at hc3
   exact TotP.ok (by omega)
  ·simp only [beq_eq_false_iff_ne]at hc3
   unfold Qe8
   refine TotP.bif (fun hc=>TotP.ok (by simp only [beq_iff_eq]at hc;omega)) (fun hc4=>?_)
   simp only [beq_eq_false_iff_ne]at hc4
   refine TotP.bif (fun hc=>TotP.ok (by simp only [beq_iff_eq]at hc;omega)) (fun hc5=>?_)
   simp only [beq_eq_false_iff_ne]at hc5
   exact TotP.bif (fun hc=>TotP.ok (by simp only [beq_iff_eq]at hc;omega)) (fun hc6=>TotP.ok (by omega))
theorem Qsj (op1:Int)  : TotP (QiH op1) fun r=>True:=by
 unfold QiH
 exact TotP.okT
theorem Qls (rec_:Qg→Int→Option Bool)(s1:List Qg)(v2:Int)(h1:s1.length≤maxLen)(h:∀k∈s1,TotP (rec_ k v2) fun r=>r=true→POk v2 k):TotP (Q9 rec_ s1 v2) fun r=>r=false→∀k∈s1,POk v2 k:=by
 unfold Q9 Qa1
 refine TotP.bind (P:=fun x=>x<0→∀k∈s1,POk v2 k) ?_ fun x hx=>TotP.ok fun h=>hx (by simp only [decide_eq_false_iff_not]at h;omega)
 refine TotP.bind (TotP.up s1.length (fun st=>st) (fun st=>∀(j:Nat) k,(j:Int)<st→s1[j]? = some k→POk v2 k) (Q:=fun q=>(∀x,q=.inl x→0≤x)∧(q=.inr ()→∀k∈s1,POk v2 k)) rfl (fun j k hj=>by omega) (fun i st hi hn hj=>?_)) (fun q hq=>?_)
 ·show TotP (QT s1 rec_ v2 st) _
  unfold QT Qi8
  refine TotP.bif (fun hc=>?_) (fun hc=>TotP.ok (Ql ⟨fun x h=>(by cases h),fun _ k hk=>by
   obtain⟨j,hj1,hj2⟩:=List.mem_iff_getElem.1 hk
   simp only [decide_eq_false_iff_not]at hc
   exact hj j k (by omega) (by rw [List.getElem?_eq_getElem hj1,hj2])⟩))
  simp only [decide_eq_true_eq]at hc
  rw [Qib (by omega)]
  have hlt:st.toNat<s1.length:=by omega
  rw [List.getElem?_eq_getElem hlt]
  refine TotP.bind (P:=fun k=>k=s1[st.toNat]) (TotP.ok rfl) fun k hk=>?_
  subst hk
  refine TotP.bind (P:=fun r=>r=false→POk v2 s1[st.toNat]) (TotP.bind (h _ (List.getElem_mem hlt)) fun x hx=>TotP.ok fun h=>hx (by simpa using h)) fun x hx=>?_
  refine TotP.bif (fun _=>TotP.ok (Ql ⟨fun x h=>(by cases h;omega),fun h=>(by cases h)⟩)) fun hxf=>TotP.ok (Qv ⟨by omega,by rw [hi];exact Qt (by omega) h1,?_⟩)
  rw [hi,Qt (show i<s1.length by omega) h1]
  intro j k hj' hk
  by_cases c:j=i
  ·subst c
   have e:st.toNat=j:=by omega
   have:=hx hxf
   rw [List.getElem?_eq_getElem (by omega)]at hk
   cases hk
   simpa only [e] using this
  ·exact hj j k (by omega) hk
 ·rcases q with q | q
  ·exact TotP.ok fun h=>absurd (hq.1 q rfl) (by omega)
  ·exact TotP.ok fun _=>hq.2 rfl
theorem QmS : ∀(n:Nat) (e:Qg) (v:Int),Qc2 e→SizeOf.sizeOf e≤n→TotP (QdM n e v) fun r=>r=true→POk v e
 | 0,e,_,_,h=>absurd e.pos (by omega)
 | n+1,e,v,he,h=>by
  unfold QdM Qi9
  refine TotP.bind (QsQ e.Kind) fun x hx=>?_
  refine TotP.bif (fun _=>TotP.ok fun h=>by cases h) fun h1=>TotP.bif (fun _=>TotP.ok fun h=>by cases h) fun h2=>?_
  refine TotP.bind (P:=fun _=>True) ?_ fun y _=>?_
  ·unfold QkD
   exact TotP.bif (fun _=>TotP.bind (Qsj e.Num) fun x _=>TotP.okT) fun _=>TotP.okT
  ·unfold Qgd
   refine TotP.bif (fun _=>TotP.ok fun h=>by cases h) fun _=>?_
   refine TotP.bind (Qls (QdM n) e.Kids v (Qec he).1 fun k hk=>QmS n k v ((Qec he).2 k hk) (by have:=Qpy hk;omega)) fun x hx2=>TotP.ok fun hx3=>?_
   simp only [bne_eq_false_iff_eq]at h1
   have h3:=hx (by omega)
   simp only [Bool.and_eq_false_iff,Bool.or_eq_false_iff,decide_eq_false_iff_not,beq_eq_false_iff_ne]at h2
   exact .mk e h3.1 (fun hk=>by omega) (fun hk=>by have:=h3.2.1 hk;omega) (fun hk=>by have:=h3.2.2.1 hk;omega) (fun hk=>by have:=h3.2.2.2 hk;omega) (hx2 (by simpa using hx3))
theorem Qsk (e1:Qg)(vars2:Int)(h_e1:Qc2 e1):TotP (Qmw e1 vars2) fun r=>r=true→POk vars2 e1:=QmS _ e1 vars2 h_e1 (Nat.le_refl _)
theorem QmT : ∀(n:Nat) (e:Qg),Qc2 e→SizeOf.sizeOf e≤n→TotP (QdL n e) fun _=>True
 | 0,e,_,h=>absurd e.pos (by omega)
 | n+1,e,he,h=>by
  unfold QdL Qi6
  refine TotP.bind (TotP.up e.Kids.length (fun st=>st.2) (fun _=>True) (Q:=fun _=>True) rfl trivial (fun i st hi hn _=>?_)) (fun q _=>?_)
  ·obtain⟨a,x⟩:=st
   replace hi:x=(i:Int):=hi
   show TotP (Qef e (QdL n) a x) _
   unfold Qef
   refine TotP.bif (fun hc=>?_) (fun hc=>?_)
   ·simp only [decide_eq_true_eq]at hc
    refine TotP.bind (TotP.idx (by omega) (by omega)) fun k hk=>?_
    have:=Qpy hk
    refine TotP.bind (QmT n k ((Qec he).2 k hk) (by omega)) fun d _=>?_
    exact TotP.ok (Qv ⟨by omega,by subst hi;exact Qt (by omega) (Qec he).1,trivial⟩)
   ·exact TotP.ok (Ql trivial)
  ·unfold Qiq
   exact TotP.okT
theorem Qsl (e1:Qg)(h_e1:Qc2 e1):TotP (Qmu e1) fun _=>True:=QmT _ e1 h_e1 (Nat.le_refl _)
theorem Qnj : ∀(n:Nat) (e:Qg),Qc2 e→SizeOf.sizeOf e≤n→TotP (Qeu n e) fun _=>True
 | 0,e,_,h=>absurd e.pos (by omega)
 | n+1,e,he,h=>by
  unfold Qeu QjS
  refine TotP.bind (TotP.up e.Kids.length (fun st=>st.2) (fun _=>True) (Q:=fun _=>True) rfl trivial (fun i st hi hn _=>?_)) (fun q _=>?_)
  ·obtain⟨a,x⟩:=st
   replace hi:x=(i:Int):=hi
   show TotP (Qe7 e (Qeu n) a x) _
   unfold Qe7
   refine TotP.bif (fun hc=>?_) (fun hc=>?_)
   ·simp only [decide_eq_true_eq]at hc
    refine TotP.bind (TotP.idx (by omega) (by omega)) fun k hk=>?_
    have:=Qpy hk
    refine TotP.bind (Qnj n k ((Qec he).2 k hk) (by omega)) fun d _=>?_
    exact TotP.ok (Qv ⟨by omega,by subst hi;exact Qt (by omega) (Qec he).1,trivial⟩)
   ·exact TotP.ok (Ql trivial)
  ·unfold Qi7
   exact TotP.okT
theorem QsR (e1:Qg)(h_e1:Qc2 e1):TotP (Qnp e1) fun _=>True:=Qnj _ e1 h_e1 (Nat.le_refl _)
theorem Qlt (e1:Qg)(vars2:Int)(h_e1:Qc2 e1):TotP (Qft e1 vars2) fun r=>r=true→POk vars2 e1:=by
 unfold Qft
 refine TotP.bind (P:=fun r=>r=true→POk vars2 e1) ?_ (fun x hx=>TotP.ok hx)
 unfold QkE
 refine TotP.bind (Qsl e1 h_e1) (fun x _=>?_)
 refine TotP.bif (fun _=>?_) (fun _=>TotP.ok fun h=>by cases h)
 refine TotP.bind (QsR e1 h_e1) (fun x _=>?_)
 refine TotP.bif (fun _=>?_) (fun _=>TotP.ok fun h=>by cases h)
 exact TotP.bind (Qsk e1 vars2 h_e1) (fun x hx=>TotP.ok hx)
theorem Qq7 (v1:Qr)(v2:Int)(h_v1:Qat v1):TotP (Qhe v1 v2) fun r=>True:=by
 unfold Qhe
 refine TotP.bind (P:=fun _=>True) ?_ (fun x_1 hv2=>?_)
 ·unfold Qjx
  refine TotP.bind (Qlt v1.Guard v2 (h_v1.2.2.1)) (fun x_3 hv4=>?_)
  refine TotP.bif (fun hc5=>?_) (fun hc5=>?_)
  ·refine TotP.bif (fun hc6=>?_) (fun hc6=>?_)
   ·exact TotP.okT
   ·exact TotP.okT
  ·exact TotP.okT
 unfold QeQ
 exact TotP.okT
theorem QpF (v1:TNet)(v2:TArc)(h_v1:QI v1)(h_v2:QiV v2):TotP (QfM v1 v2) fun r=>True:=by
 unfold QfM
 refine TotP.bind (QbU v1.Places v2.Place (h_v1.2.1)) (fun x_1 hv2=>?_)
 exact TotP.okT
theorem QpG (v1:TArc)(v2:Int)(h_v1:QiV v1):TotP (QfN v1 v2) fun r=>True:=by
 unfold QfN
 refine TotP.bind (Qlt v1.Expr v2 (h_v1.2)) (fun x_1 hv2=>?_)
 exact TotP.okT
theorem QpH (v1:TNet)(v2:TArc)(v3:Int)(v4:Int)(v5:Int)(h_v1:QI v1)(h_v2:QiV v2):TotP (QfO v1 v2 v3 v4 v5) fun r=>True:=by
 unfold QfO
 refine TotP.bind (QpF v1 v2 (h_v1) (h_v2)) (fun x_1 hv2=>?_)
 refine TotP.bif (fun hc3=>?_) (fun hc3=>?_)
 ·exact TotP.okT
 ·refine TotP.bind (QpG v2 v4 (h_v2)) (fun x_4 hv5=>?_)
  refine TotP.bif (fun hc6=>?_) (fun hc6=>?_)
  ·exact TotP.okT
  ·exact TotP.okT
theorem Qq8 (p1:Int)(a2:TArc)(v3:TNet)(v4:Int)(h_a2:QiV a2)(h_v3:QI v3):TotP (Qhf p1 a2 v3 v4) fun r=>True:=by
 unfold Qhf
 refine TotP.bind (QpH v3 a2 3 v4 1 (h_v3) (h_a2)) (fun x_1 hv2=>?_)
 exact TotP.okT
theorem QnB (l1:(List TArc))(v2:TNet)(v3:Int)(h_l1:(lenL QiV) l1)(h_v2:QI v2):TotP (Qdj l1 v2 v3) fun r=>True:=by
 unfold Qdj
 refine TotP.bind (TotP.up (l1.length) (fun st=>st) (fun _=>True) (Q:=fun q=>True) rfl trivial (fun i2 st hi3 hn4 hj5=>?_)) (fun q6 hq7=>?_)
 ·obtain⟨x_1,hst⟩:∃y,y=st:=⟨_,rfl⟩
  subst hst
  replace hi3:x_1=(i2:Int):=hi3
  show TotP (Qbw l1 v2 v3 x_1) _
  unfold Qbw
  refine TotP.bif (fun hc8=>?_) (fun hc8=>?_)
  ·refine TotP.bind (TotP.idx (by omega) (by simp_all)) (fun e_9 hv10=>?_)
   refine TotP.bind (Qq8 x_1 e_9 v2 v3 (((h_l1).2 e_9 hv10)) (h_v2)) (fun x_11 hv12=>?_)
   refine TotP.bif (fun hc13=>?_) (fun hc13=>?_)
   ·exact TotP.ok (Ql trivial)
   ·exact TotP.ok (Qv ⟨(by simp_all),by subst hi3;exact Qt (by simp_all) (h_l1).1,trivial⟩)
  ·exact TotP.ok (Ql trivial)
 rcases q6 with q6 | q6
 ·show TotP (Qci q6.1 q6.2) _
  unfold Qci
  exact TotP.okT
 ·show TotP (Qcj) _
  unfold Qcj
  exact TotP.okT
theorem QnR (n1:TNet)(l2:(List TArc))(vars3:Int)(h_n1:QI n1)(h_l2:(lenL QiV) l2):TotP (Qhg n1 l2 vars3) fun r=>True:=by
 unfold Qhg
 refine TotP.bind (QnB l2 n1 vars3 (h_l2) (h_n1)) (fun x_1 hv2=>?_)
 exact TotP.okT
theorem Qq9 (v1:TNet)(v2:Qr)(v3:Int)(h_v1:QI v1)(h_v2:Qat v2):TotP (Qhh v1 v2 v3) fun r=>True:=by
 unfold Qhh
 refine TotP.bind (QnR v1 v2.Ins v3 (h_v1) (h_v2.2.2.2.2.2.1)) (fun x_1 hv2=>?_)
 exact TotP.okT
theorem Qox (v1:TNet)(v2:Qr)(v3:Int)(v4:Int)(h_v1:QI v1)(h_v2:Qat v2):TotP (Qd9 v1 v2 v3 v4) fun r=>True:=by
 unfold Qd9
 refine TotP.bind (Qq9 v1 v2 v3 (h_v1) (h_v2)) (fun x_1 hv2=>?_)
 exact TotP.okT
theorem Qra (v1:TNet)(v2:Qr)(v3:Int)(h_v1:QI v1)(h_v2:Qat v2):TotP (Qhi v1 v2 v3) fun r=>True:=by
 unfold Qhi
 refine TotP.bind (QnR v1 v2.Outs v3 (h_v1) (h_v2.2.2.2.2.2.2.1)) (fun x_1 hv2=>?_)
 exact TotP.okT
theorem Qoy (v1:TNet)(v2:Qr)(v3:Int)(v4:Int)(h_v1:QI v1)(h_v2:Qat v2):TotP (Qea v1 v2 v3 v4) fun r=>True:=by
 unfold Qea
 refine TotP.bind (Qra v1 v2 v3 (h_v1) (h_v2)) (fun x_1 hv2=>?_)
 exact TotP.okT
theorem QnS (v1:TNet)(v2:Int)(h_v1:QI v1):TotP (QdD v1 v2) fun r=>True:=by
 unfold QdD
 refine TotP.bind (QbU v1.Places v2 (h_v1.2.1)) (fun x_1 hv2=>?_)
 exact TotP.okT
theorem QmU (s1:(List Int))(v2:Int)(h_s1:(lenL (fun _=>True)) s1):TotP (Qcw s1 v2) fun r=>True:=by
 unfold Qcw
 refine TotP.bind (TotP.up (s1.length) (fun st=>st) (fun _=>True) (Q:=fun q=>True) rfl trivial (fun i2 st hi3 hn4 hj5=>?_)) (fun q6 hq7=>?_)
 ·obtain⟨x_1,hst⟩:∃y,y=st:=⟨_,rfl⟩
  subst hst
  replace hi3:x_1=(i2:Int):=hi3
  show TotP (Qa6 s1 v2 x_1) _
  unfold Qa6
  refine TotP.bif (fun hc8=>?_) (fun hc8=>?_)
  ·refine TotP.bind (TotP.idx (by omega) (by simp_all)) (fun e_9 hv10=>?_)
   refine TotP.bif (fun hc11=>?_) (fun hc11=>?_)
   ·exact TotP.ok (Ql trivial)
   ·exact TotP.ok (Qv ⟨(by simp_all),by subst hi3;exact Qt (by simp_all) (h_s1).1,trivial⟩)
  ·exact TotP.ok (Ql trivial)
 rcases q6 with q6 | q6
 ·show TotP (QbP q6) _
  unfold QbP
  exact TotP.okT
 ·show TotP (QbQ) _
  unfold QbQ
  exact TotP.okT
theorem Qht (s1:(List Int))(v2:Int)(h_s1:(lenL (fun _=>True)) s1):TotP (QaG s1 v2) fun r=>True:=by
 unfold QaG
 refine TotP.bind (QmU s1 v2 (h_s1)) (fun x_1 hv2=>?_)
 exact TotP.okT
theorem QnT (v1:(List Int))(v2:Int)(v3:Int)(h_v1:(lenL (fun _=>True)) v1)(hp0:0≤v2)(hp1:v2<v1.length):TotP (QdE v1 v2 v3) fun r=>True:=by
 unfold QdE
 refine TotP.bind (TotP.chk (by simp_all;omega)) (fun _ _=>?_)
 refine TotP.bind (Qht ((v1.drop 0).take (v2.toNat-0)) v3 (((h_v1).drop _).take _)) (fun x_1 hv2=>?_)
 exact TotP.okT
theorem QpI (v1:TNet)(v2:Int)(v3:Int)(v4:(List Int))(v5:Int)(v6:Int)(h_v1:QI v1)(h_v4:(lenL (fun _=>True)) v4)(hp0:0≤v5)(hp1:v5<v4.length):TotP (QfP v1 v2 v3 v4 v5 v6) fun r=>True:=by
 unfold QfP
 refine TotP.bind (QnS v1 v2 (h_v1)) (fun x_1 hv2=>?_)
 refine TotP.bif (fun hc3=>?_) (fun hc3=>?_)
 ·exact TotP.okT
 ·refine TotP.bind (QnT v4 v5 v2 (h_v4) (by omega) (by omega)) (fun x_4 hv5=>?_)
  refine TotP.bif (fun hc6=>?_) (fun hc6=>?_)
  ·exact TotP.okT
  ·exact TotP.okT
theorem QoX (k1:Int)(place2:Int)(v3:TNet)(v4:(List Int))(h_v3:QI v3)(h_v4:(lenL (fun _=>True)) v4)(hp0:0≤k1)(hp1:k1<v4.length):TotP (QeR k1 place2 v3 v4) fun r=>True:=by
 unfold QeR
 refine TotP.bind (QpI v3 place2 3 v4 k1 5 (h_v3) (h_v4) (by omega) (by omega)) (fun x_1 hv2=>?_)
 exact TotP.okT
theorem QpJ (l1:(List Int))(v2:TNet)(v3:(List Int))(h_l1:(lenL (fun _=>True)) l1)(h_v2:QI v2)(h_v3:(lenL (fun _=>True)) v3)(hp0:l1.length≤v3.length):TotP (QfQ l1 v2 v3) fun r=>True:=by
 unfold QfQ
 refine TotP.bind (TotP.up (l1.length) (fun st=>st) (fun _=>True) (Q:=fun q=>True) rfl trivial (fun i2 st hi3 hn4 hj5=>?_)) (fun q6 hq7=>?_)
 ·obtain⟨x_1,hst⟩:∃y,y=st:=⟨_,rfl⟩
  subst hst
  replace hi3:x_1=(i2:Int):=hi3
  show TotP (Qct l1 v2 v3 x_1) _
  unfold Qct
  refine TotP.bif (fun hc8=>?_) (fun hc8=>?_)
  ·refine TotP.bind (TotP.idx (by omega) (by simp_all)) (fun e_9 hv10=>?_)
   refine TotP.bind (QoX x_1 e_9 v2 v3 (h_v2) (h_v3) (by omega) (by simp_all;omega)) (fun x_11 hv12=>?_)
   refine TotP.bif (fun hc13=>?_) (fun hc13=>?_)
   ·exact TotP.ok (Ql trivial)
   ·exact TotP.ok (Qv ⟨(by simp_all),by subst hi3;exact Qt (by simp_all) (h_l1).1,trivial⟩)
  ·exact TotP.ok (Ql trivial)
 rcases q6 with q6 | q6
 ·show TotP (QdF q6.1 q6.2) _
  unfold QdF
  exact TotP.okT
 ·show TotP (QdG) _
  unfold QdG
  exact TotP.okT
theorem Qqo (n1:TNet)(l2:(List Int))(h_n1:QI n1)(h_l2:(lenL (fun _=>True)) l2):TotP (Qgu n1 l2) fun r=>True:=by
 unfold Qgu
 refine TotP.bind (QpJ l2 n1 l2 (h_l2) (h_n1) (h_l2) (by omega)) (fun x_1 hv2=>?_)
 exact TotP.okT
theorem Qqp (v1:TNet)(v2:Qr)(h_v1:QI v1)(h_v2:Qat v2):TotP (Qgv v1 v2) fun r=>True:=by
 unfold Qgv
 refine TotP.bind (Qqo v1 v2.Cancel (h_v1) (h_v2.2.2.2.2.2.2.2.1)) (fun x_1 hv2=>?_)
 exact TotP.okT
theorem Qoz (v1:TNet)(v2:Qr)(v3:Int)(h_v1:QI v1)(h_v2:Qat v2):TotP (Qeb v1 v2 v3) fun r=>True:=by
 unfold Qeb
 refine TotP.bind (Qqp v1 v2 (h_v1) (h_v2)) (fun x_1 hv2=>?_)
 exact TotP.okT
theorem Ql7 (k1:Int)(l2:(List TArc))(h_l2:(lenL QiV) l2):TotP (Qen k1 l2) fun r=>True:=by
 unfold Qen
 exact TotP.okT
theorem QrU (t1:Qr)(h_t1:Qat t1):TotP (Qh1 t1) fun r=>True:=by
 unfold Qh1
 refine TotP.bind (P:=fun _=>True) ?_ (fun x_1 hv2=>?_)
 ·unfold Qkl
  refine TotP.bind (Ql7 t1.Join t1.Ins (h_t1.2.2.2.2.2.1)) (fun x_3 hv4=>?_)
  refine TotP.bif (fun hc5=>?_) (fun hc5=>?_)
  ·refine TotP.bind (Ql7 t1.Split t1.Outs (h_t1.2.2.2.2.2.2.1)) (fun x_6 hv7=>?_)
   refine TotP.bif (fun hc8=>?_) (fun hc8=>?_)
   ·refine TotP.bif (fun hc9=>?_) (fun hc9=>?_)
    ·refine TotP.bif (fun hc10=>?_) (fun hc10=>?_)
     ·exact TotP.okT
     ·exact TotP.okT
    ·exact TotP.okT
   ·exact TotP.okT
  ·exact TotP.okT
 unfold QfR
 exact TotP.okT
theorem Qqq (v1:Qr)(h_v1:Qat v1):TotP (Qgw v1) fun r=>True:=by
 unfold Qgw
 refine TotP.bind (QrU v1 (h_v1)) (fun x_1 hv2=>?_)
 exact TotP.okT
theorem QpK (v1:Qr)(v2:Int)(v3:TNet)(v4:Int)(v5:Int)(v6:Int)(v7:Int)(v8:Int)(v9:Int)(v10:Int)(v11:Int)(v12:Int)(v13:Int)(v14:Int)(v15:Int)(h_v1:Qat v1)(h_v3:QI v3)(hp0:0≤v4)(hp1:v4<v3.Tasks.length):TotP (QcQ v1 v2 v3 v4 v5 v6 v7 v8 v9 v10 v11 v12 v13 v14 v15) fun r=>True:=by
 unfold QcQ
 refine TotP.bind (Qq1 v1 (h_v1)) (fun x_1 hv2=>?_)
 refine TotP.bif (fun hc3=>?_) (fun hc3=>?_)
 ·exact TotP.okT
 ·refine TotP.bind (Qq3 v3 v4 v1 (h_v3) (h_v1) (by omega) (by omega)) (fun x_4 hv5=>?_)
  refine TotP.bif (fun hc6=>?_) (fun hc6=>?_)
  ·exact TotP.okT
  ·refine TotP.bind (Qq4 v6 v1 (h_v1)) (fun x_7 hv8=>?_)
   refine TotP.bif (fun hc9=>?_) (fun hc9=>?_)
   ·exact TotP.okT
   ·refine TotP.bind (Qqn v3 v1 v8 (h_v3) (h_v1)) (fun x_10 hv11=>?_)
    refine TotP.bif (fun hc12=>?_) (fun hc12=>?_)
    ·exact TotP.okT
    ·refine TotP.bind (Qq6 v3 v4 (h_v3)) (fun x_13 hv14=>?_)
     refine TotP.bif (fun hc15=>?_) (fun hc15=>?_)
     ·exact TotP.okT
     ·refine TotP.bind (Qq7 v1 v6 (h_v1)) (fun x_16 hv17=>?_)
      refine TotP.bif (fun hc18=>?_) (fun hc18=>?_)
      ·exact TotP.okT
      ·refine TotP.bind (Qox v3 v1 v6 x_10.2 (h_v3) (h_v1)) (fun x_19 hv20=>?_)
       refine TotP.bif (fun hc21=>?_) (fun hc21=>?_)
       ·exact TotP.okT
       ·refine TotP.bind (Qoy v3 v1 v6 x_19.2 (h_v3) (h_v1)) (fun x_22 hv23=>?_)
        refine TotP.bif (fun hc24=>?_) (fun hc24=>?_)
        ·exact TotP.okT
        ·refine TotP.bind (Qoz v3 v1 x_22.2 (h_v3) (h_v1)) (fun x_25 hv26=>?_)
         refine TotP.bif (fun hc27=>?_) (fun hc27=>?_)
         ·exact TotP.okT
         ·refine TotP.bind (Qqq v1 (h_v1)) (fun x_28 hv29=>?_)
          refine TotP.bif (fun hc30=>?_) (fun hc30=>?_)
          ·exact TotP.okT
          ·exact TotP.okT
theorem QnU (n1:TNet)(k2:Int)(h_n1:QI n1):TotP (Qbp n1 k2) fun r=>True:=by
 unfold Qbp
 refine TotP.bind (QiW n1.Tasks k2 (h_n1.2.2.1)) (fun x_1 hv2=>?_)
 refine TotP.bif (fun hc3=>?_) (fun hc3=>?_)
 ·exact TotP.okT
 ·refine TotP.bind (Ql6 n1 (h_n1)) (fun x_4 hv5=>?_)
  refine TotP.bif (fun hc6=>?_) (fun hc6=>?_)
  ·exact TotP.okT
  ·refine TotP.bind (TotP.idx (by simp_all) (by simp_all)) (fun e_7 hv8=>?_)
   refine TotP.bind (TotP.idx (by simp_all) (by simp_all)) (fun e_9 hv10=>?_)
   refine TotP.bind (QrT 0 n1 e_7 (h_n1) (((h_n1.2.2.1).2 e_7 hv8))) (fun x_11 hv12=>?_)
   refine TotP.bind (QpB 0 n1 e_7 (e_9.Vars.length:Int) (h_n1) (((h_n1.2.2.1).2 e_7 hv8))) (fun x_13 hv14=>?_)
   refine TotP.bind (QpC 0 n1 e_7 (e_9.Vars.length:Int) (h_n1) (((h_n1.2.2.1).2 e_7 hv8))) (fun x_15 hv16=>?_)
   refine TotP.bind (QpD 0 n1 e_7 (h_n1) (((h_n1.2.2.1).2 e_7 hv8))) (fun x_17 hv18=>?_)
   refine TotP.bind (QpK e_7 1 n1 k2 5 (e_9.Vars.length:Int) 2 0 (-1) 2 1 (-1) (-1) (-1) 11 (((h_n1.2.2.1).2 e_7 hv8)) (h_n1) (by simp_all) (by simp_all)) (fun x_19 hv20=>?_)
   refine TotP.bif (fun hc21=>?_) (fun hc21=>?_)
   ·exact TotP.okT
   ·exact TotP.okT
theorem QrV (k1:Int)(p2:Qr)(v3:TNet)(h_p2:Qat p2)(h_v3:QI v3):TotP (Qf9 k1 p2 v3) fun r=>True:=by
 unfold Qf9
 refine TotP.bind (QnU v3 k1 (h_v3)) (fun x_1 hv2=>?_)
 exact TotP.okT
theorem Qm8 (l1:(List Qr))(v2:TNet)(h_l1:(lenL Qat) l1)(h_v2:QI v2):TotP (Qbq l1 v2) fun r=>True:=by
 unfold Qbq
 refine TotP.bind (TotP.up (l1.length) (fun st=>st) (fun _=>True) (Q:=fun q=>True) rfl trivial (fun i2 st hi3 hn4 hj5=>?_)) (fun q6 hq7=>?_)
 ·obtain⟨x_1,hst⟩:∃y,y=st:=⟨_,rfl⟩
  subst hst
  replace hi3:x_1=(i2:Int):=hi3
  show TotP (Qav l1 v2 x_1) _
  unfold Qav
  refine TotP.bif (fun hc8=>?_) (fun hc8=>?_)
  ·refine TotP.bind (TotP.idx (by omega) (by simp_all)) (fun e_9 hv10=>?_)
   refine TotP.bind (QrV x_1 e_9 v2 (((h_l1).2 e_9 hv10)) (h_v2)) (fun x_11 hv12=>?_)
   refine TotP.bif (fun hc13=>?_) (fun hc13=>?_)
   ·exact TotP.ok (Ql trivial)
   ·exact TotP.ok (Qv ⟨(by simp_all),by subst hi3;exact Qt (by simp_all) (h_l1).1,trivial⟩)
  ·exact TotP.ok (Ql trivial)
 rcases q6 with q6 | q6
 ·show TotP (Qb4 q6.1 q6.2) _
  unfold Qb4
  exact TotP.okT
 ·show TotP (Qb5) _
  unfold Qb5
  exact TotP.okT
theorem QsS (n1:TNet)(h_n1:QI n1):TotP (QdV n1) fun r=>True:=by
 unfold QdV
 refine TotP.bind (QrM n1 2 3 1 (h_n1)) (fun x_1 hv2=>?_)
 refine TotP.bif (fun hc3=>?_) (fun hc3=>?_)
 ·exact TotP.okT
 ·refine TotP.bind (Ql6 n1 (h_n1)) (fun x_4 hv5=>?_)
  refine TotP.bif (fun hc6=>?_) (fun hc6=>?_)
  ·exact TotP.okT
  ·refine TotP.bind (QmR n1.Places n1 (h_n1.2.1) (h_n1)) (fun x_7 hv8=>?_)
   refine TotP.bif (fun hc9=>?_) (fun hc9=>?_)
   ·exact TotP.okT
   ·refine TotP.bind (Qm8 n1.Tasks n1 (h_n1.2.2.1) (h_n1)) (fun x_10 hv11=>?_)
    refine TotP.bif (fun hc12=>?_) (fun hc12=>?_)
    ·exact TotP.okT
    ·exact TotP.okT
theorem Qtx (a1:Int)(b2:Int)  : TotP (QkG a1 b2) fun r=>True:=by
 unfold QkG
 refine TotP.bif (fun hc1=>?_) (fun hc1=>?_)
 ·exact TotP.okT
 ·exact TotP.okT
theorem QoY (a1:Int)(b2:Int)  : TotP (QeC a1 b2) fun r=>True:=by
 unfold QeC
 refine TotP.bif (fun hc1=>?_) (fun hc1=>?_)
 ·exact TotP.okT
 ·exact TotP.okT
theorem QoE (a1:Int)  : TotP (Qh9 a1) fun r=>True:=by
 unfold Qh9
 refine TotP.bif (fun hc1=>?_) (fun hc1=>?_)
 ·exact TotP.okT
 ·exact TotP.okT
theorem QoZ (p1:Int)(y2:Int)  : TotP (QeD p1 y2) fun r=>True:=by
 unfold QeD
 exact TotP.okT
theorem Qrb (a1:Int)(b2:Int)  : TotP (Qg2 a1 b2) fun r=>True:=by
 unfold Qg2
 refine TotP.bind (QoE a1 ) (fun x_1 hv2=>?_)
 refine TotP.bind (QoE b2 ) (fun x_3 hv4=>?_)
 refine TotP.bind (QoZ x_1 x_3 ) (fun x_5 hv6=>?_)
 refine TotP.bif (fun hc7=>?_) (fun hc7=>?_)
 ·unfold Qdq
  refine TotP.bif (fun hc8=>?_) (fun hc8=>?_)
  ·exact TotP.okT
  ·exact TotP.okT
 ·unfold Qdq
  refine TotP.bif (fun hc9=>?_) (fun hc9=>?_)
  ·exact TotP.okT
  ·exact TotP.okT
theorem Ql8 (a1:Int)(b2:Int)  : TotP (Qeg a1 b2) fun r=>True:=by
 unfold Qeg
 refine TotP.bif (fun hc1=>?_) (fun hc1=>?_)
 ·exact TotP.okT
 ·refine TotP.bif (fun hc2=>?_) (fun hc2=>?_)
  ·exact TotP.okT
  ·refine TotP.bind (TotP.chk (by simp_all)) (fun _ _=>?_)
   refine TotP.bind (TotP.chk (by simp_all)) (fun _ _=>?_)
   exact TotP.okT
theorem Qed (is1:Bool)  : TotP (QcD is1) fun r=>True:=by
 unfold QcD
 refine TotP.bif (fun hc1=>?_) (fun hc1=>?_)
 ·exact TotP.okT
 ·exact TotP.okT
theorem QjQ (op1:Int)(a2:Int)(b3:Int)  : TotP (Qhr op1 a2 b3) fun r=>True:=by
 unfold Qhr
 refine TotP.bif (fun hc1=>?_) (fun hc1=>?_)
 ·refine TotP.bind (Qtx a2 b3 ) (fun x_2 hv3=>?_)
  exact TotP.okT
 ·refine TotP.bif (fun hc4=>?_) (fun hc4=>?_)
  ·refine TotP.bind (QoY a2 b3 ) (fun x_5 hv6=>?_)
   exact TotP.okT
  ·refine TotP.bif (fun hc7=>?_) (fun hc7=>?_)
   ·refine TotP.bind (Qrb a2 b3 ) (fun x_8 hv9=>?_)
    exact TotP.okT
   ·refine TotP.bif (fun hc10=>?_) (fun hc10=>?_)
    ·refine TotP.bind (Ql8 a2 b3 ) (fun x_11 hv12=>?_)
     exact TotP.okT
    ·refine TotP.bif (fun hc13=>?_) (fun hc13=>?_)
     ·refine TotP.bind (Ql8 a2 b3 ) (fun x_14 hv15=>?_)
      exact TotP.okT
     ·refine TotP.bif (fun hc16=>?_) (fun hc16=>?_)
      ·refine TotP.bind (Qed (a2==b3) ) (fun x_17 hv18=>?_)
       exact TotP.okT
      ·refine TotP.bif (fun hc19=>?_) (fun hc19=>?_)
       ·refine TotP.bind (Qed (a2 != b3) ) (fun x_20 hv21=>?_)
        exact TotP.okT
       ·refine TotP.bif (fun hc22=>?_) (fun hc22=>?_)
        ·refine TotP.bind (Qed (decide (a2<b3)) ) (fun x_23 hv24=>?_)
         exact TotP.okT
        ·refine TotP.bif (fun hc25=>?_) (fun hc25=>?_)
         ·refine TotP.bind (Qed (decide (a2≤b3)) ) (fun x_26 hv27=>?_)
          exact TotP.okT
         ·refine TotP.bif (fun hc28=>?_) (fun hc28=>?_)
          ·refine TotP.bind (P:=fun _=>True) ?_ (fun v_29 hv30=>?_)
           ·unfold Qmx
            refine TotP.bif (fun hc31=>?_) (fun hc31=>?_)
            ·refine TotP.bind (Qed (b3 != 0) ) (fun x_32 hv33=>?_)
             exact TotP.okT
            ·refine TotP.bind (Qed false ) (fun x_34 hv35=>?_)
             exact TotP.okT
           unfold QiI
           exact TotP.okT
          ·refine TotP.bif (fun hc36=>?_) (fun hc36=>?_)
           ·refine TotP.bind (P:=fun _=>True) ?_ (fun v_37 hv38=>?_)
            ·unfold Qmy
             refine TotP.bif (fun hc39=>?_) (fun hc39=>?_)
             ·refine TotP.bind (Qed true ) (fun x_40 hv41=>?_)
              exact TotP.okT
             ·refine TotP.bind (Qed (b3 != 0) ) (fun x_42 hv43=>?_)
              exact TotP.okT
            unfold QiJ
            exact TotP.okT
           ·exact TotP.okT
theorem QpL (a1:Int)  : TotP (QkI a1) fun r=>True:=by
 unfold QkI
 refine TotP.bind (QjQ 2 0 a1 ) (fun x_1 hv2=>?_)
 exact TotP.okT
end Go.Proofs
noncomputable section
namespace Go.Proofs
open Go Go.RowKit Go.Vm
theorem QmV (b:List (Int×Int))(h:b.length≤maxLen):Qc6 b=some (rtF (-1) b):=by
 unfold Qc6
 have h1:=Qvw (body:=fun st=>Qbj b st.1 st.2) (l:=b) (ρ:=Unit⊕Unit) (fun i (t:Int)=>(t,(i:Int)))
  (fun i t x=>bif ((decide (x.1≤t))||((decide (x.2<1))||(decide (1048576<x.2))))then .inr (.inl ())else .inl x.1) (fun _=>.inr ())
  (fun i t x hi hx=>by
   show Qbj b t i=_
   unfold Qbj
   rw [decide_eq_true (by omega:(i:Int)<b.length),cond_true,QY,hx,Option.bind_some]
   cases ((decide (x.1≤t))||((decide (x.2<1))||(decide (1048576<x.2))))with
   | true=>rfl
   | false=>simp only [cond_false,Sum.elim_inl];rw [Qt hi h])
  (fun t=>by
   show Qbj b t b.length=_
   unfold Qbj
   rw [decide_eq_false (by omega)];rfl) (-1) (s0:=(-1,0)) rfl
 rw [h1]
 have:∀(l:List (Int×Int)) (k:Nat) (t:Int),Qov (fun i t (x:Int×Int)=>(bif ((decide (x.1≤t))||((decide (x.2<1))||(decide (1048576<x.2))))then .inr (.inl ())else .inl x.1:Int⊕(Unit⊕Unit))) (fun _=>.inr ()) k t l=bif rtF t l then .inr ()else .inl ():=by
  intro l
  induction l with
  | nil=>intro k t;rfl
  | cons x l ih=>
   intro k t
   rw [Qov,rtF]
   cases ((decide (x.1≤t))||((decide (x.2<1))||(decide (1048576<x.2))))with
   | true=>rfl
   | false=>simp only [cond_false,Sum.elim_inl,Bool.not_false,Bool.true_and];exact ih _ _
 rw [this]
 cases rtF (-1) b<;>rfl
theorem Qnk (b:List (Int×Int))(h:b.length≤maxLen):QiM b=some (bif rtF (-1) b then .inr b else .inl ()):=by
 unfold QiM
 rw [QmV b h,Option.bind_some]
 cases hr:rtF (-1) b with
 | false=>rfl
 | true=>
  simp only [Bool.not_true,cond_false,cond_true]
  have ha:=(QeS.1 hr).1
  obtain⟨r,h1,h2⟩:=Qt3 (body:=fun st=>QdU b st.1 st.2) b.length (fun i s=>s=((i:Int),b.take i)) (fun r=>r=b)
   (fun i s hi hs=>by
    subst hs
    refine .inl ⟨(((i+1:Nat):Int),b.take (i+1)),?_,rfl⟩
    show QdU b i (b.take i)=_
    unfold QdU
    rw [decide_eq_true (by omega:(i:Int)<b.length),cond_true,QY,List.getElem?_eq_getElem hi,Option.bind_some,Qt hi h]
    have e:b.take (i+1)=b.take i++[b[i]]:=by rw [List.take_add_one,List.getElem?_eq_getElem hi];rfl
    rw [e,←Qwp (by have:=(ha.sublist (List.take_sublist (i+1) b));rw [e]at this;exact this)])
   (fun s hs=>by
    subst hs
    refine⟨_,?_,rfl⟩
    show QdU b b.length (b.take b.length)=_
    unfold QdU
    rw [decide_eq_false (by omega),List.take_length];rfl) (0,[]) rfl
  rw [h1,h2];rfl
theorem QnC (a b:List (Int×Int))(ha:a.length≤maxLen)(hb:b.length≤maxLen):QhB a b=some (bif rtF (-1) a then(bif rtF (-1) b then .inr (.inr (.inr (a,b)))else .inr (.inr (.inl a)))else(bif rtF (-1) b then .inr (.inl b)else .inl ())):=by
 unfold QhB
 rw [Qnk a ha]
 cases rtF (-1) a with
 | true=>
  simp only [cond_true,Option.bind_some,Sum.elim_inr]
  unfold QjU
  rw [Qnk b hb]
  cases rtF (-1) b<;>rfl
 | false=>
  simp only [cond_false,Option.bind_some,Sum.elim_inl]
  unfold QjT
  rw [Qnk b hb]
  cases rtF (-1) b<;>rfl
theorem QjZ (m:List (Int×Int))(ha:Asc m)(h':m.length≤4294967296):QcJ m=some (posL m):=by
 have h:m.length≤maxLen:=by unfold maxLen;omega
 unfold QcJ QbO QfW
 simp only [decide_eq_true h',QuL rfl,Option.bind_some,QvA ha]
 obtain⟨r,h1,h2⟩:=Qt3 (body:=fun st=>QaP (m.map Prod.fst) m st.1 st.2) m.length (fun i s=>s=((i:Int),posL (m.take i))) (fun r=>r=posL m)
  (fun i s hi hs=>by
   subst hs
   refine .inl ⟨(((i+1:Nat):Int),posL (m.take (i+1))),?_,rfl⟩
   show QaP (m.map Prod.fst) m i (posL (m.take i))=_
   unfold QaP
   have e:m.take (i+1)=m.take i++[m[i]]:=by rw [List.take_add_one,List.getElem?_eq_getElem hi];rfl
   have ec:(mget m m[i].1).getD 0=m[i].2:=Qjg ha.nd (List.getElem_mem hi)
   rw [decide_eq_true (by simp;omega),cond_true,QY,List.getElem?_map,List.getElem?_eq_getElem hi,Option.map_some,Option.bind_some,ec]
   have hl:(posL (m.take i)).length≤i:=Nat.le_trans (List.length_filter_le _ _) (by simp;omega)
   cases hc:decide (0<m[i].2)with
   | true=>
    simp only [cond_true]
    rw [QpW (by simp;omega),Option.bind_some]
    unfold Qcr
    rw [Qt hi h,e]
    unfold posL
    rw [List.filter_append,List.filter_cons,if_pos hc];rfl
   | false=>
    simp only [cond_false]
    unfold Qcr
    rw [Qt hi h,e]
    unfold posL
    rw [List.filter_append,List.filter_cons,if_neg (by rw [hc];decide),List.filter_nil,List.append_nil])
  (fun s hs=>by
   subst hs
   refine⟨_,?_,rfl⟩
   show QaP (m.map Prod.fst) m m.length (posL (m.take m.length))=_
   unfold QaP
   rw [decide_eq_false (by simp),List.take_length];rfl) (0,[]) rfl
 rw [h1,h2];rfl
theorem Qty (m:List (Int×Int)):(posL m).length≤m.length:=List.length_filter_le _ _
theorem Qk8 (a b:List (Int×Int))(h:a.length+b.length≤4294967296):(¬(Rt a∧Rt b)∧Qbb a b=some ([],1))∨(Rt a∧Rt b∧(∃k,1048576<cntL a k+cntL b k)∧Qbb a b=some ([],2))∨
  (Rt a∧Rt b∧∃r,Qbb a b=some (r,0)∧Rt r∧(∀k,cntL r k=cntL a k+cntL b k)∧r.length≤a.length+b.length):=by
 unfold Qbb
 rw [QnC a b (by unfold maxLen;omega) (by unfold maxLen;omega),Option.bind_some]
 cases ra:rtF (-1) a with
 | false=>exact .inl ⟨fun hh=>(by rw [QeS.2 hh.1]at ra;cases ra),by cases rtF (-1) b<;>rfl⟩
 | true=>
  cases rb:rtF (-1) b with
  | false=>exact .inl ⟨fun hh=>(by rw [QeS.2 hh.2]at rb;cases rb),rfl⟩
  | true=>
   have hra:=QeS.1 ra
   have hrb:=QeS.1 rb
   simp only [cond_true,Sum.elim_inr]
   unfold QkM
   have hw:∀p∈b,cntL a p.1+p.2=cntL a p.1+cntL b p.1:=fun p hp=>by rw [Qjg hrb.1.nd hp]
   rcases QrH (g:=fun x v=>w64 (x+v)) (stop:=fun x=>decide (1048576<x)) (q:=some ()) (body:=fun st p=>Qfv st p.1 p.2) (fun s p=>by
     show Qfv s p.1 p.2=_
     unfold Qfv
     rw [Qkq,if_pos rfl]
     unfold cntL
     simp only [Option.getD_some]
     cases decide (1048576<w64 ((mget s p.1).getD 0+p.2))<;>rfl) hra.1 hrb.1.nd with⟨⟨p,h1,h2⟩,h3⟩|⟨h1,s',h3,h4,h5,h6⟩
   ·refine .inr (.inl ⟨hra,hrb,⟨p.1,?_⟩,?_⟩)
    ·have:=hra.cnt p.1
     have:=hrb.cnt p.1
     have h2:=of_decide_eq_true h2
     rw [Qjg hrb.1.nd h1]
     rw [Qjg hrb.1.nd h1]at this
     rwa [Qck (by omega)]at h2
    ·simp only [h3 () rfl];rfl
   ·have hk:∀k,cntL s' k=cntL a k+cntL b k∧cntL s' k≤1048576:=fun k=>by
     have ca:=hra.cnt k
     have cb:=hrb.cnt k
     have e:=h6 k
     unfold QpX at e
     cases hm:mget b k with
     | none=>
      rw [hm]at e
      simp only at e
      have:cntL b k=0:=by unfold cntL;rw [hm];rfl
      have e2:cntL s' k=cntL a k:=by unfold cntL;rw [e]
      omega
     | some v=>
      rw [hm]at e
      simp only at e
      have e1:cntL b k=v:=by unfold cntL;rw [hm];rfl
      have e2:cntL s' k=w64 (cntL a k+v):=by unfold cntL;rw [e];rfl
      have h7:=h1 (k,v) ((Qdw hrb.1.nd).1 hm)
      simp only [decide_eq_false_iff_not]at h7
      rw [Qck (by omega)]at e2 h7
      omega
    refine .inr (.inr ⟨hra,hrb,posL s',?_,Qvz h4 (fun k hk0=>⟨?_,(hk k).2⟩),fun k=>?_,Nat.le_trans (Qty s') h5⟩)
    ·simp only [h3,Option.bind_some,Sum.elim_inl]
     unfold QkL
     rw [QjZ s' h4 (by omega)];rfl
    ·have:=(hk k).1
     have ca:=hra.cnt k
     have cb:=hrb.cnt k
     by_cases c:0<cntL a k
     ·exact hra.cnt_pos c
     ·exact hrb.cnt_pos (by omega)
    ·rw [Qtw h4,(hk k).1]
     have ca:=hra.cnt k
     have cb:=hrb.cnt k
     split<;>omega
theorem QmW (m m':List (Int×Int)):Qcs m m'=some (!(m.any fun p=>decide (cntL m' p.1<p.2))):=by
 unfold Qcs
 rw [QuN (bad:=fun p=>decide (cntL m' p.1<p.2)) (q:=()) (fun p=>by
  show QbG m' p.1 p.2=_
  unfold QbG cntL
  cases decide ((mget m' p.1).getD 0<p.2)<;>rfl)]
 cases m.any fun p=>decide (cntL m' p.1<p.2)<;>rfl
theorem QrW {a b:List (Int×Int)}(ha:Rt a)(hb:Rt b):(a.any fun p=>decide (cntL b p.1<p.2))=false↔∀k,cntL a k≤cntL b k:=by
 rw [←Bool.not_eq_true,List.any_eq_true]
 simp only [decide_eq_true_eq,not_exists,not_and]
 constructor
 ·intro h k
  have cb:=hb.cnt k
  cases e:mget a k with
  | none=>
   have:cntL a k=0:=by unfold cntL;rw [e];rfl
   omega
  | some v=>
   have h1:=h _ ((Qdw ha.1.nd).1 e)
   have:cntL a k=v:=by unfold cntL;rw [e];rfl
   simp only at h1
   omega
 ·intro h p hp hlt
  have:=h p.1
  rw [Qjg ha.1.nd hp]at this
  omega
theorem QrX (a b:List (Int×Int))(ha:a.length≤maxLen)(hb:b.length≤maxLen):∃r,QiN a b=some r∧(r=true↔Rt a∧Rt b∧∀k,cntL a k≤cntL b k):=by
 unfold QiN
 rw [QnC a b ha hb,Option.bind_some]
 cases ra:rtF (-1) a with
 | false=>exact⟨false,by cases rtF (-1) b<;>rfl,by simp;intro hh;rw [QeS.2 hh]at ra;cases ra⟩
 | true=>
  cases rb:rtF (-1) b with
  | false=>exact⟨false,rfl,by simp;intro _ hh;rw [QeS.2 hh]at rb;cases rb⟩
  | true=>
   have hra:=QeS.1 ra
   have hrb:=QeS.1 rb
   refine⟨!(a.any fun p=>decide (cntL b p.1<p.2)),?_,?_⟩
   ·simp only [cond_true,Sum.elim_inr]
    unfold Qis
    rw [QmW];rfl
   ·rw [Bool.not_eq_true',QrW hra hrb]
    exact⟨fun h=>⟨hra,hrb,h⟩,fun h=>h.2.2⟩
theorem QlZ (a b:List (Int×Int))(h:a.length+b.length≤4294967296):(¬(Rt a∧Rt b)∧Qbf a b=some ([],1))∨(Rt a∧Rt b∧(∃k,cntL a k<cntL b k)∧Qbf a b=some ([],10))∨
  (Rt a∧Rt b∧(∀k,cntL b k≤cntL a k)∧∃r,Qbf a b=some (r,0)∧Rt r∧(∀k,cntL r k=cntL a k-cntL b k)∧r.length≤a.length+b.length):=by
 unfold Qbf
 rw [QnC a b (by unfold maxLen;omega) (by unfold maxLen;omega),Option.bind_some]
 cases ra:rtF (-1) a with
 | false=>exact .inl ⟨fun hh=>(by rw [QeS.2 hh.1]at ra;cases ra),by cases rtF (-1) b<;>rfl⟩
 | true=>
  cases rb:rtF (-1) b with
  | false=>exact .inl ⟨fun hh=>(by rw [QeS.2 hh.2]at rb;cases rb),rfl⟩
  | true=>
   have hra:=QeS.1 ra
   have hrb:=QeS.1 rb
   simp only [cond_true,Sum.elim_inr]
   unfold QjW
   rw [QmW,Option.bind_some]
   cases hw:b.any fun p=>decide (cntL a p.1<p.2)with
   | true=>
    refine .inr (.inl ⟨hra,hrb,?_,rfl⟩)
    obtain⟨p,h1,h2⟩:=List.any_eq_true.1 hw
    exact⟨p.1,by rw [Qjg hrb.1.nd h1];exact of_decide_eq_true h2⟩
   | false=>
    have hle:=(QrW hrb hra).1 hw
    simp only [Bool.not_false,Bool.not_true,cond_false]
    rcases QrH (g:=fun x v=>w64 (x-v)) (stop:=fun _=>false) (q:=none) (body:=fun st p=>Qev st p.1 p.2) (fun s p=>by
      show Qev s p.1 p.2=_
      unfold Qev cntL
      rfl) hra.1 hrb.1.nd with⟨⟨p,h1,h2⟩,h3⟩|⟨h1,s',h3,h4,h5,h6⟩
    ·cases h2
    ·have hk:∀k,cntL s' k=cntL a k-cntL b k:=fun k=>by
      have ca:=hra.cnt k
      have cb:=hrb.cnt k
      have e:=h6 k
      unfold QpX at e
      cases hm:mget b k with
      | none=>
       rw [hm]at e
       simp only at e
       have:cntL b k=0:=by unfold cntL;rw [hm];rfl
       have e2:cntL s' k=cntL a k:=by unfold cntL;rw [e]
       omega
      | some v=>
       rw [hm]at e
       simp only at e
       have e1:cntL b k=v:=by unfold cntL;rw [hm];rfl
       have e2:cntL s' k=w64 (cntL a k-v):=by unfold cntL;rw [e];rfl
       rw [Qck (by omega)]at e2
       omega
     refine .inr (.inr ⟨hra,hrb,hle,posL s',?_,Qvz h4 (fun k hk0=>?_),fun k=>?_,Nat.le_trans (Qty s') h5⟩)
     ·simp only [h3,Option.bind_some,Sum.elim_inl]
      unfold QjV
      rw [QjZ s' h4 (by omega)];rfl
     ·have:=hk k
      have ca:=hra.cnt k
      have cb:=hrb.cnt k
      exact⟨hra.cnt_pos (by omega),by omega⟩
     ·rw [Qtw h4,hk k]
      have:=hle k
      split<;>omega
theorem QuR (t:Int):Qmz [t]=some (bif decide (0≤t)then [(t,1)]else []):=by
 unfold Qmz
 rw [QdI]
 show((Qc7 [t] 0 []).bind _).bind _=_
 unfold Qc7
 rw [decide_eq_true (by simp),cond_true,show idx [t] 0=some t from rfl,Option.bind_some]
 unfold QjG
 rw [show w64 (0+1)=1 from by decide]
 cases h:decide (0≤t)with
 | false=>
  simp only [cond_false,Option.bind_some,Sum.elim_inl]
  rw [QdI]
  show((Qc7 [t] 1 []).bind _).bind _=_
  unfold Qc7
  rw [decide_eq_false (by simp)]
  simp only [cond_false,Option.bind_some,Sum.elim_inr]
  unfold QjH
  rw [QjZ [] List.Pairwise.nil (by simp)];rfl
 | true=>
  simp only [cond_true,Option.bind_some,Sum.elim_inl]
  rw [QdI]
  show((Qc7 [t] 1 [(t,min2 (w64 (0+1)) 1048576)]).bind _).bind _=_
  unfold Qc7
  rw [decide_eq_false (by simp)]
  simp only [cond_false,Option.bind_some,Sum.elim_inr]
  unfold QjH
  rw [QjZ _ (List.pairwise_singleton _ _) (by simp [maxLen]),show min2 (w64 (0+1)) 1048576=1 from by decide];rfl
end Go.Proofs
noncomputable section
namespace Go.Proofs
open Go Go.RowKit Go.Vm
theorem Qt8 : ∀(n:Nat) (e:Qg) (d:Int),Qc2 e→SizeOf.sizeOf e≤n→TotP (Qew n e d) fun _=>True
 | 0,e,_,_,h=>absurd e.pos (by omega)
 | n+1,e,d,he,h=>by
  unfold Qew QjY
  refine TotP.bif (fun _=>TotP.okT) fun _=>?_
  refine TotP.bind (TotP.up e.Kids.length (fun st=>st.2) (fun _=>True) (Q:=fun _=>True) rfl trivial (fun i st hi hn _=>?_)) (fun q _=>?_)
  ·obtain⟨a,x⟩:=st
   replace hi:x=(i:Int):=hi
   show TotP (Qfc e (Qew n) d a x) _
   unfold Qfc
   refine TotP.bif (fun hc=>?_) (fun hc=>TotP.ok (Ql trivial))
   simp only [decide_eq_true_eq]at hc
   refine TotP.bind (TotP.idx (by omega) (by omega)) fun k hk=>?_
   have:=Qpy hk
   refine TotP.bind (Qt8 n k _ ((Qec he).2 k hk) (by omega)) fun y _=>?_
   refine TotP.bif (fun _=>TotP.ok (Ql trivial)) fun _=>TotP.bif (fun _=>TotP.ok (Ql trivial)) fun _=>?_
   exact TotP.ok (Qv ⟨by omega,by subst hi;exact Qt (by omega) (Qec he).1,trivial⟩)
  ·rcases q with q | q
   ·exact TotP.okT
   ·exact TotP.okT
theorem Qsm (e:Qg)(he:Qc2 e):TotP (QgH e) fun _=>True:=by
 unfold QgH Qnt
 exact TotP.bind (Qt8 _ e 60 he (Nat.le_refl _)) fun _ _=>TotP.okT
theorem Qw2 (n1:TNet)(h:QI n1)(q0:Int):TotP (Qgk n1 q0) fun r=>r=true→q0≤400:=by
 unfold Qgk
 refine TotP.bind (TotP.up n1.Tasks.length (fun st=>st.2) (fun _=>True) (Q:=fun _=>True) rfl trivial (fun i st hi hn _=>?_)) (fun q _=>?_)
 ·obtain⟨a,x⟩:=st
  replace hi:x=(i:Int):=hi
  show TotP (Qek n1 a x) _
  unfold Qek
  refine TotP.bif (fun hc=>?_) (fun _=>TotP.ok (Ql trivial))
  simp only [decide_eq_true_eq]at hc
  refine TotP.bind (TotP.idx (by omega) (by omega)) fun e he=>?_
  have ke:=h.2.2.1.2 e he
  refine TotP.bif (fun _=>TotP.ok (Ql trivial)) fun _=>?_
  refine TotP.bind (TotP.up e.Vars.length (fun st=>st) (fun _=>True) (Q:=fun _=>True) rfl trivial (fun i2 st hi2 hn2 _=>?_)) (fun q _=>?_)
  ·show TotP (Qeh e st) _
   unfold Qeh
   refine TotP.bif (fun hc=>?_) (fun _=>TotP.ok (Ql trivial))
   simp only [decide_eq_true_eq]at hc
   refine TotP.bind (TotP.idx (by omega) (by omega)) fun s _=>?_
   exact TotP.bif (fun _=>TotP.ok (Ql trivial)) fun _=>TotP.ok (Qv ⟨by omega,by rw [hi2];exact Qt (by omega) ke.2.1.1,trivial⟩)
  rcases q with q | q
  ·exact TotP.ok (Ql trivial)
  show TotP (Qgj e a x) _
  unfold Qgj
  refine TotP.bind (Qsm e.Guard ke.2.2.1) fun g _=>?_
  refine TotP.bind (TotP.up e.Ins.length (fun st=>st.2) (fun _=>True) (Q:=fun _=>True) rfl trivial (fun i2 st hi2 hn2 _=>?_)) (fun q _=>?_)
  ·obtain⟨b,y⟩:=st
   replace hi2:y=(i2:Int):=hi2
   show TotP (Qei e b y) _
   unfold Qei
   refine TotP.bif (fun hc=>?_) (fun _=>TotP.ok (Ql trivial))
   simp only [decide_eq_true_eq]at hc
   refine TotP.bind (TotP.idx (by omega) (by omega)) fun s hs=>?_
   refine TotP.bind (Qsm s.Expr (ke.2.2.2.2.2.1.2 s hs).2) fun g _=>?_
   exact TotP.ok (Qv ⟨by omega,by subst hi2;exact Qt (by omega) ke.2.2.2.2.2.1.1,trivial⟩)
  show TotP (Qgi e a x q) _
  unfold Qgi
  refine TotP.bind (TotP.up e.Outs.length (fun st=>st.2) (fun _=>True) (Q:=fun _=>True) rfl trivial (fun i2 st hi2 hn2 _=>?_)) (fun q _=>?_)
  ·obtain⟨b,y⟩:=st
   replace hi2:y=(i2:Int):=hi2
   show TotP (Qej e b y) _
   unfold Qej
   refine TotP.bif (fun hc=>?_) (fun _=>TotP.ok (Ql trivial))
   simp only [decide_eq_true_eq]at hc
   refine TotP.bind (TotP.idx (by omega) (by omega)) fun s hs=>?_
   refine TotP.bind (Qsm s.Expr (ke.2.2.2.2.2.2.1.2 s hs).2) fun g _=>?_
   exact TotP.ok (Qv ⟨by omega,by subst hi2;exact Qt (by omega) ke.2.2.2.2.2.2.1.1,trivial⟩)
  show TotP (Qgh a e x q) _
  unfold Qgh
  exact TotP.bif (fun _=>TotP.ok (Ql trivial)) fun _=>TotP.ok (Qv ⟨by omega,by subst hi;exact Qt (by omega) h.2.2.1.1,trivial⟩)
 rcases q with q | q
 ·exact TotP.ok fun h=>by cases h
 ·exact TotP.ok fun h=>by simpa using h
theorem Qw3 (n1:TNet)(h:QI n1):TotP (QjM n1) fun r=>r=true→n1.Colours.length≤40∧n1.Places.length≤70∧n1.Tasks.length≤70:=by
 unfold QjM
 refine TotP.bif (fun _=>TotP.ok fun h=>by cases h) fun hc=>?_
 simp only [Bool.or_eq_false_iff,decide_eq_false_iff_not]at hc
 refine TotP.mono (P:=fun _=>True) ?_ fun _ _ _=>by omega
 refine TotP.bind (TotP.up n1.Colours.length (fun st=>st.2) (fun _=>True) (Q:=fun _=>True) rfl trivial (fun i st hi hn _=>?_)) (fun q _=>?_)
 ·obtain⟨a,x⟩:=st
  replace hi:x=(i:Int):=hi
  show TotP (Qfe n1 a x) _
  unfold Qfe
  refine TotP.bif (fun hc=>?_) (fun _=>TotP.ok (Ql trivial))
  simp only [decide_eq_true_eq]at hc
  refine TotP.bind (TotP.idx (by omega) (by omega)).self fun e he=>?_
  obtain⟨he,hm⟩:=he
  refine TotP.bind (P:=fun _=>True) ?_ fun y _=>?_
  ·unfold Qlk
   rw [he,Option.bind_some]
   exact TotP.bif (fun _=>TotP.okT) fun _=>TotP.okT
  unfold Qg7
  refine TotP.bif (fun _=>TotP.ok (Ql trivial)) fun _=>?_
  refine TotP.bind (TotP.up e.Names.length (fun st=>st) (fun _=>True) (Q:=fun _=>True) rfl trivial (fun i2 st hi2 hn2 _=>?_)) (fun q _=>?_)
  ·show TotP (Qfd n1 x st) _
   unfold Qfd
   simp only [he,Option.bind_some]
   refine TotP.bif (fun hc=>?_) (fun _=>TotP.ok (Ql trivial))
   simp only [decide_eq_true_eq]at hc
   refine TotP.bind (TotP.idx (by omega) (by omega)) fun s _=>?_
   refine TotP.bif (fun _=>TotP.ok (Ql trivial)) fun _=>?_
   exact TotP.ok (Qv ⟨by omega,by rw [hi2];exact Qt (by omega) (h.1.2 e hm).2.2.2.2.1.1,trivial⟩)
  ·rcases q with q | q
   ·exact TotP.ok (Ql trivial)
   ·exact TotP.ok (Qv ⟨by omega,by subst hi;exact Qt (by omega) h.1.1,trivial⟩)
 rcases q with q | q
 ·exact TotP.okT
 show TotP (Qgl n1 q) _
 unfold Qgl
 refine TotP.bind (TotP.up n1.Places.length (fun st=>st.2) (fun _=>True) (Q:=fun _=>True) rfl trivial (fun i st hi hn _=>?_)) (fun q _=>?_)
 ·obtain⟨a,x⟩:=st
  replace hi:x=(i:Int):=hi
  show TotP (Qff n1 a x) _
  unfold Qff
  refine TotP.bif (fun hc=>?_) (fun _=>TotP.ok (Ql trivial))
  simp only [decide_eq_true_eq]at hc
  refine TotP.bind (TotP.idx (by omega) (by omega)) fun e _=>?_
  refine TotP.bind (TotP.idx (by omega) (by omega)) fun e2 _=>?_
  exact TotP.bif (fun _=>TotP.ok (Ql trivial)) fun _=>TotP.ok (Qv ⟨by omega,by subst hi;exact Qt (by omega) h.2.1.1,trivial⟩)
 rcases q with q | q
 ·exact TotP.okT
 exact(Qw2 n1 h q).mono fun _ _=>trivial
theorem Qw4 (m:List (List (Int×Int)))(h:m.length≤maxLen):TotP (QjN m) fun _=>True:=by
 unfold QjN
 refine TotP.bind (TotP.up m.length (fun st=>st.2) (fun _=>True) (Q:=fun _=>True) rfl trivial (fun i st hi hn _=>?_)) (fun q _=>TotP.okT)
 obtain⟨a,x⟩:=st
 replace hi:x=(i:Int):=hi
 show TotP (Qfg m a x) _
 unfold Qfg
 refine TotP.bif (fun hc=>?_) (fun _=>TotP.ok (Ql trivial))
 simp only [Bool.and_eq_true,decide_eq_true_eq]at hc
 refine TotP.bind (TotP.idx (by omega) (by omega)) fun e _=>?_
 exact TotP.ok (Qv ⟨by omega,by subst hi;exact Qt (by omega) h,trivial⟩)
theorem Qt9 {l:List (Int×Int)}(h:Asc l):∀{a:Int},(∀p∈l,a≤p.1)→∀(i:Nat) (hi:i<l.length),a+i≤(l[i]).1:=by
 induction l with
 | nil=>intro a _ i hi;simp at hi
 | cons p l ih=>
  intro a ha i hi
  obtain⟨h1,h2⟩:=QfT.1 h
  cases i with
  | zero=>have:=ha p List.mem_cons_self;simpa using this
  | succ i=>
   have h3:=ih h2 (a:=a+1) (fun q hq=>by have:=h1 q hq;have:=ha p List.mem_cons_self;omega) i (by simpa using hi)
   simp only [List.getElem_cons_succ]
   omega
theorem Qwu {l:List (Int×Int)}(h:Asc l)(h0:0<l.length){k:Int}(hk:0<cntL l k):k≤(l[l.length-1]).1:=by
 unfold cntL at hk
 cases e:mget l k with
 | none=>rw [e]at hk;simp at hk
 | some v=>
  obtain⟨j,hj,hjk⟩:=List.mem_iff_getElem.1 ((Qdw h.nd).1 e)
  by_cases c:j=l.length-1
  ·subst c;rw [hjk];exact Int.le_refl _
  ·have:=List.pairwise_iff_getElem.1 h j (l.length-1) hj (by omega) (by omega)
   rw [hjk]at this
   simp only at this
   omega
def MOk (n:TNet)(c:Nat)(m:List (List (Int×Int))):Prop:=m.length=n.Places.length∧∀b∈m,Rt b∧b.length≤c
theorem MOk.mono {n:TNet}{c c':Nat}{m:List (List (Int×Int))}(h:MOk n c m)(hc:c≤c'):MOk n c' m:=⟨h.1,fun b hb=>⟨(h.2 b hb).1,Nat.le_trans (h.2 b hb).2 hc⟩⟩
def Low (n:TNet)(m:List (List (Int×Int))):Prop:=∀(j:Nat) b p,m[j]? = some b→n.Places[j]? = some p→∀k,0<cntL b k→∃z,QaD n.Colours p.Colour=some z∧k<z
theorem Qtz (n1:TNet)(m:List (List (Int×Int)))(h:QI n1)(hm:lenL (lenL fun _=>True) m):TotP (QiR n1 m) fun r=>r=true→MOk n1 1024 m∧Low n1 m:=by
 unfold QiR
 refine TotP.bif (fun _=>TotP.ok fun h=>by cases h) fun hc=>?_
 have hl:m.length=n1.Places.length:=by simp only [bne_eq_false_iff_eq]at hc;omega
 refine TotP.bind (TotP.up m.length (fun st=>st) (fun st=>∀(j:Nat) (hj:j<m.length),(j:Int)<st→(Rt m[j]∧(m[j]).length≤1024)∧∀p,n1.Places[j]? = some p→∀k,0<cntL m[j] k→∃z,QaD n1.Colours p.Colour=some z∧k<z) (Q:=fun q=>q=.inr ()→(∀b∈m,Rt b∧b.length≤1024)∧Low n1 m) rfl (fun j _ hj=>by omega) (fun i st hi hn hJ=>?_)) (fun q hq=>?_)
 ·show TotP (Qeo m n1 st) _
  unfold Qeo
  refine TotP.bif (fun hc=>?_) (fun hc=>TotP.ok (Ql fun _=>⟨fun b hb=>by
   obtain⟨j,hj,rfl⟩:=List.mem_iff_getElem.1 hb
   simp only [decide_eq_false_iff_not]at hc
   exact(hJ j hj (by omega)).1,fun j b p hb hp=>by
   obtain⟨hj,rfl⟩:=List.getElem?_eq_some_iff.1 hb
   simp only [decide_eq_false_iff_not]at hc
   exact(hJ j hj (by omega)).2 p hp⟩))
  simp only [decide_eq_true_eq]at hc
  have hlt:i<m.length:=by omega
  have hlp:i<n1.Places.length:=by omega
  rw [hi,QY,List.getElem?_eq_getElem hlt,Option.bind_some,QY,List.getElem?_eq_getElem hlp,Option.bind_some]
  refine TotP.bind (Qdm n1.Colours (n1.Places[i]).Colour h.1).self fun sz hsz=>?_
  obtain⟨hze,hsz⟩:=hsz
  have hb:=hm.2 _ (List.getElem_mem hlt)
  have hbl:=hb.1
  refine TotP.bind (P:=fun r=>r=false→(Rt m[i]∧(m[i]).length≤1024)∧∀k,0<cntL m[i] k→k<sz) ?_ fun x hx=>?_
  ·unfold Qk0
   rw [QmV _ hb.1,Option.bind_some]
   refine TotP.bif (fun _=>TotP.ok fun h=>by cases h) fun hr=>?_
   have hrt:=QeS.1 (by simpa using hr:rtF (-1) m[i]=true)
   refine TotP.bif (fun h0=>?_) (fun h0=>TotP.ok fun _=>⟨⟨hrt,by simp only [decide_eq_false_iff_not]at h0;omega⟩,fun k hk=>by
    simp only [decide_eq_false_iff_not]at h0
    rw [show m[i]=[]from List.length_eq_zero_iff.1 (by omega)]at hk
    simp [cntL,mget]at hk⟩)
   simp only [decide_eq_true_eq]at h0
   unfold maxLen at hbl
   rw [Qck (by omega),show((m[i]).length:Int)-1=(((m[i]).length-1:Nat):Int) by omega,QY,List.getElem?_eq_getElem (by omega),Option.bind_some]
   refine TotP.ok fun hf=>?_
   simp only [decide_eq_false_iff_not]at hf
   have:=Qt9 hrt.1 (a:=0) (fun p hp=>(hrt.2 p hp).1) ((m[i]).length-1) (by omega)
   refine⟨⟨hrt,by omega⟩,fun k hk=>?_⟩
   have:=Qwu hrt.1 (by omega) hk
   omega
  ·unfold Qgx
   refine TotP.bif (fun _=>TotP.ok (Ql fun h=>by cases h)) fun hxf=>?_
   refine TotP.ok (Qv ⟨hlt,Qt hlt hm.1,fun j hj hjs=>?_⟩)
   rw [Qt hlt hm.1]at hjs
   by_cases c:j=i
   ·subst c
    refine⟨(hx hxf).1,fun p hp k hk=>⟨sz,?_,(hx hxf).2 k hk⟩⟩
    rw [List.getElem?_eq_getElem hlp]at hp
    cases hp
    exact hze
   ·exact hJ j hj (by omega)
 ·rcases q with q | q
  ·exact TotP.ok fun h=>by cases h
  ·exact TotP.ok fun _=>⟨⟨hl,(hq rfl).1⟩,(hq rfl).2⟩
structure QW (n:TNet):Prop where
 k:QI n
 pl:n.Places.length≤70
 tl:n.Tasks.length≤12
 tk:∀t∈n.Tasks,t.Vars.length≤16∧t.Ins.length≤16∧t.Outs.length≤16∧t.Cancel.length≤16
theorem QvE (n1:TNet)(k2:Int)(h:Qbp n1 k2=some 0):∃t,idx n1.Tasks k2=some t∧t.Vars.length≤16∧t.Ins.length≤16∧t.Outs.length≤16∧t.Cancel.length≤16:=by
 unfold Qbp at h
 obtain⟨x5,_,h⟩:=Qb h
 rcases bifE h with⟨_,h⟩|⟨_,h⟩
 ·cases h
 obtain⟨x7,_,h⟩:=Qb h
 rcases bifE h with⟨c,h⟩|⟨_,h⟩
 ·simp only [Option.some.injEq]at h;rw [h]at c;cases c
 obtain⟨e9,he9,h⟩:=Qb h
 obtain⟨e10,he10,h⟩:=Qb h
 rw [he9]at he10;cases he10
 obtain⟨_,_,h⟩:=Qb h
 obtain⟨_,_,h⟩:=Qb h
 obtain⟨_,_,h⟩:=Qb h
 obtain⟨_,_,h⟩:=Qb h
 obtain⟨x15,hx,h⟩:=Qb h
 have bad:∀a b:Int,0<a→x15=(a,b)→False:=fun a b ha e=>by
  subst e
  simp only at h
  rcases bifE h with⟨c,h⟩|⟨_,h⟩
  ·simp only [beq_iff_eq]at c;omega
  ·simp only [Option.some.injEq]at h;omega
 unfold QcQ at hx
 obtain⟨x20,_,hx⟩:=Qb hx
 rcases bifE hx with⟨_,hx⟩|⟨_,hx⟩
 ·exact(bad _ _ (by decide) (Option.some.inj hx).symm).elim
 obtain⟨x22,_,hx⟩:=Qb hx
 rcases bifE hx with⟨_,hx⟩|⟨_,hx⟩
 ·exact(bad _ _ (by decide) (Option.some.inj hx).symm).elim
 obtain⟨x24,h24,hx⟩:=Qb hx
 rcases bifE hx with⟨_,hx⟩|⟨c,hx⟩
 ·exact(bad _ _ (by decide) (Option.some.inj hx).symm).elim
 unfold Qfh at h24
 simp only [Option.some.injEq]at h24
 rw [←h24]at c
 simp only [Bool.not_eq_false',Bool.and_eq_true,decide_eq_true_eq,Qjf]at c
 exact⟨e9,he9,by omega,by omega,by omega,by omega⟩
theorem QqA (l1:List Qr)(n1:TNet)(h:QI n1)(hl:lenL Qat l1):TotP (Qbq l1 n1) fun r=>r.2=0→∀(j:Nat),j<l1.length→Qbp n1 j=some 0:=by
 unfold Qbq
 refine TotP.bind (TotP.up l1.length (fun st=>st) (fun st=>∀(j:Nat),(j:Int)<st→Qbp n1 j=some 0) (Q:=fun q=>(∀a b,q=.inl (a,b)→b≠0)∧(q=.inr ()→∀(j:Nat),j<l1.length→Qbp n1 j=some 0)) rfl (fun j hj=>by omega) (fun i st hi hn hJ=>?_)) (fun q hq=>?_)
 ·show TotP (Qav l1 n1 st) _
  unfold Qav
  refine TotP.bif (fun hc=>?_) (fun hc=>TotP.ok (Ql ⟨fun a b h=>(by cases h),fun _ j hj=>by
   simp only [decide_eq_false_iff_not]at hc
   exact hJ j (by omega)⟩))
  simp only [decide_eq_true_eq]at hc
  refine TotP.bind (TotP.idx (by omega) (by omega)) fun e he=>?_
  refine TotP.bind (P:=fun x=>Qbp n1 st=some x) ?_ fun x hx=>?_
  ·unfold Qf9
   exact TotP.bind (QnU n1 st h).self fun x hx=>TotP.ok hx.1
  refine TotP.bif (fun hc=>TotP.ok (Ql ⟨fun a b h=>(by cases h;simpa using hc),fun h=>(by cases h)⟩)) fun hc=>?_
  simp only [bne_eq_false_iff_eq]at hc
  refine TotP.ok (Qv ⟨by omega,by rw [hi];exact Qt (by omega) hl.1,fun j hj=>?_⟩)
  rw [hi,Qt (show i<l1.length by omega) hl.1]at hj
  by_cases c:j=i
  ·subst c;rw [←hi,hx,hc]
  ·exact hJ j (by omega)
 ·rcases q with q | q
  ·exact TotP.ok fun h=>absurd h (hq.1 q.1 q.2 rfl)
  ·exact TotP.ok fun _=>hq.2 rfl
theorem QvF (n1:TNet)(h:QI n1){p:QdQ}(hn:QdV n1=some (0,p)):∀t∈n1.Tasks,t.Vars.length≤16∧t.Ins.length≤16∧t.Outs.length≤16∧t.Cancel.length≤16:=by
 unfold QdV at hn
 obtain⟨x6,_,hn⟩:=Qb hn
 rcases bifE hn with⟨c,hn⟩|⟨_,hn⟩
 ·simp only [Option.some.injEq,Prod.mk.injEq]at hn;rw [hn.1]at c;cases c
 obtain⟨x8,_,hn⟩:=Qb hn
 rcases bifE hn with⟨c,hn⟩|⟨_,hn⟩
 ·simp only [Option.some.injEq,Prod.mk.injEq]at hn;rw [hn.1]at c;cases c
 obtain⟨x10,_,hn⟩:=Qb hn
 rcases bifE hn with⟨c,hn⟩|⟨_,hn⟩
 ·simp only [Option.some.injEq,Prod.mk.injEq]at hn;rw [hn.1]at c;cases c
 obtain⟨x12,h12,hn⟩:=Qb hn
 rcases bifE hn with⟨c,hn⟩|⟨c,hn⟩
 ·simp only [Option.some.injEq,Prod.mk.injEq]at hn;rw [hn.1]at c;cases c
 simp only [bne_eq_false_iff_eq]at c
 obtain⟨r,hr,hr2⟩:=QqA n1.Tasks n1 h h.2.2.1
 rw [h12]at hr;cases hr
 intro t ht
 obtain⟨j,hj,rfl⟩:=List.mem_iff_getElem.1 ht
 obtain⟨t,h1,h2⟩:=QvE n1 j (hr2 c j hj)
 rw [QY,List.getElem?_eq_getElem hj]at h1
 cases h1
 exact h2
theorem Qxv (n1:TNet)(m:List (List (Int×Int)))(h:QI n1)(hm:lenL (lenL fun _=>True) m):TotP (QfS n1 m) fun r=>r=true→QW n1∧MOk n1 1024 m∧Low n1 m:=by
 unfold QfS
 refine TotP.bind (Qw3 n1 h) fun x5 h5=>?_
 refine TotP.bind (Qw4 m hm.1) fun x6 _=>?_
 refine TotP.bif (fun _=>TotP.ok fun h=>by cases h) fun hc=>?_
 simp only [Bool.or_eq_false_iff,Bool.not_eq_false',decide_eq_false_iff_not]at hc
 have h5:=h5 hc.1
 refine TotP.bind (QsS n1 h).self fun x11 h11=>?_
 refine TotP.bind (P:=fun r=>r=false→QW n1∧MOk n1 1024 m∧Low n1 m) ?_ fun x12 h12=>?_
 ·unfold Qiv
  refine TotP.bif (fun _=>TotP.ok fun h=>by cases h) fun hc1=>?_
  simp only [bne_eq_false_iff_eq]at hc1
  refine TotP.bind (Qtz n1 m h hm) fun r hr=>TotP.ok fun hrf=>⟨⟨h,h5.2.1,by omega,?_⟩,hr (by simpa using hrf)⟩
  obtain⟨a,b⟩:=x11
  simp only at hc1
  subst hc1
  exact QvF n1 h h11.1
 unfold Qeq
 refine TotP.bif (fun _=>TotP.ok fun h=>by cases h) fun hx=>?_
 have hfin:=h12 hx
 refine TotP.mono (P:=fun _=>True) ?_ fun _ _ _=>hfin
 refine TotP.bind (TotP.up n1.Tasks.length (fun st=>st.2) (fun _=>True) (Q:=fun _=>True) rfl trivial (fun i st hi hn _=>?_)) (fun q _=>TotP.okT)
 obtain⟨a,x⟩:=st
 replace hi:x=(i:Int):=hi
 show TotP (Qep n1 a x) _
 unfold Qep
 refine TotP.bif (fun hc=>?_) (fun _=>TotP.ok (Ql trivial))
 simp only [decide_eq_true_eq]at hc
 refine TotP.bind (TotP.idx (by omega) (by omega)) fun e _=>?_
 refine TotP.bind (Qni n1 x h) fun y _=>?_
 exact TotP.ok (Qv ⟨by omega,by subst hi;exact Qt (by omega) h.2.2.1.1,trivial⟩)
end Go.Proofs
