/- A part of the proof; what it holds is told at each theorem. -/
import Derived.Test.YtpijolohkdchcaaGreatDoorD1V3
set_option linter.unusedVariables false
set_option linter.unusedSimpArgs false
set_option linter.unusedSectionVars false
set_option linter.deprecated false
namespace Go.Vm
open Go Go.RowKit
theorem Qwu (n:Int):w64 n=wrap64 n:=IntWalk.i64_left n
theorem QaK {n:Int}(h:-9223372036854775808<=n/\n<=9223372036854775807):w64 n=n:=IntWalk.i64_in n h
theorem Qx {i n:Nat}(h:i<n)(hn:n<=maxLen):w64 ((i:Int)+1)=((i+1:Nat):Int):=by
 unfold maxLen at hn
 rw [QaK (by omega)];omega
theorem Q7 {α:Type}(l:List α)(i:Nat):idx l (i:Int)=l[i]? := by
 unfold idx;rw [if_pos (Int.natCast_nonneg i)];rfl
theorem Qma {α:Type}{l:List α}{j:Int}(h:0<=j):idx l j=l[j.toNat]? := by unfold idx;rw [if_pos h]
theorem Qm1 {α:Type}{l:List α}{j:Int}(h:0<=j)(h2:j<l.length):idx l j=some (l[j.toNat]'(by omega)):=by
 rw [Qma h,QM (by omega)]
theorem QnM {c:Bool}(h:c=true):chk c=some ():=by subst h;rfl
theorem Qf4 {p:Prop}[Decidable p](h:p):chk (decide p)=some ():=QnM (QH h)
section
variable {κ α:Type}[DecidableEq κ]
theorem Qar (a:κ)(x:α)(r:List (κ×α))(k:κ):QV ((a,x)::r) k=if a=k then some x else QV r k:=rfl
theorem QBX {l:List (κ×α)}{k j:κ}{v:α}(h:(QV l k).isSome=true):QV (QlS l k v) j=if j=k then some v else QV l j:=by
 induction l with
 | nil=>cases h
 | cons p l ih=>
  obtain⟨a,x⟩:=p
  rw [Qar]at h
  rw [QlS]
  split
  ·rename_i e
   subst e
   rw [Qar,Qar]
   by_cases c:a=j
   ·subst c;simp
   rw [if_neg c,if_neg (fun e=>c e.symm),if_neg c]
  rename_i hne
  rw [if_neg hne]at h
  rw [Qar,Qar,ih h]
  by_cases c:a=j
  ·subst c;simp [hne]
  rw [if_neg c,if_neg c]
theorem QBY (lt:κ->κ->Bool){l:List (κ×α)}{k j:κ}{v:α}(h:QV l k=none):QV (QlR lt l k v) j=if j=k then some v else QV l j:=by
 induction l with
 | nil=>
  rw [QlR,Qar]
  by_cases c:j=k
  ·subst c;simp
  rw [if_neg (fun e=>c e.symm),if_neg c]
 | cons p l ih=>
  obtain⟨a,x⟩:=p
  rw [Qar]at h
  split at h
  ·cases h
  rename_i hne
  rw [QlR]
  split
  ·rw [Qar]
   by_cases c:j=k
   ·subst c;simp
   rw [if_neg (fun e=>c e.symm),if_neg c]
  rw [Qar,Qar,ih h]
  by_cases c:a=j
  ·subst c;simp [hne]
  rw [if_neg c,if_neg c]
theorem Qmb (lt:κ->κ->Bool)(l:List (κ×α))(k j:κ)(v:α):QV (Qcv lt l k v) j=if j=k then some v else QV l j:=by
 unfold Qcv
 split
 ·rename_i x hx;exact QBX (by rw [hx];rfl)
 rename_i hx;exact QBY lt hx
end
theorem QhB {σ ρ:Type}{body:σ->Option (σ⊕ρ)}(n:Nat)(I:Nat->σ->Prop)(Post:ρ->Prop)
  (step:∀i s,i<n->I i s->(∃s',body s=some (.inl s')/\I (i+1) s')\/∃r,body s=some (.inr r)/\Post r)
  (last:∀s,I n s->∃r,body s=some (.inr r)/\Post r):∀s,I 0 s->∃r,Qy body s=some r/\Post r:=by
 have key:∀k i s,i+k=n->I i s->∃r,Qy body s=some r/\Post r:=by
  intro k
  induction k with
  | zero=>
   intro i s hk hI
   obtain rfl:i=n:=by omega
   obtain⟨r,hr,hp⟩:=last s hI
   exact⟨r,by rw [QbN,hr];rfl,hp⟩
  | succ k ih=>
   intro i s hk hI
   rcases step i s (by omega) hI with⟨s',hb,hI'⟩|⟨r,hb,hp⟩
   ·obtain⟨r,hr,hp⟩:=ih (i+1) s' (by omega) hI'
    exact⟨r,by rw [QbN,hb];exact hr,hp⟩
   exact⟨r,by rw [QbN,hb];rfl,hp⟩
 exact fun s hI=>key n 0 s (by omega) hI
def QgI {α τ ρ:Type}(step:Nat->τ->α->τ⊕ρ)(fin:τ->ρ):Nat->τ->List α->ρ
 | _,t,[]=>fin t
 | i,t,x::l=>Sum.elim (fun t'=>QgI step fin (i+1) t' l) (fun r=>r) (step i t x)
theorem QBe {α τ ρ σ:Type}{body:σ->Option (σ⊕ρ)}{l:List α}(J:Nat->τ->Prop)(mk:Nat->τ->σ)(step:Nat->τ->α->τ⊕ρ)(fin:τ->ρ)
  (hs:∀i t x,J i t->i<l.length->l[i]? = some x->body (mk i t)=some (Sum.elim (fun t'=>.inl (mk (i+1) t')) .inr (step i t x))/\∀t',step i t x=.inl t'->J (i+1) t')
  (hf:∀t,J l.length t->body (mk l.length t)=some (.inr (fin t))) (t:τ) (hj:J 0 t) {s0:σ} (h0:s0=mk 0 t):Qy body s0=some (QgI step fin 0 t l):=by
 subst h0
 have key:∀k i t,i+k=l.length->J i t->Qy body (mk i t)=some (QgI step fin i t (l.drop i)):=by
  intro k
  induction k with
  | zero=>
   intro i t hk hj
   obtain rfl:i=l.length:=by omega
   rw [QbN,hf t hj,List.drop_length];rfl
  | succ k ih=>
   intro i t hk hj
   have hi:i<l.length:=by omega
   obtain⟨h1,h2⟩:=hs i t l[i] hj hi (QM hi)
   rw [QbN,h1,List.drop_eq_getElem_cons hi]
   simp only [QgI]
   cases hst:step i t l[i]with
   | inl t'=>exact ih (i+1) t' (by omega) (h2 t' hst)
   | inr r=>rfl
 exact key l.length 0 t (by omega) hj
theorem Qmc {α τ ρ σ:Type}{body:σ->Option (σ⊕ρ)}{l:List α}(mk:Nat->τ->σ)(step:Nat->τ->α->τ⊕ρ)(fin:τ->ρ)
  (hs:∀i t x,i<l.length->l[i]? = some x->body (mk i t)=some (Sum.elim (fun t'=>.inl (mk (i+1) t')) .inr (step i t x)))
  (hf:∀t,body (mk l.length t)=some (.inr (fin t))) (t:τ) {s0:σ} (h0:s0=mk 0 t):Qy body s0=some (QgI step fin 0 t l):=
 QBe (fun _ _=>True) mk step fin (fun i t x _ hi hx=>⟨hs i t x hi hx,fun _ _=>trivial⟩) (fun t _=>hf t) t trivial h0
def Qm2 {α:Type}(bad:Nat->α->Bool):Nat->List α->Bool
 | _,[]=>false
 | i,x::l=>bad i x||Qm2 bad (i+1) l
theorem Qwv {α:Type}{bad:Nat->α->Bool}:∀{l:List α} {k:Nat},Qm2 bad k l=true↔∃i x,l[i]? = some x/\bad (k+i) x=true:=by
 intro l
 induction l with
 | nil=>intro k;exact⟨fun h=>(by cases h),fun ⟨i,x,h,_⟩=>(by simp at h)⟩
 | cons y l ih=>
  intro k
  rw [Qm2,QcM,ih]
  constructor
  ·rintro (h | ⟨i,x,h1,h2⟩)
   ·exact⟨0,y,rfl,h⟩
   exact⟨i+1,x,h1,by rw [<-h2];congr 1;omega⟩
  rintro ⟨i,x,h1,h2⟩
  cases i with
  | zero=>cases h1;exact .inl h2
  | succ i=>exact .inr ⟨i,x,h1,by rw [<-h2];congr 1;omega⟩
theorem Qs5 {α:Type}{bad:Nat->α->Bool}{l:List α}:Qm2 bad 0 l=false↔∀i x,l[i]? = some x->bad i x=false:=by
 rw [<-QiS,Qwv]
 simp only [Qmk,not_exists,not_and,QiS]
theorem Qqk {α ρ σ:Type}{body:σ->Option (σ⊕ρ)}{l:List α}(mk:Nat->σ)(bad:Nat->α->Bool)(r1 r2:ρ)
  (hs:∀i x,i<l.length->l[i]? = some x->body (mk i)=some (bif bad i x then .inr r1 else .inl (mk (i+1))))
  (hf:body (mk l.length)=some (.inr r2)) {s0:σ} (h0:s0=mk 0):Qy body s0=some (bif Qm2 bad 0 l then r1 else r2):=by
 subst h0
 have h:=Qmc (body:=body) (l:=l) (fun i (_:Unit)=>mk i) (fun i _ x=>bif bad i x then .inr r1 else .inl ()) (fun _=>r2) (fun i _ x hi hx=>by rw [hs i x hi hx];cases bad i x<;>rfl) (fun _=>hf) () rfl
 rw [h]
 congr 1
 have:∀(l:List α) k,QgI (fun i (_:Unit) x=>bif bad i x then .inr r1 else .inl ()) (fun _=>r2) k () l=bif Qm2 bad k l then r1 else r2:=by
  intro l
  induction l with
  | nil=>intro k;rfl
  | cons x l ih=>
   intro k
   rw [QgI,Qm2]
   cases bad k x with
   | true=>rfl
   | false=>exact ih (k+1)
 exact this l 0
def QkR {α:Type}(p:Nat->α->Bool):Nat->List α->Option Nat
 | _,[]=>none
 | i,x::l=>bif p i x then some i else QkR p (i+1) l
theorem QBZ {α ρ σ:Type}{body:σ->Option (σ⊕ρ)}{l:List α}(mk:Nat->σ)(p:Nat->α->Bool)(r1:Nat->ρ)(r2:ρ)
  (hs:∀i x,i<l.length->l[i]? = some x->body (mk i)=some (bif p i x then .inr (r1 i)else .inl (mk (i+1))))
  (hf:body (mk l.length)=some (.inr r2)) {s0:σ} (h0:s0=mk 0):Qy body s0=some ((QkR p 0 l).elim r2 r1):=by
 subst h0
 have h:=Qmc (body:=body) (l:=l) (fun i (_:Unit)=>mk i) (fun i _ x=>bif p i x then .inr (r1 i)else .inl ()) (fun _=>r2) (fun i _ x hi hx=>by rw [hs i x hi hx];cases p i x<;>rfl) (fun _=>hf) () rfl
 rw [h]
 congr 1
 have:∀(l:List α) k,QgI (fun i (_:Unit) x=>bif p i x then .inr (r1 i)else .inl ()) (fun _=>r2) k () l=(QkR p k l).elim r2 r1:=by
  intro l
  induction l with
  | nil=>intro k;rfl
  | cons x l ih=>
   intro k
   rw [QgI,QkR]
   cases p k x with
   | true=>rfl
   | false=>exact ih (k+1)
 exact this l 0
theorem QBf {α:Type}{p:Nat->α->Bool}:∀{l:List α} {k n:Nat},QkR p k l=some n->∃i x,n=k+i/\l[i]? = some x/\p n x=true:=by
 intro l
 induction l with
 | nil=>intro k n h;cases h
 | cons y l ih=>
  intro k n h
  rw [QkR]at h
  cases hp:p k y with
  | true=>rw [hp]at h;cases h;exact⟨0,y,rfl,rfl,hp⟩
  | false=>
   rw [hp]at h
   obtain⟨i,x,h1,h2,h3⟩:=ih h
   exact⟨i+1,x,by omega,h2,h3⟩
theorem QBh {α:Type}{p:Nat->α->Bool}:∀{l:List α} {k:Nat},QkR p k l=none->∀i x,l[i]? = some x->p (k+i) x=false:=by
 intro l
 induction l with
 | nil=>intro k h i x hx;simp at hx
 | cons y l ih=>
  intro k h i x hx
  rw [QkR]at h
  cases hp:p k y with
  | true=>rw [hp]at h;cases h
  | false=>
   rw [hp]at h
   cases i with
   | zero=>cases hx;exact hp
   | succ i=>have:=ih h i x hx;rw [<-this];congr 1;omega
end Go.Vm
