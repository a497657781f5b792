/- A part of the proof; what it holds is told at each theorem. -/
import Derived.Test.YtidpjdkldadlpaaGreatDoorM3V3
set_option linter.unusedVariables false
set_option linter.unusedSimpArgs false
set_option linter.unusedSectionVars false
set_option linter.deprecated false
namespace Go.Vm
open Go Go.RowKit
theorem QvU (n:Int):w64 n=wrap64 n:=IntWalk.i64_left n
theorem QbY {n:Int}(h:-9223372036854775808≤n∧n≤9223372036854775807):w64 n=n:=IntWalk.i64_in n h
theorem Qxw (a b:Int):w64 (w64 a+b)=w64 (a+b):=by rw [QvU,QvU,QvU];unfold wrap64;omega
theorem Qz {i n:Nat}(h:i<n)(hn:n≤maxLen):w64 ((i:Int)+1)=((i+1:Nat):Int):=by
 unfold maxLen at hn
 rw [QbY (by omega)];omega
theorem Q4 {α:Type}(l:List α)(i:Nat):idx l (i:Int)=l[i]? := by
 unfold idx;rw [if_pos (Int.natCast_nonneg i)];rfl
theorem Qk4 {α:Type}{l:List α}{j:Int}(h:0≤j):idx l j=l[j.toNat]? := by unfold idx;rw [if_pos h]
theorem Qub {α:Type}{l:List α}{j:Int}(h:0≤j)(h2:j<l.length):idx l j=some (l[j.toNat]'(by omega)):=by
 rw [Qk4 h,QB (by omega)]
theorem QwG {c:Bool}(h:c=true):chk c=some ():=by subst h;rfl
theorem QmW {p:Prop}[Decidable p](h:p):chk (decide p)=some ():=QwG (QbW h)
section
variable {κ α:Type}[DecidableEq κ]
theorem Qat (a:κ)(x:α)(r:List (κ×α))(k:κ):Qv ((a,x)::r) k=if a=k then some x else Qv r k:=rfl
theorem QBB {l:List (κ×α)}{k j:κ}{v:α}(h:(Qv l k).isSome=true):Qv (QhF l k v) j=if j=k then some v else Qv l j:=by
 induction l with
 | nil=>cases h
 | cons p l ih=>
  obtain⟨a,x⟩:=p
  rw [Qat]at h
  rw [QhF]
  split
  ·rename_i e
   subst e
   rw [Qat,Qat]
   by_cases c:a=j
   ·subst c;simp
   rw [if_neg c,if_neg (fun e=>c e.symm),if_neg c]
  rename_i hne
  rw [if_neg hne]at h
  rw [Qat,Qat,ih h]
  by_cases c:a=j
  ·subst c;simp [hne]
  rw [if_neg c,if_neg c]
theorem QBC (lt:κ→κ→Bool){l:List (κ×α)}{k j:κ}{v:α}(h:Qv l k=none):Qv (Qg1 lt l k v) j=if j=k then some v else Qv l j:=by
 induction l with
 | nil=>
  rw [Qg1,Qat]
  by_cases c:j=k
  ·subst c;simp
  rw [if_neg (fun e=>c e.symm),if_neg c]
 | cons p l ih=>
  obtain⟨a,x⟩:=p
  rw [Qat]at h
  split at h
  ·cases h
  rename_i hne
  rw [Qg1]
  split
  ·rw [Qat]
   by_cases c:j=k
   ·subst c;simp
   rw [if_neg (fun e=>c e.symm),if_neg c]
  rw [Qat,Qat,ih h]
  by_cases c:a=j
  ·subst c;simp [hne]
  rw [if_neg c,if_neg c]
theorem Qc0 (lt:κ→κ→Bool)(l:List (κ×α))(k j:κ)(v:α):Qv (Qag lt l k v) j=if j=k then some v else Qv l j:=by
 unfold Qag
 split
 ·rename_i x hx;exact QBB (by rw [hx];rfl)
 rename_i hx;exact QBC lt hx
end
theorem QrO {σ ρ:Type}{body:σ→Option (σ⊕ρ)}(n:Nat)(I:Nat→σ→Prop)(Post:ρ→Prop)
  (step:∀i s,i<n→I i s→(∃s',body s=some (.inl s')∧I (i+1) s')∨∃r,body s=some (.inr r)∧Post r)
  (last:∀s,I n s→∃r,body s=some (.inr r)∧Post r):∀s,I 0 s→∃r,QJ body s=some r∧Post r:=by
 have key:∀k i s,i+k=n→I i s→∃r,QJ body s=some r∧Post r:=by
  intro k
  induction k with
  | zero=>
   intro i s hk hI
   obtain rfl:i=n:=by omega
   obtain⟨r,hr,hp⟩:=last s hI
   exact⟨r,by rw [Qdf,hr];rfl,hp⟩
  | succ k ih=>
   intro i s hk hI
   rcases step i s (by omega) hI with⟨s',hb,hI'⟩|⟨r,hb,hp⟩
   ·obtain⟨r,hr,hp⟩:=ih (i+1) s' (by omega) hI'
    exact⟨r,by rw [Qdf,hb];exact hr,hp⟩
   exact⟨r,by rw [Qdf,hb];rfl,hp⟩
 exact fun s hI=>key n 0 s (by omega) hI
def QlP {α τ ρ:Type}(step:Nat→τ→α→τ⊕ρ)(fin:τ→ρ):Nat→τ→List α→ρ
 | _,t,[]=>fin t
 | i,t,x::l=>Sum.elim (fun t'=>QlP step fin (i+1) t' l) (fun r=>r) (step i t x)
theorem QwH {α τ ρ σ:Type}{body:σ→Option (σ⊕ρ)}{l:List α}(J:Nat→τ→Prop)(mk:Nat→τ→σ)(step:Nat→τ→α→τ⊕ρ)(fin:τ→ρ)
  (hs:∀i t x,J i t→i<l.length→l[i]? = some x→body (mk i t)=some (Sum.elim (fun t'=>.inl (mk (i+1) t')) .inr (step i t x))∧∀t',step i t x=.inl t'→J (i+1) t')
  (hf:∀t,J l.length t→body (mk l.length t)=some (.inr (fin t))) (t:τ) (hj:J 0 t) {s0:σ} (h0:s0=mk 0 t):QJ body s0=some (QlP step fin 0 t l):=by
 subst h0
 have key:∀k i t,i+k=l.length→J i t→QJ body (mk i t)=some (QlP step fin i t (l.drop i)):=by
  intro k
  induction k with
  | zero=>
   intro i t hk hj
   obtain rfl:i=l.length:=by omega
   rw [Qdf,hf t hj,List.drop_length];rfl
  | succ k ih=>
   intro i t hk hj
   have hi:i<l.length:=by omega
   obtain⟨h1,h2⟩:=hs i t l[i] hj hi (QB hi)
   rw [Qdf,h1,Qnx hi]
   simp only [QlP]
   cases hst:step i t l[i]with
   | inl t'=>exact ih (i+1) t' (by omega) (h2 t' hst)
   | inr r=>rfl
 exact key l.length 0 t (by omega) hj
theorem QxZ {α τ ρ σ:Type}{body:σ→Option (σ⊕ρ)}{l:List α}(mk:Nat→τ→σ)(step:Nat→τ→α→τ⊕ρ)(fin:τ→ρ)
  (hs:∀i t x,i<l.length→l[i]? = some x→body (mk i t)=some (Sum.elim (fun t'=>.inl (mk (i+1) t')) .inr (step i t x)))
  (hf:∀t,body (mk l.length t)=some (.inr (fin t))) (t:τ) {s0:σ} (h0:s0=mk 0 t):QJ body s0=some (QlP step fin 0 t l):=
 QwH (fun _ _=>True) mk step fin (fun i t x _ hi hx=>⟨hs i t x hi hx,fun _ _=>trivial⟩) (fun t _=>hf t) t trivial h0
def QfG {α:Type}(p:α→Bool):Nat→List α→List Int
 | _,[]=>[]
 | i,x::l=>bif p x then(i:Int)::QfG p (i+1) l else QfG p (i+1) l
theorem Qy3 {α:Type}{p:α→Bool}{j:Int}:∀{l:List α} {k:Nat},j∈QfG p k l↔∃i x,l[i]? = some x∧p x=true∧j=((k+i:Nat):Int):=by
 intro l
 induction l with
 | nil=>intro k;simp [QfG]
 | cons y l ih=>
  intro k
  have e:(∃i x,(y::l)[i]? = some x∧p x=true∧j=((k+i:Nat):Int))↔(p y=true∧j=(k:Int))∨∃i x,l[i]? = some x∧p x=true∧j=((k+1+i:Nat):Int):=by
   constructor
   ·rintro ⟨i,x,h1,h2,h3⟩
    cases i with
    | zero=>cases h1;exact .inl ⟨h2,h3⟩
    | succ i=>exact .inr ⟨i,x,h1,h2,by rw [h3];congr 1;omega⟩
   rintro (⟨h1,h2⟩|⟨i,x,h1,h2,h3⟩)
   ·exact⟨0,y,rfl,h1,h2⟩
   exact⟨i+1,x,h1,h2,by rw [h3];congr 1;omega⟩
  rw [e,QfG,←ih]
  cases p y<;>simp
theorem Qy4 {α:Type}{body:Int×List Int→Option ((Int×List Int)⊕List Int)}{l:List α}(p:α→Bool)
  (hs:∀i acc x,acc.length≤i→i<l.length→l[i]? = some x→body ((i:Int),acc)=some (.inl (((i+1:Nat):Int),bif p x then acc++[(i:Int)]else acc)))
  (hf:∀acc,body ((l.length:Int),acc)=some (.inr acc)):QJ body (0,[])=some (QfG p 0 l):=by
 rw [QwH (l:=l) (fun i (acc:List Int)=>acc.length≤i) (fun i acc=>((i:Int),acc)) (fun i acc x=>.inl (bif p x then acc++[(i:Int)]else acc)) (fun acc=>acc) ?_ (fun t _=>hf t) [] (QbT _) (s0:=(0,[])) rfl]
 ·have:∀(l:List α) k acc,QlP (fun i acc x=>(.inl (bif p x then acc++[(i:Int)]else acc):List Int⊕List Int)) (fun acc=>acc) k acc l=acc++QfG p k l:=by
   intro l
   induction l with
   | nil=>intro k acc;simp [QlP,QfG]
   | cons x l ih=>
    intro k acc
    rw [QlP,QfG,Sum.elim_inl,ih]
    cases p x<;>simp
  rw [this];rfl
 intro i acc x hj hi hx
 refine⟨hs i acc x hj hi hx,fun t' ht=>?_⟩
 cases ht
 cases p x
 ·simpa using Nat.le_succ_of_le hj
 simpa using hj
def QmX {α:Type}(p:Nat→α→Bool):Nat→List α→Option Nat
 | _,[]=>none
 | i,x::l=>bif p i x then some i else QmX p (i+1) l
theorem QBD {α ρ σ:Type}{body:σ→Option (σ⊕ρ)}{l:List α}(mk:Nat→σ)(p:Nat→α→Bool)(r1:Nat→ρ)(r2:ρ)
  (hs:∀i x,i<l.length→l[i]? = some x→body (mk i)=some (bif p i x then .inr (r1 i)else .inl (mk (i+1))))
  (hf:body (mk l.length)=some (.inr r2)) {s0:σ} (h0:s0=mk 0):QJ body s0=some ((QmX p 0 l).elim r2 r1):=by
 subst h0
 have h:=QxZ (body:=body) (l:=l) (fun i (_:Unit)=>mk i) (fun i _ x=>bif p i x then .inr (r1 i)else .inl ()) (fun _=>r2) (fun i _ x hi hx=>by rw [hs i x hi hx];cases p i x<;>rfl) (fun _=>hf) () rfl
 rw [h]
 congr 1
 have:∀(l:List α) k,QlP (fun i (_:Unit) x=>bif p i x then .inr (r1 i)else .inl ()) (fun _=>r2) k () l=(QmX p k l).elim r2 r1:=by
  intro l
  induction l with
  | nil=>intro k;rfl
  | cons x l ih=>
   intro k
   rw [QlP,QmX]
   cases p k x with
   | true=>rfl
   | false=>exact ih (k+1)
 exact this l 0
theorem QAy {α:Type}{p:Nat→α→Bool}:∀{l:List α} {k n:Nat},QmX p k l=some n→∃i x,n=k+i∧l[i]? = some x∧p n x=true:=by
 intro l
 induction l with
 | nil=>intro k n h;cases h
 | cons y l ih=>
  intro k n h
  rw [QmX]at h
  cases hp:p k y with
  | true=>rw [hp]at h;cases h;exact⟨0,y,rfl,rfl,hp⟩
  | false=>
   rw [hp]at h
   obtain⟨i,x,h1,h2,h3⟩:=ih h
   exact⟨i+1,x,by omega,h2,h3⟩
theorem QAz {α:Type}{p:Nat→α→Bool}:∀{l:List α} {k:Nat},QmX p k l=none→∀i x,l[i]? = some x→p (k+i) x=false:=by
 intro l
 induction l with
 | nil=>intro k h i x hx;simp at hx
 | cons y l ih=>
  intro k h i x hx
  rw [QmX]at h
  cases hp:p k y with
  | true=>rw [hp]at h;cases h
  | false=>
   rw [hp]at h
   cases i with
   | zero=>cases hx;exact hp
   | succ i=>have:=ih h i x hx;rw [←this];congr 1;omega
end Go.Vm
