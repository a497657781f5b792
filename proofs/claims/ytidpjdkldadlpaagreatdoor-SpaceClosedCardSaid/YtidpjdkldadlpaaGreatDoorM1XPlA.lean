/- A part of the proof; what it holds is told at each theorem. -/
import Derived.Test.YtidpjdkldadlpaaGreatDoorM1V3
set_option linter.unusedVariables false
set_option linter.unusedSimpArgs false
set_option linter.unusedSectionVars false
set_option linter.deprecated false
namespace Go.Vm
open Go Go.RowKit
theorem QvH (n:Int):w64 n=wrap64 n:=IntWalk.i64_left n
theorem Qca {n:Int}(h:-9223372036854775808≤n∧n≤9223372036854775807):w64 n=n:=IntWalk.i64_in n h
theorem Qxg (a b:Int):w64 (w64 a+b)=w64 (a+b):=by rw [QvH,QvH,QvH];unfold wrap64;omega
theorem Qy {i n:Nat}(h:i<n)(hn:n≤maxLen):w64 ((i:Int)+1)=((i+1:Nat):Int):=by
 unfold maxLen at hn
 rw [Qca (by omega)];omega
theorem Q0 {α:Type}(l:List α)(i:Nat):idx l (i:Int)=l[i]? := by
 unfold idx;rw [if_pos (Int.natCast_nonneg i)];rfl
theorem QkU {α:Type}{l:List α}{j:Int}(h:0≤j):idx l j=l[j.toNat]? := by unfold idx;rw [if_pos h]
theorem Qt4 {α:Type}{l:List α}{j:Int}(h:0≤j)(h2:j<l.length):idx l j=some (l[j.toNat]'(by omega)):=by
 rw [QkU h,Qw (by omega)]
theorem Qz6 {c:Bool}(h:c=true):chk c=some ():=by subst h;rfl
theorem QqN {p:Prop}[Decidable p](h:p):chk (decide p)=some ():=Qz6 (QbW h)
section
variable {κ α:Type}[DecidableEq κ]
theorem Qaw (a:κ)(x:α)(r:List (κ×α))(k:κ):QE ((a,x)::r) k=if a=k then some x else QE r k:=rfl
theorem QA4 {l:List (κ×α)}{k j:κ}{v:α}(h:(QE l k).isSome=true):QE (QhH l k v) j=if j=k then some v else QE l j:=by
 induction l with
 | nil=>cases h
 | cons p l ih=>
  obtain⟨a,x⟩:=p
  rw [Qaw]at h
  rw [QhH]
  split
  ·rename_i e
   subst e
   rw [Qaw,Qaw]
   by_cases c:a=j
   ·subst c;simp
   rw [if_neg c,if_neg (fun e=>c e.symm),if_neg c]
  rename_i hne
  rw [if_neg hne]at h
  rw [Qaw,Qaw,ih h]
  by_cases c:a=j
  ·subst c;simp [hne]
  rw [if_neg c,if_neg c]
theorem QA5 (lt:κ→κ→Bool){l:List (κ×α)}{k j:κ}{v:α}(h:QE l k=none):QE (Qg0 lt l k v) j=if j=k then some v else QE l j:=by
 induction l with
 | nil=>
  rw [Qg0,Qaw]
  by_cases c:j=k
  ·subst c;simp
  rw [if_neg (fun e=>c e.symm),if_neg c]
 | cons p l ih=>
  obtain⟨a,x⟩:=p
  rw [Qaw]at h
  split at h
  ·cases h
  rename_i hne
  rw [Qg0]
  split
  ·rw [Qaw]
   by_cases c:j=k
   ·subst c;simp
   rw [if_neg (fun e=>c e.symm),if_neg c]
  rw [Qaw,Qaw,ih h]
  by_cases c:a=j
  ·subst c;simp [hne]
  rw [if_neg c,if_neg c]
theorem Qkb (lt:κ→κ→Bool)(l:List (κ×α))(k j:κ)(v:α):QE (Qan lt l k v) j=if j=k then some v else QE l j:=by
 unfold Qan
 split
 ·rename_i x hx;exact QA4 (by rw [hx];rfl)
 rename_i hx;exact QA5 lt hx
end
theorem Qzj {σ ρ:Type}{body:σ→Option (σ⊕ρ)}(n:Nat)(I:Nat→σ→Prop)(Post:ρ→Prop)
  (step:∀i s,i<n→I i s→(∃s',body s=some (.inl s')∧I (i+1) s')∨∃r,body s=some (.inr r)∧Post r)
  (last:∀s,I n s→∃r,body s=some (.inr r)∧Post r):∀s,I 0 s→∃r,QK body s=some r∧Post r:=by
 have key:∀k i s,i+k=n→I i s→∃r,QK body s=some r∧Post r:=by
  intro k
  induction k with
  | zero=>
   intro i s hk hI
   obtain rfl:i=n:=by omega
   obtain⟨r,hr,hp⟩:=last s hI
   exact⟨r,by rw [Qeq,hr];rfl,hp⟩
  | succ k ih=>
   intro i s hk hI
   rcases step i s (by omega) hI with⟨s',hb,hI'⟩|⟨r,hb,hp⟩
   ·obtain⟨r,hr,hp⟩:=ih (i+1) s' (by omega) hI'
    exact⟨r,by rw [Qeq,hb];exact hr,hp⟩
   exact⟨r,by rw [Qeq,hb];rfl,hp⟩
 exact fun s hI=>key n 0 s (by omega) hI
def QsG {α τ ρ:Type}(step:Nat→τ→α→τ⊕ρ)(fin:τ→ρ):Nat→τ→List α→ρ
 | _,t,[]=>fin t
 | i,t,x::l=>Sum.elim (fun t'=>QsG step fin (i+1) t' l) (fun r=>r) (step i t x)
theorem Qz7 {α τ ρ σ:Type}{body:σ→Option (σ⊕ρ)}{l:List α}(J:Nat→τ→Prop)(mk:Nat→τ→σ)(step:Nat→τ→α→τ⊕ρ)(fin:τ→ρ)
  (hs:∀i t x,J i t→i<l.length→l[i]? = some x→body (mk i t)=some (Sum.elim (fun t'=>.inl (mk (i+1) t')) .inr (step i t x))∧∀t',step i t x=.inl t'→J (i+1) t')
  (hf:∀t,J l.length t→body (mk l.length t)=some (.inr (fin t))) (t:τ) (hj:J 0 t) {s0:σ} (h0:s0=mk 0 t):QK body s0=some (QsG step fin 0 t l):=by
 subst h0
 have key:∀k i t,i+k=l.length→J i t→QK body (mk i t)=some (QsG step fin i t (l.drop i)):=by
  intro k
  induction k with
  | zero=>
   intro i t hk hj
   obtain rfl:i=l.length:=by omega
   rw [Qeq,hf t hj,List.drop_length];rfl
  | succ k ih=>
   intro i t hk hj
   have hi:i<l.length:=by omega
   obtain⟨h1,h2⟩:=hs i t l[i] hj hi (Qw hi)
   rw [Qeq,h1,Qor hi]
   simp only [QsG]
   cases hst:step i t l[i]with
   | inl t'=>exact ih (i+1) t' (by omega) (h2 t' hst)
   | inr r=>rfl
 exact key l.length 0 t (by omega) hj
theorem QA6 {α τ ρ σ:Type}{body:σ→Option (σ⊕ρ)}{l:List α}(mk:Nat→τ→σ)(step:Nat→τ→α→τ⊕ρ)(fin:τ→ρ)
  (hs:∀i t x,i<l.length→l[i]? = some x→body (mk i t)=some (Sum.elim (fun t'=>.inl (mk (i+1) t')) .inr (step i t x)))
  (hf:∀t,body (mk l.length t)=some (.inr (fin t))) (t:τ) {s0:σ} (h0:s0=mk 0 t):QK body s0=some (QsG step fin 0 t l):=
 Qz7 (fun _ _=>True) mk step fin (fun i t x _ hi hx=>⟨hs i t x hi hx,fun _ _=>trivial⟩) (fun t _=>hf t) t trivial h0
end Go.Vm
