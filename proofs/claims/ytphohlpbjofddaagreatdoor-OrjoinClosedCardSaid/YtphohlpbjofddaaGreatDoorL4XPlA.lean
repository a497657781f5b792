/- A part of the proof; what it holds is told at each theorem. -/
import Derived.Test.YtphohlpbjofddaaGreatDoorL4V3
set_option linter.unusedVariables false
set_option linter.unusedSimpArgs false
set_option linter.unusedSectionVars false
set_option linter.deprecated false
namespace Go.Vm
open Go Go.RowKit
theorem Qrb (n:Int):w64 n=wrap64 n:=IntWalk.i64_left n
theorem Qcn {n:Int}(h:-9223372036854775808≤n∧n≤9223372036854775807):w64 n=n:=IntWalk.i64_in n h
theorem QsA (a b:Int):w64 (w64 a+b)=w64 (a+b):=by rw [Qrb,Qrb,Qrb];unfold wrap64;omega
theorem Qu {i n:Nat}(h:i<n)(hn:n≤maxLen):w64 ((i:Int)+1)=((i+1:Nat):Int):=by
 unfold maxLen at hn
 rw [Qcn (by omega)];omega
theorem QX {α:Type}(l:List α)(i:Nat):idx l (i:Int)=l[i]? := by
 unfold idx;rw [if_pos (Int.natCast_nonneg i)];rfl
theorem QlG {α:Type}{l:List α}{j:Int}(h:0≤j):idx l j=l[j.toNat]? := by unfold idx;rw [if_pos h]
theorem QpM {α:Type}{l:List α}{j:Int}(h:0≤j)(h2:j<l.length):idx l j=some (l[j.toNat]'(by omega)):=by
 rw [QlG h,List.getElem?_eq_getElem (by omega)]
theorem Qvb {c:Bool}(h:c=true):chk c=some ():=by subst h;rfl
theorem QrW {p:Prop}[Decidable p](h:p):chk (decide p)=some ():=Qvb (decide_eq_true h)
section
variable {κ α:Type}[DecidableEq κ]
theorem Qac (a:κ)(x:α)(r:List (κ×α))(k:κ):mget ((a,x)::r) k=if a=k then some x else mget r k:=rfl
theorem QvU {l:List (κ×α)}{k j:κ}{v:α}(h:(mget l k).isSome=true):mget (mrep l k v) j=if j=k then some v else mget l j:=by
 induction l with
 | nil=>cases h
 | cons p l ih=>
  obtain⟨a,x⟩:=p
  rw [Qac]at h
  rw [mrep]
  split
  ·rename_i e
   subst e
   rw [Qac,Qac]
   by_cases c:a=j
   ·subst c;simp
   ·rw [if_neg c,if_neg (fun e=>c e.symm),if_neg c]
  ·rename_i hne
   rw [if_neg hne]at h
   rw [Qac,Qac,ih h]
   by_cases c:a=j
   ·subst c;simp [hne]
   ·rw [if_neg c,if_neg c]
theorem QvV (lt:κ→κ→Bool){l:List (κ×α)}{k j:κ}{v:α}(h:mget l k=none):mget (mins lt l k v) j=if j=k then some v else mget l j:=by
 induction l with
 | nil=>
  rw [mins,Qac]
  by_cases c:j=k
  ·subst c;simp
  ·rw [if_neg (fun e=>c e.symm),if_neg c]
 | cons p l ih=>
  obtain⟨a,x⟩:=p
  rw [Qac]at h
  split at h
  ·cases h
  ·rename_i hne
   rw [mins]
   split
   ·rw [Qac]
    by_cases c:j=k
    ·subst c;simp
    ·rw [if_neg (fun e=>c e.symm),if_neg c]
   ·rw [Qac,Qac,ih h]
    by_cases c:a=j
    ·subst c;simp [hne]
    ·rw [if_neg c,if_neg c]
theorem QkF (lt:κ→κ→Bool)(l:List (κ×α))(k j:κ)(v:α):mget (mset lt l k v) j=if j=k then some v else mget l j:=by
 unfold mset
 split
 ·rename_i x hx;exact QvU (by rw [hx];rfl)
 ·rename_i hx;exact QvV lt hx
end
theorem Qus {σ ρ:Type}{body:σ→Option (σ⊕ρ)}(n:Nat)(I:Nat→σ→Prop)(Post:ρ→Prop)
  (step:∀i s,i<n→I i s→(∃s',body s=some (.inl s')∧I (i+1) s')∨∃r,body s=some (.inr r)∧Post r)
  (last:∀s,I n s→∃r,body s=some (.inr r)∧Post r):∀s,I 0 s→∃r,QA body s=some r∧Post r:=by
 have key:∀k i s,i+k=n→I i s→∃r,QA body s=some r∧Post r:=by
  intro k
  induction k with
  | zero=>
   intro i s hk hI
   obtain rfl:i=n:=by omega
   obtain⟨r,hr,hp⟩:=last s hI
   exact⟨r,by rw [QdR,hr];rfl,hp⟩
  | succ k ih=>
   intro i s hk hI
   rcases step i s (by omega) hI with⟨s',hb,hI'⟩|⟨r,hb,hp⟩
   ·obtain⟨r,hr,hp⟩:=ih (i+1) s' (by omega) hI'
    exact⟨r,by rw [QdR,hb];exact hr,hp⟩
   ·exact⟨r,by rw [QdR,hb];rfl,hp⟩
 exact fun s hI=>key n 0 s (by omega) hI
def QoI {α τ ρ:Type}(step:Nat→τ→α→τ⊕ρ)(fin:τ→ρ):Nat→τ→List α→ρ
 | _,t,[]=>fin t
 | i,t,x::l=>Sum.elim (fun t'=>QoI step fin (i+1) t' l) (fun r=>r) (step i t x)
theorem Qvc {α τ ρ σ:Type}{body:σ→Option (σ⊕ρ)}{l:List α}(J:Nat→τ→Prop)(mk:Nat→τ→σ)(step:Nat→τ→α→τ⊕ρ)(fin:τ→ρ)
  (hs:∀i t x,J i t→i<l.length→l[i]? = some x→body (mk i t)=some (Sum.elim (fun t'=>.inl (mk (i+1) t')) .inr (step i t x))∧∀t',step i t x=.inl t'→J (i+1) t')
  (hf:∀t,J l.length t→body (mk l.length t)=some (.inr (fin t))) (t:τ) (hj:J 0 t) {s0:σ} (h0:s0=mk 0 t):QA body s0=some (QoI step fin 0 t l):=by
 subst h0
 have key:∀k i t,i+k=l.length→J i t→QA body (mk i t)=some (QoI step fin i t (l.drop i)):=by
  intro k
  induction k with
  | zero=>
   intro i t hk hj
   obtain rfl:i=l.length:=by omega
   rw [QdR,hf t hj,List.drop_length];rfl
  | succ k ih=>
   intro i t hk hj
   have hi:i<l.length:=by omega
   obtain⟨h1,h2⟩:=hs i t l[i] hj hi (List.getElem?_eq_getElem hi)
   rw [QdR,h1,List.drop_eq_getElem_cons hi]
   simp only [QoI]
   cases hst:step i t l[i]with
   | inl t'=>exact ih (i+1) t' (by omega) (h2 t' hst)
   | inr r=>rfl
 exact key l.length 0 t (by omega) hj
theorem QvW {α τ ρ σ:Type}{body:σ→Option (σ⊕ρ)}{l:List α}(mk:Nat→τ→σ)(step:Nat→τ→α→τ⊕ρ)(fin:τ→ρ)
  (hs:∀i t x,i<l.length→l[i]? = some x→body (mk i t)=some (Sum.elim (fun t'=>.inl (mk (i+1) t')) .inr (step i t x)))
  (hf:∀t,body (mk l.length t)=some (.inr (fin t))) (t:τ) {s0:σ} (h0:s0=mk 0 t):QA body s0=some (QoI step fin 0 t l):=
 Qvc (fun _ _=>True) mk step fin (fun i t x _ hi hx=>⟨hs i t x hi hx,fun _ _=>trivial⟩) (fun t _=>hf t) t trivial h0
end Go.Vm
