/- A part of the proof; what it holds is told at each theorem. -/
import Derived.Test.YtbfgchciebcbpaaGreatDoorB1V3
set_option linter.unusedVariables false
set_option linter.unusedSimpArgs false
set_option linter.unusedSectionVars false
set_option linter.deprecated false
namespace Go.Vm
open Go Go.RowKit
theorem Qac {n:Int}(h:-9223372036854775808≤n∧n≤9223372036854775807):w64 n=n:=IntWalk.i64_in n h
theorem Qx {i n:Nat}(h:i<n)(hn:n≤maxLen):w64 ((i:Int)+1)=((i+1:Nat):Int):=by
 unfold maxLen at hn
 rw [Qac (by omega)];omega
theorem QB {α:Type}(l:List α)(i:Nat):idx l (i:Int)=l[i]? := by
 unfold idx;rw [if_pos (Int.natCast_nonneg i)];rfl
theorem QrY {α:Type}{l:List α}{j:Int}(h:0≤j):idx l j=l[j.toNat]? := by unfold idx;rw [if_pos h]
theorem Qn6 {α:Type}{l:List α}{j:Int}(h:0≤j)(h2:j<l.length):idx l j=some (l[j.toNat]'(by omega)):=by
 rw [QrY h,QD (by omega)]
theorem QdQ {c:Bool}(h:c=true):chk c=some ():=by subst h;rfl
theorem Qjy {p:Prop}[Decidable p](h:p):chk (decide p)=some ():=QdQ (Qaa h)
section
variable {κ α:Type}[DecidableEq κ]
theorem QuY (a:κ)(x:α)(r:List (κ×α))(k:κ):QbJ ((a,x)::r) k=if a=k then some x else QbJ r k:=rfl
end
theorem QbB {σ ρ:Type}{body:σ→Option (σ⊕ρ)}(n:Nat)(I:Nat→σ→Prop)(Post:ρ→Prop)
  (step:∀i s,i<n→I i s→(∃s',body s=some (.inl s')∧I (i+1) s')∨∃r,body s=some (.inr r)∧Post r)
  (last:∀s,I n s→∃r,body s=some (.inr r)∧Post r):∀s,I 0 s→∃r,Qq body s=some r∧Post r:=by
 have key:∀k i s,i+k=n→I i s→∃r,Qq body s=some r∧Post r:=by
  intro k
  induction k with
  | zero=>
   intro i s hk hI
   obtain rfl:i=n:=by omega
   obtain⟨r,hr,hp⟩:=last s hI
   exact⟨r,by rw [QbY,hr];rfl,hp⟩
  | succ k ih=>
   intro i s hk hI
   rcases step i s (by omega) hI with⟨s',hb,hI'⟩|⟨r,hb,hp⟩
   ·obtain⟨r,hr,hp⟩:=ih (i+1) s' (by omega) hI'
    exact⟨r,by rw [QbY,hb];exact hr,hp⟩
   exact⟨r,by rw [QbY,hb];rfl,hp⟩
 exact fun s hI=>key n 0 s (by omega) hI
def Qli {α τ ρ:Type}(step:Nat→τ→α→τ⊕ρ)(fin:τ→ρ):Nat→τ→List α→ρ
 | _,t,[]=>fin t
 | i,t,x::l=>Sum.elim (fun t'=>Qli step fin (i+1) t' l) (fun r=>r) (step i t x)
theorem Qxk {α τ ρ σ:Type}{body:σ→Option (σ⊕ρ)}{l:List α}(J:Nat→τ→Prop)(mk:Nat→τ→σ)(step:Nat→τ→α→τ⊕ρ)(fin:τ→ρ)
  (hs:∀i t x,J i t→i<l.length→l[i]? = some x→body (mk i t)=some (Sum.elim (fun t'=>.inl (mk (i+1) t')) .inr (step i t x))∧∀t',step i t x=.inl t'→J (i+1) t')
  (hf:∀t,J l.length t→body (mk l.length t)=some (.inr (fin t))) (t:τ) (hj:J 0 t) {s0:σ} (h0:s0=mk 0 t):Qq body s0=some (Qli step fin 0 t l):=by
 subst h0
 have key:∀k i t,i+k=l.length→J i t→Qq body (mk i t)=some (Qli step fin i t (l.drop i)):=by
  intro k
  induction k with
  | zero=>
   intro i t hk hj
   obtain rfl:i=l.length:=by omega
   rw [QbY,hf t hj,List.drop_length];rfl
  | succ k ih=>
   intro i t hk hj
   have hi:i<l.length:=by omega
   obtain⟨h1,h2⟩:=hs i t l[i] hj hi (QD hi)
   rw [QbY,h1,QrL hi]
   simp only [Qli]
   cases hst:step i t l[i]with
   | inl t'=>exact ih (i+1) t' (by omega) (h2 t' hst)
   | inr r=>rfl
 exact key l.length 0 t (by omega) hj
theorem Qrs {α τ ρ σ:Type}{body:σ→Option (σ⊕ρ)}{l:List α}(mk:Nat→τ→σ)(step:Nat→τ→α→τ⊕ρ)(fin:τ→ρ)
  (hs:∀i t x,i<l.length→l[i]? = some x→body (mk i t)=some (Sum.elim (fun t'=>.inl (mk (i+1) t')) .inr (step i t x)))
  (hf:∀t,body (mk l.length t)=some (.inr (fin t))) (t:τ) {s0:σ} (h0:s0=mk 0 t):Qq body s0=some (Qli step fin 0 t l):=
 Qxk (fun _ _=>True) mk step fin (fun i t x _ hi hx=>⟨hs i t x hi hx,fun _ _=>trivial⟩) (fun t _=>hf t) t trivial h0
def Qct {α:Type}(p:Nat→α→Bool):Nat→List α→Option Nat
 | _,[]=>none
 | i,x::l=>bif p i x then some i else Qct p (i+1) l
theorem QuZ {α ρ σ:Type}{body:σ→Option (σ⊕ρ)}{l:List α}(mk:Nat→σ)(p:Nat→α→Bool)(r1:Nat→ρ)(r2:ρ)
  (hs:∀i x,i<l.length→l[i]? = some x→body (mk i)=some (bif p i x then .inr (r1 i)else .inl (mk (i+1))))
  (hf:body (mk l.length)=some (.inr r2)) {s0:σ} (h0:s0=mk 0):Qq body s0=some ((Qct p 0 l).elim r2 r1):=by
 subst h0
 have h:=Qrs (body:=body) (l:=l) (fun i (_:Unit)=>mk i) (fun i _ x=>bif p i x then .inr (r1 i)else .inl ()) (fun _=>r2) (fun i _ x hi hx=>by rw [hs i x hi hx];cases p i x<;>rfl) (fun _=>hf) () rfl
 rw [h]
 congr 1
 have:∀(l:List α) k,Qli (fun i (_:Unit) x=>bif p i x then .inr (r1 i)else .inl ()) (fun _=>r2) k () l=(Qct p k l).elim r2 r1:=by
  intro l
  induction l with
  | nil=>intro k;rfl
  | cons x l ih=>
   intro k
   rw [Qli,Qct]
   cases p k x with
   | true=>rfl
   | false=>exact ih (k+1)
 exact this l 0
theorem Qne {α:Type}{p:Nat→α→Bool}:∀{l:List α} {k n:Nat},Qct p k l=some n→∃i x,n=k+i∧l[i]? = some x∧p n x=true:=by
 intro l
 induction l with
 | nil=>intro k n h;cases h
 | cons y l ih=>
  intro k n h
  rw [Qct]at h
  cases hp:p k y with
  | true=>rw [hp]at h;cases h;exact⟨0,y,rfl,rfl,hp⟩
  | false=>
   rw [hp]at h
   obtain⟨i,x,h1,h2,h3⟩:=ih h
   exact⟨i+1,x,by omega,h2,h3⟩
theorem Qnf {α:Type}{p:Nat→α→Bool}:∀{l:List α} {k:Nat},Qct p k l=none→∀i x,l[i]? = some x→p (k+i) x=false:=by
 intro l
 induction l with
 | nil=>intro k h i x hx;simp at hx
 | cons y l ih=>
  intro k h i x hx
  rw [Qct]at h
  cases hp:p k y with
  | true=>rw [hp]at h;cases h
  | false=>
   rw [hp]at h
   cases i with
   | zero=>cases hx;exact hp
   | succ i=>have:=ih h i x hx;rw [←this];congr 1;omega
end Go.Vm
