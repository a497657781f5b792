/- A part of the proof; what it holds is told at each theorem. -/
import Derived.Test.YtmhljalpjhdpeaaGreatDoorM1V3
set_option linter.unusedVariables false
set_option linter.unusedSimpArgs false
set_option linter.unusedSectionVars false
set_option linter.deprecated false
namespace Go.Vm
open Go Go.RowKit
theorem Qv8 (n:Int):w64 n=wrap64 n:=IntWalk.i64_left n
theorem Q7 {n:Int}(h:-9223372036854775808<=n/\n<=9223372036854775807):w64 n=n:=IntWalk.i64_in n h
theorem Qy {i n:Nat}(h:i<n)(hn:n<=maxLen):w64 ((i:Int)+1)=((i+1:Nat):Int):=by
 unfold maxLen at hn
 rw [Q7 (by omega)];omega
theorem Qae {α:Type}(l:List α)(i:Nat):idx l (i:Int)=l[i]? := by
 unfold idx;rw [if_pos (Int.natCast_nonneg i)];rfl
theorem QeN {α:Type}{l:List α}{j:Int}(h:0<=j):idx l j=l[j.toNat]? := by unfold idx;rw [if_pos h]
theorem QmM {α:Type}{l:List α}{j:Int}(h:0<=j)(h2:j<l.length):idx l j=some (l[j.toNat]'(by omega)):=by
 rw [QeN h,QG (by omega)]
theorem Qq0 {c:Bool}(h:c=true):chk c=some ():=by subst h;rfl
theorem QkL {p:Prop}[Decidable p](h:p):chk (decide p)=some ():=Qq0 (QI h)
section
variable {κ α:Type}[DecidableEq κ]
theorem Qau (a:κ)(x:α)(r:List (κ×α))(k:κ):Q0 ((a,x)::r) k=if a=k then some x else Q0 r k:=rfl
theorem QBo {l:List (κ×α)}{k j:κ}{v:α}(h:(Q0 l k).isSome=true):Q0 (QlO l k v) j=if j=k then some v else Q0 l j:=by
 induction l with
 | nil=>cases h
 | cons p l ih=>
  obtain⟨a,x⟩:=p
  rw [Qau]at h
  rw [QlO]
  split
  ·rename_i e
   subst e
   rw [Qau,Qau]
   by_cases c:a=j
   ·subst c;simp
   rw [if_neg c,if_neg (fun e=>c e.symm),if_neg c]
  rename_i hne
  rw [if_neg hne]at h
  rw [Qau,Qau,ih h]
  by_cases c:a=j
  ·subst c;simp [hne]
  rw [if_neg c,if_neg c]
theorem QBp (lt:κ->κ->Bool){l:List (κ×α)}{k j:κ}{v:α}(h:Q0 l k=none):Q0 (QlN lt l k v) j=if j=k then some v else Q0 l j:=by
 induction l with
 | nil=>
  rw [QlN,Qau]
  by_cases c:j=k
  ·subst c;simp
  rw [if_neg (fun e=>c e.symm),if_neg c]
 | cons p l ih=>
  obtain⟨a,x⟩:=p
  rw [Qau]at h
  split at h
  ·cases h
  rename_i hne
  rw [QlN]
  split
  ·rw [Qau]
   by_cases c:j=k
   ·subst c;simp
   rw [if_neg (fun e=>c e.symm),if_neg c]
  rw [Qau,Qau,ih h]
  by_cases c:a=j
  ·subst c;simp [hne]
  rw [if_neg c,if_neg c]
theorem Ql5 (lt:κ->κ->Bool)(l:List (κ×α))(k j:κ)(v:α):Q0 (QcX lt l k v) j=if j=k then some v else Q0 l j:=by
 unfold QcX
 split
 ·rename_i x hx;exact QBo (by rw [hx];rfl)
 rename_i hx;exact QBp lt hx
end
theorem Qnb {σ ρ:Type}{body:σ->Option (σ⊕ρ)}(n:Nat)(I:Nat->σ->Prop)(Post:ρ->Prop)
  (step:∀i s,i<n->I i s->(∃s',body s=some (.inl s')/\I (i+1) s')\/∃r,body s=some (.inr r)/\Post r)
  (last:∀s,I n s->∃r,body s=some (.inr r)/\Post r):∀s,I 0 s->∃r,Qz body s=some r/\Post r:=by
 have key:∀k i s,i+k=n->I i s->∃r,Qz body s=some r/\Post r:=by
  intro k
  induction k with
  | zero=>
   intro i s hk hI
   obtain rfl:i=n:=by omega
   obtain⟨r,hr,hp⟩:=last s hI
   exact⟨r,by rw [QaU,hr];rfl,hp⟩
  | succ k ih=>
   intro i s hk hI
   rcases step i s (by omega) hI with⟨s',hb,hI'⟩|⟨r,hb,hp⟩
   ·obtain⟨r,hr,hp⟩:=ih (i+1) s' (by omega) hI'
    exact⟨r,by rw [QaU,hb];exact hr,hp⟩
   exact⟨r,by rw [QaU,hb];rfl,hp⟩
 exact fun s hI=>key n 0 s (by omega) hI
def QgT {α τ ρ:Type}(step:Nat->τ->α->τ⊕ρ)(fin:τ->ρ):Nat->τ->List α->ρ
 | _,t,[]=>fin t
 | i,t,x::l=>Sum.elim (fun t'=>QgT step fin (i+1) t' l) (fun r=>r) (step i t x)
theorem QAA {α τ ρ σ:Type}{body:σ->Option (σ⊕ρ)}{l:List α}(J:Nat->τ->Prop)(mk:Nat->τ->σ)(step:Nat->τ->α->τ⊕ρ)(fin:τ->ρ)
  (hs:∀i t x,J i t->i<l.length->l[i]? = some x->body (mk i t)=some (Sum.elim (fun t'=>.inl (mk (i+1) t')) .inr (step i t x))/\∀t',step i t x=.inl t'->J (i+1) t')
  (hf:∀t,J l.length t->body (mk l.length t)=some (.inr (fin t))) (t:τ) (hj:J 0 t) {s0:σ} (h0:s0=mk 0 t):Qz body s0=some (QgT step fin 0 t l):=by
 subst h0
 have key:∀k i t,i+k=l.length->J i t->Qz body (mk i t)=some (QgT step fin i t (l.drop i)):=by
  intro k
  induction k with
  | zero=>
   intro i t hk hj
   obtain rfl:i=l.length:=by omega
   rw [QaU,hf t hj,List.drop_length];rfl
  | succ k ih=>
   intro i t hk hj
   have hi:i<l.length:=by omega
   obtain⟨h1,h2⟩:=hs i t l[i] hj hi (QG hi)
   rw [QaU,h1,Qnh hi]
   simp only [QgT]
   cases hst:step i t l[i]with
   | inl t'=>exact ih (i+1) t' (by omega) (h2 t' hst)
   | inr r=>rfl
 exact key l.length 0 t (by omega) hj
theorem Ql6 {α τ ρ σ:Type}{body:σ->Option (σ⊕ρ)}{l:List α}(mk:Nat->τ->σ)(step:Nat->τ->α->τ⊕ρ)(fin:τ->ρ)
  (hs:∀i t x,i<l.length->l[i]? = some x->body (mk i t)=some (Sum.elim (fun t'=>.inl (mk (i+1) t')) .inr (step i t x)))
  (hf:∀t,body (mk l.length t)=some (.inr (fin t))) (t:τ) {s0:σ} (h0:s0=mk 0 t):Qz body s0=some (QgT step fin 0 t l):=
 QAA (fun _ _=>True) mk step fin (fun i t x _ hi hx=>⟨hs i t x hi hx,fun _ _=>trivial⟩) (fun t _=>hf t) t trivial h0
def QmN {α:Type}(bad:Nat->α->Bool):Nat->List α->Bool
 | _,[]=>false
 | i,x::l=>bad i x||QmN bad (i+1) l
theorem Qv9 {α:Type}{bad:Nat->α->Bool}:∀{l:List α} {k:Nat},QmN bad k l=true↔∃i x,l[i]? = some x/\bad (k+i) x=true:=by
 intro l
 induction l with
 | nil=>intro k;exact⟨fun h=>(by cases h),fun ⟨i,x,h,_⟩=>(by simp at h)⟩
 | cons y l ih=>
  intro k
  rw [QmN,Qcs,ih]
  constructor
  ·rintro (h | ⟨i,x,h1,h2⟩)
   ·exact⟨0,y,rfl,h⟩
   exact⟨i+1,x,h1,by rw [<-h2];congr 1;omega⟩
  rintro ⟨i,x,h1,h2⟩
  cases i with
  | zero=>cases h1;exact .inl h2
  | succ i=>exact .inr ⟨i,x,h1,by rw [<-h2];congr 1;omega⟩
theorem QsQ {α:Type}{bad:Nat->α->Bool}{l:List α}:QmN bad 0 l=false↔∀i x,l[i]? = some x->bad i x=false:=by
 rw [<-QiY,Qv9]
 simp only [Qlr,not_exists,not_and,QiY]
theorem QsR {α ρ σ:Type}{body:σ->Option (σ⊕ρ)}{l:List α}(mk:Nat->σ)(bad:Nat->α->Bool)(r1 r2:ρ)
  (hs:∀i x,i<l.length->l[i]? = some x->body (mk i)=some (bif bad i x then .inr r1 else .inl (mk (i+1))))
  (hf:body (mk l.length)=some (.inr r2)) {s0:σ} (h0:s0=mk 0):Qz body s0=some (bif QmN bad 0 l then r1 else r2):=by
 subst h0
 have h:=Ql6 (body:=body) (l:=l) (fun i (_:Unit)=>mk i) (fun i _ x=>bif bad i x then .inr r1 else .inl ()) (fun _=>r2) (fun i _ x hi hx=>by rw [hs i x hi hx];cases bad i x<;>rfl) (fun _=>hf) () rfl
 rw [h]
 congr 1
 have:∀(l:List α) k,QgT (fun i (_:Unit) x=>bif bad i x then .inr r1 else .inl ()) (fun _=>r2) k () l=bif QmN bad k l then r1 else r2:=by
  intro l
  induction l with
  | nil=>intro k;rfl
  | cons x l ih=>
   intro k
   rw [QgT,QmN]
   cases bad k x with
   | true=>rfl
   | false=>exact ih (k+1)
 exact this l 0
def QkM {α:Type}(p:Nat->α->Bool):Nat->List α->Option Nat
 | _,[]=>none
 | i,x::l=>bif p i x then some i else QkM p (i+1) l
theorem QBq {α ρ σ:Type}{body:σ->Option (σ⊕ρ)}{l:List α}(mk:Nat->σ)(p:Nat->α->Bool)(r1:Nat->ρ)(r2:ρ)
  (hs:∀i x,i<l.length->l[i]? = some x->body (mk i)=some (bif p i x then .inr (r1 i)else .inl (mk (i+1))))
  (hf:body (mk l.length)=some (.inr r2)) {s0:σ} (h0:s0=mk 0):Qz body s0=some ((QkM p 0 l).elim r2 r1):=by
 subst h0
 have h:=Ql6 (body:=body) (l:=l) (fun i (_:Unit)=>mk i) (fun i _ x=>bif p i x then .inr (r1 i)else .inl ()) (fun _=>r2) (fun i _ x hi hx=>by rw [hs i x hi hx];cases p i x<;>rfl) (fun _=>hf) () rfl
 rw [h]
 congr 1
 have:∀(l:List α) k,QgT (fun i (_:Unit) x=>bif p i x then .inr (r1 i)else .inl ()) (fun _=>r2) k () l=(QkM p k l).elim r2 r1:=by
  intro l
  induction l with
  | nil=>intro k;rfl
  | cons x l ih=>
   intro k
   rw [QgT,QkM]
   cases p k x with
   | true=>rfl
   | false=>exact ih (k+1)
 exact this l 0
theorem QAB {α:Type}{p:Nat->α->Bool}:∀{l:List α} {k n:Nat},QkM p k l=some n->∃i x,n=k+i/\l[i]? = some x/\p n x=true:=by
 intro l
 induction l with
 | nil=>intro k n h;cases h
 | cons y l ih=>
  intro k n h
  rw [QkM]at h
  cases hp:p k y with
  | true=>rw [hp]at h;cases h;exact⟨0,y,rfl,rfl,hp⟩
  | false=>
   rw [hp]at h
   obtain⟨i,x,h1,h2,h3⟩:=ih h
   exact⟨i+1,x,by omega,h2,h3⟩
theorem QAC {α:Type}{p:Nat->α->Bool}:∀{l:List α} {k:Nat},QkM p k l=none->∀i x,l[i]? = some x->p (k+i) x=false:=by
 intro l
 induction l with
 | nil=>intro k h i x hx;simp at hx
 | cons y l ih=>
  intro k h i x hx
  rw [QkM]at h
  cases hp:p k y with
  | true=>rw [hp]at h;cases h
  | false=>
   rw [hp]at h
   cases i with
   | zero=>cases hx;exact hp
   | succ i=>have:=ih h i x hx;rw [<-this];congr 1;omega
end Go.Vm
