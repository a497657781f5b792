/- A part of the proof; what it holds is told at each theorem. -/
import Derived.Test.YtpijolohkdchcaaGreatDoorR1V3
set_option linter.unusedVariables false
set_option linter.unusedSimpArgs false
set_option linter.unusedSectionVars false
set_option linter.deprecated false
namespace Go.Vm
open Go Go.RowKit
theorem Qxw (n:Int):w64 n=wrap64 n:=IntWalk.i64_left n
theorem Q4 {n:Int}(h:-9223372036854775808<=n/\n<=9223372036854775807):w64 n=n:=IntWalk.i64_in n h
theorem Qx {i n:Nat}(h:i<n)(hn:n<=maxLen):w64 ((i:Int)+1)=((i+1:Nat):Int):=by
 unfold maxLen at hn
 rw [Q4 (by omega)];omega
theorem Q1 {α:Type}(l:List α)(i:Nat):idx l (i:Int)=l[i]? := by
 unfold idx;rw [if_pos (Int.natCast_nonneg i)];rfl
theorem QeY {α:Type}{l:List α}{j:Int}(h:0<=j):idx l j=l[j.toNat]? := by unfold idx;rw [if_pos h]
theorem Ql7 {α:Type}{l:List α}{j:Int}(h:0<=j)(h2:j<l.length):idx l j=some (l[j.toNat]'(by omega)):=by
 rw [QeY h,QH (by omega)]
theorem Qor {c:Bool}(h:c=true):chk c=some ():=by subst h;rfl
theorem QgA {p:Prop}[Decidable p](h:p):chk (decide p)=some ():=Qor (QI h)
section
variable {κ α:Type}[DecidableEq κ]
theorem Qat (a:κ)(x:α)(r:List (κ×α))(k:κ):QX ((a,x)::r) k=if a=k then some x else QX r k:=rfl
theorem QC2 {l:List (κ×α)}{k j:κ}{v:α}(h:(QX l k).isSome=true):QX (QmA l k v) j=if j=k then some v else QX l j:=by
 induction l with
 | nil=>cases h
 | cons p l ih=>
  obtain⟨a,x⟩:=p
  rw [Qat]at h
  rw [QmA]
  split
  ·rename_i e
   subst e
   rw [Qat,Qat]
   by_cases c:a=j
   ·subst c;simp
   rw [if_neg c,if_neg (fun e=>c e.symm),if_neg c]
  rename_i hne
  rw [if_neg hne]at h
  rw [Qat,Qat,ih h]
  by_cases c:a=j
  ·subst c;simp [hne]
  rw [if_neg c,if_neg c]
theorem QC3 (lt:κ->κ->Bool){l:List (κ×α)}{k j:κ}{v:α}(h:QX l k=none):QX (Qmz lt l k v) j=if j=k then some v else QX l j:=by
 induction l with
 | nil=>
  rw [Qmz,Qat]
  by_cases c:j=k
  ·subst c;simp
  rw [if_neg (fun e=>c e.symm),if_neg c]
 | cons p l ih=>
  obtain⟨a,x⟩:=p
  rw [Qat]at h
  split at h
  ·cases h
  rename_i hne
  rw [Qmz]
  split
  ·rw [Qat]
   by_cases c:j=k
   ·subst c;simp
   rw [if_neg (fun e=>c e.symm),if_neg c]
  rw [Qat,Qat,ih h]
  by_cases c:a=j
  ·subst c;simp [hne]
  rw [if_neg c,if_neg c]
theorem QmR (lt:κ->κ->Bool)(l:List (κ×α))(k j:κ)(v:α):QX (QcJ lt l k v) j=if j=k then some v else QX l j:=by
 unfold QcJ
 split
 ·rename_i x hx;exact QC2 (by rw [hx];rfl)
 rename_i hx;exact QC3 lt hx
end
theorem Qlw {σ ρ:Type}{body:σ->Option (σ⊕ρ)}(n:Nat)(I:Nat->σ->Prop)(Post:ρ->Prop)
  (step:∀i s,i<n->I i s->(∃s',body s=some (.inl s')/\I (i+1) s')\/∃r,body s=some (.inr r)/\Post r)
  (last:∀s,I n s->∃r,body s=some (.inr r)/\Post r):∀s,I 0 s->∃r,Qw body s=some r/\Post r:=by
 have key:∀k i s,i+k=n->I i s->∃r,Qw body s=some r/\Post r:=by
  intro k
  induction k with
  | zero=>
   intro i s hk hI
   obtain rfl:i=n:=by omega
   obtain⟨r,hr,hp⟩:=last s hI
   exact⟨r,by rw [QaR,hr];rfl,hp⟩
  | succ k ih=>
   intro i s hk hI
   rcases step i s (by omega) hI with⟨s',hb,hI'⟩|⟨r,hb,hp⟩
   ·obtain⟨r,hr,hp⟩:=ih (i+1) s' (by omega) hI'
    exact⟨r,by rw [QaR,hb];exact hr,hp⟩
   exact⟨r,by rw [QaR,hb];rfl,hp⟩
 exact fun s hI=>key n 0 s (by omega) hI
def Qhb {α τ ρ:Type}(step:Nat->τ->α->τ⊕ρ)(fin:τ->ρ):Nat->τ->List α->ρ
 | _,t,[]=>fin t
 | i,t,x::l=>Sum.elim (fun t'=>Qhb step fin (i+1) t' l) (fun r=>r) (step i t x)
theorem QCe {α τ ρ σ:Type}{body:σ->Option (σ⊕ρ)}{l:List α}(J:Nat->τ->Prop)(mk:Nat->τ->σ)(step:Nat->τ->α->τ⊕ρ)(fin:τ->ρ)
  (hs:∀i t x,J i t->i<l.length->l[i]? = some x->body (mk i t)=some (Sum.elim (fun t'=>.inl (mk (i+1) t')) .inr (step i t x))/\∀t',step i t x=.inl t'->J (i+1) t')
  (hf:∀t,J l.length t->body (mk l.length t)=some (.inr (fin t))) (t:τ) (hj:J 0 t) {s0:σ} (h0:s0=mk 0 t):Qw body s0=some (Qhb step fin 0 t l):=by
 subst h0
 have key:∀k i t,i+k=l.length->J i t->Qw body (mk i t)=some (Qhb step fin i t (l.drop i)):=by
  intro k
  induction k with
  | zero=>
   intro i t hk hj
   obtain rfl:i=l.length:=by omega
   rw [QaR,hf t hj,List.drop_length];rfl
  | succ k ih=>
   intro i t hk hj
   have hi:i<l.length:=by omega
   obtain⟨h1,h2⟩:=hs i t l[i] hj hi (QH hi)
   rw [QaR,h1,Qoc hi]
   simp only [Qhb]
   cases hst:step i t l[i]with
   | inl t'=>exact ih (i+1) t' (by omega) (h2 t' hst)
   | inr r=>rfl
 exact key l.length 0 t (by omega) hj
theorem QmS {α τ ρ σ:Type}{body:σ->Option (σ⊕ρ)}{l:List α}(mk:Nat->τ->σ)(step:Nat->τ->α->τ⊕ρ)(fin:τ->ρ)
  (hs:∀i t x,i<l.length->l[i]? = some x->body (mk i t)=some (Sum.elim (fun t'=>.inl (mk (i+1) t')) .inr (step i t x)))
  (hf:∀t,body (mk l.length t)=some (.inr (fin t))) (t:τ) {s0:σ} (h0:s0=mk 0 t):Qw body s0=some (Qhb step fin 0 t l):=
 QCe (fun _ _=>True) mk step fin (fun i t x _ hi hx=>⟨hs i t x hi hx,fun _ _=>trivial⟩) (fun t _=>hf t) t trivial h0
def QnE {α:Type}(bad:Nat->α->Bool):Nat->List α->Bool
 | _,[]=>false
 | i,x::l=>bad i x||QnE bad (i+1) l
theorem Qxx {α:Type}{bad:Nat->α->Bool}:∀{l:List α} {k:Nat},QnE bad k l=true↔∃i x,l[i]? = some x/\bad (k+i) x=true:=by
 intro l
 induction l with
 | nil=>intro k;exact⟨fun h=>(by cases h),fun ⟨i,x,h,_⟩=>(by simp at h)⟩
 | cons y l ih=>
  intro k
  rw [QnE,Qcz,ih]
  constructor
  ·rintro (h | ⟨i,x,h1,h2⟩)
   ·exact⟨0,y,rfl,h⟩
   exact⟨i+1,x,h1,by rw [<-h2];congr 1;omega⟩
  rintro ⟨i,x,h1,h2⟩
  cases i with
  | zero=>cases h1;exact .inl h2
  | succ i=>exact .inr ⟨i,x,h1,by rw [<-h2];congr 1;omega⟩
theorem Qt0 {α:Type}{bad:Nat->α->Bool}{l:List α}:QnE bad 0 l=false↔∀i x,l[i]? = some x->bad i x=false:=by
 rw [<-Qjx,Qxx]
 simp only [QkW,not_exists,not_and,Qjx]
theorem Qn5 {α ρ σ:Type}{body:σ->Option (σ⊕ρ)}{l:List α}(mk:Nat->σ)(bad:Nat->α->Bool)(r1 r2:ρ)
  (hs:∀i x,i<l.length->l[i]? = some x->body (mk i)=some (bif bad i x then .inr r1 else .inl (mk (i+1))))
  (hf:body (mk l.length)=some (.inr r2)) {s0:σ} (h0:s0=mk 0):Qw body s0=some (bif QnE bad 0 l then r1 else r2):=by
 subst h0
 have h:=QmS (body:=body) (l:=l) (fun i (_:Unit)=>mk i) (fun i _ x=>bif bad i x then .inr r1 else .inl ()) (fun _=>r2) (fun i _ x hi hx=>by rw [hs i x hi hx];cases bad i x<;>rfl) (fun _=>hf) () rfl
 rw [h]
 congr 1
 have:∀(l:List α) k,Qhb (fun i (_:Unit) x=>bif bad i x then .inr r1 else .inl ()) (fun _=>r2) k () l=bif QnE bad k l then r1 else r2:=by
  intro l
  induction l with
  | nil=>intro k;rfl
  | cons x l ih=>
   intro k
   rw [Qhb,QnE]
   cases bad k x with
   | true=>rfl
   | false=>exact ih (k+1)
 exact this l 0
def Qlx {α:Type}(p:Nat->α->Bool):Nat->List α->Option Nat
 | _,[]=>none
 | i,x::l=>bif p i x then some i else Qlx p (i+1) l
theorem QC4 {α ρ σ:Type}{body:σ->Option (σ⊕ρ)}{l:List α}(mk:Nat->σ)(p:Nat->α->Bool)(r1:Nat->ρ)(r2:ρ)
  (hs:∀i x,i<l.length->l[i]? = some x->body (mk i)=some (bif p i x then .inr (r1 i)else .inl (mk (i+1))))
  (hf:body (mk l.length)=some (.inr r2)) {s0:σ} (h0:s0=mk 0):Qw body s0=some ((Qlx p 0 l).elim r2 r1):=by
 subst h0
 have h:=QmS (body:=body) (l:=l) (fun i (_:Unit)=>mk i) (fun i _ x=>bif p i x then .inr (r1 i)else .inl ()) (fun _=>r2) (fun i _ x hi hx=>by rw [hs i x hi hx];cases p i x<;>rfl) (fun _=>hf) () rfl
 rw [h]
 congr 1
 have:∀(l:List α) k,Qhb (fun i (_:Unit) x=>bif p i x then .inr (r1 i)else .inl ()) (fun _=>r2) k () l=(Qlx p k l).elim r2 r1:=by
  intro l
  induction l with
  | nil=>intro k;rfl
  | cons x l ih=>
   intro k
   rw [Qhb,Qlx]
   cases p k x with
   | true=>rfl
   | false=>exact ih (k+1)
 exact this l 0
theorem QCf {α:Type}{p:Nat->α->Bool}:∀{l:List α} {k n:Nat},Qlx p k l=some n->∃i x,n=k+i/\l[i]? = some x/\p n x=true:=by
 intro l
 induction l with
 | nil=>intro k n h;cases h
 | cons y l ih=>
  intro k n h
  rw [Qlx]at h
  cases hp:p k y with
  | true=>rw [hp]at h;cases h;exact⟨0,y,rfl,rfl,hp⟩
  | false=>
   rw [hp]at h
   obtain⟨i,x,h1,h2,h3⟩:=ih h
   exact⟨i+1,x,by omega,h2,h3⟩
theorem QCg {α:Type}{p:Nat->α->Bool}:∀{l:List α} {k:Nat},Qlx p k l=none->∀i x,l[i]? = some x->p (k+i) x=false:=by
 intro l
 induction l with
 | nil=>intro k h i x hx;simp at hx
 | cons y l ih=>
  intro k h i x hx
  rw [Qlx]at h
  cases hp:p k y with
  | true=>rw [hp]at h;cases h
  | false=>
   rw [hp]at h
   cases i with
   | zero=>cases hx;exact hp
   | succ i=>have:=ih h i x hx;rw [<-this];congr 1;omega
end Go.Vm
