/- A part of the proof; what it holds is told at each theorem. -/
import Derived.Test.YtdogcfnkpfekmaaGreatDoorG1V3
set_option linter.all false
namespace Go.Vm
open Go Go.RowKit
def Qeq (n:Int):Qi n=wrap64 n:=IntWalk.i64_left n
def XX {n:Int}(h:-9223372036854775808<=n/\n<=9223372036854775807):Qi n=n:=IntWalk.i64_in n h
def QcN (a b:Int):Qi (Qi a+b)=Qi (a+b):=by rw[Qeq,Qeq,Qeq];unfold wrap64;omega
def Qy {i n:Nat}(h:i<n)(D:n<=maxLen):Qi ((i:Int)+1)=((i+1:Nat):Int):=by
 unfold maxLen at D
 rw[XX (by omega)];omega
def Xd {α:Type}(l:L_ α)(i:Nat):idx l (i:Int)=l[i]? := by
 unfold idx;rw[if_pos (Int.natCast_nonneg i)];rfl
def BG {α:Type}{l:L_ α}{j:Int}(h:0<=j):idx l j=l[j.toNat]? := by unfold idx;rw[if_pos h]
def Qca {α:Type}{l:L_ α}{j:Int}(h:0<=j)(D:j<l.length):idx l j=some (l[j.toNat]'(by omega)):=by
 rw[BG h,Qz (by omega)]
def Rz {c:Bool}(h:c=true):chk c=some ():=by subst h;rfl
def Gr {p:Prop}[Decidable p](h:p):chk (decide p)=some ():=Rz (Yw h)
section
variable {κ α:Type}[DecidableEq κ]
def XT (a:κ)(x:α)(r:L_ (κ×α))(k:κ):Qq ((a,x)::r) k=if a=k then some x else Qq r k:=rfl
def QkZ {l:L_ (κ×α)}{k j:κ}{v:α}(h:(Qq l k).isSome=true):Qq (Bh l k v) j=if j=k then some v else Qq l j:=by
 induction l with
 | nil=>cases h
 | cons p l ih=>
  obtain⟨a,x⟩:=p
  rw[XT]at h
  rw[Bh]
  split
  ·rename_i e
   subst e
   rw[XT,XT]
   by_cases c:a=j
   ·subst c;simp
   rw[if_neg c,if_neg (λe=>c e.symm),if_neg c]
  rename_i D
  rw[if_neg D]at h
  rw[XT,XT,ih h]
  by_cases c:a=j
  ·subst c;simp[D]
  rw[if_neg c,if_neg c]
def Qk0 (lt:κ->κ->Bool){l:L_ (κ×α)}{k j:κ}{v:α}(h:Qq l k=none):Qq (UB lt l k v) j=if j=k then some v else Qq l j:=by
 induction l with
 | nil=>
  rw[UB,XT]
  by_cases c:j=k
  ·subst c;simp
  rw[if_neg (λe=>c e.symm),if_neg c]
 | cons p l ih=>
  obtain⟨a,x⟩:=p
  rw[XT]at h
  split at h
  ·cases h
  rename_i D
  rw[UB]
  split
  ·rw[XT]
   by_cases c:j=k
   ·subst c;simp
   rw[if_neg (λe=>c e.symm),if_neg c]
  rw[XT,XT,ih h]
  by_cases c:a=j
  ·subst c;simp[D]
  rw[if_neg c,if_neg c]
def JJ (lt:κ->κ->Bool)(l:L_ (κ×α))(k j:κ)(v:α):Qq (XD lt l k v) j=if j=k then some v else Qq l j:=by
 unfold XD
 split
 ·rename_i x h;exact QkZ (by rw[h];rfl)
 rename_i h;exact Qk0 lt h
end
def CX {σ ρ:Type}{body:σ->O_ (σ⊕ρ)}(n:Nat)(I:Nat->σ->Prop)(h:ρ->Prop)
  (step:∀i s,i<n->I i s->(∃s',body s=some (.inl s')/\I (i+1) s')\/∃r,body s=some (.inr r)/\h r)
  (last:∀s,I n s->∃r,body s=some (.inr r)/\h r):∀s,I 0 s->∃r,QD body s=some r/\h r:=by
 have key:∀k i s,i+k=n->I i s->∃r,QD body s=some r/\h r:=by
  intro k
  induction k with
  | zero=>
   intro i s hk D
   obtain rfl:i=n:=by omega
   obtain⟨r,hr,hp⟩:=last s D
   exact⟨r,by rw[WL,hr];rfl,hp⟩
  | succ k ih=>
   intro i s hk D
   rcases step i s (by omega) D with⟨s',hb,hI'⟩|⟨r,hb,hp⟩
   ·obtain⟨r,hr,hp⟩:=ih (i+1) s' (by omega) hI'
    exact⟨r,by rw[WL,hb];exact hr,hp⟩
   exact⟨r,by rw[WL,hb];rfl,hp⟩
 exact λs D=>key n 0 s (by omega) D
def Ba {α τ ρ:Type}(h:Nat->τ->α->τ⊕ρ)(D:τ->ρ):Nat->τ->L_ α->ρ
 | _,t,[]=>D t
 | i,t,x::l=>Sum.elim (λt'=>Ba h D (i+1) t' l) (λr=>r) (h i t x)
def Qfy {α τ ρ σ:Type}{body:σ->O_ (σ⊕ρ)}{l:L_ α}(J:Nat->τ->Prop)(mk:Nat->τ->σ)(h:Nat->τ->α->τ⊕ρ)(D:τ->ρ)
  (hs:∀i t x,J i t->i<l.length->l[i]? = some x->body (mk i t)=some (Sum.elim (λt'=>.inl (mk (i+1) t')) .inr (h i t x))/\∀t',h i t x=.inl t'->J (i+1) t')
  (hf:∀t,J l.length t->body (mk l.length t)=some (.inr (D t))) (t:τ) (hj:J 0 t) {s0:σ} (h0:s0=mk 0 t):QD body s0=some (Ba h D 0 t l):=by
 subst h0
 have key:∀k i t,i+k=l.length->J i t->QD body (mk i t)=some (Ba h D i t (l.drop i)):=by
  intro k
  induction k with
  | zero=>
   intro i t hk hj
   obtain rfl:i=l.length:=by omega
   rw[WL,hf t hj,List.drop_length];rfl
  | succ k ih=>
   intro i t hk hj
   have hi:i<l.length:=by omega
   obtain⟨h1,h2⟩:=hs i t l[i] hj hi (Qz hi)
   rw[WL,h1,OH hi]
   simp only[Ba]
   cases hst:h i t l[i]with
   | inl t'=>exact ih (i+1) t' (by omega) (h2 t' hst)
   | inr r=>rfl
 exact key l.length 0 t (by omega) hj
def TZ {α τ ρ σ:Type}{body:σ->O_ (σ⊕ρ)}{l:L_ α}(mk:Nat->τ->σ)(h:Nat->τ->α->τ⊕ρ)(D:τ->ρ)
  (hs:∀i t x,i<l.length->l[i]? = some x->body (mk i t)=some (Sum.elim (λt'=>.inl (mk (i+1) t')) .inr (h i t x)))
  (hf:∀t,body (mk l.length t)=some (.inr (D t))) (t:τ) {s0:σ} (h0:s0=mk 0 t):QD body s0=some (Ba h D 0 t l):=
 Qfy (λ_ _=>True) mk h D (λi t x _ hi hx=>⟨hs i t x hi hx,λ_ _=>trivial⟩) (λt _=>hf t) t trivial h0
def WE {α:Type}(p:α->Bool):Nat->L_ α->L_ Int
 | _,[]=>[]
 | i,x::l=>bif p x then(i:Int)::WE p (i+1) l else WE p (i+1) l
def Qax {α:Type}{p:α->Bool}{j:Int}:∀{l:L_ α} {k:Nat},j∈WE p k l↔∃i x,l[i]? = some x/\p x=true/\j=((k+i:Nat):Int):=by
 intro l
 induction l with
 | nil=>intro k;simp[WE]
 | cons y l ih=>
  intro k
  have e:(∃i x,(y::l)[i]? = some x/\p x=true/\j=((k+i:Nat):Int))↔(p y=true/\j=(k:Int))\/∃i x,l[i]? = some x/\p x=true/\j=((k+1+i:Nat):Int):=by
   constructor
   ·rintro ⟨i,x,h,D,h3⟩
    cases i with
    | zero=>cases h;exact .inl ⟨D,h3⟩
    | succ i=>exact .inr ⟨i,x,h,D,by rw[h3];congr 1;omega⟩
   rintro (⟨h,D⟩|⟨i,x,h,D,h3⟩)
   ·exact⟨0,y,rfl,h,D⟩
   exact⟨i+1,x,h,D,by rw[h3];congr 1;omega⟩
  rw[e,WE,<-ih]
  cases p y<;>simp
def SN {α:Type}{body:Int×L_ Int->O_ ((Int×L_ Int)⊕L_ Int)}{l:L_ α}(p:α->Bool)
  (hs:∀i h x,h.length<=i->i<l.length->l[i]? = some x->body ((i:Int),h)=some (.inl (((i+1:Nat):Int),bif p x then h++[(i:Int)]else h)))
  (hf:∀h,body ((l.length:Int),h)=some (.inr h)):QD body (0,[])=some (WE p 0 l):=by
 rw[Qfy (l:=l) (λi (h:L_ Int)=>h.length<=i) (λi h=>((i:Int),h)) (λi h x=>.inl (bif p x then h++[(i:Int)]else h)) (λh=>h) ?_ (λt _=>hf t) [] (Jn _) (s0:=(0,[])) rfl]
 ·have:∀(l:L_ α) k h,Ba (λi h x=>(.inl (bif p x then h++[(i:Int)]else h):L_ Int⊕L_ Int)) (λh=>h) k h l=h++WE p k l:=by
   intro l
   induction l with
   | nil=>intro k h;simp[Ba,WE]
   | cons x l ih=>
    intro k h
    rw[Ba,WE,Sum.elim_inl,ih]
    cases p x<;>simp
  rw[this];rfl
 intro i h x D hi hx
 refine⟨hs i h x D hi hx,λt' ht=>?_⟩
 cases ht
 cases p x
 ·simpa using Nat.le_succ_of_le D
 simpa using D
def Qay {α:Type}(bad:Nat->α->Bool):Nat->L_ α->Bool
 | _,[]=>false
 | i,x::l=>bad i x||Qay bad (i+1) l
def Qmc {α:Type}{bad:Nat->α->Bool}:∀{l:L_ α} {k:Nat},Qay bad k l=true↔∃i x,l[i]? = some x/\bad (k+i) x=true:=by
 intro l
 induction l with
 | nil=>intro k;exact⟨λh=>(by cases h),λ⟨i,x,h,_⟩=>(by simp at h)⟩
 | cons y l ih=>
  intro k
  rw[Qay,Wa,ih]
  constructor
  ·rintro (h | ⟨i,x,D,h2⟩)
   ·exact⟨0,y,rfl,h⟩
   exact⟨i+1,x,D,by rw[<-h2];congr 1;omega⟩
  rintro ⟨i,x,D,h2⟩
  cases i with
  | zero=>cases D;exact .inl h2
  | succ i=>exact .inr ⟨i,x,D,by rw[<-h2];congr 1;omega⟩
def Qmd {α ρ σ:Type}{body:σ->O_ (σ⊕ρ)}{l:L_ α}(mk:Nat->σ)(bad:Nat->α->Bool)(D r2:ρ)
  (hs:∀i x,i<l.length->l[i]? = some x->body (mk i)=some (bif bad i x then .inr D else .inl (mk (i+1))))
  (hf:body (mk l.length)=some (.inr r2)) {s0:σ} (h0:s0=mk 0):QD body s0=some (bif Qay bad 0 l then D else r2):=by
 subst h0
 have h:=TZ (body:=body) (l:=l) (λi (_:Unit)=>mk i) (λi _ x=>bif bad i x then .inr D else .inl ()) (λ_=>r2) (λi _ x hi hx=>by rw[hs i x hi hx];cases bad i x<;>rfl) (λ_=>hf) () rfl
 rw[h]
 congr 1
 have:∀(l:L_ α) k,Ba (λi (_:Unit) x=>bif bad i x then .inr D else .inl ()) (λ_=>r2) k () l=bif Qay bad k l then D else r2:=by
  intro l
  induction l with
  | nil=>intro k;rfl
  | cons x l ih=>
   intro k
   rw[Ba,Qay]
   cases bad k x with
   | true=>rfl
   | false=>exact ih (k+1)
 exact this l 0
def Ar {α:Type}(p:Nat->α->Bool):Nat->L_ α->O_ Nat
 | _,[]=>none
 | i,x::l=>bif p i x then some i else Ar p (i+1) l
def Qcb {α ρ σ:Type}{body:σ->O_ (σ⊕ρ)}{l:L_ α}(mk:Nat->σ)(p:Nat->α->Bool)(D:Nat->ρ)(r2:ρ)
  (hs:∀i x,i<l.length->l[i]? = some x->body (mk i)=some (bif p i x then .inr (D i)else .inl (mk (i+1))))
  (hf:body (mk l.length)=some (.inr r2)) {s0:σ} (h0:s0=mk 0):QD body s0=some ((Ar p 0 l).elim r2 D):=by
 subst h0
 have h:=TZ (body:=body) (l:=l) (λi (_:Unit)=>mk i) (λi _ x=>bif p i x then .inr (D i)else .inl ()) (λ_=>r2) (λi _ x hi hx=>by rw[hs i x hi hx];cases p i x<;>rfl) (λ_=>hf) () rfl
 rw[h]
 congr 1
 have:∀(l:L_ α) k,Ba (λi (_:Unit) x=>bif p i x then .inr (D i)else .inl ()) (λ_=>r2) k () l=(Ar p k l).elim r2 D:=by
  intro l
  induction l with
  | nil=>intro k;rfl
  | cons x l ih=>
   intro k
   rw[Ba,Ar]
   cases p k x with
   | true=>rfl
   | false=>exact ih (k+1)
 exact this l 0
def Qaz {α:Type}{p:Nat->α->Bool}:∀{l:L_ α} {k n:Nat},Ar p k l=some n->∃i x,n=k+i/\l[i]? = some x/\p n x=true:=by
 intro l
 induction l with
 | nil=>intro k n h;cases h
 | cons y l ih=>
  intro k n h
  rw[Ar]at h
  cases hp:p k y with
  | true=>rw[hp]at h;cases h;exact⟨0,y,rfl,rfl,hp⟩
  | false=>
   rw[hp]at h
   obtain⟨i,x,h1,D,h3⟩:=ih h
   exact⟨i+1,x,by omega,D,h3⟩
def QaA {α:Type}{p:Nat->α->Bool}:∀{l:L_ α} {k:Nat},Ar p k l=none->∀i x,l[i]? = some x->p (k+i) x=false:=by
 intro l
 induction l with
 | nil=>intro k h i x D;simp at D
 | cons y l ih=>
  intro k h i x D
  rw[Ar]at h
  cases hp:p k y with
  | true=>rw[hp]at h;cases h
  | false=>
   rw[hp]at h
   cases i with
   | zero=>cases D;exact hp
   | succ i=>have:=ih h i x D;rw[<-this];congr 1;omega
end Go.Vm
