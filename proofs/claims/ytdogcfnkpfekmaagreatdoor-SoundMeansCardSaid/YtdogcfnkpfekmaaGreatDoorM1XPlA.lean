/- A part of the proof. -/
import Derived.Test.YtdogcfnkpfekmaaGreatDoorM1V3
set_option linter.all false
namespace Go.Vm
open Go Go.RowKit
def Qfg (n:Int):Qi n=wrap64 n:=IntWalk.i64_left n
def Yf {n:Int}(h:-9223372036854775808<=n/\n<=9223372036854775807):Qi n=n:=IntWalk.i64_in n h
def QdB (a b:Int):Qi (Qi a+b)=Qi (a+b):=by rw[Qfg,Qfg,Qfg];unfold wrap64;omega
def Qv {i n:Nat}(h:i<n)(D:n<=maxLen):Qi ((i:Int)+1)=((i+1:Nat):Int):=by
 unfold maxLen at D
 rw[Yf (by omega)];omega
def QT {α:Type}(l:L_ α)(i:Nat):idx l (i:Int)=l[i]? := by
 unfold idx;rw[if_pos (Int.natCast_nonneg i)];rfl
def Gq {α:Type}{l:L_ α}{j:Int}(h:0<=j):idx l j=l[j.toNat]? := by unfold idx;rw[if_pos h]
def Qc1 {α:Type}{l:L_ α}{j:Int}(h:0<=j)(D:j<l.length):idx l j=some (l[j.toNat]'(by omega)):=by
 rw[Gq h,Qx (by omega)]
def PS {c:Bool}(h:c=true):chk c=some ():=by subst h;rfl
def GE {p:Prop}[Decidable p](h:p):chk (decide p)=some ():=PS (Yu h)
section
variable {κ α:Type}[DecidableEq κ]
def Yc (a:κ)(x:α)(r:L_ (κ×α))(k:κ):Qs ((a,x)::r) k=if a=k then some x else Qs r k:=rfl
def QlX {l:L_ (κ×α)}{k j:κ}{v:α}(h:(Qs l k).isSome=true):Qs (BE l k v) j=if j=k then some v else Qs l j:=by
 induction l with
 | nil=>cases h
 | cons p l ih=>
  obtain⟨a,x⟩:=p
  rw[Yc]at h
  rw[BE]
  split
  ·rename_i e
   subst e
   rw[Yc,Yc]
   by_cases c:a=j
   ·subst c;simp
   rw[if_neg c,if_neg (λe=>c e.symm),if_neg c]
  rename_i D
  rw[if_neg D]at h
  rw[Yc,Yc,ih h]
  by_cases c:a=j
  ·subst c;simp[D]
  rw[if_neg c,if_neg c]
def QlY (lt:κ->κ->Bool){l:L_ (κ×α)}{k j:κ}{v:α}(h:Qs l k=none):Qs (UQ lt l k v) j=if j=k then some v else Qs l j:=by
 induction l with
 | nil=>
  rw[UQ,Yc]
  by_cases c:j=k
  ·subst c;simp
  rw[if_neg (λe=>c e.symm),if_neg c]
 | cons p l ih=>
  obtain⟨a,x⟩:=p
  rw[Yc]at h
  split at h
  ·cases h
  rename_i D
  rw[UQ]
  split
  ·rw[Yc]
   by_cases c:j=k
   ·subst c;simp
   rw[if_neg (λe=>c e.symm),if_neg c]
  rw[Yc,Yc,ih h]
  by_cases c:a=j
  ·subst c;simp[D]
  rw[if_neg c,if_neg c]
def Wa (lt:κ->κ->Bool)(l:L_ (κ×α))(k j:κ)(v:α):Qs (XG lt l k v) j=if j=k then some v else Qs l j:=by
 unfold XG
 split
 ·rename_i x h;exact QlX (by rw[h];rfl)
 rename_i h;exact QlY lt h
end
def Ci {σ ρ:Type}{body:σ->O_ (σ⊕ρ)}(n:Nat)(I:Nat->σ->Prop)(h:ρ->Prop)
  (step:∀i s,i<n->I i s->(∃s',body s=some (.inl s')/\I (i+1) s')\/∃r,body s=some (.inr r)/\h r)
  (last:∀s,I n s->∃r,body s=some (.inr r)/\h r):∀s,I 0 s->∃r,QE body s=some r/\h r:=by
 have key:∀k i s,i+k=n->I i s->∃r,QE body s=some r/\h r:=by
  intro k
  induction k with
  | zero=>
   intro i s hk D
   obtain rfl:i=n:=by omega
   obtain⟨r,hr,hp⟩:=last s D
   exact⟨r,by rw[KJ,hr];rfl,hp⟩
  | succ k ih=>
   intro i s hk D
   rcases step i s (by omega) D with⟨s',hb,hI'⟩|⟨r,hb,hp⟩
   ·obtain⟨r,hr,hp⟩:=ih (i+1) s' (by omega) hI'
    exact⟨r,by rw[KJ,hb];exact hr,hp⟩
   exact⟨r,by rw[KJ,hb];rfl,hp⟩
 exact λs D=>key n 0 s (by omega) D
def BA {α τ ρ:Type}(h:Nat->τ->α->τ⊕ρ)(D:τ->ρ):Nat->τ->L_ α->ρ
 | _,t,[]=>D t
 | i,t,x::l=>Sum.elim (λt'=>BA h D (i+1) t' l) (λr=>r) (h i t x)
def Qgq {α τ ρ σ:Type}{body:σ->O_ (σ⊕ρ)}{l:L_ α}(J:Nat->τ->Prop)(mk:Nat->τ->σ)(h:Nat->τ->α->τ⊕ρ)(D:τ->ρ)
  (hs:∀i t x,J i t->i<l.length->l[i]? = some x->body (mk i t)=some (Sum.elim (λt'=>.inl (mk (i+1) t')) .inr (h i t x))/\∀t',h i t x=.inl t'->J (i+1) t')
  (hf:∀t,J l.length t->body (mk l.length t)=some (.inr (D t))) (t:τ) (hj:J 0 t) {s0:σ} (h0:s0=mk 0 t):QE body s0=some (BA h D 0 t l):=by
 subst h0
 have key:∀k i t,i+k=l.length->J i t->QE body (mk i t)=some (BA h D i t (l.drop i)):=by
  intro k
  induction k with
  | zero=>
   intro i t hk hj
   obtain rfl:i=l.length:=by omega
   rw[KJ,hf t hj,List.drop_length];rfl
  | succ k ih=>
   intro i t hk hj
   have hi:i<l.length:=by omega
   obtain⟨h1,h2⟩:=hs i t l[i] hj hi (Qx hi)
   rw[KJ,h1,Mr hi]
   simp only[BA]
   cases hst:h i t l[i]with
   | inl t'=>exact ih (i+1) t' (by omega) (h2 t' hst)
   | inr r=>rfl
 exact key l.length 0 t (by omega) hj
def Zd {α τ ρ σ:Type}{body:σ->O_ (σ⊕ρ)}{l:L_ α}(mk:Nat->τ->σ)(h:Nat->τ->α->τ⊕ρ)(D:τ->ρ)
  (hs:∀i t x,i<l.length->l[i]? = some x->body (mk i t)=some (Sum.elim (λt'=>.inl (mk (i+1) t')) .inr (h i t x)))
  (hf:∀t,body (mk l.length t)=some (.inr (D t))) (t:τ) {s0:σ} (h0:s0=mk 0 t):QE body s0=some (BA h D 0 t l):=
 Qgq (λ_ _=>True) mk h D (λi t x _ hi hx=>⟨hs i t x hi hx,λ_ _=>trivial⟩) (λt _=>hf t) t trivial h0
def Ws {α:Type}(p:α->Bool):Nat->L_ α->L_ Int
 | _,[]=>[]
 | i,x::l=>bif p x then(i:Int)::Ws p (i+1) l else Ws p (i+1) l
def Px {α:Type}{p:α->Bool}{j:Int}:∀{l:L_ α} {k:Nat},j∈Ws p k l↔∃i x,l[i]? = some x/\p x=true/\j=((k+i:Nat):Int):=by
 intro l
 induction l with
 | nil=>intro k;simp[Ws]
 | cons y l ih=>
  intro k
  have e:(∃i x,(y::l)[i]? = some x/\p x=true/\j=((k+i:Nat):Int))↔(p y=true/\j=(k:Int))\/∃i x,l[i]? = some x/\p x=true/\j=((k+1+i:Nat):Int):=by
   constructor
   ·rintro ⟨i,x,h,D,h3⟩
    cases i with
    | zero=>cases h;exact .inl ⟨D,h3⟩
    | succ i=>exact .inr ⟨i,x,h,D,by rw[h3];congr 1;omega⟩
   rintro (⟨h,D⟩|⟨i,x,h,D,h3⟩)
   ·exact⟨0,y,rfl,h,D⟩
   exact⟨i+1,x,h,D,by rw[h3];congr 1;omega⟩
  rw[e,Ws,<-ih]
  cases p y<;>simp
def TT {α:Type}{body:Int×L_ Int->O_ ((Int×L_ Int)⊕L_ Int)}{l:L_ α}(p:α->Bool)
  (hs:∀i h x,h.length<=i->i<l.length->l[i]? = some x->body ((i:Int),h)=some (.inl (((i+1:Nat):Int),bif p x then h++[(i:Int)]else h)))
  (hf:∀h,body ((l.length:Int),h)=some (.inr h)):QE body (0,[])=some (Ws p 0 l):=by
 rw[Qgq (l:=l) (λi (h:L_ Int)=>h.length<=i) (λi h=>((i:Int),h)) (λi h x=>.inl (bif p x then h++[(i:Int)]else h)) (λh=>h) ?_ (λt _=>hf t) [] (Jp _) (s0:=(0,[])) rfl]
 ·have:∀(l:L_ α) k h,BA (λi h x=>(.inl (bif p x then h++[(i:Int)]else h):L_ Int⊕L_ Int)) (λh=>h) k h l=h++Ws p k l:=by
   intro l
   induction l with
   | nil=>intro k h;simp[BA,Ws]
   | cons x l ih=>
    intro k h
    rw[BA,Ws,Sum.elim_inl,ih]
    cases p x<;>simp
  rw[this];rfl
 intro i h x D hi hx
 refine⟨hs i h x D hi hx,λt' ht=>?_⟩
 cases ht
 cases p x
 ·simpa using Nat.le_succ_of_le D
 simpa using D
def Qbr {α:Type}(bad:Nat->α->Bool):Nat->L_ α->Bool
 | _,[]=>false
 | i,x::l=>bad i x||Qbr bad (i+1) l
def Qm8 {α:Type}{bad:Nat->α->Bool}:∀{l:L_ α} {k:Nat},Qbr bad k l=true↔∃i x,l[i]? = some x/\bad (k+i) x=true:=by
 intro l
 induction l with
 | nil=>intro k;exact⟨λh=>(by cases h),λ⟨i,x,h,_⟩=>(by simp at h)⟩
 | cons y l ih=>
  intro k
  rw[Qbr,Wv,ih]
  constructor
  ·rintro (h | ⟨i,x,D,h2⟩)
   ·exact⟨0,y,rfl,h⟩
   exact⟨i+1,x,D,by rw[<-h2];congr 1;omega⟩
  rintro ⟨i,x,D,h2⟩
  cases i with
  | zero=>cases D;exact .inl h2
  | succ i=>exact .inr ⟨i,x,D,by rw[<-h2];congr 1;omega⟩
def Qm9 {α ρ σ:Type}{body:σ->O_ (σ⊕ρ)}{l:L_ α}(mk:Nat->σ)(bad:Nat->α->Bool)(D r2:ρ)
  (hs:∀i x,i<l.length->l[i]? = some x->body (mk i)=some (bif bad i x then .inr D else .inl (mk (i+1))))
  (hf:body (mk l.length)=some (.inr r2)) {s0:σ} (h0:s0=mk 0):QE body s0=some (bif Qbr bad 0 l then D else r2):=by
 subst h0
 have h:=Zd (body:=body) (l:=l) (λi (_:Unit)=>mk i) (λi _ x=>bif bad i x then .inr D else .inl ()) (λ_=>r2) (λi _ x hi hx=>by rw[hs i x hi hx];cases bad i x<;>rfl) (λ_=>hf) () rfl
 rw[h]
 congr 1
 have:∀(l:L_ α) k,BA (λi (_:Unit) x=>bif bad i x then .inr D else .inl ()) (λ_=>r2) k () l=bif Qbr bad k l then D else r2:=by
  intro l
  induction l with
  | nil=>intro k;rfl
  | cons x l ih=>
   intro k
   rw[BA,Qbr]
   cases bad k x with
   | true=>rfl
   | false=>exact ih (k+1)
 exact this l 0
def Ej {α:Type}(p:Nat->α->Bool):Nat->L_ α->O_ Nat
 | _,[]=>none
 | i,x::l=>bif p i x then some i else Ej p (i+1) l
def Ze {α ρ σ:Type}{body:σ->O_ (σ⊕ρ)}{l:L_ α}(mk:Nat->σ)(p:Nat->α->Bool)(D:Nat->ρ)(r2:ρ)
  (hs:∀i x,i<l.length->l[i]? = some x->body (mk i)=some (bif p i x then .inr (D i)else .inl (mk (i+1))))
  (hf:body (mk l.length)=some (.inr r2)) {s0:σ} (h0:s0=mk 0):QE body s0=some ((Ej p 0 l).elim r2 D):=by
 subst h0
 have h:=Zd (body:=body) (l:=l) (λi (_:Unit)=>mk i) (λi _ x=>bif p i x then .inr (D i)else .inl ()) (λ_=>r2) (λi _ x hi hx=>by rw[hs i x hi hx];cases p i x<;>rfl) (λ_=>hf) () rfl
 rw[h]
 congr 1
 have:∀(l:L_ α) k,BA (λi (_:Unit) x=>bif p i x then .inr (D i)else .inl ()) (λ_=>r2) k () l=(Ej p k l).elim r2 D:=by
  intro l
  induction l with
  | nil=>intro k;rfl
  | cons x l ih=>
   intro k
   rw[BA,Ej]
   cases p k x with
   | true=>rfl
   | false=>exact ih (k+1)
 exact this l 0
def SE {α:Type}{p:Nat->α->Bool}:∀{l:L_ α} {k n:Nat},Ej p k l=some n->∃i x,n=k+i/\l[i]? = some x/\p n x=true:=by
 intro l
 induction l with
 | nil=>intro k n h;cases h
 | cons y l ih=>
  intro k n h
  rw[Ej]at h
  cases hp:p k y with
  | true=>rw[hp]at h;cases h;exact⟨0,y,rfl,rfl,hp⟩
  | false=>
   rw[hp]at h
   obtain⟨i,x,h1,D,h3⟩:=ih h
   exact⟨i+1,x,by omega,D,h3⟩
def SF {α:Type}{p:Nat->α->Bool}:∀{l:L_ α} {k:Nat},Ej p k l=none->∀i x,l[i]? = some x->p (k+i) x=false:=by
 intro l
 induction l with
 | nil=>intro k h i x D;simp at D
 | cons y l ih=>
  intro k h i x D
  rw[Ej]at h
  cases hp:p k y with
  | true=>rw[hp]at h;cases h
  | false=>
   rw[hp]at h
   cases i with
   | zero=>cases D;exact hp
   | succ i=>have:=ih h i x D;rw[<-this];congr 1;omega
end Go.Vm
