/- A part of the proof; what it holds is told at each theorem. -/
import Derived.Test.YtphohlpbjofddaaGreatDoorO4V2
set_option linter.all false
namespace Go.Vm
open Go Go.RowKit
def Pc (n:Int):Qj n=wrap64 n:=IntWalk.i64_left n
def Xv {n:Int}(h:-9223372036854775808<=n/\n<=9223372036854775807):Qj n=n:=IntWalk.i64_in n h
def Qis (a b:Int):Qj (Qj a+b)=Qj (a+b):=by rw[Pc,Pc,Pc];unfold wrap64;omega
def Qr {i n:Nat}(h:i<n)(j:n<=maxLen):Qj ((i:Int)+1)=((i+1:Nat):Int):=by
 unfold maxLen at j
 rw[Xv (by omega)];omega
def QR {α:Type}(l:L_ α)(i:Nat):idx l (i:Int)=l[i]? := by
 unfold idx;rw[if_pos (Int.natCast_nonneg i)];rfl
def Wu {α:Type}{l:L_ α}{j:Int}(h:0<=j):idx l j=l[j.toNat]? := by unfold idx;rw[if_pos h]
def LY {α:Type}{l:L_ α}{j:Int}(h:0<=j)(D:j<l.length):idx l j=some (l[j.toNat]'(by omega)):=by
 rw[Wu h,Qy (by omega)]
def PA {c:Bool}(h:c=true):chk c=some ():=by subst h;rfl
def GJ {p:Prop}[Decidable p](h:p):chk (decide p)=some ():=PA (QB h)
section
variable {κ α:Type}[DecidableEq κ]
def XU (a:κ)(x:α)(r:L_ (κ×α))(k:κ):QW ((a,x)::r) k=if a=k then some x else QW r k:=rfl
def QmV {l:L_ (κ×α)}{k j:κ}{v:α}(h:(QW l k).isSome=true):QW (MA l k v) j=if j=k then some v else QW l j:=by
 induction l with
 | nil=>cases h
 | cons p l ih=>
  obtain⟨a,x⟩:=p
  rw[XU]at h
  rw[MA]
  split
  ·rename_i e
   subst e
   rw[XU,XU]
   by_cases c:a=j
   ·subst c;simp
   rw[if_neg c,if_neg (λe=>c e.symm),if_neg c]
  rename_i D
  rw[if_neg D]at h
  rw[XU,XU,ih h]
  by_cases c:a=j
  ·subst c;simp[D]
  rw[if_neg c,if_neg c]
def QmW (lt:κ->κ->Bool){l:L_ (κ×α)}{k j:κ}{v:α}(h:QW l k=none):QW (Mz lt l k v) j=if j=k then some v else QW l j:=by
 induction l with
 | nil=>
  rw[Mz,XU]
  by_cases c:j=k
  ·subst c;simp
  rw[if_neg (λe=>c e.symm),if_neg c]
 | cons p l ih=>
  obtain⟨a,x⟩:=p
  rw[XU]at h
  split at h
  ·cases h
  rename_i D
  rw[Mz]
  split
  ·rw[XU]
   by_cases c:j=k
   ·subst c;simp
   rw[if_neg (λe=>c e.symm),if_neg c]
  rw[XU,XU,ih h]
  by_cases c:a=j
  ·subst c;simp[D]
  rw[if_neg c,if_neg c]
def AM (lt:κ->κ->Bool)(l:L_ (κ×α))(k j:κ)(v:α):QW (Ja lt l k v) j=if j=k then some v else QW l j:=by
 unfold Ja
 split
 ·rename_i x h;exact QmV (by rw[h];rfl)
 rename_i h;exact QmW lt h
end
def Nn {σ ρ:Type}{body:σ->O_ (σ⊕ρ)}(n:Nat)(I:Nat->σ->Prop)(h:ρ->Prop)
  (step:∀i s,i<n->I i s->(∃s',body s=some (.inl s')/\I (i+1) s')\/∃r,body s=some (.inr r)/\h r)
  (D:∀s,I n s->∃r,body s=some (.inr r)/\h r):∀s,I 0 s->∃r,Qs body s=some r/\h r:=by
 have key:∀k i s,i+k=n->I i s->∃r,Qs body s=some r/\h r:=by
  intro k
  induction k with
  | zero=>
   intro i s hk j
   obtain rfl:i=n:=by omega
   obtain⟨r,hr,hp⟩:=D s j
   exact⟨r,by rw[Yz,hr];rfl,hp⟩
  | succ k ih=>
   intro i s hk j
   rcases step i s (by omega) j with⟨s',hb,hI'⟩|⟨r,hb,hp⟩
   ·obtain⟨r,hr,hp⟩:=ih (i+1) s' (by omega) hI'
    exact⟨r,by rw[Yz,hb];exact hr,hp⟩
   exact⟨r,by rw[Yz,hb];rfl,hp⟩
 exact λs j=>key n 0 s (by omega) j
def AN {α τ ρ:Type}(h:Nat->τ->α->τ⊕ρ)(j:τ->ρ):Nat->τ->L_ α->ρ
 | _,t,[]=>j t
 | i,t,x::l=>Sum.elim (λD=>AN h j (i+1) D l) (λr=>r) (h i t x)
def QlZ {α τ ρ σ:Type}{body:σ->O_ (σ⊕ρ)}{l:L_ α}(J:Nat->τ->Prop)(mk:Nat->τ->σ)(h:Nat->τ->α->τ⊕ρ)(j:τ->ρ)
  (hs:∀i t x,J i t->i<l.length->l[i]? = some x->body (mk i t)=some (Sum.elim (λD=>.inl (mk (i+1) D)) .inr (h i t x))/\∀D,h i t x=.inl D->J (i+1) D)
  (hf:∀t,J l.length t->body (mk l.length t)=some (.inr (j t))) (t:τ) (hj:J 0 t) {s0:σ} (h0:s0=mk 0 t):Qs body s0=some (AN h j 0 t l):=by
 subst h0
 have key:∀k i t,i+k=l.length->J i t->Qs body (mk i t)=some (AN h j i t (l.drop i)):=by
  intro k
  induction k with
  | zero=>
   intro i t hk hj
   obtain rfl:i=l.length:=by omega
   rw[Yz,hf t hj,List.drop_length];rfl
  | succ k ih=>
   intro i t hk hj
   have hi:i<l.length:=by omega
   obtain⟨h1,h2⟩:=hs i t l[i] hj hi (Qy hi)
   rw[Yz,h1,Nt hi]
   simp only[AN]
   cases hst:h i t l[i]with
   | inl D=>exact ih (i+1) D (by omega) (h2 D hst)
   | inr r=>rfl
 exact key l.length 0 t (by omega) hj
def No {α τ ρ σ:Type}{body:σ->O_ (σ⊕ρ)}{l:L_ α}(mk:Nat->τ->σ)(h:Nat->τ->α->τ⊕ρ)(j:τ->ρ)
  (hs:∀i t x,i<l.length->l[i]? = some x->body (mk i t)=some (Sum.elim (λt'=>.inl (mk (i+1) t')) .inr (h i t x)))
  (hf:∀t,body (mk l.length t)=some (.inr (j t))) (t:τ) {s0:σ} (D:s0=mk 0 t):Qs body s0=some (AN h j 0 t l):=
 QlZ (λ_ _=>True) mk h j (λi t x _ hi hx=>⟨hs i t x hi hx,λ_ _=>trivial⟩) (λt _=>hf t) t trivial D
def OC {α:Type}(bad:Nat->α->Bool):Nat->L_ α->Bool
 | _,[]=>false
 | i,x::l=>bad i x||OC bad (i+1) l
def QfL {α:Type}{bad:Nat->α->Bool}:∀{l:L_ α} {k:Nat},OC bad k l=true↔∃i x,l[i]? = some x/\bad (k+i) x=true:=by
 intro l
 induction l with
 | nil=>intro k;exact⟨λh=>(by cases h),λ⟨i,x,h,_⟩=>(by simp at h)⟩
 | cons y l ih=>
  intro k
  rw[OC,Kh,ih]
  constructor
  ·rintro (h | ⟨i,x,j,D⟩)
   ·exact⟨0,y,rfl,h⟩
   exact⟨i+1,x,j,by rw[<-D];congr 1;omega⟩
  rintro ⟨i,x,j,D⟩
  cases i with
  | zero=>cases j;exact .inl D
  | succ i=>exact .inr ⟨i,x,j,by rw[<-D];congr 1;omega⟩
def Qa3 {α:Type}{bad:Nat->α->Bool}{l:L_ α}:OC bad 0 l=false↔∀i x,l[i]? = some x->bad i x=false:=by
 rw[<-FN,QfL]
 simp only[BA,not_exists,not_and,FN]
def Pd {α ρ σ:Type}{body:σ->O_ (σ⊕ρ)}{l:L_ α}(mk:Nat->σ)(bad:Nat->α->Bool)(j D:ρ)
  (hs:∀i x,i<l.length->l[i]? = some x->body (mk i)=some (bif bad i x then .inr j else .inl (mk (i+1))))
  (hf:body (mk l.length)=some (.inr D)) {s0:σ} (h0:s0=mk 0):Qs body s0=some (bif OC bad 0 l then j else D):=by
 subst h0
 have h:=No (body:=body) (l:=l) (λi (_:Unit)=>mk i) (λi _ x=>bif bad i x then .inr j else .inl ()) (λ_=>D) (λi _ x hi hx=>by rw[hs i x hi hx];cases bad i x<;>rfl) (λ_=>hf) () rfl
 rw[h]
 congr 1
 have:∀(l:L_ α) k,AN (λi (_:Unit) x=>bif bad i x then .inr j else .inl ()) (λ_=>D) k () l=bif OC bad k l then j else D:=by
  intro l
  induction l with
  | nil=>intro k;rfl
  | cons x l ih=>
   intro k
   rw[AN,OC]
   cases bad k x with
   | true=>rfl
   | false=>exact ih (k+1)
 exact this l 0
def IU {α:Type}(p:Nat->α->Bool):Nat->L_ α->O_ Nat
 | _,[]=>none
 | i,x::l=>bif p i x then some i else IU p (i+1) l
def QmX {α ρ σ:Type}{body:σ->O_ (σ⊕ρ)}{l:L_ α}(mk:Nat->σ)(p:Nat->α->Bool)(j:Nat->ρ)(D:ρ)
  (hs:∀i x,i<l.length->l[i]? = some x->body (mk i)=some (bif p i x then .inr (j i)else .inl (mk (i+1))))
  (hf:body (mk l.length)=some (.inr D)) {s0:σ} (h0:s0=mk 0):Qs body s0=some ((IU p 0 l).elim D j):=by
 subst h0
 have h:=No (body:=body) (l:=l) (λi (_:Unit)=>mk i) (λi _ x=>bif p i x then .inr (j i)else .inl ()) (λ_=>D) (λi _ x hi hx=>by rw[hs i x hi hx];cases p i x<;>rfl) (λ_=>hf) () rfl
 rw[h]
 congr 1
 have:∀(l:L_ α) k,AN (λi (_:Unit) x=>bif p i x then .inr (j i)else .inl ()) (λ_=>D) k () l=(IU p k l).elim D j:=by
  intro l
  induction l with
  | nil=>intro k;rfl
  | cons x l ih=>
   intro k
   rw[AN,IU]
   cases p k x with
   | true=>rfl
   | false=>exact ih (k+1)
 exact this l 0
def Ql0 {α:Type}{p:Nat->α->Bool}:∀{l:L_ α} {k n:Nat},IU p k l=some n->∃i x,n=k+i/\l[i]? = some x/\p n x=true:=by
 intro l
 induction l with
 | nil=>intro k n h;cases h
 | cons y l ih=>
  intro k n h
  rw[IU]at h
  cases hp:p k y with
  | true=>rw[hp]at h;cases h;exact⟨0,y,rfl,rfl,hp⟩
  | false=>
   rw[hp]at h
   obtain⟨i,x,h1,j,D⟩:=ih h
   exact⟨i+1,x,by omega,j,D⟩
def Ql1 {α:Type}{p:Nat->α->Bool}:∀{l:L_ α} {k:Nat},IU p k l=none->∀i x,l[i]? = some x->p (k+i) x=false:=by
 intro l
 induction l with
 | nil=>intro k h i x j;simp at j
 | cons y l D=>
  intro k h i x j
  rw[IU]at h
  cases hp:p k y with
  | true=>rw[hp]at h;cases h
  | false=>
   rw[hp]at h
   cases i with
   | zero=>cases j;exact hp
   | succ i=>have:=D h i x j;rw[<-this];congr 1;omega
end Go.Vm
