/- A part of the proof. -/
import Derived.Test.YtkocdcoeinjdbaaGreatDoorK2V2
set_option linter.all false
namespace Go.Vm
open Go Go.RowKit
def QdX (n:Int):Qq n=wrap64 n:=IntWalk.i64_left n
def Yg {n:Int}(h:-9223372036854775808<=n/\n<=9223372036854775807):Qq n=n:=IntWalk.i64_in n h
def Qct (a b:Int):Qq (Qq a+b)=Qq (a+b):=by rw[QdX,QdX,QdX];unfold wrap64;omega
def QE {i n:Nat}(h:i<n)(y:n<=maxLen):Qq ((i:Int)+1)=((i+1:Nat):Int):=by
 unfold maxLen at y
 rw[Yg (by omega)];omega
def XH {α:Type}(l:L_ α)(i:Nat):idx l (i:Int)=l[i]? := by
 unfold idx;rw[if_pos (Int.natCast_nonneg i)];rfl
def Mj {α:Type}{l:L_ α}{j:Int}(h:0<=j):idx l j=l[j.toNat]? := by unfold idx;rw[if_pos h]
def QbX {α:Type}{l:L_ α}{j:Int}(h:0<=j)(y:j<l.length):idx l j=some (l[j.toNat]'(by omega)):=by
 rw[Mj h,QR (by omega)]
def Qaq {c:Bool}(h:c=true):chk c=some ():=by subst h;rfl
def FN {p:Prop}[Decidable p](h:p):chk (decide p)=some ():=Qaq (QN h)
section
variable {κ α:Type}[DecidableEq κ]
def Yi (a:κ)(x:α)(r:L_ (κ×α))(k:κ):Xb ((a,x)::r) k=if a=k then some x else Xb r k:=rfl
def Qj6 {l:L_ (κ×α)}{k j:κ}{v:α}(h:(Xb l k).isSome=true):Xb (FZ l k v) j=if j=k then some v else Xb l j:=by
 induction l with
 | nil=>cases h
 | cons p l D=>
  obtain⟨a,x⟩:=p
  rw[Yi]at h
  rw[FZ]
  split
  ·rename_i e
   subst e
   rw[Yi,Yi]
   by_cases c:a=j
   ·subst c;simp
   rw[if_neg c,if_neg (λe=>c e.symm),if_neg c]
  rename_i y
  rw[if_neg y]at h
  rw[Yi,Yi,D h]
  by_cases c:a=j
  ·subst c;simp[y]
  rw[if_neg c,if_neg c]
def Qj7 (lt:κ->κ->Bool){l:L_ (κ×α)}{k j:κ}{v:α}(h:Xb l k=none):Xb (CX lt l k v) j=if j=k then some v else Xb l j:=by
 induction l with
 | nil=>
  rw[CX,Yi]
  by_cases c:j=k
  ·subst c;simp
  rw[if_neg (λe=>c e.symm),if_neg c]
 | cons p l D=>
  obtain⟨a,x⟩:=p
  rw[Yi]at h
  split at h
  ·cases h
  rename_i y
  rw[CX]
  split
  ·rw[Yi]
   by_cases c:j=k
   ·subst c;simp
   rw[if_neg (λe=>c e.symm),if_neg c]
  rw[Yi,Yi,D h]
  by_cases c:a=j
  ·subst c;simp[y]
  rw[if_neg c,if_neg c]
def AB (lt:κ->κ->Bool)(l:L_ (κ×α))(k j:κ)(v:α):Xb (Jd lt l k v) j=if j=k then some v else Xb l j:=by
 unfold Jd
 split
 ·rename_i x h;exact Qj6 (by rw[h];rfl)
 rename_i h;exact Qj7 lt h
end
def Qcu {σ ρ:Type}{body:σ->O_ (σ⊕ρ)}(n:Nat)(I:Nat->σ->Prop)(h:ρ->Prop)
  (step:∀i s,i<n->I i s->(∃s',body s=some (.inl s')/\I (i+1) s')\/∃r,body s=some (.inr r)/\h r)
  (D:∀s,I n s->∃r,body s=some (.inr r)/\h r):∀s,I 0 s->∃r,QQ body s=some r/\h r:=by
 have key:∀k i s,i+k=n->I i s->∃r,QQ body s=some r/\h r:=by
  intro k
  induction k with
  | zero=>
   intro i s hk y
   obtain rfl:i=n:=by omega
   obtain⟨r,hr,hp⟩:=D s y
   exact⟨r,by rw[KD,hr];rfl,hp⟩
  | succ k ih=>
   intro i s hk y
   rcases step i s (by omega) y with⟨s',hb,hI'⟩|⟨r,hb,hp⟩
   ·obtain⟨r,hr,hp⟩:=ih (i+1) s' (by omega) hI'
    exact⟨r,by rw[KD,hb];exact hr,hp⟩
   exact⟨r,by rw[KD,hb];rfl,hp⟩
 exact λs y=>key n 0 s (by omega) y
def Iq {α τ ρ:Type}(h:Nat->τ->α->τ⊕ρ)(y:τ->ρ):Nat->τ->L_ α->ρ
 | _,t,[]=>y t
 | i,t,x::l=>Sum.elim (λD=>Iq h y (i+1) D l) (λr=>r) (h i t x)
def Qjn {α τ ρ σ:Type}{body:σ->O_ (σ⊕ρ)}{l:L_ α}(J:Nat->τ->Prop)(mk:Nat->τ->σ)(h:Nat->τ->α->τ⊕ρ)(y:τ->ρ)
  (hs:∀i t x,J i t->i<l.length->l[i]? = some x->body (mk i t)=some (Sum.elim (λD=>.inl (mk (i+1) D)) .inr (h i t x))/\∀D,h i t x=.inl D->J (i+1) D)
  (hf:∀t,J l.length t->body (mk l.length t)=some (.inr (y t))) (t:τ) (hj:J 0 t) {s0:σ} (h0:s0=mk 0 t):QQ body s0=some (Iq h y 0 t l):=by
 subst h0
 have key:∀k i t,i+k=l.length->J i t->QQ body (mk i t)=some (Iq h y i t (l.drop i)):=by
  intro k
  induction k with
  | zero=>
   intro i t hk hj
   obtain rfl:i=l.length:=by omega
   rw[KD,hf t hj,List.drop_length];rfl
  | succ k ih=>
   intro i t hk hj
   have hi:i<l.length:=by omega
   obtain⟨h1,h2⟩:=hs i t l[i] hj hi (QR hi)
   rw[KD,h1,SX hi]
   simp only[Iq]
   cases hst:h i t l[i]with
   | inl D=>exact ih (i+1) D (by omega) (h2 D hst)
   | inr r=>rfl
 exact key l.length 0 t (by omega) hj
def TK {α τ ρ σ:Type}{body:σ->O_ (σ⊕ρ)}{l:L_ α}(mk:Nat->τ->σ)(h:Nat->τ->α->τ⊕ρ)(y:τ->ρ)
  (hs:∀i t x,i<l.length->l[i]? = some x->body (mk i t)=some (Sum.elim (λt'=>.inl (mk (i+1) t')) .inr (h i t x)))
  (hf:∀t,body (mk l.length t)=some (.inr (y t))) (t:τ) {s0:σ} (D:s0=mk 0 t):QQ body s0=some (Iq h y 0 t l):=
 Qjn (λ_ _=>True) mk h y (λi t x _ hi hx=>⟨hs i t x hi hx,λ_ _=>trivial⟩) (λt _=>hf t) t trivial D
def QdY {α:Type}(bad:Nat->α->Bool):Nat->L_ α->Bool
 | _,[]=>false
 | i,x::l=>bad i x||QdY bad (i+1) l
def QhQ {α ρ σ:Type}{body:σ->O_ (σ⊕ρ)}{l:L_ α}(mk:Nat->σ)(bad:Nat->α->Bool)(y D:ρ)
  (hs:∀i x,i<l.length->l[i]? = some x->body (mk i)=some (bif bad i x then .inr y else .inl (mk (i+1))))
  (hf:body (mk l.length)=some (.inr D)) {s0:σ} (h0:s0=mk 0):QQ body s0=some (bif QdY bad 0 l then y else D):=by
 subst h0
 have h:=TK (body:=body) (l:=l) (λi (_:Unit)=>mk i) (λi _ x=>bif bad i x then .inr y else .inl ()) (λ_=>D) (λi _ x hi hx=>by rw[hs i x hi hx];cases bad i x<;>rfl) (λ_=>hf) () rfl
 rw[h]
 congr 1
 have:∀(l:L_ α) k,Iq (λi (_:Unit) x=>bif bad i x then .inr y else .inl ()) (λ_=>D) k () l=bif QdY bad k l then y else D:=by
  intro l
  induction l with
  | nil=>intro k;rfl
  | cons x l ih=>
   intro k
   rw[Iq,QdY]
   cases bad k x with
   | true=>rfl
   | false=>exact ih (k+1)
 exact this l 0
def UL {α:Type}(p:Nat->α->Bool):Nat->L_ α->O_ Nat
 | _,[]=>none
 | i,x::l=>bif p i x then some i else UL p (i+1) l
def Qgy {α ρ σ:Type}{body:σ->O_ (σ⊕ρ)}{l:L_ α}(mk:Nat->σ)(p:Nat->α->Bool)(y:Nat->ρ)(D:ρ)
  (hs:∀i x,i<l.length->l[i]? = some x->body (mk i)=some (bif p i x then .inr (y i)else .inl (mk (i+1))))
  (hf:body (mk l.length)=some (.inr D)) {s0:σ} (h0:s0=mk 0):QQ body s0=some ((UL p 0 l).elim D y):=by
 subst h0
 have h:=TK (body:=body) (l:=l) (λi (_:Unit)=>mk i) (λi _ x=>bif p i x then .inr (y i)else .inl ()) (λ_=>D) (λi _ x hi hx=>by rw[hs i x hi hx];cases p i x<;>rfl) (λ_=>hf) () rfl
 rw[h]
 congr 1
 have:∀(l:L_ α) k,Iq (λi (_:Unit) x=>bif p i x then .inr (y i)else .inl ()) (λ_=>D) k () l=(UL p k l).elim D y:=by
  intro l
  induction l with
  | nil=>intro k;rfl
  | cons x l ih=>
   intro k
   rw[Iq,UL]
   cases p k x with
   | true=>rfl
   | false=>exact ih (k+1)
 exact this l 0
def Qfd {α:Type}{p:Nat->α->Bool}:∀{l:L_ α} {k n:Nat},UL p k l=some n->∃i x,n=k+i/\l[i]? = some x/\p n x=true:=by
 intro l
 induction l with
 | nil=>intro k n h;cases h
 | cons y l ih=>
  intro k n h
  rw[UL]at h
  cases hp:p k y with
  | true=>rw[hp]at h;cases h;exact⟨0,y,rfl,rfl,hp⟩
  | false=>
   rw[hp]at h
   obtain⟨i,x,h1,D,h3⟩:=ih h
   exact⟨i+1,x,by omega,D,h3⟩
def Qjo {α:Type}{p:Nat->α->Bool}:∀{l:L_ α} {k:Nat},UL p k l=none->∀i x,l[i]? = some x->p (k+i) x=false:=by
 intro l
 induction l with
 | nil=>intro k h i x D;simp at D
 | cons y l ih=>
  intro k h i x D
  rw[UL]at h
  cases hp:p k y with
  | true=>rw[hp]at h;cases h
  | false=>
   rw[hp]at h
   cases i with
   | zero=>cases D;exact hp
   | succ i=>have:=ih h i x D;rw[<-this];congr 1;omega
end Go.Vm
