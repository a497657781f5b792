/- A part of the proof. -/
import Derived.Test.YtkocdcoeinjdbaaGreatDoorK1V2
set_option linter.all false
namespace Go.Vm
open Go Go.RowKit
def QdT (n:Int):Qs n=wrap64 n:=IntWalk.i64_left n
def Ja {n:Int}(h:-9223372036854775808<=n/\n<=9223372036854775807):Qs n=n:=IntWalk.i64_in n h
def Qck (a b:Int):Qs (Qs a+b)=Qs (a+b):=by rw[QdT,QdT,QdT];unfold wrap64;omega
def QH {i n:Nat}(h:i<n)(y:n<=maxLen):Qs ((i:Int)+1)=((i+1:Nat):Int):=by
 unfold maxLen at y
 rw[Ja (by omega)];omega
def XQ {α:Type}(l:L_ α)(i:Nat):idx l (i:Int)=l[i]? := by
 unfold idx;rw[if_pos (Int.natCast_nonneg i)];rfl
def Qcl {α:Type}{l:L_ α}{j:Int}(h:0<=j):idx l j=l[j.toNat]? := by unfold idx;rw[if_pos h]
def Qfd {α:Type}{l:L_ α}{j:Int}(h:0<=j)(y:j<l.length):idx l j=some (l[j.toNat]'(by omega)):=by
 rw[Qcl h,QW (by omega)]
def Qaf {c:Bool}(h:c=true):chk c=some ():=by subst h;rfl
def BD {p:Prop}[Decidable p](h:p):chk (decide p)=some ():=Qaf (QP h)
section
variable {κ α:Type}[DecidableEq κ]
def Ya (a:κ)(x:α)(r:L_ (κ×α))(k:κ):Xa ((a,x)::r) k=if a=k then some x else Xa r k:=rfl
def Qj8 {l:L_ (κ×α)}{k j:κ}{v:α}(h:(Xa l k).isSome=true):Xa (Fj l k v) j=if j=k then some v else Xa l j:=by
 induction l with
 | nil=>cases h
 | cons p l D=>
  obtain⟨a,x⟩:=p
  rw[Ya]at h
  rw[Fj]
  split
  ·rename_i e
   subst e
   rw[Ya,Ya]
   by_cases c:a=j
   ·subst c;simp
   rw[if_neg c,if_neg (λe=>c e.symm),if_neg c]
  rename_i y
  rw[if_neg y]at h
  rw[Ya,Ya,D h]
  by_cases c:a=j
  ·subst c;simp[y]
  rw[if_neg c,if_neg c]
def Qj9 (lt:κ->κ->Bool){l:L_ (κ×α)}{k j:κ}{v:α}(h:Xa l k=none):Xa (Ci lt l k v) j=if j=k then some v else Xa l j:=by
 induction l with
 | nil=>
  rw[Ci,Ya]
  by_cases c:j=k
  ·subst c;simp
  rw[if_neg (λe=>c e.symm),if_neg c]
 | cons p l D=>
  obtain⟨a,x⟩:=p
  rw[Ya]at h
  split at h
  ·cases h
  rename_i y
  rw[Ci]
  split
  ·rw[Ya]
   by_cases c:j=k
   ·subst c;simp
   rw[if_neg (λe=>c e.symm),if_neg c]
  rw[Ya,Ya,D h]
  by_cases c:a=j
  ·subst c;simp[y]
  rw[if_neg c,if_neg c]
def FJ (lt:κ->κ->Bool)(l:L_ (κ×α))(k j:κ)(v:α):Xa (YP lt l k v) j=if j=k then some v else Xa l j:=by
 unfold YP
 split
 ·rename_i x h;exact Qj8 (by rw[h];rfl)
 rename_i h;exact Qj9 lt h
end
def Qcm {σ ρ:Type}{body:σ->O_ (σ⊕ρ)}(n:Nat)(I:Nat->σ->Prop)(h:ρ->Prop)
  (step:∀i s,i<n->I i s->(∃s',body s=some (.inl s')/\I (i+1) s')\/∃r,body s=some (.inr r)/\h r)
  (D:∀s,I n s->∃r,body s=some (.inr r)/\h r):∀s,I 0 s->∃r,QO body s=some r/\h r:=by
 have key:∀k i s,i+k=n->I i s->∃r,QO body s=some r/\h r:=by
  intro k
  induction k with
  | zero=>
   intro i s hk y
   obtain rfl:i=n:=by omega
   obtain⟨r,hr,hp⟩:=D s y
   exact⟨r,by rw[WH,hr];rfl,hp⟩
  | succ k ih=>
   intro i s hk y
   rcases step i s (by omega) y with⟨s',hb,hI'⟩|⟨r,hb,hp⟩
   ·obtain⟨r,hr,hp⟩:=ih (i+1) s' (by omega) hI'
    exact⟨r,by rw[WH,hb];exact hr,hp⟩
   exact⟨r,by rw[WH,hb];rfl,hp⟩
 exact λs y=>key n 0 s (by omega) y
def HE {α τ ρ:Type}(h:Nat->τ->α->τ⊕ρ)(y:τ->ρ):Nat->τ->L_ α->ρ
 | _,t,[]=>y t
 | i,t,x::l=>Sum.elim (λD=>HE h y (i+1) D l) (λr=>r) (h i t x)
def Qjp {α τ ρ σ:Type}{body:σ->O_ (σ⊕ρ)}{l:L_ α}(J:Nat->τ->Prop)(mk:Nat->τ->σ)(h:Nat->τ->α->τ⊕ρ)(y:τ->ρ)
  (hs:∀i t x,J i t->i<l.length->l[i]? = some x->body (mk i t)=some (Sum.elim (λD=>.inl (mk (i+1) D)) .inr (h i t x))/\∀D,h i t x=.inl D->J (i+1) D)
  (hf:∀t,J l.length t->body (mk l.length t)=some (.inr (y t))) (t:τ) (hj:J 0 t) {s0:σ} (h0:s0=mk 0 t):QO body s0=some (HE h y 0 t l):=by
 subst h0
 have key:∀k i t,i+k=l.length->J i t->QO body (mk i t)=some (HE h y i t (l.drop i)):=by
  intro k
  induction k with
  | zero=>
   intro i t hk hj
   obtain rfl:i=l.length:=by omega
   rw[WH,hf t hj,List.drop_length];rfl
  | succ k ih=>
   intro i t hk hj
   have hi:i<l.length:=by omega
   obtain⟨h1,h2⟩:=hs i t l[i] hj hi (QW hi)
   rw[WH,h1,List.drop_eq_getElem_cons hi]
   simp only[HE]
   cases hst:h i t l[i]with
   | inl D=>exact ih (i+1) D (by omega) (h2 D hst)
   | inr r=>rfl
 exact key l.length 0 t (by omega) hj
def TI {α τ ρ σ:Type}{body:σ->O_ (σ⊕ρ)}{l:L_ α}(mk:Nat->τ->σ)(h:Nat->τ->α->τ⊕ρ)(y:τ->ρ)
  (hs:∀i t x,i<l.length->l[i]? = some x->body (mk i t)=some (Sum.elim (λt'=>.inl (mk (i+1) t')) .inr (h i t x)))
  (hf:∀t,body (mk l.length t)=some (.inr (y t))) (t:τ) {s0:σ} (D:s0=mk 0 t):QO body s0=some (HE h y 0 t l):=
 Qjp (λ_ _=>True) mk h y (λi t x _ hi hx=>⟨hs i t x hi hx,λ_ _=>trivial⟩) (λt _=>hf t) t trivial D
def Pb {α:Type}(bad:Nat->α->Bool):Nat->L_ α->Bool
 | _,[]=>false
 | i,x::l=>bad i x||Pb bad (i+1) l
def Qli {α:Type}{bad:Nat->α->Bool}:∀{l:L_ α} {k:Nat},Pb bad k l=true↔∃i x,l[i]? = some x/\bad (k+i) x=true:=by
 intro l
 induction l with
 | nil=>intro k;exact⟨λh=>(by cases h),λ⟨i,x,h,_⟩=>(by simp at h)⟩
 | cons y l ih=>
  intro k
  rw[Pb,Kw,ih]
  constructor
  ·rintro (h | ⟨i,x,D,h2⟩)
   ·exact⟨0,y,rfl,h⟩
   exact⟨i+1,x,D,by rw[<-h2];congr 1;omega⟩
  rintro ⟨i,x,D,h2⟩
  cases i with
  | zero=>cases D;exact .inl h2
  | succ i=>exact .inr ⟨i,x,D,by rw[<-h2];congr 1;omega⟩
def Qfe {α:Type}{bad:Nat->α->Bool}{l:L_ α}:Pb bad 0 l=false↔∀i x,l[i]? = some x->bad i x=false:=by
 rw[<-LW,Qli]
 simp only[Ae,not_exists,not_and,LW]
def QdU {α ρ σ:Type}{body:σ->O_ (σ⊕ρ)}{l:L_ α}(mk:Nat->σ)(bad:Nat->α->Bool)(y D:ρ)
  (hs:∀i x,i<l.length->l[i]? = some x->body (mk i)=some (bif bad i x then .inr y else .inl (mk (i+1))))
  (hf:body (mk l.length)=some (.inr D)) {s0:σ} (h0:s0=mk 0):QO body s0=some (bif Pb bad 0 l then y else D):=by
 subst h0
 have h:=TI (body:=body) (l:=l) (λi (_:Unit)=>mk i) (λi _ x=>bif bad i x then .inr y else .inl ()) (λ_=>D) (λi _ x hi hx=>by rw[hs i x hi hx];cases bad i x<;>rfl) (λ_=>hf) () rfl
 rw[h]
 congr 1
 have:∀(l:L_ α) k,HE (λi (_:Unit) x=>bif bad i x then .inr y else .inl ()) (λ_=>D) k () l=bif Pb bad k l then y else D:=by
  intro l
  induction l with
  | nil=>intro k;rfl
  | cons x l ih=>
   intro k
   rw[HE,Pb]
   cases bad k x with
   | true=>rfl
   | false=>exact ih (k+1)
 exact this l 0
def EW {α:Type}(p:Nat->α->Bool):Nat->L_ α->O_ Nat
 | _,[]=>none
 | i,x::l=>bif p i x then some i else EW p (i+1) l
def QgG {α ρ σ:Type}{body:σ->O_ (σ⊕ρ)}{l:L_ α}(mk:Nat->σ)(p:Nat->α->Bool)(y:Nat->ρ)(D:ρ)
  (hs:∀i x,i<l.length->l[i]? = some x->body (mk i)=some (bif p i x then .inr (y i)else .inl (mk (i+1))))
  (hf:body (mk l.length)=some (.inr D)) {s0:σ} (h0:s0=mk 0):QO body s0=some ((EW p 0 l).elim D y):=by
 subst h0
 have h:=TI (body:=body) (l:=l) (λi (_:Unit)=>mk i) (λi _ x=>bif p i x then .inr (y i)else .inl ()) (λ_=>D) (λi _ x hi hx=>by rw[hs i x hi hx];cases p i x<;>rfl) (λ_=>hf) () rfl
 rw[h]
 congr 1
 have:∀(l:L_ α) k,HE (λi (_:Unit) x=>bif p i x then .inr (y i)else .inl ()) (λ_=>D) k () l=(EW p k l).elim D y:=by
  intro l
  induction l with
  | nil=>intro k;rfl
  | cons x l ih=>
   intro k
   rw[HE,EW]
   cases p k x with
   | true=>rfl
   | false=>exact ih (k+1)
 exact this l 0
def Qff {α:Type}{p:Nat->α->Bool}:∀{l:L_ α} {k n:Nat},EW p k l=some n->∃i x,n=k+i/\l[i]? = some x/\p n x=true:=by
 intro l
 induction l with
 | nil=>intro k n h;cases h
 | cons y l ih=>
  intro k n h
  rw[EW]at h
  cases hp:p k y with
  | true=>rw[hp]at h;cases h;exact⟨0,y,rfl,rfl,hp⟩
  | false=>
   rw[hp]at h
   obtain⟨i,x,h1,D,h3⟩:=ih h
   exact⟨i+1,x,by omega,D,h3⟩
def Qjq {α:Type}{p:Nat->α->Bool}:∀{l:L_ α} {k:Nat},EW p k l=none->∀i x,l[i]? = some x->p (k+i) x=false:=by
 intro l
 induction l with
 | nil=>intro k h i x D;simp at D
 | cons y l ih=>
  intro k h i x D
  rw[EW]at h
  cases hp:p k y with
  | true=>rw[hp]at h;cases h
  | false=>
   rw[hp]at h
   cases i with
   | zero=>cases D;exact hp
   | succ i=>have:=ih h i x D;rw[<-this];congr 1;omega
end Go.Vm
