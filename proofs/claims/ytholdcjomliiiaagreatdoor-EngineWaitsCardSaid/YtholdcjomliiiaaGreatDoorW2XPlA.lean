/- A part of the proof. -/
import Derived.Test.YtholdcjomliiiaaGreatDoorW2V2
set_option linter.all false
namespace Go.Vm
open Go Go.RowKit
def QaE (n:Int):Qh n=wrap64 n:=IntWalk.i64_left n
def Xb {n:Int}(h:-9223372036854775808<=n/\n<=9223372036854775807):Qh n=n:=IntWalk.i64_in n h
def Qki (a b:Int):Qh (Qh a+b)=Qh (a+b):=by rw[QaE,QaE,QaE];unfold wrap64;omega
def Qo {i n:Nat}(h:i<n)(O:n<=maxLen):Qh ((i:Int)+1)=((i+1:Nat):Int):=by
 unfold maxLen at O;rw[Xb (by omega)];omega
def QG {α:Type}(l:L_ α)(i:Nat):idx l (i:Int)=l[i]? := by
 unfold idx;rw[if_pos (Int.natCast_nonneg i)];rfl
def DO {α:Type}{l:L_ α}{j:Int}(h:0<=j):idx l j=l[j.toNat]? := by unfold idx;rw[if_pos h]
def Sv {α:Type}{l:L_ α}{j:Int}(h:0<=j)(O:j<l.length):idx l j=some (l[j.toNat]'(by omega)):=by
 rw[DO h,Qv (by omega)]
def BO {c:Bool}(h:c=true):chk c=some ():=by subst h;rfl
def Yv {p:Prop}[Decidable p](h:p):chk (decide p)=some ():=BO (Ql h)
section
variable {κ α:Type}[DecidableEq κ]
def YK (a:κ)(x:α)(r:L_ (κ×α))(k:κ):Xg ((a,x)::r) k=if a=k then some x else Xg r k:=rfl
def Qwm {l:L_ (κ×α)}{k j:κ}{v:α}(h:(Xg l k).isSome=true):Xg (OH l k v) j=if j=k then some v else Xg l j:=by
 induction l with
 |nil=>cases h
 |cons p l ih=>
  obtain⟨a,x⟩:=p;rw[YK]at h;rw[OH];split
  ·rename_i e;subst e;rw[YK,YK];by_cases c:a=j
   ·subst c;simp
   rw[if_neg c,if_neg (λe=>c e.symm),if_neg c]
  rename_i O;rw[if_neg O]at h;rw[YK,YK,ih h];by_cases c:a=j
  ·subst c;simp[O]
  rw[if_neg c,if_neg c]
def Qwn (lt:κ->κ->Bool){l:L_ (κ×α)}{k j:κ}{v:α}(h:Xg l k=none):Xg (Nl lt l k v) j=if j=k then some v else Xg l j:=by
 induction l with
 |nil=>
  rw[Nl,YK];by_cases c:j=k
  ·subst c;simp
  rw[if_neg (λe=>c e.symm),if_neg c]
 |cons p l ih=>
  obtain⟨a,x⟩:=p;rw[YK]at h;split at h
  ·cases h
  rename_i O;rw[Nl];split
  ·rw[YK];by_cases c:j=k
   ·subst c;simp
   rw[if_neg (λe=>c e.symm),if_neg c]
  rw[YK,YK,ih h];by_cases c:a=j
  ·subst c;simp[O]
  rw[if_neg c,if_neg c]
def BX (lt:κ->κ->Bool)(l:L_ (κ×α))(k j:κ)(v:α):Xg (YQ lt l k v) j=if j=k then some v else Xg l j:=by
 unfold YQ;split
 ·rename_i x h;exact Qwm (by rw[h];rfl)
 rename_i h;exact Qwn lt h
end
def Cf {σ ρ:Type}{body:σ->O_ (σ⊕ρ)}(n:Nat)(I:Nat->σ->Prop)(h:ρ->Prop)
  (step:∀i s,i<n->I i s->(∃s',body s=some (.inl s')/\I (i+1) s')\/∃r,body s=some (.inr r)/\h r)
  (last:∀s,I n s->∃r,body s=some (.inr r)/\h r):∀s,I 0 s->∃r,Qq body s=some r/\h r:=by
 have key:∀k i s,i+k=n->I i s->∃r,Qq body s=some r/\h r:=by
  intro k
  induction k with
  |zero=>
   intro i s hk O;obtain rfl:i=n:=by omega
   obtain⟨r,hr,hp⟩:=last s O;exact⟨r,by rw[Yl,hr];rfl,hp⟩
  |succ k ih=>
   intro i s hk O;rcases step i s (by omega) O with⟨s',hb,hI'⟩|⟨r,hb,hp⟩
   ·obtain⟨r,hr,hp⟩:=ih (i+1) s' (by omega) hI';exact⟨r,by rw[Yl,hb];exact hr,hp⟩
   exact⟨r,by rw[Yl,hb];rfl,hp⟩
 exact λs O=>key n 0 s (by omega) O
def UW {α τ ρ:Type}(h:Nat->τ->α->τ⊕ρ)(O:τ->ρ):Nat->τ->L_ α->ρ
 |_,t,[]=>O t|i,t,x::l=>Sum.elim (λt'=>UW h O (i+1) t' l) (λr=>r) (h i t x)
def Qo5 {α τ ρ σ:Type}{body:σ->O_ (σ⊕ρ)}{l:L_ α}(J:Nat->τ->Prop)(mk:Nat->τ->σ)(h:Nat->τ->α->τ⊕ρ)(O:τ->ρ)
  (hs:∀i t x,J i t->i<l.length->l[i]? = some x->body (mk i t)=some (Sum.elim (λt'=>.inl (mk (i+1) t')) .inr (h i t x))/\∀t',h i t x=.inl t'->J (i+1) t')
  (hf:∀t,J l.length t->body (mk l.length t)=some (.inr (O t))) (t:τ) (hj:J 0 t) {s0:σ} (h0:s0=mk 0 t):Qq body s0=some (UW h O 0 t l):=by
 subst h0;have key:∀k i t,i+k=l.length->J i t->Qq body (mk i t)=some (UW h O i t (l.drop i)):=by
  intro k
  induction k with
  |zero=>
   intro i t hk hj;obtain rfl:i=l.length:=by omega
   rw[Yl,hf t hj,List.drop_length];rfl
  |succ k ih=>
   intro i t hk hj;have hi:i<l.length:=by omega
   obtain⟨h1,h2⟩:=hs i t l[i] hj hi (Qv hi);rw[Yl,h1,NE hi];simp only[UW];cases hst:h i t l[i]with|inl t'=>exact ih (i+1) t' (by omega) (h2 t' hst)|inr r=>rfl
 exact key l.length 0 t (by omega) hj
def Pj {α τ ρ σ:Type}{body:σ->O_ (σ⊕ρ)}{l:L_ α}(mk:Nat->τ->σ)(h:Nat->τ->α->τ⊕ρ)(O:τ->ρ)
  (hs:∀i t x,i<l.length->l[i]? = some x->body (mk i t)=some (Sum.elim (λt'=>.inl (mk (i+1) t')) .inr (h i t x)))
  (hf:∀t,body (mk l.length t)=some (.inr (O t))) (t:τ) {s0:σ} (h0:s0=mk 0 t):Qq body s0=some (UW h O 0 t l):=
 Qo5 (λ_ _=>True) mk h O (λi t x _ hi hx=>⟨hs i t x hi hx,λ_ _=>trivial⟩) (λt _=>hf t) t trivial h0
def HI {α:Type}(bad:Nat->α->Bool):Nat->L_ α->Bool
 |_,[]=>false|i,x::l=>bad i x||HI bad (i+1) l
def Qnd {α:Type}{bad:Nat->α->Bool}:∀{l:L_ α} {k:Nat},HI bad k l=true↔∃i x,l[i]? = some x/\bad (k+i) x=true:=by
 intro l
 induction l with
 |nil=>intro k;exact⟨λh=>(by cases h),λ⟨i,x,h,_⟩=>(by simp at h)⟩
 |cons y l ih=>
  intro k;rw[HI,KG,ih];constructor
  ·rintro (h|⟨i,x,O,h2⟩)
   ·exact⟨0,y,rfl,h⟩
   exact⟨i+1,x,O,by rw[<-h2];congr 1;omega⟩
  rintro ⟨i,x,O,h2⟩;cases i with
  |zero=>cases O;exact .inl h2
  |succ i=>exact .inr ⟨i,x,O,by rw[<-h2];congr 1;omega⟩
def QcK {α:Type}{bad:Nat->α->Bool}{l:L_ α}:HI bad 0 l=false↔∀i x,l[i]? = some x->bad i x=false:=by
 rw[<-Lz,Qnd];simp only[Gp,not_exists,not_and,Lz]
def TS {α ρ σ:Type}{body:σ->O_ (σ⊕ρ)}{l:L_ α}(mk:Nat->σ)(bad:Nat->α->Bool)(O r2:ρ)
  (hs:∀i x,i<l.length->l[i]? = some x->body (mk i)=some (bif bad i x then .inr O else .inl (mk (i+1))))
  (hf:body (mk l.length)=some (.inr r2)) {s0:σ} (h0:s0=mk 0):Qq body s0=some (bif HI bad 0 l then O else r2):=by
 subst h0;have h:=Pj (body:=body) (l:=l) (λi (_:Unit)=>mk i) (λi _ x=>bif bad i x then .inr O else .inl ()) (λ_=>r2) (λi _ x hi hx=>by rw[hs i x hi hx];cases bad i x<;>rfl) (λ_=>hf) () rfl;rw[h];congr 1;have:∀(l:L_ α) k,UW (λi (_:Unit) x=>bif bad i x then .inr O else .inl ()) (λ_=>r2) k () l=bif HI bad k l then O else r2:=by
  intro l
  induction l with
  |nil=>intro k;rfl|cons x l ih=>
   intro k;rw[UW,HI];cases bad k x with|true=>rfl|false=>exact ih (k+1)
 exact this l 0
def KM {α:Type}(p:Nat->α->Bool):Nat->L_ α->O_ Nat
 |_,[]=>none|i,x::l=>bif p i x then some i else KM p (i+1) l
def QbC {α ρ σ:Type}{body:σ->O_ (σ⊕ρ)}{l:L_ α}(mk:Nat->σ)(p:Nat->α->Bool)(O:Nat->ρ)(r2:ρ)
  (hs:∀i x,i<l.length->l[i]? = some x->body (mk i)=some (bif p i x then .inr (O i)else .inl (mk (i+1))))
  (hf:body (mk l.length)=some (.inr r2)) {s0:σ} (h0:s0=mk 0):Qq body s0=some ((KM p 0 l).elim r2 O):=by
 subst h0;have h:=Pj (body:=body) (l:=l) (λi (_:Unit)=>mk i) (λi _ x=>bif p i x then .inr (O i)else .inl ()) (λ_=>r2) (λi _ x hi hx=>by rw[hs i x hi hx];cases p i x<;>rfl) (λ_=>hf) () rfl;rw[h];congr 1;have:∀(l:L_ α) k,UW (λi (_:Unit) x=>bif p i x then .inr (O i)else .inl ()) (λ_=>r2) k () l=(KM p k l).elim r2 O:=by
  intro l
  induction l with
  |nil=>intro k;rfl|cons x l ih=>
   intro k;rw[UW,KM];cases p k x with|true=>rfl|false=>exact ih (k+1)
 exact this l 0
def QcL {α:Type}{p:Nat->α->Bool}:∀{l:L_ α} {k n:Nat},KM p k l=some n->∃i x,n=k+i/\l[i]? = some x/\p n x=true:=by
 intro l
 induction l with
 |nil=>intro k n h;cases h
 |cons y l ih=>
  intro k n h;rw[KM]at h;cases hp:p k y with
  |true=>rw[hp]at h;cases h;exact⟨0,y,rfl,rfl,hp⟩
  |false=>
   rw[hp]at h;obtain⟨i,x,h1,O,h3⟩:=ih h;exact⟨i+1,x,by omega,O,h3⟩
def Qo6 {α:Type}{p:Nat->α->Bool}:∀{l:L_ α} {k:Nat},KM p k l=none->∀i x,l[i]? = some x->p (k+i) x=false:=by
 intro l
 induction l with
 |nil=>intro k h i x O;simp at O|cons y l ih=>
  intro k h i x O;rw[KM]at h;cases hp:p k y with
  |true=>rw[hp]at h;cases h
  |false=>
   rw[hp]at h;cases i with
   |zero=>cases O;exact hp
   |succ i=>have:=ih h i x O;rw[<-this];congr 1;omega
end Go.Vm
