/- A part of the proof. -/
import Derived.Test.YtomnpnjhfpdcmaaGreatDoorT4V2
set_option linter.all false
namespace Go.Vm
open Go Go.RowKit
def RS (n:Int):Qi n=wrap64 n:=IntWalk.i64_left n
def XD {n:Int}(h:-9223372036854775808<=n/\n<=9223372036854775807):Qi n=n:=IntWalk.i64_in n h
def QeT (a b:Int):Qi (Qi a+b)=Qi (a+b):=by rw[RS,RS,RS];unfold wrap64;omega
def Qt {i n:Nat}(h:i<n)(D:n<=maxLen):Qi ((i:Int)+1)=((i+1:Nat):Int):=by
 unfold maxLen at D
 rw[XD (by omega)];omega
def QP {α:Type}(l:L_ α)(i:Nat):idx l (i:Int)=l[i]? := by
 unfold idx;rw[if_pos (Int.natCast_nonneg i)];rfl
def WN {α:Type}{l:L_ α}{j:Int}(h:0<=j):idx l j=l[j.toNat]? := by unfold idx;rw[if_pos h]
def Ng {α:Type}{l:L_ α}{j:Int}(h:0<=j)(D:j<l.length):idx l j=some (l[j.toNat]'(by omega)):=by
 rw[WN h,Qy (by omega)]
def So {c:Bool}(h:c=true):chk c=some ():=by subst h;rfl
def WJ {p:Prop}[Decidable p](h:p):chk (decide p)=some ():=So (QE h)
section
variable {κ α:Type}[DecidableEq κ]
def Ym (a:κ)(x:α)(r:L_ (κ×α))(k:κ):QR ((a,x)::r) k=if a=k then some x else QR r k:=rfl
def Qpj {l:L_ (κ×α)}{k j:κ}{v:α}(h:(QR l k).isSome=true):QR (NQ l k v) j=if j=k then some v else QR l j:=by
 induction l with
 | nil=>cases h
 | cons p l ih=>
  obtain⟨a,x⟩:=p
  rw[Ym]at h
  rw[NQ]
  split
  ·rename_i e
   subst e
   rw[Ym,Ym]
   by_cases c:a=j
   ·subst c;simp
   rw[if_neg c,if_neg (λe=>c e.symm),if_neg c]
  rename_i D
  rw[if_neg D]at h
  rw[Ym,Ym,ih h]
  by_cases c:a=j
  ·subst c;simp[D]
  rw[if_neg c,if_neg c]
def Qpk (lt:κ->κ->Bool){l:L_ (κ×α)}{k j:κ}{v:α}(h:QR l k=none):QR (NP lt l k v) j=if j=k then some v else QR l j:=by
 induction l with
 | nil=>
  rw[NP,Ym]
  by_cases c:j=k
  ·subst c;simp
  rw[if_neg (λe=>c e.symm),if_neg c]
 | cons p l ih=>
  obtain⟨a,x⟩:=p
  rw[Ym]at h
  split at h
  ·cases h
  rename_i D
  rw[NP]
  split
  ·rw[Ym]
   by_cases c:j=k
   ·subst c;simp
   rw[if_neg (λe=>c e.symm),if_neg c]
  rw[Ym,Ym,ih h]
  by_cases c:a=j
  ·subst c;simp[D]
  rw[if_neg c,if_neg c]
def UM (lt:κ->κ->Bool)(l:L_ (κ×α))(k j:κ)(v:α):QR (YI lt l k v) j=if j=k then some v else QR l j:=by
 unfold YI
 split
 ·rename_i x h;exact Qpj (by rw[h];rfl)
 rename_i h;exact Qpk lt h
end
def ON {σ ρ:Type}{body:σ->O_ (σ⊕ρ)}(n:Nat)(I:Nat->σ->Prop)(h:ρ->Prop)
  (step:∀i s,i<n->I i s->(∃s',body s=some (.inl s')/\I (i+1) s')\/∃r,body s=some (.inr r)/\h r)
  (last:∀s,I n s->∃r,body s=some (.inr r)/\h r):∀s,I 0 s->∃r,Qu body s=some r/\h r:=by
 have key:∀k i s,i+k=n->I i s->∃r,Qu body s=some r/\h r:=by
  intro k
  induction k with
  | zero=>
   intro i s hk D
   obtain rfl:i=n:=by omega
   obtain⟨r,hr,hp⟩:=last s D
   exact⟨r,by rw[YR,hr];rfl,hp⟩
  | succ k ih=>
   intro i s hk D
   rcases step i s (by omega) D with⟨s',hb,hI'⟩|⟨r,hb,hp⟩
   ·obtain⟨r,hr,hp⟩:=ih (i+1) s' (by omega) hI'
    exact⟨r,by rw[YR,hb];exact hr,hp⟩
   exact⟨r,by rw[YR,hb];rfl,hp⟩
 exact λs D=>key n 0 s (by omega) D
def BM {α τ ρ:Type}(h:Nat->τ->α->τ⊕ρ)(D:τ->ρ):Nat->τ->L_ α->ρ
 | _,t,[]=>D t
 | i,t,x::l=>Sum.elim (λt'=>BM h D (i+1) t' l) (λr=>r) (h i t x)
def Qoh {α τ ρ σ:Type}{body:σ->O_ (σ⊕ρ)}{l:L_ α}(J:Nat->τ->Prop)(mk:Nat->τ->σ)(h:Nat->τ->α->τ⊕ρ)(D:τ->ρ)
  (hs:∀i t x,J i t->i<l.length->l[i]? = some x->body (mk i t)=some (Sum.elim (λt'=>.inl (mk (i+1) t')) .inr (h i t x))/\∀t',h i t x=.inl t'->J (i+1) t')
  (hf:∀t,J l.length t->body (mk l.length t)=some (.inr (D t))) (t:τ) (hj:J 0 t) {s0:σ} (h0:s0=mk 0 t):Qu body s0=some (BM h D 0 t l):=by
 subst h0
 have key:∀k i t,i+k=l.length->J i t->Qu body (mk i t)=some (BM h D i t (l.drop i)):=by
  intro k
  induction k with
  | zero=>
   intro i t hk hj
   obtain rfl:i=l.length:=by omega
   rw[YR,hf t hj,List.drop_length];rfl
  | succ k ih=>
   intro i t hk hj
   have hi:i<l.length:=by omega
   obtain⟨h1,h2⟩:=hs i t l[i] hj hi (Qy hi)
   rw[YR,h1,Lt hi]
   simp only[BM]
   cases hst:h i t l[i]with
   | inl t'=>exact ih (i+1) t' (by omega) (h2 t' hst)
   | inr r=>rfl
 exact key l.length 0 t (by omega) hj
def OO {α τ ρ σ:Type}{body:σ->O_ (σ⊕ρ)}{l:L_ α}(mk:Nat->τ->σ)(h:Nat->τ->α->τ⊕ρ)(D:τ->ρ)
  (hs:∀i t x,i<l.length->l[i]? = some x->body (mk i t)=some (Sum.elim (λt'=>.inl (mk (i+1) t')) .inr (h i t x)))
  (hf:∀t,body (mk l.length t)=some (.inr (D t))) (t:τ) {s0:σ} (h0:s0=mk 0 t):Qu body s0=some (BM h D 0 t l):=
 Qoh (λ_ _=>True) mk h D (λi t x _ hi hx=>⟨hs i t x hi hx,λ_ _=>trivial⟩) (λt _=>hf t) t trivial h0
def Rg {α:Type}(bad:Nat->α->Bool):Nat->L_ α->Bool
 | _,[]=>false
 | i,x::l=>bad i x||Rg bad (i+1) l
def QhC {α:Type}{bad:Nat->α->Bool}:∀{l:L_ α} {k:Nat},Rg bad k l=true↔∃i x,l[i]? = some x/\bad (k+i) x=true:=by
 intro l
 induction l with
 | nil=>intro k;exact⟨λh=>(by cases h),λ⟨i,x,h,_⟩=>(by simp at h)⟩
 | cons y l ih=>
  intro k
  rw[Rg,KE,ih]
  constructor
  ·rintro (h | ⟨i,x,D,h2⟩)
   ·exact⟨0,y,rfl,h⟩
   exact⟨i+1,x,D,by rw[<-h2];congr 1;omega⟩
  rintro ⟨i,x,D,h2⟩
  cases i with
  | zero=>cases D;exact .inl h2
  | succ i=>exact .inr ⟨i,x,D,by rw[<-h2];congr 1;omega⟩
def Qcv {α:Type}{bad:Nat->α->Bool}{l:L_ α}:Rg bad 0 l=false↔∀i x,l[i]? = some x->bad i x=false:=by
 rw[<-HU,QhC]
 simp only[US,not_exists,not_and,HU]
def Zr {α ρ σ:Type}{body:σ->O_ (σ⊕ρ)}{l:L_ α}(mk:Nat->σ)(bad:Nat->α->Bool)(D r2:ρ)
  (hs:∀i x,i<l.length->l[i]? = some x->body (mk i)=some (bif bad i x then .inr D else .inl (mk (i+1))))
  (hf:body (mk l.length)=some (.inr r2)) {s0:σ} (h0:s0=mk 0):Qu body s0=some (bif Rg bad 0 l then D else r2):=by
 subst h0
 have h:=OO (body:=body) (l:=l) (λi (_:Unit)=>mk i) (λi _ x=>bif bad i x then .inr D else .inl ()) (λ_=>r2) (λi _ x hi hx=>by rw[hs i x hi hx];cases bad i x<;>rfl) (λ_=>hf) () rfl
 rw[h]
 congr 1
 have:∀(l:L_ α) k,BM (λi (_:Unit) x=>bif bad i x then .inr D else .inl ()) (λ_=>r2) k () l=bif Rg bad k l then D else r2:=by
  intro l
  induction l with
  | nil=>intro k;rfl
  | cons x l ih=>
   intro k
   rw[BM,Rg]
   cases bad k x with
   | true=>rfl
   | false=>exact ih (k+1)
 exact this l 0
def Mf {α:Type}(p:Nat->α->Bool):Nat->L_ α->O_ Nat
 | _,[]=>none
 | i,x::l=>bif p i x then some i else Mf p (i+1) l
def Qpl {α ρ σ:Type}{body:σ->O_ (σ⊕ρ)}{l:L_ α}(mk:Nat->σ)(p:Nat->α->Bool)(D:Nat->ρ)(r2:ρ)
  (hs:∀i x,i<l.length->l[i]? = some x->body (mk i)=some (bif p i x then .inr (D i)else .inl (mk (i+1))))
  (hf:body (mk l.length)=some (.inr r2)) {s0:σ} (h0:s0=mk 0):Qu body s0=some ((Mf p 0 l).elim r2 D):=by
 subst h0
 have h:=OO (body:=body) (l:=l) (λi (_:Unit)=>mk i) (λi _ x=>bif p i x then .inr (D i)else .inl ()) (λ_=>r2) (λi _ x hi hx=>by rw[hs i x hi hx];cases p i x<;>rfl) (λ_=>hf) () rfl
 rw[h]
 congr 1
 have:∀(l:L_ α) k,BM (λi (_:Unit) x=>bif p i x then .inr (D i)else .inl ()) (λ_=>r2) k () l=(Mf p k l).elim r2 D:=by
  intro l
  induction l with
  | nil=>intro k;rfl
  | cons x l ih=>
   intro k
   rw[BM,Mf]
   cases p k x with
   | true=>rfl
   | false=>exact ih (k+1)
 exact this l 0
def Qoi {α:Type}{p:Nat->α->Bool}:∀{l:L_ α} {k n:Nat},Mf p k l=some n->∃i x,n=k+i/\l[i]? = some x/\p n x=true:=by
 intro l
 induction l with
 | nil=>intro k n h;cases h
 | cons y l ih=>
  intro k n h
  rw[Mf]at h
  cases hp:p k y with
  | true=>rw[hp]at h;cases h;exact⟨0,y,rfl,rfl,hp⟩
  | false=>
   rw[hp]at h
   obtain⟨i,x,h1,D,h3⟩:=ih h
   exact⟨i+1,x,by omega,D,h3⟩
def Qoj {α:Type}{p:Nat->α->Bool}:∀{l:L_ α} {k:Nat},Mf p k l=none->∀i x,l[i]? = some x->p (k+i) x=false:=by
 intro l
 induction l with
 | nil=>intro k h i x D;simp at D
 | cons y l ih=>
  intro k h i x D
  rw[Mf]at h
  cases hp:p k y with
  | true=>rw[hp]at h;cases h
  | false=>
   rw[hp]at h
   cases i with
   | zero=>cases D;exact hp
   | succ i=>have:=ih h i x D;rw[<-this];congr 1;omega
end Go.Vm
