/- A part of the proof. -/
import Derived.Test.YtopbdpofkfimkaaGreatDoorS2V3
set_option linter.all false
namespace Go.Vm
open Go Go.RowKit
def QmJ (n:Int):Qf n=wrap64 n:=IntWalk.i64_left n
def YH {n:Int}(h:-9223372036854775808<=n/\n<=9223372036854775807):Qf n=n:=IntWalk.i64_in n h
def Qkm (a b:Int):Qf (Qf a+b)=Qf (a+b):=by rw[QmJ,QmJ,QmJ];unfold wrap64;omega
def QE {i n:Nat}(h:i<n)(O:n<=maxLen):Qf ((i:Int)+1)=((i+1:Nat):Int):=by
 unfold maxLen at O;rw[YH (by omega)];omega
def Xe {α:Type}(l:L_ α)(i:Nat):idx l (i:Int)=l[i]? := by
 unfold idx;rw[if_pos (Int.natCast_nonneg i)];rfl
def Bw {α:Type}{l:L_ α}{j:Int}(h:0<=j):idx l j=l[j.toNat]? := by unfold idx;rw[if_pos h]
def QjH {α:Type}{l:L_ α}{j:Int}(h:0<=j)(O:j<l.length):idx l j=some (l[j.toNat]'(by omega)):=by
 rw[Bw h,QI (by omega)]
def QbX {c:Bool}(h:c=true):chk c=some ():=by subst h;rfl
def EX {p:Prop}[Decidable p](h:p):chk (decide p)=some ():=QbX (Yy h)
section
variable {κ α:Type}[DecidableEq κ]
def Yn (a:κ)(x:α)(r:L_ (κ×α))(k:κ):Qy ((a,x)::r) k=if a=k then some x else Qy r k:=rfl
def Qvb {l:L_ (κ×α)}{k j:κ}{v:α}(h:(Qy l k).isSome=true):Qy (CR l k v) j=if j=k then some v else Qy l j:=by
 induction l with
 |nil=>cases h
 |cons p l ih=>
  obtain⟨a,x⟩:=p;rw[Yn]at h;rw[CR];split
  ·rename_i e;subst e;rw[Yn,Yn];by_cases c:a=j
   ·subst c;simp
   rw[if_neg c,if_neg (λe=>c e.symm),if_neg c]
  rename_i O;rw[if_neg O]at h;rw[Yn,Yn,ih h];by_cases c:a=j
  ·subst c;simp[O]
  rw[if_neg c,if_neg c]
def Qvc (lt:κ->κ->Bool){l:L_ (κ×α)}{k j:κ}{v:α}(h:Qy l k=none):Qy (AX lt l k v) j=if j=k then some v else Qy l j:=by
 induction l with
 |nil=>
  rw[AX,Yn];by_cases c:j=k
  ·subst c;simp
  rw[if_neg (λe=>c e.symm),if_neg c]
 |cons p l ih=>
  obtain⟨a,x⟩:=p;rw[Yn]at h;split at h
  ·cases h
  rename_i O;rw[AX];split
  ·rw[Yn];by_cases c:j=k
   ·subst c;simp
   rw[if_neg (λe=>c e.symm),if_neg c]
  rw[Yn,Yn,ih h];by_cases c:a=j
  ·subst c;simp[O]
  rw[if_neg c,if_neg c]
def Wx (lt:κ->κ->Bool)(l:L_ (κ×α))(k j:κ)(v:α):Qy (XF lt l k v) j=if j=k then some v else Qy l j:=by
 unfold XF;split
 ·rename_i x h;exact Qvb (by rw[h];rfl)
 rename_i h;exact Qvc lt h
end
def FJ {σ ρ:Type}{body:σ->O_ (σ⊕ρ)}(n:Nat)(I:Nat->σ->Prop)(h:ρ->Prop)
  (step:∀i s,i<n->I i s->(∃s',body s=some (.inl s')/\I (i+1) s')\/∃r,body s=some (.inr r)/\h r)
  (last:∀s,I n s->∃r,body s=some (.inr r)/\h r):∀s,I 0 s->∃r,Qx body s=some r/\h r:=by
 have key:∀k i s,i+k=n->I i s->∃r,Qx body s=some r/\h r:=by
  intro k
  induction k with
  |zero=>
   intro i s hk O;obtain rfl:i=n:=by omega
   obtain⟨r,hr,hp⟩:=last s O;exact⟨r,by rw[Wi,hr];rfl,hp⟩
  |succ k ih=>
   intro i s hk O;rcases step i s (by omega) O with⟨s',hb,hI'⟩|⟨r,hb,hp⟩
   ·obtain⟨r,hr,hp⟩:=ih (i+1) s' (by omega) hI';exact⟨r,by rw[Wi,hb];exact hr,hp⟩
   exact⟨r,by rw[Wi,hb];rfl,hp⟩
 exact λs O=>key n 0 s (by omega) O
def CO {α τ ρ:Type}(h:Nat->τ->α->τ⊕ρ)(O:τ->ρ):Nat->τ->L_ α->ρ
 |_,t,[]=>O t|i,t,x::l=>Sum.elim (λt'=>CO h O (i+1) t' l) (λr=>r) (h i t x)
def Qoy {α τ ρ σ:Type}{body:σ->O_ (σ⊕ρ)}{l:L_ α}(J:Nat->τ->Prop)(mk:Nat->τ->σ)(h:Nat->τ->α->τ⊕ρ)(O:τ->ρ)
  (hs:∀i t x,J i t->i<l.length->l[i]? = some x->body (mk i t)=some (Sum.elim (λt'=>.inl (mk (i+1) t')) .inr (h i t x))/\∀t',h i t x=.inl t'->J (i+1) t')
  (hf:∀t,J l.length t->body (mk l.length t)=some (.inr (O t))) (t:τ) (hj:J 0 t) {s0:σ} (h0:s0=mk 0 t):Qx body s0=some (CO h O 0 t l):=by
 subst h0;have key:∀k i t,i+k=l.length->J i t->Qx body (mk i t)=some (CO h O i t (l.drop i)):=by
  intro k
  induction k with
  |zero=>
   intro i t hk hj;obtain rfl:i=l.length:=by omega
   rw[Wi,hf t hj,List.drop_length];rfl
  |succ k ih=>
   intro i t hk hj;have hi:i<l.length:=by omega
   obtain⟨h1,h2⟩:=hs i t l[i] hj hi (QI hi);rw[Wi,h1,Sx hi];simp only[CO];cases hst:h i t l[i]with|inl t'=>exact ih (i+1) t' (by omega) (h2 t' hst)|inr r=>rfl
 exact key l.length 0 t (by omega) hj
def QeJ {α τ ρ σ:Type}{body:σ->O_ (σ⊕ρ)}{l:L_ α}(mk:Nat->τ->σ)(h:Nat->τ->α->τ⊕ρ)(O:τ->ρ)
  (hs:∀i t x,i<l.length->l[i]? = some x->body (mk i t)=some (Sum.elim (λt'=>.inl (mk (i+1) t')) .inr (h i t x)))
  (hf:∀t,body (mk l.length t)=some (.inr (O t))) (t:τ) {s0:σ} (h0:s0=mk 0 t):Qx body s0=some (CO h O 0 t l):=
 Qoy (λ_ _=>True) mk h O (λi t x _ hi hx=>⟨hs i t x hi hx,λ_ _=>trivial⟩) (λt _=>hf t) t trivial h0
def Dg {α:Type}(p:α->Bool):Nat->L_ α->L_ Int
 |_,[]=>[]|i,x::l=>bif p x then(i:Int)::Dg p (i+1) l else Dg p (i+1) l
def Qdp {α:Type}{p:α->Bool}{j:Int}:∀{l:L_ α} {k:Nat},j∈Dg p k l↔∃i x,l[i]? = some x/\p x=true/\j=((k+i:Nat):Int):=by
 intro l
 induction l with
 |nil=>intro k;simp[Dg]|cons y l ih=>
  intro k;have e:(∃i x,(y::l)[i]? = some x/\p x=true/\j=((k+i:Nat):Int))↔(p y=true/\j=(k:Int))\/∃i x,l[i]? = some x/\p x=true/\j=((k+1+i:Nat):Int):=by
   constructor
   ·rintro ⟨i,x,h,O,h3⟩;cases i with
    |zero=>cases h;exact .inl ⟨O,h3⟩
    |succ i=>exact .inr ⟨i,x,h,O,by rw[h3];congr 1;omega⟩
   rintro (⟨h,O⟩|⟨i,x,h,O,h3⟩)
   ·exact⟨0,y,rfl,h,O⟩
   exact⟨i+1,x,h,O,by rw[h3];congr 1;omega⟩
  rw[e,Dg,<-ih];cases p y<;>simp
def Qdq {α:Type}{body:Int×L_ Int->O_ ((Int×L_ Int)⊕L_ Int)}{l:L_ α}(p:α->Bool)
  (hs:∀i h x,h.length<=i->i<l.length->l[i]? = some x->body ((i:Int),h)=some (.inl (((i+1:Nat):Int),bif p x then h++[(i:Int)]else h)))
  (hf:∀h,body ((l.length:Int),h)=some (.inr h)):Qx body (0,[])=some (Dg p 0 l):=by
 rw[Qoy (l:=l) (λi (h:L_ Int)=>h.length<=i) (λi h=>((i:Int),h)) (λi h x=>.inl (bif p x then h++[(i:Int)]else h)) (λh=>h) ?_ (λt _=>hf t) [] (YK _) (s0:=(0,[])) rfl]
 ·have:∀(l:L_ α) k h,CO (λi h x=>(.inl (bif p x then h++[(i:Int)]else h):L_ Int⊕L_ Int)) (λh=>h) k h l=h++Dg p k l:=by
   intro l
   induction l with
   |nil=>intro k h;simp[CO,Dg]|cons x l ih=>
    intro k h;rw[CO,Dg,Sum.elim_inl,ih];cases p x<;>simp
  rw[this];rfl
 intro i h x O hi hx;refine⟨hs i h x O hi hx,λt' ht=>?_⟩;cases ht;cases p x
 ·simpa using Nat.le_succ_of_le O
 simpa using O
def QhA {α:Type}(bad:Nat->α->Bool):Nat->L_ α->Bool
 |_,[]=>false|i,x::l=>bad i x||QhA bad (i+1) l
def Qwy {α:Type}{bad:Nat->α->Bool}:∀{l:L_ α} {k:Nat},QhA bad k l=true↔∃i x,l[i]? = some x/\bad (k+i) x=true:=by
 intro l
 induction l with
 |nil=>intro k;exact⟨λh=>(by cases h),λ⟨i,x,h,_⟩=>(by simp at h)⟩
 |cons y l ih=>
  intro k;rw[QhA,WO,ih];constructor
  ·rintro (h|⟨i,x,O,h2⟩)
   ·exact⟨0,y,rfl,h⟩
   exact⟨i+1,x,O,by rw[<-h2];congr 1;omega⟩
  rintro ⟨i,x,O,h2⟩;cases i with
  |zero=>cases O;exact .inl h2
  |succ i=>exact .inr ⟨i,x,O,by rw[<-h2];congr 1;omega⟩
def Qwz {α ρ σ:Type}{body:σ->O_ (σ⊕ρ)}{l:L_ α}(mk:Nat->σ)(bad:Nat->α->Bool)(O r2:ρ)
  (hs:∀i x,i<l.length->l[i]? = some x->body (mk i)=some (bif bad i x then .inr O else .inl (mk (i+1))))
  (hf:body (mk l.length)=some (.inr r2)) {s0:σ} (h0:s0=mk 0):Qx body s0=some (bif QhA bad 0 l then O else r2):=by
 subst h0;have h:=QeJ (body:=body) (l:=l) (λi (_:Unit)=>mk i) (λi _ x=>bif bad i x then .inr O else .inl ()) (λ_=>r2) (λi _ x hi hx=>by rw[hs i x hi hx];cases bad i x<;>rfl) (λ_=>hf) () rfl;rw[h];congr 1;have:∀(l:L_ α) k,CO (λi (_:Unit) x=>bif bad i x then .inr O else .inl ()) (λ_=>r2) k () l=bif QhA bad k l then O else r2:=by
  intro l
  induction l with
  |nil=>intro k;rfl|cons x l ih=>
   intro k;rw[CO,QhA];cases bad k x with|true=>rfl|false=>exact ih (k+1)
 exact this l 0
def EY {α:Type}(p:Nat->α->Bool):Nat->L_ α->O_ Nat
 |_,[]=>none|i,x::l=>bif p i x then some i else EY p (i+1) l
def QeK {α ρ σ:Type}{body:σ->O_ (σ⊕ρ)}{l:L_ α}(mk:Nat->σ)(p:Nat->α->Bool)(O:Nat->ρ)(r2:ρ)
  (hs:∀i x,i<l.length->l[i]? = some x->body (mk i)=some (bif p i x then .inr (O i)else .inl (mk (i+1))))
  (hf:body (mk l.length)=some (.inr r2)) {s0:σ} (h0:s0=mk 0):Qx body s0=some ((EY p 0 l).elim r2 O):=by
 subst h0;have h:=QeJ (body:=body) (l:=l) (λi (_:Unit)=>mk i) (λi _ x=>bif p i x then .inr (O i)else .inl ()) (λ_=>r2) (λi _ x hi hx=>by rw[hs i x hi hx];cases p i x<;>rfl) (λ_=>hf) () rfl;rw[h];congr 1;have:∀(l:L_ α) k,CO (λi (_:Unit) x=>bif p i x then .inr (O i)else .inl ()) (λ_=>r2) k () l=(EY p k l).elim r2 O:=by
  intro l
  induction l with
  |nil=>intro k;rfl|cons x l ih=>
   intro k;rw[CO,EY];cases p k x with|true=>rfl|false=>exact ih (k+1)
 exact this l 0
def QbY {α:Type}{p:Nat->α->Bool}:∀{l:L_ α} {k n:Nat},EY p k l=some n->∃i x,n=k+i/\l[i]? = some x/\p n x=true:=by
 intro l
 induction l with
 |nil=>intro k n h;cases h
 |cons y l ih=>
  intro k n h;rw[EY]at h;cases hp:p k y with
  |true=>rw[hp]at h;cases h;exact⟨0,y,rfl,rfl,hp⟩
  |false=>
   rw[hp]at h;obtain⟨i,x,h1,O,h3⟩:=ih h;exact⟨i+1,x,by omega,O,h3⟩
def QbZ {α:Type}{p:Nat->α->Bool}:∀{l:L_ α} {k:Nat},EY p k l=none->∀i x,l[i]? = some x->p (k+i) x=false:=by
 intro l
 induction l with
 |nil=>intro k h i x O;simp at O|cons y l ih=>
  intro k h i x O;rw[EY]at h;cases hp:p k y with
  |true=>rw[hp]at h;cases h
  |false=>
   rw[hp]at h;cases i with
   |zero=>cases O;exact hp
   |succ i=>have:=ih h i x O;rw[<-this];congr 1;omega
end Go.Vm
