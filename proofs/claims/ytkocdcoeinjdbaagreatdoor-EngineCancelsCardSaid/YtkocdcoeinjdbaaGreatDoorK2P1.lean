/- A part of the proof. -/
import Derived.Test.YtkocdcoeinjdbaaGreatDoorK2XPlA
import Derived.Test.YtkocdcoeinjdbaaGreatDoorK2V3
import Derived.Test.YtkocdcoeinjdbaaGreatDoorK2T2
import Derived.KernelRfl
set_option linter.all false
namespace Go.Vm
open Go Go.RowKit
def Qj {α:Type}(o:O_ α)(Q:α->Prop):Prop:=∃r,o=some r/\Q r
abbrev Xk {α:Type}(o:O_ α):Prop:=Qj o λ_=>True
section
variable {α β σ ρ:Type}
def Qj.ok {a:α}{Q:α->Prop}(h:Q a):Qj (some a) Q:=⟨a,rfl,h⟩
def Qj.okT {a:α}:Qj (some a) λ_=>True:=⟨a,rfl,trivial⟩
def Qj.bind {o:O_ α}{f:α->O_ β}{P:α->Prop}{Q:β->Prop}(h:Qj o P)(k:∀x,P x->Qj (f x) Q):Qj (o.bind f) Q:=by
 obtain⟨x,rfl,y⟩:=h
 exact k x y
def Qj.bif {c:Bool}{a b:O_ α}{Q:α->Prop}(h:c=true->Qj a Q)(y:c=false->Qj b Q):Qj (bif c then a else b) Q:=by
 cases c with
 | true=>exact h rfl
 | false=>exact y rfl
def Qj.chk {c:Bool}(h:c=true):Qj (chk c) λ_=>True:=⟨(),Qaq h,trivial⟩
def Qj.idx {l:L_ α}{j:Int}(h:0<=j)(y:j<l.length):Qj (idx l j) λx=>x∈l:=by
 rw[QbX h y]
 exact⟨_,rfl,XW _⟩
def Qj.get {l:L_ α}{j:Nat}(h:j<l.length):Qj (l[j]?) λx=>x∈l:=by
 rw[QR h]
 exact⟨_,rfl,XW _⟩
def Qj.sidx {s:ByteArray}{j:Int}(h:0<=j)(y:j<s.size):Qj (sidx s j) λ_=>True:=by
 unfold Vm.sidx
 rw[if_pos h]
 have:j.toNat<s.size:=by omega
 rw[getElem?_pos s j.toNat this]
 exact⟨_,rfl,trivial⟩
def Qj.mono {o:O_ α}{P Q:α->Prop}(h:Qj o P)(k:∀x,P x->Q x):Qj o Q:=let ⟨r,h1,h2⟩:=h;⟨r,h1,k r h2⟩
def Qj.tot {o:O_ α}{P:α->Prop}(h:Qj o P):∃r,o=some r:=let ⟨r,h1,_⟩:=h;⟨r,h1⟩
def Qj.self {o:O_ α}{P:α->Prop}(h:Qj o P):Qj o λx=>o=some x/\P x:=let ⟨r,h1,h2⟩:=h;⟨r,h1,h1,h2⟩
def Qj.up {body:σ->O_ (σ⊕ρ)}(n:Nat)(ix:σ->Int)(J:σ->Prop){Q:ρ->Prop}{s0:σ}(h0:ix s0=0)(hJ:J s0)
  (y:∀(i:Nat) s,ix s=(i:Int)->i<=n->J s->Qj (body s) λo=>(∀h,o=.inl h->i<n/\ix h=((i+1:Nat):Int)/\J h)/\∀r,o=.inr r->Q r):Qj (QQ body s0) Q:=by
 have key:∀k i s,i+k=n->ix s=(i:Int)->J s->∃r,QQ body s=some r/\Q r:=by
  intro k
  induction k with
  | zero=>
   intro i s hk hi hj
   obtain⟨o,ho,D,h2⟩:=y i s hi (by omega) hj
   rw[KD,ho]
   cases o with
   | inl h=>have:=(D h rfl).1;omega
   | inr r=>exact⟨r,rfl,h2 r rfl⟩
  | succ k ih=>
   intro i s hk hi hj
   obtain⟨o,ho,D,h2⟩:=y i s hi (by omega) hj
   rw[KD,ho]
   cases o with
   | inl h=>
    obtain⟨_,h3,h4⟩:=D h rfl
    exact ih (i+1) h (by omega) h3 h4
   | inr r=>exact⟨r,rfl,h2 r rfl⟩
 exact key n 0 s0 (by omega) h0 hJ
def QP {s:σ}{n i:Nat}{ix:σ->Int}{J:σ->Prop}{Q:ρ->Prop}(h:i<n/\ix s=((i+1:Nat):Int)/\J s):
  (∀y,(Sum.inl s:σ⊕ρ)=.inl y->i<n/\ix y=((i+1:Nat):Int)/\J y)/\∀r,(Sum.inl s:σ⊕ρ)=.inr r->Q r:=
 ⟨λy e=>(by cases e;exact h),λr e=>(by cases e)⟩
def Qu {r:ρ}{n i:Nat}{ix:σ->Int}{J:σ->Prop}{Q:ρ->Prop}(h:Q r):
  (∀y,(Sum.inr r:σ⊕ρ)=.inl y->i<n/\ix y=((i+1:Nat):Int)/\J y)/\∀D,(Sum.inr r:σ⊕ρ)=.inr D->Q D:=
 ⟨λy e=>(by cases e),λD e=>(by cases e;exact h)⟩
end
def Xc {α:Type}(ok:α->Prop)(l:L_ α):Prop:=l.length<=maxLen/\∀x∈l,ok x
def Xc.drop {α:Type}{ok:α->Prop}{l:L_ α}(h:Xc ok l)(k:Nat):Xc ok (l.drop k):=⟨by have:=h.1;rw[Fp];omega,λx y=>h.2 x (OC y)⟩
def Xc.take {α:Type}{ok:α->Prop}{l:L_ α}(h:Xc ok l)(k:Nat):Xc ok (l.take k):=⟨by have:=h.1;rw[KS];omega,λx y=>h.2 x (Ai y)⟩
def Xc.nil {α:Type}{ok:α->Prop}:Xc ok ([]:L_ α):=⟨by simp,λx h=>by cases h⟩
def Xc.app {α:Type}{ok:α->Prop}{l m:L_ α}(h:Xc ok l)(D:Xc ok m)(hs:l.length+m.length<=maxLen):Xc ok (l++m):=⟨by simpa using hs,λx hx=>by rcases Ep.1 hx with y | y;exact h.2 x y;exact D.2 x y⟩
def UM (s:ByteArray):Prop:=s.size<=maxLen
def Qj8 {s:ByteArray}(h:BY s (⟨#[]⟩:ByteArray)=false):0<s.size:=by
 apply Nat.pos_of_ne_zero
 intro y
 have:s=⟨#[]⟩:=by
  obtain⟨a⟩:=s
  have:a=#[]:=Array.eq_empty_of_size_eq_zero y
  rw[this]
 subst this
 simp[BY]at h
def Mk {a b:Int}:0<=min2 a b↔0<=a/\0<=b:=by unfold min2;split<;>omega
def Ml {a b n:Int}:max2 a b<n↔a<n/\b<n:=by unfold max2;split<;>omega
def Ir {a b n:Int}:max2 a b<=n↔a<=n/\b<=n:=by unfold max2;split<;>omega
abbrev T0:=@Qj.bind
abbrev T1:=@Qj.bif
abbrev T2:=@Qj.ok
abbrev T3:=@Qj.okT
abbrev T4:=@Qj.idx
abbrev T5:=@Qj.chk
abbrev T6:=@Qj.mono
def FO (l:L_ (Int×Int)):Prop:=l.Pairwise λp q=>p.1<q.1
def OO (l:L_ (Int×Int)):Prop:=l.Pairwise λp q=>p.1≠q.1
def FO.nd {l:L_ (Int×Int)}(h:FO l):OO l:=h.imp λh=>by omega
def Uz {p:Int×Int}{l:L_ (Int×Int)}:FO (p::l)↔(∀q∈l,p.1<q.1)/\FO l:=Fu
def QiA {p:Int×Int}{l:L_ (Int×Int)}:OO (p::l)↔(∀q∈l,p.1≠q.1)/\OO l:=Fu
def Qfe {l:L_ (Int×Int)}{k:Int}:Xb l k=none↔∀p∈l,p.1≠k:=by
 induction l with
 | nil=>simp[Xb]
 | cons p l y=>
  obtain⟨a,x⟩:=p
  rw[Yi]
  by_cases h:a=k
  ·simp[h]
  simp[h,y]
def Wk {l:L_ (Int×Int)}(hn:OO l){k v:Int}:Xb l k=some v↔(k,v)∈l:=by
 induction l with
 | nil=>simp[Xb]
 | cons p l ih=>
  obtain⟨a,x⟩:=p
  obtain⟨y,D⟩:=QiA.1 hn
  rw[Yi]
  by_cases h:a=k
  ·subst h
   rw[if_pos rfl]
   constructor
   ·intro e;cases e;simp
   intro e
   rcases XQ.1 e with e | e
   ·cases e;rfl
   exact absurd rfl (y (a,v) e)
  rw[if_neg h,ih D]
  constructor
  ·intro e;exact Jz _ e
  intro e
  rcases XQ.1 e with e | e
  ·cases e;exact absurd rfl h
  exact e
def Qj9 {l m:L_ (Int×Int)}(D:OO l)(h:l.Perm m)(k:Int):Xb l k=Xb m k:=by
 have hm:OO m:=(h.pairwise_iff (λy=>Ne.symm y)).1 D
 apply Option.ext
 intro v
 rw[Wk D,Wk hm]
 exact h.mem_iff
def Qgc {l m:L_ (Int×Int)}(hl:FO l)(hm:FO m)(h:∀k,Xb l k=Xb m k):l=m:=by
 induction l generalizing m with
 | nil=>
  cases m with
  | nil=>rfl
  | cons p m=>have:=h p.1;rw[Yi (κ:=Int)]at this;simp[Xb]at this
 | cons p l ih=>
  obtain⟨a,x⟩:=p
  cases m with
  | nil=>have:=h a;rw[Yi]at this;simp[Xb]at this
  | cons q m=>
   obtain⟨b,y⟩:=q
   obtain⟨l1,l2⟩:=Uz.1 hl
   obtain⟨m1,m2⟩:=Uz.1 hm
   have D:a=b:=by
    rcases Int.lt_trichotomy a b with hc | hc | hc
    ·have e:=h a
     rw[Yi,Yi,if_pos rfl,if_neg (by omega),Qfe.2 (λp hp=>by have:=m1 p hp;simp at this;omega)]at e
     cases e
    ·exact hc
    have e:=h b
    rw[Yi,Yi,if_neg (by omega),if_pos rfl,Qfe.2 (λp hp=>by have:=l1 p hp;simp at this;omega)]at e
    cases e
   subst D
   have e:=h a
   rw[Yi,Yi,if_pos rfl,if_pos rfl]at e
   cases e
   rw[ih l2 m2 λk=>?_]
   by_cases hk:a=k
   ·subst hk
    rw[Qfe.2 (λp hp=>by have:=l1 p hp;simp at this;omega),Qfe.2 (λp hp=>by have:=m1 p hp;simp at this;omega)]
   have:=h k
   rwa[Yi,Yi,if_neg hk,if_neg hk]at this
def QmG {l:L_ (Int×Int)}{k v:Int}{p:Int×Int}(h:p∈FZ l k v):∃q∈l,q.1=p.1:=by
 induction l with
 | nil=>cases h
 | cons q l ih=>
  obtain⟨a,x⟩:=q
  rw[FZ]at h
  split at h
  ·rename_i e
   rcases XQ.1 h with rfl | h
   ·exact⟨_,YF,e⟩
   exact⟨p,Jz _ h,rfl⟩
  rcases XQ.1 h with rfl | h
  ·exact⟨_,YF,rfl⟩
  obtain⟨q,y,D⟩:=ih h
  exact⟨q,Jz _ y,D⟩
def Qk7 {lt:Int->Int->Bool}{l:L_ (Int×Int)}{k v:Int}{p:Int×Int}(h:p∈CX lt l k v):p=(k,v)\/p∈l:=by
 induction l with
 | nil=>simp[CX]at h;exact .inl h
 | cons q l y=>
  obtain⟨a,x⟩:=q
  rw[CX]at h
  split at h
  ·rcases XQ.1 h with h | h
   ·exact .inl h
   exact .inr h
  rcases XQ.1 h with h | h
  ·exact .inr (h▸YF)
  rcases y h with h | h
  ·exact .inl h
  exact .inr (Jz _ h)
def QhR {l:L_ (Int×Int)}(h:FO l)(k v:Int):FO (Jd Ge l k v):=by
 unfold Jd
 split
 ·rename_i x hx
  clear hx
  induction l with
  | nil=>exact h
  | cons p l ih=>
   obtain⟨a,x⟩:=p
   obtain⟨D,h2⟩:=Uz.1 h
   rw[FZ]
   split
   ·rename_i e;subst e;exact Uz.2 ⟨D,h2⟩
   refine Uz.2 ⟨λq y=>?_,ih h2⟩
   obtain⟨q',hq',e⟩:=QmG y
   rw[<-e];exact D _ hq'
 rename_i hn
 induction l with
 | nil=>exact List.pairwise_singleton _ _
 | cons p l ih=>
  obtain⟨a,x⟩:=p
  obtain⟨D,h2⟩:=Uz.1 h
  rw[Yi]at hn
  split at hn
  ·cases hn
  rename_i hne
  rw[CX]
  split
  ·rename_i e
   have e:k<a:=XC e
   refine Uz.2 ⟨λq y=>?_,h⟩
   rcases XQ.1 y with rfl | y
   ·exact e
   have:=D q y;simp at this ⊢;omega
  rename_i e
  have e:¬k<a:=λc=>e (QN c)
  refine Uz.2 ⟨λq y=>?_,ih h2 hn⟩
  rcases Qk7 y with rfl | y
  ·show a<k;omega
  exact D q y
def Qk8 {l:L_ (Int×Int)}{k v:Int}:(FZ l k v).length=l.length:=by
 induction l with
 | nil=>rfl
 | cons p l h=>
  obtain⟨a,x⟩:=p
  rw[FZ]
  split
  ·rfl
  simp[h]
def Qk9 {lt:Int->Int->Bool}{l:L_ (Int×Int)}{k v:Int}:(CX lt l k v).length=l.length+1:=by
 induction l with
 | nil=>rfl
 | cons p l h=>
  obtain⟨a,x⟩:=p
  rw[CX]
  split
  ·rfl
  simp[h]
def Qla {l:L_ (Int×Int)}{k v:Int}:(Jd Ge l k v).length<=l.length+1:=by
 unfold Jd
 split
 ·rw[Qk8];omega
 rw[Qk9];exact YZ _
def Qlb {l:L_ (Int×Int)}{k v:Int}(h:FO (l++[(k,v)])):Jd Ge l k v=l++[(k,v)]:=by
 have D:FO l:=(List.pairwise_append.1 h).1
 refine Qgc (QhR D k v) h λj=>?_
 rw[AB]
 have y:∀p∈l,p.1<k:=λp hp=>(List.pairwise_append.1 h).2.2 p hp (k,v) (by simp)
 clear h
 induction l with
 | nil=>
  show(if j=k then some v else none)=(if k=j then some v else none)
  by_cases c:j=k
  ·rw[if_pos c,if_pos c.symm]
  rw[if_neg c,if_neg (λe=>c e.symm)]
 | cons p l ih=>
  obtain⟨a,x⟩:=p
  have h1:=y (a,x) YF
  simp only at h1
  rw[List.cons_append,Yi,Yi]
  rw[<-ih (Uz.1 D).2 λp hp=>y p (Jz _ hp)]
  by_cases c:j=k
  ·subst c;rw[if_pos rfl,if_pos rfl,if_neg (by omega)]
  rw[if_neg c,if_neg c]
section
variable {ρ:Type}{g:Int->Int->Int}{stop:Int->Bool}{q:O_ ρ}{body:L_ (Int×Int)->Int×Int->O_ (L_ (Int×Int)⊕ρ)}
def QV (s:L_ (Int×Int))(k:Int):Int:=(Xb s k).getD 0
def Qcv (g:Int->Int->Int)(s l:L_ (Int×Int))(k:Int):O_ Int:=match Xb l k with
 | some v=>some (g (QV s k) v)
 | none=>Xb s k
def Qar (hb:∀s p,body s p=bif stop (g (QV s p.1) p.2)then q.map Sum.inr else some (.inl (Jd Ge s p.1 (g (QV s p.1) p.2)))):
  ∀l s,FO s->OO l->((∃p∈l,stop (g (QV s p.1) p.2)=true)/\WD body s l=q.map Sum.inr)\/
   ((∀p∈l,stop (g (QV s p.1) p.2)=false)/\∃D,WD body s l=some (.inl D)/\FO D/\D.length<=s.length+l.length/\∀k,Xb D k=Qcv g s l k):=by
 intro l
 induction l with
 | nil=>intro s hs _;exact .inr ⟨λp h=>(by cases h),s,rfl,hs,by simp,λk=>rfl⟩
 | cons p l ih=>
  intro s hs hl
  obtain⟨h1,h2⟩:=QiA.1 hl
  simp only[WD,hb]
  cases hst:stop (g (QV s p.1) p.2)with
  | true=>exact .inl ⟨⟨p,YF,hst⟩,by cases q<;>rfl⟩
  | false=>
   simp only[QJ,Qc,Sum.elim_inl]
   have hc:∀r∈l,QV (Jd Ge s p.1 (g (QV s p.1) p.2)) r.1=QV s r.1:=λr y=>by
    unfold QV
    rw[AB,if_neg (λe=>h1 r y e.symm)]
   rcases ih _ (QhR hs p.1 (g (QV s p.1) p.2)) h2 with⟨⟨r,y,h3⟩,h4⟩|⟨h3,D,h4,h5,h6,h7⟩
   ·exact .inl ⟨⟨r,Jz _ y,by rw[hc r y]at h3;exact h3⟩,h4⟩
   refine .inr ⟨λr y=>?_,D,h4,h5,?_,λk=>?_⟩
   ·rcases XQ.1 y with rfl | y
    ·exact hst
    have:=h3 r y;rwa[hc r y]at this
   ·have:=Qla (l:=s) (k:=p.1) (v:=g (QV s p.1) p.2)
    simp;omega
   rw[h7]
   obtain⟨a,x⟩:=p
   unfold Qcv
   rw[Yi]
   by_cases e:a=k
   ·subst e
    rw[if_pos rfl,Qfe.2 (λr y=>Ne.symm (h1 r y)),AB,if_pos rfl]
   rw[if_neg e]
   simp only[QV,AB,if_neg (λe'=>e (Eq.symm e'):¬k=a)]
def Qff (hb:∀s p,body s p=bif stop (g (QV s p.1) p.2)then q.map Sum.inr else some (.inl (Jd Ge s p.1 (g (QV s p.1) p.2)))){l s:L_ (Int×Int)}(hs:FO s)(hl:OO l):
  ((∃p∈l,stop (g (QV s p.1) p.2)=true)/\∀r,q=some r->Cw body s l=some (.inr r))\/
   ((∀p∈l,stop (g (QV s p.1) p.2)=false)/\∃s',Cw body s l=some (.inl s')/\FO s'/\s'.length<=s.length+l.length/\∀k,Xb s' k=Qcv g s l k):=by
 have key:∀l':L_ (Int×Int),l'.Perm l->WD body s l'=WD body s l:=λl' hp=>by
  have D:OO l':=(hp.pairwise_iff (λhab=>Ne.symm hab)).2 hl
  rcases Qar hb l' s hs D with⟨⟨p,h,h2⟩,y⟩|⟨h,s1,y,h4,_,h5⟩
  ·rcases Qar hb l s hs hl with⟨_,g3⟩|⟨g1,_⟩
   ·rw[y,g3]
   rw[g1 p (hp.mem_iff.1 h)]at h2;cases h2
  rcases Qar hb l s hs hl with⟨⟨p,g1,g2⟩,g3⟩|⟨g1,s2,g3,g4,_,g5⟩
  ·rw[h p (hp.mem_iff.2 g1)]at g2;cases g2
  rw[y,g3,Qgc h4 g4 λk=>?_]
  rw[h5,g5]
  unfold Qcv
  rw[Qj9 D hp k]
 rcases Qar hb l s hs hl with⟨h,y⟩|⟨h,s1,y,h4,h6,h5⟩
 ·exact .inl ⟨h,λr hr=>HK.2 ⟨key,by rw[y,hr];rfl⟩⟩
 exact .inr ⟨h,s1,HK.2 ⟨key,y⟩,h4,h6,h5⟩
end
def Qjp {ρ:Type}{bad:Int×Int->Bool}{q:ρ}{body:Unit->Int×Int->O_ (Unit⊕ρ)}(y:∀p,body () p=some (bif bad p then .inr q else .inl ()))(l:L_ (Int×Int)):
  Cw body () l=some (bif l.any bad then .inr q else .inl ()):=by
 have h:∀l:L_ (Int×Int),WD body () l=some (bif l.any bad then .inr q else .inl ()):=by
  intro l
  induction l with
  | nil=>rfl
  | cons p l D=>
   simp only[WD,y,Qc,List.any_cons]
   cases bad p with
   | true=>rfl
   | false=>exact D
 refine HK.2 ⟨λl' hp=>?_,h l⟩
 rw[h,h]
 congr 2
 rw[Zw,Oy,Oy]
 exact⟨λ⟨x,a,b⟩=>⟨x,hp.mem_iff.1 a,b⟩,λ⟨x,a,b⟩=>⟨x,hp.mem_iff.2 a,b⟩⟩
def BM (a:Int):L_ (Int×Int)->Bool
 | []=>true
 | p::r=>!(decide (p.1<=a)||(decide (p.2<1)||decide (1048576<p.2)))&&BM p.1 r
def QlR {a:Int}{l:L_ (Int×Int)}:BM a l=true↔FO l/\∀p∈l,a<p.1/\1<=p.2/\p.2<=1048576:=by
 induction l generalizing a with
 | nil=>simp[BM,FO]
 | cons p l ih=>
  rw[BM,QL,ih,Uz]
  simp only[Wy,KA,Xo]
  constructor
  ·rintro ⟨⟨D,h2,y⟩,h4,h5⟩
   refine⟨⟨λq h=>(h5 q h).1,h4⟩,λq h=>?_⟩
   rcases XQ.1 h with rfl | h
   ·omega
   have:=h5 q h;omega
  rintro ⟨⟨D,h2⟩,y⟩
  have:=y p YF
  exact⟨by omega,h2,λq h=>⟨D q h,(y q (Jz _ h)).2⟩⟩
def Rt (l:L_ (Int×Int)):Prop:=FO l/\∀p∈l,0<=p.1/\1<=p.2/\p.2<=1048576
def GH {l:L_ (Int×Int)}:BM (-1) l=true↔Rt l:=by
 rw[QlR]
 constructor
 ·rintro ⟨h,y⟩;exact⟨h,λp hp=>by have:=y p hp;omega⟩
 rintro ⟨h,y⟩;exact⟨h,λp hp=>by have:=y p hp;omega⟩
def Rt.nil : Rt []:=⟨List.Pairwise.nil,λp h=>by cases h⟩
def Iu {l:L_ (Int×Int)}(h:OO l){p:Int×Int}(hp:p∈l):QV l p.1=p.2:=by
 unfold QV;rw[(Wk h).2 (show(p.1,p.2)∈l from hp)];rfl
def Rt.cnt {l:L_ (Int×Int)}(h:Rt l)(k:Int):0<=QV l k/\QV l k<=1048576:=by
 unfold QV
 cases e:Xb l k with
 | none=>simp
 | some v=>have:=h.2 _ ((Wk h.1.nd).1 e);simp at this ⊢;omega
def Rt.cnt_pos {l:L_ (Int×Int)}(h:Rt l){k:Int}(y:0<QV l k):0<=k:=by
 unfold QV at y
 cases e:Xb l k with
 | none=>rw[e]at y;simp at y
 | some v=>exact(h.2 _ ((Wk h.1.nd).1 e)).1
def QmH {l m:L_ (Int×Int)}(hl:Rt l)(hm:Rt m)(h:∀k,QV l k=QV m k):l=m:=by
 refine Qgc hl.1 hm.1 λk=>?_
 have:=h k
 unfold QV at this
 cases D:Xb l k with
 | none=>
  cases y:Xb m k with
  | none=>rfl
  | some v=>have h3:=hm.2 _ ((Wk hm.1.nd).1 y);rw[D,y]at this;simp at this h3;omega
 | some v=>
  have h3:=hl.2 _ ((Wk hl.1.nd).1 D)
  cases y:Xb m k with
  | none=>rw[D,y]at this;simp at this h3;omega
  | some u=>rw[D,y]at this;simpa using this
def Hy (l:L_ (Int×Int)):L_ (Int×Int):=l.filter λp=>decide (0<p.2)
def QhS {l:L_ (Int×Int)}(h:FO l)(k:Int):QV (Hy l) k=if 0<QV l k then QV l k else 0:=by
 have hp:FO (Hy l):=h.sublist List.filter_sublist
 by_cases c:0<QV l k
 ·rw[if_pos c]
  unfold QV at c
  cases e:Xb l k with
  | none=>rw[e]at c;simp at c
  | some v=>
   rw[e]at c
   have y:(k,v)∈Hy l:=Fq.2 ⟨(Wk h.nd).1 e,by simpa using c⟩
   unfold QV
   rw[(Wk hp.nd).2 y,e]
 rw[if_neg c]
 unfold QV
 cases e:Xb (Hy l) k with
 | none=>rfl
 | some v=>
  have y:=Fq.1 ((Wk hp.nd).1 e)
  have D:=(Wk h.nd).2 y.1
  unfold QV at c
  rw[D]at c
  simp at y c;omega
def Qka {l:L_ (Int×Int)}(h:FO l)(hb:∀k,0<QV l k->0<=k/\QV l k<=1048576):Rt (Hy l):=by
 refine⟨h.sublist List.filter_sublist,λp hp=>?_⟩
 obtain⟨y,D⟩:=Fq.1 hp
 have h3:=Iu h.nd y
 have h4:0<p.2:=XC D
 have:=hb p.1 (by omega)
 omega
def Qkb {l:L_ (Int×Int)}(h:FO l):Ex (l.map Prod.fst)=l.map Prod.fst:=by
 rw[ZZ]
 refine List.mergeSort_of_pairwise ?_
 rw[PU]
 exact h.imp λh=>by simp;omega
def upL : Int->Nat->L_ Int
 | _,0=>[]
 | x,k+1=>x::upL (x+1) k
def binds : L_ Int->L_ (L_ Int)
 | []=>[[]]
 | s::r=>(0::upL 1 (s-1).toNat).flatMap λx=>(binds r).map (x::·)
def Dv : L_ Int->L_ Int->L_ (L_ Int)
 | s::r,x::d=>(Dv r d).map (x::·)++(upL (x+1) (s-(x+1)).toNat).flatMap λy=>(binds r).map (y::·)
 | _,_=>[]
def Hz (l:L_ Int):L_ Int:=List.replicate l.length 0
def Qdj (l:L_ Int):binds l=Hz l::Dv l (Hz l):=by
 induction l with
 | nil=>rfl
 | cons s r h=>
  show(0::upL 1 (s-1).toNat).flatMap (λx=>(binds r).map (x::·))=(0::Hz r)::((Dv r (Hz r)).map (0::·)++(upL (0+1) (s-(0+1)).toNat).flatMap λy=>(binds r).map (y::·))
  rw[Qci,Int.zero_add]
  have:(binds r).map (λx=>(0:Int)::x)=(0::Hz r)::(Dv r (Hz r)).map (0::·):=by rw[h];rfl
  rw[this];rfl
def Rk : L_ Int->L_ Int->O_ (L_ Int)
 | s::r,x::d=>match Rk r d with
  | some e=>some (x::e)
  | none=>if x+1<s then some ((x+1)::Hz r)else none
 | _,_=>none
def Qjq : ∀l d:L_ Int,Dv l d=match Rk l d with
  | none=>[]
  | some e=>e::Dv l e:=by
 intro l
 induction l with
 | nil=>intro d;rfl
 | cons s r y=>
  intro d
  cases d with
  | nil=>rfl
  | cons x d=>
   have h:=y d
   rw[Rk]
   cases e:Rk r d with
   | some e'=>
    rw[e]at h
    simp only[Dv,h];rfl
   | none=>
    rw[e]at h
    simp only at h
    simp only[Dv,h,List.map_nil,PT]
    by_cases c:x+1<s
    ·rw[if_pos c]
     rw[show(s-(x+1)).toNat=(s-(x+1+1)).toNat+1 by omega,upL,Qci]
     have:(binds r).map (λz=>(x+1)::z)=((x+1)::Hz r)::(Dv r (Hz r)).map ((x+1)::·):=by rw[Qdj r];rfl
     rw[this];rfl
    rw[if_neg c,show(s-(x+1)).toNat=0 by omega];rfl
def Qgz : ∀l d:L_ Int,(∀(j:Nat) x s,d[j]? = some x->l[j]? = some s->¬x+1<s)->Rk l d=none:=by
 intro l
 induction l with
 | nil=>intro d _;cases d<;>rfl
 | cons s r ih=>
  intro d h
  cases d with
  | nil=>rfl
  | cons x d=>
   rw[Rk,ih d λj y z D h2=>h (j+1) y z (by simpa using D) (by simpa using h2)]
   simp only
   rw[if_neg (h 0 x s rfl rfl)]
def QlS : ∀(k:Nat) (l d:L_ Int) (x s:Int),l.length=d.length->d[k]? = some x->l[k]? = some s->x+1<s->(∀(j:Nat) y z,k<j->d[j]? = some y->l[j]? = some z->¬y+1<z)->
  Rk l d=some (d.take k++(x+1)::List.replicate (d.length-(k+1)) 0):=by
 intro k
 induction k with
 | zero=>
  intro l d x s hl h hs D ha
  cases l with
  | nil=>cases hs
  | cons s' r=>
   cases d with
   | nil=>cases h
   | cons x' d=>
    simp only[List.getElem?_cons_zero,Option.some.injEq]at h hs
    subst h;subst hs
    rw[Rk,Qgz r d λj y z h1 h2=>ha (j+1) y z (by omega) (by simpa using h1) (by simpa using h2)]
    simp only
    rw[if_pos D]
    simp only[DG]at hl
    simp[Hz];omega
 | succ k ih=>
  intro l d x s hl h hs D ha
  cases l with
  | nil=>cases hs
  | cons s' r=>
   cases d with
   | nil=>cases h
   | cons x' d=>
    simp only[Qcj]at h hs
    simp only[DG,Nat.add_right_cancel_iff]at hl
    rw[Rk,ih r d x s hl h hs D λj y z h0 h1 h2=>ha (j+1) y z (by omega) (by simpa using h1) (by simpa using h2)]
    simp
def inB : L_ Int->L_ Int->Prop
 | [],[]=>True
 | s::r,x::d=>0<=x/\(x=0\/x<s)/\inB r d
 | _,_=>False
def QlT {y x:Int}{k:Nat}:y∈upL x k↔x<=y/\y<x+k:=by
 induction k generalizing x with
 | zero=>
  simp only[upL,List.not_mem_nil,false_iff];omega
 | succ k h=>simp only[upL,XQ,h];omega
def Qkc {l d:L_ Int}:d∈binds l↔inB l d:=by
 induction l generalizing d with
 | nil=>cases d<;>simp[binds,inB]
 | cons s r ih=>
  cases d with
  | nil=>simp[binds,inB]
  | cons x d=>
   simp only[binds,List.mem_flatMap,XQ,QlT,Yl,List.cons.injEq,inB,<-ih]
   constructor
   ·rintro ⟨y,D,e,h,rfl,rfl⟩
    exact⟨by omega,by omega,h⟩
   rintro ⟨D,h,h3⟩
   exact⟨x,by omega,d,h3,rfl,rfl⟩
def QlU {l d:L_ Int}(h:inB l d):d.length=l.length:=by
 induction l generalizing d with
 | nil=>cases d with
  | nil=>rfl
  | cons x d=>exact h.elim
 | cons s r y=>cases d with
  | nil=>exact h.elim
  | cons x d=>simp[y h.2.2]
section
variable {α:Type}
def KQ (h:Nat)(y X:L_ α):L_ α⊕L_ α:=if (y++X).length<h then .inr (y++X)else .inl ((y++X).take h)
def Zj {y:Nat}{D:L_ α}(h:D.length<y):KQ y D []=.inr D:=by
 unfold KQ
 rw[Lm,if_pos h]
def Qlc {y:Nat}{D X:L_ α}(h:D.length=y):KQ y D X=.inl D:=by
 unfold KQ
 rw[if_neg (by simp;omega)]
 subst h
 rw[List.take_left]
def Qld {h:Nat}{y X:L_ α}{x:α}:KQ h y (x::X)=KQ h (y++[x]) X:=by
 unfold KQ
 rw[De];rfl
def QiB {h:Nat}{y X Y:L_ α}:KQ h y (X++Y)=match KQ h y X with
  | .inl a=>.inl a
  | .inr a=>KQ h a Y:=by
 unfold KQ
 by_cases c:(y++X).length<h
 ·rw[if_pos c]
  simp only[De]
 rw[if_neg c,if_neg (by simp at c ⊢;omega),<-De,Qcm (by omega)]
def Qkd {y:Nat}{D X a:L_ α}(h:KQ y D X=.inr a):a.length<y:=by
 unfold KQ at h
 split at h
 ·cases h;assumption
 cases h
def QiC {D:Nat}{y X a:L_ α}(h:KQ D y X=.inr a):a=y++X:=by
 unfold KQ at h
 split at h
 ·cases h;rfl
 cases h
def Qle {y:Nat}{X:L_ α}(h:0<y):(match KQ y [] X with | .inl a=>a | .inr a=>a)=X.take y:=by
 unfold KQ
 rw[PT]
 by_cases c:X.length<y
 ·rw[if_pos c];simp only;rw[UB (by omega)]
 rw[if_neg c]
end
end Go.Vm
noncomputable section
namespace Go.Proofs
open Go Go.RowKit Go.Vm
inductive Wq : Qv->Prop where
 | mk (e:Qv):e.Kids.length<=maxLen->(∀k∈e.Kids,Wq k)->Wq e
def GI {e:Qv}(h:Wq e):Xc Wq e.Kids:=by
 cases h with
 | mk _ y D=>exact⟨y,D⟩
def QbY {e k:Qv}(h:k∈e.Kids):SizeOf.sizeOf k<SizeOf.sizeOf e:=by
 obtain⟨a,b,l⟩:=e
 have:=List.sizeOf_lt_of_mem h
 simp only[Qv.mk.sizeOf_spec]at *
 omega
def Qv.pos (e:Qv):0<SizeOf.sizeOf e:=by
 obtain⟨a,b,l⟩:=e
 simp only[Qv.mk.sizeOf_spec];omega
inductive Zk (v:Int):Qv->Prop where
 | mk (e:Qv):(e.Kind=1\/e.Kind=2\/e.Kind=3\/e.Kind=4\/e.Kind=5\/e.Kind=6)->(e.Kind=2->0<=e.Num/\e.Num<v)->(e.Kind=3\/e.Kind=4->e.Kids.length=1)->(e.Kind=5->e.Kids.length=2)->(e.Kind=6->e.Kids.length=3)->(∀k∈e.Kids,Zk v k)->Zk v e
def Km (x:Xh):Prop:=UM x.Name/\True/\True/\True/\(Xc UM) x.Names/\True/\True
def Wh (x:XB):Prop:=UM x.Name/\True/\(Xc (λ_=>True)) x.First
def DS (x:Yz):Prop:=UM x.Name/\True
def CJ (x:Ye):Prop:=True/\Wq x.Expr
def YA (x:QS):Prop:=UM x.Name/\(Xc DS) x.Vars/\Wq x.Guard/\True/\True/\(Xc CJ) x.Ins/\(Xc CJ) x.Outs/\(Xc (λ_=>True)) x.Cancel/\True/\True
def Xm (x:Ql):Prop:=(Xc Km) x.Colours/\(Xc Wh) x.Places/\(Xc YA) x.Tasks/\True/\True
def QgZ (x:YM):Prop:=(Xc Km) x.all/\(Xc (λ_=>True)) x.sizes/\True
def Qfg (y:Ql)(h:Xm y):Xk (Lw y):=by
 unfold Lw
 exact T3
def Ks (y:(L_ XB))(h:Int)(D:(Xc Wh) y):Qj (YI y h) λr=>r=true->0<=h/\h<y.length:=by
 unfold YI
 exact T2 (by first | (intro hr;first | (cases hr;done) | omega | ((try simp only[QL,KR,KA,Wy,AP,QM,Xo,beq_iff_eq,bne_iff_ne,ne_eq,PS,SW,JT,Eo,HG,Fp,KS,DG,Mk,Ml,Ir]at *);omega)) | ((try simp only[QL,KR,KA,Wy,AP,QM,Xo,beq_iff_eq,bne_iff_ne,ne_eq,PS,SW,JT,Eo,HG,Fp,KS,DG,Mk,Ml,Ir]at *);omega) | simp_all)
def Qfh (y:Ql)(h:Xm y):Xk (Lx y):=by
 unfold Lx
 refine T0 (P:=λ_=>True) ?_ (λx_1 hv2=>?_)
 ·unfold Sg
  refine T0 (Ks y.Places y.From (h.2.1)) (λx_3 hv4=>?_)
  refine T1 (λD=>?_) (λD=>?_)
  ·refine T0 (Ks y.Places y.To (h.2.1)) (λx_6 hv7=>?_)
   exact T3
  exact T3
 unfold Sh
 exact T3
def Qfi (y:Ql)(h:Xm y):Xk (Lz y):=by
 unfold Lz
 exact T3
def Qfj (y:Ql)(v2:Int)(v3:Int)(v4:Int)(h:Xm y):Xk (LA y v2 v3 v4):=by
 unfold LA
 refine T0 (Qfg y (h)) (λx_1 hv2=>?_)
 refine T1 (λD=>?_) (λD=>?_)
 ·exact T3
 refine T0 (Qfh y (h)) (λx_4 hv5=>?_)
 refine T1 (λhc6=>?_) (λhc6=>?_)
 ·exact T3
 refine T0 (Qfi y (h)) (λx_7 hv8=>?_)
 refine T1 (λhc9=>?_) (λhc9=>?_)
 ·exact T3
 exact T3
def Qfk (D:Int)(y:Int)  : Xk (Lr D y):=by
 unfold Lr
 refine T1 (λh=>?_) (λh=>?_)
 ·exact T3
 exact T3
def PO (h:Int)  : Xk (Al h):=by
 unfold Al
 exact T3
def Nx (s1:ByteArray)(h_s1:UM s1):Xk (Af s1):=by
 unfold Af
 refine T0 (P:=λ_=>True) ?_ (λx_1 hv2=>?_)
 ·unfold RO
  refine T1 (λhc3=>?_) (λhc3=>?_)
  ·exact T3
  have hshc3:=Qj8 hc3
  refine T1 (λhc4=>?_) (λhc4=>?_)
  ·exact T3
  refine T0 (Qj.sidx (by omega) (by omega)) (λc_5 hv6=>?_)
  refine T0 (PO c_5 ) (λx_7 hv8=>?_)
  exact T3
 unfold RS
 refine T1 (λhc9=>?_) (λhc9=>?_)
 ·exact T3
 refine T0 (Qj.up (s1.size) (λst=>st) (λ_=>True) (Q:=λq=>True) rfl trivial (λi11 st h hn13 hj14=>?_)) (λq15 hq16=>?_)
 ·obtain⟨D,hst⟩:∃y,y=st:=⟨_,rfl⟩
  subst hst
  replace h:D=(i11:Int):=h
  show Qj (LL s1 D) _
  unfold LL
  refine T1 (λhc17=>?_) (λhc17=>?_)
  ·refine T0 (Qj.sidx (by omega) (by simp_all)) (λc_18 hv19=>?_)
   refine T0 (P:=λ_=>True) ?_ (λx_20 hv21=>?_)
   ·unfold RP
    refine T0 (PO c_18 ) (λx_22 hv23=>?_)
    refine T1 (λhc24=>?_) (λhc24=>?_)
    ·refine T1 (λhc25=>?_) (λhc25=>?_)
     ·exact T3
     refine T1 (λhc26=>?_) (λhc26=>?_)
     ·exact T3
     exact T3
    exact T3
   unfold RQ
   refine T1 (λhc27=>?_) (λhc27=>?_)
   ·exact T2 (Qu trivial)
   exact T2 (QP ⟨(by simp_all),by subst h;exact QE (by simp_all) h_s1,trivial⟩)
  exact T2 (Qu trivial)
 rcases q15 with q15 | q15
 ·show Qj (LM) _
  unfold LM
  exact T3
 show Qj (LN) _
 unfold LN
 exact T3
def QdZ (l1:(L_ ByteArray))(y:(Xc UM) l1):Xk (HT l1):=by
 unfold HT
 refine T0 (Qj.up (l1.length) (λst=>st.1) (λ_=>True) (Q:=λq=>True) rfl trivial (λi3 st D hn5 hj6=>?_)) (λq7 hq8=>?_)
 ·obtain⟨x_1,m_2⟩:=st
  replace D:x_1=(i3:Int):=D
  show Qj (IA l1 x_1 m_2) _
  unfold IA
  refine T1 (λhc9=>?_) (λhc9=>?_)
  ·refine T0 (T4 (by omega) (by simp_all)) (λh hv11=>?_)
   refine T0 (P:=λ_=>True) ?_ (λx_12 hv13=>?_)
   ·unfold Pz
    refine T0 (Nx h (((y).2 h hv11))) (λx_14 hv15=>?_)
    refine T1 (λhc16=>?_) (λhc16=>?_)
    ·exact T3
    exact T3
   unfold PA
   refine T1 (λhc17=>?_) (λhc17=>?_)
   ·exact T2 (Qu trivial)
   exact T2 (QP ⟨(by simp_all),by subst D;exact QE (by simp_all) (y).1,trivial⟩)
  exact T2 (Qu trivial)
 rcases q7 with q7 | q7
 ·show Qj (IB) _
  unfold IB
  exact T3
 show Qj (IC) _
 unfold IC
 exact T3
def Qfl (D:Xh)(h:LI_)(h_c1:Km D)(y:(Xc (λ_=>True)) h):Xk (Ls D h):=by
 unfold Ls
 refine T1 (λhc1=>?_) (λhc1=>?_)
 ·refine T0 (Qfk D.Lo D.Hi ) (λx_2 hv3=>?_)
  exact T3
 refine T1 (λhc4=>?_) (λhc4=>?_)
 ·refine T0 (QdZ D.Names (h_c1.2.2.2.2.1)) (λx_5 hv6=>?_)
  refine T1 (λhc7=>?_) (λhc7=>?_)
  ·exact T3
  unfold WE
  exact T3
 refine T1 (λhc8=>?_) (λhc8=>?_)
 ·refine T1 (λhc9=>?_) (λhc9=>?_)
  ·refine T0 (T4 (by(try simp only[QL,KR,KA,Wy,AP,QM,Xo,beq_iff_eq,bne_iff_ne,ne_eq,PS,SW,JT,Eo,HG,Fp,KS,DG,Mk,Ml,Ir]at *);omega) (by(try simp only[QL,KR,KA,Wy,AP,QM,Xo,beq_iff_eq,bne_iff_ne,ne_eq,PS,SW,JT,Eo,HG,Fp,KS,DG,Mk,Ml,Ir]at *);omega)) (λe_10 hv11=>?_)
   refine T0 (T4 (by(try simp only[QL,KR,KA,Wy,AP,QM,Xo,beq_iff_eq,bne_iff_ne,ne_eq,PS,SW,JT,Eo,HG,Fp,KS,DG,Mk,Ml,Ir]at *);omega) (by(try simp only[QL,KR,KA,Wy,AP,QM,Xo,beq_iff_eq,bne_iff_ne,ne_eq,PS,SW,JT,Eo,HG,Fp,KS,DG,Mk,Ml,Ir]at *);omega)) (λe_12 hv13=>?_)
   exact T3
  unfold WE
  exact T3
 unfold WE
 exact T3
def Sw (D:(L_ Xh))(h_l1:(Xc Km) D):Qj (Bl D) λr=>((Xc (λ_=>True)) r.1/\True)/\(r.2=true->r.1.length=D.length/\∀x∈r.1,1<=x/\x<=1024):=by
 unfold Bl
 refine T1 (λhc=>T2 ⟨⟨Xc.nil,trivial⟩,λh=>by cases h⟩) (λhc=>?_)
 have hl:D.length<=32:=by simp only[Xo]at hc;omega
 refine T0 (Qj.up D.length (λst=>st.1) (λst=>(st.2.2.length:Int)=st.1/\∀x∈st.2.2,1<=x/\x<=1024) (Q:=λq=>∀l,q=.inr l->l.length=D.length/\∀x∈l,1<=x/\x<=1024) rfl ⟨rfl,λx h=>(by cases h)⟩ (λi st hi hn hj=>?_)) (λq hq=>?_)
 ·obtain⟨x,m,l⟩:=st
  replace hi:x=(i:Int):=hi
  replace hj:(l.length:Int)=x/\∀x∈l,1<=x/\x<=1024:=hj
  obtain⟨hj,hj2⟩:=hj
  show Qj (ID D x m l) _
  unfold ID
  refine T1 (λhc2=>?_) (λhc2=>?_)
  ·simp only[QM]at hc2
   refine T0 (T4 (by omega) (by omega)) λe he=>?_
   refine T0 (Qfl e l (h_l1.2 e he) ⟨by unfold maxLen;omega,λ_ _=>trivial⟩) λy _=>?_
   refine T0 (P:=λz=>z=false->1<=y/\y<=1024) ?_ λz hz=>?_
   ·unfold PB
    refine T0 (Nx e.Name (h_l1.2 e he).1) λz _=>?_
    refine T1 (λ_=>T2 (λh=>by cases h)) λ_=>T1 (λ_=>T2 (λh=>by cases h)) λ_=>T1 (λ_=>T2 (λh=>by cases h)) λh1=>T2 λh2=>?_
    simp only[Xo]at h1 h2
    omega
   unfold PC
   refine T1 (λ_=>T2 (Qu λl h=>by cases h)) λhz0=>?_
   refine T0 (T5 (by simp;omega)) λ_ _=>?_
   exact T2 (QP ⟨by omega,by subst hi;exact QE (by omega) (by unfold maxLen;omega:D.length<=maxLen),by simp only[JT,Eo];subst hi;rw[QE (show i<D.length by omega) (by unfold maxLen;omega)];omega,λu hu=>by
    rcases Ep.1 hu with hu | hu
    ·exact hj2 u hu
    simp at hu;subst hu;exact hz hz0⟩)
  simp only[Xo]at hc2
  exact T2 (Qu λl' h=>by cases h;exact⟨by omega,hj2⟩)
 rcases q with q | q
 ·exact T2 ⟨⟨Xc.nil,trivial⟩,λh=>by cases h⟩
 have:=hq q rfl
 exact T2 ⟨⟨⟨by show q.length<=maxLen;unfold maxLen;omega,λ_ _=>trivial⟩,trivial⟩,λ_=>this⟩
def Qd0 (y:(L_ Xh))(h:(Xc Km) y):Xk (Ib y):=by
 unfold Ib
 refine T0 (Sw y (h)) (λx_1 D=>?_)
 exact T3
def Zl (D:Ql)(y:Int)(h:Xm D)(hp0:0<=y)(hp1:y<D.Colours.length):Xk (UG D y):=by
 have hl:=h.1.1
 unfold maxLen at hl
 unfold UG
 rw[Yg (show -9223372036854775808<=y+1/\y+1<=9223372036854775807 by omega)]
 refine T0 (T5 (by simp only[QL,QM];omega)) λ_ _=>?_
 exact T0 (Qd0 _ ((h.1.drop _).take _)) λx _=>T3
def Qfm : L_ ByteArray:=(CF).getD []
set_option maxRecDepth 100000 in
def Qlf : CF=some Qfm:=by kernel_rfl
set_option maxRecDepth 100000 in
def Qit : (decide (Qfm.length<=1000)&&Qfm.all λs=>decide (s.size<=1000))=true:=by kernel_rfl
def Qfn : Qj (CF) λr=>Xc UM r:=by
 have h:=Qit
 rw[QL,decide_eq_true_iff,XE]at h
 refine⟨Qfm,Qlf,by unfold maxLen;omega,λx y=>?_⟩
 have:=h.2 x y
 rw[decide_eq_true_iff]at this
 unfold UM maxLen;omega
def Ny (s1:(L_ ByteArray))(v2:ByteArray)(D:(Xc UM) s1)(h_v2:UM v2):Xk (Wa s1 v2):=by
 unfold Wa
 refine T0 (Qj.up (s1.length) (λst=>st) (λ_=>True) (Q:=λq=>True) rfl trivial (λi2 st h hn4 hj5=>?_)) (λq6 hq7=>?_)
 ·obtain⟨x_1,hst⟩:∃y,y=st:=⟨_,rfl⟩
  subst hst
  replace h:x_1=(i2:Int):=h
  show Qj (WV s1 v2 x_1) _
  unfold WV
  refine T1 (λhc8=>?_) (λhc8=>?_)
  ·refine T0 (T4 (by omega) (by simp_all)) (λe_9 hv10=>?_)
   refine T1 (λhc11=>?_) (λhc11=>?_)
   ·exact T2 (Qu trivial)
   exact T2 (QP ⟨(by simp_all),by subst h;exact QE (by simp_all) (D).1,trivial⟩)
  exact T2 (Qu trivial)
 rcases q6 with q6 | q6
 ·show Qj (WW q6) _
  unfold WW
  exact T3
 show Qj (WX) _
 unfold WX
 exact T3
def Li (D:(L_ ByteArray))(v2:ByteArray)(h:(Xc UM) D)(y:UM v2):Xk (Kl D v2):=by
 unfold Kl
 refine T0 (Ny D v2 (h) (y)) (λx_1 hv2=>?_)
 exact T3
def Qgd (D:ByteArray)(h:UM D):Xk (Nr D):=by
 unfold Nr
 refine T0 (Qfn  ) (λx_1 y=>?_)
 refine T0 (Li x_1 D (y) (h)) (λx_3 hv4=>?_)
 exact T3
def BN (y:ByteArray)(h:UM y):Xk (GD y):=by
 unfold GD
 refine T0 (P:=λ_=>True) ?_ (λx_1 hv2=>?_)
 ·unfold TG
  refine T0 (Nx y (h)) (λx_3 hv4=>?_)
  refine T1 (λD=>?_) (λD=>?_)
  ·refine T0 (Qgd y (h)) (λx_6 hv7=>?_)
   exact T3
  exact T3
 unfold TH
 exact T3
def SP (y:ByteArray)(h:UM y):Xk (GT y):=by
 unfold GT
 refine T0 (BN y (h)) (λx_1 D=>?_)
 exact T3
def IL (s1:(L_ ByteArray))(h:(Xc UM) s1):Xk (JX s1):=by
 unfold JX
 refine T0 (Qj.up (s1.length) (λst=>st) (λ_=>True) (Q:=λq=>True) rfl trivial (λi2 st D hn4 hj5=>?_)) (λq6 hq7=>?_)
 ·obtain⟨x_1,hst⟩:∃y,y=st:=⟨_,rfl⟩
  subst hst
  replace D:x_1=(i2:Int):=D
  show Qj (Wb s1 x_1) _
  unfold Wb
  refine T1 (λhc8=>?_) (λhc8=>?_)
  ·refine T0 (T4 (by omega) (by simp_all)) (λe_9 hv10=>?_)
   refine T0 (SP e_9 (((h).2 e_9 hv10))) (λx_11 hv12=>?_)
   refine T1 (λhc13=>?_) (λhc13=>?_)
   ·exact T2 (Qu trivial)
   exact T2 (QP ⟨(by simp_all),by subst D;exact QE (by simp_all) (h).1,trivial⟩)
  exact T2 (Qu trivial)
 rcases q6 with q6 | q6
 ·show Qj (Wc q6) _
  unfold Wc
  exact T3
 show Qj (Wd) _
 unfold Wd
 exact T3
def FT (y:(L_ ByteArray))(h:(Xc UM) y):Xk (Jt y):=by
 unfold Jt
 refine T0 (IL y (h)) (λx_1 D=>?_)
 exact T3
def Zm (y:Xh)(h:Km y):Xk (UH y):=by
 unfold UH
 refine T0 (P:=λ_=>True) ?_ (λx_1 hv2=>?_)
 ·unfold Lg
  refine T0 (BN y.Name (h.1)) (λx_3 hv4=>?_)
  refine T1 (λD=>?_) (λD=>?_)
  ·refine T1 (λhc6=>?_) (λhc6=>?_)
   ·exact T3
   refine T0 (FT y.Names (h.2.2.2.2.1)) (λx_7 hv8=>?_)
   exact T3
  exact T3
 unfold Lh
 exact T3
def QbZ (D:Ql)(v2:Int)(v3:Int)(v4:Xh)(v5:Int)(h:Xm D)(y:Km v4)(hp0:0<=v2)(hp1:v2<D.Colours.length):Xk (Cc D v2 v3 v4 v5):=by
 unfold Cc
 refine T0 (Zl D v2 (h) (by omega) (by omega)) (λx_1 hv2=>?_)
 refine T1 (λhc3=>?_) (λhc3=>?_)
 ·exact T3
 refine T0 (Zm v4 (y)) (λx_4 hv5=>?_)
 refine T1 (λhc6=>?_) (λhc6=>?_)
 ·exact T3
 exact T3
def Qa6 (D:Int)(c2:Xh)(v3:Ql)(h:Km c2)(y:Xm v3)(hp0:0<=D)(hp1:D<v3.Colours.length):Xk (AY D c2 v3):=by
 unfold AY
 refine T0 (QbZ v3 D 8 c2 8 (y) (h) (by omega) (by omega)) (λx_1 hv2=>?_)
 exact T3
def Rl (l1:(L_ Xh))(v2:Ql)(h:(Xc Km) l1)(h_v2:Xm v2)(hp0:l1.length<=v2.Colours.length):Xk (DI l1 v2):=by
 unfold DI
 refine T0 (Qj.up (l1.length) (λst=>st) (λ_=>True) (Q:=λq=>True) rfl trivial (λi2 st D hn4 hj5=>?_)) (λq6 hq7=>?_)
 ·obtain⟨x_1,hst⟩:∃y,y=st:=⟨_,rfl⟩
  subst hst
  replace D:x_1=(i2:Int):=D
  show Qj (Eg l1 v2 x_1) _
  unfold Eg
  refine T1 (λhc8=>?_) (λhc8=>?_)
  ·refine T0 (T4 (by omega) (by simp_all)) (λe_9 hv10=>?_)
   refine T0 (Qa6 x_1 e_9 v2 (((h).2 e_9 hv10)) (h_v2) (by omega) (by simp_all;omega)) (λx_11 hv12=>?_)
   refine T1 (λhc13=>?_) (λhc13=>?_)
   ·exact T2 (Qu trivial)
   exact T2 (QP ⟨(by simp_all),by subst D;exact QE (by simp_all) (h).1,trivial⟩)
  exact T2 (Qu trivial)
 rcases q6 with q6 | q6
 ·show Qj (Eh q6.1 q6.2) _
  unfold Eh
  exact T3
 show Qj (Ei) _
 unfold Ei
 exact T3
def PP (n1:Ql)(h:Xm n1):Xk (Ax n1):=by
 unfold Ax
 refine T0 (Rl n1.Colours n1 (h.1) (h) (by omega)) (λD y=>?_)
 exact T3
def Qc1 (y:XB)(h:Wh y):Xk (FC y):=by
 unfold FC
 refine T0 (BN y.Name (h.1)) (λx_1 D=>?_)
 exact T3
def Qc2 (D:XB)(v2:XB)(h:Wh D)(y:Wh v2):Xk (FD D v2):=by
 unfold FD
 exact T3
def Cp (s1:(L_ XB))(v2:XB)(h:(Xc Wh) s1)(h_v2:Wh v2):Xk (Jb s1 v2):=by
 unfold Jb
 refine T0 (Qj.up (s1.length) (λst=>st) (λ_=>True) (Q:=λq=>True) rfl trivial (λi2 st D hn4 hj5=>?_)) (λq6 hq7=>?_)
 ·obtain⟨x_1,hst⟩:∃y,y=st:=⟨_,rfl⟩
  subst hst
  replace D:x_1=(i2:Int):=D
  show Qj (JP s1 v2 x_1) _
  unfold JP
  refine T1 (λhc8=>?_) (λhc8=>?_)
  ·refine T0 (T4 (by omega) (by simp_all)) (λe_9 hv10=>?_)
   refine T0 (Qc2 e_9 v2 (((h).2 e_9 hv10)) (h_v2)) (λx_11 hv12=>?_)
   refine T1 (λhc13=>?_) (λhc13=>?_)
   ·exact T2 (Qu trivial)
   exact T2 (QP ⟨(by simp_all),by subst D;exact QE (by simp_all) (h).1,trivial⟩)
  exact T2 (Qu trivial)
 rcases q6 with q6 | q6
 ·show Qj (JQ q6) _
  unfold JQ
  exact T3
 show Qj (JR) _
 unfold JR
 exact T3
def AO (D:(L_ XB))(v2:XB)(h:(Xc Wh) D)(y:Wh v2):Xk (YJ D v2):=by
 unfold YJ
 refine T0 (Cp D v2 (h) (y)) (λx_1 hv2=>?_)
 exact T3
def Qc3 (D:Ql)(v2:Int)(v3:XB)(h:Xm D)(y:Wh v3)(hp0:0<=v2)(hp1:v2<D.Places.length):Xk (FE D v2 v3):=by
 unfold FE
 refine T0 (T5 (by simp_all;omega)) (λ_ _=>?_)
 refine T0 (AO ((D.Places.drop 0).take (v2.toNat-0)) v3 (((h.2.1).drop _).take _) (y)) (λx_1 hv2=>?_)
 exact T3
def CK (y:(L_ Xh))(D:Int)(h:(Xc Km) y):Xk (KM y D):=by
 unfold KM
 exact T3
def Qc4 (y:Ql)(D:XB)(h:Xm y)(h_v2:Wh D):Xk (FF y D):=by
 unfold FF
 refine T0 (CK y.Colours D.Colour (h.1)) (λx_1 hv2=>?_)
 exact T3
def Qg0 (b1:QBg)(D:(Xc (λ_=>True)) b1):Xk (Db b1):=by
 unfold Db
 refine T0 (Qj.up (b1.length) (λst=>st.2) (λ_=>True) (Q:=λq=>True) rfl trivial (λi3 st y hn5 hj6=>?_)) (λq7 hq8=>?_)
 ·obtain⟨h,x_2⟩:=st
  replace y:x_2=(i3:Int):=y
  show Qj (WM b1 h x_2) _
  unfold WM
  refine T1 (λhc9=>?_) (λhc9=>?_)
  ·refine T0 (T4 (by omega) (by simp_all)) (λe_10 hv11=>?_)
   refine T1 (λhc12=>?_) (λhc12=>?_)
   ·exact T2 (Qu trivial)
   exact T2 (QP ⟨(by simp_all),by subst y;exact QE (by simp_all) (D).1,trivial⟩)
  exact T2 (Qu trivial)
 rcases q7 with q7 | q7
 ·show Qj (NP) _
  unfold NP
  exact T3
 show Qj (NQ) _
 unfold NQ
 exact T3
def Qc5 (y:XB)(h:Wh y):Xk (FG y):=by
 unfold FG
 refine T0 (Qg0 y.First (h.2.2)) (λx_1 D=>?_)
 exact T3
def CL (l1:(L_ Xh))(D:Int)(y:(Xc Km) l1):Qj (ET l1 D) λr=>(True/\QgZ r.2)/\(r.1=true->(0<=D/\D<r.2.sizes.length)/\r.2.k=D/\r.2.all.length=r.2.sizes.length/\∀x∈r.2.sizes,1<=x/\x<=1024):=by
 unfold ET
 refine T0 (Sw l1 y) λx hx=>?_
 refine T1 (λ_=>T2 ⟨⟨trivial,Xc.nil,Xc.nil,trivial⟩,λh=>by cases h⟩) λhc=>?_
 simp only[KA,AP,Xo]at hc
 have:=hx.2 hc.1
 exact T2 ⟨⟨trivial,y,hx.1.1,trivial⟩,λ_=>⟨⟨by omega,by show D<(x.1.length:Int);omega⟩,rfl,this.1.symm,this.2⟩⟩
def GY (D:(L_ Xh))(k2:Int)(y:(Xc Km) D):Qj (YO D k2) λr=>0<=r/\r<=1024:=by
 unfold YO
 refine T0 (CL D k2 y) (λx hx=>?_)
 refine T1 (λhc=>T2 (by omega)) (λhc=>?_)
 have h:=hx.2 (by simpa using hc)
 exact T0 (T4 (by omega) (by omega)) λe he=>T2 (by have:=h.2.2.2 e he;omega)
def Qa7 (h:(Int×Int))(y:Int)  : Xk (AZ h y):=by
 unfold AZ
 exact T3
def IM (s1:QBg)(v2:Int)(D:(Xc (λ_=>True)) s1):Xk (JY s1 v2):=by
 unfold JY
 refine T0 (Qj.up (s1.length) (λst=>st) (λ_=>True) (Q:=λq=>True) rfl trivial (λi2 st h hn4 hj5=>?_)) (λq6 hq7=>?_)
 ·obtain⟨x_1,hst⟩:∃y,y=st:=⟨_,rfl⟩
  subst hst
  replace h:x_1=(i2:Int):=h
  show Qj (We s1 v2 x_1) _
  unfold We
  refine T1 (λhc8=>?_) (λhc8=>?_)
  ·refine T0 (T4 (by omega) (by simp_all)) (λe_9 hv10=>?_)
   refine T0 (Qa7 e_9 v2 ) (λx_11 hv12=>?_)
   refine T1 (λhc13=>?_) (λhc13=>?_)
   ·exact T2 (Qu trivial)
   exact T2 (QP ⟨(by simp_all),by subst h;exact QE (by simp_all) (D).1,trivial⟩)
  exact T2 (Qu trivial)
 rcases q6 with q6 | q6
 ·show Qj (Wf q6) _
  unfold Wf
  exact T3
 show Qj (Wg) _
 unfold Wg
 exact T3
def FU (y:QBg)(D:Int)(h:(Xc (λ_=>True)) y):Xk (Ju y D):=by
 unfold Ju
 refine T0 (IM y D (h)) (λx_1 hv2=>?_)
 exact T3
def Qc6 (v1:Ql)(D:XB)(h:Xm v1)(y:Wh D):Xk (FH v1 D):=by
 unfold FH
 refine T0 (GY v1.Colours D.Colour (h.1)) (λx_1 hv2=>?_)
 refine T0 (FU D.First x_1 (y.2.2)) (λx_3 hv4=>?_)
 exact T3
def Qb0 (D:XB)(v2:Int)(v3:Ql)(v4:Int)(v5:Int)(v6:Int)(v7:Int)(v8:Int)(h:Wh D)(y:Xm v3)(hp0:0<=v4)(hp1:v4<v3.Places.length):Xk (Cd D v2 v3 v4 v5 v6 v7 v8):=by
 unfold Cd
 refine T0 (Qc1 D (h)) (λx_1 hv2=>?_)
 refine T1 (λhc3=>?_) (λhc3=>?_)
 ·exact T3
 refine T0 (Qc3 v3 v4 D (y) (h) (by omega) (by omega)) (λx_4 hv5=>?_)
 refine T1 (λhc6=>?_) (λhc6=>?_)
 ·exact T3
 refine T0 (Qc4 v3 D (y) (h)) (λx_7 hv8=>?_)
 refine T1 (λhc9=>?_) (λhc9=>?_)
 ·exact T3
 refine T0 (Qc5 D (h)) (λx_10 hv11=>?_)
 refine T1 (λhc12=>?_) (λhc12=>?_)
 ·exact T3
 refine T0 (Qc6 v3 D (y) (h)) (λx_13 hv14=>?_)
 refine T1 (λhc15=>?_) (λhc15=>?_)
 ·exact T3
 exact T3
def Qfo (n1:Ql)(k2:Int)(h:Xm n1):Xk (LB n1 k2):=by
 unfold LB
 refine T0 (Ks n1.Places k2 (h.2.1)) (λx_1 hv2=>?_)
 refine T1 (λD=>?_) (λD=>?_)
 ·exact T3
 refine T0 (T4 (by simp_all) (by simp_all)) (λy hv5=>?_)
 refine T0 (Qb0 y 1 n1 k2 5 3 1 8 (((h.2.1).2 y hv5)) (h) (by simp_all) (by simp_all)) (λx_6 hv7=>?_)
 exact T3
def Qfp (D:Int)(p2:XB)(v3:Ql)(y:Wh p2)(h:Xm v3):Xk (LC D p2 v3):=by
 unfold LC
 refine T0 (Qfo v3 D (h)) (λx_1 hv2=>?_)
 exact T3
def Sx (l1:(L_ XB))(v2:Ql)(h:(Xc Wh) l1)(h_v2:Xm v2):Xk (Gq l1 v2):=by
 unfold Gq
 refine T0 (Qj.up (l1.length) (λst=>st) (λ_=>True) (Q:=λq=>True) rfl trivial (λi2 st D hn4 hj5=>?_)) (λq6 hq7=>?_)
 ·obtain⟨x_1,hst⟩:∃y,y=st:=⟨_,rfl⟩
  subst hst
  replace D:x_1=(i2:Int):=D
  show Qj (EJ l1 v2 x_1) _
  unfold EJ
  refine T1 (λhc8=>?_) (λhc8=>?_)
  ·refine T0 (T4 (by omega) (by simp_all)) (λe_9 hv10=>?_)
   refine T0 (Qfp x_1 e_9 v2 (((h).2 e_9 hv10)) (h_v2)) (λx_11 hv12=>?_)
   refine T1 (λhc13=>?_) (λhc13=>?_)
   ·exact T2 (Qu trivial)
   exact T2 (QP ⟨(by simp_all),by subst D;exact QE (by simp_all) (h).1,trivial⟩)
  exact T2 (Qu trivial)
 rcases q6 with q6 | q6
 ·show Qj (EK q6.1 q6.2) _
  unfold EK
  exact T3
 show Qj (EL) _
 unfold EL
 exact T3
def HA (y:(L_ QS))(h:Int)(D:(Xc YA) y):Qj (Wx y h) λr=>r=true->0<=h/\h<y.length:=by
 unfold Wx
 exact T2 (by first | (intro hr;first | (cases hr;done) | omega | ((try simp only[QL,KR,KA,Wy,AP,QM,Xo,beq_iff_eq,bne_iff_ne,ne_eq,PS,SW,JT,Eo,HG,Fp,KS,DG,Mk,Ml,Ir]at *);omega)) | ((try simp only[QL,KR,KA,Wy,AP,QM,Xo,beq_iff_eq,bne_iff_ne,ne_eq,PS,SW,JT,Eo,HG,Fp,KS,DG,Mk,Ml,Ir]at *);omega) | simp_all)
def Qfq (v1:Int)(D:Ql)(v3:QS)(h:Xm D)(y:YA v3):Xk (LD v1 D v3):=by
 unfold LD
 exact T3
def Qb1 (v1:Int)(D:Ql)(v3:QS)(v4:Int)(h:Xm D)(y:YA v3):Xk (Ce v1 D v3 v4):=by
 unfold Ce
 exact T3
def Qb2 (v1:Int)(D:Ql)(v3:QS)(v4:Int)(h:Xm D)(y:YA v3):Xk (Cf v1 D v3 v4):=by
 unfold Cf
 exact T3
def Qb3 (v1:Int)(D:Ql)(v3:QS)(h:Xm D)(y:YA v3):Xk (Cg v1 D v3):=by
 unfold Cg
 exact T3
def Qd1 (y:QS)(h:YA y):Xk (Ig y):=by
 unfold Ig
 refine T0 (BN y.Name (h.1)) (λx_1 D=>?_)
 exact T3
def Qd2 (D:QS)(v2:QS)(h:YA D)(y:YA v2):Xk (Ih D v2):=by
 unfold Ih
 exact T3
def Fl (s1:(L_ QS))(v2:QS)(h:(Xc YA) s1)(h_v2:YA v2):Xk (Jm s1 v2):=by
 unfold Jm
 refine T0 (Qj.up (s1.length) (λst=>st) (λ_=>True) (Q:=λq=>True) rfl trivial (λi2 st D hn4 hj5=>?_)) (λq6 hq7=>?_)
 ·obtain⟨x_1,hst⟩:∃y,y=st:=⟨_,rfl⟩
  subst hst
  replace D:x_1=(i2:Int):=D
  show Qj (Kd s1 v2 x_1) _
  unfold Kd
  refine T1 (λhc8=>?_) (λhc8=>?_)
  ·refine T0 (T4 (by omega) (by simp_all)) (λe_9 hv10=>?_)
   refine T0 (Qd2 e_9 v2 (((h).2 e_9 hv10)) (h_v2)) (λx_11 hv12=>?_)
   refine T1 (λhc13=>?_) (λhc13=>?_)
   ·exact T2 (Qu trivial)
   exact T2 (QP ⟨(by simp_all),by subst D;exact QE (by simp_all) (h).1,trivial⟩)
  exact T2 (Qu trivial)
 rcases q6 with q6 | q6
 ·show Qj (Ke q6) _
  unfold Ke
  exact T3
 show Qj (Kf) _
 unfold Kf
 exact T3
def BR (D:(L_ QS))(v2:QS)(h:(Xc YA) D)(y:YA v2):Xk (YT D v2):=by
 unfold YT
 refine T0 (Fl D v2 (h) (y)) (λx_1 hv2=>?_)
 exact T3
def Qd3 (D:Ql)(v2:Int)(v3:QS)(h:Xm D)(y:YA v3)(hp0:0<=v2)(hp1:v2<D.Tasks.length):Xk (Ii D v2 v3):=by
 unfold Ii
 refine T0 (T5 (by simp_all;omega)) (λ_ _=>?_)
 refine T0 (BR ((D.Tasks.drop 0).take (v2.toNat-0)) v3 (((h.2.2.1).drop _).take _) (y)) (λx_1 hv2=>?_)
 exact T3
def Qd4 (D:Int)(y:QS)(h:YA y):Xk (BK D y):=by
 unfold BK
 exact T3
def SQ (y:Yz)(h:DS y):Xk (GU y):=by
 unfold GU
 refine T0 (BN y.Name (h.1)) (λx_1 D=>?_)
 exact T3
def SR (D:Yz)(v2:Yz)(h:DS D)(y:DS v2):Xk (GV D v2):=by
 unfold GV
 exact T3
def HB (s1:(L_ Yz))(v2:Yz)(h:(Xc DS) s1)(h_v2:DS v2):Xk (JE s1 v2):=by
 unfold JE
 refine T0 (Qj.up (s1.length) (λst=>st) (λ_=>True) (Q:=λq=>True) rfl trivial (λi2 st D hn4 hj5=>?_)) (λq6 hq7=>?_)
 ·obtain⟨x_1,hst⟩:∃y,y=st:=⟨_,rfl⟩
  subst hst
  replace D:x_1=(i2:Int):=D
  show Qj (Kt s1 v2 x_1) _
  unfold Kt
  refine T1 (λhc8=>?_) (λhc8=>?_)
  ·refine T0 (T4 (by omega) (by simp_all)) (λe_9 hv10=>?_)
   refine T0 (SR e_9 v2 (((h).2 e_9 hv10)) (h_v2)) (λx_11 hv12=>?_)
   refine T1 (λhc13=>?_) (λhc13=>?_)
   ·exact T2 (Qu trivial)
   exact T2 (QP ⟨(by simp_all),by subst D;exact QE (by simp_all) (h).1,trivial⟩)
  exact T2 (Qu trivial)
 rcases q6 with q6 | q6
 ·show Qj (Ku q6) _
  unfold Ku
  exact T3
 show Qj (Kv) _
 unfold Kv
 exact T3
def CM (D:(L_ Yz))(v2:Yz)(h:(Xc DS) D)(y:DS v2):Xk (Jg D v2):=by
 unfold Jg
 refine T0 (HB D v2 (h) (y)) (λx_1 hv2=>?_)
 exact T3
def SS (D:(L_ Yz))(v2:Int)(v3:Yz)(h:(Xc DS) D)(y:DS v3)(hp0:0<=v2)(hp1:v2<D.length):Xk (GW D v2 v3):=by
 unfold GW
 refine T0 (T5 (by simp_all;omega)) (λ_ _=>?_)
 refine T0 (CM ((D.drop 0).take (v2.toNat-0)) v3 (((h).drop _).take _) (y)) (λx_1 hv2=>?_)
 exact T3
def ST (y:Ql)(D:Yz)(h:Xm y)(h_v2:DS D):Xk (GX y D):=by
 unfold GX
 refine T0 (CK y.Colours D.Colour (h.1)) (λx_1 hv2=>?_)
 exact T3
def Qb4 (v1:Yz)(v2:Int)(v3:(L_ Yz))(v4:Int)(v5:Int)(v6:Ql)(v7:Int)(h:DS v1)(y:(Xc DS) v3)(D:Xm v6)(hp0:0<=v4)(hp1:v4<v3.length):Xk (Ci v1 v2 v3 v4 v5 v6 v7):=by
 unfold Ci
 refine T0 (SQ v1 (h)) (λx_1 hv2=>?_)
 refine T1 (λhc3=>?_) (λhc3=>?_)
 ·exact T3
 refine T0 (SS v3 v4 v1 (y) (h) (by omega) (by omega)) (λx_4 hv5=>?_)
 refine T1 (λhc6=>?_) (λhc6=>?_)
 ·exact T3
 refine T0 (ST v6 v1 (D) (h)) (λx_7 hv8=>?_)
 refine T1 (λhc9=>?_) (λhc9=>?_)
 ·exact T3
 exact T3
def Zn (k1:Int)(v2:Yz)(v3:(L_ Yz))(v4:Ql)(h:DS v2)(y:(Xc DS) v3)(D:Xm v4)(hp0:0<=k1)(hp1:k1<v3.length):Xk (UI k1 v2 v3 v4):=by
 unfold UI
 refine T0 (Qb4 v2 1 v3 k1 5 v4 3 (h) (y) (D) (by omega) (by omega)) (λx_1 hv2=>?_)
 exact T3
def VI (l1:(L_ Yz))(v2:(L_ Yz))(v3:Ql)(h:(Xc DS) l1)(h_v2:(Xc DS) v2)(h_v3:Xm v3)(hp0:l1.length<=v2.length):Xk (EM l1 v2 v3):=by
 unfold EM
 refine T0 (Qj.up (l1.length) (λst=>st) (λ_=>True) (Q:=λq=>True) rfl trivial (λi2 st D hn4 hj5=>?_)) (λq6 hq7=>?_)
 ·obtain⟨x_1,hst⟩:∃y,y=st:=⟨_,rfl⟩
  subst hst
  replace D:x_1=(i2:Int):=D
  show Qj (UQ l1 v2 v3 x_1) _
  unfold UQ
  refine T1 (λhc8=>?_) (λhc8=>?_)
  ·refine T0 (T4 (by omega) (by simp_all)) (λe_9 hv10=>?_)
   refine T0 (Zn x_1 e_9 v2 v3 (((h).2 e_9 hv10)) (h_v2) (h_v3) (by omega) (by simp_all;omega)) (λx_11 hv12=>?_)
   refine T1 (λhc13=>?_) (λhc13=>?_)
   ·exact T2 (Qu trivial)
   exact T2 (QP ⟨(by simp_all),by subst D;exact QE (by simp_all) (h).1,trivial⟩)
  exact T2 (Qu trivial)
 rcases q6 with q6 | q6
 ·show Qj (UR q6.1 q6.2) _
  unfold UR
  exact T3
 show Qj (US) _
 unfold US
 exact T3
def Qa8 (n1:Ql)(D:(L_ Yz))(y:Xm n1)(h:(Xc DS) D):Xk (Ba n1 D):=by
 unfold Ba
 refine T0 (VI D D n1 (h) (h) (y) (by omega)) (λx_1 hv2=>?_)
 exact T3
def Qd5 (D:Ql)(v2:QS)(h:Xm D)(y:YA v2):Xk (Ij D v2):=by
 unfold Ij
 refine T0 (Qa8 D v2.Vars (h) (y.2.1)) (λx_1 hv2=>?_)
 exact T3
def Qc7 (D:Ql)(v2:QS)(v3:Int)(h:Xm D)(y:YA v2):Xk (Ay D v2 v3):=by
 unfold Ay
 refine T0 (Qd5 D v2 (h) (y)) (λx_1 hv2=>?_)
 exact T3
def TL (n1:Ql)(k2:Int)(h:Xm n1):Xk (CH n1 k2):=by
 unfold CH
 refine T0 (HA n1.Tasks k2 (h.2.2.1)) (λx_1 hv2=>?_)
 refine T1 (λhc3=>?_) (λhc3=>?_)
 ·exact T3
 refine T0 (T4 (by simp_all) (by simp_all)) (λD hv5=>?_)
 refine T0 (Qj.up (D.Vars.length) (λst=>st.2) (λ_=>True) (Q:=λq=>True) rfl trivial (λi8 st hi9 hn10 hj11=>?_)) (λy hq13=>?_)
 ·obtain⟨out_6,x_7⟩:=st
  replace hi9:x_7=(i8:Int):=hi9
  show Qj (LW D n1 out_6 x_7) _
  unfold LW
  refine T1 (λhc14=>?_) (λhc14=>?_)
  ·refine T0 (T4 (by omega) (by simp_all)) (λe_15 hv16=>?_)
   refine T0 (GY n1.Colours e_15.Colour (h.1)) (λx_17 hv18=>?_)
   refine T1 (λhc19=>?_) (λhc19=>?_)
   ·exact T2 (Qu trivial)
   exact T2 (QP ⟨(by simp_all),by subst hi9;exact QE (by simp_all) (((h.2.2.1).2 D hv5).2.1).1,trivial⟩)
  exact T2 (Qu trivial)
 rcases y with y | y
 ·show Qj (LX) _
  unfold LX
  exact T3
 show Qj (LY y) _
 unfold LY
 exact T3
def Qd6 (y:Ql)(D:Int)(h:Xm y):Xk (Ik y D):=by
 unfold Ik
 refine T0 (TL y D (h)) (λx_1 hv2=>?_)
 exact T3
def Qg1 (h:Int):Qj (OK h) λr=>0<=r->(h=1\/h=2\/h=3\/h=4\/h=5\/h=6)/\(h=3\/h=4->r=1)/\(h=5->r=2)/\(h=6->r=3):=by
 unfold OK
 refine T1 (λy=>?_) (λy=>?_)
 ·unfold Bn;rw[y]
  simp only[beq_iff_eq]at y
  exact T2 (by omega)
 simp only[beq_eq_false_iff_ne]at y
 unfold Bn
 refine T1 (λy=>T2 (by simp only[beq_iff_eq]at y;omega)) (λhc2=>?_)
 simp only[beq_eq_false_iff_ne]at hc2
 refine T1 (λD=>?_) (λD=>?_)
 ·unfold Bm;rw[D]
  simp only[beq_iff_eq]at D
  exact T2 (by omega)
 simp only[beq_eq_false_iff_ne]at D
 unfold Bm
 refine T1 (λy=>T2 (by simp only[beq_iff_eq]at y;omega)) (λhc4=>?_)
 simp only[beq_eq_false_iff_ne]at hc4
 refine T1 (λy=>T2 (by simp only[beq_iff_eq]at y;omega)) (λhc5=>?_)
 simp only[beq_eq_false_iff_ne]at hc5
 exact T1 (λy=>T2 (by simp only[beq_iff_eq]at y;omega)) (λhc6=>T2 (by omega))
def Qge (DM:Int)  : Xk (MM DM):=by
 unfold MM
 exact T3
def On (D:Qv->Int->O_ Bool)(y:L_ Qv)(v2:Int)(h1:y.length<=maxLen)(h:∀k∈y,Qj (D k v2) λr=>r=true->Zk v2 k):Qj (YP D y v2) λr=>r=false->∀k∈y,Zk v2 k:=by
 unfold YP KG
 refine T0 (P:=λx=>x<0->∀k∈y,Zk v2 k) ?_ λx hx=>T2 λh=>hx (by simp only[Xo]at h;omega)
 refine T0 (Qj.up y.length (λst=>st) (λst=>∀(j:Nat) k,(j:Int)<st->y[j]? = some k->Zk v2 k) (Q:=λq=>(∀x,q=.inl x->0<=x)/\(q=.inr ()->∀k∈y,Zk v2 k)) rfl (λj k hj=>by omega) (λi st hi hn hj=>?_)) (λq hq=>?_)
 ·show Qj (Ka y D v2 st) _
  unfold Ka NX
  refine T1 (λhc=>?_) (λhc=>T2 (Qu ⟨λx h=>(by cases h),λ_ k hk=>by
   obtain⟨j,hj1,hj2⟩:=BX.1 hk
   simp only[Xo]at hc
   exact hj j k (by omega) (by rw[QR hj1,hj2])⟩))
  simp only[QM]at hc
  rw[Mj (by omega)]
  have hlt:st.toNat<y.length:=by omega
  rw[QR hlt]
  refine T0 (P:=λk=>k=y[st.toNat]) (T2 rfl) λk hk=>?_
  subst hk
  refine T0 (P:=λr=>r=false->Zk v2 y[st.toNat]) (T0 (h _ (XW hlt)) λx hx=>T2 λh=>hx (by simpa using h)) λx hx=>?_
  refine T1 (λ_=>T2 (Qu ⟨λx h=>(by cases h;omega),λh=>(by cases h)⟩)) λhxf=>T2 (QP ⟨by omega,by rw[hi];exact QE (by omega) h1,?_⟩)
  rw[hi,QE (show i<y.length by omega) h1]
  intro j k hj' hk
  by_cases c:j=i
  ·subst c
   have e:st.toNat=j:=by omega
   have:=hx hxf
   rw[QR (by omega)]at hk
   cases hk
   simpa only[e] using this
  exact hj j k (by omega) hk
 rcases q with q | q
 ·exact T2 λh=>absurd (hq.1 q rfl) (by omega)
 exact T2 λ_=>hq.2 rfl
def Sy : ∀(n:Nat) (e:Qv) (v:Int),Wq e->SizeOf.sizeOf e<=n->Qj (DW n e v) λr=>r=true->Zk v e
 | 0,e,_,_,h=>absurd e.pos (by omega)
 | n+1,e,v,he,h=>by
  unfold DW NY
  refine T0 (Qg1 e.Kind) λx hx=>?_
  refine T1 (λ_=>T2 λh=>by cases h) λh1=>T1 (λ_=>T2 λh=>by cases h) λh2=>?_
  refine T0 (P:=λ_=>True) ?_ λy _=>?_
  ·unfold Tq
   exact T1 (λ_=>T0 (Qge e.Num) λx _=>T3) λ_=>T3
  unfold Tr
  refine T1 (λ_=>T2 λh=>by cases h) λ_=>?_
  refine T0 (On (DW n) e.Kids v (GI he).1 λk D=>Sy n k v ((GI he).2 k D) (by have:=QbY D;omega)) λx hx2=>T2 λhx3=>?_
  simp only[JZ]at h1
  have h3:=hx (by omega)
  simp only[SV,KA,Xo,beq_eq_false_iff_ne]at h2
  exact .mk e h3.1 (λD=>by omega) (λD=>by have:=h3.2.1 D;omega) (λD=>by have:=h3.2.2.1 D;omega) (λD=>by have:=h3.2.2.2 D;omega) (hx2 (by simpa using hx3))
def Qgf (D:Qv)(h:Int)(y:Wq D):Qj (RW D h) λr=>r=true->Zk h D:=Sy _ D h y (YZ _)
def SA : ∀(n:Nat) (e:Qv),Wq e->SizeOf.sizeOf e<=n->Qj (DV n e) λ_=>True
 | 0,e,_,h=>absurd e.pos (by omega)
 | n+1,e,he,h=>by
  unfold DV NV
  refine T0 (Qj.up e.Kids.length (λst=>st.2) (λ_=>True) (Q:=λ_=>True) rfl trivial (λi st y hn _=>?_)) (λq _=>?_)
  ·obtain⟨a,x⟩:=st
   replace y:x=(i:Int):=y
   show Qj (ML e (DV n) a x) _
   unfold ML
   refine T1 (λD=>?_) (λD=>?_)
   ·simp only[QM]at D
    refine T0 (T4 (by omega) (by omega)) λk hk=>?_
    have:=QbY hk
    refine T0 (SA n k ((GI he).2 k hk) (by omega)) λd _=>?_
    exact T2 (QP ⟨by omega,by subst y;exact QE (by omega) (GI he).1,trivial⟩)
   exact T2 (Qu trivial)
  unfold Tp
  exact T3
def Qgg (y:Qv)(h:Wq y):Qj (RU y) λ_=>True:=SA _ y h (YZ _)
def TM : ∀(n:Nat) (e:Qv),Wq e->SizeOf.sizeOf e<=n->Qj (Ec n e) λ_=>True
 | 0,e,_,h=>absurd e.pos (by omega)
 | n+1,e,he,h=>by
  unfold Ec Po
  refine T0 (Qj.up e.Kids.length (λst=>st.2) (λ_=>True) (Q:=λ_=>True) rfl trivial (λi st y hn _=>?_)) (λq _=>?_)
  ·obtain⟨a,x⟩:=st
   replace y:x=(i:Int):=y
   show Qj (NW e (Ec n) a x) _
   unfold NW
   refine T1 (λD=>?_) (λD=>?_)
   ·simp only[QM]at D
    refine T0 (T4 (by omega) (by omega)) λk hk=>?_
    have:=QbY hk
    refine T0 (TM n k ((GI he).2 k hk) (by omega)) λd _=>?_
    exact T2 (QP ⟨by omega,by subst y;exact QE (by omega) (GI he).1,trivial⟩)
   exact T2 (Qu trivial)
  unfold VV
  exact T3
def Qg2 (y:Qv)(h:Wq y):Qj (Vo y) λ_=>True:=TM _ y h (YZ _)
def Oo (e1:Qv)(y:Int)(D:Wq e1):Qj (Bp e1 y) λr=>r=true->Zk y e1:=by
 unfold Bp
 refine T0 (P:=λr=>r=true->Zk y e1) ?_ (λx hx=>T2 hx)
 unfold Ts
 refine T0 (Qgg e1 D) (λx _=>?_)
 refine T1 (λ_=>?_) (λ_=>T2 λh=>by cases h)
 refine T0 (Qg2 e1 D) (λx _=>?_)
 refine T1 (λ_=>?_) (λ_=>T2 λh=>by cases h)
 exact T0 (Qgf e1 y D) (λx hx=>T2 hx)
def Qd7 (v1:QS)(v2:Int)(h:YA v1):Xk (Il v1 v2):=by
 unfold Il
 refine T0 (P:=λ_=>True) ?_ (λx_1 hv2=>?_)
 ·unfold PM
  refine T0 (Oo v1.Guard v2 (h.2.2.1)) (λx_3 hv4=>?_)
  refine T1 (λy=>?_) (λy=>?_)
  ·refine T1 (λD=>?_) (λD=>?_)
   ·exact T3
   exact T3
  exact T3
 unfold PN
 exact T3
def Qb5 (y:Ql)(D:Ye)(h:Xm y)(h_v2:CJ D):Xk (Cj y D):=by
 unfold Cj
 refine T0 (Ks y.Places D.Place (h.2.1)) (λx_1 hv2=>?_)
 exact T3
def Qb6 (y:Ye)(D:Int)(h:CJ y):Xk (Ck y D):=by
 unfold Ck
 refine T0 (Oo y.Expr D (h.2)) (λx_1 hv2=>?_)
 exact T3
def Qb7 (v1:Ql)(D:Ye)(v3:Int)(v4:Int)(v5:Int)(y:Xm v1)(h:CJ D):Xk (Cm v1 D v3 v4 v5):=by
 unfold Cm
 refine T0 (Qb5 v1 D (y) (h)) (λx_1 hv2=>?_)
 refine T1 (λhc3=>?_) (λhc3=>?_)
 ·exact T3
 refine T0 (Qb6 D v4 (h)) (λx_4 hv5=>?_)
 refine T1 (λhc6=>?_) (λhc6=>?_)
 ·exact T3
 exact T3
def Qd8 (p1:Int)(D:Ye)(v3:Ql)(v4:Int)(h:CJ D)(y:Xm v3):Xk (Im p1 D v3 v4):=by
 unfold Im
 refine T0 (Qb7 v3 D 3 v4 1 (y) (h)) (λx_1 hv2=>?_)
 exact T3
def VJ (l1:(L_ Ye))(v2:Ql)(v3:Int)(h:(Xc CJ) l1)(h_v2:Xm v2):Xk (EN l1 v2 v3):=by
 unfold EN
 refine T0 (Qj.up (l1.length) (λst=>st) (λ_=>True) (Q:=λq=>True) rfl trivial (λi2 st D hn4 hj5=>?_)) (λq6 hq7=>?_)
 ·obtain⟨x_1,hst⟩:∃y,y=st:=⟨_,rfl⟩
  subst hst
  replace D:x_1=(i2:Int):=D
  show Qj (UT l1 v2 v3 x_1) _
  unfold UT
  refine T1 (λhc8=>?_) (λhc8=>?_)
  ·refine T0 (T4 (by omega) (by simp_all)) (λe_9 hv10=>?_)
   refine T0 (Qd8 x_1 e_9 v2 v3 (((h).2 e_9 hv10)) (h_v2)) (λx_11 hv12=>?_)
   refine T1 (λhc13=>?_) (λhc13=>?_)
   ·exact T2 (Qu trivial)
   exact T2 (QP ⟨(by simp_all),by subst D;exact QE (by simp_all) (h).1,trivial⟩)
  exact T2 (Qu trivial)
 rcases q6 with q6 | q6
 ·show Qj (UU q6.1 q6.2) _
  unfold UU
  exact T3
 show Qj (UV) _
 unfold UV
 exact T3
def Zo (n1:Ql)(l2:(L_ Ye))(h:Int)(D:Xm n1)(y:(Xc CJ) l2):Xk (Hu n1 l2 h):=by
 unfold Hu
 refine T0 (VJ l2 n1 h (y) (D)) (λx_1 hv2=>?_)
 exact T3
def Qd9 (D:Ql)(v2:QS)(v3:Int)(h:Xm D)(y:YA v2):Xk (Io D v2 v3):=by
 unfold Io
 refine T0 (Zo D v2.Ins v3 (h) (y.2.2.2.2.2.1)) (λx_1 hv2=>?_)
 exact T3
def Qas (D:Ql)(v2:QS)(v3:Int)(v4:Int)(h:Xm D)(y:YA v2):Xk (GE D v2 v3 v4):=by
 unfold GE
 refine T0 (Qd9 D v2 v3 (h) (y)) (λx_1 hv2=>?_)
 exact T3
def Qea (D:Ql)(v2:QS)(v3:Int)(h:Xm D)(y:YA v2):Xk (Ip D v2 v3):=by
 unfold Ip
 refine T0 (Zo D v2.Outs v3 (h) (y.2.2.2.2.2.2.1)) (λx_1 hv2=>?_)
 exact T3
def Qat (D:Ql)(v2:QS)(v3:Int)(v4:Int)(h:Xm D)(y:YA v2):Xk (GF D v2 v3 v4):=by
 unfold GF
 refine T0 (Qea D v2 v3 (h) (y)) (λx_1 hv2=>?_)
 exact T3
def Zp (y:Ql)(D:Int)(h:Xm y):Xk (UJ y D):=by
 unfold UJ
 refine T0 (Ks y.Places D (h.2.1)) (λx_1 hv2=>?_)
 exact T3
def SB (s1:LI_)(v2:Int)(D:(Xc (λ_=>True)) s1):Xk (Gm s1 v2):=by
 unfold Gm
 refine T0 (Qj.up (s1.length) (λst=>st) (λ_=>True) (Q:=λq=>True) rfl trivial (λi2 st h hn4 hj5=>?_)) (λq6 hq7=>?_)
 ·obtain⟨x_1,hst⟩:∃y,y=st:=⟨_,rfl⟩
  subst hst
  replace h:x_1=(i2:Int):=h
  show Qj (EA s1 v2 x_1) _
  unfold EA
  refine T1 (λhc8=>?_) (λhc8=>?_)
  ·refine T0 (T4 (by omega) (by simp_all)) (λe_9 hv10=>?_)
   refine T1 (λhc11=>?_) (λhc11=>?_)
   ·exact T2 (Qu trivial)
   exact T2 (QP ⟨(by simp_all),by subst h;exact QE (by simp_all) (D).1,trivial⟩)
  exact T2 (Qu trivial)
 rcases q6 with q6 | q6
 ·show Qj (EB q6) _
  unfold EB
  exact T3
 show Qj (EC) _
 unfold EC
 exact T3
def BV (y:LI_)(D:Int)(h:(Xc (λ_=>True)) y):Xk (Js y D):=by
 unfold Js
 refine T0 (SB y D (h)) (λx_1 hv2=>?_)
 exact T3
def Zq (y:LI_)(D:Int)(v3:Int)(h:(Xc (λ_=>True)) y)(hp0:0<=D)(hp1:D<y.length):Xk (UK y D v3):=by
 unfold UK
 refine T0 (T5 (by simp_all;omega)) (λ_ _=>?_)
 refine T0 (BV ((y.drop 0).take (D.toNat-0)) v3 (((h).drop _).take _)) (λx_1 hv2=>?_)
 exact T3
def Qb8 (v1:Ql)(v2:Int)(v3:Int)(v4:LI_)(v5:Int)(v6:Int)(h:Xm v1)(y:(Xc (λ_=>True)) v4)(hp0:0<=v5)(hp1:v5<v4.length):Xk (Cn v1 v2 v3 v4 v5 v6):=by
 unfold Cn
 refine T0 (Zp v1 v2 (h)) (λx_1 hv2=>?_)
 refine T1 (λD=>?_) (λD=>?_)
 ·exact T3
 refine T0 (Zq v4 v5 v2 (y) (by omega) (by omega)) (λx_4 hv5=>?_)
 refine T1 (λhc6=>?_) (λhc6=>?_)
 ·exact T3
 exact T3
def Qa9 (k1:Int)(h:Int)(v3:Ql)(v4:LI_)(y:Xm v3)(D:(Xc (λ_=>True)) v4)(hp0:0<=k1)(hp1:k1<v4.length):Xk (Bb k1 h v3 v4):=by
 unfold Bb
 refine T0 (Qb8 v3 h 3 v4 k1 5 (y) (D) (by omega) (by omega)) (λx_1 hv2=>?_)
 exact T3
def Qb9 (l1:LI_)(v2:Ql)(v3:LI_)(h_l1:(Xc (λ_=>True)) l1)(h_v2:Xm v2)(h_v3:(Xc (λ_=>True)) v3)(hp0:l1.length<=v3.length):Xk (Co l1 v2 v3):=by
 unfold Co
 refine T0 (Qj.up (l1.length) (λst=>st) (λ_=>True) (Q:=λq=>True) rfl trivial (λi2 st h hn4 hj5=>?_)) (λq6 hq7=>?_)
 ·obtain⟨D,hst⟩:∃y,y=st:=⟨_,rfl⟩
  subst hst
  replace h:D=(i2:Int):=h
  show Qj (Fi l1 v2 v3 D) _
  unfold Fi
  refine T1 (λhc8=>?_) (λhc8=>?_)
  ·refine T0 (T4 (by omega) (by simp_all)) (λe_9 hv10=>?_)
   refine T0 (Qa9 D e_9 v2 v3 (h_v2) (h_v3) (by omega) (by simp_all;omega)) (λx_11 hv12=>?_)
   refine T1 (λhc13=>?_) (λhc13=>?_)
   ·exact T2 (Qu trivial)
   exact T2 (QP ⟨(by simp_all),by subst h;exact QE (by simp_all) (h_l1).1,trivial⟩)
  exact T2 (Qu trivial)
 rcases q6 with q6 | q6
 ·show Qj (Fj q6.1 q6.2) _
  unfold Fj
  exact T3
 show Qj (Fk) _
 unfold Fk
 exact T3
def Qc8 (n1:Ql)(D:LI_)(y:Xm n1)(h:(Xc (λ_=>True)) D):Xk (FJ n1 D):=by
 unfold FJ
 refine T0 (Qb9 D n1 D (h) (y) (h) (by omega)) (λx_1 hv2=>?_)
 exact T3
def Qc9 (D:Ql)(v2:QS)(h:Xm D)(y:YA v2):Xk (FK D v2):=by
 unfold FK
 refine T0 (Qc8 D v2.Cancel (h) (y.2.2.2.2.2.2.2.1)) (λx_1 hv2=>?_)
 exact T3
def Qau (D:Ql)(v2:QS)(v3:Int)(h:Xm D)(y:YA v2):Xk (GG D v2 v3):=by
 unfold GG
 refine T0 (Qc9 D v2 (h) (y)) (λx_1 hv2=>?_)
 exact T3
def PQ (D:Int)(y:(L_ Ye))(h:(Xc CJ) y):Xk (Az D y):=by
 unfold Az
 exact T3
def Qfr (y:QS)(h:YA y):Xk (WB y):=by
 unfold WB
 refine T0 (P:=λ_=>True) ?_ (λx_1 hv2=>?_)
 ·unfold LZ
  refine T0 (PQ y.Join y.Ins (h.2.2.2.2.2.1)) (λx_3 hv4=>?_)
  refine T1 (λhc5=>?_) (λhc5=>?_)
  ·refine T0 (PQ y.Split y.Outs (h.2.2.2.2.2.2.1)) (λx_6 hv7=>?_)
   refine T1 (λhc8=>?_) (λhc8=>?_)
   ·refine T1 (λhc9=>?_) (λhc9=>?_)
    ·refine T1 (λD=>?_) (λD=>?_)
     ·exact T3
     exact T3
    exact T3
   exact T3
  exact T3
 unfold Ma
 exact T3
def Qda (y:QS)(h:YA y):Xk (AA y):=by
 unfold AA
 refine T0 (Qfr y (h)) (λx_1 D=>?_)
 exact T3
def Qca (D:QS)(v2:Int)(v3:Ql)(v4:Int)(v5:Int)(v6:Int)(v7:Int)(v8:Int)(v9:Int)(v10:Int)(v11:Int)(v12:Int)(v13:Int)(v14:Int)(v15:Int)(h:YA D)(y:Xm v3)(hp0:0<=v4)(hp1:v4<v3.Tasks.length):Xk (Gb D v2 v3 v4 v5 v6 v7 v8 v9 v10 v11 v12 v13 v14 v15):=by
 unfold Gb
 refine T0 (Qd1 D (h)) (λx_1 hv2=>?_)
 refine T1 (λhc3=>?_) (λhc3=>?_)
 ·exact T3
 refine T0 (Qd3 v3 v4 D (y) (h) (by omega) (by omega)) (λx_4 hv5=>?_)
 refine T1 (λhc6=>?_) (λhc6=>?_)
 ·exact T3
 refine T0 (Qd4 v6 D (h)) (λx_7 hv8=>?_)
 refine T1 (λhc9=>?_) (λhc9=>?_)
 ·exact T3
 refine T0 (Qc7 v3 D v8 (y) (h)) (λx_10 hv11=>?_)
 refine T1 (λhc12=>?_) (λhc12=>?_)
 ·exact T3
 refine T0 (Qd6 v3 v4 (y)) (λx_13 hv14=>?_)
 refine T1 (λhc15=>?_) (λhc15=>?_)
 ·exact T3
 refine T0 (Qd7 D v6 (h)) (λx_16 hv17=>?_)
 refine T1 (λhc18=>?_) (λhc18=>?_)
 ·exact T3
 refine T0 (Qas v3 D v6 x_10.2 (y) (h)) (λx_19 hv20=>?_)
 refine T1 (λhc21=>?_) (λhc21=>?_)
 ·exact T3
 refine T0 (Qat v3 D v6 x_19.2 (y) (h)) (λx_22 hv23=>?_)
 refine T1 (λhc24=>?_) (λhc24=>?_)
 ·exact T3
 refine T0 (Qau v3 D x_22.2 (y) (h)) (λx_25 hv26=>?_)
 refine T1 (λhc27=>?_) (λhc27=>?_)
 ·exact T3
 refine T0 (Qda D (h)) (λx_28 hv29=>?_)
 refine T1 (λhc30=>?_) (λhc30=>?_)
 ·exact T3
 exact T3
def Zr (n1:Ql)(k2:Int)(h:Xm n1):Xk (Kg n1 k2):=by
 unfold Kg
 refine T0 (HA n1.Tasks k2 (h.2.2.1)) (λx_1 hv2=>?_)
 refine T1 (λhc3=>?_) (λhc3=>?_)
 ·exact T3
 refine T0 (PP n1 (h)) (λx_4 hv5=>?_)
 refine T1 (λhc6=>?_) (λhc6=>?_)
 ·exact T3
 refine T0 (T4 (by simp_all) (by simp_all)) (λy D=>?_)
 refine T0 (T4 (by simp_all) (by simp_all)) (λe_9 hv10=>?_)
 refine T0 (Qfq 0 n1 y (h) (((h.2.2.1).2 y D))) (λx_11 hv12=>?_)
 refine T0 (Qb1 0 n1 y (e_9.Vars.length:Int) (h) (((h.2.2.1).2 y D))) (λx_13 hv14=>?_)
 refine T0 (Qb2 0 n1 y (e_9.Vars.length:Int) (h) (((h.2.2.1).2 y D))) (λx_15 hv16=>?_)
 refine T0 (Qb3 0 n1 y (h) (((h.2.2.1).2 y D))) (λx_17 hv18=>?_)
 refine T0 (Qca y 1 n1 k2 5 (e_9.Vars.length:Int) 2 0 (-1) 2 1 (-1) (-1) (-1) 11 (((h.2.2.1).2 y D)) (h) (by simp_all) (by simp_all)) (λx_19 hv20=>?_)
 refine T1 (λhc21=>?_) (λhc21=>?_)
 ·exact T3
 exact T3
def Qfs (D:Int)(p2:QS)(v3:Ql)(y:YA p2)(h:Xm v3):Xk (CI D p2 v3):=by
 unfold CI
 refine T0 (Zr v3 D (h)) (λx_1 hv2=>?_)
 exact T3
def SU (l1:(L_ QS))(v2:Ql)(h:(Xc YA) l1)(h_v2:Xm v2):Xk (Kz l1 v2):=by
 unfold Kz
 refine T0 (Qj.up (l1.length) (λst=>st) (λ_=>True) (Q:=λq=>True) rfl trivial (λi2 st D hn4 hj5=>?_)) (λq6 hq7=>?_)
 ·obtain⟨x_1,hst⟩:∃y,y=st:=⟨_,rfl⟩
  subst hst
  replace D:x_1=(i2:Int):=D
  show Qj (KN l1 v2 x_1) _
  unfold KN
  refine T1 (λhc8=>?_) (λhc8=>?_)
  ·refine T0 (T4 (by omega) (by simp_all)) (λe_9 hv10=>?_)
   refine T0 (Qfs x_1 e_9 v2 (((h).2 e_9 hv10)) (h_v2)) (λx_11 hv12=>?_)
   refine T1 (λhc13=>?_) (λhc13=>?_)
   ·exact T2 (Qu trivial)
   exact T2 (QP ⟨(by simp_all),by subst D;exact QE (by simp_all) (h).1,trivial⟩)
  exact T2 (Qu trivial)
 rcases q6 with q6 | q6
 ·show Qj (Ux q6.1 q6.2) _
  unfold Ux
  exact T3
 show Qj (Uy) _
 unfold Uy
 exact T3
def Qg3 (n1:Ql)(h:Xm n1):Xk (EV n1):=by
 unfold EV
 refine T0 (Qfj n1 2 3 1 (h)) (λx_1 hv2=>?_)
 refine T1 (λD=>?_) (λD=>?_)
 ·exact T3
 refine T0 (PP n1 (h)) (λx_4 hv5=>?_)
 refine T1 (λhc6=>?_) (λhc6=>?_)
 ·exact T3
 refine T0 (Sx n1.Places n1 (h.2.1) (h)) (λx_7 hv8=>?_)
 refine T1 (λhc9=>?_) (λhc9=>?_)
 ·exact T3
 refine T0 (SU n1.Tasks n1 (h.2.2.1) (h)) (λx_10 hv11=>?_)
 refine T1 (λy=>?_) (λy=>?_)
 ·exact T3
 exact T3
def QhT (y:Int)(D:Int)  : Xk (Ra y D):=by
 unfold Ra
 refine T1 (λh=>?_) (λh=>?_)
 ·exact T3
 exact T3
def Qba (y:Int)(D:Int)  : Xk (AT y D):=by
 unfold AT
 refine T1 (λh=>?_) (λh=>?_)
 ·exact T3
 exact T3
def QaM (y:Int)  : Xk (IU y):=by
 unfold IU
 refine T1 (λh=>?_) (λh=>?_)
 ·exact T3
 exact T3
def Qbb (h:Int)(y:Int)  : Xk (AU h y):=by
 unfold AU
 exact T3
def Qeb (a1:Int)(b2:Int)  : Xk (HU a1 b2):=by
 unfold HU
 refine T0 (QaM a1 ) (λx_1 hv2=>?_)
 refine T0 (QaM b2 ) (λx_3 hv4=>?_)
 refine T0 (Qbb x_1 x_3 ) (λx_5 hv6=>?_)
 refine T1 (λh=>?_) (λh=>?_)
 ·unfold El
  refine T1 (λy=>?_) (λy=>?_)
  ·exact T3
  exact T3
 unfold El
 refine T1 (λD=>?_) (λD=>?_)
 ·exact T3
 exact T3
def PR (D:Int)(b2:Int)  : Xk (An D b2):=by
 unfold An
 refine T1 (λh=>?_) (λh=>?_)
 ·exact T3
 refine T1 (λy=>?_) (λy=>?_)
 ·exact T3
 refine T0 (T5 (by simp_all)) (λ_ _=>?_)
 refine T0 (T5 (by simp_all)) (λ_ _=>?_)
 exact T3
def GJ (y:Bool)  : Xk (Dk y):=by
 unfold Dk
 refine T1 (λh=>?_) (λh=>?_)
 ·exact T3
 exact T3
def Lj (DM:Int)(y:Int)(h:Int)  : Xk (Hh DM y h):=by
 unfold Hh
 refine T1 (λhc1=>?_) (λhc1=>?_)
 ·refine T0 (QhT y h ) (λx_2 hv3=>?_)
  exact T3
 refine T1 (λhc4=>?_) (λhc4=>?_)
 ·refine T0 (Qba y h ) (λx_5 hv6=>?_)
  exact T3
 refine T1 (λhc7=>?_) (λhc7=>?_)
 ·refine T0 (Qeb y h ) (λx_8 hv9=>?_)
  exact T3
 refine T1 (λD=>?_) (λD=>?_)
 ·refine T0 (PR y h ) (λx_11 hv12=>?_)
  exact T3
 refine T1 (λhc13=>?_) (λhc13=>?_)
 ·refine T0 (PR y h ) (λx_14 hv15=>?_)
  exact T3
 refine T1 (λhc16=>?_) (λhc16=>?_)
 ·refine T0 (GJ (y==h) ) (λx_17 hv18=>?_)
  exact T3
 refine T1 (λhc19=>?_) (λhc19=>?_)
 ·refine T0 (GJ (y != h) ) (λx_20 hv21=>?_)
  exact T3
 refine T1 (λhc22=>?_) (λhc22=>?_)
 ·refine T0 (GJ (decide (y<h)) ) (λx_23 hv24=>?_)
  exact T3
 refine T1 (λhc25=>?_) (λhc25=>?_)
 ·refine T0 (GJ (decide (y<=h)) ) (λx_26 hv27=>?_)
  exact T3
 refine T1 (λhc28=>?_) (λhc28=>?_)
 ·refine T0 (P:=λ_=>True) ?_ (λv_29 hv30=>?_)
  ·unfold QbC
   refine T1 (λhc31=>?_) (λhc31=>?_)
   ·refine T0 (GJ (h != 0) ) (λx_32 hv33=>?_)
    exact T3
   refine T0 (GJ false ) (λx_34 hv35=>?_)
   exact T3
  unfold QbD
  exact T3
 refine T1 (λhc36=>?_) (λhc36=>?_)
 ·refine T0 (P:=λ_=>True) ?_ (λv_37 hv38=>?_)
  ·unfold QbE
   refine T1 (λhc39=>?_) (λhc39=>?_)
   ·refine T0 (GJ true ) (λx_40 hv41=>?_)
    exact T3
   refine T0 (GJ (h != 0) ) (λx_42 hv43=>?_)
   exact T3
  unfold QbF
  exact T3
 exact T3
def Qcb (h:Int)  : Xk (Rb h):=by
 unfold Rb
 refine T0 (Lj 2 0 h ) (λD y=>?_)
 exact T3
def Nz (b:QBg)(h:b.length<=maxLen):Db b=some (BM (-1) b):=by
 unfold Db
 have y:=TK (body:=λst=>WM b st.1 st.2) (l:=b) (ρ:=Unit⊕Unit) (λi (t:Int)=>(t,(i:Int)))
  (λi t x=>bif ((decide (x.1<=t))||((decide (x.2<1))||(decide (1048576<x.2))))then .inr (.inl ())else .inl x.1) (λ_=>.inr ())
  (λi t x D hx=>by
   show WM b t i=_
   unfold WM
   rw[QN (by omega:(i:Int)<b.length),XK,XH,hx,Qc]
   cases ((decide (x.1<=t))||((decide (x.2<1))||(decide (1048576<x.2))))with
   | true=>rfl
   | false=>simp only[QJ,Sum.elim_inl];rw[QE D h])
  (λt=>by
   show WM b t b.length=_
   unfold WM
   rw[QZ (by omega)];rfl) (-1) (s0:=(-1,0)) rfl
 rw[y]
 have:∀(l:QBg) (k:Nat) (t:Int),Iq (λi t (x:Int×Int)=>(bif ((decide (x.1<=t))||((decide (x.2<1))||(decide (1048576<x.2))))then .inr (.inl ())else .inl x.1:Int⊕(Unit⊕Unit))) (λ_=>.inr ()) k t l=bif BM t l then .inr ()else .inl ():=by
  intro l
  induction l with
  | nil=>intro k t;rfl
  | cons x l ih=>
   intro k t
   rw[Iq,BM]
   cases ((decide (x.1<=t))||((decide (x.2<1))||(decide (1048576<x.2))))with
   | true=>rfl
   | false=>simp only[QJ,Sum.elim_inl,Bool.not_false,Bool.true_and];exact ih _ _
 rw[this]
 cases BM (-1) b<;>rfl
def TN (b:QBg)(h:b.length<=maxLen):LK b=some (bif BM (-1) b then .inr b else .inl ()):=by
 unfold LK
 rw[Nz b h,Qc]
 cases hr:BM (-1) b with
 | false=>rfl
 | true=>
  simp only[Fo,QJ,XK]
  have ha:=(GH.1 hr).1
  obtain⟨r,h1,h2⟩:=Qcu (body:=λst=>AF b st.1 st.2) b.length (λi s=>s=((i:Int),b.take i)) (λr=>r=b)
   (λi s y D=>by
    subst D
    refine .inl ⟨(((i+1:Nat):Int),b.take (i+1)),?_,rfl⟩
    show AF b i (b.take i)=_
    unfold AF
    rw[QN (by omega:(i:Int)<b.length),XK,XH,QR y,Qc,QE y h]
    have e:b.take (i+1)=b.take i++[b[i]]:=by rw[AQ,QR y];rfl
    rw[e,<-Qlb (by have:=(ha.sublist (List.take_sublist (i+1) b));rw[e]at this;exact this)])
   (λs D=>by
    subst D
    refine⟨_,?_,rfl⟩
    show AF b b.length (b.take b.length)=_
    unfold AF
    rw[QZ (by omega),Ln];rfl) (0,[]) rfl
  rw[h1,h2];rfl
def VK (a b:QBg)(y:a.length<=maxLen)(h:b.length<=maxLen):HQ a b=some (bif BM (-1) a then(bif BM (-1) b then .inr (.inr (.inr (a,b)))else .inr (.inr (.inl a)))else(bif BM (-1) b then .inr (.inl b)else .inl ())):=by
 unfold HQ
 rw[TN a y]
 cases BM (-1) a with
 | true=>
  simp only[XK,Qc,Sum.elim_inr]
  unfold Pm
  rw[TN b h]
  cases BM (-1) b<;>rfl
 | false=>
  simp only[QJ,Qc,Sum.elim_inl]
  unfold Pk
  rw[TN b h]
  cases BM (-1) b<;>rfl
def LF (m:QBg)(ha:FO m)(h':m.length<=8796093022208):DT m=some (Hy m):=by
 have h:m.length<=maxLen:=by unfold maxLen;omega
 unfold DT Dj Fb
 simp only[QN (show m.length<=17592186044416 by omega),Qaq rfl,Qc,Qkb ha]
 obtain⟨r,h1,h2⟩:=Qcu (body:=λst=>Wm (m.map Prod.fst) m st.1 st.2) m.length (λi s=>s=((i:Int),Hy (m.take i))) (λr=>r=Hy m)
  (λi s y D=>by
   subst D
   refine .inl ⟨(((i+1:Nat):Int),Hy (m.take (i+1))),?_,rfl⟩
   show Wm (m.map Prod.fst) m i (Hy (m.take i))=_
   unfold Wm
   have e:m.take (i+1)=m.take i++[m[i]]:=by rw[AQ,QR y];rfl
   have ec:(Xb m m[i].1).getD 0=m[i].2:=Iu ha.nd (XW y)
   rw[QN (by simp;omega),XK,XH,Yb,QR y,DJ,Qc,ec]
   have hl:(Hy (m.take i)).length<=i:=Kj (Zy _ _) (by simp;omega)
   cases hc:decide (0<m[i].2)with
   | true=>
    simp only[XK]
    rw[FN (by simp;omega),Qc]
    unfold DO
    rw[QE y h,e]
    unfold Hy
    rw[SY,Ah,if_pos hc];rfl
   | false=>
    simp only[QJ]
    unfold DO
    rw[QE y h,e]
    unfold Hy
    rw[SY,Ah,if_neg (by rw[hc];decide),List.filter_nil,Lm])
  (λs D=>by
   subst D
   refine⟨_,?_,rfl⟩
   show Wm (m.map Prod.fst) m m.length (Hy (m.take m.length))=_
   unfold Wm
   rw[QZ (by simp),Ln];rfl) (0,[]) rfl
 rw[h1,h2];rfl
def QhU (m:QBg):(Hy m).length<=m.length:=Zy _ _
def BO (a b:QBg)(h:a.length+b.length<=8796093022208):(¬(Rt a/\Rt b)/\Ji a b=some ([],1))\/(Rt a/\Rt b/\(∃k,1048576<QV a k+QV b k)/\Ji a b=some ([],2))\/
  (Rt a/\Rt b/\∃r,Ji a b=some (r,0)/\Rt r/\(∀k,QV r k=QV a k+QV b k)/\r.length<=a.length+b.length):=by
 unfold Ji
 rw[VK a b (by unfold maxLen;omega) (by unfold maxLen;omega),Qc]
 cases ra:BM (-1) a with
 | false=>exact .inl ⟨λhh=>(by rw[GH.2 hh.1]at ra;cases ra),by cases BM (-1) b<;>rfl⟩
 | true=>
  cases rb:BM (-1) b with
  | false=>exact .inl ⟨λhh=>(by rw[GH.2 hh.2]at rb;cases rb),rfl⟩
  | true=>
   have D:=GH.1 ra
   have y:=GH.1 rb
   simp only[XK,Sum.elim_inr]
   unfold RM
   have hw:∀p∈b,QV a p.1+p.2=QV a p.1+QV b p.1:=λp hp=>by rw[Iu y.1.nd hp]
   rcases Qff (g:=λx v=>Qq (x+v)) (stop:=λx=>decide (1048576<x)) (q:=some ()) (body:=λst p=>Bj st p.1 p.2) (λs p=>by
     show Bj s p.1 p.2=_
     unfold Bj
     rw[AB,if_pos rfl]
     unfold QV
     simp only[OR]
     cases decide (1048576<Qq ((Xb s p.1).getD 0+p.2))<;>rfl) D.1 y.1.nd with⟨⟨p,h1,h2⟩,h3⟩|⟨h1,s',h3,h4,h5,h6⟩
   ·refine .inr (.inl ⟨D,y,⟨p.1,?_⟩,?_⟩)
    ·have:=D.cnt p.1
     have:=y.cnt p.1
     have h2:=XC h2
     rw[Iu y.1.nd h1]
     rw[Iu y.1.nd h1]at this
     rwa[Yg (by omega)]at h2
    simp only[h3 () rfl];rfl
   have hk:∀k,QV s' k=QV a k+QV b k/\QV s' k<=1048576:=λk=>by
    have ca:=D.cnt k
    have cb:=y.cnt k
    have e:=h6 k
    unfold Qcv at e
    cases hm:Xb b k with
    | none=>
     rw[hm]at e
     simp only at e
     have:QV b k=0:=by unfold QV;rw[hm];rfl
     have e2:QV s' k=QV a k:=by unfold QV;rw[e]
     omega
    | some v=>
     rw[hm]at e
     simp only at e
     have e1:QV b k=v:=by unfold QV;rw[hm];rfl
     have e2:QV s' k=Qq (QV a k+v):=by unfold QV;rw[e];rfl
     have h7:=h1 (k,v) ((Wk y.1.nd).1 hm)
     simp only[Xo]at h7
     rw[Yg (by omega)]at e2 h7
     omega
   refine .inr (.inr ⟨D,y,Hy s',?_,Qka h4 (λk hk0=>⟨?_,(hk k).2⟩),λk=>?_,Kj (QhU s') h5⟩)
   ·simp only[h3,Qc,Sum.elim_inl]
    unfold MF
    rw[LF s' h4 (by omega)];rfl
   ·have:=(hk k).1
    have ca:=D.cnt k
    have cb:=y.cnt k
    by_cases c:0<QV a k
    ·exact D.cnt_pos c
    exact y.cnt_pos (by omega)
   rw[QhS h4,(hk k).1]
   have ca:=D.cnt k
   have cb:=y.cnt k
   split<;>omega
def SC (m h:QBg):DP m h=some (!(m.any λp=>decide (QV h p.1<p.2))):=by
 unfold DP
 rw[Qjp (bad:=λp=>decide (QV h p.1<p.2)) (q:=()) (λp=>by
  show Wu h p.1 p.2=_
  unfold Wu QV
  cases decide ((Xb h p.1).getD 0<p.2)<;>rfl)]
 cases m.any λp=>decide (QV h p.1<p.2)<;>rfl
def Qft {a b:QBg}(y:Rt a)(hb:Rt b):(a.any λp=>decide (QV b p.1<p.2))=false↔∀k,QV a k<=QV b k:=by
 rw[<-PS,Oy]
 simp only[QM,not_exists,not_and]
 constructor
 ·intro h k
  have cb:=hb.cnt k
  cases e:Xb a k with
  | none=>
   have:QV a k=0:=by unfold QV;rw[e];rfl
   omega
  | some v=>
   have D:=h _ ((Wk y.1.nd).1 e)
   have:QV a k=v:=by unfold QV;rw[e];rfl
   simp only at D
   omega
 intro h p hp hlt
 have:=h p.1
 rw[Iu y.1.nd hp]at this
 omega
def TO (a b:QBg)(ha:a.length<=maxLen)(hb:b.length<=maxLen):∃r,MV a b=some r/\(r=true↔Rt a/\Rt b/\∀k,QV a k<=QV b k):=by
 unfold MV
 rw[VK a b ha hb,Qc]
 cases ra:BM (-1) a with
 | false=>exact⟨false,by cases BM (-1) b<;>rfl,by simp;intro hh;rw[GH.2 hh]at ra;cases ra⟩
 | true=>
  cases rb:BM (-1) b with
  | false=>exact⟨false,rfl,by simp;intro _ hh;rw[GH.2 hh]at rb;cases rb⟩
  | true=>
   have y:=GH.1 ra
   have D:=GH.1 rb
   refine⟨!(a.any λp=>decide (QV b p.1<p.2)),?_,?_⟩
   ·simp only[XK,Sum.elim_inr]
    unfold MU
    rw[SC];rfl
   rw[Wy,Qft y D]
   exact⟨λh=>⟨y,D,h⟩,λh=>h.2.2⟩
def LG (a b:QBg)(h:a.length+b.length<=8796093022208):(¬(Rt a/\Rt b)/\JD a b=some ([],1))\/(Rt a/\Rt b/\(∃k,QV a k<QV b k)/\JD a b=some ([],10))\/
  (Rt a/\Rt b/\(∀k,QV b k<=QV a k)/\∃r,JD a b=some (r,0)/\Rt r/\(∀k,QV r k=QV a k-QV b k)/\r.length<=a.length+b.length):=by
 unfold JD
 rw[VK a b (by unfold maxLen;omega) (by unfold maxLen;omega),Qc]
 cases ra:BM (-1) a with
 | false=>exact .inl ⟨λhh=>(by rw[GH.2 hh.1]at ra;cases ra),by cases BM (-1) b<;>rfl⟩
 | true=>
  cases rb:BM (-1) b with
  | false=>exact .inl ⟨λhh=>(by rw[GH.2 hh.2]at rb;cases rb),rfl⟩
  | true=>
   have y:=GH.1 ra
   have D:=GH.1 rb
   simp only[XK,Sum.elim_inr]
   unfold Pq
   rw[SC,Qc]
   cases hw:b.any λp=>decide (QV a p.1<p.2)with
   | true=>
    refine .inr (.inl ⟨y,D,?_,rfl⟩)
    obtain⟨p,h1,h2⟩:=Oy.1 hw
    exact⟨p.1,by rw[Iu D.1.nd h1];exact XC h2⟩
   | false=>
    have hle:=(Qft D y).1 hw
    simp only[Bool.not_false,Fo,QJ]
    rcases Qff (g:=λx v=>Qq (x-v)) (stop:=λ_=>false) (q:=none) (body:=λst p=>Ag st p.1 p.2) (λs p=>by
      show Ag s p.1 p.2=_
      unfold Ag QV
      rfl) y.1 D.1.nd with⟨⟨p,h1,h2⟩,h3⟩|⟨h1,s',h3,h4,h5,h6⟩
    ·cases h2
    have hk:∀k,QV s' k=QV a k-QV b k:=λk=>by
     have ca:=y.cnt k
     have cb:=D.cnt k
     have e:=h6 k
     unfold Qcv at e
     cases hm:Xb b k with
     | none=>
      rw[hm]at e
      simp only at e
      have:QV b k=0:=by unfold QV;rw[hm];rfl
      have e2:QV s' k=QV a k:=by unfold QV;rw[e]
      omega
     | some v=>
      rw[hm]at e
      simp only at e
      have e1:QV b k=v:=by unfold QV;rw[hm];rfl
      have e2:QV s' k=Qq (QV a k-v):=by unfold QV;rw[e];rfl
      rw[Yg (by omega)]at e2
      omega
    refine .inr (.inr ⟨y,D,hle,Hy s',?_,Qka h4 (λk hk0=>?_),λk=>?_,Kj (QhU s') h5⟩)
    ·simp only[h3,Qc,Sum.elim_inl]
     unfold Lu
     rw[LF s' h4 (by omega)];rfl
    ·have:=hk k
     have ca:=y.cnt k
     have cb:=D.cnt k
     exact⟨y.cnt_pos (by omega),by omega⟩
    rw[QhS h4,hk k]
    have:=hle k
    split<;>omega
def Qfu (t:Int):NO [t]=some (bif decide (0<=t)then [(t,1)]else []):=by
 unfold NO
 rw[KD]
 show((AE [t] 0 []).bind _).bind _=_
 unfold AE
 rw[QN (by simp),XK,show idx [t] 0=some t from rfl,Qc]
 unfold OJ
 rw[show Qq (0+1)=1 from by decide]
 cases h:decide (0<=t)with
 | false=>
  simp only[QJ,Qc,Sum.elim_inl]
  rw[KD]
  show((AE [t] 1 []).bind _).bind _=_
  unfold AE
  rw[QZ (by simp)]
  simp only[QJ,Qc,Sum.elim_inr]
  unfold Vn
  rw[LF [] List.Pairwise.nil (by simp)];rfl
 | true=>
  simp only[XK,Qc,Sum.elim_inl]
  rw[KD]
  show((AE [t] 1 [(t,min2 (Qq (0+1)) 1048576)]).bind _).bind _=_
  unfold AE
  rw[QZ (by simp)]
  simp only[QJ,Qc,Sum.elim_inr]
  unfold Vn
  rw[LF _ (List.pairwise_singleton _ _) (by simp[maxLen]),show min2 (Qq (0+1)) 1048576=1 from by decide];rfl
def QiD : ∀(n:Nat) (e:Qv) (d:Int),Wq e->SizeOf.sizeOf e<=n->Qj (Ef n e d) λ_=>True
 | 0,e,_,_,h=>absurd e.pos (by omega)
 | n+1,e,d,he,h=>by
  unfold Ef Pv
  refine T1 (λ_=>T3) λ_=>?_
  refine T0 (Qj.up e.Kids.length (λst=>st.2) (λ_=>True) (Q:=λ_=>True) rfl trivial (λi st D hn _=>?_)) (λq _=>?_)
  ·obtain⟨a,x⟩:=st
   replace D:x=(i:Int):=D
   show Qj (Oh e (Ef n) d a x) _
   unfold Oh
   refine T1 (λhc=>?_) (λhc=>T2 (Qu trivial))
   simp only[QM]at hc
   refine T0 (T4 (by omega) (by omega)) λk hk=>?_
   have:=QbY hk
   refine T0 (QiD n k _ ((GI he).2 k hk) (by omega)) λy _=>?_
   refine T1 (λ_=>T2 (Qu trivial)) λ_=>T1 (λ_=>T2 (Qu trivial)) λ_=>?_
   exact T2 (QP ⟨by omega,by subst D;exact QE (by omega) (GI he).1,trivial⟩)
  rcases q with q | q
  ·exact T3
  exact T3
def Qgh (e:Qv)(h:Wq e):Qj (CV e) λ_=>True:=by
 unfold CV VA
 exact T0 (QiD _ e 60 h (YZ _)) λ_ _=>T3
def QlV (n1:Ql)(h:Xm n1)(q0:Int):Qj (Np n1 q0) λr=>r=true->q0<=400:=by
 unfold Np
 refine T0 (Qj.up n1.Tasks.length (λst=>st.2) (λ_=>True) (Q:=λ_=>True) rfl trivial (λi st hi hn _=>?_)) (λq _=>?_)
 ·obtain⟨a,x⟩:=st
  replace hi:x=(i:Int):=hi
  show Qj (No n1 a x) _
  unfold No
  refine T1 (λhc=>?_) (λ_=>T2 (Qu trivial))
  simp only[QM]at hc
  refine T0 (T4 (by omega) (by omega)) λe he=>?_
  have ke:=h.2.2.1.2 e he
  refine T1 (λ_=>T2 (Qu trivial)) λ_=>?_
  refine T0 (Qj.up e.Vars.length (λst=>st) (λ_=>True) (Q:=λ_=>True) rfl trivial (λi2 st D hn2 _=>?_)) (λq _=>?_)
  ·show Qj (Nj e st) _
   unfold Nj
   refine T1 (λhc=>?_) (λ_=>T2 (Qu trivial))
   simp only[QM]at hc
   refine T0 (T4 (by omega) (by omega)) λs _=>?_
   exact T1 (λ_=>T2 (Qu trivial)) λ_=>T2 (QP ⟨by omega,by rw[D];exact QE (by omega) ke.2.1.1,trivial⟩)
  rcases q with q | q
  ·exact T2 (Qu trivial)
  show Qj (FB e a x) _
  unfold FB
  refine T0 (Qgh e.Guard ke.2.2.1) λg _=>?_
  refine T0 (Qj.up e.Ins.length (λst=>st.2) (λ_=>True) (Q:=λ_=>True) rfl trivial (λi2 st D hn2 _=>?_)) (λq _=>?_)
  ·obtain⟨b,y⟩:=st
   replace D:y=(i2:Int):=D
   show Qj (Nk e b y) _
   unfold Nk
   refine T1 (λhc=>?_) (λ_=>T2 (Qu trivial))
   simp only[QM]at hc
   refine T0 (T4 (by omega) (by omega)) λs hs=>?_
   refine T0 (Qgh s.Expr (ke.2.2.2.2.2.1.2 s hs).2) λg _=>?_
   exact T2 (QP ⟨by omega,by subst D;exact QE (by omega) ke.2.2.2.2.2.1.1,trivial⟩)
  show Qj (Nn e a x q) _
  unfold Nn
  refine T0 (Qj.up e.Outs.length (λst=>st.2) (λ_=>True) (Q:=λ_=>True) rfl trivial (λi2 st D hn2 _=>?_)) (λq _=>?_)
  ·obtain⟨b,y⟩:=st
   replace D:y=(i2:Int):=D
   show Qj (Nl e b y) _
   unfold Nl
   refine T1 (λhc=>?_) (λ_=>T2 (Qu trivial))
   simp only[QM]at hc
   refine T0 (T4 (by omega) (by omega)) λs hs=>?_
   refine T0 (Qgh s.Expr (ke.2.2.2.2.2.2.1.2 s hs).2) λg _=>?_
   exact T2 (QP ⟨by omega,by subst D;exact QE (by omega) ke.2.2.2.2.2.2.1.1,trivial⟩)
  show Qj (Nm a e x q) _
  unfold Nm
  exact T1 (λ_=>T2 (Qu trivial)) λ_=>T2 (QP ⟨by omega,by subst hi;exact QE (by omega) h.2.2.1.1,trivial⟩)
 rcases q with q | q
 ·exact T2 λh=>by cases h
 exact T2 λh=>by simpa using h
def QlW (n1:Ql)(h:Xm n1):Qj (OM n1) λr=>r=true->n1.Colours.length<=40/\n1.Places.length<=70/\n1.Tasks.length<=70:=by
 unfold OM
 refine T1 (λ_=>T2 λh=>by cases h) λD=>?_
 simp only[KA,Xo]at D
 refine T6 (P:=λ_=>True) ?_ λ_ _ _=>by omega
 refine T0 (Qj.up n1.Colours.length (λst=>st.2) (λ_=>True) (Q:=λ_=>True) rfl trivial (λi st hi hn _=>?_)) (λq _=>?_)
 ·obtain⟨a,x⟩:=st
  replace hi:x=(i:Int):=hi
  show Qj (Ok n1 a x) _
  unfold Ok
  refine T1 (λD=>?_) (λ_=>T2 (Qu trivial))
  simp only[QM]at D
  refine T0 (T4 (by omega) (by omega)).self λe he=>?_
  obtain⟨he,hm⟩:=he
  refine T0 (P:=λ_=>True) ?_ λy _=>?_
  ·unfold Ze
   rw[he,Qc]
   exact T1 (λ_=>T3) λ_=>T3
  unfold Zf
  refine T1 (λ_=>T2 (Qu trivial)) λ_=>?_
  refine T0 (Qj.up e.Names.length (λst=>st) (λ_=>True) (Q:=λ_=>True) rfl trivial (λi2 st hi2 hn2 _=>?_)) (λq _=>?_)
  ·show Qj (Oj n1 x st) _
   unfold Oj
   simp only[he,Qc]
   refine T1 (λD=>?_) (λ_=>T2 (Qu trivial))
   simp only[QM]at D
   refine T0 (T4 (by omega) (by omega)) λs _=>?_
   refine T1 (λ_=>T2 (Qu trivial)) λ_=>?_
   exact T2 (QP ⟨by omega,by rw[hi2];exact QE (by omega) (h.1.2 e hm).2.2.2.2.1.1,trivial⟩)
  rcases q with q | q
  ·exact T2 (Qu trivial)
  exact T2 (QP ⟨by omega,by subst hi;exact QE (by omega) h.1.1,trivial⟩)
 rcases q with q | q
 ·exact T3
 show Qj (Nq n1 q) _
 unfold Nq
 refine T0 (Qj.up n1.Places.length (λst=>st.2) (λ_=>True) (Q:=λ_=>True) rfl trivial (λi st hi hn _=>?_)) (λq _=>?_)
 ·obtain⟨a,x⟩:=st
  replace hi:x=(i:Int):=hi
  show Qj (Ol n1 a x) _
  unfold Ol
  refine T1 (λD=>?_) (λ_=>T2 (Qu trivial))
  simp only[QM]at D
  refine T0 (T4 (by omega) (by omega)) λe _=>?_
  refine T0 (T4 (by omega) (by omega)) λe2 _=>?_
  exact T1 (λ_=>T2 (Qu trivial)) λ_=>T2 (QP ⟨by omega,by subst hi;exact QE (by omega) h.2.1.1,trivial⟩)
 rcases q with q | q
 ·exact T3
 exact(QlV n1 h q).mono λ_ _=>trivial
def QlX (m:L_ QBg)(h:m.length<=maxLen):Qj (ON m) λ_=>True:=by
 unfold ON
 refine T0 (Qj.up m.length (λst=>st.2) (λ_=>True) (Q:=λ_=>True) rfl trivial (λi st y hn _=>?_)) (λq _=>T3)
 obtain⟨a,x⟩:=st
 replace y:x=(i:Int):=y
 show Qj (Om m a x) _
 unfold Om
 refine T1 (λD=>?_) (λ_=>T2 (Qu trivial))
 simp only[QL,QM]at D
 refine T0 (T4 (by omega) (by omega)) λe _=>?_
 exact T2 (QP ⟨by omega,by subst y;exact QE (by omega) h,trivial⟩)
def QiE {l:QBg}(h:FO l):∀{a:Int},(∀p∈l,a<=p.1)->∀(i:Nat) (y:i<l.length),a+i<=(l[i]).1:=by
 induction l with
 | nil=>intro a _ i y;simp at y
 | cons p l ih=>
  intro a D i y
  obtain⟨h1,h2⟩:=Uz.1 h
  cases i with
  | zero=>have:=D p YF;simpa using this
  | succ i=>
   have h3:=ih h2 (a:=a+1) (λq hq=>by have:=h1 q hq;have:=D p YF;omega) i (by simpa using y)
   simp only[List.getElem_cons_succ]
   omega
def Qlg {l:QBg}(h:FO l)(h0:0<l.length){k:Int}(D:0<QV l k):k<=(l[l.length-1]).1:=by
 unfold QV at D
 cases e:Xb l k with
 | none=>rw[e]at D;simp at D
 | some v=>
  obtain⟨j,hj,y⟩:=BX.1 ((Wk h.nd).1 e)
  by_cases c:j=l.length-1
  ·subst c;rw[y];exact Int.le_refl _
  have:=List.pairwise_iff_getElem.1 h j (l.length-1) hj (by omega) (by omega)
  rw[y]at this
  simp only at this
  omega
def Kh (n:Ql)(c:Nat)(m:L_ QBg):Prop:=m.length=n.Places.length/\∀b∈m,Rt b/\b.length<=c
def Kh.mono {n:Ql}{c y:Nat}{m:L_ QBg}(h:Kh n c m)(hc:c<=y):Kh n y m:=⟨h.1,λb D=>⟨(h.2 b D).1,Kj (h.2 b D).2 hc⟩⟩
def FP (n:Ql)(m:L_ QBg):Prop:=∀(j:Nat) b p,m[j]? = some b->n.Places[j]? = some p->∀k,0<QV b k->∃z,YO n.Colours p.Colour=some z/\k<z
def QhV (n1:Ql)(m:L_ QBg)(h:Xm n1)(hm:Xc (Xc λ_=>True) m):Qj (Um n1 m) λr=>r=true->Kh n1 1024 m/\FP n1 m:=by
 unfold Um
 refine T1 (λ_=>T2 λh=>by cases h) λhc=>?_
 have hl:m.length=n1.Places.length:=by simp only[JZ]at hc;omega
 refine T0 (Qj.up m.length (λst=>st) (λst=>∀(j:Nat) (hj:j<m.length),(j:Int)<st->(Rt m[j]/\(m[j]).length<=1024)/\∀p,n1.Places[j]? = some p->∀k,0<QV m[j] k->∃z,YO n1.Colours p.Colour=some z/\k<z) (Q:=λq=>q=.inr ()->(∀b∈m,Rt b/\b.length<=1024)/\FP n1 m) rfl (λj _ hj=>by omega) (λi st hi hn hJ=>?_)) (λq hq=>?_)
 ·show Qj (GO m n1 st) _
  unfold GO
  refine T1 (λhc=>?_) (λhc=>T2 (Qu λ_=>⟨λb hb=>by
   obtain⟨j,hj,rfl⟩:=BX.1 hb
   simp only[Xo]at hc
   exact(hJ j hj (by omega)).1,λj b p hb hp=>by
   obtain⟨hj,rfl⟩:=Xe.1 hb
   simp only[Xo]at hc
   exact(hJ j hj (by omega)).2 p hp⟩))
  simp only[QM]at hc
  have y:i<m.length:=by omega
  have hlp:i<n1.Places.length:=by omega
  rw[hi,XH,QR y,Qc,XH,QR hlp,Qc]
  refine T0 (GY n1.Colours (n1.Places[i]).Colour h.1).self λsz hsz=>?_
  obtain⟨hze,hsz⟩:=hsz
  have hb:=hm.2 _ (XW y)
  have hbl:=hb.1
  refine T0 (P:=λr=>r=false->(Rt m[i]/\(m[i]).length<=1024)/\∀k,0<QV m[i] k->k<sz) ?_ λx hx=>?_
  ·unfold MI
   rw[Nz _ hb.1,Qc]
   refine T1 (λ_=>T2 λh=>by cases h) λhr=>?_
   have D:=GH.1 (by simpa using hr:BM (-1) m[i]=true)
   refine T1 (λh0=>?_) (λh0=>T2 λ_=>⟨⟨D,by simp only[Xo]at h0;omega⟩,λk hk=>by
    simp only[Xo]at h0
    rw[show m[i]=[]from Mu.1 (by omega)]at hk
    simp[QV,Xb]at hk⟩)
   simp only[QM]at h0
   unfold maxLen at hbl
   rw[Yg (by omega),show((m[i]).length:Int)-1=(((m[i]).length-1:Nat):Int) by omega,XH,QR (by omega),Qc]
   refine T2 λhf=>?_
   simp only[Xo]at hf
   have:=QiE D.1 (a:=0) (λp hp=>(D.2 p hp).1) ((m[i]).length-1) (by omega)
   refine⟨⟨D,by omega⟩,λk hk=>?_⟩
   have:=Qlg D.1 (by omega) hk
   omega
  unfold MJ
  refine T1 (λ_=>T2 (Qu λh=>by cases h)) λhxf=>?_
  refine T2 (QP ⟨y,QE y hm.1,λj hj hjs=>?_⟩)
  rw[QE y hm.1]at hjs
  by_cases c:j=i
  ·subst c
   refine⟨(hx hxf).1,λp hp k hk=>⟨sz,?_,(hx hxf).2 k hk⟩⟩
   rw[QR hlp]at hp
   cases hp
   exact hze
  exact hJ j hj (by omega)
 rcases q with q | q
 ·exact T2 λh=>by cases h
 exact T2 λ_=>⟨⟨hl,(hq rfl).1⟩,(hq rfl).2⟩
structure Ya (n:Ql):Prop where
 k:Xm n
 pl:n.Places.length<=70
 tl:n.Tasks.length<=12
 tk:∀t∈n.Tasks,t.Vars.length<=16/\t.Ins.length<=16/\t.Outs.length<=16/\t.Cancel.length<=16
def Qke (n1:Ql)(k2:Int)(h:Kg n1 k2=some 0):∃t,idx n1.Tasks k2=some t/\t.Vars.length<=16/\t.Ins.length<=16/\t.Outs.length<=16/\t.Cancel.length<=16:=by
 unfold Kg at h
 obtain⟨x5,_,h⟩:=Qp h
 rcases Xn h with⟨_,h⟩|⟨_,h⟩
 ·cases h
 obtain⟨x7,_,h⟩:=Qp h
 rcases Xn h with⟨c,h⟩|⟨_,h⟩
 ·simp only[Option.some.injEq]at h;rw[h]at c;cases c
 obtain⟨e9,he9,h⟩:=Qp h
 obtain⟨e10,D,h⟩:=Qp h
 rw[he9]at D;cases D
 obtain⟨_,_,h⟩:=Qp h
 obtain⟨_,_,h⟩:=Qp h
 obtain⟨_,_,h⟩:=Qp h
 obtain⟨_,_,h⟩:=Qp h
 obtain⟨x15,y,h⟩:=Qp h
 have bad:∀a b:Int,0<a->x15=(a,b)->False:=λa b ha e=>by
  subst e
  simp only at h
  rcases Xn h with⟨c,h⟩|⟨_,h⟩
  ·simp only[beq_iff_eq]at c;omega
  simp only[Option.some.injEq]at h;omega
 unfold Gb at y
 obtain⟨x20,_,y⟩:=Qp y
 rcases Xn y with⟨_,y⟩|⟨_,y⟩
 ·exact(bad _ _ (by decide) (Option.some.inj y).symm).elim
 obtain⟨x22,_,y⟩:=Qp y
 rcases Xn y with⟨_,y⟩|⟨_,y⟩
 ·exact(bad _ _ (by decide) (Option.some.inj y).symm).elim
 obtain⟨x24,h24,y⟩:=Qp y
 rcases Xn y with⟨_,y⟩|⟨c,y⟩
 ·exact(bad _ _ (by decide) (Option.some.inj y).symm).elim
 unfold BK at h24
 simp only[Option.some.injEq]at h24
 rw[<-h24]at c
 simp only[AP,QL,QM,Ir]at c
 exact⟨e9,he9,by omega,by omega,by omega,by omega⟩
def Qdk (D:L_ QS)(n1:Ql)(h:Xm n1)(hl:Xc YA D):Qj (Kz D n1) λr=>r.2=0->∀(j:Nat),j<D.length->Kg n1 j=some 0:=by
 unfold Kz
 refine T0 (Qj.up D.length (λst=>st) (λst=>∀(j:Nat),(j:Int)<st->Kg n1 j=some 0) (Q:=λq=>(∀a b,q=.inl (a,b)->b≠0)/\(q=.inr ()->∀(j:Nat),j<D.length->Kg n1 j=some 0)) rfl (λj hj=>by omega) (λi st hi hn hJ=>?_)) (λq hq=>?_)
 ·show Qj (KN D n1 st) _
  unfold KN
  refine T1 (λy=>?_) (λy=>T2 (Qu ⟨λa b h=>(by cases h),λ_ j hj=>by
   simp only[Xo]at y
   exact hJ j (by omega)⟩))
  simp only[QM]at y
  refine T0 (T4 (by omega) (by omega)) λe he=>?_
  refine T0 (P:=λx=>Kg n1 st=some x) ?_ λx hx=>?_
  ·unfold CI
   exact T0 (Zr n1 st h).self λx hx=>T2 hx.1
  refine T1 (λy=>T2 (Qu ⟨λa b h=>(by cases h;simpa using y),λh=>(by cases h)⟩)) λy=>?_
  simp only[JZ]at y
  refine T2 (QP ⟨by omega,by rw[hi];exact QE (by omega) hl.1,λj hj=>?_⟩)
  rw[hi,QE (show i<D.length by omega) hl.1]at hj
  by_cases c:j=i
  ·subst c;rw[<-hi,hx,y]
  exact hJ j (by omega)
 rcases q with q | q
 ·exact T2 λh=>absurd h (hq.1 q.1 q.2 rfl)
 exact T2 λ_=>hq.2 rfl
def Qkf (n1:Ql)(h:Xm n1){p:GM}(y:EV n1=some (0,p)):∀t∈n1.Tasks,t.Vars.length<=16/\t.Ins.length<=16/\t.Outs.length<=16/\t.Cancel.length<=16:=by
 unfold EV at y
 obtain⟨x6,_,y⟩:=Qp y
 rcases Xn y with⟨c,y⟩|⟨_,y⟩
 ·simp only[Option.some.injEq,Prod.mk.injEq]at y;rw[y.1]at c;cases c
 obtain⟨x8,_,y⟩:=Qp y
 rcases Xn y with⟨c,y⟩|⟨_,y⟩
 ·simp only[Option.some.injEq,Prod.mk.injEq]at y;rw[y.1]at c;cases c
 obtain⟨x10,_,y⟩:=Qp y
 rcases Xn y with⟨c,y⟩|⟨_,y⟩
 ·simp only[Option.some.injEq,Prod.mk.injEq]at y;rw[y.1]at c;cases c
 obtain⟨x12,D,y⟩:=Qp y
 rcases Xn y with⟨c,y⟩|⟨c,y⟩
 ·simp only[Option.some.injEq,Prod.mk.injEq]at y;rw[y.1]at c;cases c
 simp only[JZ]at c
 obtain⟨r,hr,hr2⟩:=Qdk n1.Tasks n1 h h.2.2.1
 rw[D]at hr;cases hr
 intro t ht
 obtain⟨j,hj,rfl⟩:=BX.1 ht
 obtain⟨t,h1,h2⟩:=Qke n1 j (hr2 c j hj)
 rw[XH,QR hj]at h1
 cases h1
 exact h2
def Qkg (n1:Ql)(m:L_ QBg)(h:Xm n1)(hm:Xc (Xc λ_=>True) m):Qj (BL n1 m) λr=>r=true->Ya n1/\Kh n1 1024 m/\FP n1 m:=by
 unfold BL
 refine T0 (QlW n1 h) λx5 h5=>?_
 refine T0 (QlX m hm.1) λx6 _=>?_
 refine T1 (λ_=>T2 λh=>by cases h) λhc=>?_
 simp only[KA,AP,Xo]at hc
 have h5:=h5 hc.1
 refine T0 (Qg3 n1 h).self λx11 h11=>?_
 refine T0 (P:=λr=>r=false->Ya n1/\Kh n1 1024 m/\FP n1 m) ?_ λx12 h12=>?_
 ·unfold Ns
  refine T1 (λ_=>T2 λh=>by cases h) λD=>?_
  simp only[JZ]at D
  refine T0 (QhV n1 m h hm) λr hr=>T2 λhrf=>⟨⟨h,h5.2.1,by omega,?_⟩,hr (by simpa using hrf)⟩
  obtain⟨a,b⟩:=x11
  simp only at D
  subst D
  exact Qkf n1 h h11.1
 unfold Nu
 refine T1 (λ_=>T2 λh=>by cases h) λhx=>?_
 have hfin:=h12 hx
 refine T6 (P:=λ_=>True) ?_ λ_ _ _=>hfin
 refine T0 (Qj.up n1.Tasks.length (λst=>st.2) (λ_=>True) (Q:=λ_=>True) rfl trivial (λi st hi hn _=>?_)) (λq _=>T3)
 obtain⟨a,x⟩:=st
 replace hi:x=(i:Int):=hi
 show Qj (Nt n1 a x) _
 unfold Nt
 refine T1 (λhc=>?_) (λ_=>T2 (Qu trivial))
 simp only[QM]at hc
 refine T0 (T4 (by omega) (by omega)) λe _=>?_
 refine T0 (TL n1 x h) λy _=>?_
 exact T2 (QP ⟨by omega,by subst hi;exact QE (by omega) h.2.2.1.1,trivial⟩)
def QgA (s:YM)(m:Int)(h:0<=s.k/\s.k<s.sizes.length):Qj (WG s m) λr=>r=true->0<=m:=by
 unfold WG
 refine T0 (P:=λr=>r=true->0<=m) ?_ λx D=>T2 D
 unfold UF
 refine T1 (λy=>?_) λ_=>T2 λh=>by cases h
 exact T0 (T4 h.1 h.2) λ_ _=>T2 λ_=>by simpa using y
def BP (s:YM)(h:0<=s.k/\s.k<s.all.length):Qj (Wn s) λ_=>True:=by
 unfold Wn
 exact T0 (T4 h.1 h.2) λ_ _=>T3
def Qlh (l:L_ Xh)(k m:Int)(hl:Xc Km l):Qj (GP l k m) λ_=>True:=by
 unfold GP
 refine T0 (CL l k hl) λx D=>?_
 refine T0 (P:=λr=>r=false->x.1=true) ?_ λr hr=>?_
 ·unfold Hf
  refine T1 (λ_=>T2 λh=>by cases h) λy=>?_
  have y:x.1=true:=by simpa using y
  have h:=D.2 y
  exact T0 (QgA x.2 m (by omega)) λ_ _=>T2 λ_=>y
 unfold Hg
 refine T1 (λ_=>T3) λy=>?_
 have h:=D.2 (hr y)
 refine T0 (BP x.2 (by omega)) λ_ _=>?_
 refine T1 (λ_=>?_) λ_=>T3
 exact T0 (BP x.2 (by omega)) λ_ _=>T3
def Qli (l:L_ Xh)(k n:Int)(hl:Xc Km l):Qj (GQ l k n) λr=>r.2=true->0<=r.1:=by
 unfold GQ
 refine T0 (CL l k hl) λx hx=>?_
 refine T1 (λ_=>T2 λh=>by cases h) λD=>?_
 have h:=hx.2 (by simpa using D)
 have k1:∀m,Qj (KI x m) λr=>r.2=true->0<=r.1:=λm=>by
  unfold KI
  refine T0 (QgA x.2 m (by omega)) λy hy=>?_
  exact T1 (λ_=>T2 λh=>by cases h) λD=>T2 λ_=>hy (by simpa using D)
 refine T0 (BP x.2 (by omega)) λ_ _=>?_
 refine T1 (λ_=>?_) λ_=>k1 _
 exact T1 (λ_=>T2 λh=>by cases h) λ_=>k1 _
def Qkh (l:L_ Xh)(k n:Int)(hl:Xc Km l):Qj (GQ l k n) λr=>r.2=true->∃z,YO l k=some z/\r.1<z:=by
 unfold GQ YO
 refine T0 (CL l k hl).self λx hx=>?_
 obtain⟨hxe,hx⟩:=hx
 refine T1 (λ_=>T2 λh=>by cases h) λhc=>?_
 have h:=hx.2 (by simpa using hc)
 have hk:k.toNat<x.2.sizes.length:=by omega
 have ei:idx x.2.sizes k=some x.2.sizes[k.toNat]:=QbX h.1.1 h.1.2
 have k1:∀m,Qj (KI x m) λr=>r.2=true->∃z,((ET l k).bind λx5=>bif (!x5.1)then some 0 else(idx x5.2.sizes k).bind λe7=>some e7)=some z/\r.1<z:=λm=>by
  unfold KI
  refine T0 (P:=λy=>y=true->m<x.2.sizes[k.toNat]) ?_ λy hy=>?_
  ·unfold WG
   refine T0 (P:=λy=>y=true->m<x.2.sizes[k.toNat]) ?_ λy hy=>T2 hy
   unfold UF
   refine T1 (λ_=>?_) λ_=>T2 λh=>by cases h
   rw[h.2.1,ei,Qc]
   exact T2 λh=>by simpa using h
  refine T1 (λ_=>T2 λh=>by cases h) λD=>T2 λ_=>⟨x.2.sizes[k.toNat],?_,hy (by simpa using D)⟩
  rw[hxe,Qc,hc,QJ,ei];rfl
 refine T0 (BP x.2 (by omega)) λ_ _=>?_
 refine T1 (λ_=>?_) λ_=>k1 _
 exact T1 (λ_=>T2 λh=>by cases h) λ_=>k1 _
def CW {α:Type}{o:O_ α}{P:α->Prop}(h:Qj o P){r:α}(e:o=some r):P r:=by
 obtain⟨r',y,D⟩:=h
 rw[e]at y;cases y;exact D
def QhW : ∀(n:Nat) (v:LI_) (e:Qv),Zk v.length e->SizeOf.sizeOf e<=n->Qj (Yv n v e) λ_=>True
 | 0,_,e,_,h=>absurd e.pos (by omega)
 | n+1,v,e,he,h=>by
  cases he with
  | mk _ D h2 h3 h5 h6 hr=>
  unfold Yv IF
  have sub:∀(j:Nat) (hj:j<e.Kids.length),Qj (Yv n v (e.Kids[j])) λ_=>True:=λj hj=>
   QhW n v _ (hr _ (XW hj)) (by have:=QbY (XW hj);omega)
  have kid:∀(j:Nat) (hj:j<e.Kids.length),idx e.Kids (j:Int)=some e.Kids[j]:=λj hj=>by rw[XH,QR hj]
  rcases D with D | D | D | D | D | D
  ·refine T0 (P:=λx=>x=.inl v) (by unfold Wi;rw[D];exact T2 rfl) λx hx=>?_
   subst hx
   exact T3
  ·refine T0 (P:=λx=>x=.inr (.inl v)) (by unfold Wi;rw[D];exact T2 rfl) λx hx=>?_
   subst hx
   show Qj (Ao e v) _
   unfold Ao Fd
   have:=h2 D
   exact T0 (T0 (T4 (by omega) (by omega)) λ_ _=>T3) λ_ _=>T3
  ·refine T0 (P:=λx=>x=.inr (.inr (.inl v))) (by unfold Wi KH;rw[D];exact T2 rfl) λx hx=>?_
   subst hx
   show Qj (WP (Yv n) e v) _
   unfold WP AV
   have hl:=h3 (.inl D)
   refine T0 (P:=λ_=>True) ?_ λ_ _=>T3
   rw[show idx e.Kids 0=some (e.Kids[0]'(by omega))from kid 0 (by omega),Qc]
   refine T0 (sub 0 (by omega)) λx _=>?_
   refine T1 (λ_=>T3) λ_=>T1 (λ_=>T0 (Qcb _) λ_ _=>T3) λ_=>T0 (Lj _ _ _) λ_ _=>T3
  ·refine T0 (P:=λx=>x=.inr (.inr (.inl v))) (by unfold Wi KH;rw[D];exact T2 rfl) λx hx=>?_
   subst hx
   show Qj (WP (Yv n) e v) _
   unfold WP AV
   have hl:=h3 (.inr D)
   refine T0 (P:=λ_=>True) ?_ λ_ _=>T3
   rw[show idx e.Kids 0=some (e.Kids[0]'(by omega))from kid 0 (by omega),Qc]
   refine T0 (sub 0 (by omega)) λx _=>?_
   refine T1 (λ_=>T3) λ_=>T1 (λ_=>T0 (Qcb _) λ_ _=>T3) λ_=>T0 (Lj _ _ _) λ_ _=>T3
  ·refine T0 (P:=λx=>x=.inr (.inr (.inr (.inl v)))) (by unfold Wi KH;rw[D];exact T2 rfl) λx hx=>?_
   subst hx
   show Qj (Ap (Yv n) e v) _
   unfold Ap NZ
   have hl:=h5 D
   refine T0 (P:=λ_=>True) ?_ λ_ _=>T3
   rw[show idx e.Kids 0=some (e.Kids[0]'(by omega))from kid 0 (by omega),Qc]
   refine T0 (sub 0 (by omega)) λx _=>?_
   have k1:∀b,Qj (Dx x e (Yv n) v b) λ_=>True:=λb=>by
    unfold Dx
    refine T1 (λ_=>T0 (Lj _ _ _) λ_ _=>T3) λ_=>?_
    rw[show idx e.Kids 1=some (e.Kids[1]'(by omega))from kid 1 (by omega),Qc]
    refine T0 (sub 1 (by omega)) λy _=>?_
    exact T1 (λ_=>T3) λ_=>T0 (Lj _ _ _) λ_ _=>T3
   exact T1 (λ_=>T3) λ_=>T1 (λ_=>k1 _) λ_=>T1 (λ_=>k1 _) λ_=>k1 _
  refine T0 (P:=λx=>x=.inr (.inr (.inr (.inr v)))) (by unfold Wi KH;rw[D];exact T2 rfl) λx hx=>?_
  subst hx
  show Qj (Aq (Yv n) e v) _
  unfold Aq IE
  have hl:=h6 D
  refine T0 (P:=λ_=>True) ?_ λ_ _=>T3
  rw[show idx e.Kids 0=some (e.Kids[0]'(by omega))from kid 0 (by omega),Qc]
  refine T0 (sub 0 (by omega)) λx _=>?_
  refine T1 (λ_=>T3) λ_=>T1 (λ_=>?_) λ_=>?_
  ·rw[show idx e.Kids 1=some (e.Kids[1]'(by omega))from kid 1 (by omega),Qc]
   exact T0 (sub 1 (by omega)) λy _=>T3
  rw[show idx e.Kids 2=some (e.Kids[2]'(by omega))from kid 2 (by omega),Qc]
  exact T0 (sub 2 (by omega)) λy _=>T3
def Qki (e:Qv)(v:LI_)(h:Wq e):Qj (IV e v) λ_=>True:=by
 unfold IV
 refine T0 (Oo e v.length h) λx D=>?_
 refine T1 (λ_=>T3) λy=>?_
 unfold MP
 exact T0 (QhW _ v e (D (by simpa using y)) (YZ _)) λ_ _=>T3
def Qjr (n:Ql)(y:Int)(D:LI_)(h:Ya n):Qj (Gk n y D) λr=>r.2=0->0<=y/\y<n.Tasks.length:=by
 unfold Gk
 refine T1 (λ_=>T2 λh=>by cases h) λhc=>?_
 simp only[KA,Xo]at hc
 refine T0 (T4 (by omega) (by omega)) λe he=>?_
 have hv:=(h.tk e he).1
 have ke:=h.k.2.2.1.2 e he
 refine T1 (λ_=>T2 λh=>by cases h) λhl=>?_
 simp only[JZ]at hl
 refine T0 (T5 (by simp only[QL,QM];omega)) λ_ _=>?_
 refine T6 (P:=λ_=>True) ?_ λ_ _ _=>by omega
 refine T0 (Qj.up e.Vars.length (λst=>st.1) (λst=>st.2.length=e.Vars.length) (Q:=λ_=>True) rfl (by simp) (λi st hi hn hJ=>?_)) (λq _=>?_)
 ·obtain⟨x,l⟩:=st
  replace hi:x=(i:Int):=hi
  replace hJ:l.length=e.Vars.length:=hJ
  show Qj (Cy e D n x l) _
  unfold Cy
  refine T1 (λhc=>?_) (λ_=>T2 (Qu trivial))
  simp only[QM]at hc
  refine T0 (T4 (by omega) (by omega)) λa _=>?_
  refine T0 (T4 (by omega) (by omega)) λb _=>?_
  refine T0 (Qlh _ _ _ h.k.1) λc _=>?_
  refine T1 (λ_=>T2 (Qu trivial)) λ_=>?_
  refine T0 (T4 (by omega) (by omega)) λd _=>?_
  exact T2 (QP ⟨by omega,by subst hi;exact QE (by omega) (by unfold maxLen;omega:e.Vars.length<=maxLen),by simpa using hJ⟩)
 rcases q with q | q
 ·exact T3
 exact T3
def Zs {α:Type}{l:L_ α}{i:Nat}{x y:α}(h:y∈l.set i x):y=x\/y∈l:=by
 rcases ZB h with h | h
 ·exact .inr h
 exact .inl h
def SD (n:Ql)(l:L_ Ye)(D env:LI_)(h:Ya n)(hl:Xc CJ l)(hw:D.length<=1000):Qj (DA n l D env) λr=>r.2=0->Kh n D.length r.1/\FP n r.1:=by
 unfold DA
 have hpl:=h.pl
 refine T0 (T5 (by simp only[QL,QM];omega)) λ_ _=>?_
 refine T0 (Qj.up D.length (λst=>st.1) (λst=>(st.2.length=n.Places.length/\∀b∈st.2,Rt b/\(b.length:Int)<=st.1)/\FP n st.2) (Q:=λq=>(∀x,q=.inl x->x≠0)/\∀m,q=.inr m->Kh n D.length m/\FP n m) rfl ⟨⟨by simp,λb hb=>?_⟩,λj b p hb hp k hk=>?_⟩ (λi st hi hn hJ=>?_)) (λq hq=>?_)
 ·have:=Zx hb
  subst this
  exact⟨Rt.nil,by simp⟩
 ·have:=Zx (XU hb)
  subst this
  simp[QV,Xb]at hk
 ·obtain⟨x,m⟩:=st
  replace hi:x=(i:Int):=hi
  obtain⟨⟨hJ1,hJ2⟩,hJ3⟩:(m.length=n.Places.length/\∀b∈m,Rt b/\(b.length:Int)<=x)/\FP n m:=hJ
  have err:∀y:Int,y≠0->(∀s',(Sum.inr (Sum.inl y):(Int×L_ QBg)⊕(Int⊕L_ QBg))=.inl s'->i<D.length/\s'.1=((i+1:Nat):Int)/\(s'.2.length=n.Places.length/\∀b∈s'.2,Rt b/\(b.length:Int)<=s'.1)/\FP n s'.2)/\∀r,(Sum.inr (Sum.inl y):(Int×L_ QBg)⊕(Int⊕L_ QBg))=.inr r->(∀x,r=.inl x->x≠0)/\∀m,r=.inr m->Kh n D.length m/\FP n m:=
   λy hy=>⟨λs' e=>(by cases e),λr e=>(by cases e;exact⟨λx e=>(by cases e;exact hy),λm e=>(by cases e)⟩)⟩
  show Qj (LQ D l env n x m) _
  unfold LQ
  refine T1 (λhc=>?_) (λhc=>T2 (Qu ⟨λx e=>(by cases e),λm' e=>?_⟩))
  ·simp only[QM]at hc
   refine T0 (T4 (by omega) (by omega)) λe18 _=>?_
   refine T1 (λ_=>T2 (err _ (by decide))) λhc1=>?_
   simp only[KA,Xo]at hc1
   refine T0 (T4 (by omega) (by omega)) λe22 h22=>?_
   refine T0 (Qki e22.Expr env (hl.2 e22 h22).2) λx23 _=>?_
   refine T1 (λhc2=>T2 (err _ (by simpa using hc2))) λ_=>?_
   refine T0 (T4 (by omega) (by omega)) λe25 _=>?_
   refine T1 (λ_=>T2 (err _ (by decide))) λhc3=>?_
   simp only[KA,Xo]at hc3
   refine T0 (T4 (by omega) (by omega)).self λe29 h29=>?_
   refine T0 (Qli _ _ _ h.k.1).self λx30 h30=>?_
   refine T1 (λ_=>T2 (err _ (by decide))) λhc4=>?_
   have hz:=CW (Qkh _ _ _ h.k.1) h30.1 (by simpa using hc4)
   have h30:=h30.2 (by simpa using hc4)
   refine T0 (T4 (by omega) (by omega)).self λe32 h32e=>?_
   have h32:=h32e.2
   have h32e:=h32e.1
   have h29:=h29.1
   rw[Qfu,QN h30]
   simp only[XK,Qc]
   have hb:=hJ2 e32 h32
   have key:∃s,Ji e32 [(x30.1,1)]=some s/\(s.2=0->(Rt s.1/\s.1.length<=e32.length+1)/\∀k,QV s.1 k=QV e32 k+QV [(x30.1,1)] k):=by
    rcases BO e32 [(x30.1,1)] (by simp;omega)with⟨_,e⟩|⟨_,_,_,e⟩|⟨_,_,r,e,h1,hcn,h2⟩
    ·exact⟨_,e,λh=>by cases h⟩
    ·exact⟨_,e,λh=>by cases h⟩
    exact⟨_,e,λ_=>⟨⟨h1,by simpa using h2⟩,hcn⟩⟩
   obtain⟨s,es,hs⟩:=key
   rw[es,Qc]
   refine T0 (T4 (by omega) (by omega)) λ_ _=>?_
   refine T1 (λhc5=>T2 (err _ (by simpa using hc5))) λhc5=>?_
   obtain⟨hs,hcn⟩:=hs (by simpa using hc5)
   refine T2 (QP ⟨by omega,by subst hi;exact QE (by omega) (by unfold maxLen;omega:D.length<=maxLen),⟨by simpa using hJ1,λb hb'=>?_⟩,λj b p hb' hp k hk=>?_⟩)
   ·subst hi
    show Rt b/\(b.length:Int)<=Qq ((i:Int)+1)
    rw[QE (by omega) (by unfold maxLen;omega:D.length<=maxLen)]
    rcases Zs hb' with rfl | hb'
    ·exact⟨hs.1,by omega⟩
    have:=hJ2 b hb'
    exact⟨this.1,by omega⟩
   have hb':(m.set e25.Place.toNat s.1)[j]? = some b:=hb'
   by_cases cj:e25.Place.toNat=j
   ·subst cj
    rw[Mt (by omega)]at hb'
    cases hb'
    rw[Mj (by omega)]at h29 h32e
    rw[h29]at hp
    cases hp
    rw[hcn]at hk
    by_cases c0:0<QV e32 k
    ·exact hJ3 _ e32 e29 h32e h29 k c0
    have h9:0<QV [(x30.1,1)] k:=by omega
    have h8:x30.1=k:=by
     apply Decidable.byContradiction
     intro hne
     simp[QV,Xb,hne]at h9
    obtain⟨z,hz1,hz2⟩:=hz
    exact⟨z,hz1,by omega⟩
   rw[Ms cj]at hb'
   exact hJ3 j b p hb' hp k hk
  cases e
  exact⟨⟨hJ1,λb hb=>⟨(hJ2 b hb).1,by have:=(hJ2 b hb).2;omega⟩⟩,hJ3⟩
 rcases q with q | q
 ·exact T2 λh=>absurd h (hq.1 q rfl)
 exact T2 λ_=>hq.2 q rfl
def QhX (a m:L_ QBg)(D:Xc (Xc λ_=>True) a)(hm:Xc (Xc λ_=>True) m):Qj (Ee a m) λ_=>True:=by
 unfold Ee XT
 refine T0 (P:=λ_=>True) ?_ λ_ _=>T3
 refine T1 (λ_=>T3) λh=>?_
 simp only[JZ]at h
 refine T0 (Qj.up a.length (λst=>st) (λ_=>True) (Q:=λ_=>True) rfl trivial (λi st hi hn hJ=>?_)) (λq _=>?_)
 ·show Qj (Xi a m st) _
  unfold Xi
  refine T1 (λh=>?_) (λ_=>T2 (Qu trivial))
  simp only[QM]at h
  refine T0 (T4 (by omega) (by omega)) λx hx=>?_
  refine T0 (T4 (by omega) (by omega)) λy hy=>?_
  refine T0 (P:=λ_=>True) (by obtain⟨r,hr,_⟩:=TO x y (D.2 x hx).1 (hm.2 y hy).1;exact⟨r,hr,trivial⟩) λ_ _=>?_
  exact T1 (λ_=>T2 (Qu trivial)) λ_=>T2 (QP ⟨by omega,by rw[hi];exact QE (by omega) D.1,trivial⟩)
 rcases q with q | q
 ·exact T3
 exact T3
def Kh.len {n:Ql}{c:Nat}{m:L_ QBg}(h:Kh n c m)(D:Ya n)(hc:c<=1000000):Xc (Xc λ_=>True) m:=
 ⟨by have:=h.1;have:=D.pl;unfold maxLen;omega,λb y=>⟨by have:=(h.2 b y).2;unfold maxLen;omega,λ_ _=>trivial⟩⟩
structure BOk (n:Ql) (m:List QBg) (b:Xr):Prop where
 net:b.net=n
 mm:b.m=m
 task:b.task∈n.Tasks
def QiF (n:Ql)(m:L_ QBg)(y:Int)(D:LI_)(h:Ya n):Qj (Jk n m y D) λr=>r.1=0->BOk n m r.2:=by
 unfold Jk
 refine T0 (Qjr n y D h) λx hx=>?_
 refine T1 (λhc=>T2 λh=>absurd h (by simpa using hc)) λhc=>?_
 have:=hx (by simpa using hc)
 exact T0 (T4 this.1 this.2) λe he=>T2 λ_=>⟨rfl,rfl,he⟩
def QgB (n:Ql)(m:L_ QBg)(b:Xr)(h:Ya n)(y:BOk n m b):Qj (XY b) λ_=>True:=by
 unfold XY
 refine T0 (Qki _ _ (h.k.2.2.1.2 _ y.task).2.2.1) λx _=>?_
 exact T1 (λ_=>T3) λ_=>T1 (λ_=>T3) λ_=>T3
def Qgi (n:Ql)(m:L_ QBg)(b:Xr)(outs:LI_)(h:Ya n)(y:BOk n m b)(D:outs.length<=1000):Qj (Yf b outs) λ_=>True:=by
 unfold Yf
 rw[y.net]
 exact T0 (SD n _ outs _ h (h.k.2.2.1.2 _ y.task).2.2.2.2.2.2.1 D) λx _=>T3
def Qjs (l:LI_)(x:Int)(h:l.length<=maxLen):Qj (Js l x) λ_=>True:=BV l x ⟨h,λ_ _=>trivial⟩
def Pd (l:LI_)(h:l.length<=4294967296):Xs l=some l:=by
 unfold Xs
 rw[FN (by simp;omega)];rfl
def Qlj (l:LI_)(h:l.length<=4294967296):Kx l=some (Ex l):=by
 unfold Kx
 rw[FN (by omega)];rfl
def QiG (n:Ql)(m:L_ QBg)(b:Xr)(D:LI_)(h:Ya n)(hb:BOk n m b)(hm:Xc (Xc λ_=>True) m)(hi:D.length<=100):Qj (XM b D) λ_=>True:=by
 have ki:=(h.k.2.2.1.2 _ hb.task).2.2.2.2.2.1
 have kl:=(h.tk _ hb.task).2.1
 unfold XM
 rw[hb.net,hb.mm]
 refine T0 (SD n _ D _ h ki (by omega)) λx hx=>?_
 refine T1 (λ_=>T3) λhc=>?_
 have hx:=hx (by simpa using hc)
 refine T0 (QhX _ _ (hx.1.len h (by omega)) hm) λy _=>?_
 refine T1 (λ_=>T3) λ_=>T1 (λ_=>T3) λ_=>?_
 refine T0 (Qj.up b.task.Ins.length (λst=>st) (λ_=>True) (Q:=λ_=>True) rfl trivial (λi st hi hn _=>?_)) (λq _=>?_)
 ·show Qj (AJ b D st) _
  unfold AJ
  refine T1 (λhc=>?_) (λ_=>T2 (Qu trivial))
  simp only[QM]at hc
  have step:Qj (Gn st) λo=>(∀s',o=.inl s'->i<b.task.Ins.length/\s'=((i+1:Nat):Int)/\True)/\∀r:Unit⊕Unit,o=.inr r->True:=
   T2 (QP (ix:=λst=>st) (J:=λ_=>True) (Q:=λ_=>True) ⟨by omega,by rw[hi];exact QE (by omega) ki.1,trivial⟩)
  refine T0 (Qjs D st (by unfold maxLen;omega)) λz _=>?_
  refine T1 (λ_=>step) λ_=>?_
  rw[Pd D (by omega),Qc]
  refine T0 (T5 (by simp;omega)) λ_ _=>?_
  rw[Qlj _ (by simp;omega),Qc]
  refine T0 (T5 (by simp[Tj])) λ_ _=>?_
  rw[hb.net]
  refine T0 (SD n _ _ _ h ki (by rw[Tj];simp;omega)) λu hu=>?_
  refine T0 (P:=λ_=>True) ?_ λv _=>?_
  ·unfold IY
   rw[hb.mm]
   refine T1 (λhc2=>?_) λ_=>T3
   have hu:=hu (by simpa using hc2)
   refine T0 (QhX _ _ (hu.1.len h (by rw[Tj];simp;omega)) hm) λ_ _=>T3
  unfold IZ
  exact T1 (λ_=>T2 (Qu trivial)) λ_=>step
 rcases q with q | q
 ·exact T3
 exact T3
def NA (r:L_ LI_):Prop:=r.length<=16/\∀row∈r,row.length<=16
def chB (o:O_ QLL):Bool:=match o with
 | some r=>decide (r.length<=16)&&r.all λrow=>decide (row.length<=16)
 | none=>false
def QhY {o:O_ QLL}(h:chB o=true):Qj o NA:=by
 cases o with
 | none=>cases h
 | some r=>
  simp only[chB,QL,QM,XE]at h
  exact T2 h
def QmI {h:Int}(y:¬h<0)(D:¬16<h):h=0\/h=1\/h=2\/h=3\/h=4\/h=5\/h=6\/h=7\/h=8\/h=9\/h=10\/h=11\/h=12\/h=13\/h=14\/h=15\/h=16:=by omega
set_option maxRecDepth 100000 in
def TP (D y:Int):Qj (KW D y) NA:=by
 by_cases hg:((decide (y<0))||((decide (16<y))||((D==3)&&(decide (4<y)))))=true
 ·unfold KW
  rw[hg]
  exact T2 ⟨by simp,λr h=>by cases h⟩
 simp only[KR,QL,QM,beq_iff_eq,not_or,not_and]at hg
 obtain⟨h0,h1,h2⟩:=hg
 by_cases e1:D=1
 ·subst e1
  rcases QmI h0 h1 with rfl | rfl | rfl | rfl | rfl | rfl | rfl | rfl | rfl | rfl | rfl | rfl | rfl | rfl | rfl | rfl | rfl<;>exact QhY (by kernel_rfl)
 by_cases e2:D=2
 ·subst e2
  rcases QmI h0 h1 with rfl | rfl | rfl | rfl | rfl | rfl | rfl | rfl | rfl | rfl | rfl | rfl | rfl | rfl | rfl | rfl | rfl<;>exact QhY (by kernel_rfl)
 by_cases e3:D=3
 ·subst e3
  have h3:=h2 rfl
  have:y=0\/y=1\/y=2\/y=3\/y=4:=by omega
  rcases this with rfl | rfl | rfl | rfl | rfl<;>exact QhY (by kernel_rfl)
 have f1:(D==1)=false:=by simpa using e1
 have f2:(D==2)=false:=by simpa using e2
 have f3:(D==3)=false:=by simpa using e3
 unfold KW Em
 rw[f1,f2,f3]
 exact T1 (λ_=>T2 ⟨by simp,λr h=>by cases h⟩) λ_=>T2 ⟨by simp,λr h=>by cases h⟩
def QlY (a b:LI_)(D:a.length<=maxLen):Qj (Jo a b) λ_=>True:=by
 unfold Jo
 refine T1 (λ_=>T3) λh=>?_
 simp only[JZ]at h
 refine T0 (Qj.up a.length (λst=>st) (λ_=>True) (Q:=λ_=>True) rfl trivial (λi st hi hn hJ=>?_)) (λq _=>?_)
 ·show Qj (Kq a b st) _
  unfold Kq
  refine T1 (λh=>?_) (λ_=>T2 (Qu trivial))
  simp only[QM]at h
  refine T0 (T4 (by omega) (by omega)) λx hx=>?_
  refine T0 (T4 (by omega) (by omega)) λy hy=>?_
  exact T1 (λ_=>T2 (Qu trivial)) λ_=>T2 (QP ⟨by omega,by rw[hi];exact QE (by omega) D,trivial⟩)
 rcases q with q | q
 ·exact T3
 exact T3
def QhZ (y h:Int)(row:LI_):Qj (DB y h row) λ_=>True:=by
 unfold DB KB WA
 refine T0 (TP y h) λx D=>?_
 refine T0 (P:=λ_=>True) ?_ λ_ _=>T3
 refine T0 (P:=λ_=>True) ?_ λ_ _=>T3
 have hl:=D.1
 refine T0 (Qj.up x.length (λst=>st) (λ_=>True) (Q:=λ_=>True) rfl trivial (λi st hi hn hJ=>?_)) (λq _=>?_)
 ·show Qj (YK x row st) _
  unfold YK Fy
  refine T1 (λhc=>?_) (λ_=>T2 (Qu trivial))
  simp only[QM]at hc
  refine T0 (T4 (by omega) (by omega)) λe he=>?_
  have:=D.2 e he
  refine T0 (T0 (QlY e row (by unfold maxLen;omega)) λ_ _=>T3) λ_ _=>?_
  exact T1 (λ_=>T2 (Qu trivial)) λ_=>T2 (QP ⟨by omega,by rw[hi];exact QE (by omega) (by unfold maxLen;omega:x.length<=maxLen),trivial⟩)
 rcases q with q | q
 ·exact T3
 exact T3
def Yu (n:Ql)(o:Qk):Prop:=o.Vars.length<=20/\o.Ins.length<=20/\o.Outs.length<=20
def QiH (n:Ql)(m:L_ QBg)(o:Qk)(h:Ya n)(hm:Xc (Xc λ_=>True) m)(ho:Yu n o):Qj (YY n m o) λ_=>True:=by
 unfold YY
 refine T0 (QiF n m o.Task o.Vars h) λx hx=>?_
 have k3:∀e,(e=0->x.1=0)->Qj (Wj x o e) λ_=>True:=λe he=>by
  unfold Wj
  refine T1 (λ_=>T3) λD=>?_
  have hb:=hx (he (by simpa using D))
  refine T0 (P:=λ_=>True) ?_ λy _=>?_
  ·unfold Fz
   refine T0 (QhZ _ _ _) λz _=>?_
   exact T1 (λ_=>T3) λ_=>T0 (QhZ _ _ _) λ_ _=>T3
  unfold FA
  refine T1 (λ_=>T3) λ_=>?_
  refine T0 (QiG n m x.2 o.Ins h hb hm (by have:=ho.2.1;omega)) λz _=>?_
  refine T1 (λ_=>T3) λ_=>?_
  exact T0 (Qgi n m x.2 o.Outs h hb (by have:=ho.2.2;omega)) λ_ _=>T3
 refine T1 (λD=>?_) λD=>k3 _ λh=>h
 have D:x.1=0:=by simpa using D
 exact T0 (QgB n m x.2 h (hx D)) λe _=>k3 e λ_=>D
def Oq (n:Ql)(o:Qk)(h:Ya n)(ho:Yu n o):Qj (YC n o) λr=>r.2=0->Kh n 20 r.1/\FP n r.1:=by
 unfold YC
 refine T0 (Qjr n o.Task o.Vars h) λx hx=>?_
 refine T1 (λD=>T2 λh=>absurd h (by simpa using D)) λD=>?_
 have:=hx (by simpa using D)
 refine T0 (T4 this.1 this.2) λe he=>?_
 have hl:=ho.2.1
 exact T0 (SD n _ _ _ h (h.k.2.2.1.2 _ he).2.2.2.2.2.1 (by omega)) λy hy=>T2 λh0=>⟨(hy h0).1.mono hl,(hy h0).2⟩
def Qgj (n:Ql)(o:Qk)(h:Ya n)(ho:Yu n o):Qj (Uo n o) λr=>r.2=0->(Kh n 20 r.1/\FP n r.1)/\0<=o.Task/\o.Task<n.Tasks.length:=by
 unfold Uo
 refine T0 (Qjr n o.Task o.Vars h) λx hx=>?_
 refine T1 (λD=>T2 λh=>absurd h (by simpa using D)) λD=>?_
 have:=hx (by simpa using D)
 refine T0 (T4 this.1 this.2) λe he=>?_
 have hl:=ho.2.2
 exact T0 (SD n _ _ _ h (h.k.2.2.1.2 _ he).2.2.2.2.2.2.1 (by omega)) λy hy=>T2 λh0=>⟨⟨(hy h0).1.mono hl,(hy h0).2⟩,this⟩
def Qkj {σ ρ:Type}{body:σ->O_ (σ⊕ρ)}(mu:σ->Nat)(J:σ->Prop){Q:ρ->Prop}{s0:σ}(hJ:J s0)
  (y:∀s,J s->Qj (body s) λo=>(∀h,o=.inl h->mu h<mu s/\J h)/\∀r,o=.inr r->Q r):Qj (QQ body s0) Q:=by
 have key:∀k s,mu s<=k->J s->Qj (QQ body s) Q:=by
  intro k
  induction k with
  | zero=>
   intro s hk hj
   obtain⟨o,D,h1,h2⟩:=y s hj
   cases o with
   | inl h=>have:=(h1 h rfl).1;omega
   | inr r=>exact⟨r,by rw[KD,D];rfl,h2 r rfl⟩
  | succ k ih=>
   intro s hk hj
   obtain⟨o,D,h1,h2⟩:=y s hj
   cases o with
   | inl h=>
    obtain⟨h3,h4⟩:=h1 h rfl
    obtain⟨r,h5,h6⟩:=ih h (by omega) h4
    exact⟨r,by rw[KD,D];exact h5,h6⟩
   | inr r=>exact⟨r,by rw[KD,D];rfl,h2 r rfl⟩
 exact key _ s0 (YZ _) hJ
def Qh0 {l:LI_}{k:Nat}(h:k<l.length)(Z:LI_)(x:Int):(l.take (k+1)++Z).set k x=l.take k++x::Z:=by
 have e:l.take (k+1)=l.take k++[l[k]]:=by rw[AQ,QR h];rfl
 rw[e,De,List.set_append,if_neg (by simp;omega)]
 have:k-(l.take k).length=0:=by simp;omega
 rw[this];rfl
def SE (m:L_ QBg)(h:m.length<=4294967296)(hb:∀b∈m,b.length<=4294967296):IT m=some m:=by
 unfold IT JC
 rw[FN (by simp;omega)]
 simp only[Qc,PT]
 obtain⟨r,h1,h2⟩:=(Qj.up (body:=λst=>HR m st.1 st.2) m.length (λst=>st.1) (λst=>st.2=m) (Q:=λq=>q=m) (s0:=(0,m)) rfl rfl (λi st hi hn D=>by
  obtain⟨x,l⟩:=st
  replace hi:x=(i:Int):=hi
  replace D:l=m:=D
  subst D
  show Qj (HR l x l) _
  unfold HR
  refine T1 (λhc=>?_) (λ_=>T2 (Qu rfl))
  simp only[QM]at hc
  have y:i<l.length:=by omega
  rw[hi,XH,QR y,Qc]
  unfold YN
  rw[FN (by have:=hb _ (XW y);simp;omega)]
  simp only[Qc,PT]
  exact T2 (QP ⟨y,QE y (by unfold maxLen;omega),by simp⟩)))
 rw[h1,h2];rfl
def Qlk (n:Ql)(a b:L_ QBg)(c d:Nat)(h:Ya n)(ha:Kh n c a)(hb:Kh n d b)(hcd:c+d<=1000000):Qj (Yr a b) λr=>r.2=0->Kh n (c+d) r.1:=by
 have hpl:=h.pl
 have ha1:=ha.1
 have hb1:=hb.1
 have y:min2 (a.length:Int) (b.length:Int)=(n.Places.length:Int):=by unfold min2;split<;>omega
 unfold Yr
 rw[y]
 refine T0 (T5 (by simp only[QL,QM];omega)) λ_ _=>?_
 refine T0 (Qj.up n.Places.length (λst=>st.1) (λst=>st.2.length=n.Places.length/\∀b∈st.2,Rt b/\b.length<=c+d) (Q:=λq:Int⊕L_ QBg=>(∀x,q=.inl x->x≠0)/\∀m,q=.inr m->Kh n (c+d) m) rfl ⟨by simp,λb hb=>?_⟩ (λi st hi hn hJ=>?_)) (λq hq=>?_)
 ·have:=Zx hb
  subst this
  exact⟨Rt.nil,by simp⟩
 ·obtain⟨x,m⟩:=st
  replace hi:x=(i:Int):=hi
  obtain⟨hJ1,hJ2⟩:m.length=n.Places.length/\∀b∈m,Rt b/\b.length<=c+d:=hJ
  show Qj (DQ a b x m) _
  unfold DQ
  rw[y]
  refine T1 (λhc=>?_) (λhc=>T2 (Qu ⟨λx e=>(by cases e),λm' e=>(by cases e;exact⟨hJ1,hJ2⟩)⟩))
  simp only[QM,Zz]at hc
  refine T0 (T4 (by omega) (by omega)) λu hu=>?_
  refine T0 (T4 (by omega) (by omega)) λv hv=>?_
  have hu2:=ha.2 u hu
  have hv2:=hb.2 v hv
  have key:∃s,JD u v=some s/\(s.2=0->Rt s.1/\s.1.length<=c+d):=by
   rcases LG u v (by omega)with⟨_,e⟩|⟨_,_,_,e⟩|⟨_,_,_,r,e,h1,_,h2⟩
   ·exact⟨_,e,λh=>by cases h⟩
   ·exact⟨_,e,λh=>by cases h⟩
   exact⟨_,e,λ_=>⟨h1,by show r.length<=_;omega⟩⟩
  obtain⟨s,es,hs⟩:=key
  rw[es,Qc]
  refine T0 (T4 (by omega) (by omega)) λ_ _=>?_
  refine T1 (λhc5=>T2 (Qu ⟨λx e=>(by cases e;simpa using hc5),λm' e=>(by cases e)⟩)) λhc5=>?_
  have hs:=hs (by simpa using hc5)
  refine T2 (QP ⟨by omega,by subst hi;exact QE (by omega) (by unfold maxLen;omega:n.Places.length<=maxLen),by simpa using hJ1,λb D=>?_⟩)
  rcases Zs D with rfl | D
  ·exact hs
  exact hJ2 b D
 rcases q with q | q
 ·exact T2 λh=>absurd h (hq.1 q rfl)
 exact T2 λ_=>hq.2 q rfl
def QgC (n:Ql)(a b:L_ QBg)(c d:Nat)(h:Ya n)(ha:Kh n c a)(hb:Kh n d b)(hcd:c+d<=1000000):Qj (Ed a b) λr=>r.2=0->Kh n (c+d) r.1:=by
 have hpl:=h.pl
 have ha1:=ha.1
 have hb1:=hb.1
 have y:min2 (a.length:Int) (b.length:Int)=(n.Places.length:Int):=by unfold min2;split<;>omega
 unfold Ed
 rw[y]
 refine T0 (T5 (by simp only[QL,QM];omega)) λ_ _=>?_
 refine T0 (Qj.up n.Places.length (λst=>st.1) (λst=>st.2.length=n.Places.length/\∀b∈st.2,Rt b/\b.length<=c+d) (Q:=λq:Int⊕L_ QBg=>(∀x,q=.inl x->x≠0)/\∀m,q=.inr m->Kh n (c+d) m) rfl ⟨by simp,λb hb=>?_⟩ (λi st hi hn hJ=>?_)) (λq hq=>?_)
 ·have:=Zx hb
  subst this
  exact⟨Rt.nil,by simp⟩
 ·obtain⟨x,m⟩:=st
  replace hi:x=(i:Int):=hi
  obtain⟨hJ1,hJ2⟩:m.length=n.Places.length/\∀b∈m,Rt b/\b.length<=c+d:=hJ
  show Qj (Uq a b x m) _
  unfold Uq
  rw[y]
  refine T1 (λhc=>?_) (λhc=>T2 (Qu ⟨λx e=>(by cases e),λm' e=>(by cases e;exact⟨hJ1,hJ2⟩)⟩))
  simp only[QM,Zz]at hc
  refine T0 (T4 (by omega) (by omega)) λu hu=>?_
  refine T0 (T4 (by omega) (by omega)) λv hv=>?_
  have hu2:=ha.2 u hu
  have hv2:=hb.2 v hv
  have key:∃s,Ji u v=some s/\(s.2=0->Rt s.1/\s.1.length<=c+d):=by
   rcases BO u v (by omega)with⟨_,e⟩|⟨_,_,_,e⟩|⟨_,_,r,e,h1,_,h2⟩
   ·exact⟨_,e,λh=>by cases h⟩
   ·exact⟨_,e,λh=>by cases h⟩
   exact⟨_,e,λ_=>⟨h1,by show r.length<=_;omega⟩⟩
  obtain⟨s,es,hs⟩:=key
  rw[es,Qc]
  refine T0 (T4 (by omega) (by omega)) λ_ _=>?_
  refine T1 (λhc5=>T2 (Qu ⟨λx e=>(by cases e;simpa using hc5),λm' e=>(by cases e)⟩)) λhc5=>?_
  have hs:=hs (by simpa using hc5)
  refine T2 (QP ⟨by omega,by subst hi;exact QE (by omega) (by unfold maxLen;omega:n.Places.length<=maxLen),by simpa using hJ1,λb D=>?_⟩)
  rcases Zs D with rfl | D
  ·exact hs
  exact hJ2 b D
 rcases q with q | q
 ·exact T2 λh=>absurd h (hq.1 q rfl)
 exact T2 λ_=>hq.2 q rfl
def QmJ (n:Ql)(m:L_ QBg)(o:Qk)(c:Nat)(h:Ya n)(hm:Kh n c m)(D:c<=900000)(ho:Yu n o):Qj (Dd n m o) λr=>r.2=0->Kh n (c+20) r.1:=by
 unfold Dd
 refine T0 (QiH n m o h (hm.len h (by omega)) ho) λx _=>?_
 refine T1 (λD=>T2 λh=>absurd h (by simpa using D)) λ_=>?_
 refine T0 (Oq n o h ho) λy hy=>?_
 refine T1 (λD=>T2 λh=>absurd h (by simpa using D)) λhc2=>?_
 exact T0 (Qlk n m y.1 c 20 h hm (hy (by simpa using hc2)).1 (by omega)) λz hz=>T2 hz
def QmK (n:Ql)(m:L_ QBg)(o:Qk)(c:Nat)(h:Ya n)(hm:Kh n c m)(hc:c<=900000)(ho:Yu n o):Qj (EU n m o) λr=>r.2=0->Kh n (c+20) r.1:=by
 have hpl:=h.pl
 have hm1:=hm.1
 unfold EU
 refine T0 (Qgj n o h ho) λy hy=>?_
 refine T1 (λhc=>T2 λh=>absurd h (by simpa using hc)) λhc2=>?_
 obtain⟨⟨hy,_⟩,h1,h2⟩:=hy (by simpa using hc2)
 rw[SE m (by omega) (λb hb=>by have:=(hm.2 b hb).2;omega),Qc]
 refine T0 (T4 h1 h2) λe he=>?_
 have hcl:=(h.tk e he).2.2.2
 refine T0 (Qj.up e.Cancel.length (λst=>st.1) (λst=>Kh n c st.2) (Q:=λq=>Kh n c q) rfl hm (λi st hi hn hJ=>?_)) (λq hq=>?_)
 ·obtain⟨x,l⟩:=st
  replace hi:x=(i:Int):=hi
  replace hJ:Kh n c l:=hJ
  show Qj (BA e x l) _
  unfold BA
  refine T1 (λhc=>?_) (λ_=>T2 (Qu hJ))
  simp only[QM]at hc
  refine T0 (T4 (by omega) (by omega)) λk _=>?_
  have next:∀l,Kh n c l->Qj (DY x l) λo=>(∀s',o=.inl s'->i<e.Cancel.length/\s'.1=((i+1:Nat):Int)/\Kh n c s'.2)/\∀r:L_ QBg,o=.inr r->Kh n c r:=λl hl=>by
   unfold DY
   exact T2 (QP (ix:=λst:Int×L_ QBg=>st.1) (J:=λst:Int×L_ QBg=>Kh n c st.2) ⟨by omega,by subst hi;exact QE (by omega) (by unfold maxLen;omega:e.Cancel.length<=maxLen),hl⟩)
  refine T1 (λD=>?_) λ_=>next l hJ
  simp only[QL,QM]at D
  refine T0 (T4 D.1 D.2) λ_ _=>?_
  refine next _ ⟨by simpa using hJ.1,λb hb=>?_⟩
  rcases Zs hb with rfl | hb
  ·exact⟨Rt.nil,by simp⟩
  exact hJ.2 b hb
 show Qj (BB y q) _
 unfold BB
 exact T0 (QgC n q y.1 c 20 h hq hy (by omega)) λz hz=>T2 hz
def Qjt (b:QBg)(h:b.length<=maxLen):KZ b b=some true:=by
 unfold KZ
 rw[show((b.length:Int) != (b.length:Int))=false by simp,QJ]
 obtain⟨r,y,D⟩:=(Qj.up (body:=λst=>Kk b b st) b.length (λst=>st) (λ_=>True) (Q:=λq:Unit⊕Unit=>q=.inr ()) (s0:=(0:Int)) rfl trivial (λi st hi hn hJ=>by
  show Qj (Kk b b st) _
  unfold Kk
  refine T1 (λhc=>?_) (λ_=>T2 (Qu rfl))
  simp only[QM]at hc
  rw[hi,XH,QR (by omega),Qc,Qc]
  rw[show(!(((b[i]'(by omega)).1==(b[i]'(by omega)).1)&&((b[i]'(by omega)).2==(b[i]'(by omega)).2)))=false by simp,QJ]
  exact T2 (QP ⟨by omega,QE (by omega) h,trivial⟩)))
 rw[y,D];rfl
def Qg4 (b:QBg)(y:Rt b)(h:b.length<=maxLen):Ri b b=some true:=by
 unfold Ri QaL
 rw[Nz b h,GH.2 y]
 simp only[Qc,XK]
 rw[Qjt b h];rfl
def Zt {n:Ql}(h:Ya n){c:Nat}{m:L_ QBg}(hm:Kh n c m)(D:c<=1000000):CU m m=some true:=by
 have hpl:=h.pl
 have hm1:=hm.1
 unfold CU Yh
 rw[show((m.length:Int) != (m.length:Int))=false by simp,QJ]
 obtain⟨r,h1,h2⟩:=(Qj.up (body:=λst=>XI m m st) m.length (λst=>st) (λ_=>True) (Q:=λq:Unit⊕Unit=>q=.inr ()) (s0:=(0:Int)) rfl trivial (λi st hi hn hJ=>by
  show Qj (XI m m st) _
  unfold XI
  refine T1 (λD=>?_) (λ_=>T2 (Qu rfl))
  simp only[QM]at D
  have y:i<m.length:=by omega
  have hb:=hm.2 _ (XW y)
  rw[hi,XH,QR y,Qc,Qc,Qg4 _ hb.1 (by unfold maxLen;omega),Qc]
  exact T2 (QP ⟨y,QE y (by unfold maxLen;omega),trivial⟩)))
 rw[h1,h2];rfl
abbrev Bag := QBg
def Qju (h:Bag->Bag->O_ (Bag×Int))(a b r:L_ Bag):Prop:=∀(j:Nat) x y,a[j]? = some x->b[j]? = some y->∃z,r[j]? = some z/\h x y=some (z,0)
def Can (h:Bag->Bag->O_ (Bag×Int))(a b:L_ Bag):Prop:=∀(j:Nat) x y,a[j]? = some x->b[j]? = some y->∃z,h x y=some (z,0)
def EO {α:Type}{l:L_ α}{i:Nat}(h:i<l.length):l[i]? = some l[i]:=QR h
def Qh1 {a b r:Bag}(h:a.length+b.length<=8796093022208)(e:Ji a b=some (r,0)):Rt a/\Rt b/\Rt r/\∀k,QV r k=QV a k+QV b k:=by
 rcases BO a b h with⟨_,e'⟩|⟨_,_,_,e'⟩|⟨y,D,r',e',h3,h4,_⟩
 ·rw[e]at e';cases e'
 ·rw[e]at e';cases e'
 rw[e]at e';cases e';exact⟨y,D,h3,h4⟩
def QlZ {a b:Bag}(h:a.length+b.length<=8796093022208)(D:Rt a)(hb:Rt b)(hk:∀k,QV a k+QV b k<=1048576):∃r,Ji a b=some (r,0):=by
 rcases BO a b h with⟨y,e'⟩|⟨_,_,⟨k,y⟩,e'⟩|⟨y,h2,r',e',h3,h4,_⟩
 ·exact absurd ⟨D,hb⟩ y
 ·have:=hk k;omega
 exact⟨r',e'⟩
def QiI {a b r:Bag}(h:a.length+b.length<=8796093022208)(e:JD a b=some (r,0)):Rt a/\Rt b/\Rt r/\(∀k,QV b k<=QV a k)/\∀k,QV r k=QV a k-QV b k:=by
 rcases LG a b h with⟨_,e'⟩|⟨_,_,_,e'⟩|⟨y,D,h5,r',e',h3,h4,_⟩
 ·rw[e]at e';cases e'
 ·rw[e]at e';cases e'
 rw[e]at e';cases e';exact⟨y,D,h3,h5,h4⟩
def Qll {a b:Bag}(h:a.length+b.length<=8796093022208)(D:Rt a)(hb:Rt b)(hk:∀k,QV b k<=QV a k):∃r,JD a b=some (r,0):=by
 rcases LG a b h with⟨y,e'⟩|⟨_,_,⟨k,y⟩,e'⟩|⟨y,h2,_,r',e',h3,h4,_⟩
 ·exact absurd ⟨D,hb⟩ y
 ·have:=hk k;omega
 exact⟨r',e'⟩
def TQ {n:Ql}{c:Nat}{m:L_ Bag}(h:Kh n c m){j:Nat}(y:j<n.Places.length):∃b,m[j]? = some b/\Rt b/\b.length<=c:=by
 have:j<m.length:=by have:=h.1;omega
 exact⟨m[j],EO this,h.2 _ (XW this)⟩
def Qav {n:Ql}{c:Nat}{m:L_ Bag}(y:Kh n c m){j:Nat}{b:Bag}(h:m[j]? = some b):j<n.Places.length/\Rt b/\b.length<=c:=by
 obtain⟨D,rfl⟩:=Xe.1 h
 exact⟨by have:=y.1;omega,y.2 _ (XW D)⟩
end Go.Proofs
