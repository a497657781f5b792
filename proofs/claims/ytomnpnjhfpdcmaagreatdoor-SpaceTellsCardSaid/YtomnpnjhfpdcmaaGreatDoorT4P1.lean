/- A part of the proof. -/
import Derived.Test.YtomnpnjhfpdcmaaGreatDoorT4XPlA
import Derived.Test.YtomnpnjhfpdcmaaGreatDoorT4V3
import Derived.Test.YtomnpnjhfpdcmaaGreatDoorT4T3
import Derived.KernelRfl
set_option linter.all false
namespace Go.Vm
open Go Go.RowKit
def Qj {α:Type}(o:O_ α)(Q:α->Prop):Prop:=∃r,o=some r/\Q r
abbrev Xk {α:Type}(o:O_ α):Prop:=Qj o λ_=>True
section
variable {α β σ ρ:Type}
def Qj.ok {a:α}{Q:α->Prop}(h:Q a):Qj (some a) Q:=⟨a,rfl,h⟩
def Qj.okT {a:α}:Qj (some a) λ_=>True:=⟨a,rfl,trivial⟩
def Qj.bind {o:O_ α}{f:α->O_ β}{P:α->Prop}{Q:β->Prop}(h:Qj o P)(k:∀x,P x->Qj (f x) Q):Qj (o.bind f) Q:=by
 obtain⟨x,rfl,D⟩:=h
 exact k x D
def Qj.bif {c:Bool}{a b:O_ α}{Q:α->Prop}(h:c=true->Qj a Q)(D:c=false->Qj b Q):Qj (bif c then a else b) Q:=by
 cases c with
 | true=>exact h rfl
 | false=>exact D rfl
def Qj.chk {c:Bool}(h:c=true):Qj (chk c) λ_=>True:=⟨(),So h,trivial⟩
def Qj.idx {l:L_ α}{j:Int}(h:0<=j)(D:j<l.length):Qj (idx l j) λx=>x∈l:=by
 rw[Ng h D]
 exact⟨_,rfl,Xn _⟩
def Qj.sidx {s:ByteArray}{j:Int}(h:0<=j)(D:j<s.size):Qj (sidx s j) λ_=>True:=by
 unfold Vm.sidx
 rw[if_pos h]
 have:j.toNat<s.size:=by omega
 rw[getElem?_pos s j.toNat this]
 exact⟨_,rfl,trivial⟩
def Qj.mono {o:O_ α}{P Q:α->Prop}(h:Qj o P)(k:∀x,P x->Q x):Qj o Q:=let ⟨r,h1,h2⟩:=h;⟨r,h1,k r h2⟩
def Qj.tot {o:O_ α}{P:α->Prop}(h:Qj o P):∃r,o=some r:=let ⟨r,h1,_⟩:=h;⟨r,h1⟩
def Qj.self {o:O_ α}{P:α->Prop}(h:Qj o P):Qj o λx=>o=some x/\P x:=let ⟨r,h1,h2⟩:=h;⟨r,h1,h1,h2⟩
def Qj.up {body:σ->O_ (σ⊕ρ)}(n:Nat)(ix:σ->Int)(J:σ->Prop){Q:ρ->Prop}{s0:σ}(h0:ix s0=0)(hJ:J s0)
  (D:∀(i:Nat) s,ix s=(i:Int)->i<=n->J s->Qj (body s) λo=>(∀h,o=.inl h->i<n/\ix h=((i+1:Nat):Int)/\J h)/\∀r,o=.inr r->Q r):Qj (Qu body s0) Q:=by
 have key:∀k i s,i+k=n->ix s=(i:Int)->J s->∃r,Qu body s=some r/\Q r:=by
  intro k
  induction k with
  | zero=>
   intro i s hk hi hj
   obtain⟨o,ho,h1,h2⟩:=D i s hi (by omega) hj
   rw[YR,ho]
   cases o with
   | inl h=>have:=(h1 h rfl).1;omega
   | inr r=>exact⟨r,rfl,h2 r rfl⟩
  | succ k ih=>
   intro i s hk hi hj
   obtain⟨o,ho,h1,h2⟩:=D i s hi (by omega) hj
   rw[YR,ho]
   cases o with
   | inl h=>
    obtain⟨_,h3,h4⟩:=h1 h rfl
    exact ih (i+1) h (by omega) h3 h4
   | inr r=>exact⟨r,rfl,h2 r rfl⟩
 exact key n 0 s0 (by omega) h0 hJ
def QJ {s:σ}{n i:Nat}{ix:σ->Int}{J:σ->Prop}{Q:ρ->Prop}(h:i<n/\ix s=((i+1:Nat):Int)/\J s):
  (∀D,(Sum.inl s:σ⊕ρ)=.inl D->i<n/\ix D=((i+1:Nat):Int)/\J D)/\∀r,(Sum.inl s:σ⊕ρ)=.inr r->Q r:=
 ⟨λD e=>(by cases e;exact h),λr e=>(by cases e)⟩
def Qq {r:ρ}{n i:Nat}{ix:σ->Int}{J:σ->Prop}{Q:ρ->Prop}(h:Q r):
  (∀D,(Sum.inr r:σ⊕ρ)=.inl D->i<n/\ix D=((i+1:Nat):Int)/\J D)/\∀r',(Sum.inr r:σ⊕ρ)=.inr r'->Q r':=
 ⟨λD e=>(by cases e),λr' e=>(by cases e;exact h)⟩
end
def QV {α:Type}(ok:α->Prop)(l:L_ α):Prop:=l.length<=maxLen/\∀x∈l,ok x
def QV.drop {α:Type}{ok:α->Prop}{l:L_ α}(h:QV ok l)(k:Nat):QV ok (l.drop k):=⟨by have:=h.1;rw[Nk];omega,λx D=>h.2 x (TE D)⟩
def QV.take {α:Type}{ok:α->Prop}{l:L_ α}(h:QV ok l)(k:Nat):QV ok (l.take k):=⟨by have:=h.1;rw[WZ];omega,λx D=>h.2 x (Bf D)⟩
def QV.nil {α:Type}{ok:α->Prop}:QV ok ([]:L_ α):=⟨by simp,λx h=>by cases h⟩
def EW (s:ByteArray):Prop:=s.size<=maxLen
def Qpm {s:ByteArray}(h:JT s (⟨#[]⟩:ByteArray)=false):0<s.size:=by
 apply Nat.pos_of_ne_zero
 intro D
 have:s=⟨#[]⟩:=by
  obtain⟨a⟩:=s
  have:a=#[]:=QnI D
  rw[this]
 subst this
 simp[JT]at h
def Mg {a b:Int}:0<=min2 a b↔0<=a/\0<=b:=by unfold min2;split<;>omega
def Mh {a b n:Int}:max2 a b<n↔a<n/\b<n:=by unfold max2;split<;>omega
def Mi {a b n:Int}:max2 a b<=n↔a<=n/\b<=n:=by unfold max2;split<;>omega
abbrev T0:=@Qj.bind
abbrev T1:=@Qj.bif
abbrev T2:=@Qj.ok
abbrev T3:=@Qj.okT
abbrev T4:=@Qj.idx
abbrev T5:=@Qj.chk
abbrev T6:=@Qj.mono
def Gm (l:L_ (Int×Int)):Prop:=l.Pairwise λp q=>p.1<q.1
def Sp (l:L_ (Int×Int)):Prop:=l.Pairwise λp q=>p.1≠q.1
def Gm.nd {l:L_ (Int×Int)}(h:Gm l):Sp l:=h.imp λh=>by omega
def Dv {p:Int×Int}{l:L_ (Int×Int)}:Gm (p::l)↔(∀q∈l,p.1<q.1)/\Gm l:=TF
def Qnt {p:Int×Int}{l:L_ (Int×Int)}:Sp (p::l)↔(∀q∈l,p.1≠q.1)/\Sp l:=TF
def Mj {l:L_ (Int×Int)}{k:Int}:QR l k=none↔∀p∈l,p.1≠k:=by
 induction l with
 | nil=>simp[QR]
 | cons p l D=>
  obtain⟨a,x⟩:=p
  rw[Ym]
  by_cases h:a=k
  ·simp[h]
  simp[h,D]
def JH {l:L_ (Int×Int)}(hn:Sp l){k v:Int}:QR l k=some v↔(k,v)∈l:=by
 induction l with
 | nil=>simp[QR]
 | cons p l ih=>
  obtain⟨a,x⟩:=p
  obtain⟨D,h2⟩:=Qnt.1 hn
  rw[Ym]
  by_cases h:a=k
  ·subst h
   rw[if_pos rfl]
   constructor
   ·intro e;cases e;simp
   intro e
   rcases Yw.1 e with e | e
   ·cases e;rfl
   exact absurd rfl (D (a,v) e)
  rw[if_neg h,ih h2]
  constructor
  ·intro e;exact Yo _ e
  intro e
  rcases Yw.1 e with e | e
  ·cases e;exact absurd rfl h
  exact e
def Qpn {l m:L_ (Int×Int)}(hl:Sp l)(h:l.Perm m)(k:Int):QR l k=QR m k:=by
 have hm:Sp m:=(h.pairwise_iff (λD=>Ne.symm D)).1 hl
 apply Option.ext
 intro v
 rw[JH hl,JH hm]
 exact h.mem_iff
def asc_ext {l m:L_ (Int×Int)}(hl:Gm l)(hm:Gm m)(h:∀k,QR l k=QR m k):l=m:=by
 induction l generalizing m with
 | nil=>
  cases m with
  | nil=>rfl
  | cons p m=>have:=h p.1;rw[Ym (κ:=Int)]at this;simp[QR]at this
 | cons p l ih=>
  obtain⟨a,x⟩:=p
  cases m with
  | nil=>have:=h a;rw[Ym]at this;simp[QR]at this
  | cons q m=>
   obtain⟨b,y⟩:=q
   obtain⟨l1,l2⟩:=Dv.1 hl
   obtain⟨m1,m2⟩:=Dv.1 hm
   have D:a=b:=by
    rcases Int.lt_trichotomy a b with hc | hc | hc
    ·have e:=h a
     rw[Ym,Ym,if_pos rfl,if_neg (by omega),Mj.2 (λp hp=>by have:=m1 p hp;simp at this;omega)]at e
     cases e
    ·exact hc
    have e:=h b
    rw[Ym,Ym,if_neg (by omega),if_pos rfl,Mj.2 (λp hp=>by have:=l1 p hp;simp at this;omega)]at e
    cases e
   subst D
   have e:=h a
   rw[Ym,Ym,if_pos rfl,if_pos rfl]at e
   cases e
   rw[ih l2 m2 λk=>?_]
   by_cases hk:a=k
   ·subst hk
    rw[Mj.2 (λp hp=>by have:=l1 p hp;simp at this;omega),Mj.2 (λp hp=>by have:=m1 p hp;simp at this;omega)]
   have:=h k
   rwa[Ym,Ym,if_neg hk,if_neg hk]at this
def Qr7 {l:L_ (Int×Int)}{k v:Int}{p:Int×Int}(h:p∈NQ l k v):∃q∈l,q.1=p.1:=by
 induction l with
 | nil=>cases h
 | cons q l ih=>
  obtain⟨a,x⟩:=q
  rw[NQ]at h
  split at h
  ·rename_i e
   rcases Yw.1 h with rfl | h
   ·exact⟨_,XY,e⟩
   exact⟨p,Yo _ h,rfl⟩
  rcases Yw.1 h with rfl | h
  ·exact⟨_,XY,rfl⟩
  obtain⟨q,D,h2⟩:=ih h
  exact⟨q,Yo _ D,h2⟩
def Qqw {lt:Int->Int->Bool}{l:L_ (Int×Int)}{k v:Int}{p:Int×Int}(h:p∈NP lt l k v):p=(k,v)\/p∈l:=by
 induction l with
 | nil=>simp[NP]at h;exact .inl h
 | cons q l D=>
  obtain⟨a,x⟩:=q
  rw[NP]at h
  split at h
  ·rcases Yw.1 h with h | h
   ·exact .inl h
   exact .inr h
  rcases Yw.1 h with h | h
  ·exact .inr (h▸XY)
  rcases D h with h | h
  ·exact .inl h
  exact .inr (Yo _ h)
def Qmt {l:L_ (Int×Int)}(h:Gm l)(k v:Int):Gm (YI Ue l k v):=by
 unfold YI
 split
 ·rename_i x hx
  clear hx
  induction l with
  | nil=>exact h
  | cons p l ih=>
   obtain⟨a,x⟩:=p
   obtain⟨h1,h2⟩:=Dv.1 h
   rw[NQ]
   split
   ·rename_i e;subst e;exact Dv.2 ⟨h1,h2⟩
   refine Dv.2 ⟨λq D=>?_,ih h2⟩
   obtain⟨q',hq',e⟩:=Qr7 D
   rw[<-e];exact h1 _ hq'
 rename_i hn
 induction l with
 | nil=>exact Qh1 _ _
 | cons p l ih=>
  obtain⟨a,x⟩:=p
  obtain⟨h1,h2⟩:=Dv.1 h
  rw[Ym]at hn
  split at hn
  ·cases hn
  rename_i hne
  rw[NP]
  split
  ·rename_i e
   have e:k<a:=Xo e
   refine Dv.2 ⟨λq D=>?_,h⟩
   rcases Yw.1 D with rfl | D
   ·exact e
   have:=h1 q D;simp at this ⊢;omega
  rename_i e
  have e:¬k<a:=λc=>e (QE c)
  refine Dv.2 ⟨λq D=>?_,ih h2 hn⟩
  rcases Qqw D with rfl | D
  ·show a<k;omega
  exact h1 q D
def Qqx {l:L_ (Int×Int)}{k v:Int}:(NQ l k v).length=l.length:=by
 induction l with
 | nil=>rfl
 | cons p l h=>
  obtain⟨a,x⟩:=p
  rw[NQ]
  split
  ·rfl
  simp[h]
def Qqy {lt:Int->Int->Bool}{l:L_ (Int×Int)}{k v:Int}:(NP lt l k v).length=l.length+1:=by
 induction l with
 | nil=>rfl
 | cons p l h=>
  obtain⟨a,x⟩:=p
  rw[NP]
  split
  ·rfl
  simp[h]
def Qqz {l:L_ (Int×Int)}{k v:Int}:(YI Ue l k v).length<=l.length+1:=by
 unfold YI
 split
 ·rw[Qqx];omega
 rw[Qqy];exact YY _
def QqA {l:L_ (Int×Int)}{k v:Int}(h:Gm (l++[(k,v)])):YI Ue l k v=l++[(k,v)]:=by
 have hl:Gm l:=(QhZ.1 h).1
 refine asc_ext (Qmt hl k v) h λj=>?_
 rw[UM]
 have D:∀p∈l,p.1<k:=λp hp=>(QhZ.1 h).2.2 p hp (k,v) (by simp)
 clear h
 induction l with
 | nil=>
  show(if j=k then some v else none)=(if k=j then some v else none)
  by_cases c:j=k
  ·rw[if_pos c,if_pos c.symm]
  rw[if_neg c,if_neg (λe=>c e.symm)]
 | cons p l ih=>
  obtain⟨a,x⟩:=p
  have h1:=D (a,x) XY
  simp only at h1
  rw[QbP,Ym,Ym]
  rw[<-ih (Dv.1 hl).2 λp hp=>D p (Yo _ hp)]
  by_cases c:j=k
  ·subst c;rw[if_pos rfl,if_pos rfl,if_neg (by omega)]
  rw[if_neg c,if_neg c]
section
variable {ρ:Type}{g:Int->Int->Int}{stop:Int->Bool}{q:O_ ρ}{body:L_ (Int×Int)->Int×Int->O_ (L_ (Int×Int)⊕ρ)}
def QM (s:L_ (Int×Int))(k:Int):Int:=(QR s k).getD 0
def QeU (g:Int->Int->Int)(s l:L_ (Int×Int))(k:Int):O_ Int:=match QR l k with
 | some v=>some (g (QM s k) v)
 | none=>QR s k
def Qcw (hb:∀s p,body s p=bif stop (g (QM s p.1) p.2)then q.map Sum.inr else some (.inl (YI Ue s p.1 (g (QM s p.1) p.2)))):
  ∀l s,Gm s->Sp l->((∃p∈l,stop (g (QM s p.1) p.2)=true)/\Dg body s l=q.map Sum.inr)\/
   ((∀p∈l,stop (g (QM s p.1) p.2)=false)/\∃s',Dg body s l=some (.inl s')/\Gm s'/\s'.length<=s.length+l.length/\∀k,QR s' k=QeU g s l k):=by
 intro l
 induction l with
 | nil=>intro s hs _;exact .inr ⟨λp h=>(by cases h),s,rfl,hs,by simp,λk=>rfl⟩
 | cons p l ih=>
  intro s hs hl
  obtain⟨h1,h2⟩:=Qnt.1 hl
  simp only[Dg,hb]
  cases hst:stop (g (QM s p.1) p.2)with
  | true=>exact .inl ⟨⟨p,XY,hst⟩,by cases q<;>rfl⟩
  | false=>
   simp only[Qs,Qd,Sum.elim_inl]
   have hc:∀r∈l,QM (YI Ue s p.1 (g (QM s p.1) p.2)) r.1=QM s r.1:=λr D=>by
    unfold QM
    rw[UM,if_neg (λe=>h1 r D e.symm)]
   rcases ih _ (Qmt hs p.1 (g (QM s p.1) p.2)) h2 with⟨⟨r,D,h3⟩,h4⟩|⟨h3,s',h4,h5,h6,h7⟩
   ·exact .inl ⟨⟨r,Yo _ D,by rw[hc r D]at h3;exact h3⟩,h4⟩
   refine .inr ⟨λr D=>?_,s',h4,h5,?_,λk=>?_⟩
   ·rcases Yw.1 D with rfl | D
    ·exact hst
    have:=h3 r D;rwa[hc r D]at this
   ·have:=Qqz (l:=s) (k:=p.1) (v:=g (QM s p.1) p.2)
    simp;omega
   rw[h7]
   obtain⟨a,x⟩:=p
   unfold QeU
   rw[Ym]
   by_cases e:a=k
   ·subst e
    rw[if_pos rfl,Mj.2 (λr D=>Ne.symm (h1 r D)),UM,if_pos rfl]
   rw[if_neg e]
   simp only[QM,UM,if_neg (λe'=>e (Eq.symm e'):¬k=a)]
def Qjh (hb:∀s p,body s p=bif stop (g (QM s p.1) p.2)then q.map Sum.inr else some (.inl (YI Ue s p.1 (g (QM s p.1) p.2)))){l s:L_ (Int×Int)}(hs:Gm s)(hl:Sp l):
  ((∃p∈l,stop (g (QM s p.1) p.2)=true)/\∀r,q=some r->Hj body s l=some (.inr r))\/
   ((∀p∈l,stop (g (QM s p.1) p.2)=false)/\∃s',Hj body s l=some (.inl s')/\Gm s'/\s'.length<=s.length+l.length/\∀k,QR s' k=QeU g s l k):=by
 have key:∀l':L_ (Int×Int),l'.Perm l->Dg body s l'=Dg body s l:=λl' hp=>by
  have hl':Sp l':=(hp.pairwise_iff (λhab=>Ne.symm hab)).2 hl
  rcases Qcw hb l' s hs hl' with⟨⟨p,h,h2⟩,D⟩|⟨h,s1,D,h4,_,h5⟩
  ·rcases Qcw hb l s hs hl with⟨_,g3⟩|⟨g1,_⟩
   ·rw[D,g3]
   rw[g1 p (hp.mem_iff.1 h)]at h2;cases h2
  rcases Qcw hb l s hs hl with⟨⟨p,g1,g2⟩,g3⟩|⟨g1,s2,g3,g4,_,g5⟩
  ·rw[h p (hp.mem_iff.2 g1)]at g2;cases g2
  rw[D,g3,asc_ext h4 g4 λk=>?_]
  rw[h5,g5]
  unfold QeU
  rw[Qpn hl' hp k]
 rcases Qcw hb l s hs hl with⟨h,D⟩|⟨h,s1,D,h4,h6,h5⟩
 ·exact .inl ⟨h,λr hr=>LA.2 ⟨key,by rw[D,hr];rfl⟩⟩
 exact .inr ⟨h,s1,LA.2 ⟨key,D⟩,h4,h6,h5⟩
end
def Qok {ρ:Type}{bad:Int×Int->Bool}{q:ρ}{body:Unit->Int×Int->O_ (Unit⊕ρ)}(D:∀p,body () p=some (bif bad p then .inr q else .inl ()))(l:L_ (Int×Int)):
  Hj body () l=some (bif l.any bad then .inr q else .inl ()):=by
 have h:∀l:L_ (Int×Int),Dg body () l=some (bif l.any bad then .inr q else .inl ()):=by
  intro l
  induction l with
  | nil=>rfl
  | cons p l ih=>
   simp only[Dg,D,Qd,List.any_cons]
   cases bad p with
   | true=>rfl
   | false=>exact ih
 refine LA.2 ⟨λl' hp=>?_,h l⟩
 rw[h,h]
 congr 2
 rw[ZN,EB,EB]
 exact⟨λ⟨x,a,b⟩=>⟨x,hp.mem_iff.1 a,b⟩,λ⟨x,a,b⟩=>⟨x,hp.mem_iff.2 a,b⟩⟩
def GA (a:Int):L_ (Int×Int)->Bool
 | []=>true
 | p::r=>!(decide (p.1<=a)||(decide (p.2<1)||decide (1048576<p.2)))&&GA p.1 r
def Qro {a:Int}{l:L_ (Int×Int)}:GA a l=true↔Gm l/\∀p∈l,a<p.1/\1<=p.2/\p.2<=1048576:=by
 induction l generalizing a with
 | nil=>simp[GA,Gm]
 | cons p l ih=>
  rw[GA,QQ,ih,Dv]
  simp only[Am,Kw,QX]
  constructor
  ·rintro ⟨⟨h1,h2,D⟩,h4,h5⟩
   refine⟨⟨λq h=>(h5 q h).1,h4⟩,λq h=>?_⟩
   rcases Yw.1 h with rfl | h
   ·omega
   have:=h5 q h;omega
  rintro ⟨⟨h1,h2⟩,D⟩
  have:=D p XY
  exact⟨by omega,h2,λq h=>⟨h1 q h,(D q (Yo _ h)).2⟩⟩
def Rt (l:L_ (Int×Int)):Prop:=Gm l/\∀p∈l,0<=p.1/\1<=p.2/\p.2<=1048576
def YQ {l:L_ (Int×Int)}:GA (-1) l=true↔Rt l:=by
 rw[Qro]
 constructor
 ·rintro ⟨h,D⟩;exact⟨h,λp hp=>by have:=D p hp;omega⟩
 rintro ⟨h,D⟩;exact⟨h,λp hp=>by have:=D p hp;omega⟩
def Rt.nil : Rt []:=⟨List.Pairwise.nil,λp h=>by cases h⟩
def Ef {l:L_ (Int×Int)}(h:Sp l){p:Int×Int}(hp:p∈l):QM l p.1=p.2:=by
 unfold QM;rw[(JH h).2 (show(p.1,p.2)∈l from hp)];rfl
def Rt.cnt {l:L_ (Int×Int)}(h:Rt l)(k:Int):0<=QM l k/\QM l k<=1048576:=by
 unfold QM
 cases e:QR l k with
 | none=>simp
 | some v=>have:=h.2 _ ((JH h.1.nd).1 e);simp at this ⊢;omega
def Rt.cnt_pos {l:L_ (Int×Int)}(h:Rt l){k:Int}(D:0<QM l k):0<=k:=by
 unfold QM at D
 cases e:QR l k with
 | none=>rw[e]at D;simp at D
 | some v=>exact(h.2 _ ((JH h.1.nd).1 e)).1
def rt_ext {l m:L_ (Int×Int)}(hl:Rt l)(hm:Rt m)(h:∀k,QM l k=QM m k):l=m:=by
 refine asc_ext hl.1 hm.1 λk=>?_
 have:=h k
 unfold QM at this
 cases e1:QR l k with
 | none=>
  cases D:QR m k with
  | none=>rfl
  | some v=>have h3:=hm.2 _ ((JH hm.1.nd).1 D);rw[e1,D]at this;simp at this h3;omega
 | some v=>
  have h3:=hl.2 _ ((JH hl.1.nd).1 e1)
  cases D:QR m k with
  | none=>rw[e1,D]at this;simp at this h3;omega
  | some u=>rw[e1,D]at this;simpa using this
def Lk (l:L_ (Int×Int)):L_ (Int×Int):=l.filter λp=>decide (0<p.2)
def Qmu {l:L_ (Int×Int)}(h:Gm l)(k:Int):QM (Lk l) k=if 0<QM l k then QM l k else 0:=by
 have hp:Gm (Lk l):=h.sublist List.filter_sublist
 by_cases c:0<QM l k
 ·rw[if_pos c]
  unfold QM at c
  cases e:QR l k with
  | none=>rw[e]at c;simp at c
  | some v=>
   rw[e]at c
   have D:(k,v)∈Lk l:=Lx.2 ⟨(JH h.nd).1 e,by simpa using c⟩
   unfold QM
   rw[(JH hp.nd).2 D,e]
 rw[if_neg c]
 unfold QM
 cases e:QR (Lk l) k with
 | none=>rfl
 | some v=>
  have D:=Lx.1 ((JH hp.nd).1 e)
  have h2:=(JH h.nd).2 D.1
  unfold QM at c
  rw[h2]at c
  simp at D c;omega
def Qpo {l:L_ (Int×Int)}(h:Gm l)(hb:∀k,0<QM l k->0<=k/\QM l k<=1048576):Rt (Lk l):=by
 refine⟨h.sublist List.filter_sublist,λp hp=>?_⟩
 obtain⟨D,h2⟩:=Lx.1 hp
 have h3:=Ef h.nd D
 have h4:0<p.2:=Xo h2
 have:=hb p.1 (by omega)
 omega
def Qpp {l:L_ (Int×Int)}(h:Gm l):DI (l.map Prod.fst)=l.map Prod.fst:=by
 rw[Qcg]
 refine List.mergeSort_of_pairwise ?_
 rw[TG]
 exact h.imp λh=>by simp;omega
def upL : Int->Nat->L_ Int
 | _,0=>[]
 | x,k+1=>x::upL (x+1) k
def binds : L_ Int->L_ (L_ Int)
 | []=>[[]]
 | s::r=>(0::upL 1 (s-1).toNat).flatMap λx=>(binds r).map (x::·)
def Jl : L_ Int->L_ Int->L_ (L_ Int)
 | s::r,x::d=>(Jl r d).map (x::·)++(upL (x+1) (s-(x+1)).toNat).flatMap λy=>(binds r).map (y::·)
 | _,_=>[]
def Ht (l:L_ Int):L_ Int:=List.replicate l.length 0
def Qba (l:L_ Int):binds l=Ht l::Jl l (Ht l):=by
 induction l with
 | nil=>rfl
 | cons s r h=>
  show(0::upL 1 (s-1).toNat).flatMap (λx=>(binds r).map (x::·))=(0::Ht r)::((Jl r (Ht r)).map (0::·)++(upL (0+1) (s-(0+1)).toNat).flatMap λy=>(binds r).map (y::·))
  rw[EC,Int.zero_add]
  have:(binds r).map (λx=>(0:Int)::x)=(0::Ht r)::(Jl r (Ht r)).map (0::·):=by rw[h];rfl
  rw[this];rfl
def TT : L_ Int->L_ Int->O_ (L_ Int)
 | s::r,x::d=>match TT r d with
  | some e=>some (x::e)
  | none=>if x+1<s then some ((x+1)::Ht r)else none
 | _,_=>none
def Qji : ∀l d:L_ Int,Jl l d=match TT l d with
  | none=>[]
  | some e=>e::Jl l e:=by
 intro l
 induction l with
 | nil=>intro d;rfl
 | cons s r D=>
  intro d
  cases d with
  | nil=>rfl
  | cons x d=>
   have h:=D d
   rw[TT]
   cases e:TT r d with
   | some e'=>
    rw[e]at h
    simp only[Jl,h];rfl
   | none=>
    rw[e]at h
    simp only at h
    simp only[Jl,h,List.map_nil,Nm]
    by_cases c:x+1<s
    ·rw[if_pos c]
     rw[show(s-(x+1)).toNat=(s-(x+1+1)).toNat+1 by omega,upL,EC]
     have:(binds r).map (λz=>(x+1)::z)=((x+1)::Ht r)::(Jl r (Ht r)).map ((x+1)::·):=by rw[Qba r];rfl
     rw[this];rfl
    rw[if_neg c,show(s-(x+1)).toNat=0 by omega];rfl
def Qek : ∀l d:L_ Int,(∀(j:Nat) x s,d[j]? = some x->l[j]? = some s->¬x+1<s)->TT l d=none:=by
 intro l
 induction l with
 | nil=>intro d _;cases d<;>rfl
 | cons s r ih=>
  intro d h
  cases d with
  | nil=>rfl
  | cons x d=>
   rw[TT,ih d λj y z D h2=>h (j+1) y z (by simpa using D) (by simpa using h2)]
   simp only
   rw[if_neg (h 0 x s rfl rfl)]
def Qnu : ∀(k:Nat) (l d:L_ Int) (x s:Int),l.length=d.length->d[k]? = some x->l[k]? = some s->x+1<s->(∀(j:Nat) y z,k<j->d[j]? = some y->l[j]? = some z->¬y+1<z)->
  TT l d=some (d.take k++(x+1)::List.replicate (d.length-(k+1)) 0):=by
 intro k
 induction k with
 | zero=>
  intro l d x s hl h hs D ha
  cases l with
  | nil=>cases hs
  | cons s' r=>
   cases d with
   | nil=>cases h
   | cons x' d=>
    simp only[List.getElem?_cons_zero,Option.some.injEq]at h hs
    subst h;subst hs
    rw[TT,Qek r d λj y z h1 h2=>ha (j+1) y z (by omega) (by simpa using h1) (by simpa using h2)]
    simp only
    rw[if_pos D]
    simp only[GF]at hl
    simp[Ht];omega
 | succ k ih=>
  intro l d x s hl h hs D ha
  cases l with
  | nil=>cases hs
  | cons s' r=>
   cases d with
   | nil=>cases h
   | cons x' d=>
    simp only[QeH]at h hs
    simp only[GF,Nat.add_right_cancel_iff]at hl
    rw[TT,ih r d x s hl h hs D λj y z h0 h1 h2=>ha (j+1) y z (by omega) (by simpa using h1) (by simpa using h2)]
    simp
def inB : L_ Int->L_ Int->Prop
 | [],[]=>True
 | s::r,x::d=>0<=x/\(x=0\/x<s)/\inB r d
 | _,_=>False
def Qrp {y x:Int}{k:Nat}:y∈upL x k↔x<=y/\y<x+k:=by
 induction k generalizing x with
 | zero=>
  simp only[upL,List.not_mem_nil,false_iff];omega
 | succ k h=>simp only[upL,Yw,h];omega
def Qpq {l d:L_ Int}:d∈binds l↔inB l d:=by
 induction l generalizing d with
 | nil=>cases d<;>simp[binds,inB]
 | cons s r ih=>
  cases d with
  | nil=>simp[binds,inB]
  | cons x d=>
   simp only[binds,List.mem_flatMap,Yw,Qrp,YL,List.cons.injEq,inB,<-ih]
   constructor
   ·rintro ⟨y,D,e,h,rfl,rfl⟩
    exact⟨by omega,by omega,h⟩
   rintro ⟨D,h,h3⟩
   exact⟨x,by omega,d,h3,rfl,rfl⟩
def Qrq {l d:L_ Int}(h:inB l d):d.length=l.length:=by
 induction l generalizing d with
 | nil=>cases d with
  | nil=>rfl
  | cons x d=>exact h.elim
 | cons s r D=>cases d with
  | nil=>exact h.elim
  | cons x d=>simp[D h.2.2]
section
variable {α:Type}
def Ja (most:Nat)(h X:L_ α):L_ α⊕L_ α:=if (h++X).length<most then .inr (h++X)else .inl ((h++X).take most)
def OP {most:Nat}{D:L_ α}(h:D.length<most):Ja most D []=.inr D:=by
 unfold Ja
 rw[QbO,if_pos h]
def QqB {most:Nat}{D X:L_ α}(h:D.length=most):Ja most D X=.inl D:=by
 unfold Ja
 rw[if_neg (by simp;omega)]
 subst h
 rw[List.take_left]
def QqC {most:Nat}{h X:L_ α}{x:α}:Ja most h (x::X)=Ja most (h++[x]) X:=by
 unfold Ja
 rw[WY];rfl
def QeV {most:Nat}{h X Y:L_ α}:Ja most h (X++Y)=match Ja most h X with
  | .inl a=>.inl a
  | .inr a=>Ja most a Y:=by
 unfold Ja
 by_cases c:(h++X).length<most
 ·rw[if_pos c]
  simp only[WY]
 rw[if_neg c,if_neg (by simp at c ⊢;omega),<-WY,QeL (by omega)]
def Qjj {most:Nat}{D X a:L_ α}(h:Ja most D X=.inr a):a.length<most:=by
 unfold Ja at h
 split at h
 ·cases h;assumption
 cases h
def QeW {most:Nat}{D X a:L_ α}(h:Ja most D X=.inr a):a=D++X:=by
 unfold Ja at h
 split at h
 ·cases h;rfl
 cases h
def Qmv {most:Nat}{X:L_ α}(h:0<most):(match Ja most [] X with | .inl a=>a | .inr a=>a)=X.take most:=by
 unfold Ja
 rw[Nm]
 by_cases c:X.length<most
 ·rw[if_pos c];simp only;rw[JR (by omega)]
 rw[if_neg c]
end
section
variable {M K:Type}[DecidableEq K](key:M->K)(succ:M->L_ M)
def QhD (out:L_ M)(x:M):Bool:=out.any λy=>decide (key y=key x)
def YK (most:Nat):L_ M->L_ M->L_ M⊕L_ M
 | out,[]=>.inr out
 | out,x::xs=>if QhD key out x then YK most out xs else if out.length=most then .inl out else YK most (out++[x]) xs
def GM (most:Nat):Nat->L_ M->Nat->L_ M×Bool
 | 0,out,_=>(out,true)
 | f+1,out,a=>match out[a]? with
  | none=>(out,true)
  | some x=>match YK key most out (succ x)with
   | .inl o=>(o,false)
   | .inr o=>GM most f o (a+1)
variable {key}{succ}
def Qol {most:Nat}:∀{xs out o:L_ M},YK key most out xs=.inr o->out.length<=most->(∃r,o=out++r)/\o.length<=most:=by
 intro xs
 induction xs with
 | nil=>intro out o h D;cases h;exact⟨⟨[],by simp⟩,D⟩
 | cons x xs ih=>
  intro out o h D
  rw[YK]at h
  split at h
  ·exact ih h D
  split at h
  ·cases h
  obtain⟨⟨r,hr⟩,h2⟩:=ih h (by simp;omega)
  exact⟨⟨x::r,by rw[hr];simp⟩,h2⟩
def Qom {most:Nat}:∀{xs out o:L_ M},YK key most out xs=.inl o->out.length<=most->(∃r,o=out++r)/\o.length=most:=by
 intro xs
 induction xs with
 | nil=>intro out o h D;cases h
 | cons x xs ih=>
  intro out o h D
  rw[YK]at h
  split at h
  ·exact ih h D
  split at h
  ·cases h;exact⟨⟨[],by simp⟩,by assumption⟩
  obtain⟨⟨r,hr⟩,h2⟩:=ih h (by simp;omega)
  exact⟨⟨x::r,by rw[hr];simp⟩,h2⟩
def NJ (key:M->K)(l:L_ M):Prop:=l.Pairwise λa b=>key a≠key b
def NJ.add {l:L_ M}{x:M}(h:NJ key l)(hx:QhD key l x=false):NJ key (l++[x]):=by
 unfold NJ
 rw[QhZ]
 refine⟨h,Qh1 _ _,λa ha b D=>?_⟩
 rw[OW]at D
 subst D
 intro e
 have:QhD key l b=true:=EB.2 ⟨a,ha,QE e⟩
 rw[this]at hx;cases hx
def Qjk {P:M->Prop}{most:Nat}:∀{xs out o:L_ M},(YK key most out xs=.inl o\/YK key most out xs=.inr o)->NJ key out->(∀x∈out,P x)->(∀x∈xs,P x)->NJ key o/\∀x∈o,P x:=by
 intro xs
 induction xs with
 | nil=>intro out o h ha hp _;rcases h with h | h<;>cases h;exact⟨ha,hp⟩
 | cons x xs ih=>
  intro out o h ha hp hx
  rw[YK]at h
  split at h
  ·exact ih h ha hp λy D=>hx y (Yo _ D)
  rename_i c
  split at h
  ·rcases h with h | h<;>cases h;exact⟨ha,hp⟩
  refine ih h (ha.add (by simpa using c)) (λy D=>?_) λy D=>hx y (Yo _ D)
  rcases YD.1 D with D | D
  ·exact hp y D
  simp at D;subst D;exact hx _ XY
def Qpr {P:M->Prop}(hs:∀x,P x->∀y∈succ x,P y){most:Nat}:∀(f:Nat) {out:L_ M} {a:Nat},out.length<=most->NJ key out->(∀x∈out,P x)->
  (∃r,(GM key succ most f out a).1=out++r)/\(GM key succ most f out a).1.length<=most/\NJ key (GM key succ most f out a).1/\∀x∈(GM key succ most f out a).1,P x:=by
 intro f
 induction f with
 | zero=>intro out a D h hp;exact⟨⟨[],by simp[GM]⟩,D,h,hp⟩
 | succ f ih=>
  intro out a D h hp
  rw[GM]
  cases ho:out[a]? with
  | none=>exact⟨⟨[],by simp⟩,D,h,hp⟩
  | some x=>
   simp only
   have hx:=hp x (XH ho)
   cases e:YK key most out (succ x)with
   | inl o=>
    obtain⟨h1,h2⟩:=Qom e D
    obtain⟨h3,h4⟩:=Qjk (.inl e) h hp (hs x hx)
    exact⟨h1,by simp only;omega,h3,h4⟩
   | inr o=>
    obtain⟨⟨r,hr⟩,h2⟩:=Qol e D
    obtain⟨h3,h4⟩:=Qjk (.inr e) h hp (hs x hx)
    simp only
    obtain⟨⟨r2,hr2⟩,k2⟩:=ih (a:=a+1) h2 h3 h4
    exact⟨⟨r++r2,by rw[hr2,hr,WY]⟩,k2⟩
end
end Go.Vm
noncomputable section
namespace Go.Proofs
open Go Go.RowKit Go.Vm
inductive KW : Qp->Prop where
 | mk (e:Qp):e.Kids.length<=maxLen->(∀k∈e.Kids,KW k)->KW e
def Wi {e:Qp}(h:KW e):QV KW e.Kids:=by
 cases h with
 | mk _ D h2=>exact⟨D,h2⟩
def SG {e k:Qp}(h:k∈e.Kids):SizeOf.sizeOf k<SizeOf.sizeOf e:=by
 obtain⟨a,b,l⟩:=e
 have:=List.sizeOf_lt_of_mem h
 simp only[Qp.mk.sizeOf_spec]at *
 omega
def Qp.pos (e:Qp):0<SizeOf.sizeOf e:=by
 obtain⟨a,b,l⟩:=e
 simp only[Qp.mk.sizeOf_spec];omega
inductive POk (v:Int):Qp->Prop where
 | mk (e:Qp):(e.Kind=1\/e.Kind=2\/e.Kind=3\/e.Kind=4\/e.Kind=5\/e.Kind=6)->(e.Kind=2->0<=e.Num/\e.Num<v)->(e.Kind=3\/e.Kind=4->e.Kids.length=1)->(e.Kind=5->e.Kids.length=2)->(e.Kind=6->e.Kids.length=3)->(∀k∈e.Kids,POk v k)->POk v e
def Jb (x:QD):Prop:=EW x.Name/\True/\True/\True/\(QV EW) x.Names/\True/\True
def WD (x:Xb):Prop:=EW x.Name/\True/\(QV (λ_=>True)) x.First
def GN (x:YS):Prop:=EW x.Name/\True
def Hu (x:Yg):Prop:=True/\KW x.Expr
def YH (x:QI):Prop:=EW x.Name/\(QV GN) x.Vars/\KW x.Guard/\True/\True/\(QV Hu) x.Ins/\(QV Hu) x.Outs/\(QV (λ_=>True)) x.Cancel/\True/\True
def Xp (x:Qk):Prop:=(QV Jb) x.Colours/\(QV WD) x.Places/\(QV YH) x.Tasks/\True/\True
def QlF (x:Ys):Prop:=(QV Jb) x.all/\(QV (λ_=>True)) x.sizes/\True
def Qjl (D:Qk)(h:Xp D):Xk (Nt D):=by
 unfold Nt
 exact T3
def KP (D:(L_ Xb))(h:Int)(h_l1:(QV WD) D):Qj (YT D h) λr=>r=true->0<=h/\h<D.length:=by
 unfold YT
 exact T2 (by first | (intro hr;first | (cases hr;done) | omega | ((try simp only[QQ,KE,Kw,Am,Fp,QB,QX,beq_iff_eq,bne_iff_ne,ne_eq,HU,ZO,JI,HW,Lw,Nk,WZ,GF,Mg,Mh,Mi]at *);omega)) | ((try simp only[QQ,KE,Kw,Am,Fp,QB,QX,beq_iff_eq,bne_iff_ne,ne_eq,HU,ZO,JI,HW,Lw,Nk,WZ,GF,Mg,Mh,Mi]at *);omega) | simp_all)
def Qjm (D:Qk)(h:Xp D):Xk (Nu D):=by
 unfold Nu
 refine T0 (P:=λ_=>True) ?_ (λx_1 hv2=>?_)
 ·unfold VK
  refine T0 (KP D.Places D.From (h.2.1)) (λx_3 hv4=>?_)
  refine T1 (λhc5=>?_) (λhc5=>?_)
  ·refine T0 (KP D.Places D.To (h.2.1)) (λx_6 hv7=>?_)
   exact T3
  exact T3
 unfold VL
 exact T3
def Qjn (D:Qk)(h:Xp D):Xk (Nv D):=by
 unfold Nv
 exact T3
def Qjo (D:Qk)(v2:Int)(v3:Int)(v4:Int)(h:Xp D):Xk (Nw D v2 v3 v4):=by
 unfold Nw
 refine T0 (Qjl D (h)) (λx_1 hv2=>?_)
 refine T1 (λhc3=>?_) (λhc3=>?_)
 ·exact T3
 refine T0 (Qjm D (h)) (λx_4 hv5=>?_)
 refine T1 (λhc6=>?_) (λhc6=>?_)
 ·exact T3
 refine T0 (Qjn D (h)) (λx_7 hv8=>?_)
 refine T1 (λhc9=>?_) (λhc9=>?_)
 ·exact T3
 exact T3
def Qjp (lo1:Int)(D:Int)  : Xk (AS lo1 D):=by
 unfold AS
 refine T1 (λh=>?_) (λh=>?_)
 ·exact T3
 exact T3
def Ts (h:Int)  : Xk (EH h):=by
 unfold EH
 exact T3
def BN (s1:ByteArray)(h_s1:EW s1):Xk (Da s1):=by
 unfold Da
 refine T0 (P:=λ_=>True) ?_ (λx_1 hv2=>?_)
 ·unfold Fv
  refine T1 (λhc3=>?_) (λhc3=>?_)
  ·exact T3
  have hshc3:=Qpm hc3
  refine T1 (λhc4=>?_) (λhc4=>?_)
  ·exact T3
  refine T0 (Qj.sidx (by omega) (by omega)) (λc_5 hv6=>?_)
  refine T0 (Ts c_5 ) (λx_7 hv8=>?_)
  exact T3
 unfold NZ
 refine T1 (λhc9=>?_) (λhc9=>?_)
 ·exact T3
 refine T0 (Qj.up (s1.size) (λst=>st) (λ_=>True) (Q:=λq=>True) rfl trivial (λi11 st h hn13 hj14=>?_)) (λq15 hq16=>?_)
 ·obtain⟨D,hst⟩:∃y,y=st:=⟨_,rfl⟩
  subst hst
  replace h:D=(i11:Int):=h
  show Qj (GR s1 D) _
  unfold GR
  refine T1 (λhc17=>?_) (λhc17=>?_)
  ·refine T0 (Qj.sidx (by omega) (by simp_all)) (λc_18 hv19=>?_)
   refine T0 (P:=λ_=>True) ?_ (λx_20 hv21=>?_)
   ·unfold NV
    refine T0 (Ts c_18 ) (λx_22 hv23=>?_)
    refine T1 (λhc24=>?_) (λhc24=>?_)
    ·refine T1 (λhc25=>?_) (λhc25=>?_)
     ·exact T3
     refine T1 (λhc26=>?_) (λhc26=>?_)
     ·exact T3
     exact T3
    exact T3
   unfold NW
   refine T1 (λhc27=>?_) (λhc27=>?_)
   ·exact T2 (Qq trivial)
   exact T2 (QJ ⟨(by simp_all),by subst h;exact Qt (by simp_all) h_s1,trivial⟩)
  exact T2 (Qq trivial)
 rcases q15 with q15 | q15
 ·show Qj (NX) _
  unfold NX
  exact T3
 show Qj (NY) _
 unfold NY
 exact T3
def QhE (l1:(L_ ByteArray))(D:(QV EW) l1):Xk (UO l1):=by
 unfold UO
 refine T0 (Qj.up (l1.length) (λst=>st.1) (λ_=>True) (Q:=λq=>True) rfl trivial (λi3 st hi4 hn5 hj6=>?_)) (λq7 hq8=>?_)
 ·obtain⟨x_1,m_2⟩:=st
  replace hi4:x_1=(i3:Int):=hi4
  show Qj (Wx l1 x_1 m_2) _
  unfold Wx
  refine T1 (λhc9=>?_) (λhc9=>?_)
  ·refine T0 (T4 (by omega) (by simp_all)) (λh hv11=>?_)
   refine T0 (P:=λ_=>True) ?_ (λx_12 hv13=>?_)
   ·unfold Mt
    refine T0 (BN h (((D).2 h hv11))) (λx_14 hv15=>?_)
    refine T1 (λhc16=>?_) (λhc16=>?_)
    ·exact T3
    exact T3
   unfold Mu
   refine T1 (λhc17=>?_) (λhc17=>?_)
   ·exact T2 (Qq trivial)
   exact T2 (QJ ⟨(by simp_all),by subst hi4;exact Qt (by simp_all) (D).1,trivial⟩)
  exact T2 (Qq trivial)
 rcases q7 with q7 | q7
 ·show Qj (Mv) _
  unfold Mv
  exact T3
 show Qj (Mw) _
 unfold Mw
 exact T3
def Qjq (c1:QD)(h:LI_)(h_c1:Jb c1)(D:(QV (λ_=>True)) h):Xk (AT c1 h):=by
 unfold AT
 refine T1 (λhc1=>?_) (λhc1=>?_)
 ·refine T0 (Qjp c1.Lo c1.Hi ) (λx_2 hv3=>?_)
  exact T3
 refine T1 (λhc4=>?_) (λhc4=>?_)
 ·refine T0 (QhE c1.Names (h_c1.2.2.2.2.1)) (λx_5 hv6=>?_)
  refine T1 (λhc7=>?_) (λhc7=>?_)
  ·exact T3
  unfold Dh
  exact T3
 refine T1 (λhc8=>?_) (λhc8=>?_)
 ·refine T1 (λhc9=>?_) (λhc9=>?_)
  ·refine T0 (T4 (by(try simp only[QQ,KE,Kw,Am,Fp,QB,QX,beq_iff_eq,bne_iff_ne,ne_eq,HU,ZO,JI,HW,Lw,Nk,WZ,GF,Mg,Mh,Mi]at *);omega) (by(try simp only[QQ,KE,Kw,Am,Fp,QB,QX,beq_iff_eq,bne_iff_ne,ne_eq,HU,ZO,JI,HW,Lw,Nk,WZ,GF,Mg,Mh,Mi]at *);omega)) (λe_10 hv11=>?_)
   refine T0 (T4 (by(try simp only[QQ,KE,Kw,Am,Fp,QB,QX,beq_iff_eq,bne_iff_ne,ne_eq,HU,ZO,JI,HW,Lw,Nk,WZ,GF,Mg,Mh,Mi]at *);omega) (by(try simp only[QQ,KE,Kw,Am,Fp,QB,QX,beq_iff_eq,bne_iff_ne,ne_eq,HU,ZO,JI,HW,Lw,Nk,WZ,GF,Mg,Mh,Mi]at *);omega)) (λe_12 hv13=>?_)
   exact T3
  unfold Dh
  exact T3
 unfold Dh
 exact T3
def Zs (D:(L_ QD))(h_l1:(QV Jb) D):Qj (GS D) λr=>((QV (λ_=>True)) r.1/\True)/\(r.2=true->r.1.length=D.length/\∀x∈r.1,1<=x/\x<=1024):=by
 unfold GS
 refine T1 (λhc=>T2 ⟨⟨QV.nil,trivial⟩,λh=>by cases h⟩) (λhc=>?_)
 have hl:D.length<=32:=by simp only[QX]at hc;omega
 refine T0 (Qj.up D.length (λst=>st.1) (λst=>(st.2.2.length:Int)=st.1/\∀x∈st.2.2,1<=x/\x<=1024) (Q:=λq=>∀l,q=.inr l->l.length=D.length/\∀x∈l,1<=x/\x<=1024) rfl ⟨rfl,λx h=>(by cases h)⟩ (λi st hi hn hj=>?_)) (λq hq=>?_)
 ·obtain⟨x,m,l⟩:=st
  replace hi:x=(i:Int):=hi
  replace hj:(l.length:Int)=x/\∀x∈l,1<=x/\x<=1024:=hj
  obtain⟨hj,hj2⟩:=hj
  show Qj (Wy D x m l) _
  unfold Wy
  refine T1 (λhc2=>?_) (λhc2=>?_)
  ·simp only[QB]at hc2
   refine T0 (T4 (by omega) (by omega)) λe he=>?_
   refine T0 (Qjq e l (h_l1.2 e he) ⟨by unfold maxLen;omega,λ_ _=>trivial⟩) λy _=>?_
   refine T0 (P:=λz=>z=false->1<=y/\y<=1024) ?_ λz hz=>?_
   ·unfold Mx
    refine T0 (BN e.Name (h_l1.2 e he).1) λz _=>?_
    refine T1 (λ_=>T2 (λh=>by cases h)) λ_=>T1 (λ_=>T2 (λh=>by cases h)) λ_=>T1 (λ_=>T2 (λh=>by cases h)) λh1=>T2 λh2=>?_
    simp only[QX]at h1 h2
    omega
   unfold My
   refine T1 (λ_=>T2 (Qq λl h=>by cases h)) λhz0=>?_
   refine T0 (T5 (by simp;omega)) λ_ _=>?_
   exact T2 (QJ ⟨by omega,by subst hi;exact Qt (by omega) (by unfold maxLen;omega:D.length<=maxLen),by simp only[JI,HW];subst hi;rw[Qt (show i<D.length by omega) (by unfold maxLen;omega)];omega,λu hu=>by
    rcases YD.1 hu with hu | hu
    ·exact hj2 u hu
    simp at hu;subst hu;exact hz hz0⟩)
  simp only[QX]at hc2
  exact T2 (Qq λl' h=>by cases h;exact⟨by omega,hj2⟩)
 rcases q with q | q
 ·exact T2 ⟨⟨QV.nil,trivial⟩,λh=>by cases h⟩
 have:=hq q rfl
 exact T2 ⟨⟨⟨by show q.length<=maxLen;unfold maxLen;omega,λ_ _=>trivial⟩,trivial⟩,λ_=>this⟩
def QhF (D:(L_ QD))(h:(QV Jb) D):Xk (LP D):=by
 unfold LP
 refine T0 (Zs D (h)) (λx_1 hv2=>?_)
 exact T3
def QbC (v1:Qk)(D:Int)(h:Xp v1)(hp0:0<=D)(hp1:D<v1.Colours.length):Xk (Aq v1 D):=by
 have hl:=h.1.1
 unfold maxLen at hl
 unfold Aq
 rw[XD (show -9223372036854775808<=D+1/\D+1<=9223372036854775807 by omega)]
 refine T0 (T5 (by simp only[QQ,QB];omega)) λ_ _=>?_
 exact T0 (QhF _ ((h.1.drop _).take _)) λx _=>T3
def Qjr : L_ ByteArray:=(Ho).getD []
set_option maxRecDepth 100000 in
def QqD : Ho=some Qjr:=by kernel_rfl
set_option maxRecDepth 100000 in
def Qne : (decide (Qjr.length<=1000)&&Qjr.all λs=>decide (s.size<=1000))=true:=by kernel_rfl
def Qjs : Qj (Ho) λr=>QV EW r:=by
 have h:=Qne
 rw[QQ,decide_eq_true_iff,XN]at h
 refine⟨Qjr,QqD,by unfold maxLen;omega,λx D=>?_⟩
 have:=h.2 x D
 rw[decide_eq_true_iff]at this
 unfold EW maxLen;omega
def Rh (s1:(L_ ByteArray))(v2:ByteArray)(D:(QV EW) s1)(h_v2:EW v2):Xk (Wp s1 v2):=by
 unfold Wp
 refine T0 (Qj.up (s1.length) (λst=>st) (λ_=>True) (Q:=λq=>True) rfl trivial (λi2 st h hn4 hj5=>?_)) (λq6 hq7=>?_)
 ·obtain⟨x_1,hst⟩:∃y,y=st:=⟨_,rfl⟩
  subst hst
  replace h:x_1=(i2:Int):=h
  show Qj (DN s1 v2 x_1) _
  unfold DN
  refine T1 (λhc8=>?_) (λhc8=>?_)
  ·refine T0 (T4 (by omega) (by simp_all)) (λe_9 hv10=>?_)
   refine T1 (λhc11=>?_) (λhc11=>?_)
   ·exact T2 (Qq trivial)
   exact T2 (QJ ⟨(by simp_all),by subst h;exact Qt (by simp_all) (D).1,trivial⟩)
  exact T2 (Qq trivial)
 rcases q6 with q6 | q6
 ·show Qj (DO q6) _
  unfold DO
  exact T3
 show Qj (DP) _
 unfold DP
 exact T3
def Nh (s1:(L_ ByteArray))(v2:ByteArray)(h:(QV EW) s1)(D:EW v2):Xk (Kz s1 v2):=by
 unfold Kz
 refine T0 (Rh s1 v2 (h) (D)) (λx_1 hv2=>?_)
 exact T3
def QkH (s1:ByteArray)(h:EW s1):Xk (PI s1):=by
 unfold PI
 refine T0 (Qjs  ) (λx_1 D=>?_)
 refine T0 (Nh x_1 s1 (D) (h)) (λx_3 hv4=>?_)
 exact T3
def Fa (D:ByteArray)(h:EW D):Xk (Ew D):=by
 unfold Ew
 refine T0 (P:=λ_=>True) ?_ (λx_1 hv2=>?_)
 ·unfold Qai
  refine T0 (BN D (h)) (λx_3 hv4=>?_)
  refine T1 (λhc5=>?_) (λhc5=>?_)
  ·refine T0 (QkH D (h)) (λx_6 hv7=>?_)
   exact T3
  exact T3
 unfold Qaj
 exact T3
def ZG (D:ByteArray)(h:EW D):Xk (EK D):=by
 unfold EK
 refine T0 (Fa D (h)) (λx_1 hv2=>?_)
 exact T3
def MN (s1:(L_ ByteArray))(h:(QV EW) s1):Xk (Kl s1):=by
 unfold Kl
 refine T0 (Qj.up (s1.length) (λst=>st) (λ_=>True) (Q:=λq=>True) rfl trivial (λi2 st D hn4 hj5=>?_)) (λq6 hq7=>?_)
 ·obtain⟨x_1,hst⟩:∃y,y=st:=⟨_,rfl⟩
  subst hst
  replace D:x_1=(i2:Int):=D
  show Qj (Wq s1 x_1) _
  unfold Wq
  refine T1 (λhc8=>?_) (λhc8=>?_)
  ·refine T0 (T4 (by omega) (by simp_all)) (λe_9 hv10=>?_)
   refine T0 (ZG e_9 (((h).2 e_9 hv10))) (λx_11 hv12=>?_)
   refine T1 (λhc13=>?_) (λhc13=>?_)
   ·exact T2 (Qq trivial)
   exact T2 (QJ ⟨(by simp_all),by subst D;exact Qt (by simp_all) (h).1,trivial⟩)
  exact T2 (Qq trivial)
 rcases q6 with q6 | q6
 ·show Qj (Wr q6) _
  unfold Wr
  exact T3
 show Qj (Ws) _
 unfold Ws
 exact T3
def IL (D:(L_ ByteArray))(h:(QV EW) D):Xk (JC D):=by
 unfold JC
 refine T0 (MN D (h)) (λx_1 hv2=>?_)
 exact T3
def QbD (D:QD)(h:Jb D):Xk (Ar D):=by
 unfold Ar
 refine T0 (P:=λ_=>True) ?_ (λx_1 hv2=>?_)
 ·unfold Nc
  refine T0 (Fa D.Name (h.1)) (λx_3 hv4=>?_)
  refine T1 (λhc5=>?_) (λhc5=>?_)
  ·refine T1 (λhc6=>?_) (λhc6=>?_)
   ·exact T3
   refine T0 (IL D.Names (h.2.2.2.2.1)) (λx_7 hv8=>?_)
   exact T3
  exact T3
 unfold Nd
 exact T3
def Qel (v1:Qk)(v2:Int)(v3:Int)(v4:QD)(v5:Int)(h:Xp v1)(D:Jb v4)(hp0:0<=v2)(hp1:v2<v1.Colours.length):Xk (Fz v1 v2 v3 v4 v5):=by
 unfold Fz
 refine T0 (QbC v1 v2 (h) (by omega) (by omega)) (λx_1 hv2=>?_)
 refine T1 (λhc3=>?_) (λhc3=>?_)
 ·exact T3
 refine T0 (QbD v4 (D)) (λx_4 hv5=>?_)
 refine T1 (λhc6=>?_) (λhc6=>?_)
 ·exact T3
 exact T3
def Qdo (k1:Int)(c2:QD)(v3:Qk)(h:Jb c2)(D:Xp v3)(hp0:0<=k1)(hp1:k1<v3.Colours.length):Xk (Co k1 c2 v3):=by
 unfold Co
 refine T0 (Qel v3 k1 8 c2 8 (D) (h) (by omega) (by omega)) (λx_1 hv2=>?_)
 exact T3
def TU (l1:(L_ QD))(v2:Qk)(h:(QV Jb) l1)(h_v2:Xp v2)(hp0:l1.length<=v2.Colours.length):Xk (GG l1 v2):=by
 unfold GG
 refine T0 (Qj.up (l1.length) (λst=>st) (λ_=>True) (Q:=λq=>True) rfl trivial (λi2 st D hn4 hj5=>?_)) (λq6 hq7=>?_)
 ·obtain⟨x_1,hst⟩:∃y,y=st:=⟨_,rfl⟩
  subst hst
  replace D:x_1=(i2:Int):=D
  show Qj (Ua l1 v2 x_1) _
  unfold Ua
  refine T1 (λhc8=>?_) (λhc8=>?_)
  ·refine T0 (T4 (by omega) (by simp_all)) (λe_9 hv10=>?_)
   refine T0 (Qdo x_1 e_9 v2 (((h).2 e_9 hv10)) (h_v2) (by omega) (by simp_all;omega)) (λx_11 hv12=>?_)
   refine T1 (λhc13=>?_) (λhc13=>?_)
   ·exact T2 (Qq trivial)
   exact T2 (QJ ⟨(by simp_all),by subst D;exact Qt (by simp_all) (h).1,trivial⟩)
  exact T2 (Qq trivial)
 rcases q6 with q6 | q6
 ·show Qj (Ub q6.1 q6.2) _
  unfold Ub
  exact T3
 show Qj (Uc) _
 unfold Uc
 exact T3
def Tt (n1:Qk)(h:Xp n1):Xk (Bx n1):=by
 unfold Bx
 refine T0 (TU n1.Colours n1 (h.1) (h) (by omega)) (λx_1 D=>?_)
 exact T3
def QfQ (D:Xb)(h:WD D):Xk (Ii D):=by
 unfold Ii
 refine T0 (Fa D.Name (h.1)) (λx_1 hv2=>?_)
 exact T3
def QfR (p1:Xb)(v2:Xb)(h:WD p1)(D:WD v2):Xk (Ij p1 v2):=by
 unfold Ij
 exact T3
def Hc (s1:(L_ Xb))(v2:Xb)(h:(QV WD) s1)(h_v2:WD v2):Xk (Jg s1 v2):=by
 unfold Jg
 refine T0 (Qj.up (s1.length) (λst=>st) (λ_=>True) (Q:=λq=>True) rfl trivial (λi2 st D hn4 hj5=>?_)) (λq6 hq7=>?_)
 ·obtain⟨x_1,hst⟩:∃y,y=st:=⟨_,rfl⟩
  subst hst
  replace D:x_1=(i2:Int):=D
  show Qj (JW s1 v2 x_1) _
  unfold JW
  refine T1 (λhc8=>?_) (λhc8=>?_)
  ·refine T0 (T4 (by omega) (by simp_all)) (λe_9 hv10=>?_)
   refine T0 (QfR e_9 v2 (((h).2 e_9 hv10)) (h_v2)) (λx_11 hv12=>?_)
   refine T1 (λhc13=>?_) (λhc13=>?_)
   ·exact T2 (Qq trivial)
   exact T2 (QJ ⟨(by simp_all),by subst D;exact Qt (by simp_all) (h).1,trivial⟩)
  exact T2 (Qq trivial)
 rcases q6 with q6 | q6
 ·show Qj (JX q6) _
  unfold JX
  exact T3
 show Qj (JY) _
 unfold JY
 exact T3
def Cf (s1:(L_ Xb))(v2:Xb)(h:(QV WD) s1)(D:WD v2):Xk (YU s1 v2):=by
 unfold YU
 refine T0 (Hc s1 v2 (h) (D)) (λx_1 hv2=>?_)
 exact T3
def QfS (v1:Qk)(v2:Int)(v3:Xb)(h:Xp v1)(D:WD v3)(hp0:0<=v2)(hp1:v2<v1.Places.length):Xk (Ik v1 v2 v3):=by
 unfold Ik
 refine T0 (T5 (by simp_all;omega)) (λ_ _=>?_)
 refine T0 (Cf ((v1.Places.drop 0).take (v2.toNat-0)) v3 (((h.2.1).drop _).take _) (D)) (λx_1 hv2=>?_)
 exact T3
def Hv (D:(L_ QD))(k2:Int)(h:(QV Jb) D):Xk (We D k2):=by
 unfold We
 exact T3
def QfT (D:Qk)(v2:Xb)(h:Xp D)(h_v2:WD v2):Xk (Il D v2):=by
 unfold Il
 refine T0 (Hv D.Colours v2.Colour (h.1)) (λx_1 hv2=>?_)
 exact T3
def QlG (b1:QBg)(h_b1:(QV (λ_=>True)) b1):Xk (WQ b1):=by
 unfold WQ
 refine T0 (Qj.up (b1.length) (λst=>st.2) (λ_=>True) (Q:=λq=>True) rfl trivial (λi3 st D hn5 hj6=>?_)) (λq7 hq8=>?_)
 ·obtain⟨h,x_2⟩:=st
  replace D:x_2=(i3:Int):=D
  show Qj (Dz b1 h x_2) _
  unfold Dz
  refine T1 (λhc9=>?_) (λhc9=>?_)
  ·refine T0 (T4 (by omega) (by simp_all)) (λe_10 hv11=>?_)
   refine T1 (λhc12=>?_) (λhc12=>?_)
   ·exact T2 (Qq trivial)
   exact T2 (QJ ⟨(by simp_all),by subst D;exact Qt (by simp_all) (h_b1).1,trivial⟩)
  exact T2 (Qq trivial)
 rcases q7 with q7 | q7
 ·show Qj (Rw) _
  unfold Rw
  exact T3
 show Qj (Rx) _
 unfold Rx
 exact T3
def QfU (D:Xb)(h:WD D):Xk (Im D):=by
 unfold Im
 refine T0 (QlG D.First (h.2.2)) (λx_1 hv2=>?_)
 exact T3
def Hw (l1:(L_ QD))(k2:Int)(D:(QV Jb) l1):Qj (WS l1 k2) λr=>(True/\QlF r.2)/\(r.1=true->(0<=k2/\k2<r.2.sizes.length)/\r.2.k=k2/\r.2.all.length=r.2.sizes.length/\∀x∈r.2.sizes,1<=x/\x<=1024):=by
 unfold WS
 refine T0 (Zs l1 D) λx hx=>?_
 refine T1 (λ_=>T2 ⟨⟨trivial,QV.nil,QV.nil,trivial⟩,λh=>by cases h⟩) λhc=>?_
 simp only[Kw,Fp,QX]at hc
 have:=hx.2 hc.1
 exact T2 ⟨⟨trivial,D,hx.1.1,trivial⟩,λ_=>⟨⟨by omega,by show k2<(x.1.length:Int);omega⟩,rfl,this.1.symm,this.2⟩⟩
def WK (l1:(L_ QD))(k2:Int)(D:(QV Jb) l1):Qj (YC l1 k2) λr=>0<=r/\r<=1024:=by
 unfold YC
 refine T0 (Hw l1 k2 D) (λx hx=>?_)
 refine T1 (λhc=>T2 (by omega)) (λhc=>?_)
 have h:=hx.2 (by simpa using hc)
 exact T0 (T4 (by omega) (by omega)) λe he=>T2 (by have:=h.2.2.2 e he;omega)
def Qdp (h:(Int×Int))(D:Int)  : Xk (Cp h D):=by
 unfold Cp
 exact T3
def MO (s1:QBg)(v2:Int)(D:(QV (λ_=>True)) s1):Xk (Km s1 v2):=by
 unfold Km
 refine T0 (Qj.up (s1.length) (λst=>st) (λ_=>True) (Q:=λq=>True) rfl trivial (λi2 st h hn4 hj5=>?_)) (λq6 hq7=>?_)
 ·obtain⟨x_1,hst⟩:∃y,y=st:=⟨_,rfl⟩
  subst hst
  replace h:x_1=(i2:Int):=h
  show Qj (Wt s1 v2 x_1) _
  unfold Wt
  refine T1 (λhc8=>?_) (λhc8=>?_)
  ·refine T0 (T4 (by omega) (by simp_all)) (λe_9 hv10=>?_)
   refine T0 (Qdp e_9 v2 ) (λx_11 hv12=>?_)
   refine T1 (λhc13=>?_) (λhc13=>?_)
   ·exact T2 (Qq trivial)
   exact T2 (QJ ⟨(by simp_all),by subst h;exact Qt (by simp_all) (D).1,trivial⟩)
  exact T2 (Qq trivial)
 rcases q6 with q6 | q6
 ·show Qj (Wu q6) _
  unfold Wu
  exact T3
 show Qj (Wv) _
 unfold Wv
 exact T3
def IM (D:QBg)(v2:Int)(h:(QV (λ_=>True)) D):Xk (JD D v2):=by
 unfold JD
 refine T0 (MO D v2 (h)) (λx_1 hv2=>?_)
 exact T3
def QfV (v1:Qk)(v2:Xb)(h:Xp v1)(D:WD v2):Xk (Io v1 v2):=by
 unfold Io
 refine T0 (WK v1.Colours v2.Colour (h.1)) (λx_1 hv2=>?_)
 refine T0 (IM v2.First x_1 (D.2.2)) (λx_3 hv4=>?_)
 exact T3
def Qem (v1:Xb)(v2:Int)(v3:Qk)(v4:Int)(v5:Int)(v6:Int)(v7:Int)(v8:Int)(h:WD v1)(D:Xp v3)(hp0:0<=v4)(hp1:v4<v3.Places.length):Xk (FA v1 v2 v3 v4 v5 v6 v7 v8):=by
 unfold FA
 refine T0 (QfQ v1 (h)) (λx_1 hv2=>?_)
 refine T1 (λhc3=>?_) (λhc3=>?_)
 ·exact T3
 refine T0 (QfS v3 v4 v1 (D) (h) (by omega) (by omega)) (λx_4 hv5=>?_)
 refine T1 (λhc6=>?_) (λhc6=>?_)
 ·exact T3
 refine T0 (QfT v3 v1 (D) (h)) (λx_7 hv8=>?_)
 refine T1 (λhc9=>?_) (λhc9=>?_)
 ·exact T3
 refine T0 (QfU v1 (h)) (λx_10 hv11=>?_)
 refine T1 (λhc12=>?_) (λhc12=>?_)
 ·exact T3
 refine T0 (QfV v3 v1 (D) (h)) (λx_13 hv14=>?_)
 refine T1 (λhc15=>?_) (λhc15=>?_)
 ·exact T3
 exact T3
def Qjt (n1:Qk)(k2:Int)(h:Xp n1):Xk (Nx n1 k2):=by
 unfold Nx
 refine T0 (KP n1.Places k2 (h.2.1)) (λx_1 hv2=>?_)
 refine T1 (λhc3=>?_) (λhc3=>?_)
 ·exact T3
 refine T0 (T4 (by simp_all) (by simp_all)) (λD hv5=>?_)
 refine T0 (Qem D 1 n1 k2 5 3 1 8 (((h.2.1).2 D hv5)) (h) (by simp_all) (by simp_all)) (λx_6 hv7=>?_)
 exact T3
def Qju (k1:Int)(p2:Xb)(v3:Qk)(D:WD p2)(h:Xp v3):Xk (Ny k1 p2 v3):=by
 unfold Ny
 refine T0 (Qjt v3 k1 (h)) (λx_1 hv2=>?_)
 exact T3
def Zt (l1:(L_ Xb))(v2:Qk)(h:(QV WD) l1)(h_v2:Xp v2):Xk (En l1 v2):=by
 unfold En
 refine T0 (Qj.up (l1.length) (λst=>st) (λ_=>True) (Q:=λq=>True) rfl trivial (λi2 st D hn4 hj5=>?_)) (λq6 hq7=>?_)
 ·obtain⟨x_1,hst⟩:∃y,y=st:=⟨_,rfl⟩
  subst hst
  replace D:x_1=(i2:Int):=D
  show Qj (UA l1 v2 x_1) _
  unfold UA
  refine T1 (λhc8=>?_) (λhc8=>?_)
  ·refine T0 (T4 (by omega) (by simp_all)) (λe_9 hv10=>?_)
   refine T0 (Qju x_1 e_9 v2 (((h).2 e_9 hv10)) (h_v2)) (λx_11 hv12=>?_)
   refine T1 (λhc13=>?_) (λhc13=>?_)
   ·exact T2 (Qq trivial)
   exact T2 (QJ ⟨(by simp_all),by subst D;exact Qt (by simp_all) (h).1,trivial⟩)
  exact T2 (Qq trivial)
 rcases q6 with q6 | q6
 ·show Qj (UB q6.1 q6.2) _
  unfold UB
  exact T3
 show Qj (UC) _
 unfold UC
 exact T3
def Ll (D:(L_ QI))(h:Int)(h_l1:(QV YH) D):Qj (Jx D h) λr=>r=true->0<=h/\h<D.length:=by
 unfold Jx
 exact T2 (by first | (intro hr;first | (cases hr;done) | omega | ((try simp only[QQ,KE,Kw,Am,Fp,QB,QX,beq_iff_eq,bne_iff_ne,ne_eq,HU,ZO,JI,HW,Lw,Nk,WZ,GF,Mg,Mh,Mi]at *);omega)) | ((try simp only[QQ,KE,Kw,Am,Fp,QB,QX,beq_iff_eq,bne_iff_ne,ne_eq,HU,ZO,JI,HW,Lw,Nk,WZ,GF,Mg,Mh,Mi]at *);omega) | simp_all)
def Qjv (v1:Int)(v2:Qk)(v3:QI)(h:Xp v2)(D:YH v3):Xk (Nz v1 v2 v3):=by
 unfold Nz
 exact T3
def Qen (v1:Int)(v2:Qk)(v3:QI)(v4:Int)(h:Xp v2)(D:YH v3):Xk (FB v1 v2 v3 v4):=by
 unfold FB
 exact T3
def Qeo (v1:Int)(v2:Qk)(v3:QI)(v4:Int)(h:Xp v2)(D:YH v3):Xk (FC v1 v2 v3 v4):=by
 unfold FC
 exact T3
def Qep (v1:Int)(v2:Qk)(v3:QI)(h:Xp v2)(D:YH v3):Xk (FD v1 v2 v3):=by
 unfold FD
 exact T3
def QhG (D:QI)(h:YH D):Xk (LS D):=by
 unfold LS
 refine T0 (Fa D.Name (h.1)) (λx_1 hv2=>?_)
 exact T3
def QhH (p1:QI)(v2:QI)(h:YH p1)(D:YH v2):Xk (LT p1 v2):=by
 unfold LT
 exact T3
def HT (s1:(L_ QI))(v2:QI)(h:(QV YH) s1)(h_v2:YH v2):Xk (Jv s1 v2):=by
 unfold Jv
 refine T0 (Qj.up (s1.length) (λst=>st) (λ_=>True) (Q:=λq=>True) rfl trivial (λi2 st D hn4 hj5=>?_)) (λq6 hq7=>?_)
 ·obtain⟨x_1,hst⟩:∃y,y=st:=⟨_,rfl⟩
  subst hst
  replace D:x_1=(i2:Int):=D
  show Qj (Kr s1 v2 x_1) _
  unfold Kr
  refine T1 (λhc8=>?_) (λhc8=>?_)
  ·refine T0 (T4 (by omega) (by simp_all)) (λe_9 hv10=>?_)
   refine T0 (QhH e_9 v2 (((h).2 e_9 hv10)) (h_v2)) (λx_11 hv12=>?_)
   refine T1 (λhc13=>?_) (λhc13=>?_)
   ·exact T2 (Qq trivial)
   exact T2 (QJ ⟨(by simp_all),by subst D;exact Qt (by simp_all) (h).1,trivial⟩)
  exact T2 (Qq trivial)
 rcases q6 with q6 | q6
 ·show Qj (Ks q6) _
  unfold Ks
  exact T3
 show Qj (Kt) _
 unfold Kt
 exact T3
def Fg (s1:(L_ QI))(v2:QI)(h:(QV YH) s1)(D:YH v2):Xk (Jd s1 v2):=by
 unfold Jd
 refine T0 (HT s1 v2 (h) (D)) (λx_1 hv2=>?_)
 exact T3
def QhI (v1:Qk)(v2:Int)(v3:QI)(h:Xp v1)(D:YH v3)(hp0:0<=v2)(hp1:v2<v1.Tasks.length):Xk (LU v1 v2 v3):=by
 unfold LU
 refine T0 (T5 (by simp_all;omega)) (λ_ _=>?_)
 refine T0 (Fg ((v1.Tasks.drop 0).take (v2.toNat-0)) v3 (((h.2.2.1).drop _).take _) (D)) (λx_1 hv2=>?_)
 exact T3
def QhJ (v1:Int)(D:QI)(h:YH D):Xk (CO v1 D):=by
 unfold CO
 exact T3
def ZH (D:YS)(h:GN D):Xk (EL D):=by
 unfold EL
 refine T0 (Fa D.Name (h.1)) (λx_1 hv2=>?_)
 exact T3
def ZI (p1:YS)(v2:YS)(h:GN p1)(D:GN v2):Xk (EM p1 v2):=by
 unfold EM
 exact T3
def Lm (s1:(L_ YS))(v2:YS)(h:(QV GN) s1)(h_v2:GN v2):Xk (JN s1 v2):=by
 unfold JN
 refine T0 (Qj.up (s1.length) (λst=>st) (λ_=>True) (Q:=λq=>True) rfl trivial (λi2 st D hn4 hj5=>?_)) (λq6 hq7=>?_)
 ·obtain⟨x_1,hst⟩:∃y,y=st:=⟨_,rfl⟩
  subst hst
  replace D:x_1=(i2:Int):=D
  show Qj (KR s1 v2 x_1) _
  unfold KR
  refine T1 (λhc8=>?_) (λhc8=>?_)
  ·refine T0 (T4 (by omega) (by simp_all)) (λe_9 hv10=>?_)
   refine T0 (ZI e_9 v2 (((h).2 e_9 hv10)) (h_v2)) (λx_11 hv12=>?_)
   refine T1 (λhc13=>?_) (λhc13=>?_)
   ·exact T2 (Qq trivial)
   exact T2 (QJ ⟨(by simp_all),by subst D;exact Qt (by simp_all) (h).1,trivial⟩)
  exact T2 (Qq trivial)
 rcases q6 with q6 | q6
 ·show Qj (KS q6) _
  unfold KS
  exact T3
 show Qj (KT) _
 unfold KT
 exact T3
def Hx (s1:(L_ YS))(v2:YS)(h:(QV GN) s1)(D:GN v2):Xk (Jm s1 v2):=by
 unfold Jm
 refine T0 (Lm s1 v2 (h) (D)) (λx_1 hv2=>?_)
 exact T3
def ZJ (v1:(L_ YS))(v2:Int)(v3:YS)(h:(QV GN) v1)(D:GN v3)(hp0:0<=v2)(hp1:v2<v1.length):Xk (EN v1 v2 v3):=by
 unfold EN
 refine T0 (T5 (by simp_all;omega)) (λ_ _=>?_)
 refine T0 (Hx ((v1.drop 0).take (v2.toNat-0)) v3 (((h).drop _).take _) (D)) (λx_1 hv2=>?_)
 exact T3
def ZK (D:Qk)(v2:YS)(h:Xp D)(h_v2:GN v2):Xk (EO D v2):=by
 unfold EO
 refine T0 (Hv D.Colours v2.Colour (h.1)) (λx_1 hv2=>?_)
 exact T3
def Qeq (v1:YS)(v2:Int)(v3:(L_ YS))(v4:Int)(v5:Int)(v6:Qk)(v7:Int)(h:GN v1)(D:(QV GN) v3)(h_v6:Xp v6)(hp0:0<=v4)(hp1:v4<v3.length):Xk (FF v1 v2 v3 v4 v5 v6 v7):=by
 unfold FF
 refine T0 (ZH v1 (h)) (λx_1 hv2=>?_)
 refine T1 (λhc3=>?_) (λhc3=>?_)
 ·exact T3
 refine T0 (ZJ v3 v4 v1 (D) (h) (by omega) (by omega)) (λx_4 hv5=>?_)
 refine T1 (λhc6=>?_) (λhc6=>?_)
 ·exact T3
 refine T0 (ZK v6 v1 (h_v6) (h)) (λx_7 hv8=>?_)
 refine T1 (λhc9=>?_) (λhc9=>?_)
 ·exact T3
 exact T3
def QbE (k1:Int)(v2:YS)(v3:(L_ YS))(v4:Qk)(h:GN v2)(D:(QV GN) v3)(h_v4:Xp v4)(hp0:0<=k1)(hp1:k1<v3.length):Xk (Au k1 v2 v3 v4):=by
 unfold Au
 refine T0 (Qeq v2 1 v3 k1 5 v4 3 (h) (D) (h_v4) (by omega) (by omega)) (λx_1 hv2=>?_)
 exact T3
def Qbb (l1:(L_ YS))(v2:(L_ YS))(v3:Qk)(h:(QV GN) l1)(h_v2:(QV GN) v2)(h_v3:Xp v3)(hp0:l1.length<=v2.length):Xk (UD l1 v2 v3):=by
 unfold UD
 refine T0 (Qj.up (l1.length) (λst=>st) (λ_=>True) (Q:=λq=>True) rfl trivial (λi2 st D hn4 hj5=>?_)) (λq6 hq7=>?_)
 ·obtain⟨x_1,hst⟩:∃y,y=st:=⟨_,rfl⟩
  subst hst
  replace D:x_1=(i2:Int):=D
  show Qj (AA l1 v2 v3 x_1) _
  unfold AA
  refine T1 (λhc8=>?_) (λhc8=>?_)
  ·refine T0 (T4 (by omega) (by simp_all)) (λe_9 hv10=>?_)
   refine T0 (QbE x_1 e_9 v2 v3 (((h).2 e_9 hv10)) (h_v2) (h_v3) (by omega) (by simp_all;omega)) (λx_11 hv12=>?_)
   refine T1 (λhc13=>?_) (λhc13=>?_)
   ·exact T2 (Qq trivial)
   exact T2 (QJ ⟨(by simp_all),by subst D;exact Qt (by simp_all) (h).1,trivial⟩)
  exact T2 (Qq trivial)
 rcases q6 with q6 | q6
 ·show Qj (AB q6.1 q6.2) _
  unfold AB
  exact T3
 show Qj (AC) _
 unfold AC
 exact T3
def Qdq (n1:Qk)(l2:(L_ YS))(D:Xp n1)(h:(QV GN) l2):Xk (Cq n1 l2):=by
 unfold Cq
 refine T0 (Qbb l2 l2 n1 (h) (h) (D) (by omega)) (λx_1 hv2=>?_)
 exact T3
def QhK (v1:Qk)(v2:QI)(h:Xp v1)(D:YH v2):Xk (LV v1 v2):=by
 unfold LV
 refine T0 (Qdq v1 v2.Vars (h) (D.2.1)) (λx_1 hv2=>?_)
 exact T3
def QfW (v1:Qk)(v2:QI)(v3:Int)(h:Xp v1)(D:YH v2):Xk (Bz v1 v2 v3):=by
 unfold Bz
 refine T0 (QhK v1 v2 (h) (D)) (λx_1 hv2=>?_)
 exact T3
def QaJ (n1:Qk)(k2:Int)(h:Xp n1):Xk (De n1 k2):=by
 unfold De
 refine T0 (Ll n1.Tasks k2 (h.2.2.1)) (λx_1 hv2=>?_)
 refine T1 (λhc3=>?_) (λhc3=>?_)
 ·exact T3
 refine T0 (T4 (by simp_all) (by simp_all)) (λe_4 hv5=>?_)
 refine T0 (Qj.up (e_4.Vars.length) (λst=>st.2) (λ_=>True) (Q:=λq=>True) rfl trivial (λi8 st hi9 hn10 hj11=>?_)) (λD hq13=>?_)
 ·obtain⟨out_6,x_7⟩:=st
  replace hi9:x_7=(i8:Int):=hi9
  show Qj (Ad e_4 n1 out_6 x_7) _
  unfold Ad
  refine T1 (λhc14=>?_) (λhc14=>?_)
  ·refine T0 (T4 (by omega) (by simp_all)) (λe_15 hv16=>?_)
   refine T0 (WK n1.Colours e_15.Colour (h.1)) (λx_17 hv18=>?_)
   refine T1 (λhc19=>?_) (λhc19=>?_)
   ·exact T2 (Qq trivial)
   exact T2 (QJ ⟨(by simp_all),by subst hi9;exact Qt (by simp_all) (((h.2.2.1).2 e_4 hv5).2.1).1,trivial⟩)
  exact T2 (Qq trivial)
 rcases D with D | D
 ·show Qj (Ow) _
  unfold Ow
  exact T3
 show Qj (Ox D) _
 unfold Ox
 exact T3
def QhL (D:Qk)(v2:Int)(h:Xp D):Xk (CP D v2):=by
 unfold CP
 refine T0 (QaJ D v2 (h)) (λx_1 hv2=>?_)
 exact T3
def QlH (h:Int):Qj (MX h) λr=>0<=r->(h=1\/h=2\/h=3\/h=4\/h=5\/h=6)/\(h=3\/h=4->r=1)/\(h=5->r=2)/\(h=6->r=3):=by
 unfold MX
 refine T1 (λD=>?_) (λD=>?_)
 ·unfold UQ;rw[D]
  simp only[beq_iff_eq]at D
  exact T2 (by omega)
 simp only[beq_eq_false_iff_ne]at D
 unfold UQ
 refine T1 (λD=>T2 (by simp only[beq_iff_eq]at D;omega)) (λhc2=>?_)
 simp only[beq_eq_false_iff_ne]at hc2
 refine T1 (λhc3=>?_) (λhc3=>?_)
 ·unfold UP;rw[hc3]
  simp only[beq_iff_eq]at hc3
  exact T2 (by omega)
 simp only[beq_eq_false_iff_ne]at hc3
 unfold UP
 refine T1 (λD=>T2 (by simp only[beq_iff_eq]at D;omega)) (λhc4=>?_)
 simp only[beq_eq_false_iff_ne]at hc4
 refine T1 (λD=>T2 (by simp only[beq_iff_eq]at D;omega)) (λhc5=>?_)
 simp only[beq_eq_false_iff_ne]at hc5
 exact T1 (λD=>T2 (by simp only[beq_iff_eq]at D;omega)) (λhc6=>T2 (by omega))
def QkI (Yx:Int)  : Xk (IV Yx):=by
 unfold IV
 exact T3
def RT (rec_:Qp->Int->O_ Bool)(D:L_ Qp)(v2:Int)(h1:D.length<=maxLen)(h:∀k∈D,Qj (rec_ k v2) λr=>r=true->POk v2 k):Qj (XM rec_ D v2) λr=>r=false->∀k∈D,POk v2 k:=by
 unfold XM Jr
 refine T0 (P:=λx=>x<0->∀k∈D,POk v2 k) ?_ λx hx=>T2 λh=>hx (by simp only[QX]at h;omega)
 refine T0 (Qj.up D.length (λst=>st) (λst=>∀(j:Nat) k,(j:Int)<st->D[j]? = some k->POk v2 k) (Q:=λq=>(∀x,q=.inl x->0<=x)/\(q=.inr ()->∀k∈D,POk v2 k)) rfl (λj k hj=>by omega) (λi st hi hn hj=>?_)) (λq hq=>?_)
 ·show Qj (XL D rec_ v2 st) _
  unfold XL LJ
  refine T1 (λhc=>?_) (λhc=>T2 (Qq ⟨λx h=>(by cases h),λ_ k hk=>by
   obtain⟨j,hj1,hj2⟩:=HX.1 hk
   simp only[QX]at hc
   exact hj j k (by omega) (by rw[Qy hj1,hj2])⟩))
  simp only[QB]at hc
  rw[WN (by omega)]
  have hlt:st.toNat<D.length:=by omega
  rw[Qy hlt]
  refine T0 (P:=λk=>k=D[st.toNat]) (T2 rfl) λk hk=>?_
  subst hk
  refine T0 (P:=λr=>r=false->POk v2 D[st.toNat]) (T0 (h _ (Xn hlt)) λx hx=>T2 λh=>hx (by simpa using h)) λx hx=>?_
  refine T1 (λ_=>T2 (Qq ⟨λx h=>(by cases h;omega),λh=>(by cases h)⟩)) λhxf=>T2 (QJ ⟨by omega,by rw[hi];exact Qt (by omega) h1,?_⟩)
  rw[hi,Qt (show i<D.length by omega) h1]
  intro j k hj' hk
  by_cases c:j=i
  ·subst c
   have e:st.toNat=j:=by omega
   have:=hx hxf
   rw[Qy (by omega)]at hk
   cases hk
   simpa only[e] using this
  exact hj j k (by omega) hk
 rcases q with q | q
 ·exact T2 λh=>absurd (hq.1 q rfl) (by omega)
 exact T2 λ_=>hq.2 rfl
def OH : ∀(n:Nat) (e:Qp) (v:Int),KW e->SizeOf.sizeOf e<=n->Qj (YP n e v) λr=>r=true->POk v e
 | 0,e,_,_,h=>absurd e.pos (by omega)
 | n+1,e,v,he,h=>by
  unfold YP CD
  refine T0 (QlH e.Kind) λx hx=>?_
  refine T1 (λ_=>T2 λh=>by cases h) λh1=>T1 (λ_=>T2 λh=>by cases h) λh2=>?_
  refine T0 (P:=λ_=>True) ?_ λy _=>?_
  ·unfold Ph
   exact T1 (λ_=>T0 (QkI e.Num) λx _=>T3) λ_=>T3
  unfold Pi
  refine T1 (λ_=>T2 λh=>by cases h) λ_=>?_
  refine T0 (RT (YP n) e.Kids v (Wi he).1 λk D=>OH n k v ((Wi he).2 k D) (by have:=SG D;omega)) λx hx2=>T2 λhx3=>?_
  simp only[WP]at h1
  have h3:=hx (by omega)
  simp only[Bool.and_eq_false_iff,Kw,QX,beq_eq_false_iff_ne]at h2
  exact .mk e h3.1 (λD=>by omega) (λD=>by have:=h3.2.1 D;omega) (λD=>by have:=h3.2.2.1 D;omega) (λD=>by have:=h3.2.2.2 D;omega) (hx2 (by simpa using hx3))
def QkJ (e1:Qp)(h:Int)(D:KW e1):Qj (Pj e1 h) λr=>r=true->POk h e1:=OH _ e1 h D (YY _)
def Zu : ∀(n:Nat) (e:Qp),KW e->SizeOf.sizeOf e<=n->Qj (KA n e) λ_=>True
 | 0,e,_,h=>absurd e.pos (by omega)
 | n+1,e,he,h=>by
  unfold KA LI
  refine T0 (Qj.up e.Kids.length (λst=>st.2) (λ_=>True) (Q:=λ_=>True) rfl trivial (λi st D hn _=>?_)) (λq _=>?_)
  ·obtain⟨a,x⟩:=st
   replace D:x=(i:Int):=D
   show Qj (Pf e (KA n) a x) _
   unfold Pf
   refine T1 (λhc=>?_) (λhc=>?_)
   ·simp only[QB]at hc
    refine T0 (T4 (by omega) (by omega)) λk hk=>?_
    have:=SG hk
    refine T0 (Zu n k ((Wi he).2 k hk) (by omega)) λd _=>?_
    exact T2 (QJ ⟨by omega,by subst D;exact Qt (by omega) (Wi he).1,trivial⟩)
   exact T2 (Qq trivial)
  unfold Qaa
  exact T3
def QkK (D:Qp)(h:KW D):Qj (Pg D) λ_=>True:=Zu _ D h (YY _)
def QaK : ∀(n:Nat) (e:Qp),KW e->SizeOf.sizeOf e<=n->Qj (Wk n e) λ_=>True
 | 0,e,_,h=>absurd e.pos (by omega)
 | n+1,e,he,h=>by
  unfold Wk Nq
  refine T0 (Qj.up e.Kids.length (λst=>st.2) (λ_=>True) (Q:=λ_=>True) rfl trivial (λi st D hn _=>?_)) (λq _=>?_)
  ·obtain⟨a,x⟩:=st
   replace D:x=(i:Int):=D
   show Qj (RB e (Wk n) a x) _
   unfold RB
   refine T1 (λhc=>?_) (λhc=>?_)
   ·simp only[QB]at hc
    refine T0 (T4 (by omega) (by omega)) λk hk=>?_
    have:=SG hk
    refine T0 (QaK n k ((Wi he).2 k hk) (by omega)) λd _=>?_
    exact T2 (QJ ⟨by omega,by subst D;exact Qt (by omega) (Wi he).1,trivial⟩)
   exact T2 (Qq trivial)
  unfold Qbn
  exact T3
def QlI (D:Qp)(h:KW D):Qj (Sh D) λ_=>True:=QaK _ D h (YY _)
def Mk (e1:Qp)(D:Int)(h_e1:KW e1):Qj (Et e1 D) λr=>r=true->POk D e1:=by
 unfold Et
 refine T0 (P:=λr=>r=true->POk D e1) ?_ (λx hx=>T2 hx)
 unfold Pk
 refine T0 (QkK e1 h_e1) (λx _=>?_)
 refine T1 (λ_=>?_) (λ_=>T2 λh=>by cases h)
 refine T0 (QlI e1 h_e1) (λx _=>?_)
 refine T1 (λ_=>?_) (λ_=>T2 λh=>by cases h)
 exact T0 (QkJ e1 D h_e1) (λx hx=>T2 hx)
def QhM (v1:QI)(v2:Int)(h:YH v1):Xk (LW v1 v2):=by
 unfold LW
 refine T0 (P:=λ_=>True) ?_ (λx_1 hv2=>?_)
 ·unfold Te
  refine T0 (Mk v1.Guard v2 (h.2.2.1)) (λx_3 hv4=>?_)
  refine T1 (λD=>?_) (λD=>?_)
  ·refine T1 (λhc6=>?_) (λhc6=>?_)
   ·exact T3
   exact T3
  exact T3
 unfold Tf
 exact T3
def Qer (D:Qk)(v2:Yg)(h:Xp D)(h_v2:Hu v2):Xk (FG D v2):=by
 unfold FG
 refine T0 (KP D.Places v2.Place (h.2.1)) (λx_1 hv2=>?_)
 exact T3
def Qes (D:Yg)(v2:Int)(h:Hu D):Xk (FH D v2):=by
 unfold FH
 refine T0 (Mk D.Expr v2 (h.2)) (λx_1 hv2=>?_)
 exact T3
def Qet (v1:Qk)(v2:Yg)(v3:Int)(v4:Int)(v5:Int)(D:Xp v1)(h:Hu v2):Xk (FJ v1 v2 v3 v4 v5):=by
 unfold FJ
 refine T0 (Qer v1 v2 (D) (h)) (λx_1 hv2=>?_)
 refine T1 (λhc3=>?_) (λhc3=>?_)
 ·exact T3
 refine T0 (Qes v2 v4 (h)) (λx_4 hv5=>?_)
 refine T1 (λhc6=>?_) (λhc6=>?_)
 ·exact T3
 exact T3
def QhN (p1:Int)(a2:Yg)(v3:Qk)(v4:Int)(h:Hu a2)(D:Xp v3):Xk (LX p1 a2 v3 v4):=by
 unfold LX
 refine T0 (Qet v3 a2 3 v4 1 (D) (h)) (λx_1 hv2=>?_)
 exact T3
def Qbc (l1:(L_ Yg))(v2:Qk)(v3:Int)(h:(QV Hu) l1)(h_v2:Xp v2):Xk (UE l1 v2 v3):=by
 unfold UE
 refine T0 (Qj.up (l1.length) (λst=>st) (λ_=>True) (Q:=λq=>True) rfl trivial (λi2 st D hn4 hj5=>?_)) (λq6 hq7=>?_)
 ·obtain⟨x_1,hst⟩:∃y,y=st:=⟨_,rfl⟩
  subst hst
  replace D:x_1=(i2:Int):=D
  show Qj (AD l1 v2 v3 x_1) _
  unfold AD
  refine T1 (λhc8=>?_) (λhc8=>?_)
  ·refine T0 (T4 (by omega) (by simp_all)) (λe_9 hv10=>?_)
   refine T0 (QhN x_1 e_9 v2 v3 (((h).2 e_9 hv10)) (h_v2)) (λx_11 hv12=>?_)
   refine T1 (λhc13=>?_) (λhc13=>?_)
   ·exact T2 (Qq trivial)
   exact T2 (QJ ⟨(by simp_all),by subst D;exact Qt (by simp_all) (h).1,trivial⟩)
  exact T2 (Qq trivial)
 rcases q6 with q6 | q6
 ·show Qj (AE q6.1 q6.2) _
  unfold AE
  exact T3
 show Qj (AF) _
 unfold AF
 exact T3
def QbF (n1:Qk)(l2:(L_ Yg))(h:Int)(h_n1:Xp n1)(D:(QV Hu) l2):Xk (Le n1 l2 h):=by
 unfold Le
 refine T0 (Qbc l2 n1 h (D) (h_n1)) (λx_1 hv2=>?_)
 exact T3
def QhO (v1:Qk)(v2:QI)(v3:Int)(h:Xp v1)(D:YH v2):Xk (LY v1 v2 v3):=by
 unfold LY
 refine T0 (QbF v1 v2.Ins v3 (h) (D.2.2.2.2.2.1)) (λx_1 hv2=>?_)
 exact T3
def Qcx (v1:Qk)(v2:QI)(v3:Int)(v4:Int)(h:Xp v1)(D:YH v2):Xk (BA v1 v2 v3 v4):=by
 unfold BA
 refine T0 (QhO v1 v2 v3 (h) (D)) (λx_1 hv2=>?_)
 exact T3
def QhP (v1:Qk)(v2:QI)(v3:Int)(h:Xp v1)(D:YH v2):Xk (LZ v1 v2 v3):=by
 unfold LZ
 refine T0 (QbF v1 v2.Outs v3 (h) (D.2.2.2.2.2.2.1)) (λx_1 hv2=>?_)
 exact T3
def Qcy (v1:Qk)(v2:QI)(v3:Int)(v4:Int)(h:Xp v1)(D:YH v2):Xk (BB v1 v2 v3 v4):=by
 unfold BB
 refine T0 (QhP v1 v2 v3 (h) (D)) (λx_1 hv2=>?_)
 exact T3
def QbG (D:Qk)(v2:Int)(h:Xp D):Xk (Av D v2):=by
 unfold Av
 refine T0 (KP D.Places v2 (h.2.1)) (λx_1 hv2=>?_)
 exact T3
def Zv (s1:LI_)(v2:Int)(D:(QV (λ_=>True)) s1):Xk (WV s1 v2):=by
 unfold WV
 refine T0 (Qj.up (s1.length) (λst=>st) (λ_=>True) (Q:=λq=>True) rfl trivial (λi2 st h hn4 hj5=>?_)) (λq6 hq7=>?_)
 ·obtain⟨x_1,hst⟩:∃y,y=st:=⟨_,rfl⟩
  subst hst
  replace h:x_1=(i2:Int):=h
  show Qj (YZ s1 v2 x_1) _
  unfold YZ
  refine T1 (λhc8=>?_) (λhc8=>?_)
  ·refine T0 (T4 (by omega) (by simp_all)) (λe_9 hv10=>?_)
   refine T1 (λhc11=>?_) (λhc11=>?_)
   ·exact T2 (Qq trivial)
   exact T2 (QJ ⟨(by simp_all),by subst h;exact Qt (by simp_all) (D).1,trivial⟩)
  exact T2 (Qq trivial)
 rcases q6 with q6 | q6
 ·show Qj (Ut q6) _
  unfold Ut
  exact T3
 show Qj (Uu) _
 unfold Uu
 exact T3
def Fk (D:LI_)(v2:Int)(h:(QV (λ_=>True)) D):Xk (Yy D v2):=by
 unfold Yy
 refine T0 (Zv D v2 (h)) (λx_1 hv2=>?_)
 exact T3
def QbH (D:LI_)(v2:Int)(v3:Int)(h:(QV (λ_=>True)) D)(hp0:0<=v2)(hp1:v2<D.length):Xk (Aw D v2 v3):=by
 unfold Aw
 refine T0 (T5 (by simp_all;omega)) (λ_ _=>?_)
 refine T0 (Fk ((D.drop 0).take (v2.toNat-0)) v3 (((h).drop _).take _)) (λx_1 hv2=>?_)
 exact T3
def Qeu (v1:Qk)(v2:Int)(v3:Int)(v4:LI_)(v5:Int)(v6:Int)(h:Xp v1)(D:(QV (λ_=>True)) v4)(hp0:0<=v5)(hp1:v5<v4.length):Xk (FK v1 v2 v3 v4 v5 v6):=by
 unfold FK
 refine T0 (QbG v1 v2 (h)) (λx_1 hv2=>?_)
 refine T1 (λhc3=>?_) (λhc3=>?_)
 ·exact T3
 refine T0 (QbH v4 v5 v2 (D) (by omega) (by omega)) (λx_4 hv5=>?_)
 refine T1 (λhc6=>?_) (λhc6=>?_)
 ·exact T3
 exact T3
def Qdr (k1:Int)(h:Int)(v3:Qk)(v4:LI_)(D:Xp v3)(h_v4:(QV (λ_=>True)) v4)(hp0:0<=k1)(hp1:k1<v4.length):Xk (Cr k1 h v3 v4):=by
 unfold Cr
 refine T0 (Qeu v3 h 3 v4 k1 5 (D) (h_v4) (by omega) (by omega)) (λx_1 hv2=>?_)
 exact T3
def Qev (l1:LI_)(v2:Qk)(v3:LI_)(h_l1:(QV (λ_=>True)) l1)(h_v2:Xp v2)(h_v3:(QV (λ_=>True)) v3)(hp0:l1.length<=v3.length):Xk (FL l1 v2 v3):=by
 unfold FL
 refine T0 (Qj.up (l1.length) (λst=>st) (λ_=>True) (Q:=λq=>True) rfl trivial (λi2 st h hn4 hj5=>?_)) (λq6 hq7=>?_)
 ·obtain⟨D,hst⟩:∃y,y=st:=⟨_,rfl⟩
  subst hst
  replace h:D=(i2:Int):=h
  show Qj (HQ l1 v2 v3 D) _
  unfold HQ
  refine T1 (λhc8=>?_) (λhc8=>?_)
  ·refine T0 (T4 (by omega) (by simp_all)) (λe_9 hv10=>?_)
   refine T0 (Qdr D e_9 v2 v3 (h_v2) (h_v3) (by omega) (by simp_all;omega)) (λx_11 hv12=>?_)
   refine T1 (λhc13=>?_) (λhc13=>?_)
   ·exact T2 (Qq trivial)
   exact T2 (QJ ⟨(by simp_all),by subst h;exact Qt (by simp_all) (h_l1).1,trivial⟩)
  exact T2 (Qq trivial)
 rcases q6 with q6 | q6
 ·show Qj (HR q6.1 q6.2) _
  unfold HR
  exact T3
 show Qj (HS) _
 unfold HS
 exact T3
def QfX (n1:Qk)(l2:LI_)(D:Xp n1)(h:(QV (λ_=>True)) l2):Xk (Iq n1 l2):=by
 unfold Iq
 refine T0 (Qev l2 n1 l2 (h) (D) (h) (by omega)) (λx_1 hv2=>?_)
 exact T3
def QfY (v1:Qk)(v2:QI)(h:Xp v1)(D:YH v2):Xk (Ir v1 v2):=by
 unfold Ir
 refine T0 (QfX v1 v2.Cancel (h) (D.2.2.2.2.2.2.2.1)) (λx_1 hv2=>?_)
 exact T3
def Qcz (v1:Qk)(v2:QI)(v3:Int)(h:Xp v1)(D:YH v2):Xk (BC v1 v2 v3):=by
 unfold BC
 refine T0 (QfY v1 v2 (h) (D)) (λx_1 hv2=>?_)
 exact T3
def Tu (k1:Int)(D:(L_ Yg))(h:(QV Hu) D):Xk (BD k1 D):=by
 unfold BD
 exact T3
def Qjw (D:QI)(h:YH D):Xk (NA D):=by
 unfold NA
 refine T0 (P:=λ_=>True) ?_ (λx_1 hv2=>?_)
 ·unfold VT
  refine T0 (Tu D.Join D.Ins (h.2.2.2.2.2.1)) (λx_3 hv4=>?_)
  refine T1 (λhc5=>?_) (λhc5=>?_)
  ·refine T0 (Tu D.Split D.Outs (h.2.2.2.2.2.2.1)) (λx_6 hv7=>?_)
   refine T1 (λhc8=>?_) (λhc8=>?_)
   ·refine T1 (λhc9=>?_) (λhc9=>?_)
    ·refine T1 (λhc10=>?_) (λhc10=>?_)
     ·exact T3
     exact T3
    exact T3
   exact T3
  exact T3
 unfold VU
 exact T3
def QfZ (D:QI)(h:YH D):Xk (Iu D):=by
 unfold Iu
 refine T0 (Qjw D (h)) (λx_1 hv2=>?_)
 exact T3
def Qew (v1:QI)(v2:Int)(v3:Qk)(v4:Int)(v5:Int)(v6:Int)(v7:Int)(v8:Int)(v9:Int)(v10:Int)(v11:Int)(v12:Int)(v13:Int)(v14:Int)(v15:Int)(h:YH v1)(D:Xp v3)(hp0:0<=v4)(hp1:v4<v3.Tasks.length):Xk (GU v1 v2 v3 v4 v5 v6 v7 v8 v9 v10 v11 v12 v13 v14 v15):=by
 unfold GU
 refine T0 (QhG v1 (h)) (λx_1 hv2=>?_)
 refine T1 (λhc3=>?_) (λhc3=>?_)
 ·exact T3
 refine T0 (QhI v3 v4 v1 (D) (h) (by omega) (by omega)) (λx_4 hv5=>?_)
 refine T1 (λhc6=>?_) (λhc6=>?_)
 ·exact T3
 refine T0 (QhJ v6 v1 (h)) (λx_7 hv8=>?_)
 refine T1 (λhc9=>?_) (λhc9=>?_)
 ·exact T3
 refine T0 (QfW v3 v1 v8 (D) (h)) (λx_10 hv11=>?_)
 refine T1 (λhc12=>?_) (λhc12=>?_)
 ·exact T3
 refine T0 (QhL v3 v4 (D)) (λx_13 hv14=>?_)
 refine T1 (λhc15=>?_) (λhc15=>?_)
 ·exact T3
 refine T0 (QhM v1 v6 (h)) (λx_16 hv17=>?_)
 refine T1 (λhc18=>?_) (λhc18=>?_)
 ·exact T3
 refine T0 (Qcx v3 v1 v6 x_10.2 (D) (h)) (λx_19 hv20=>?_)
 refine T1 (λhc21=>?_) (λhc21=>?_)
 ·exact T3
 refine T0 (Qcy v3 v1 v6 x_19.2 (D) (h)) (λx_22 hv23=>?_)
 refine T1 (λhc24=>?_) (λhc24=>?_)
 ·exact T3
 refine T0 (Qcz v3 v1 x_22.2 (D) (h)) (λx_25 hv26=>?_)
 refine T1 (λhc27=>?_) (λhc27=>?_)
 ·exact T3
 refine T0 (QfZ v1 (h)) (λx_28 hv29=>?_)
 refine T1 (λhc30=>?_) (λhc30=>?_)
 ·exact T3
 exact T3
def QbI (n1:Qk)(k2:Int)(h:Xp n1):Xk (Ku n1 k2):=by
 unfold Ku
 refine T0 (Ll n1.Tasks k2 (h.2.2.1)) (λx_1 hv2=>?_)
 refine T1 (λhc3=>?_) (λhc3=>?_)
 ·exact T3
 refine T0 (Tt n1 (h)) (λx_4 hv5=>?_)
 refine T1 (λhc6=>?_) (λhc6=>?_)
 ·exact T3
 refine T0 (T4 (by simp_all) (by simp_all)) (λD hv8=>?_)
 refine T0 (T4 (by simp_all) (by simp_all)) (λe_9 hv10=>?_)
 refine T0 (Qjv 0 n1 D (h) (((h.2.2.1).2 D hv8))) (λx_11 hv12=>?_)
 refine T0 (Qen 0 n1 D (e_9.Vars.length:Int) (h) (((h.2.2.1).2 D hv8))) (λx_13 hv14=>?_)
 refine T0 (Qeo 0 n1 D (e_9.Vars.length:Int) (h) (((h.2.2.1).2 D hv8))) (λx_15 hv16=>?_)
 refine T0 (Qep 0 n1 D (h) (((h.2.2.1).2 D hv8))) (λx_17 hv18=>?_)
 refine T0 (Qew D 1 n1 k2 5 (e_9.Vars.length:Int) 2 0 (-1) 2 1 (-1) (-1) (-1) 11 (((h.2.2.1).2 D hv8)) (h) (by simp_all) (by simp_all)) (λx_19 hv20=>?_)
 refine T1 (λhc21=>?_) (λhc21=>?_)
 ·exact T3
 exact T3
def Qjx (k1:Int)(p2:QI)(v3:Qk)(D:YH p2)(h:Xp v3):Xk (Hq k1 p2 v3):=by
 unfold Hq
 refine T0 (QbI v3 k1 (h)) (λx_1 hv2=>?_)
 exact T3
def ZL (l1:(L_ QI))(v2:Qk)(h:(QV YH) l1)(h_v2:Xp v2):Xk (KV l1 v2):=by
 unfold KV
 refine T0 (Qj.up (l1.length) (λst=>st) (λ_=>True) (Q:=λq=>True) rfl trivial (λi2 st D hn4 hj5=>?_)) (λq6 hq7=>?_)
 ·obtain⟨x_1,hst⟩:∃y,y=st:=⟨_,rfl⟩
  subst hst
  replace D:x_1=(i2:Int):=D
  show Qj (Wf l1 v2 x_1) _
  unfold Wf
  refine T1 (λhc8=>?_) (λhc8=>?_)
  ·refine T0 (T4 (by omega) (by simp_all)) (λe_9 hv10=>?_)
   refine T0 (Qjx x_1 e_9 v2 (((h).2 e_9 hv10)) (h_v2)) (λx_11 hv12=>?_)
   refine T1 (λhc13=>?_) (λhc13=>?_)
   ·exact T2 (Qq trivial)
   exact T2 (QJ ⟨(by simp_all),by subst D;exact Qt (by simp_all) (h).1,trivial⟩)
  exact T2 (Qq trivial)
 rcases q6 with q6 | q6
 ·show Qj (Ae q6.1 q6.2) _
  unfold Ae
  exact T3
 show Qj (Af) _
 unfold Af
 exact T3
def QlJ (n1:Qk)(h:Xp n1):Xk (UK n1):=by
 unfold UK
 refine T0 (Qjo n1 2 3 1 (h)) (λx_1 hv2=>?_)
 refine T1 (λhc3=>?_) (λhc3=>?_)
 ·exact T3
 refine T0 (Tt n1 (h)) (λx_4 hv5=>?_)
 refine T1 (λhc6=>?_) (λhc6=>?_)
 ·exact T3
 refine T0 (Zt n1.Places n1 (h.2.1) (h)) (λx_7 hv8=>?_)
 refine T1 (λhc9=>?_) (λhc9=>?_)
 ·exact T3
 refine T0 (ZL n1.Tasks n1 (h.2.2.1) (h)) (λx_10 hv11=>?_)
 refine T1 (λD=>?_) (λD=>?_)
 ·exact T3
 exact T3
def Qmw (D:Int)(b2:Int)  : Xk (Fw D b2):=by
 unfold Fw
 refine T1 (λh=>?_) (λh=>?_)
 ·exact T3
 exact T3
def Qds (D:Int)(b2:Int)  : Xk (Wz D b2):=by
 unfold Wz
 refine T1 (λh=>?_) (λh=>?_)
 ·exact T3
 exact T3
def Qc2 (D:Int)  : Xk (BV D):=by
 unfold BV
 refine T1 (λh=>?_) (λh=>?_)
 ·exact T3
 exact T3
def Qdt (h:Int)(D:Int)  : Xk (Gp h D):=by
 unfold Gp
 exact T3
def QhQ (a1:Int)(b2:Int)  : Xk (UR a1 b2):=by
 unfold UR
 refine T0 (Qc2 a1 ) (λx_1 hv2=>?_)
 refine T0 (Qc2 b2 ) (λx_3 hv4=>?_)
 refine T0 (Qdt x_1 x_3 ) (λx_5 hv6=>?_)
 refine T1 (λh=>?_) (λh=>?_)
 ·unfold WA
  refine T1 (λD=>?_) (λD=>?_)
  ·exact T3
  exact T3
 unfold WA
 refine T1 (λhc9=>?_) (λhc9=>?_)
 ·exact T3
 exact T3
def Tv (a1:Int)(b2:Int)  : Xk (KJ a1 b2):=by
 unfold KJ
 refine T1 (λh=>?_) (λh=>?_)
 ·exact T3
 refine T1 (λD=>?_) (λD=>?_)
 ·exact T3
 refine T0 (T5 (by simp_all)) (λ_ _=>?_)
 refine T0 (T5 (by simp_all)) (λ_ _=>?_)
 exact T3
def Ez (D:Bool)  : Xk (JM D):=by
 unfold JM
 refine T1 (λh=>?_) (λh=>?_)
 ·exact T3
 exact T3
def Cd (Yx:Int)(D:Int)(h:Int)  : Xk (JG Yx D h):=by
 unfold JG
 refine T1 (λhc1=>?_) (λhc1=>?_)
 ·refine T0 (Qmw D h ) (λx_2 hv3=>?_)
  exact T3
 refine T1 (λhc4=>?_) (λhc4=>?_)
 ·refine T0 (Qds D h ) (λx_5 hv6=>?_)
  exact T3
 refine T1 (λhc7=>?_) (λhc7=>?_)
 ·refine T0 (QhQ D h ) (λx_8 hv9=>?_)
  exact T3
 refine T1 (λhc10=>?_) (λhc10=>?_)
 ·refine T0 (Tv D h ) (λx_11 hv12=>?_)
  exact T3
 refine T1 (λhc13=>?_) (λhc13=>?_)
 ·refine T0 (Tv D h ) (λx_14 hv15=>?_)
  exact T3
 refine T1 (λhc16=>?_) (λhc16=>?_)
 ·refine T0 (Ez (D==h) ) (λx_17 hv18=>?_)
  exact T3
 refine T1 (λhc19=>?_) (λhc19=>?_)
 ·refine T0 (Ez (D != h) ) (λx_20 hv21=>?_)
  exact T3
 refine T1 (λhc22=>?_) (λhc22=>?_)
 ·refine T0 (Ez (decide (D<h)) ) (λx_23 hv24=>?_)
  exact T3
 refine T1 (λhc25=>?_) (λhc25=>?_)
 ·refine T0 (Ez (decide (D<=h)) ) (λx_26 hv27=>?_)
  exact T3
 refine T1 (λhc28=>?_) (λhc28=>?_)
 ·refine T0 (P:=λ_=>True) ?_ (λv_29 hv30=>?_)
  ·unfold Pn
   refine T1 (λhc31=>?_) (λhc31=>?_)
   ·refine T0 (Ez (h != 0) ) (λx_32 hv33=>?_)
    exact T3
   refine T0 (Ez false ) (λx_34 hv35=>?_)
   exact T3
  unfold VF
  exact T3
 refine T1 (λhc36=>?_) (λhc36=>?_)
 ·refine T0 (P:=λ_=>True) ?_ (λv_37 hv38=>?_)
  ·unfold Po
   refine T1 (λhc39=>?_) (λhc39=>?_)
   ·refine T0 (Ez true ) (λx_40 hv41=>?_)
    exact T3
   refine T0 (Ez (h != 0) ) (λx_42 hv43=>?_)
   exact T3
  unfold VG
  exact T3
 exact T3
def Qex (h:Int)  : Xk (Pq h):=by
 unfold Pq
 refine T0 (Cd 2 0 h ) (λx_1 D=>?_)
 exact T3
def Zw (b:QBg)(h:b.length<=maxLen):WQ b=some (GA (-1) b):=by
 unfold WQ
 have D:=OO (body:=λst=>Dz b st.1 st.2) (l:=b) (ρ:=Unit⊕Unit) (λi (t:Int)=>(t,(i:Int)))
  (λi t x=>bif ((decide (x.1<=t))||((decide (x.2<1))||(decide (1048576<x.2))))then .inr (.inl ())else .inl x.1) (λ_=>.inr ())
  (λi t x hi hx=>by
   show Dz b t i=_
   unfold Dz
   rw[QE (by omega:(i:Int)<b.length),Qz,QP,hx,Qd]
   cases ((decide (x.1<=t))||((decide (x.2<1))||(decide (1048576<x.2))))with
   | true=>rfl
   | false=>simp only[Qs,Sum.elim_inl];rw[Qt hi h])
  (λt=>by
   show Dz b t b.length=_
   unfold Dz
   rw[QK (by omega)];rfl) (-1) (s0:=(-1,0)) rfl
 rw[D]
 have:∀(l:QBg) (k:Nat) (t:Int),BM (λi t (x:Int×Int)=>(bif ((decide (x.1<=t))||((decide (x.2<1))||(decide (1048576<x.2))))then .inr (.inl ())else .inl x.1:Int⊕(Unit⊕Unit))) (λ_=>.inr ()) k t l=bif GA t l then .inr ()else .inl ():=by
  intro l
  induction l with
  | nil=>intro k t;rfl
  | cons x l ih=>
   intro k t
   rw[BM,GA]
   cases ((decide (x.1<=t))||((decide (x.2<1))||(decide (1048576<x.2))))with
   | true=>rfl
   | false=>simp only[Qs,Sum.elim_inl,Bool.not_false,TA];exact ih _ _
 rw[this]
 cases GA (-1) b<;>rfl
def QaL (b:QBg)(h:b.length<=maxLen):NT b=some (bif GA (-1) b then .inr b else .inl ()):=by
 unfold NT
 rw[Zw b h,Qd]
 cases hr:GA (-1) b with
 | false=>rfl
 | true=>
  simp only[GE,Qs,Qz]
  have ha:=(YQ.1 hr).1
  obtain⟨r,h1,h2⟩:=ON (body:=λst=>BT b st.1 st.2) b.length (λi s=>s=((i:Int),b.take i)) (λr=>r=b)
   (λi s D hs=>by
    subst hs
    refine .inl ⟨(((i+1:Nat):Int),b.take (i+1)),?_,rfl⟩
    show BT b i (b.take i)=_
    unfold BT
    rw[QE (by omega:(i:Int)<b.length),Qz,QP,Qy D,Qd,Qt D h]
    have e:b.take (i+1)=b.take i++[b[i]]:=by rw[ED,Qy D];rfl
    rw[e,<-QqA (by have:=(ha.sublist (List.take_sublist (i+1) b));rw[e]at this;exact this)])
   (λs hs=>by
    subst hs
    refine⟨_,?_,rfl⟩
    show BT b b.length (b.take b.length)=_
    unfold BT
    rw[QK (by omega),HY];rfl) (0,[]) rfl
  rw[h1,h2];rfl
def Qbd (a b:QBg)(D:a.length<=maxLen)(h:b.length<=maxLen):LF a b=some (bif GA (-1) a then(bif GA (-1) b then .inr (.inr (.inr (a,b)))else .inr (.inr (.inl a)))else(bif GA (-1) b then .inr (.inl b)else .inl ())):=by
 unfold LF
 rw[QaL a D]
 cases GA (-1) a with
 | true=>
  simp only[Qz,Qd,Sum.elim_inr]
  unfold SM
  rw[QaL b h]
  cases GA (-1) b<;>rfl
 | false=>
  simp only[Qs,Qd,Sum.elim_inl]
  unfold SL
  rw[QaL b h]
  cases GA (-1) b<;>rfl
def NK (m:QBg)(ha:Gm m)(h':m.length<=4294967296):GP m=some (Lk m):=by
 have h:m.length<=maxLen:=by unfold maxLen;omega
 unfold GP DZ HJ
 simp only[QE h',So rfl,Qd,Qpp ha]
 obtain⟨r,h1,h2⟩:=ON (body:=λst=>WL (m.map Prod.fst) m st.1 st.2) m.length (λi s=>s=((i:Int),Lk (m.take i))) (λr=>r=Lk m)
  (λi s D hs=>by
   subst hs
   refine .inl ⟨(((i+1:Nat):Int),Lk (m.take (i+1))),?_,rfl⟩
   show WL (m.map Prod.fst) m i (Lk (m.take i))=_
   unfold WL
   have e:m.take (i+1)=m.take i++[m[i]]:=by rw[ED,Qy D];rfl
   have ec:(QR m m[i].1).getD 0=m[i].2:=Ef ha.nd (Xn D)
   rw[QE (by simp;omega),Qz,QP,Yf,Qy D,Ww,Qd,ec]
   have hl:(Lk (m.take i)).length<=i:=Yb (QeK _ _) (by simp;omega)
   cases hc:decide (0<m[i].2)with
   | true=>
    simp only[Qz]
    rw[WJ (by simp;omega),Qd]
    unfold GJ
    rw[Qt D h,e]
    unfold Lk
    rw[List.filter_append,Nj,if_pos hc];rfl
   | false=>
    simp only[Qs]
    unfold GJ
    rw[Qt D h,e]
    unfold Lk
    rw[List.filter_append,Nj,if_neg (by rw[hc];decide),List.filter_nil,QbO])
  (λs hs=>by
   subst hs
   refine⟨_,?_,rfl⟩
   show WL (m.map Prod.fst) m m.length (Lk (m.take m.length))=_
   unfold WL
   rw[QK (by simp),HY];rfl) (0,[]) rfl
 rw[h1,h2];rfl
def Qmx (m:QBg):(Lk m).length<=m.length:=QeK _ _
def EA (a b:QBg)(h:a.length+b.length<=4294967296):(¬(Rt a/\Rt b)/\Ji a b=some ([],1))\/(Rt a/\Rt b/\(∃k,1048576<QM a k+QM b k)/\Ji a b=some ([],2))\/
  (Rt a/\Rt b/\∃r,Ji a b=some (r,0)/\Rt r/\(∀k,QM r k=QM a k+QM b k)/\r.length<=a.length+b.length):=by
 unfold Ji
 rw[Qbd a b (by unfold maxLen;omega) (by unfold maxLen;omega),Qd]
 cases ra:GA (-1) a with
 | false=>exact .inl ⟨λhh=>(by rw[YQ.2 hh.1]at ra;cases ra),by cases GA (-1) b<;>rfl⟩
 | true=>
  cases rb:GA (-1) b with
  | false=>exact .inl ⟨λhh=>(by rw[YQ.2 hh.2]at rb;cases rb),rfl⟩
  | true=>
   have hra:=YQ.1 ra
   have D:=YQ.1 rb
   simp only[Qz,Sum.elim_inr]
   unfold Vx
   have hw:∀p∈b,QM a p.1+p.2=QM a p.1+QM b p.1:=λp hp=>by rw[Ef D.1.nd hp]
   rcases Qjh (g:=λx v=>Qi (x+v)) (stop:=λx=>decide (1048576<x)) (q:=some ()) (body:=λst p=>CB st p.1 p.2) (λs p=>by
     show CB s p.1 p.2=_
     unfold CB
     rw[UM,if_pos rfl]
     unfold QM
     simp only[Va]
     cases decide (1048576<Qi ((QR s p.1).getD 0+p.2))<;>rfl) hra.1 D.1.nd with⟨⟨p,h1,h2⟩,h3⟩|⟨h1,s',h3,h4,h5,h6⟩
   ·refine .inr (.inl ⟨hra,D,⟨p.1,?_⟩,?_⟩)
    ·have:=hra.cnt p.1
     have:=D.cnt p.1
     have h2:=Xo h2
     rw[Ef D.1.nd h1]
     rw[Ef D.1.nd h1]at this
     rwa[XD (by omega)]at h2
    simp only[h3 () rfl];rfl
   have hk:∀k,QM s' k=QM a k+QM b k/\QM s' k<=1048576:=λk=>by
    have ca:=hra.cnt k
    have cb:=D.cnt k
    have e:=h6 k
    unfold QeU at e
    cases hm:QR b k with
    | none=>
     rw[hm]at e
     simp only at e
     have:QM b k=0:=by unfold QM;rw[hm];rfl
     have e2:QM s' k=QM a k:=by unfold QM;rw[e]
     omega
    | some v=>
     rw[hm]at e
     simp only at e
     have e1:QM b k=v:=by unfold QM;rw[hm];rfl
     have e2:QM s' k=Qi (QM a k+v):=by unfold QM;rw[e];rfl
     have h7:=h1 (k,v) ((JH D.1.nd).1 hm)
     simp only[QX]at h7
     rw[XD (by omega)]at e2 h7
     omega
   refine .inr (.inr ⟨hra,D,Lk s',?_,Qpo h4 (λk hk0=>⟨?_,(hk k).2⟩),λk=>?_,Yb (Qmx s') h5⟩)
   ·simp only[h3,Qd,Sum.elim_inl]
    unfold Pe
    rw[NK s' h4 (by omega)];rfl
   ·have:=(hk k).1
    have ca:=hra.cnt k
    have cb:=D.cnt k
    by_cases c:0<QM a k
    ·exact hra.cnt_pos c
    exact D.cnt_pos (by omega)
   rw[Qmu h4,(hk k).1]
   have ca:=hra.cnt k
   have cb:=D.cnt k
   split<;>omega
def Zx (m h:QBg):GL m h=some (!(m.any λp=>decide (QM h p.1<p.2))):=by
 unfold GL
 rw[Qok (bad:=λp=>decide (QM h p.1<p.2)) (q:=()) (λp=>by
  show WU h p.1 p.2=_
  unfold WU QM
  cases decide ((QR h p.1).getD 0<p.2)<;>rfl)]
 cases m.any λp=>decide (QM h p.1<p.2)<;>rfl
def QcA {a b:QBg}(D:Rt a)(hb:Rt b):(a.any λp=>decide (QM b p.1<p.2))=false↔∀k,QM a k<=QM b k:=by
 rw[<-HU,EB]
 simp only[QB,not_exists,not_and]
 constructor
 ·intro h k
  have cb:=hb.cnt k
  cases e:QR a k with
  | none=>
   have:QM a k=0:=by unfold QM;rw[e];rfl
   omega
  | some v=>
   have h1:=h _ ((JH D.1.nd).1 e)
   have:QM a k=v:=by unfold QM;rw[e];rfl
   simp only at h1
   omega
 intro h p hp hlt
 have:=h p.1
 rw[Ef D.1.nd hp]at this
 omega
def BO (a b:QBg)(ha:a.length<=maxLen)(hb:b.length<=maxLen):∃r,IX a b=some r/\(r=true↔Rt a/\Rt b/\∀k,QM a k<=QM b k):=by
 unfold IX
 rw[Qbd a b ha hb,Qd]
 cases ra:GA (-1) a with
 | false=>exact⟨false,by cases GA (-1) b<;>rfl,by simp;intro hh;rw[YQ.2 hh]at ra;cases ra⟩
 | true=>
  cases rb:GA (-1) b with
  | false=>exact⟨false,rfl,by simp;intro _ hh;rw[YQ.2 hh]at rb;cases rb⟩
  | true=>
   have D:=YQ.1 ra
   have hrb:=YQ.1 rb
   refine⟨!(a.any λp=>decide (QM b p.1<p.2)),?_,?_⟩
   ·simp only[Qz,Sum.elim_inr]
    unfold Ps
    rw[Zx];rfl
   rw[Am,QcA D hrb]
   exact⟨λh=>⟨D,hrb,h⟩,λh=>h.2.2⟩
def Hy (a b:QBg)(h:a.length+b.length<=4294967296):(¬(Rt a/\Rt b)/\Ju a b=some ([],1))\/(Rt a/\Rt b/\(∃k,QM a k<QM b k)/\Ju a b=some ([],10))\/
  (Rt a/\Rt b/\(∀k,QM b k<=QM a k)/\∃r,Ju a b=some (r,0)/\Rt r/\(∀k,QM r k=QM a k-QM b k)/\r.length<=a.length+b.length):=by
 unfold Ju
 rw[Qbd a b (by unfold maxLen;omega) (by unfold maxLen;omega),Qd]
 cases ra:GA (-1) a with
 | false=>exact .inl ⟨λhh=>(by rw[YQ.2 hh.1]at ra;cases ra),by cases GA (-1) b<;>rfl⟩
 | true=>
  cases rb:GA (-1) b with
  | false=>exact .inl ⟨λhh=>(by rw[YQ.2 hh.2]at rb;cases rb),rfl⟩
  | true=>
   have D:=YQ.1 ra
   have hrb:=YQ.1 rb
   simp only[Qz,Sum.elim_inr]
   unfold SP
   rw[Zx,Qd]
   cases hw:b.any λp=>decide (QM a p.1<p.2)with
   | true=>
    refine .inr (.inl ⟨D,hrb,?_,rfl⟩)
    obtain⟨p,h1,h2⟩:=EB.1 hw
    exact⟨p.1,by rw[Ef hrb.1.nd h1];exact Xo h2⟩
   | false=>
    have hle:=(QcA hrb D).1 hw
    simp only[Bool.not_false,GE,Qs]
    rcases Qjh (g:=λx v=>Qi (x-v)) (stop:=λ_=>false) (q:=none) (body:=λst p=>AU st p.1 p.2) (λs p=>by
      show AU s p.1 p.2=_
      unfold AU QM
      rfl) D.1 hrb.1.nd with⟨⟨p,h1,h2⟩,h3⟩|⟨h1,s',h3,h4,h5,h6⟩
    ·cases h2
    have hk:∀k,QM s' k=QM a k-QM b k:=λk=>by
     have ca:=D.cnt k
     have cb:=hrb.cnt k
     have e:=h6 k
     unfold QeU at e
     cases hm:QR b k with
     | none=>
      rw[hm]at e
      simp only at e
      have:QM b k=0:=by unfold QM;rw[hm];rfl
      have e2:QM s' k=QM a k:=by unfold QM;rw[e]
      omega
     | some v=>
      rw[hm]at e
      simp only at e
      have e1:QM b k=v:=by unfold QM;rw[hm];rfl
      have e2:QM s' k=Qi (QM a k-v):=by unfold QM;rw[e];rfl
      rw[XD (by omega)]at e2
      omega
    refine .inr (.inr ⟨D,hrb,hle,Lk s',?_,Qpo h4 (λk hk0=>?_),λk=>?_,Yb (Qmx s') h5⟩)
    ·simp only[h3,Qd,Sum.elim_inl]
     unfold Nr
     rw[NK s' h4 (by omega)];rfl
    ·have:=hk k
     have ca:=D.cnt k
     have cb:=hrb.cnt k
     exact⟨D.cnt_pos (by omega),by omega⟩
    rw[Qmu h4,hk k]
    have:=hle k
    split<;>omega
def Ri (t:Int):NS [t]=some (bif decide (0<=t)then [(t,1)]else []):=by
 unfold NS
 rw[YR]
 show((BS [t] 0 []).bind _).bind _=_
 unfold BS
 rw[QE (by simp),Qz,show idx [t] 0=some t from rfl,Qd]
 unfold Se
 rw[show Qi (0+1)=1 from by decide]
 cases h:decide (0<=t)with
 | false=>
  simp only[Qs,Qd,Sum.elim_inl]
  rw[YR]
  show((BS [t] 1 []).bind _).bind _=_
  unfold BS
  rw[QK (by simp)]
  simp only[Qs,Qd,Sum.elim_inr]
  unfold Qa0
  rw[NK [] List.Pairwise.nil (by simp)];rfl
 | true=>
  simp only[Qz,Qd,Sum.elim_inl]
  rw[YR]
  show((BS [t] 1 [(t,min2 (Qi (0+1)) 1048576)]).bind _).bind _=_
  unfold BS
  rw[QK (by simp)]
  simp only[Qs,Qd,Sum.elim_inr]
  unfold Qa0
  rw[NK _ (Qh1 _ _) (by simp[maxLen]),show min2 (Qi (0+1)) 1048576=1 from by decide];rfl
def Qnv : ∀(n:Nat) (e:Qp) (d:Int),KW e->SizeOf.sizeOf e<=n->Qj (EZ n e d) λ_=>True
 | 0,e,_,_,h=>absurd e.pos (by omega)
 | n+1,e,d,he,h=>by
  unfold EZ SR
  refine T1 (λ_=>T3) λ_=>?_
  refine T0 (Qj.up e.Kids.length (λst=>st.2) (λ_=>True) (Q:=λ_=>True) rfl trivial (λi st D hn _=>?_)) (λq _=>?_)
  ·obtain⟨a,x⟩:=st
   replace D:x=(i:Int):=D
   show Qj (RI e (EZ n) d a x) _
   unfold RI
   refine T1 (λhc=>?_) (λhc=>T2 (Qq trivial))
   simp only[QB]at hc
   refine T0 (T4 (by omega) (by omega)) λk hk=>?_
   have:=SG hk
   refine T0 (Qnv n k _ ((Wi he).2 k hk) (by omega)) λy _=>?_
   refine T1 (λ_=>T2 (Qq trivial)) λ_=>T1 (λ_=>T2 (Qq trivial)) λ_=>?_
   exact T2 (QJ ⟨by omega,by subst D;exact Qt (by omega) (Wi he).1,trivial⟩)
  rcases q with q | q
  ·exact T3
  exact T3
def QkL (e:Qp)(h:KW e):Qj (HB e) λ_=>True:=by
 unfold HB Qa4
 exact T0 (Qnv _ e 60 h (YY _)) λ_ _=>T3
def Qnw (n1:Qk)(h:Xp n1)(q0:Int):Qj (PH n1 q0) λr=>r=true->q0<=400:=by
 unfold PH
 refine T0 (Qj.up n1.Tasks.length (λst=>st.2) (λ_=>True) (Q:=λ_=>True) rfl trivial (λi st hi hn _=>?_)) (λq _=>?_)
 ·obtain⟨a,x⟩:=st
  replace hi:x=(i:Int):=hi
  show Qj (PG n1 a x) _
  unfold PG
  refine T1 (λhc=>?_) (λ_=>T2 (Qq trivial))
  simp only[QB]at hc
  refine T0 (T4 (by omega) (by omega)) λe he=>?_
  have ke:=h.2.2.1.2 e he
  refine T1 (λ_=>T2 (Qq trivial)) λ_=>?_
  refine T0 (Qj.up e.Vars.length (λst=>st) (λ_=>True) (Q:=λ_=>True) rfl trivial (λi2 st D hn2 _=>?_)) (λq _=>?_)
  ·show Qj (Pz e st) _
   unfold Pz
   refine T1 (λhc=>?_) (λ_=>T2 (Qq trivial))
   simp only[QB]at hc
   refine T0 (T4 (by omega) (by omega)) λs _=>?_
   exact T1 (λ_=>T2 (Qq trivial)) λ_=>T2 (QJ ⟨by omega,by rw[D];exact Qt (by omega) ke.2.1.1,trivial⟩)
  rcases q with q | q
  ·exact T2 (Qq trivial)
  show Qj (PF e a x) _
  unfold PF
  refine T0 (QkL e.Guard ke.2.2.1) λg _=>?_
  refine T0 (Qj.up e.Ins.length (λst=>st.2) (λ_=>True) (Q:=λ_=>True) rfl trivial (λi2 st D hn2 _=>?_)) (λq _=>?_)
  ·obtain⟨b,y⟩:=st
   replace D:y=(i2:Int):=D
   show Qj (PA e b y) _
   unfold PA
   refine T1 (λhc=>?_) (λ_=>T2 (Qq trivial))
   simp only[QB]at hc
   refine T0 (T4 (by omega) (by omega)) λs hs=>?_
   refine T0 (QkL s.Expr (ke.2.2.2.2.2.1.2 s hs).2) λg _=>?_
   exact T2 (QJ ⟨by omega,by subst D;exact Qt (by omega) ke.2.2.2.2.2.1.1,trivial⟩)
  show Qj (PE e a x q) _
  unfold PE
  refine T0 (Qj.up e.Outs.length (λst=>st.2) (λ_=>True) (Q:=λ_=>True) rfl trivial (λi2 st D hn2 _=>?_)) (λq _=>?_)
  ·obtain⟨b,y⟩:=st
   replace D:y=(i2:Int):=D
   show Qj (PB e b y) _
   unfold PB
   refine T1 (λhc=>?_) (λ_=>T2 (Qq trivial))
   simp only[QB]at hc
   refine T0 (T4 (by omega) (by omega)) λs hs=>?_
   refine T0 (QkL s.Expr (ke.2.2.2.2.2.2.1.2 s hs).2) λg _=>?_
   exact T2 (QJ ⟨by omega,by subst D;exact Qt (by omega) ke.2.2.2.2.2.2.1.1,trivial⟩)
  show Qj (PC a e x q) _
  unfold PC
  exact T1 (λ_=>T2 (Qq trivial)) λ_=>T2 (QJ ⟨by omega,by subst hi;exact Qt (by omega) h.2.2.1.1,trivial⟩)
 rcases q with q | q
 ·exact T2 λh=>by cases h
 exact T2 λh=>by simpa using h
def Qrr (n1:Qk)(h:Xp n1):Qj (Cb n1) λr=>r=true->n1.Colours.length<=40/\n1.Places.length<=70/\n1.Tasks.length<=70:=by
 unfold Cb
 refine T1 (λ_=>T2 λh=>by cases h) λD=>?_
 simp only[Kw,QX]at D
 refine T6 (P:=λ_=>True) ?_ λ_ _ _=>by omega
 refine T0 (Qj.up n1.Colours.length (λst=>st.2) (λ_=>True) (Q:=λ_=>True) rfl trivial (λi st hi hn _=>?_)) (λq _=>?_)
 ·obtain⟨a,x⟩:=st
  replace hi:x=(i:Int):=hi
  show Qj (CL n1 a x) _
  unfold CL
  refine T1 (λD=>?_) (λ_=>T2 (Qq trivial))
  simp only[QB]at D
  refine T0 (T4 (by omega) (by omega)).self λe he=>?_
  obtain⟨he,hm⟩:=he
  refine T0 (P:=λ_=>True) ?_ λy _=>?_
  ·unfold RK
   rw[he,Qd]
   exact T1 (λ_=>T3) λ_=>T3
  unfold RL
  refine T1 (λ_=>T2 (Qq trivial)) λ_=>?_
  refine T0 (Qj.up e.Names.length (λst=>st) (λ_=>True) (Q:=λ_=>True) rfl trivial (λi2 st hi2 hn2 _=>?_)) (λq _=>?_)
  ·show Qj (CK n1 x st) _
   unfold CK
   simp only[he,Qd]
   refine T1 (λD=>?_) (λ_=>T2 (Qq trivial))
   simp only[QB]at D
   refine T0 (T4 (by omega) (by omega)) λs _=>?_
   refine T1 (λ_=>T2 (Qq trivial)) λ_=>?_
   exact T2 (QJ ⟨by omega,by rw[hi2];exact Qt (by omega) (h.1.2 e hm).2.2.2.2.1.1,trivial⟩)
  rcases q with q | q
  ·exact T2 (Qq trivial)
  exact T2 (QJ ⟨by omega,by subst hi;exact Qt (by omega) h.1.1,trivial⟩)
 rcases q with q | q
 ·exact T3
 show Qj (Bv n1 q) _
 unfold Bv
 refine T0 (Qj.up n1.Places.length (λst=>st.2) (λ_=>True) (Q:=λ_=>True) rfl trivial (λi st hi hn _=>?_)) (λq _=>?_)
 ·obtain⟨a,x⟩:=st
  replace hi:x=(i:Int):=hi
  show Qj (CM n1 a x) _
  unfold CM
  refine T1 (λD=>?_) (λ_=>T2 (Qq trivial))
  simp only[QB]at D
  refine T0 (T4 (by omega) (by omega)) λe _=>?_
  refine T0 (T4 (by omega) (by omega)) λe2 _=>?_
  exact T1 (λ_=>T2 (Qq trivial)) λ_=>T2 (QJ ⟨by omega,by subst hi;exact Qt (by omega) h.2.1.1,trivial⟩)
 rcases q with q | q
 ·exact T3
 exact(Qnw n1 h q).mono λ_ _=>trivial
def Qrs (m:L_ QBg)(h:m.length<=maxLen):Qj (Sj m) λ_=>True:=by
 unfold Sj
 refine T0 (Qj.up m.length (λst=>st.2) (λ_=>True) (Q:=λ_=>True) rfl trivial (λi st D hn _=>?_)) (λq _=>T3)
 obtain⟨a,x⟩:=st
 replace D:x=(i:Int):=D
 show Qj (RM m a x) _
 unfold RM
 refine T1 (λhc=>?_) (λ_=>T2 (Qq trivial))
 simp only[QQ,QB]at hc
 refine T0 (T4 (by omega) (by omega)) λe _=>?_
 exact T2 (QJ ⟨by omega,by subst D;exact Qt (by omega) h,trivial⟩)
def Qnx {l:QBg}(h:Gm l):∀{a:Int},(∀p∈l,a<=p.1)->∀(i:Nat) (D:i<l.length),a+i<=(l[i]).1:=by
 induction l with
 | nil=>intro a _ i D;simp at D
 | cons p l ih=>
  intro a ha i D
  obtain⟨h1,h2⟩:=Dv.1 h
  cases i with
  | zero=>have:=ha p XY;simpa using this
  | succ i=>
   have h3:=ih h2 (a:=a+1) (λq hq=>by have:=h1 q hq;have:=ha p XY;omega) i (by simpa using D)
   simp only[List.getElem_cons_succ]
   omega
def QqE {l:QBg}(h:Gm l)(h0:0<l.length){k:Int}(hk:0<QM l k):k<=(l[l.length-1]).1:=by
 unfold QM at hk
 cases e:QR l k with
 | none=>rw[e]at hk;simp at hk
 | some v=>
  obtain⟨j,hj,D⟩:=HX.1 ((JH h.nd).1 e)
  by_cases c:j=l.length-1
  ·subst c;rw[D];exact Int.le_refl _
  have:=Qh0.1 h j (l.length-1) hj (by omega) (by omega)
  rw[D]at this
  simp only at this
  omega
def Kc (n:Qk)(c:Nat)(m:L_ QBg):Prop:=m.length=n.Places.length/\∀b∈m,Rt b/\b.length<=c
def Kc.mono {n:Qk}{c D:Nat}{m:L_ QBg}(h:Kc n c m)(hc:c<=D):Kc n D m:=⟨h.1,λb hb=>⟨(h.2 b hb).1,Yb (h.2 b hb).2 hc⟩⟩
def II (n:Qk)(m:L_ QBg):Prop:=∀(j:Nat) b p,m[j]? = some b->n.Places[j]? = some p->∀k,0<QM b k->∃z,YC n.Colours p.Colour=some z/\k<z
def Qmy (n1:Qk)(m:L_ QBg)(h:Xp n1)(hm:QV (QV λ_=>True) m):Qj (PK n1 m) λr=>r=true->Kc n1 1024 m/\II n1 m:=by
 unfold PK
 refine T1 (λ_=>T2 λh=>by cases h) λhc=>?_
 have hl:m.length=n1.Places.length:=by simp only[WP]at hc;omega
 refine T0 (Qj.up m.length (λst=>st) (λst=>∀(j:Nat) (hj:j<m.length),(j:Int)<st->(Rt m[j]/\(m[j]).length<=1024)/\∀p,n1.Places[j]? = some p->∀k,0<QM m[j] k->∃z,YC n1.Colours p.Colour=some z/\k<z) (Q:=λq=>q=.inr ()->(∀b∈m,Rt b/\b.length<=1024)/\II n1 m) rfl (λj _ hj=>by omega) (λi st hi hn hJ=>?_)) (λq hq=>?_)
 ·show Qj (PJ m n1 st) _
  unfold PJ
  refine T1 (λhc=>?_) (λhc=>T2 (Qq λ_=>⟨λb hb=>by
   obtain⟨j,hj,rfl⟩:=HX.1 hb
   simp only[QX]at hc
   exact(hJ j hj (by omega)).1,λj b p hb hp=>by
   obtain⟨hj,rfl⟩:=Xj.1 hb
   simp only[QX]at hc
   exact(hJ j hj (by omega)).2 p hp⟩))
  simp only[QB]at hc
  have D:i<m.length:=by omega
  have hlp:i<n1.Places.length:=by omega
  rw[hi,QP,Qy D,Qd,QP,Qy hlp,Qd]
  refine T0 (WK n1.Colours (n1.Places[i]).Colour h.1).self λsz hsz=>?_
  obtain⟨hze,hsz⟩:=hsz
  have hb:=hm.2 _ (Xn D)
  have hbl:=hb.1
  refine T0 (P:=λr=>r=false->(Rt m[i]/\(m[i]).length<=1024)/\∀k,0<QM m[i] k->k<sz) ?_ λx hx=>?_
  ·unfold Qal
   rw[Zw _ hb.1,Qd]
   refine T1 (λ_=>T2 λh=>by cases h) λhr=>?_
   have hrt:=YQ.1 (by simpa using hr:GA (-1) m[i]=true)
   refine T1 (λh0=>?_) (λh0=>T2 λ_=>⟨⟨hrt,by simp only[QX]at h0;omega⟩,λk hk=>by
    simp only[QX]at h0
    rw[show m[i]=[]from HV.1 (by omega)]at hk
    simp[QM,QR]at hk⟩)
   simp only[QB]at h0
   unfold maxLen at hbl
   rw[XD (by omega),show((m[i]).length:Int)-1=(((m[i]).length-1:Nat):Int) by omega,QP,Qy (by omega),Qd]
   refine T2 λhf=>?_
   simp only[QX]at hf
   have:=Qnx hrt.1 (a:=0) (λp hp=>(hrt.2 p hp).1) ((m[i]).length-1) (by omega)
   refine⟨⟨hrt,by omega⟩,λk hk=>?_⟩
   have:=QqE hrt.1 (by omega) hk
   omega
  unfold Qam
  refine T1 (λ_=>T2 (Qq λh=>by cases h)) λhxf=>?_
  refine T2 (QJ ⟨D,Qt D hm.1,λj hj hjs=>?_⟩)
  rw[Qt D hm.1]at hjs
  by_cases c:j=i
  ·subst c
   refine⟨(hx hxf).1,λp hp k hk=>⟨sz,?_,(hx hxf).2 k hk⟩⟩
   rw[Qy hlp]at hp
   cases hp
   exact hze
  exact hJ j hj (by omega)
 rcases q with q | q
 ·exact T2 λh=>by cases h
 exact T2 λ_=>⟨⟨hl,(hq rfl).1⟩,(hq rfl).2⟩
structure Xd (n:Qk):Prop where
 k:Xp n
 pl:n.Places.length<=70
 tl:n.Tasks.length<=12
 tk:∀t∈n.Tasks,t.Vars.length<=16/\t.Ins.length<=16/\t.Outs.length<=16/\t.Cancel.length<=16
def Qps (n1:Qk)(k2:Int)(h:Ku n1 k2=some 0):∃t,idx n1.Tasks k2=some t/\t.Vars.length<=16/\t.Ins.length<=16/\t.Outs.length<=16/\t.Cancel.length<=16:=by
 unfold Ku at h
 obtain⟨x5,_,h⟩:=Qv h
 rcases Xy h with⟨_,h⟩|⟨_,h⟩
 ·cases h
 obtain⟨x7,_,h⟩:=Qv h
 rcases Xy h with⟨c,h⟩|⟨_,h⟩
 ·simp only[Option.some.injEq]at h;rw[h]at c;cases c
 obtain⟨e9,he9,h⟩:=Qv h
 obtain⟨e10,he10,h⟩:=Qv h
 rw[he9]at he10;cases he10
 obtain⟨_,_,h⟩:=Qv h
 obtain⟨_,_,h⟩:=Qv h
 obtain⟨_,_,h⟩:=Qv h
 obtain⟨_,_,h⟩:=Qv h
 obtain⟨x15,D,h⟩:=Qv h
 have bad:∀a b:Int,0<a->x15=(a,b)->False:=λa b ha e=>by
  subst e
  simp only at h
  rcases Xy h with⟨c,h⟩|⟨_,h⟩
  ·simp only[beq_iff_eq]at c;omega
  simp only[Option.some.injEq]at h;omega
 unfold GU at D
 obtain⟨x20,_,D⟩:=Qv D
 rcases Xy D with⟨_,D⟩|⟨_,D⟩
 ·exact(bad _ _ (by decide) (Option.some.inj D).symm).elim
 obtain⟨x22,_,D⟩:=Qv D
 rcases Xy D with⟨_,D⟩|⟨_,D⟩
 ·exact(bad _ _ (by decide) (Option.some.inj D).symm).elim
 obtain⟨x24,h24,D⟩:=Qv D
 rcases Xy D with⟨_,D⟩|⟨c,D⟩
 ·exact(bad _ _ (by decide) (Option.some.inj D).symm).elim
 unfold CO at h24
 simp only[Option.some.injEq]at h24
 rw[<-h24]at c
 simp only[Fp,QQ,QB,Mi]at c
 exact⟨e9,he9,by omega,by omega,by omega,by omega⟩
def Qgf (l1:L_ QI)(n1:Qk)(h:Xp n1)(hl:QV YH l1):Qj (KV l1 n1) λr=>r.2=0->∀(j:Nat),j<l1.length->Ku n1 j=some 0:=by
 unfold KV
 refine T0 (Qj.up l1.length (λst=>st) (λst=>∀(j:Nat),(j:Int)<st->Ku n1 j=some 0) (Q:=λq=>(∀a b,q=.inl (a,b)->b≠0)/\(q=.inr ()->∀(j:Nat),j<l1.length->Ku n1 j=some 0)) rfl (λj hj=>by omega) (λi st hi hn hJ=>?_)) (λq hq=>?_)
 ·show Qj (Wf l1 n1 st) _
  unfold Wf
  refine T1 (λD=>?_) (λD=>T2 (Qq ⟨λa b h=>(by cases h),λ_ j hj=>by
   simp only[QX]at D
   exact hJ j (by omega)⟩))
  simp only[QB]at D
  refine T0 (T4 (by omega) (by omega)) λe he=>?_
  refine T0 (P:=λx=>Ku n1 st=some x) ?_ λx hx=>?_
  ·unfold Hq
   exact T0 (QbI n1 st h).self λx hx=>T2 hx.1
  refine T1 (λD=>T2 (Qq ⟨λa b h=>(by cases h;simpa using D),λh=>(by cases h)⟩)) λD=>?_
  simp only[WP]at D
  refine T2 (QJ ⟨by omega,by rw[hi];exact Qt (by omega) hl.1,λj hj=>?_⟩)
  rw[hi,Qt (show i<l1.length by omega) hl.1]at hj
  by_cases c:j=i
  ·subst c;rw[<-hi,hx,D]
  exact hJ j (by omega)
 rcases q with q | q
 ·exact T2 λh=>absurd h (hq.1 q.1 q.2 rfl)
 exact T2 λ_=>hq.2 rfl
def Qpt (n1:Qk)(h:Xp n1){p:EG}(D:UK n1=some (0,p)):∀t∈n1.Tasks,t.Vars.length<=16/\t.Ins.length<=16/\t.Outs.length<=16/\t.Cancel.length<=16:=by
 unfold UK at D
 obtain⟨x6,_,D⟩:=Qv D
 rcases Xy D with⟨c,D⟩|⟨_,D⟩
 ·simp only[Option.some.injEq,Prod.mk.injEq]at D;rw[D.1]at c;cases c
 obtain⟨x8,_,D⟩:=Qv D
 rcases Xy D with⟨c,D⟩|⟨_,D⟩
 ·simp only[Option.some.injEq,Prod.mk.injEq]at D;rw[D.1]at c;cases c
 obtain⟨x10,_,D⟩:=Qv D
 rcases Xy D with⟨c,D⟩|⟨_,D⟩
 ·simp only[Option.some.injEq,Prod.mk.injEq]at D;rw[D.1]at c;cases c
 obtain⟨x12,h12,D⟩:=Qv D
 rcases Xy D with⟨c,D⟩|⟨c,D⟩
 ·simp only[Option.some.injEq,Prod.mk.injEq]at D;rw[D.1]at c;cases c
 simp only[WP]at c
 obtain⟨r,hr,hr2⟩:=Qgf n1.Tasks n1 h h.2.2.1
 rw[h12]at hr;cases hr
 intro t ht
 obtain⟨j,hj,rfl⟩:=HX.1 ht
 obtain⟨t,h1,h2⟩:=Qps n1 j (hr2 c j hj)
 rw[QP,Qy hj]at h1
 cases h1
 exact h2
def Qr8 (n1:Qk)(m:L_ QBg)(h:Xp n1)(hm:QV (QV λ_=>True) m):Qj (CQ n1 m) λr=>r=true->Xd n1/\Kc n1 1024 m/\II n1 m:=by
 unfold CQ
 refine T0 (Qrr n1 h) λx5 h5=>?_
 refine T0 (Qrs m hm.1) λx6 _=>?_
 refine T1 (λ_=>T2 λh=>by cases h) λhc=>?_
 simp only[Kw,Fp,QX]at hc
 have h5:=h5 hc.1
 refine T0 (QlJ n1 h).self λx11 h11=>?_
 refine T0 (P:=λr=>r=false->Xd n1/\Kc n1 1024 m/\II n1 m) ?_ λx12 h12=>?_
 ·unfold PL
  refine T1 (λ_=>T2 λh=>by cases h) λD=>?_
  simp only[WP]at D
  refine T0 (Qmy n1 m h hm) λr hr=>T2 λhrf=>⟨⟨h,h5.2.1,by omega,?_⟩,hr (by simpa using hrf)⟩
  obtain⟨a,b⟩:=x11
  simp only at D
  subst D
  exact Qpt n1 h h11.1
 unfold PN
 refine T1 (λ_=>T2 λh=>by cases h) λhx=>?_
 have hfin:=h12 hx
 refine T6 (P:=λ_=>True) ?_ λ_ _ _=>hfin
 refine T0 (Qj.up n1.Tasks.length (λst=>st.2) (λ_=>True) (Q:=λ_=>True) rfl trivial (λi st hi hn _=>?_)) (λq _=>T3)
 obtain⟨a,x⟩:=st
 replace hi:x=(i:Int):=hi
 show Qj (PM n1 a x) _
 unfold PM
 refine T1 (λhc=>?_) (λ_=>T2 (Qq trivial))
 simp only[QB]at hc
 refine T0 (T4 (by omega) (by omega)) λe _=>?_
 refine T0 (QaJ n1 x h) λy _=>?_
 exact T2 (QJ ⟨by omega,by subst hi;exact Qt (by omega) h.2.2.1.1,trivial⟩)
def Qk7 (s:Ys)(m:Int)(h:0<=s.k/\s.k<s.sizes.length):Qj (Kf s m) λr=>r=true->0<=m:=by
 unfold Kf
 refine T0 (P:=λr=>r=true->0<=m) ?_ λx hx=>T2 hx
 unfold GK
 refine T1 (λD=>?_) λ_=>T2 λh=>by cases h
 exact T0 (T4 h.1 h.2) λ_ _=>T2 λ_=>by simpa using D
def Fb (s:Ys)(h:0<=s.k/\s.k<s.all.length):Qj (JF s) λ_=>True:=by
 unfold JF
 exact T0 (T4 h.1 h.2) λ_ _=>T3
def QqF (l:L_ QD)(k m:Int)(hl:QV Jb l):Qj (WH l k m) λ_=>True:=by
 unfold WH
 refine T0 (Hw l k hl) λx hx=>?_
 refine T0 (P:=λr=>r=false->x.1=true) ?_ λr hr=>?_
 ·unfold Bj
  refine T1 (λ_=>T2 λh=>by cases h) λD=>?_
  have D:x.1=true:=by simpa using D
  have h:=hx.2 D
  exact T0 (Qk7 x.2 m (by omega)) λ_ _=>T2 λ_=>D
 unfold Bk
 refine T1 (λ_=>T3) λD=>?_
 have h:=hx.2 (hr D)
 refine T0 (Fb x.2 (by omega)) λ_ _=>?_
 refine T1 (λ_=>?_) λ_=>T3
 exact T0 (Fb x.2 (by omega)) λ_ _=>T3
def Qmz (l:L_ QD)(k n:Int)(hl:QV Jb l):Qj (WI l k n) λr=>r.2=true->0<=r.1:=by
 unfold WI
 refine T0 (Hw l k hl) λx hx=>?_
 refine T1 (λ_=>T2 λh=>by cases h) λD=>?_
 have h:=hx.2 (by simpa using D)
 have k1:∀m,Qj (Kb x m) λr=>r.2=true->0<=r.1:=λm=>by
  unfold Kb
  refine T0 (Qk7 x.2 m (by omega)) λy hy=>?_
  exact T1 (λ_=>T2 λh=>by cases h) λD=>T2 λ_=>hy (by simpa using D)
 refine T0 (Fb x.2 (by omega)) λ_ _=>?_
 refine T1 (λ_=>?_) λ_=>k1 _
 exact T1 (λ_=>T2 λh=>by cases h) λ_=>k1 _
def Qpu (l:L_ QD)(k n:Int)(hl:QV Jb l):Qj (WI l k n) λr=>r.2=true->∃z,YC l k=some z/\r.1<z:=by
 unfold WI YC
 refine T0 (Hw l k hl).self λx hx=>?_
 obtain⟨hxe,hx⟩:=hx
 refine T1 (λ_=>T2 λh=>by cases h) λhc=>?_
 have h:=hx.2 (by simpa using hc)
 have hk:k.toNat<x.2.sizes.length:=by omega
 have ei:idx x.2.sizes k=some x.2.sizes[k.toNat]:=Ng h.1.1 h.1.2
 have k1:∀m,Qj (Kb x m) λr=>r.2=true->∃z,((WS l k).bind λx5=>bif (!x5.1)then some 0 else(idx x5.2.sizes k).bind λe7=>some e7)=some z/\r.1<z:=λm=>by
  unfold Kb
  refine T0 (P:=λy=>y=true->m<x.2.sizes[k.toNat]) ?_ λy hy=>?_
  ·unfold Kf
   refine T0 (P:=λy=>y=true->m<x.2.sizes[k.toNat]) ?_ λy hy=>T2 hy
   unfold GK
   refine T1 (λ_=>?_) λ_=>T2 λh=>by cases h
   rw[h.2.1,ei,Qd]
   exact T2 λh=>by simpa using h
  refine T1 (λ_=>T2 λh=>by cases h) λD=>T2 λ_=>⟨x.2.sizes[k.toNat],?_,hy (by simpa using D)⟩
  rw[hxe,Qd,hc,Qs,ei];rfl
 refine T0 (Fb x.2 (by omega)) λ_ _=>?_
 refine T1 (λ_=>?_) λ_=>k1 _
 exact T1 (λ_=>T2 λh=>by cases h) λ_=>k1 _
def Eg {α:Type}{o:O_ α}{P:α->Prop}(h:Qj o P){r:α}(e:o=some r):P r:=by
 obtain⟨r',D,h2⟩:=h
 rw[e]at D;cases D;exact h2
def QmA : ∀(n:Nat) (v:LI_) (e:Qp),POk v.length e->SizeOf.sizeOf e<=n->Qj (XI n v e) λ_=>True
 | 0,_,e,_,h=>absurd e.pos (by omega)
 | n+1,v,e,he,h=>by
  cases he with
  | mk _ D h2 h3 h5 h6 hr=>
  unfold XI Uh
  have sub:∀(j:Nat) (hj:j<e.Kids.length),Qj (XI n v (e.Kids[j])) λ_=>True:=λj hj=>
   QmA n v _ (hr _ (Xn hj)) (by have:=SG (Xn hj);omega)
  have kid:∀(j:Nat) (hj:j<e.Kids.length),idx e.Kids (j:Int)=some e.Kids[j]:=λj hj=>by rw[QP,Qy hj]
  rcases D with D | D | D | D | D | D
  ·refine T0 (P:=λx=>x=.inl v) (by unfold KI;rw[D];exact T2 rfl) λx hx=>?_
   subst hx
   exact T3
  ·refine T0 (P:=λx=>x=.inr (.inl v)) (by unfold KI;rw[D];exact T2 rfl) λx hx=>?_
   subst hx
   show Qj (DA e v) _
   unfold DA Ap
   have:=h2 D
   exact T0 (T0 (T4 (by omega) (by omega)) λ_ _=>T3) λ_ _=>T3
  ·refine T0 (P:=λx=>x=.inr (.inr (.inl v))) (by unfold KI JZ;rw[D];exact T2 rfl) λx hx=>?_
   subst hx
   show Qj (Ka (XI n) e v) _
   unfold Ka Ug
   have hl:=h3 (.inl D)
   refine T0 (P:=λ_=>True) ?_ λ_ _=>T3
   rw[show idx e.Kids 0=some (e.Kids[0]'(by omega))from kid 0 (by omega),Qd]
   refine T0 (sub 0 (by omega)) λx _=>?_
   refine T1 (λ_=>T3) λ_=>T1 (λ_=>T0 (Qex _) λ_ _=>T3) λ_=>T0 (Cd _ _ _) λ_ _=>T3
  ·refine T0 (P:=λx=>x=.inr (.inr (.inl v))) (by unfold KI JZ;rw[D];exact T2 rfl) λx hx=>?_
   subst hx
   show Qj (Ka (XI n) e v) _
   unfold Ka Ug
   have hl:=h3 (.inr D)
   refine T0 (P:=λ_=>True) ?_ λ_ _=>T3
   rw[show idx e.Kids 0=some (e.Kids[0]'(by omega))from kid 0 (by omega),Qd]
   refine T0 (sub 0 (by omega)) λx _=>?_
   refine T1 (λ_=>T3) λ_=>T1 (λ_=>T0 (Qex _) λ_ _=>T3) λ_=>T0 (Cd _ _ _) λ_ _=>T3
  ·refine T0 (P:=λx=>x=.inr (.inr (.inr (.inl v)))) (by unfold KI JZ;rw[D];exact T2 rfl) λx hx=>?_
   subst hx
   show Qj (DB (XI n) e v) _
   unfold DB LK
   have hl:=h5 D
   refine T0 (P:=λ_=>True) ?_ λ_ _=>T3
   rw[show idx e.Kids 0=some (e.Kids[0]'(by omega))from kid 0 (by omega),Qd]
   refine T0 (sub 0 (by omega)) λx _=>?_
   have k1:∀b,Qj (WB x e (XI n) v b) λ_=>True:=λb=>by
    unfold WB
    refine T1 (λ_=>T0 (Cd _ _ _) λ_ _=>T3) λ_=>?_
    rw[show idx e.Kids 1=some (e.Kids[1]'(by omega))from kid 1 (by omega),Qd]
    refine T0 (sub 1 (by omega)) λy _=>?_
    exact T1 (λ_=>T3) λ_=>T0 (Cd _ _ _) λ_ _=>T3
   exact T1 (λ_=>T3) λ_=>T1 (λ_=>k1 _) λ_=>T1 (λ_=>k1 _) λ_=>k1 _
  refine T0 (P:=λx=>x=.inr (.inr (.inr (.inr v)))) (by unfold KI JZ;rw[D];exact T2 rfl) λx hx=>?_
  subst hx
  show Qj (DC (XI n) e v) _
  unfold DC Ci
  have hl:=h6 D
  refine T0 (P:=λ_=>True) ?_ λ_ _=>T3
  rw[show idx e.Kids 0=some (e.Kids[0]'(by omega))from kid 0 (by omega),Qd]
  refine T0 (sub 0 (by omega)) λx _=>?_
  refine T1 (λ_=>T3) λ_=>T1 (λ_=>?_) λ_=>?_
  ·rw[show idx e.Kids 1=some (e.Kids[1]'(by omega))from kid 1 (by omega),Qd]
   exact T0 (sub 1 (by omega)) λy _=>T3
  rw[show idx e.Kids 2=some (e.Kids[2]'(by omega))from kid 2 (by omega),Qd]
  exact T0 (sub 2 (by omega)) λy _=>T3
def Qpv (e:Qp)(v:LI_)(h:KW e):Qj (BW e v) λ_=>True:=by
 unfold BW
 refine T0 (Mk e v.length h) λx hx=>?_
 refine T1 (λ_=>T3) λD=>?_
 unfold Ie
 exact T0 (QmA _ v e (hx (by simpa using D)) (YY _)) λ_ _=>T3
def Qon (n:Qk)(D:Int)(vars:LI_)(h:Xd n):Qj (Dc n D vars) λr=>r.2=0->0<=D/\D<n.Tasks.length:=by
 unfold Dc
 refine T1 (λ_=>T2 λh=>by cases h) λhc=>?_
 simp only[Kw,QX]at hc
 refine T0 (T4 (by omega) (by omega)) λe he=>?_
 have hv:=(h.tk e he).1
 have ke:=h.k.2.2.1.2 e he
 refine T1 (λ_=>T2 λh=>by cases h) λhl=>?_
 simp only[WP]at hl
 refine T0 (T5 (by simp only[QQ,QB];omega)) λ_ _=>?_
 refine T6 (P:=λ_=>True) ?_ λ_ _ _=>by omega
 refine T0 (Qj.up e.Vars.length (λst=>st.1) (λst=>st.2.length=e.Vars.length) (Q:=λ_=>True) rfl (by simp) (λi st hi hn hJ=>?_)) (λq _=>?_)
 ·obtain⟨x,l⟩:=st
  replace hi:x=(i:Int):=hi
  replace hJ:l.length=e.Vars.length:=hJ
  show Qj (Db e vars n x l) _
  unfold Db
  refine T1 (λhc=>?_) (λ_=>T2 (Qq trivial))
  simp only[QB]at hc
  refine T0 (T4 (by omega) (by omega)) λa _=>?_
  refine T0 (T4 (by omega) (by omega)) λb _=>?_
  refine T0 (QqF _ _ _ h.k.1) λc _=>?_
  refine T1 (λ_=>T2 (Qq trivial)) λ_=>?_
  refine T0 (T4 (by omega) (by omega)) λd _=>?_
  exact T2 (QJ ⟨by omega,by subst hi;exact Qt (by omega) (by unfold maxLen;omega:e.Vars.length<=maxLen),by simpa using hJ⟩)
 rcases q with q | q
 ·exact T3
 exact T3
def RU {α:Type}{l:L_ α}{i:Nat}{x y:α}(h:y∈l.set i x):y=x\/y∈l:=by
 rcases List.mem_or_eq_of_mem_set h with h | h
 ·exact .inr h
 exact .inl h
def OI (n:Qk)(l:L_ Yg)(D env:LI_)(h:Xd n)(hl:QV Hu l)(hw:D.length<=1000):Qj (Yj n l D env) λr=>r.2=0->Kc n D.length r.1/\II n r.1:=by
 unfold Yj
 have hpl:=h.pl
 refine T0 (T5 (by simp only[QQ,QB];omega)) λ_ _=>?_
 refine T0 (Qj.up D.length (λst=>st.1) (λst=>(st.2.length=n.Places.length/\∀b∈st.2,Rt b/\(b.length:Int)<=st.1)/\II n st.2) (Q:=λq=>(∀x,q=.inl x->x≠0)/\∀m,q=.inr m->Kc n D.length m/\II n m) rfl ⟨⟨by simp,λb hb=>?_⟩,λj b p hb hp k hk=>?_⟩ (λi st hi hn hJ=>?_)) (λq hq=>?_)
 ·have:=RZ hb
  subst this
  exact⟨Rt.nil,by simp⟩
 ·have:=RZ (XH hb)
  subst this
  simp[QM,QR]at hk
 ·obtain⟨x,m⟩:=st
  replace hi:x=(i:Int):=hi
  obtain⟨⟨hJ1,hJ2⟩,hJ3⟩:(m.length=n.Places.length/\∀b∈m,Rt b/\(b.length:Int)<=x)/\II n m:=hJ
  have err:∀y:Int,y≠0->(∀s',(Sum.inr (Sum.inl y):(Int×L_ QBg)⊕(Int⊕L_ QBg))=.inl s'->i<D.length/\s'.1=((i+1:Nat):Int)/\(s'.2.length=n.Places.length/\∀b∈s'.2,Rt b/\(b.length:Int)<=s'.1)/\II n s'.2)/\∀r,(Sum.inr (Sum.inl y):(Int×L_ QBg)⊕(Int⊕L_ QBg))=.inr r->(∀x,r=.inl x->x≠0)/\∀m,r=.inr m->Kc n D.length m/\II n m:=
   λy hy=>⟨λs' e=>(by cases e),λr e=>(by cases e;exact⟨λx e=>(by cases e;exact hy),λm e=>(by cases e)⟩)⟩
  show Qj (Wb D l env n x m) _
  unfold Wb
  refine T1 (λhc=>?_) (λhc=>T2 (Qq ⟨λx e=>(by cases e),λm' e=>?_⟩))
  ·simp only[QB]at hc
   refine T0 (T4 (by omega) (by omega)) λe18 _=>?_
   refine T1 (λ_=>T2 (err _ (by decide))) λhc1=>?_
   simp only[Kw,QX]at hc1
   refine T0 (T4 (by omega) (by omega)) λe22 h22=>?_
   refine T0 (Qpv e22.Expr env (hl.2 e22 h22).2) λx23 _=>?_
   refine T1 (λhc2=>T2 (err _ (by simpa using hc2))) λ_=>?_
   refine T0 (T4 (by omega) (by omega)) λe25 _=>?_
   refine T1 (λ_=>T2 (err _ (by decide))) λhc3=>?_
   simp only[Kw,QX]at hc3
   refine T0 (T4 (by omega) (by omega)).self λe29 h29=>?_
   refine T0 (Qmz _ _ _ h.k.1).self λx30 h30=>?_
   refine T1 (λ_=>T2 (err _ (by decide))) λhc4=>?_
   have hz:=Eg (Qpu _ _ _ h.k.1) h30.1 (by simpa using hc4)
   have h30:=h30.2 (by simpa using hc4)
   refine T0 (T4 (by omega) (by omega)).self λe32 h32e=>?_
   have h32:=h32e.2
   have h32e:=h32e.1
   have h29:=h29.1
   rw[Ri,QE h30]
   simp only[Qz,Qd]
   have hb:=hJ2 e32 h32
   have key:∃s,Ji e32 [(x30.1,1)]=some s/\(s.2=0->(Rt s.1/\s.1.length<=e32.length+1)/\∀k,QM s.1 k=QM e32 k+QM [(x30.1,1)] k):=by
    rcases EA e32 [(x30.1,1)] (by simp;omega)with⟨_,e⟩|⟨_,_,_,e⟩|⟨_,_,r,e,h1,hcn,h2⟩
    ·exact⟨_,e,λh=>by cases h⟩
    ·exact⟨_,e,λh=>by cases h⟩
    exact⟨_,e,λ_=>⟨⟨h1,by simpa using h2⟩,hcn⟩⟩
   obtain⟨s,es,hs⟩:=key
   rw[es,Qd]
   refine T0 (T4 (by omega) (by omega)) λ_ _=>?_
   refine T1 (λhc5=>T2 (err _ (by simpa using hc5))) λhc5=>?_
   obtain⟨hs,hcn⟩:=hs (by simpa using hc5)
   refine T2 (QJ ⟨by omega,by subst hi;exact Qt (by omega) (by unfold maxLen;omega:D.length<=maxLen),⟨by simpa using hJ1,λb hb'=>?_⟩,λj b p hb' hp k hk=>?_⟩)
   ·subst hi
    show Rt b/\(b.length:Int)<=Qi ((i:Int)+1)
    rw[Qt (by omega) (by unfold maxLen;omega:D.length<=maxLen)]
    rcases RU hb' with rfl | hb'
    ·exact⟨hs.1,by omega⟩
    have:=hJ2 b hb'
    exact⟨this.1,by omega⟩
   have hb':(m.set e25.Place.toNat s.1)[j]? = some b:=hb'
   by_cases cj:e25.Place.toNat=j
   ·subst cj
    rw[QeJ (by omega)]at hb'
    cases hb'
    rw[WN (by omega)]at h29 h32e
    rw[h29]at hp
    cases hp
    rw[hcn]at hk
    by_cases c0:0<QM e32 k
    ·exact hJ3 _ e32 e29 h32e h29 k c0
    have h9:0<QM [(x30.1,1)] k:=by omega
    have h8:x30.1=k:=by
     apply Decidable.byContradiction
     intro hne
     simp[QM,QR,hne]at h9
    obtain⟨z,hz1,hz2⟩:=hz
    exact⟨z,hz1,by omega⟩
   rw[QeI cj]at hb'
   exact hJ3 j b p hb' hp k hk
  cases e
  exact⟨⟨hJ1,λb hb=>⟨(hJ2 b hb).1,by have:=(hJ2 b hb).2;omega⟩⟩,hJ3⟩
 rcases q with q | q
 ·exact T2 λh=>absurd h (hq.1 q rfl)
 exact T2 λ_=>hq.2 q rfl
def QhR (a m:L_ QBg)(D:QV (QV λ_=>True) a)(hm:QV (QV λ_=>True) m):Qj (EY a m) λ_=>True:=by
 unfold EY XT
 refine T0 (P:=λ_=>True) ?_ λ_ _=>T3
 refine T1 (λ_=>T3) λh=>?_
 simp only[WP]at h
 refine T0 (Qj.up a.length (λst=>st) (λ_=>True) (Q:=λ_=>True) rfl trivial (λi st hi hn hJ=>?_)) (λq _=>?_)
 ·show Qj (Xi a m st) _
  unfold Xi
  refine T1 (λh=>?_) (λ_=>T2 (Qq trivial))
  simp only[QB]at h
  refine T0 (T4 (by omega) (by omega)) λx hx=>?_
  refine T0 (T4 (by omega) (by omega)) λy hy=>?_
  refine T0 (P:=λ_=>True) (by obtain⟨r,hr,_⟩:=BO x y (D.2 x hx).1 (hm.2 y hy).1;exact⟨r,hr,trivial⟩) λ_ _=>?_
  exact T1 (λ_=>T2 (Qq trivial)) λ_=>T2 (QJ ⟨by omega,by rw[hi];exact Qt (by omega) D.1,trivial⟩)
 rcases q with q | q
 ·exact T3
 exact T3
def Kc.len {n:Qk}{c:Nat}{m:L_ QBg}(h:Kc n c m)(hn:Xd n)(hc:c<=1000000):QV (QV λ_=>True) m:=
 ⟨by have:=h.1;have:=hn.pl;unfold maxLen;omega,λb D=>⟨by have:=(h.2 b D).2;unfold maxLen;omega,λ_ _=>trivial⟩⟩
structure BOk (n:Qk) (m:List QBg) (b:Xf):Prop where
 net:b.net=n
 mm:b.m=m
 task:b.task∈n.Tasks
def Qny (n:Qk)(m:L_ QBg)(D:Int)(vars:LI_)(h:Xd n):Qj (YV n m D vars) λr=>r.1=0->BOk n m r.2:=by
 unfold YV
 refine T0 (Qon n D vars h) λx hx=>?_
 refine T1 (λhc=>T2 λh=>absurd h (by simpa using hc)) λhc=>?_
 have:=hx (by simpa using hc)
 exact T0 (T4 this.1 this.2) λe he=>T2 λ_=>⟨rfl,rfl,he⟩
def Qk8 (n:Qk)(m:L_ QBg)(b:Xf)(h:Xd n)(D:BOk n m b):Qj (XF b) λ_=>True:=by
 unfold XF
 refine T0 (Qpv _ _ (h.k.2.2.1.2 _ D.task).2.2.1) λx _=>?_
 exact T1 (λ_=>T3) λ_=>T1 (λ_=>T3) λ_=>T3
def QkM (n:Qk)(m:L_ QBg)(b:Xf)(outs:LI_)(h:Xd n)(D:BOk n m b)(ho:outs.length<=1000):Qj (XZ b outs) λ_=>True:=by
 unfold XZ
 rw[D.net]
 exact T0 (OI n _ outs _ h (h.k.2.2.1.2 _ D.task).2.2.2.2.2.2.1 ho) λx _=>T3
def Qoo (l:LI_)(x:Int)(h:l.length<=maxLen):Qj (Yy l x) λ_=>True:=Fk l x ⟨h,λ_ _=>trivial⟩
def OQ (l:LI_)(h:l.length<=4294967296):YG l=some l:=by
 unfold YG
 rw[WJ (by simp;omega)];rfl
def QcB (l:LI_)(h:l.length<=4294967296):Jh l=some (DI l):=by
 unfold Jh
 rw[WJ (by omega)];rfl
def Qnz (n:Qk)(m:L_ QBg)(b:Xf)(D:LI_)(h:Xd n)(hb:BOk n m b)(hm:QV (QV λ_=>True) m)(hi:D.length<=100):Qj (XA b D) λ_=>True:=by
 have ki:=(h.k.2.2.1.2 _ hb.task).2.2.2.2.2.1
 have kl:=(h.tk _ hb.task).2.1
 unfold XA
 rw[hb.net,hb.mm]
 refine T0 (OI n _ D _ h ki (by omega)) λx hx=>?_
 refine T1 (λ_=>T3) λhc=>?_
 have hx:=hx (by simpa using hc)
 refine T0 (QhR _ _ (hx.1.len h (by omega)) hm) λy _=>?_
 refine T1 (λ_=>T3) λ_=>T1 (λ_=>T3) λ_=>?_
 refine T0 (Qj.up b.task.Ins.length (λst=>st) (λ_=>True) (Q:=λ_=>True) rfl trivial (λi st hi hn _=>?_)) (λq _=>?_)
 ·show Qj (Yn b D st) _
  unfold Yn
  refine T1 (λhc=>?_) (λ_=>T2 (Qq trivial))
  simp only[QB]at hc
  have step:Qj (KB st) λo=>(∀s',o=.inl s'->i<b.task.Ins.length/\s'=((i+1:Nat):Int)/\True)/\∀r:Unit⊕Unit,o=.inr r->True:=
   T2 (QJ (ix:=λst=>st) (J:=λ_=>True) (Q:=λ_=>True) ⟨by omega,by rw[hi];exact Qt (by omega) ki.1,trivial⟩)
  refine T0 (Qoo D st (by unfold maxLen;omega)) λz _=>?_
  refine T1 (λ_=>step) λ_=>?_
  rw[OQ D (by omega),Qd]
  refine T0 (T5 (by simp;omega)) λ_ _=>?_
  rw[QcB _ (by simp;omega),Qd]
  refine T0 (T5 (by simp[Gv])) λ_ _=>?_
  rw[hb.net]
  refine T0 (OI n _ _ _ h ki (by rw[Gv];simp;omega)) λu hu=>?_
  refine T0 (P:=λ_=>True) ?_ λv _=>?_
  ·unfold BZ
   rw[hb.mm]
   refine T1 (λhc2=>?_) λ_=>T3
   have hu:=hu (by simpa using hc2)
   refine T0 (QhR _ _ (hu.1.len h (by rw[Gv];simp;omega)) hm) λ_ _=>T3
  unfold Ca
  exact T1 (λ_=>T2 (Qq trivial)) λ_=>step
 rcases q with q | q
 ·exact T3
 exact T3
def Ln (r:L_ LI_):Prop:=r.length<=16/\∀row∈r,row.length<=16
def chB (o:O_ QLL):Bool:=match o with
 | some r=>decide (r.length<=16)&&r.all λrow=>decide (row.length<=16)
 | none=>false
def QmB {o:O_ QLL}(h:chB o=true):Qj o Ln:=by
 cases o with
 | none=>cases h
 | some r=>
  simp only[chB,QQ,QB,XN]at h
  exact T2 h
def QmC {h:Int}(D:¬h<0)(h1:¬16<h):h=0\/h=1\/h=2\/h=3\/h=4\/h=5\/h=6\/h=7\/h=8\/h=9\/h=10\/h=11\/h=12\/h=13\/h=14\/h=15\/h=16:=by omega
set_option maxRecDepth 100000 in
def QaM (kind D:Int):Qj (YO kind D) Ln:=by
 by_cases hg:((decide (D<0))||((decide (16<D))||((kind==3)&&(decide (4<D)))))=true
 ·unfold YO
  rw[hg]
  exact T2 ⟨by simp,λr h=>by cases h⟩
 simp only[KE,QQ,QB,beq_iff_eq,not_or,not_and]at hg
 obtain⟨h0,h1,h2⟩:=hg
 by_cases e1:kind=1
 ·subst e1
  rcases QmC h0 h1 with rfl | rfl | rfl | rfl | rfl | rfl | rfl | rfl | rfl | rfl | rfl | rfl | rfl | rfl | rfl | rfl | rfl<;>exact QmB (by kernel_rfl)
 by_cases e2:kind=2
 ·subst e2
  rcases QmC h0 h1 with rfl | rfl | rfl | rfl | rfl | rfl | rfl | rfl | rfl | rfl | rfl | rfl | rfl | rfl | rfl | rfl | rfl<;>exact QmB (by kernel_rfl)
 by_cases e3:kind=3
 ·subst e3
  have h3:=h2 rfl
  have:D=0\/D=1\/D=2\/D=3\/D=4:=by omega
  rcases this with rfl | rfl | rfl | rfl | rfl<;>exact QmB (by kernel_rfl)
 have f1:(kind==1)=false:=by simpa using e1
 have f2:(kind==2)=false:=by simpa using e2
 have f3:(kind==3)=false:=by simpa using e3
 unfold YO Uf
 rw[f1,f2,f3]
 exact T1 (λ_=>T2 ⟨by simp,λr h=>by cases h⟩) λ_=>T2 ⟨by simp,λr h=>by cases h⟩
def Qrt (a b:LI_)(D:a.length<=maxLen):Qj (Jw a b) λ_=>True:=by
 unfold Jw
 refine T1 (λ_=>T3) λh=>?_
 simp only[WP]at h
 refine T0 (Qj.up a.length (λst=>st) (λ_=>True) (Q:=λ_=>True) rfl trivial (λi st hi hn hJ=>?_)) (λq _=>?_)
 ·show Qj (KL a b st) _
  unfold KL
  refine T1 (λh=>?_) (λ_=>T2 (Qq trivial))
  simp only[QB]at h
  refine T0 (T4 (by omega) (by omega)) λx hx=>?_
  refine T0 (T4 (by omega) (by omega)) λy hy=>?_
  exact T1 (λ_=>T2 (Qq trivial)) λ_=>T2 (QJ ⟨by omega,by rw[hi];exact Qt (by omega) D,trivial⟩)
 rcases q with q | q
 ·exact T3
 exact T3
def QmD (D h:Int)(row:LI_):Qj (Gy D h row) λ_=>True:=by
 unfold Gy KZ KY
 refine T0 (QaM D h) λx hx=>?_
 refine T0 (P:=λ_=>True) ?_ λ_ _=>T3
 refine T0 (P:=λ_=>True) ?_ λ_ _=>T3
 have hl:=hx.1
 refine T0 (Qj.up x.length (λst=>st) (λ_=>True) (Q:=λ_=>True) rfl trivial (λi st hi hn hJ=>?_)) (λq _=>?_)
 ·show Qj (YA x row st) _
  unfold YA Ig
  refine T1 (λhc=>?_) (λ_=>T2 (Qq trivial))
  simp only[QB]at hc
  refine T0 (T4 (by omega) (by omega)) λe he=>?_
  have:=hx.2 e he
  refine T0 (T0 (Qrt e row (by unfold maxLen;omega)) λ_ _=>T3) λ_ _=>?_
  exact T1 (λ_=>T2 (Qq trivial)) λ_=>T2 (QJ ⟨by omega,by rw[hi];exact Qt (by omega) (by unfold maxLen;omega:x.length<=maxLen),trivial⟩)
 rcases q with q | q
 ·exact T3
 exact T3
def XQ (n:Qk)(o:Qg):Prop:=o.Vars.length<=20/\o.Ins.length<=20/\o.Outs.length<=20
def QbJ (n:Qk)(m:L_ QBg)(o:Qg)(h:Xd n)(hm:QV (QV λ_=>True) m)(ho:XQ n o):Qj (Yv n m o) λ_=>True:=by
 unfold Yv
 refine T0 (Qny n m o.Task o.Vars h) λx hx=>?_
 have k3:∀e,(e=0->x.1=0)->Qj (Jt x o e) λ_=>True:=λe he=>by
  unfold Jt
  refine T1 (λ_=>T3) λD=>?_
  have hb:=hx (he (by simpa using D))
  refine T0 (P:=λ_=>True) ?_ λy _=>?_
  ·unfold Bm
   refine T0 (QmD _ _ _) λz _=>?_
   exact T1 (λ_=>T3) λ_=>T0 (QmD _ _ _) λ_ _=>T3
  unfold Bn
  refine T1 (λ_=>T3) λ_=>?_
  refine T0 (Qnz n m x.2 o.Ins h hb hm (by have:=ho.2.1;omega)) λz _=>?_
  refine T1 (λ_=>T3) λ_=>?_
  exact T0 (QkM n m x.2 o.Outs h hb (by have:=ho.2.2;omega)) λ_ _=>T3
 refine T1 (λD=>?_) λD=>k3 _ λh=>h
 have D:x.1=0:=by simpa using D
 exact T0 (Qk8 n m x.2 h (hx D)) λe _=>k3 e λ_=>D
def QkN (n:Qk)(o:Qg)(h:Xd n)(ho:XQ n o):Qj (WW n o) λr=>r.2=0->Kc n 20 r.1/\II n r.1:=by
 unfold WW
 refine T0 (Qon n o.Task o.Vars h) λx hx=>?_
 refine T1 (λD=>T2 λh=>absurd h (by simpa using D)) λD=>?_
 have:=hx (by simpa using D)
 refine T0 (T4 this.1 this.2) λe he=>?_
 have hl:=ho.2.1
 exact T0 (OI n _ _ _ h (h.k.2.2.1.2 _ he).2.2.2.2.2.1 (by omega)) λy hy=>T2 λh0=>⟨(hy h0).1.mono hl,(hy h0).2⟩
def QkO (n:Qk)(o:Qg)(h:Xd n)(ho:XQ n o):Qj (Ld n o) λr=>r.2=0->(Kc n 20 r.1/\II n r.1)/\0<=o.Task/\o.Task<n.Tasks.length:=by
 unfold Ld
 refine T0 (Qon n o.Task o.Vars h) λx hx=>?_
 refine T1 (λD=>T2 λh=>absurd h (by simpa using D)) λD=>?_
 have:=hx (by simpa using D)
 refine T0 (T4 this.1 this.2) λe he=>?_
 have hl:=ho.2.2
 exact T0 (OI n _ _ _ h (h.k.2.2.1.2 _ he).2.2.2.2.2.2.1 (by omega)) λy hy=>T2 λh0=>⟨⟨(hy h0).1.mono hl,(hy h0).2⟩,this⟩
def Qk9 {σ ρ:Type}{body:σ->O_ (σ⊕ρ)}(mu:σ->Nat)(J:σ->Prop){Q:ρ->Prop}{s0:σ}(hJ:J s0)
  (D:∀s,J s->Qj (body s) λo=>(∀h,o=.inl h->mu h<mu s/\J h)/\∀r,o=.inr r->Q r):Qj (Qu body s0) Q:=by
 have key:∀k s,mu s<=k->J s->Qj (Qu body s) Q:=by
  intro k
  induction k with
  | zero=>
   intro s hk hj
   obtain⟨o,ho,h1,h2⟩:=D s hj
   cases o with
   | inl h=>have:=(h1 h rfl).1;omega
   | inr r=>exact⟨r,by rw[YR,ho];rfl,h2 r rfl⟩
  | succ k ih=>
   intro s hk hj
   obtain⟨o,ho,h1,h2⟩:=D s hj
   cases o with
   | inl h=>
    obtain⟨h3,h4⟩:=h1 h rfl
    obtain⟨r,h5,h6⟩:=ih h (by omega) h4
    exact⟨r,by rw[YR,ho];exact h5,h6⟩
   | inr r=>exact⟨r,by rw[YR,ho];rfl,h2 r rfl⟩
 exact key _ s0 (YY _) hJ
def QhS {l:LI_}{k:Nat}(h:k<l.length)(Z:LI_)(x:Int):(l.take (k+1)++Z).set k x=l.take k++x::Z:=by
 have e:l.take (k+1)=l.take k++[l[k]]:=by rw[ED,Qy h];rfl
 rw[e,WY,List.set_append,if_neg (by simp;omega)]
 have:k-(l.take k).length=0:=by simp;omega
 rw[this];rfl
def Lp (m:L_ QBg)(h:m.length<=4294967296)(hb:∀b∈m,b.length<=4294967296):HA m=some m:=by
 unfold HA JL
 rw[WJ (by simp;omega)]
 simp only[Qd,Nm]
 obtain⟨r,h1,h2⟩:=(Qj.up (body:=λst=>LG m st.1 st.2) m.length (λst=>st.1) (λst=>st.2=m) (Q:=λq=>q=m) (s0:=(0,m)) rfl rfl (λi st hi hn hJ=>by
  obtain⟨x,l⟩:=st
  replace hi:x=(i:Int):=hi
  replace hJ:l=m:=hJ
  subst hJ
  show Qj (LG l x l) _
  unfold LG
  refine T1 (λhc=>?_) (λ_=>T2 (Qq rfl))
  simp only[QB]at hc
  have D:i<l.length:=by omega
  rw[hi,QP,Qy D,Qd]
  unfold Yz
  rw[WJ (by have:=hb _ (Xn D);simp;omega)]
  simp only[Qd,Nm]
  exact T2 (QJ ⟨D,Qt D (by unfold maxLen;omega),by simp⟩)))
 rw[h1,h2];rfl
def QqG (n:Qk)(a b:L_ QBg)(c d:Nat)(h:Xd n)(ha:Kc n c a)(hb:Kc n d b)(hcd:c+d<=1000000):Qj (Dd a b) λr=>r.2=0->Kc n (c+d) r.1:=by
 have hpl:=h.pl
 have ha1:=ha.1
 have hb1:=hb.1
 have D:min2 (a.length:Int) (b.length:Int)=(n.Places.length:Int):=by unfold min2;split<;>omega
 unfold Dd
 rw[D]
 refine T0 (T5 (by simp only[QQ,QB];omega)) λ_ _=>?_
 refine T0 (Qj.up n.Places.length (λst=>st.1) (λst=>st.2.length=n.Places.length/\∀b∈st.2,Rt b/\b.length<=c+d) (Q:=λq:Int⊕L_ QBg=>(∀x,q=.inl x->x≠0)/\∀m,q=.inr m->Kc n (c+d) m) rfl ⟨by simp,λb hb=>?_⟩ (λi st hi hn hJ=>?_)) (λq hq=>?_)
 ·have:=RZ hb
  subst this
  exact⟨Rt.nil,by simp⟩
 ·obtain⟨x,m⟩:=st
  replace hi:x=(i:Int):=hi
  obtain⟨hJ1,hJ2⟩:m.length=n.Places.length/\∀b∈m,Rt b/\b.length<=c+d:=hJ
  show Qj (Kg a b x m) _
  unfold Kg
  rw[D]
  refine T1 (λhc=>?_) (λhc=>T2 (Qq ⟨λx e=>(by cases e),λm' e=>(by cases e;exact⟨hJ1,hJ2⟩)⟩))
  simp only[QB,TC]at hc
  refine T0 (T4 (by omega) (by omega)) λu hu=>?_
  refine T0 (T4 (by omega) (by omega)) λv hv=>?_
  have hu2:=ha.2 u hu
  have hv2:=hb.2 v hv
  have key:∃s,Ju u v=some s/\(s.2=0->Rt s.1/\s.1.length<=c+d):=by
   rcases Hy u v (by omega)with⟨_,e⟩|⟨_,_,_,e⟩|⟨_,_,_,r,e,h1,_,h2⟩
   ·exact⟨_,e,λh=>by cases h⟩
   ·exact⟨_,e,λh=>by cases h⟩
   exact⟨_,e,λ_=>⟨h1,by show r.length<=_;omega⟩⟩
  obtain⟨s,es,hs⟩:=key
  rw[es,Qd]
  refine T0 (T4 (by omega) (by omega)) λ_ _=>?_
  refine T1 (λhc5=>T2 (Qq ⟨λx e=>(by cases e;simpa using hc5),λm' e=>(by cases e)⟩)) λhc5=>?_
  have hs:=hs (by simpa using hc5)
  refine T2 (QJ ⟨by omega,by subst hi;exact Qt (by omega) (by unfold maxLen;omega:n.Places.length<=maxLen),by simpa using hJ1,λb hb'=>?_⟩)
  rcases RU hb' with rfl | hb'
  ·exact hs
  exact hJ2 b hb'
 rcases q with q | q
 ·exact T2 λh=>absurd h (hq.1 q rfl)
 exact T2 λ_=>hq.2 q rfl
def Qpw (n:Qk)(a b:L_ QBg)(c d:Nat)(h:Xd n)(ha:Kc n c a)(hb:Kc n d b)(hcd:c+d<=1000000):Qj (Kh a b) λr=>r.2=0->Kc n (c+d) r.1:=by
 have hpl:=h.pl
 have ha1:=ha.1
 have hb1:=hb.1
 have D:min2 (a.length:Int) (b.length:Int)=(n.Places.length:Int):=by unfold min2;split<;>omega
 unfold Kh
 rw[D]
 refine T0 (T5 (by simp only[QQ,QB];omega)) λ_ _=>?_
 refine T0 (Qj.up n.Places.length (λst=>st.1) (λst=>st.2.length=n.Places.length/\∀b∈st.2,Rt b/\b.length<=c+d) (Q:=λq:Int⊕L_ QBg=>(∀x,q=.inl x->x≠0)/\∀m,q=.inr m->Kc n (c+d) m) rfl ⟨by simp,λb hb=>?_⟩ (λi st hi hn hJ=>?_)) (λq hq=>?_)
 ·have:=RZ hb
  subst this
  exact⟨Rt.nil,by simp⟩
 ·obtain⟨x,m⟩:=st
  replace hi:x=(i:Int):=hi
  obtain⟨hJ1,hJ2⟩:m.length=n.Places.length/\∀b∈m,Rt b/\b.length<=c+d:=hJ
  show Qj (Jf a b x m) _
  unfold Jf
  rw[D]
  refine T1 (λhc=>?_) (λhc=>T2 (Qq ⟨λx e=>(by cases e),λm' e=>(by cases e;exact⟨hJ1,hJ2⟩)⟩))
  simp only[QB,TC]at hc
  refine T0 (T4 (by omega) (by omega)) λu hu=>?_
  refine T0 (T4 (by omega) (by omega)) λv hv=>?_
  have hu2:=ha.2 u hu
  have hv2:=hb.2 v hv
  have key:∃s,Ji u v=some s/\(s.2=0->Rt s.1/\s.1.length<=c+d):=by
   rcases EA u v (by omega)with⟨_,e⟩|⟨_,_,_,e⟩|⟨_,_,r,e,h1,_,h2⟩
   ·exact⟨_,e,λh=>by cases h⟩
   ·exact⟨_,e,λh=>by cases h⟩
   exact⟨_,e,λ_=>⟨h1,by show r.length<=_;omega⟩⟩
  obtain⟨s,es,hs⟩:=key
  rw[es,Qd]
  refine T0 (T4 (by omega) (by omega)) λ_ _=>?_
  refine T1 (λhc5=>T2 (Qq ⟨λx e=>(by cases e;simpa using hc5),λm' e=>(by cases e)⟩)) λhc5=>?_
  have hs:=hs (by simpa using hc5)
  refine T2 (QJ ⟨by omega,by subst hi;exact Qt (by omega) (by unfold maxLen;omega:n.Places.length<=maxLen),by simpa using hJ1,λb hb'=>?_⟩)
  rcases RU hb' with rfl | hb'
  ·exact hs
  exact hJ2 b hb'
 rcases q with q | q
 ·exact T2 λh=>absurd h (hq.1 q rfl)
 exact T2 λ_=>hq.2 q rfl
def QmE (n:Qk)(m:L_ QBg)(o:Qg)(c:Nat)(h:Xd n)(hm:Kc n c m)(D:c<=900000)(ho:XQ n o):Qj (El n m o) λr=>r.2=0->Kc n (c+20) r.1:=by
 unfold El
 refine T0 (QbJ n m o h (hm.len h (by omega)) ho) λx _=>?_
 refine T1 (λD=>T2 λh=>absurd h (by simpa using D)) λ_=>?_
 refine T0 (QkN n o h ho) λy hy=>?_
 refine T1 (λD=>T2 λh=>absurd h (by simpa using D)) λhc2=>?_
 exact T0 (QqG n m y.1 c 20 h hm (hy (by simpa using hc2)).1 (by omega)) λz hz=>T2 hz
def Qr9 (n:Qk)(m:L_ QBg)(o:Qg)(c:Nat)(h:Xd n)(hm:Kc n c m)(hc:c<=900000)(ho:XQ n o):Qj (DT n m o) λr=>r.2=0->Kc n (c+20) r.1:=by
 have hpl:=h.pl
 have hm1:=hm.1
 unfold DT
 refine T0 (QkO n o h ho) λy hy=>?_
 refine T1 (λhc=>T2 λh=>absurd h (by simpa using hc)) λhc2=>?_
 obtain⟨⟨hy,_⟩,h1,h2⟩:=hy (by simpa using hc2)
 rw[Lp m (by omega) (λb hb=>by have:=(hm.2 b hb).2;omega),Qd]
 refine T0 (T4 h1 h2) λe he=>?_
 have hcl:=(h.tk e he).2.2.2
 refine T0 (Qj.up e.Cancel.length (λst=>st.1) (λst=>Kc n c st.2) (Q:=λq=>Kc n c q) rfl hm (λi st hi hn hJ=>?_)) (λq hq=>?_)
 ·obtain⟨x,l⟩:=st
  replace hi:x=(i:Int):=hi
  replace hJ:Kc n c l:=hJ
  show Qj (Jc e x l) _
  unfold Jc
  refine T1 (λhc=>?_) (λ_=>T2 (Qq hJ))
  simp only[QB]at hc
  refine T0 (T4 (by omega) (by omega)) λk _=>?_
  have next:∀l,Kc n c l->Qj (DD x l) λo=>(∀s',o=.inl s'->i<e.Cancel.length/\s'.1=((i+1:Nat):Int)/\Kc n c s'.2)/\∀r:L_ QBg,o=.inr r->Kc n c r:=λl hl=>by
   unfold DD
   exact T2 (QJ (ix:=λst:Int×L_ QBg=>st.1) (J:=λst:Int×L_ QBg=>Kc n c st.2) ⟨by omega,by subst hi;exact Qt (by omega) (by unfold maxLen;omega:e.Cancel.length<=maxLen),hl⟩)
  refine T1 (λD=>?_) λ_=>next l hJ
  simp only[QQ,QB]at D
  refine T0 (T4 D.1 D.2) λ_ _=>?_
  refine next _ ⟨by simpa using hJ.1,λb hb=>?_⟩
  rcases RU hb with rfl | hb
  ·exact⟨Rt.nil,by simp⟩
  exact hJ.2 b hb
 show Qj (GT y q) _
 unfold GT
 exact T0 (Qpw n q y.1 c 20 h hq hy (by omega)) λz hz=>T2 hz
def QmF (n:Qk)(m:L_ QBg)(o:Qg)(c:Nat)(h:Xd n)(hm:Kc n c m)(hc:c<=800000)(ho:XQ n o):Qj (Yh n m o) λr=>r.2=0->Kc n (c+40) r.1:=by
 unfold Yh
 refine T0 (QmE n m o c h hm (by omega) ho) λx hx=>?_
 refine T1 (λhc=>T2 λh=>absurd h (by simpa using hc)) λD=>?_
 exact T0 (Qr9 n x.1 o (c+20) h (hx (by simpa using D)) (by omega) ho) λz hz=>T2 hz
end Go.Proofs
