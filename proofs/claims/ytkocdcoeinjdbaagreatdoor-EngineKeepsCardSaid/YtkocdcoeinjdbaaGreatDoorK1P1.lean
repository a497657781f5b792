/- A part of the proof. -/
import Derived.Test.YtkocdcoeinjdbaaGreatDoorK1XPlA
import Derived.Test.YtkocdcoeinjdbaaGreatDoorK1V3
import Derived.Test.YtkocdcoeinjdbaaGreatDoorK1T2
import Derived.KernelRfl
set_option linter.all false
namespace Go.Vm
open Go Go.RowKit
def Qo {α:Type}(o:O_ α)(Q:α->Prop):Prop:=∃r,o=some r/\Q r
abbrev Xh {α:Type}(o:O_ α):Prop:=Qo o λ_=>True
section
variable {α β σ ρ:Type}
def Qo.ok {a:α}{Q:α->Prop}(h:Q a):Qo (some a) Q:=⟨a,rfl,h⟩
def Qo.okT {a:α}:Qo (some a) λ_=>True:=⟨a,rfl,trivial⟩
def Qo.bind {o:O_ α}{f:α->O_ β}{P:α->Prop}{Q:β->Prop}(h:Qo o P)(k:∀x,P x->Qo (f x) Q):Qo (o.bind f) Q:=by
 obtain⟨x,rfl,y⟩:=h
 exact k x y
def Qo.bif {c:Bool}{a b:O_ α}{Q:α->Prop}(h:c=true->Qo a Q)(y:c=false->Qo b Q):Qo (bif c then a else b) Q:=by
 cases c with
 | true=>exact h rfl
 | false=>exact y rfl
def Qo.chk {c:Bool}(h:c=true):Qo (chk c) λ_=>True:=⟨(),Qaf h,trivial⟩
def Qo.idx {l:L_ α}{j:Int}(h:0<=j)(y:j<l.length):Qo (idx l j) λx=>x∈l:=by
 rw[Qfd h y]
 exact⟨_,rfl,Yp _⟩
def Qo.get {l:L_ α}{j:Nat}(h:j<l.length):Qo (l[j]?) λx=>x∈l:=by
 rw[QW h]
 exact⟨_,rfl,Yp _⟩
def Qo.sidx {s:ByteArray}{j:Int}(h:0<=j)(y:j<s.size):Qo (sidx s j) λ_=>True:=by
 unfold Vm.sidx
 rw[if_pos h]
 have:j.toNat<s.size:=by omega
 rw[getElem?_pos s j.toNat this]
 exact⟨_,rfl,trivial⟩
def Qo.mono {o:O_ α}{P Q:α->Prop}(h:Qo o P)(k:∀x,P x->Q x):Qo o Q:=let ⟨r,h1,h2⟩:=h;⟨r,h1,k r h2⟩
def Qo.tot {o:O_ α}{P:α->Prop}(h:Qo o P):∃r,o=some r:=let ⟨r,h1,_⟩:=h;⟨r,h1⟩
def Qo.self {o:O_ α}{P:α->Prop}(h:Qo o P):Qo o λx=>o=some x/\P x:=let ⟨r,h1,h2⟩:=h;⟨r,h1,h1,h2⟩
def Qo.up {body:σ->O_ (σ⊕ρ)}(n:Nat)(ix:σ->Int)(J:σ->Prop){Q:ρ->Prop}{s0:σ}(h0:ix s0=0)(hJ:J s0)
  (y:∀(i:Nat) s,ix s=(i:Int)->i<=n->J s->Qo (body s) λo=>(∀h,o=.inl h->i<n/\ix h=((i+1:Nat):Int)/\J h)/\∀r,o=.inr r->Q r):Qo (QO body s0) Q:=by
 have key:∀k i s,i+k=n->ix s=(i:Int)->J s->∃r,QO body s=some r/\Q r:=by
  intro k
  induction k with
  | zero=>
   intro i s hk hi hj
   obtain⟨o,ho,D,h2⟩:=y i s hi (by omega) hj
   rw[WH,ho]
   cases o with
   | inl h=>have:=(D h rfl).1;omega
   | inr r=>exact⟨r,rfl,h2 r rfl⟩
  | succ k ih=>
   intro i s hk hi hj
   obtain⟨o,ho,D,h2⟩:=y i s hi (by omega) hj
   rw[WH,ho]
   cases o with
   | inl h=>
    obtain⟨_,h3,h4⟩:=D h rfl
    exact ih (i+1) h (by omega) h3 h4
   | inr r=>exact⟨r,rfl,h2 r rfl⟩
 exact key n 0 s0 (by omega) h0 hJ
def QX {s:σ}{n i:Nat}{ix:σ->Int}{J:σ->Prop}{Q:ρ->Prop}(h:i<n/\ix s=((i+1:Nat):Int)/\J s):
  (∀y,(Sum.inl s:σ⊕ρ)=.inl y->i<n/\ix y=((i+1:Nat):Int)/\J y)/\∀r,(Sum.inl s:σ⊕ρ)=.inr r->Q r:=
 ⟨λy e=>(by cases e;exact h),λr e=>(by cases e)⟩
def Qy {r:ρ}{n i:Nat}{ix:σ->Int}{J:σ->Prop}{Q:ρ->Prop}(h:Q r):
  (∀y,(Sum.inr r:σ⊕ρ)=.inl y->i<n/\ix y=((i+1:Nat):Int)/\J y)/\∀D,(Sum.inr r:σ⊕ρ)=.inr D->Q D:=
 ⟨λy e=>(by cases e),λD e=>(by cases e;exact h)⟩
end
def Xf {α:Type}(ok:α->Prop)(l:L_ α):Prop:=l.length<=maxLen/\∀x∈l,ok x
def Xf.drop {α:Type}{ok:α->Prop}{l:L_ α}(h:Xf ok l)(k:Nat):Xf ok (l.drop k):=⟨by have:=h.1;rw[Cz];omega,λx y=>h.2 x (Oi y)⟩
def Xf.take {α:Type}{ok:α->Prop}{l:L_ α}(h:Xf ok l)(k:Nat):Xf ok (l.take k):=⟨by have:=h.1;rw[WV];omega,λx y=>h.2 x (CA y)⟩
def Xf.nil {α:Type}{ok:α->Prop}:Xf ok ([]:L_ α):=⟨by simp,λx h=>by cases h⟩
def Xf.app {α:Type}{ok:α->Prop}{l m:L_ α}(h:Xf ok l)(D:Xf ok m)(hs:l.length+m.length<=maxLen):Xf ok (l++m):=⟨by simpa using hs,λx hx=>by rcases Ur.1 hx with y | y;exact h.2 x y;exact D.2 x y⟩
def EX (s:ByteArray):Prop:=s.size<=maxLen
def Qka {s:ByteArray}(h:Bi s (⟨#[]⟩:ByteArray)=false):0<s.size:=by
 apply Nat.pos_of_ne_zero
 intro y
 have:s=⟨#[]⟩:=by
  obtain⟨a⟩:=s
  have:a=#[]:=Array.eq_empty_of_size_eq_zero y
  rw[this]
 subst this
 simp[Bi]at h
def LN {a b:Int}:0<=min2 a b↔0<=a/\0<=b:=by unfold min2;split<;>omega
def LO {a b n:Int}:max2 a b<n↔a<n/\b<n:=by unfold max2;split<;>omega
def HF {a b n:Int}:max2 a b<=n↔a<=n/\b<=n:=by unfold max2;split<;>omega
abbrev T0:=@Qo.bind
abbrev T1:=@Qo.bif
abbrev T2:=@Qo.ok
abbrev T3:=@Qo.okT
abbrev T4:=@Qo.idx
abbrev T5:=@Qo.chk
abbrev T6:=@Qo.mono
def CZ (l:L_ (Int×Int)):Prop:=l.Pairwise λp q=>p.1<q.1
def Ox (l:L_ (Int×Int)):Prop:=l.Pairwise λp q=>p.1≠q.1
def CZ.nd {l:L_ (Int×Int)}(h:CZ l):Ox l:=h.imp λh=>by omega
def EJ {p:Int×Int}{l:L_ (Int×Int)}:CZ (p::l)↔(∀q∈l,p.1<q.1)/\CZ l:=CC
def QiI {p:Int×Int}{l:L_ (Int×Int)}:Ox (p::l)↔(∀q∈l,p.1≠q.1)/\Ox l:=CC
def Qfg {l:L_ (Int×Int)}{k:Int}:Xa l k=none↔∀p∈l,p.1≠k:=by
 induction l with
 | nil=>simp[Xa]
 | cons p l y=>
  obtain⟨a,x⟩:=p
  rw[Ya]
  by_cases h:a=k
  ·simp[h]
  simp[h,y]
def WS {l:L_ (Int×Int)}(hn:Ox l){k v:Int}:Xa l k=some v↔(k,v)∈l:=by
 induction l with
 | nil=>simp[Xa]
 | cons p l ih=>
  obtain⟨a,x⟩:=p
  obtain⟨y,D⟩:=QiI.1 hn
  rw[Ya]
  by_cases h:a=k
  ·subst h
   rw[if_pos rfl]
   constructor
   ·intro e;cases e;simp
   intro e
   rcases XO.1 e with e | e
   ·cases e;rfl
   exact absurd rfl (y (a,v) e)
  rw[if_neg h,ih D]
  constructor
  ·intro e;exact Jk _ e
  intro e
  rcases XO.1 e with e | e
  ·cases e;exact absurd rfl h
  exact e
def Qkb {l m:L_ (Int×Int)}(D:Ox l)(h:l.Perm m)(k:Int):Xa l k=Xa m k:=by
 have hm:Ox m:=(h.pairwise_iff (λy=>Ne.symm y)).1 D
 apply Option.ext
 intro v
 rw[WS D,WS hm]
 exact h.mem_iff
def QiJ {l m:L_ (Int×Int)}(hl:CZ l)(hm:CZ m)(h:∀k,Xa l k=Xa m k):l=m:=by
 induction l generalizing m with
 | nil=>
  cases m with
  | nil=>rfl
  | cons p m=>have:=h p.1;rw[Ya (κ:=Int)]at this;simp[Xa]at this
 | cons p l ih=>
  obtain⟨a,x⟩:=p
  cases m with
  | nil=>have:=h a;rw[Ya]at this;simp[Xa]at this
  | cons q m=>
   obtain⟨b,y⟩:=q
   obtain⟨l1,l2⟩:=EJ.1 hl
   obtain⟨m1,m2⟩:=EJ.1 hm
   have D:a=b:=by
    rcases Int.lt_trichotomy a b with hc | hc | hc
    ·have e:=h a
     rw[Ya,Ya,if_pos rfl,if_neg (by omega),Qfg.2 (λp hp=>by have:=m1 p hp;simp at this;omega)]at e
     cases e
    ·exact hc
    have e:=h b
    rw[Ya,Ya,if_neg (by omega),if_pos rfl,Qfg.2 (λp hp=>by have:=l1 p hp;simp at this;omega)]at e
    cases e
   subst D
   have e:=h a
   rw[Ya,Ya,if_pos rfl,if_pos rfl]at e
   cases e
   rw[ih l2 m2 λk=>?_]
   by_cases hk:a=k
   ·subst hk
    rw[Qfg.2 (λp hp=>by have:=l1 p hp;simp at this;omega),Qfg.2 (λp hp=>by have:=m1 p hp;simp at this;omega)]
   have:=h k
   rwa[Ya,Ya,if_neg hk,if_neg hk]at this
def Qnc {l:L_ (Int×Int)}{k v:Int}{p:Int×Int}(h:p∈Fj l k v):∃q∈l,q.1=p.1:=by
 induction l with
 | nil=>cases h
 | cons q l ih=>
  obtain⟨a,x⟩:=q
  rw[Fj]at h
  split at h
  ·rename_i e
   rcases XO.1 h with rfl | h
   ·exact⟨_,YB,e⟩
   exact⟨p,Jk _ h,rfl⟩
  rcases XO.1 h with rfl | h
  ·exact⟨_,YB,rfl⟩
  obtain⟨q,y,D⟩:=ih h
  exact⟨q,Jk _ y,D⟩
def Qlj {lt:Int->Int->Bool}{l:L_ (Int×Int)}{k v:Int}{p:Int×Int}(h:p∈Ci lt l k v):p=(k,v)\/p∈l:=by
 induction l with
 | nil=>simp[Ci]at h;exact .inl h
 | cons q l y=>
  obtain⟨a,x⟩:=q
  rw[Ci]at h
  split at h
  ·rcases XO.1 h with h | h
   ·exact .inl h
   exact .inr h
  rcases XO.1 h with h | h
  ·exact .inr (h▸YB)
  rcases y h with h | h
  ·exact .inl h
  exact .inr (Jk _ h)
def Qh3 {l:L_ (Int×Int)}(h:CZ l)(k v:Int):CZ (YP Dy l k v):=by
 unfold YP
 split
 ·rename_i x hx
  clear hx
  induction l with
  | nil=>exact h
  | cons p l ih=>
   obtain⟨a,x⟩:=p
   obtain⟨D,h2⟩:=EJ.1 h
   rw[Fj]
   split
   ·rename_i e;subst e;exact EJ.2 ⟨D,h2⟩
   refine EJ.2 ⟨λq y=>?_,ih h2⟩
   obtain⟨q',hq',e⟩:=Qnc y
   rw[<-e];exact D _ hq'
 rename_i hn
 induction l with
 | nil=>exact List.pairwise_singleton _ _
 | cons p l ih=>
  obtain⟨a,x⟩:=p
  obtain⟨D,h2⟩:=EJ.1 h
  rw[Ya]at hn
  split at hn
  ·cases hn
  rename_i hne
  rw[Ci]
  split
  ·rename_i e
   have e:k<a:=XB e
   refine EJ.2 ⟨λq y=>?_,h⟩
   rcases XO.1 y with rfl | y
   ·exact e
   have:=D q y;simp at this ⊢;omega
  rename_i e
  have e:¬k<a:=λc=>e (QP c)
  refine EJ.2 ⟨λq y=>?_,ih h2 hn⟩
  rcases Qlj y with rfl | y
  ·show a<k;omega
  exact D q y
def Qlk {l:L_ (Int×Int)}{k v:Int}:(Fj l k v).length=l.length:=by
 induction l with
 | nil=>rfl
 | cons p l h=>
  obtain⟨a,x⟩:=p
  rw[Fj]
  split
  ·rfl
  simp[h]
def Qll {lt:Int->Int->Bool}{l:L_ (Int×Int)}{k v:Int}:(Ci lt l k v).length=l.length+1:=by
 induction l with
 | nil=>rfl
 | cons p l h=>
  obtain⟨a,x⟩:=p
  rw[Ci]
  split
  ·rfl
  simp[h]
def Qlm {l:L_ (Int×Int)}{k v:Int}:(YP Dy l k v).length<=l.length+1:=by
 unfold YP
 split
 ·rw[Qlk];omega
 rw[Qll];exact YV _
def Qln {l:L_ (Int×Int)}{k v:Int}(h:CZ (l++[(k,v)])):YP Dy l k v=l++[(k,v)]:=by
 have D:CZ l:=(List.pairwise_append.1 h).1
 refine QiJ (Qh3 D k v) h λj=>?_
 rw[FJ]
 have y:∀p∈l,p.1<k:=λp hp=>(List.pairwise_append.1 h).2.2 p hp (k,v) (by simp)
 clear h
 induction l with
 | nil=>
  show(if j=k then some v else none)=(if k=j then some v else none)
  by_cases c:j=k
  ·rw[if_pos c,if_pos c.symm]
  rw[if_neg c,if_neg (λe=>c e.symm)]
 | cons p l ih=>
  obtain⟨a,x⟩:=p
  have h1:=y (a,x) YB
  simp only at h1
  rw[List.cons_append,Ya,Ya]
  rw[<-ih (EJ.1 D).2 λp hp=>y p (Jk _ hp)]
  by_cases c:j=k
  ·subst c;rw[if_pos rfl,if_pos rfl,if_neg (by omega)]
  rw[if_neg c,if_neg c]
section
variable {ρ:Type}{g:Int->Int->Int}{stop:Int->Bool}{q:O_ ρ}{body:L_ (Int×Int)->Int×Int->O_ (L_ (Int×Int)⊕ρ)}
def QY (s:L_ (Int×Int))(k:Int):Int:=(Xa s k).getD 0
def Qcn (g:Int->Int->Int)(s l:L_ (Int×Int))(k:Int):O_ Int:=match Xa l k with
 | some v=>some (g (QY s k) v)
 | none=>Xa s k
def Qag (hb:∀s p,body s p=bif stop (g (QY s p.1) p.2)then q.map Sum.inr else some (.inl (YP Dy s p.1 (g (QY s p.1) p.2)))):
  ∀l s,CZ s->Ox l->((∃p∈l,stop (g (QY s p.1) p.2)=true)/\Wd body s l=q.map Sum.inr)\/
   ((∀p∈l,stop (g (QY s p.1) p.2)=false)/\∃D,Wd body s l=some (.inl D)/\CZ D/\D.length<=s.length+l.length/\∀k,Xa D k=Qcn g s l k):=by
 intro l
 induction l with
 | nil=>intro s hs _;exact .inr ⟨λp h=>(by cases h),s,rfl,hs,by simp,λk=>rfl⟩
 | cons p l ih=>
  intro s hs hl
  obtain⟨h1,h2⟩:=QiI.1 hl
  simp only[Wd,hb]
  cases hst:stop (g (QY s p.1) p.2)with
  | true=>exact .inl ⟨⟨p,YB,hst⟩,by cases q<;>rfl⟩
  | false=>
   simp only[QR,Qg,Sum.elim_inl]
   have hc:∀r∈l,QY (YP Dy s p.1 (g (QY s p.1) p.2)) r.1=QY s r.1:=λr y=>by
    unfold QY
    rw[FJ,if_neg (λe=>h1 r y e.symm)]
   rcases ih _ (Qh3 hs p.1 (g (QY s p.1) p.2)) h2 with⟨⟨r,y,h3⟩,h4⟩|⟨h3,D,h4,h5,h6,h7⟩
   ·exact .inl ⟨⟨r,Jk _ y,by rw[hc r y]at h3;exact h3⟩,h4⟩
   refine .inr ⟨λr y=>?_,D,h4,h5,?_,λk=>?_⟩
   ·rcases XO.1 y with rfl | y
    ·exact hst
    have:=h3 r y;rwa[hc r y]at this
   ·have:=Qlm (l:=s) (k:=p.1) (v:=g (QY s p.1) p.2)
    simp;omega
   rw[h7]
   obtain⟨a,x⟩:=p
   unfold Qcn
   rw[Ya]
   by_cases e:a=k
   ·subst e
    rw[if_pos rfl,Qfg.2 (λr y=>Ne.symm (h1 r y)),FJ,if_pos rfl]
   rw[if_neg e]
   simp only[QY,FJ,if_neg (λe'=>e (Eq.symm e'):¬k=a)]
def Qfh (hb:∀s p,body s p=bif stop (g (QY s p.1) p.2)then q.map Sum.inr else some (.inl (YP Dy s p.1 (g (QY s p.1) p.2)))){l s:L_ (Int×Int)}(hs:CZ s)(hl:Ox l):
  ((∃p∈l,stop (g (QY s p.1) p.2)=true)/\∀r,q=some r->BJ body s l=some (.inr r))\/
   ((∀p∈l,stop (g (QY s p.1) p.2)=false)/\∃s',BJ body s l=some (.inl s')/\CZ s'/\s'.length<=s.length+l.length/\∀k,Xa s' k=Qcn g s l k):=by
 have key:∀l':L_ (Int×Int),l'.Perm l->Wd body s l'=Wd body s l:=λl' hp=>by
  have D:Ox l':=(hp.pairwise_iff (λhab=>Ne.symm hab)).2 hl
  rcases Qag hb l' s hs D with⟨⟨p,h,h2⟩,y⟩|⟨h,s1,y,h4,_,h5⟩
  ·rcases Qag hb l s hs hl with⟨_,g3⟩|⟨g1,_⟩
   ·rw[y,g3]
   rw[g1 p (hp.mem_iff.1 h)]at h2;cases h2
  rcases Qag hb l s hs hl with⟨⟨p,g1,g2⟩,g3⟩|⟨g1,s2,g3,g4,_,g5⟩
  ·rw[h p (hp.mem_iff.2 g1)]at g2;cases g2
  rw[y,g3,QiJ h4 g4 λk=>?_]
  rw[h5,g5]
  unfold Qcn
  rw[Qkb D hp k]
 rcases Qag hb l s hs hl with⟨h,y⟩|⟨h,s1,y,h4,h6,h5⟩
 ·exact .inl ⟨h,λr hr=>FX.2 ⟨key,by rw[y,hr];rfl⟩⟩
 exact .inr ⟨h,s1,FX.2 ⟨key,y⟩,h4,h6,h5⟩
end
def Qjr {ρ:Type}{bad:Int×Int->Bool}{q:ρ}{body:Unit->Int×Int->O_ (Unit⊕ρ)}(y:∀p,body () p=some (bif bad p then .inr q else .inl ()))(l:L_ (Int×Int)):
  BJ body () l=some (bif l.any bad then .inr q else .inl ()):=by
 have h:∀l:L_ (Int×Int),Wd body () l=some (bif l.any bad then .inr q else .inl ()):=by
  intro l
  induction l with
  | nil=>rfl
  | cons p l D=>
   simp only[Wd,y,Qg,List.any_cons]
   cases bad p with
   | true=>rfl
   | false=>exact D
 refine FX.2 ⟨λl' hp=>?_,h l⟩
 rw[h,h]
 congr 2
 rw[PC,Oc,Oc]
 exact⟨λ⟨x,a,b⟩=>⟨x,hp.mem_iff.1 a,b⟩,λ⟨x,a,b⟩=>⟨x,hp.mem_iff.2 a,b⟩⟩
def AX (a:Int):L_ (Int×Int)->Bool
 | []=>true
 | p::r=>!(decide (p.1<=a)||(decide (p.2<1)||decide (1048576<p.2)))&&AX p.1 r
def Ql9 {a:Int}{l:L_ (Int×Int)}:AX a l=true↔CZ l/\∀p∈l,a<p.1/\1<=p.2/\p.2<=1048576:=by
 induction l generalizing a with
 | nil=>simp[AX,CZ]
 | cons p l ih=>
  rw[AX,QJ,ih,EJ]
  simp only[KY,KL,XG]
  constructor
  ·rintro ⟨⟨D,h2,y⟩,h4,h5⟩
   refine⟨⟨λq h=>(h5 q h).1,h4⟩,λq h=>?_⟩
   rcases XO.1 h with rfl | h
   ·omega
   have:=h5 q h;omega
  rintro ⟨⟨D,h2⟩,y⟩
  have:=y p YB
  exact⟨by omega,h2,λq h=>⟨D q h,(y q (Jk _ h)).2⟩⟩
def Rt (l:L_ (Int×Int)):Prop:=CZ l/\∀p∈l,0<=p.1/\1<=p.2/\p.2<=1048576
def GA {l:L_ (Int×Int)}:AX (-1) l=true↔Rt l:=by
 rw[Ql9]
 constructor
 ·rintro ⟨h,y⟩;exact⟨h,λp hp=>by have:=y p hp;omega⟩
 rintro ⟨h,y⟩;exact⟨h,λp hp=>by have:=y p hp;omega⟩
def Rt.nil : Rt []:=⟨List.Pairwise.nil,λp h=>by cases h⟩
def HG {l:L_ (Int×Int)}(h:Ox l){p:Int×Int}(hp:p∈l):QY l p.1=p.2:=by
 unfold QY;rw[(WS h).2 (show(p.1,p.2)∈l from hp)];rfl
def Rt.cnt {l:L_ (Int×Int)}(h:Rt l)(k:Int):0<=QY l k/\QY l k<=1048576:=by
 unfold QY
 cases e:Xa l k with
 | none=>simp
 | some v=>have:=h.2 _ ((WS h.1.nd).1 e);simp at this ⊢;omega
def Rt.cnt_pos {l:L_ (Int×Int)}(h:Rt l){k:Int}(y:0<QY l k):0<=k:=by
 unfold QY at y
 cases e:Xa l k with
 | none=>rw[e]at y;simp at y
 | some v=>exact(h.2 _ ((WS h.1.nd).1 e)).1
def FK (l:L_ (Int×Int)):L_ (Int×Int):=l.filter λp=>decide (0<p.2)
def Qh4 {l:L_ (Int×Int)}(h:CZ l)(k:Int):QY (FK l) k=if 0<QY l k then QY l k else 0:=by
 have hp:CZ (FK l):=h.sublist List.filter_sublist
 by_cases c:0<QY l k
 ·rw[if_pos c]
  unfold QY at c
  cases e:Xa l k with
  | none=>rw[e]at c;simp at c
  | some v=>
   rw[e]at c
   have y:(k,v)∈FK l:=FT.2 ⟨(WS h.nd).1 e,by simpa using c⟩
   unfold QY
   rw[(WS hp.nd).2 y,e]
 rw[if_neg c]
 unfold QY
 cases e:Xa (FK l) k with
 | none=>rfl
 | some v=>
  have y:=FT.1 ((WS hp.nd).1 e)
  have D:=(WS h.nd).2 y.1
  unfold QY at c
  rw[D]at c
  simp at y c;omega
def Qkc {l:L_ (Int×Int)}(h:CZ l)(hb:∀k,0<QY l k->0<=k/\QY l k<=1048576):Rt (FK l):=by
 refine⟨h.sublist List.filter_sublist,λp hp=>?_⟩
 obtain⟨y,D⟩:=FT.1 hp
 have h3:=HG h.nd y
 have h4:0<p.2:=XB D
 have:=hb p.1 (by omega)
 omega
def Qkd {l:L_ (Int×Int)}(h:CZ l):GI (l.map Prod.fst)=l.map Prod.fst:=by
 rw[ZN]
 refine List.mergeSort_of_pairwise ?_
 rw[PF]
 exact h.imp λh=>by simp;omega
def upL : Int->Nat->L_ Int
 | _,0=>[]
 | x,k+1=>x::upL (x+1) k
def binds : L_ Int->L_ (L_ Int)
 | []=>[[]]
 | s::r=>(0::upL 1 (s-1).toNat).flatMap λx=>(binds r).map (x::·)
def inB : L_ Int->L_ Int->Prop
 | [],[]=>True
 | s::r,x::d=>0<=x/\(x=0\/x<s)/\inB r d
 | _,_=>False
def Qma {y x:Int}{k:Nat}:y∈upL x k↔x<=y/\y<x+k:=by
 induction k generalizing x with
 | zero=>
  simp only[upL,List.not_mem_nil,false_iff];omega
 | succ k h=>simp only[upL,XO,h];omega
def Qke {l d:L_ Int}:d∈binds l↔inB l d:=by
 induction l generalizing d with
 | nil=>cases d<;>simp[binds,inB]
 | cons s r ih=>
  cases d with
  | nil=>simp[binds,inB]
  | cons x d=>
   simp only[binds,List.mem_flatMap,XO,Qma,Ye,List.cons.injEq,inB,<-ih]
   constructor
   ·rintro ⟨y,D,e,h,rfl,rfl⟩
    exact⟨by omega,by omega,h⟩
   rintro ⟨D,h,h3⟩
   exact⟨x,by omega,d,h3,rfl,rfl⟩
section
variable {α:Type}
end
end Go.Vm
noncomputable section
namespace Go.Proofs
open Go Go.RowKit Go.Vm
inductive Wt : Qv->Prop where
 | mk (e:Qv):e.Kids.length<=maxLen->(∀k∈e.Kids,Wt k)->Wt e
def DY {e:Qv}(h:Wt e):Xf Wt e.Kids:=by
 cases h with
 | mk _ y D=>exact⟨y,D⟩
def QbP {e k:Qv}(h:k∈e.Kids):SizeOf.sizeOf k<SizeOf.sizeOf e:=by
 obtain⟨a,b,l⟩:=e
 have:=List.sizeOf_lt_of_mem h
 simp only[Qv.mk.sizeOf_spec]at *
 omega
def Qv.pos (e:Qv):0<SizeOf.sizeOf e:=by
 obtain⟨a,b,l⟩:=e
 simp only[Qv.mk.sizeOf_spec];omega
inductive Zb (v:Int):Qv->Prop where
 | mk (e:Qv):(e.Kind=1\/e.Kind=2\/e.Kind=3\/e.Kind=4\/e.Kind=5\/e.Kind=6)->(e.Kind=2->0<=e.Num/\e.Num<v)->(e.Kind=3\/e.Kind=4->e.Kids.length=1)->(e.Kind=5->e.Kids.length=2)->(e.Kind=6->e.Kids.length=3)->(∀k∈e.Kids,Zb v k)->Zb v e
def JW (x:Xj):Prop:=EX x.Name/\True/\True/\True/\(Xf EX) x.Names/\True/\True
def KK (x:Xz):Prop:=EX x.Name/\True/\(Xf (λ_=>True)) x.First
def Dl (x:Yw):Prop:=EX x.Name/\True
def FL (x:Yd):Prop:=True/\Wt x.Expr
def Ys (x:QT):Prop:=EX x.Name/\(Xf Dl) x.Vars/\Wt x.Guard/\True/\True/\(Xf FL) x.Ins/\(Xf FL) x.Outs/\(Xf (λ_=>True)) x.Cancel/\True/\True
def Xp (x:Ql):Prop:=(Xf JW) x.Colours/\(Xf KK) x.Places/\(Xf Ys) x.Tasks/\True/\True
def Qha (x:YD):Prop:=(Xf JW) x.all/\(Xf (λ_=>True)) x.sizes/\True
def Qfi (y:Ql)(h:Xp y):Xh (IS y):=by
 unfold IS
 exact T3
def JZ (y:(L_ Xz))(h:Int)(D:(Xf KK) y):Qo (Yy y h) λr=>r=true->0<=h/\h<y.length:=by
 unfold Yy
 exact T2 (by first | (intro hr;first | (cases hr;done) | omega | ((try simp only[QJ,Kw,KL,KY,Ac,QV,XG,beq_iff_eq,bne_iff_ne,ne_eq,LW,PE,KZ,IJ,II,Cz,WV,GB,LN,LO,HF]at *);omega)) | ((try simp only[QJ,Kw,KL,KY,Ac,QV,XG,beq_iff_eq,bne_iff_ne,ne_eq,LW,PE,KZ,IJ,II,Cz,WV,GB,LN,LO,HF]at *);omega) | simp_all)
def Qfj (y:Ql)(h:Xp y):Xh (IT y):=by
 unfold IT
 refine T0 (P:=λ_=>True) ?_ (λx_1 hv2=>?_)
 ·unfold RS
  refine T0 (JZ y.Places y.From (h.2.1)) (λx_3 hv4=>?_)
  refine T1 (λD=>?_) (λD=>?_)
  ·refine T0 (JZ y.Places y.To (h.2.1)) (λx_6 hv7=>?_)
   exact T3
  exact T3
 unfold RT
 exact T3
def Qfk (y:Ql)(h:Xp y):Xh (IU y):=by
 unfold IU
 exact T3
def Qfl (y:Ql)(v2:Int)(v3:Int)(v4:Int)(h:Xp y):Xh (IV y v2 v3 v4):=by
 unfold IV
 refine T0 (Qfi y (h)) (λx_1 hv2=>?_)
 refine T1 (λD=>?_) (λD=>?_)
 ·exact T3
 refine T0 (Qfj y (h)) (λx_4 hv5=>?_)
 refine T1 (λhc6=>?_) (λhc6=>?_)
 ·exact T3
 refine T0 (Qfk y (h)) (λx_7 hv8=>?_)
 refine T1 (λhc9=>?_) (λhc9=>?_)
 ·exact T3
 exact T3
def Qfm (D:Int)(y:Int)  : Xh (IN D y):=by
 unfold IN
 refine T1 (λh=>?_) (λh=>?_)
 ·exact T3
 exact T3
def Px (h:Int)  : Xh (Uw h):=by
 unfold Uw
 exact T3
def Nd (s1:ByteArray)(h_s1:EX s1):Xh (Uo s1):=by
 unfold Uo
 refine T0 (P:=λ_=>True) ?_ (λx_1 hv2=>?_)
 ·unfold Ry
  refine T1 (λhc3=>?_) (λhc3=>?_)
  ·exact T3
  have hshc3:=Qka hc3
  refine T1 (λhc4=>?_) (λhc4=>?_)
  ·exact T3
  refine T0 (Qo.sidx (by omega) (by omega)) (λc_5 hv6=>?_)
  refine T0 (Px c_5 ) (λx_7 hv8=>?_)
  exact T3
 unfold RC
 refine T1 (λhc9=>?_) (λhc9=>?_)
 ·exact T3
 refine T0 (Qo.up (s1.size) (λst=>st) (λ_=>True) (Q:=λq=>True) rfl trivial (λi11 st h hn13 hj14=>?_)) (λq15 hq16=>?_)
 ·obtain⟨D,hst⟩:∃y,y=st:=⟨_,rfl⟩
  subst hst
  replace h:D=(i11:Int):=h
  show Qo (Lg s1 D) _
  unfold Lg
  refine T1 (λhc17=>?_) (λhc17=>?_)
  ·refine T0 (Qo.sidx (by omega) (by simp_all)) (λc_18 hv19=>?_)
   refine T0 (P:=λ_=>True) ?_ (λx_20 hv21=>?_)
   ·unfold Rz
    refine T0 (Px c_18 ) (λx_22 hv23=>?_)
    refine T1 (λhc24=>?_) (λhc24=>?_)
    ·refine T1 (λhc25=>?_) (λhc25=>?_)
     ·exact T3
     refine T1 (λhc26=>?_) (λhc26=>?_)
     ·exact T3
     exact T3
    exact T3
   unfold RA
   refine T1 (λhc27=>?_) (λhc27=>?_)
   ·exact T2 (Qy trivial)
   exact T2 (QX ⟨(by simp_all),by subst h;exact QH (by simp_all) h_s1,trivial⟩)
  exact T2 (Qy trivial)
 rcases q15 with q15 | q15
 ·show Qo (Lh) _
  unfold Lh
  exact T3
 show Qo (Li) _
 unfold Li
 exact T3
def QdV (l1:(L_ ByteArray))(y:(Xf EX) l1):Xh (Hg l1):=by
 unfold Hg
 refine T0 (Qo.up (l1.length) (λst=>st.1) (λ_=>True) (Q:=λq=>True) rfl trivial (λi3 st D hn5 hj6=>?_)) (λq7 hq8=>?_)
 ·obtain⟨x_1,m_2⟩:=st
  replace D:x_1=(i3:Int):=D
  show Qo (HQ l1 x_1 m_2) _
  unfold HQ
  refine T1 (λhc9=>?_) (λhc9=>?_)
  ·refine T0 (T4 (by omega) (by simp_all)) (λh hv11=>?_)
   refine T0 (P:=λ_=>True) ?_ (λx_12 hv13=>?_)
   ·unfold Pg
    refine T0 (Nd h (((y).2 h hv11))) (λx_14 hv15=>?_)
    refine T1 (λhc16=>?_) (λhc16=>?_)
    ·exact T3
    exact T3
   unfold Ph
   refine T1 (λhc17=>?_) (λhc17=>?_)
   ·exact T2 (Qy trivial)
   exact T2 (QX ⟨(by simp_all),by subst D;exact QH (by simp_all) (y).1,trivial⟩)
  exact T2 (Qy trivial)
 rcases q7 with q7 | q7
 ·show Qo (HR) _
  unfold HR
  exact T3
 show Qo (HS) _
 unfold HS
 exact T3
def Qfn (D:Xj)(h:LI_)(h_c1:JW D)(y:(Xf (λ_=>True)) h):Xh (IP D h):=by
 unfold IP
 refine T1 (λhc1=>?_) (λhc1=>?_)
 ·refine T0 (Qfm D.Lo D.Hi ) (λx_2 hv3=>?_)
  exact T3
 refine T1 (λhc4=>?_) (λhc4=>?_)
 ·refine T0 (QdV D.Names (h_c1.2.2.2.2.1)) (λx_5 hv6=>?_)
  refine T1 (λhc7=>?_) (λhc7=>?_)
  ·exact T3
  unfold We
  exact T3
 refine T1 (λhc8=>?_) (λhc8=>?_)
 ·refine T1 (λhc9=>?_) (λhc9=>?_)
  ·refine T0 (T4 (by(try simp only[QJ,Kw,KL,KY,Ac,QV,XG,beq_iff_eq,bne_iff_ne,ne_eq,LW,PE,KZ,IJ,II,Cz,WV,GB,LN,LO,HF]at *);omega) (by(try simp only[QJ,Kw,KL,KY,Ac,QV,XG,beq_iff_eq,bne_iff_ne,ne_eq,LW,PE,KZ,IJ,II,Cz,WV,GB,LN,LO,HF]at *);omega)) (λe_10 hv11=>?_)
   refine T0 (T4 (by(try simp only[QJ,Kw,KL,KY,Ac,QV,XG,beq_iff_eq,bne_iff_ne,ne_eq,LW,PE,KZ,IJ,II,Cz,WV,GB,LN,LO,HF]at *);omega) (by(try simp only[QJ,Kw,KL,KY,Ac,QV,XG,beq_iff_eq,bne_iff_ne,ne_eq,LW,PE,KZ,IJ,II,Cz,WV,GB,LN,LO,HF]at *);omega)) (λe_12 hv13=>?_)
   exact T3
  unfold We
  exact T3
 unfold We
 exact T3
def Sg (D:(L_ Xj))(h_l1:(Xf JW) D):Qo (Ax D) λr=>((Xf (λ_=>True)) r.1/\True)/\(r.2=true->r.1.length=D.length/\∀x∈r.1,1<=x/\x<=1024):=by
 unfold Ax
 refine T1 (λhc=>T2 ⟨⟨Xf.nil,trivial⟩,λh=>by cases h⟩) (λhc=>?_)
 have hl:D.length<=32:=by simp only[XG]at hc;omega
 refine T0 (Qo.up D.length (λst=>st.1) (λst=>(st.2.2.length:Int)=st.1/\∀x∈st.2.2,1<=x/\x<=1024) (Q:=λq=>∀l,q=.inr l->l.length=D.length/\∀x∈l,1<=x/\x<=1024) rfl ⟨rfl,λx h=>(by cases h)⟩ (λi st hi hn hj=>?_)) (λq hq=>?_)
 ·obtain⟨x,m,l⟩:=st
  replace hi:x=(i:Int):=hi
  replace hj:(l.length:Int)=x/\∀x∈l,1<=x/\x<=1024:=hj
  obtain⟨hj,hj2⟩:=hj
  show Qo (HT D x m l) _
  unfold HT
  refine T1 (λhc2=>?_) (λhc2=>?_)
  ·simp only[QV]at hc2
   refine T0 (T4 (by omega) (by omega)) λe he=>?_
   refine T0 (Qfn e l (h_l1.2 e he) ⟨by unfold maxLen;omega,λ_ _=>trivial⟩) λy _=>?_
   refine T0 (P:=λz=>z=false->1<=y/\y<=1024) ?_ λz hz=>?_
   ·unfold Pi
    refine T0 (Nd e.Name (h_l1.2 e he).1) λz _=>?_
    refine T1 (λ_=>T2 (λh=>by cases h)) λ_=>T1 (λ_=>T2 (λh=>by cases h)) λ_=>T1 (λ_=>T2 (λh=>by cases h)) λh1=>T2 λh2=>?_
    simp only[XG]at h1 h2
    omega
   unfold Pj
   refine T1 (λ_=>T2 (Qy λl h=>by cases h)) λhz0=>?_
   refine T0 (T5 (by simp;omega)) λ_ _=>?_
   exact T2 (QX ⟨by omega,by subst hi;exact QH (by omega) (by unfold maxLen;omega:D.length<=maxLen),by simp only[KZ,IJ];subst hi;rw[QH (show i<D.length by omega) (by unfold maxLen;omega)];omega,λu hu=>by
    rcases Ur.1 hu with hu | hu
    ·exact hj2 u hu
    simp at hu;subst hu;exact hz hz0⟩)
  simp only[XG]at hc2
  exact T2 (Qy λl' h=>by cases h;exact⟨by omega,hj2⟩)
 rcases q with q | q
 ·exact T2 ⟨⟨Xf.nil,trivial⟩,λh=>by cases h⟩
 have:=hq q rfl
 exact T2 ⟨⟨⟨by show q.length<=maxLen;unfold maxLen;omega,λ_ _=>trivial⟩,trivial⟩,λ_=>this⟩
def QdW (y:(L_ Xj))(h:(Xf JW) y):Xh (Hs y):=by
 unfold Hs
 refine T0 (Sg y (h)) (λx_1 D=>?_)
 exact T3
def Zc (D:Ql)(y:Int)(h:Xp D)(hp0:0<=y)(hp1:y<D.Colours.length):Xh (ER D y):=by
 have hl:=h.1.1
 unfold maxLen at hl
 unfold ER
 rw[Ja (show -9223372036854775808<=y+1/\y+1<=9223372036854775807 by omega)]
 refine T0 (T5 (by simp only[QJ,QV];omega)) λ_ _=>?_
 exact T0 (QdW _ ((h.1.drop _).take _)) λx _=>T3
def Qfo : L_ ByteArray:=(BT).getD []
set_option maxRecDepth 100000 in
def Qlo : BT=some Qfo:=by kernel_rfl
set_option maxRecDepth 100000 in
def QiB : (decide (Qfo.length<=1000)&&Qfo.all λs=>decide (s.size<=1000))=true:=by kernel_rfl
def Qfp : Qo (BT) λr=>Xf EX r:=by
 have h:=QiB
 rw[QJ,decide_eq_true_iff,XD]at h
 refine⟨Qfo,Qlo,by unfold maxLen;omega,λx y=>?_⟩
 have:=h.2 x y
 rw[decide_eq_true_iff]at this
 unfold EX maxLen;omega
def Nf (s1:(L_ ByteArray))(v2:ByteArray)(D:(Xf EX) s1)(h_v2:EX v2):Xh (KD s1 v2):=by
 unfold KD
 refine T0 (Qo.up (s1.length) (λst=>st) (λ_=>True) (Q:=λq=>True) rfl trivial (λi2 st h hn4 hj5=>?_)) (λq6 hq7=>?_)
 ·obtain⟨x_1,hst⟩:∃y,y=st:=⟨_,rfl⟩
  subst hst
  replace h:x_1=(i2:Int):=h
  show Qo (Wx s1 v2 x_1) _
  unfold Wx
  refine T1 (λhc8=>?_) (λhc8=>?_)
  ·refine T0 (T4 (by omega) (by simp_all)) (λe_9 hv10=>?_)
   refine T1 (λhc11=>?_) (λhc11=>?_)
   ·exact T2 (Qy trivial)
   exact T2 (QX ⟨(by simp_all),by subst h;exact QH (by simp_all) (D).1,trivial⟩)
  exact T2 (Qy trivial)
 rcases q6 with q6 | q6
 ·show Qo (Wy q6) _
  unfold Wy
  exact T3
 show Qo (Wz) _
 unfold Wz
 exact T3
def IE (D:(L_ ByteArray))(v2:ByteArray)(h:(Xf EX) D)(y:EX v2):Xh (JU D v2):=by
 unfold JU
 refine T0 (Nf D v2 (h) (y)) (λx_1 hv2=>?_)
 exact T3
def Qgl (D:ByteArray)(h:EX D):Xh (MU D):=by
 unfold MU
 refine T0 (Qfp  ) (λx_1 y=>?_)
 refine T0 (IE x_1 D (y) (h)) (λx_3 hv4=>?_)
 exact T3
def AY (y:ByteArray)(h:EX y):Xh (DU y):=by
 unfold DU
 refine T0 (P:=λ_=>True) ?_ (λx_1 hv2=>?_)
 ·unfold Tz
  refine T0 (Nd y (h)) (λx_3 hv4=>?_)
  refine T1 (λD=>?_) (λD=>?_)
  ·refine T0 (Qgl y (h)) (λx_6 hv7=>?_)
   exact T3
  exact T3
 unfold TA
 exact T3
def SG (y:ByteArray)(h:EX y):Xh (Gh y):=by
 unfold Gh
 refine T0 (AY y (h)) (λx_1 D=>?_)
 exact T3
def Ib (s1:(L_ ByteArray))(h:(Xf EX) s1):Xh (JK s1):=by
 unfold JK
 refine T0 (Qo.up (s1.length) (λst=>st) (λ_=>True) (Q:=λq=>True) rfl trivial (λi2 st D hn4 hj5=>?_)) (λq6 hq7=>?_)
 ·obtain⟨x_1,hst⟩:∃y,y=st:=⟨_,rfl⟩
  subst hst
  replace D:x_1=(i2:Int):=D
  show Qo (KE s1 x_1) _
  unfold KE
  refine T1 (λhc8=>?_) (λhc8=>?_)
  ·refine T0 (T4 (by omega) (by simp_all)) (λe_9 hv10=>?_)
   refine T0 (SG e_9 (((h).2 e_9 hv10))) (λx_11 hv12=>?_)
   refine T1 (λhc13=>?_) (λhc13=>?_)
   ·exact T2 (Qy trivial)
   exact T2 (QX ⟨(by simp_all),by subst D;exact QH (by simp_all) (h).1,trivial⟩)
  exact T2 (Qy trivial)
 rcases q6 with q6 | q6
 ·show Qo (KF q6) _
  unfold KF
  exact T3
 show Qo (KG) _
 unfold KG
 exact T3
def Fd (y:(L_ ByteArray))(h:(Xf EX) y):Xh (Jf y):=by
 unfold Jf
 refine T0 (Ib y (h)) (λx_1 D=>?_)
 exact T3
def Zd (y:Xj)(h:JW y):Xh (ES y):=by
 unfold ES
 refine T0 (P:=λ_=>True) ?_ (λx_1 hv2=>?_)
 ·unfold Iz
  refine T0 (AY y.Name (h.1)) (λx_3 hv4=>?_)
  refine T1 (λD=>?_) (λD=>?_)
  ·refine T1 (λhc6=>?_) (λhc6=>?_)
   ·exact T3
   refine T0 (Fd y.Names (h.2.2.2.2.1)) (λx_7 hv8=>?_)
   exact T3
  exact T3
 unfold IA
 exact T3
def QbQ (D:Ql)(v2:Int)(v3:Int)(v4:Xj)(v5:Int)(h:Xp D)(y:JW v4)(hp0:0<=v2)(hp1:v2<D.Colours.length):Xh (Bo D v2 v3 v4 v5):=by
 unfold Bo
 refine T0 (Zc D v2 (h) (by omega) (by omega)) (λx_1 hv2=>?_)
 refine T1 (λhc3=>?_) (λhc3=>?_)
 ·exact T3
 refine T0 (Zd v4 (y)) (λx_4 hv5=>?_)
 refine T1 (λhc6=>?_) (λhc6=>?_)
 ·exact T3
 exact T3
def QaW (D:Int)(c2:Xj)(v3:Ql)(h:JW c2)(y:Xp v3)(hp0:0<=D)(hp1:D<v3.Colours.length):Xh (Ak D c2 v3):=by
 unfold Ak
 refine T0 (QbQ v3 D 8 c2 8 (y) (h) (by omega) (by omega)) (λx_1 hv2=>?_)
 exact T3
def PT (l1:(L_ Xj))(v2:Ql)(h:(Xf JW) l1)(h_v2:Xp v2)(hp0:l1.length<=v2.Colours.length):Xh (WZ l1 v2):=by
 unfold WZ
 refine T0 (Qo.up (l1.length) (λst=>st) (λ_=>True) (Q:=λq=>True) rfl trivial (λi2 st D hn4 hj5=>?_)) (λq6 hq7=>?_)
 ·obtain⟨x_1,hst⟩:∃y,y=st:=⟨_,rfl⟩
  subst hst
  replace D:x_1=(i2:Int):=D
  show Qo (Gs l1 v2 x_1) _
  unfold Gs
  refine T1 (λhc8=>?_) (λhc8=>?_)
  ·refine T0 (T4 (by omega) (by simp_all)) (λe_9 hv10=>?_)
   refine T0 (QaW x_1 e_9 v2 (((h).2 e_9 hv10)) (h_v2) (by omega) (by simp_all;omega)) (λx_11 hv12=>?_)
   refine T1 (λhc13=>?_) (λhc13=>?_)
   ·exact T2 (Qy trivial)
   exact T2 (QX ⟨(by simp_all),by subst D;exact QH (by simp_all) (h).1,trivial⟩)
  exact T2 (Qy trivial)
 rcases q6 with q6 | q6
 ·show Qo (Gt q6.1 q6.2) _
  unfold Gt
  exact T3
 show Qo (Gu) _
 unfold Gu
 exact T3
def Py (n1:Ql)(h:Xp n1):Xh (UJ n1):=by
 unfold UJ
 refine T0 (PT n1.Colours n1 (h.1) (h) (by omega)) (λD y=>?_)
 exact T3
def QcV (y:Xz)(h:KK y):Xh (CN y):=by
 unfold CN
 refine T0 (AY y.Name (h.1)) (λx_1 D=>?_)
 exact T3
def QcW (D:Xz)(v2:Xz)(h:KK D)(y:KK v2):Xh (CO D v2):=by
 unfold CO
 exact T3
def BE (s1:(L_ Xz))(v2:Xz)(h:(Xf KK) s1)(h_v2:KK v2):Xh (YO s1 v2):=by
 unfold YO
 refine T0 (Qo.up (s1.length) (λst=>st) (λ_=>True) (Q:=λq=>True) rfl trivial (λi2 st D hn4 hj5=>?_)) (λq6 hq7=>?_)
 ·obtain⟨x_1,hst⟩:∃y,y=st:=⟨_,rfl⟩
  subst hst
  replace D:x_1=(i2:Int):=D
  show Qo (JA s1 v2 x_1) _
  unfold JA
  refine T1 (λhc8=>?_) (λhc8=>?_)
  ·refine T0 (T4 (by omega) (by simp_all)) (λe_9 hv10=>?_)
   refine T0 (QcW e_9 v2 (((h).2 e_9 hv10)) (h_v2)) (λx_11 hv12=>?_)
   refine T1 (λhc13=>?_) (λhc13=>?_)
   ·exact T2 (Qy trivial)
   exact T2 (QX ⟨(by simp_all),by subst D;exact QH (by simp_all) (h).1,trivial⟩)
  exact T2 (Qy trivial)
 rcases q6 with q6 | q6
 ·show Qo (JB q6) _
  unfold JB
  exact T3
 show Qo (JC) _
 unfold JC
 exact T3
def Ab (D:(L_ Xz))(v2:Xz)(h:(Xf KK) D)(y:KK v2):Xh (Yz D v2):=by
 unfold Yz
 refine T0 (BE D v2 (h) (y)) (λx_1 hv2=>?_)
 exact T3
def QcX (D:Ql)(v2:Int)(v3:Xz)(h:Xp D)(y:KK v3)(hp0:0<=v2)(hp1:v2<D.Places.length):Xh (CP D v2 v3):=by
 unfold CP
 refine T0 (T5 (by simp_all;omega)) (λ_ _=>?_)
 refine T0 (Ab ((D.Places.drop 0).take (v2.toNat-0)) v3 (((h.2.1).drop _).take _) (y)) (λx_1 hv2=>?_)
 exact T3
def BX (y:(L_ Xj))(D:Int)(h:(Xf JW) y):Xh (Kt y D):=by
 unfold Kt
 exact T3
def QcY (y:Ql)(D:Xz)(h:Xp y)(h_v2:KK D):Xh (CQ y D):=by
 unfold CQ
 refine T0 (BX y.Colours D.Colour (h.1)) (λx_1 hv2=>?_)
 exact T3
def Qhb (b1:QBg)(D:(Xf (λ_=>True)) b1):Xh (WE b1):=by
 unfold WE
 refine T0 (Qo.up (b1.length) (λst=>st.2) (λ_=>True) (Q:=λq=>True) rfl trivial (λi3 st y hn5 hj6=>?_)) (λq7 hq8=>?_)
 ·obtain⟨h,x_2⟩:=st
  replace y:x_2=(i3:Int):=y
  show Qo (Wm b1 h x_2) _
  unfold Wm
  refine T1 (λhc9=>?_) (λhc9=>?_)
  ·refine T0 (T4 (by omega) (by simp_all)) (λe_10 hv11=>?_)
   refine T1 (λhc12=>?_) (λhc12=>?_)
   ·exact T2 (Qy trivial)
   exact T2 (QX ⟨(by simp_all),by subst y;exact QH (by simp_all) (D).1,trivial⟩)
  exact T2 (Qy trivial)
 rcases q7 with q7 | q7
 ·show Qo (Nw) _
  unfold Nw
  exact T3
 show Qo (Nx) _
 unfold Nx
 exact T3
def QcZ (y:Xz)(h:KK y):Xh (CR y):=by
 unfold CR
 refine T0 (Qhb y.First (h.2.2)) (λx_1 D=>?_)
 exact T3
def BY (l1:(L_ Xj))(D:Int)(y:(Xf JW) l1):Qo (Ef l1 D) λr=>(True/\Qha r.2)/\(r.1=true->(0<=D/\D<r.2.sizes.length)/\r.2.k=D/\r.2.all.length=r.2.sizes.length/\∀x∈r.2.sizes,1<=x/\x<=1024):=by
 unfold Ef
 refine T0 (Sg l1 y) λx hx=>?_
 refine T1 (λ_=>T2 ⟨⟨trivial,Xf.nil,Xf.nil,trivial⟩,λh=>by cases h⟩) λhc=>?_
 simp only[KL,Ac,XG]at hc
 have:=hx.2 hc.1
 exact T2 ⟨⟨trivial,y,hx.1.1,trivial⟩,λ_=>⟨⟨by omega,by show D<(x.1.length:Int);omega⟩,rfl,this.1.symm,this.2⟩⟩
def UO (D:(L_ Xj))(k2:Int)(y:(Xf JW) D):Qo (YF D k2) λr=>0<=r/\r<=1024:=by
 unfold YF
 refine T0 (BY D k2 y) (λx hx=>?_)
 refine T1 (λhc=>T2 (by omega)) (λhc=>?_)
 have h:=hx.2 (by simpa using hc)
 exact T0 (T4 (by omega) (by omega)) λe he=>T2 (by have:=h.2.2.2 e he;omega)
def QaX (h:(Int×Int))(y:Int)  : Xh (Al h y):=by
 unfold Al
 exact T3
def Ic (s1:QBg)(v2:Int)(D:(Xf (λ_=>True)) s1):Xh (JL s1 v2):=by
 unfold JL
 refine T0 (Qo.up (s1.length) (λst=>st) (λ_=>True) (Q:=λq=>True) rfl trivial (λi2 st h hn4 hj5=>?_)) (λq6 hq7=>?_)
 ·obtain⟨x_1,hst⟩:∃y,y=st:=⟨_,rfl⟩
  subst hst
  replace h:x_1=(i2:Int):=h
  show Qo (KH s1 v2 x_1) _
  unfold KH
  refine T1 (λhc8=>?_) (λhc8=>?_)
  ·refine T0 (T4 (by omega) (by simp_all)) (λe_9 hv10=>?_)
   refine T0 (QaX e_9 v2 ) (λx_11 hv12=>?_)
   refine T1 (λhc13=>?_) (λhc13=>?_)
   ·exact T2 (Qy trivial)
   exact T2 (QX ⟨(by simp_all),by subst h;exact QH (by simp_all) (D).1,trivial⟩)
  exact T2 (Qy trivial)
 rcases q6 with q6 | q6
 ·show Qo (KI q6) _
  unfold KI
  exact T3
 show Qo (KJ) _
 unfold KJ
 exact T3
def Fe (y:QBg)(D:Int)(h:(Xf (λ_=>True)) y):Xh (Jg y D):=by
 unfold Jg
 refine T0 (Ic y D (h)) (λx_1 hv2=>?_)
 exact T3
def Qc0 (v1:Ql)(D:Xz)(h:Xp v1)(y:KK D):Xh (CS v1 D):=by
 unfold CS
 refine T0 (UO v1.Colours D.Colour (h.1)) (λx_1 hv2=>?_)
 refine T0 (Fe D.First x_1 (y.2.2)) (λx_3 hv4=>?_)
 exact T3
def QbR (D:Xz)(v2:Int)(v3:Ql)(v4:Int)(v5:Int)(v6:Int)(v7:Int)(v8:Int)(h:KK D)(y:Xp v3)(hp0:0<=v4)(hp1:v4<v3.Places.length):Xh (Bp D v2 v3 v4 v5 v6 v7 v8):=by
 unfold Bp
 refine T0 (QcV D (h)) (λx_1 hv2=>?_)
 refine T1 (λhc3=>?_) (λhc3=>?_)
 ·exact T3
 refine T0 (QcX v3 v4 D (y) (h) (by omega) (by omega)) (λx_4 hv5=>?_)
 refine T1 (λhc6=>?_) (λhc6=>?_)
 ·exact T3
 refine T0 (QcY v3 D (y) (h)) (λx_7 hv8=>?_)
 refine T1 (λhc9=>?_) (λhc9=>?_)
 ·exact T3
 refine T0 (QcZ D (h)) (λx_10 hv11=>?_)
 refine T1 (λhc12=>?_) (λhc12=>?_)
 ·exact T3
 refine T0 (Qc0 v3 D (y) (h)) (λx_13 hv14=>?_)
 refine T1 (λhc15=>?_) (λhc15=>?_)
 ·exact T3
 exact T3
def Qfq (n1:Ql)(k2:Int)(h:Xp n1):Xh (IW n1 k2):=by
 unfold IW
 refine T0 (JZ n1.Places k2 (h.2.1)) (λx_1 hv2=>?_)
 refine T1 (λD=>?_) (λD=>?_)
 ·exact T3
 refine T0 (T4 (by simp_all) (by simp_all)) (λy hv5=>?_)
 refine T0 (QbR y 1 n1 k2 5 3 1 8 (((h.2.1).2 y hv5)) (h) (by simp_all) (by simp_all)) (λx_6 hv7=>?_)
 exact T3
def Qfr (D:Int)(p2:Xz)(v3:Ql)(y:KK p2)(h:Xp v3):Xh (IX D p2 v3):=by
 unfold IX
 refine T0 (Qfq v3 D (h)) (λx_1 hv2=>?_)
 exact T3
def Sh (l1:(L_ Xz))(v2:Ql)(h:(Xf KK) l1)(h_v2:Xp v2):Xh (DI l1 v2):=by
 unfold DI
 refine T0 (Qo.up (l1.length) (λst=>st) (λ_=>True) (Q:=λq=>True) rfl trivial (λi2 st D hn4 hj5=>?_)) (λq6 hq7=>?_)
 ·obtain⟨x_1,hst⟩:∃y,y=st:=⟨_,rfl⟩
  subst hst
  replace D:x_1=(i2:Int):=D
  show Qo (GT l1 v2 x_1) _
  unfold GT
  refine T1 (λhc8=>?_) (λhc8=>?_)
  ·refine T0 (T4 (by omega) (by simp_all)) (λe_9 hv10=>?_)
   refine T0 (Qfr x_1 e_9 v2 (((h).2 e_9 hv10)) (h_v2)) (λx_11 hv12=>?_)
   refine T1 (λhc13=>?_) (λhc13=>?_)
   ·exact T2 (Qy trivial)
   exact T2 (QX ⟨(by simp_all),by subst D;exact QH (by simp_all) (h).1,trivial⟩)
  exact T2 (Qy trivial)
 rcases q6 with q6 | q6
 ·show Qo (GU q6.1 q6.2) _
  unfold GU
  exact T3
 show Qo (GV) _
 unfold GV
 exact T3
def FM (y:(L_ QT))(h:Int)(D:(Xf Ys) y):Qo (KX y h) λr=>r=true->0<=h/\h<y.length:=by
 unfold KX
 exact T2 (by first | (intro hr;first | (cases hr;done) | omega | ((try simp only[QJ,Kw,KL,KY,Ac,QV,XG,beq_iff_eq,bne_iff_ne,ne_eq,LW,PE,KZ,IJ,II,Cz,WV,GB,LN,LO,HF]at *);omega)) | ((try simp only[QJ,Kw,KL,KY,Ac,QV,XG,beq_iff_eq,bne_iff_ne,ne_eq,LW,PE,KZ,IJ,II,Cz,WV,GB,LN,LO,HF]at *);omega) | simp_all)
def Qfs (v1:Int)(D:Ql)(v3:QT)(h:Xp D)(y:Ys v3):Xh (IY v1 D v3):=by
 unfold IY
 exact T3
def QbS (v1:Int)(D:Ql)(v3:QT)(v4:Int)(h:Xp D)(y:Ys v3):Xh (Bq v1 D v3 v4):=by
 unfold Bq
 exact T3
def QbT (v1:Int)(D:Ql)(v3:QT)(v4:Int)(h:Xp D)(y:Ys v3):Xh (Br v1 D v3 v4):=by
 unfold Br
 exact T3
def QbU (v1:Int)(D:Ql)(v3:QT)(h:Xp D)(y:Ys v3):Xh (Bs v1 D v3):=by
 unfold Bs
 exact T3
def QdX (y:QT)(h:Ys y):Xh (Hv y):=by
 unfold Hv
 refine T0 (AY y.Name (h.1)) (λx_1 D=>?_)
 exact T3
def QdY (D:QT)(v2:QT)(h:Ys D)(y:Ys v2):Xh (Hw D v2):=by
 unfold Hw
 exact T3
def Cx (s1:(L_ QT))(v2:QT)(h:(Xf Ys) s1)(h_v2:Ys v2):Xh (YZ s1 v2):=by
 unfold YZ
 refine T0 (Qo.up (s1.length) (λst=>st) (λ_=>True) (Q:=λq=>True) rfl trivial (λi2 st D hn4 hj5=>?_)) (λq6 hq7=>?_)
 ·obtain⟨x_1,hst⟩:∃y,y=st:=⟨_,rfl⟩
  subst hst
  replace D:x_1=(i2:Int):=D
  show Qo (JQ s1 v2 x_1) _
  unfold JQ
  refine T1 (λhc8=>?_) (λhc8=>?_)
  ·refine T0 (T4 (by omega) (by simp_all)) (λe_9 hv10=>?_)
   refine T0 (QdY e_9 v2 (((h).2 e_9 hv10)) (h_v2)) (λx_11 hv12=>?_)
   refine T1 (λhc13=>?_) (λhc13=>?_)
   ·exact T2 (Qy trivial)
   exact T2 (QX ⟨(by simp_all),by subst D;exact QH (by simp_all) (h).1,trivial⟩)
  exact T2 (Qy trivial)
 rcases q6 with q6 | q6
 ·show Qo (JR q6) _
  unfold JR
  exact T3
 show Qo (JS) _
 unfold JS
 exact T3
def Bc (D:(L_ QT))(v2:QT)(h:(Xf Ys) D)(y:Ys v2):Xh (YK D v2):=by
 unfold YK
 refine T0 (Cx D v2 (h) (y)) (λx_1 hv2=>?_)
 exact T3
def QdZ (D:Ql)(v2:Int)(v3:QT)(h:Xp D)(y:Ys v3)(hp0:0<=v2)(hp1:v2<D.Tasks.length):Xh (Hx D v2 v3):=by
 unfold Hx
 refine T0 (T5 (by simp_all;omega)) (λ_ _=>?_)
 refine T0 (Bc ((D.Tasks.drop 0).take (v2.toNat-0)) v3 (((h.2.2.1).drop _).take _) (y)) (λx_1 hv2=>?_)
 exact T3
def Qd0 (D:Int)(y:QT)(h:Ys y):Xh (AV D y):=by
 unfold AV
 exact T3
def SH (y:Yw)(h:Dl y):Xh (Gi y):=by
 unfold Gi
 refine T0 (AY y.Name (h.1)) (λx_1 D=>?_)
 exact T3
def SI (D:Yw)(v2:Yw)(h:Dl D)(y:Dl v2):Xh (Gj D v2):=by
 unfold Gj
 exact T3
def FN (s1:(L_ Yw))(v2:Yw)(h:(Xf Dl) s1)(h_v2:Dl v2):Xh (Jo s1 v2):=by
 unfold Jo
 refine T0 (Qo.up (s1.length) (λst=>st) (λ_=>True) (Q:=λq=>True) rfl trivial (λi2 st D hn4 hj5=>?_)) (λq6 hq7=>?_)
 ·obtain⟨x_1,hst⟩:∃y,y=st:=⟨_,rfl⟩
  subst hst
  replace D:x_1=(i2:Int):=D
  show Qo (Kb s1 v2 x_1) _
  unfold Kb
  refine T1 (λhc8=>?_) (λhc8=>?_)
  ·refine T0 (T4 (by omega) (by simp_all)) (λe_9 hv10=>?_)
   refine T0 (SI e_9 v2 (((h).2 e_9 hv10)) (h_v2)) (λx_11 hv12=>?_)
   refine T1 (λhc13=>?_) (λhc13=>?_)
   ·exact T2 (Qy trivial)
   exact T2 (QX ⟨(by simp_all),by subst D;exact QH (by simp_all) (h).1,trivial⟩)
  exact T2 (Qy trivial)
 rcases q6 with q6 | q6
 ·show Qo (Kc q6) _
  unfold Kc
  exact T3
 show Qo (Kd) _
 unfold Kd
 exact T3
def BZ (D:(L_ Yw))(v2:Yw)(h:(Xf Dl) D)(y:Dl v2):Xh (YT D v2):=by
 unfold YT
 refine T0 (FN D v2 (h) (y)) (λx_1 hv2=>?_)
 exact T3
def SJ (D:(L_ Yw))(v2:Int)(v3:Yw)(h:(Xf Dl) D)(y:Dl v3)(hp0:0<=v2)(hp1:v2<D.length):Xh (Gk D v2 v3):=by
 unfold Gk
 refine T0 (T5 (by simp_all;omega)) (λ_ _=>?_)
 refine T0 (BZ ((D.drop 0).take (v2.toNat-0)) v3 (((h).drop _).take _) (y)) (λx_1 hv2=>?_)
 exact T3
def SK (y:Ql)(D:Yw)(h:Xp y)(h_v2:Dl D):Xh (Gl y D):=by
 unfold Gl
 refine T0 (BX y.Colours D.Colour (h.1)) (λx_1 hv2=>?_)
 exact T3
def QbV (v1:Yw)(v2:Int)(v3:(L_ Yw))(v4:Int)(v5:Int)(v6:Ql)(v7:Int)(h:Dl v1)(y:(Xf Dl) v3)(D:Xp v6)(hp0:0<=v4)(hp1:v4<v3.length):Xh (Bu v1 v2 v3 v4 v5 v6 v7):=by
 unfold Bu
 refine T0 (SH v1 (h)) (λx_1 hv2=>?_)
 refine T1 (λhc3=>?_) (λhc3=>?_)
 ·exact T3
 refine T0 (SJ v3 v4 v1 (y) (h) (by omega) (by omega)) (λx_4 hv5=>?_)
 refine T1 (λhc6=>?_) (λhc6=>?_)
 ·exact T3
 refine T0 (SK v6 v1 (D) (h)) (λx_7 hv8=>?_)
 refine T1 (λhc9=>?_) (λhc9=>?_)
 ·exact T3
 exact T3
def Ze (k1:Int)(v2:Yw)(v3:(L_ Yw))(v4:Ql)(h:Dl v2)(y:(Xf Dl) v3)(D:Xp v4)(hp0:0<=k1)(hp1:k1<v3.length):Xh (ET k1 v2 v3 v4):=by
 unfold ET
 refine T0 (QbV v2 1 v3 k1 5 v4 3 (h) (y) (D) (by omega) (by omega)) (λx_1 hv2=>?_)
 exact T3
def VB (l1:(L_ Yw))(v2:(L_ Yw))(v3:Ql)(h:(Xf Dl) l1)(h_v2:(Xf Dl) v2)(h_v3:Xp v3)(hp0:l1.length<=v2.length):Xh (GW l1 v2 v3):=by
 unfold GW
 refine T0 (Qo.up (l1.length) (λst=>st) (λ_=>True) (Q:=λq=>True) rfl trivial (λi2 st D hn4 hj5=>?_)) (λq6 hq7=>?_)
 ·obtain⟨x_1,hst⟩:∃y,y=st:=⟨_,rfl⟩
  subst hst
  replace D:x_1=(i2:Int):=D
  show Qo (Ub l1 v2 v3 x_1) _
  unfold Ub
  refine T1 (λhc8=>?_) (λhc8=>?_)
  ·refine T0 (T4 (by omega) (by simp_all)) (λe_9 hv10=>?_)
   refine T0 (Ze x_1 e_9 v2 v3 (((h).2 e_9 hv10)) (h_v2) (h_v3) (by omega) (by simp_all;omega)) (λx_11 hv12=>?_)
   refine T1 (λhc13=>?_) (λhc13=>?_)
   ·exact T2 (Qy trivial)
   exact T2 (QX ⟨(by simp_all),by subst D;exact QH (by simp_all) (h).1,trivial⟩)
  exact T2 (Qy trivial)
 rcases q6 with q6 | q6
 ·show Qo (Uc q6.1 q6.2) _
  unfold Uc
  exact T3
 show Qo (Ud) _
 unfold Ud
 exact T3
def QaY (n1:Ql)(D:(L_ Yw))(y:Xp n1)(h:(Xf Dl) D):Xh (Am n1 D):=by
 unfold Am
 refine T0 (VB D D n1 (h) (h) (y) (by omega)) (λx_1 hv2=>?_)
 exact T3
def Qd1 (D:Ql)(v2:QT)(h:Xp D)(y:Ys v2):Xh (Hy D v2):=by
 unfold Hy
 refine T0 (QaY D v2.Vars (h) (y.2.1)) (λx_1 hv2=>?_)
 exact T3
def Qc1 (D:Ql)(v2:QT)(v3:Int)(h:Xp D)(y:Ys v2):Xh (UK D v2 v3):=by
 unfold UK
 refine T0 (Qd1 D v2 (h) (y)) (λx_1 hv2=>?_)
 exact T3
def TJ (n1:Ql)(k2:Int)(h:Xp n1):Xh (BV n1 k2):=by
 unfold BV
 refine T0 (FM n1.Tasks k2 (h.2.2.1)) (λx_1 hv2=>?_)
 refine T1 (λhc3=>?_) (λhc3=>?_)
 ·exact T3
 refine T0 (T4 (by simp_all) (by simp_all)) (λD hv5=>?_)
 refine T0 (Qo.up (D.Vars.length) (λst=>st.2) (λ_=>True) (Q:=λq=>True) rfl trivial (λi8 st hi9 hn10 hj11=>?_)) (λy hq13=>?_)
 ·obtain⟨out_6,x_7⟩:=st
  replace hi9:x_7=(i8:Int):=hi9
  show Qo (Lu D n1 out_6 x_7) _
  unfold Lu
  refine T1 (λhc14=>?_) (λhc14=>?_)
  ·refine T0 (T4 (by omega) (by simp_all)) (λe_15 hv16=>?_)
   refine T0 (UO n1.Colours e_15.Colour (h.1)) (λx_17 hv18=>?_)
   refine T1 (λhc19=>?_) (λhc19=>?_)
   ·exact T2 (Qy trivial)
   exact T2 (QX ⟨(by simp_all),by subst hi9;exact QH (by simp_all) (((h.2.2.1).2 D hv5).2.1).1,trivial⟩)
  exact T2 (Qy trivial)
 rcases y with y | y
 ·show Qo (Lv) _
  unfold Lv
  exact T3
 show Qo (Lw y) _
 unfold Lw
 exact T3
def Qd2 (y:Ql)(D:Int)(h:Xp y):Xh (Hz y D):=by
 unfold Hz
 refine T0 (TJ y D (h)) (λx_1 hv2=>?_)
 exact T3
def Qhc (h:Int):Qo (Ot h) λr=>0<=r->(h=1\/h=2\/h=3\/h=4\/h=5\/h=6)/\(h=3\/h=4->r=1)/\(h=5->r=2)/\(h=6->r=3):=by
 unfold Ot
 refine T1 (λy=>?_) (λy=>?_)
 ·unfold Az;rw[y]
  simp only[beq_iff_eq]at y
  exact T2 (by omega)
 simp only[beq_eq_false_iff_ne]at y
 unfold Az
 refine T1 (λy=>T2 (by simp only[beq_iff_eq]at y;omega)) (λhc2=>?_)
 simp only[beq_eq_false_iff_ne]at hc2
 refine T1 (λD=>?_) (λD=>?_)
 ·unfold Ay;rw[D]
  simp only[beq_iff_eq]at D
  exact T2 (by omega)
 simp only[beq_eq_false_iff_ne]at D
 unfold Ay
 refine T1 (λy=>T2 (by simp only[beq_iff_eq]at y;omega)) (λhc4=>?_)
 simp only[beq_eq_false_iff_ne]at hc4
 refine T1 (λy=>T2 (by simp only[beq_iff_eq]at y;omega)) (λhc5=>?_)
 simp only[beq_eq_false_iff_ne]at hc5
 exact T1 (λy=>T2 (by simp only[beq_iff_eq]at y;omega)) (λhc6=>T2 (by omega))
def Qgm (Dd:Int)  : Xh (Mo Dd):=by
 unfold Mo
 exact T3
def NU (D:Qv->Int->O_ Bool)(y:L_ Qv)(v2:Int)(h1:y.length<=maxLen)(h:∀k∈y,Qo (D k v2) λr=>r=true->Zb v2 k):Qo (YG D y v2) λr=>r=false->∀k∈y,Zb v2 k:=by
 unfold YG Kn
 refine T0 (P:=λx=>x<0->∀k∈y,Zb v2 k) ?_ λx hx=>T2 λh=>hx (by simp only[XG]at h;omega)
 refine T0 (Qo.up y.length (λst=>st) (λst=>∀(j:Nat) k,(j:Int)<st->y[j]? = some k->Zb v2 k) (Q:=λq=>(∀x,q=.inl x->0<=x)/\(q=.inr ()->∀k∈y,Zb v2 k)) rfl (λj k hj=>by omega) (λi st hi hn hj=>?_)) (λq hq=>?_)
 ·show Qo (JM y D v2 st) _
  unfold JM NE
  refine T1 (λhc=>?_) (λhc=>T2 (Qy ⟨λx h=>(by cases h),λ_ k hk=>by
   obtain⟨j,hj1,hj2⟩:=Bh.1 hk
   simp only[XG]at hc
   exact hj j k (by omega) (by rw[QW hj1,hj2])⟩))
  simp only[QV]at hc
  rw[Qcl (by omega)]
  have hlt:st.toNat<y.length:=by omega
  rw[QW hlt]
  refine T0 (P:=λk=>k=y[st.toNat]) (T2 rfl) λk hk=>?_
  subst hk
  refine T0 (P:=λr=>r=false->Zb v2 y[st.toNat]) (T0 (h _ (Yp hlt)) λx hx=>T2 λh=>hx (by simpa using h)) λx hx=>?_
  refine T1 (λ_=>T2 (Qy ⟨λx h=>(by cases h;omega),λh=>(by cases h)⟩)) λhxf=>T2 (QX ⟨by omega,by rw[hi];exact QH (by omega) h1,?_⟩)
  rw[hi,QH (show i<y.length by omega) h1]
  intro j k hj' hk
  by_cases c:j=i
  ·subst c
   have e:st.toNat=j:=by omega
   have:=hx hxf
   rw[QW (by omega)]at hk
   cases hk
   simpa only[e] using this
  exact hj j k (by omega) hk
 rcases q with q | q
 ·exact T2 λh=>absurd (hq.1 q rfl) (by omega)
 exact T2 λ_=>hq.2 rfl
def Si : ∀(n:Nat) (e:Qv) (v:Int),Wt e->SizeOf.sizeOf e<=n->Qo (Dq n e v) λr=>r=true->Zb v e
 | 0,e,_,_,h=>absurd e.pos (by omega)
 | n+1,e,v,he,h=>by
  unfold Dq NF
  refine T0 (Qhc e.Kind) λx hx=>?_
  refine T1 (λ_=>T2 λh=>by cases h) λh1=>T1 (λ_=>T2 λh=>by cases h) λh2=>?_
  refine T0 (P:=λ_=>True) ?_ λy _=>?_
  ·unfold Te
   exact T1 (λ_=>T0 (Qgm e.Num) λx _=>T3) λ_=>T3
  unfold Tf
  refine T1 (λ_=>T2 λh=>by cases h) λ_=>?_
  refine T0 (NU (Dq n) e.Kids v (DY he).1 λk D=>Si n k v ((DY he).2 k D) (by have:=QbP D;omega)) λx hx2=>T2 λhx3=>?_
  simp only[Kj]at h1
  have h3:=hx (by omega)
  simp only[SM,KL,XG,beq_eq_false_iff_ne]at h2
  exact .mk e h3.1 (λD=>by omega) (λD=>by have:=h3.2.1 D;omega) (λD=>by have:=h3.2.2.1 D;omega) (λD=>by have:=h3.2.2.2 D;omega) (hx2 (by simpa using hx3))
def Qgn (D:Qv)(h:Int)(y:Wt D):Qo (RG D h) λr=>r=true->Zb h D:=Si _ D h y (YV _)
def Sj : ∀(n:Nat) (e:Qv),Wt e->SizeOf.sizeOf e<=n->Qo (Dp n e) λ_=>True
 | 0,e,_,h=>absurd e.pos (by omega)
 | n+1,e,he,h=>by
  unfold Dp NC
  refine T0 (Qo.up e.Kids.length (λst=>st.2) (λ_=>True) (Q:=λ_=>True) rfl trivial (λi st y hn _=>?_)) (λq _=>?_)
  ·obtain⟨a,x⟩:=st
   replace y:x=(i:Int):=y
   show Qo (Mn e (Dp n) a x) _
   unfold Mn
   refine T1 (λD=>?_) (λD=>?_)
   ·simp only[QV]at D
    refine T0 (T4 (by omega) (by omega)) λk hk=>?_
    have:=QbP hk
    refine T0 (Sj n k ((DY he).2 k hk) (by omega)) λd _=>?_
    exact T2 (QX ⟨by omega,by subst y;exact QH (by omega) (DY he).1,trivial⟩)
   exact T2 (Qy trivial)
  unfold Td
  exact T3
def Qgo (y:Qv)(h:Wt y):Qo (RE y) λ_=>True:=Sj _ y h (YV _)
def TK : ∀(n:Nat) (e:Qv),Wt e->SizeOf.sizeOf e<=n->Qo (Gp n e) λ_=>True
 | 0,e,_,h=>absurd e.pos (by omega)
 | n+1,e,he,h=>by
  unfold Gp OU
  refine T0 (Qo.up e.Kids.length (λst=>st.2) (λ_=>True) (Q:=λ_=>True) rfl trivial (λi st y hn _=>?_)) (λq _=>?_)
  ·obtain⟨a,x⟩:=st
   replace y:x=(i:Int):=y
   show Qo (ND e (Gp n) a x) _
   unfold ND
   refine T1 (λD=>?_) (λD=>?_)
   ·simp only[QV]at D
    refine T0 (T4 (by omega) (by omega)) λk hk=>?_
    have:=QbP hk
    refine T0 (TK n k ((DY he).2 k hk) (by omega)) λd _=>?_
    exact T2 (QX ⟨by omega,by subst y;exact QH (by omega) (DY he).1,trivial⟩)
   exact T2 (Qy trivial)
  unfold VN
  exact T3
def Qhd (y:Qv)(h:Wt y):Qo (Vf y) λ_=>True:=TK _ y h (YV _)
def NV (e1:Qv)(y:Int)(D:Wt e1):Qo (AB e1 y) λr=>r=true->Zb y e1:=by
 unfold AB
 refine T0 (P:=λr=>r=true->Zb y e1) ?_ (λx hx=>T2 hx)
 unfold Tg
 refine T0 (Qgo e1 D) (λx _=>?_)
 refine T1 (λ_=>?_) (λ_=>T2 λh=>by cases h)
 refine T0 (Qhd e1 D) (λx _=>?_)
 refine T1 (λ_=>?_) (λ_=>T2 λh=>by cases h)
 exact T0 (Qgn e1 y D) (λx hx=>T2 hx)
def Qd3 (v1:QT)(v2:Int)(h:Ys v1):Xh (HA v1 v2):=by
 unfold HA
 refine T0 (P:=λ_=>True) ?_ (λx_1 hv2=>?_)
 ·unfold Pv
  refine T0 (NV v1.Guard v2 (h.2.2.1)) (λx_3 hv4=>?_)
  refine T1 (λy=>?_) (λy=>?_)
  ·refine T1 (λD=>?_) (λD=>?_)
   ·exact T3
   exact T3
  exact T3
 unfold Pw
 exact T3
def QbW (y:Ql)(D:Yd)(h:Xp y)(h_v2:FL D):Xh (Bv y D):=by
 unfold Bv
 refine T0 (JZ y.Places D.Place (h.2.1)) (λx_1 hv2=>?_)
 exact T3
def QbX (y:Yd)(D:Int)(h:FL y):Xh (Bw y D):=by
 unfold Bw
 refine T0 (NV y.Expr D (h.2)) (λx_1 hv2=>?_)
 exact T3
def QbY (v1:Ql)(D:Yd)(v3:Int)(v4:Int)(v5:Int)(y:Xp v1)(h:FL D):Xh (Bx v1 D v3 v4 v5):=by
 unfold Bx
 refine T0 (QbW v1 D (y) (h)) (λx_1 hv2=>?_)
 refine T1 (λhc3=>?_) (λhc3=>?_)
 ·exact T3
 refine T0 (QbX D v4 (h)) (λx_4 hv5=>?_)
 refine T1 (λhc6=>?_) (λhc6=>?_)
 ·exact T3
 exact T3
def Qd4 (p1:Int)(D:Yd)(v3:Ql)(v4:Int)(h:FL D)(y:Xp v3):Xh (HB p1 D v3 v4):=by
 unfold HB
 refine T0 (QbY v3 D 3 v4 1 (y) (h)) (λx_1 hv2=>?_)
 exact T3
def VC (l1:(L_ Yd))(v2:Ql)(v3:Int)(h:(Xf FL) l1)(h_v2:Xp v2):Xh (GX l1 v2 v3):=by
 unfold GX
 refine T0 (Qo.up (l1.length) (λst=>st) (λ_=>True) (Q:=λq=>True) rfl trivial (λi2 st D hn4 hj5=>?_)) (λq6 hq7=>?_)
 ·obtain⟨x_1,hst⟩:∃y,y=st:=⟨_,rfl⟩
  subst hst
  replace D:x_1=(i2:Int):=D
  show Qo (Ue l1 v2 v3 x_1) _
  unfold Ue
  refine T1 (λhc8=>?_) (λhc8=>?_)
  ·refine T0 (T4 (by omega) (by simp_all)) (λe_9 hv10=>?_)
   refine T0 (Qd4 x_1 e_9 v2 v3 (((h).2 e_9 hv10)) (h_v2)) (λx_11 hv12=>?_)
   refine T1 (λhc13=>?_) (λhc13=>?_)
   ·exact T2 (Qy trivial)
   exact T2 (QX ⟨(by simp_all),by subst D;exact QH (by simp_all) (h).1,trivial⟩)
  exact T2 (Qy trivial)
 rcases q6 with q6 | q6
 ·show Qo (Uf q6.1 q6.2) _
  unfold Uf
  exact T3
 show Qo (Ug) _
 unfold Ug
 exact T3
def Zf (n1:Ql)(l2:(L_ Yd))(h:Int)(D:Xp n1)(y:(Xf FL) l2):Xh (FH n1 l2 h):=by
 unfold FH
 refine T0 (VC l2 n1 h (y) (D)) (λx_1 hv2=>?_)
 exact T3
def Qd5 (D:Ql)(v2:QT)(v3:Int)(h:Xp D)(y:Ys v2):Xh (HC D v2 v3):=by
 unfold HC
 refine T0 (Zf D v2.Ins v3 (h) (y.2.2.2.2.2.1)) (λx_1 hv2=>?_)
 exact T3
def Qah (D:Ql)(v2:QT)(v3:Int)(v4:Int)(h:Xp D)(y:Ys v2):Xh (DV D v2 v3 v4):=by
 unfold DV
 refine T0 (Qd5 D v2 v3 (h) (y)) (λx_1 hv2=>?_)
 exact T3
def Qd6 (D:Ql)(v2:QT)(v3:Int)(h:Xp D)(y:Ys v2):Xh (HD D v2 v3):=by
 unfold HD
 refine T0 (Zf D v2.Outs v3 (h) (y.2.2.2.2.2.2.1)) (λx_1 hv2=>?_)
 exact T3
def Qai (D:Ql)(v2:QT)(v3:Int)(v4:Int)(h:Xp D)(y:Ys v2):Xh (DW D v2 v3 v4):=by
 unfold DW
 refine T0 (Qd6 D v2 v3 (h) (y)) (λx_1 hv2=>?_)
 exact T3
def Zg (y:Ql)(D:Int)(h:Xp y):Xh (EU y D):=by
 unfold EU
 refine T0 (JZ y.Places D (h.2.1)) (λx_1 hv2=>?_)
 exact T3
def Sk (s1:LI_)(v2:Int)(D:(Xf (λ_=>True)) s1):Xh (DE s1 v2):=by
 unfold DE
 refine T0 (Qo.up (s1.length) (λst=>st) (λ_=>True) (Q:=λq=>True) rfl trivial (λi2 st h hn4 hj5=>?_)) (λq6 hq7=>?_)
 ·obtain⟨x_1,hst⟩:∃y,y=st:=⟨_,rfl⟩
  subst hst
  replace h:x_1=(i2:Int):=h
  show Qo (GM s1 v2 x_1) _
  unfold GM
  refine T1 (λhc8=>?_) (λhc8=>?_)
  ·refine T0 (T4 (by omega) (by simp_all)) (λe_9 hv10=>?_)
   refine T1 (λhc11=>?_) (λhc11=>?_)
   ·exact T2 (Qy trivial)
   exact T2 (QX ⟨(by simp_all),by subst h;exact QH (by simp_all) (D).1,trivial⟩)
  exact T2 (Qy trivial)
 rcases q6 with q6 | q6
 ·show Qo (GN q6) _
  unfold GN
  exact T3
 show Qo (GO) _
 unfold GO
 exact T3
def Bg (y:LI_)(D:Int)(h:(Xf (λ_=>True)) y):Xh (Je y D):=by
 unfold Je
 refine T0 (Sk y D (h)) (λx_1 hv2=>?_)
 exact T3
def Zh (y:LI_)(D:Int)(v3:Int)(h:(Xf (λ_=>True)) y)(hp0:0<=D)(hp1:D<y.length):Xh (EV y D v3):=by
 unfold EV
 refine T0 (T5 (by simp_all;omega)) (λ_ _=>?_)
 refine T0 (Bg ((y.drop 0).take (D.toNat-0)) v3 (((h).drop _).take _)) (λx_1 hv2=>?_)
 exact T3
def QbZ (v1:Ql)(v2:Int)(v3:Int)(v4:LI_)(v5:Int)(v6:Int)(h:Xp v1)(y:(Xf (λ_=>True)) v4)(hp0:0<=v5)(hp1:v5<v4.length):Xh (Bz v1 v2 v3 v4 v5 v6):=by
 unfold Bz
 refine T0 (Zg v1 v2 (h)) (λx_1 hv2=>?_)
 refine T1 (λD=>?_) (λD=>?_)
 ·exact T3
 refine T0 (Zh v4 v5 v2 (y) (by omega) (by omega)) (λx_4 hv5=>?_)
 refine T1 (λhc6=>?_) (λhc6=>?_)
 ·exact T3
 exact T3
def QaZ (k1:Int)(h:Int)(v3:Ql)(v4:LI_)(y:Xp v3)(D:(Xf (λ_=>True)) v4)(hp0:0<=k1)(hp1:k1<v4.length):Xh (An k1 h v3 v4):=by
 unfold An
 refine T0 (QbZ v3 h 3 v4 k1 5 (y) (D) (by omega) (by omega)) (λx_1 hv2=>?_)
 exact T3
def Qb0 (l1:LI_)(v2:Ql)(v3:LI_)(h_l1:(Xf (λ_=>True)) l1)(h_v2:Xp v2)(h_v3:(Xf (λ_=>True)) v3)(hp0:l1.length<=v3.length):Xh (BA l1 v2 v3):=by
 unfold BA
 refine T0 (Qo.up (l1.length) (λst=>st) (λ_=>True) (Q:=λq=>True) rfl trivial (λi2 st h hn4 hj5=>?_)) (λq6 hq7=>?_)
 ·obtain⟨D,hst⟩:∃y,y=st:=⟨_,rfl⟩
  subst hst
  replace h:D=(i2:Int):=h
  show Qo (Cu l1 v2 v3 D) _
  unfold Cu
  refine T1 (λhc8=>?_) (λhc8=>?_)
  ·refine T0 (T4 (by omega) (by simp_all)) (λe_9 hv10=>?_)
   refine T0 (QaZ D e_9 v2 v3 (h_v2) (h_v3) (by omega) (by simp_all;omega)) (λx_11 hv12=>?_)
   refine T1 (λhc13=>?_) (λhc13=>?_)
   ·exact T2 (Qy trivial)
   exact T2 (QX ⟨(by simp_all),by subst h;exact QH (by simp_all) (h_l1).1,trivial⟩)
  exact T2 (Qy trivial)
 rcases q6 with q6 | q6
 ·show Qo (Cv q6.1 q6.2) _
  unfold Cv
  exact T3
 show Qo (Cw) _
 unfold Cw
 exact T3
def Qc2 (n1:Ql)(D:LI_)(y:Xp n1)(h:(Xf (λ_=>True)) D):Xh (CV n1 D):=by
 unfold CV
 refine T0 (Qb0 D n1 D (h) (y) (h) (by omega)) (λx_1 hv2=>?_)
 exact T3
def Qc3 (D:Ql)(v2:QT)(h:Xp D)(y:Ys v2):Xh (CW D v2):=by
 unfold CW
 refine T0 (Qc2 D v2.Cancel (h) (y.2.2.2.2.2.2.2.1)) (λx_1 hv2=>?_)
 exact T3
def Qaj (D:Ql)(v2:QT)(v3:Int)(h:Xp D)(y:Ys v2):Xh (DX D v2 v3):=by
 unfold DX
 refine T0 (Qc3 D v2 (h) (y)) (λx_1 hv2=>?_)
 exact T3
def Pz (D:Int)(y:(L_ Yd))(h:(Xf FL) y):Xh (UL D y):=by
 unfold UL
 exact T3
def Qft (y:QT)(h:Ys y):Xh (Wc y):=by
 unfold Wc
 refine T0 (P:=λ_=>True) ?_ (λx_1 hv2=>?_)
 ·unfold Lx
  refine T0 (Pz y.Join y.Ins (h.2.2.2.2.2.1)) (λx_3 hv4=>?_)
  refine T1 (λhc5=>?_) (λhc5=>?_)
  ·refine T0 (Pz y.Split y.Outs (h.2.2.2.2.2.2.1)) (λx_6 hv7=>?_)
   refine T1 (λhc8=>?_) (λhc8=>?_)
   ·refine T1 (λhc9=>?_) (λhc9=>?_)
    ·refine T1 (λD=>?_) (λD=>?_)
     ·exact T3
     exact T3
    exact T3
   exact T3
  exact T3
 unfold Lz
 exact T3
def Qc4 (y:QT)(h:Ys y):Xh (UM y):=by
 unfold UM
 refine T0 (Qft y (h)) (λx_1 D=>?_)
 exact T3
def Qb1 (D:QT)(v2:Int)(v3:Ql)(v4:Int)(v5:Int)(v6:Int)(v7:Int)(v8:Int)(v9:Int)(v10:Int)(v11:Int)(v12:Int)(v13:Int)(v14:Int)(v15:Int)(h:Ys D)(y:Xp v3)(hp0:0<=v4)(hp1:v4<v3.Tasks.length):Xh (Dv D v2 v3 v4 v5 v6 v7 v8 v9 v10 v11 v12 v13 v14 v15):=by
 unfold Dv
 refine T0 (QdX D (h)) (λx_1 hv2=>?_)
 refine T1 (λhc3=>?_) (λhc3=>?_)
 ·exact T3
 refine T0 (QdZ v3 v4 D (y) (h) (by omega) (by omega)) (λx_4 hv5=>?_)
 refine T1 (λhc6=>?_) (λhc6=>?_)
 ·exact T3
 refine T0 (Qd0 v6 D (h)) (λx_7 hv8=>?_)
 refine T1 (λhc9=>?_) (λhc9=>?_)
 ·exact T3
 refine T0 (Qc1 v3 D v8 (y) (h)) (λx_10 hv11=>?_)
 refine T1 (λhc12=>?_) (λhc12=>?_)
 ·exact T3
 refine T0 (Qd2 v3 v4 (y)) (λx_13 hv14=>?_)
 refine T1 (λhc15=>?_) (λhc15=>?_)
 ·exact T3
 refine T0 (Qd3 D v6 (h)) (λx_16 hv17=>?_)
 refine T1 (λhc18=>?_) (λhc18=>?_)
 ·exact T3
 refine T0 (Qah v3 D v6 x_10.2 (y) (h)) (λx_19 hv20=>?_)
 refine T1 (λhc21=>?_) (λhc21=>?_)
 ·exact T3
 refine T0 (Qai v3 D v6 x_19.2 (y) (h)) (λx_22 hv23=>?_)
 refine T1 (λhc24=>?_) (λhc24=>?_)
 ·exact T3
 refine T0 (Qaj v3 D x_22.2 (y) (h)) (λx_25 hv26=>?_)
 refine T1 (λhc27=>?_) (λhc27=>?_)
 ·exact T3
 refine T0 (Qc4 D (h)) (λx_28 hv29=>?_)
 refine T1 (λhc30=>?_) (λhc30=>?_)
 ·exact T3
 exact T3
def Zi (n1:Ql)(k2:Int)(h:Xp n1):Xh (JT n1 k2):=by
 unfold JT
 refine T0 (FM n1.Tasks k2 (h.2.2.1)) (λx_1 hv2=>?_)
 refine T1 (λhc3=>?_) (λhc3=>?_)
 ·exact T3
 refine T0 (Py n1 (h)) (λx_4 hv5=>?_)
 refine T1 (λhc6=>?_) (λhc6=>?_)
 ·exact T3
 refine T0 (T4 (by simp_all) (by simp_all)) (λy D=>?_)
 refine T0 (T4 (by simp_all) (by simp_all)) (λe_9 hv10=>?_)
 refine T0 (Qfs 0 n1 y (h) (((h.2.2.1).2 y D))) (λx_11 hv12=>?_)
 refine T0 (QbS 0 n1 y (e_9.Vars.length:Int) (h) (((h.2.2.1).2 y D))) (λx_13 hv14=>?_)
 refine T0 (QbT 0 n1 y (e_9.Vars.length:Int) (h) (((h.2.2.1).2 y D))) (λx_15 hv16=>?_)
 refine T0 (QbU 0 n1 y (h) (((h.2.2.1).2 y D))) (λx_17 hv18=>?_)
 refine T0 (Qb1 y 1 n1 k2 5 (e_9.Vars.length:Int) 2 0 (-1) 2 1 (-1) (-1) (-1) 11 (((h.2.2.1).2 y D)) (h) (by simp_all) (by simp_all)) (λx_19 hv20=>?_)
 refine T1 (λhc21=>?_) (λhc21=>?_)
 ·exact T3
 exact T3
def Qfu (D:Int)(p2:QT)(v3:Ql)(y:Ys p2)(h:Xp v3):Xh (BW D p2 v3):=by
 unfold BW
 refine T0 (Zi v3 D (h)) (λx_1 hv2=>?_)
 exact T3
def SL (l1:(L_ QT))(v2:Ql)(h:(Xf Ys) l1)(h_v2:Xp v2):Xh (Kh l1 v2):=by
 unfold Kh
 refine T0 (Qo.up (l1.length) (λst=>st) (λ_=>True) (Q:=λq=>True) rfl trivial (λi2 st D hn4 hj5=>?_)) (λq6 hq7=>?_)
 ·obtain⟨x_1,hst⟩:∃y,y=st:=⟨_,rfl⟩
  subst hst
  replace D:x_1=(i2:Int):=D
  show Qo (Ku l1 v2 x_1) _
  unfold Ku
  refine T1 (λhc8=>?_) (λhc8=>?_)
  ·refine T0 (T4 (by omega) (by simp_all)) (λe_9 hv10=>?_)
   refine T0 (Qfu x_1 e_9 v2 (((h).2 e_9 hv10)) (h_v2)) (λx_11 hv12=>?_)
   refine T1 (λhc13=>?_) (λhc13=>?_)
   ·exact T2 (Qy trivial)
   exact T2 (QX ⟨(by simp_all),by subst D;exact QH (by simp_all) (h).1,trivial⟩)
  exact T2 (Qy trivial)
 rcases q6 with q6 | q6
 ·show Qo (EG q6.1 q6.2) _
  unfold EG
  exact T3
 show Qo (EH) _
 unfold EH
 exact T3
def Qhe (n1:Ql)(h:Xp n1):Xh (Ej n1):=by
 unfold Ej
 refine T0 (Qfl n1 2 3 1 (h)) (λx_1 hv2=>?_)
 refine T1 (λD=>?_) (λD=>?_)
 ·exact T3
 refine T0 (Py n1 (h)) (λx_4 hv5=>?_)
 refine T1 (λhc6=>?_) (λhc6=>?_)
 ·exact T3
 refine T0 (Sh n1.Places n1 (h.2.1) (h)) (λx_7 hv8=>?_)
 refine T1 (λhc9=>?_) (λhc9=>?_)
 ·exact T3
 refine T0 (SL n1.Tasks n1 (h.2.2.1) (h)) (λx_10 hv11=>?_)
 refine T1 (λy=>?_) (λy=>?_)
 ·exact T3
 exact T3
def Qh5 (y:Int)(D:Int)  : Xh (PL y D):=by
 unfold PL
 refine T1 (λh=>?_) (λh=>?_)
 ·exact T3
 exact T3
def Qa0 (y:Int)(D:Int)  : Xh (Ah y D):=by
 unfold Ah
 refine T1 (λh=>?_) (λh=>?_)
 ·exact T3
 exact T3
def QaA (y:Int)  : Xh (Ik y):=by
 unfold Ik
 refine T1 (λh=>?_) (λh=>?_)
 ·exact T3
 exact T3
def Qa1 (h:Int)(y:Int)  : Xh (Ai h y):=by
 unfold Ai
 exact T3
def Qd7 (a1:Int)(b2:Int)  : Xh (Hh a1 b2):=by
 unfold Hh
 refine T0 (QaA a1 ) (λx_1 hv2=>?_)
 refine T0 (QaA b2 ) (λx_3 hv4=>?_)
 refine T0 (Qa1 x_1 x_3 ) (λx_5 hv6=>?_)
 refine T1 (λh=>?_) (λh=>?_)
 ·unfold Gw
  refine T1 (λy=>?_) (λy=>?_)
  ·exact T3
  exact T3
 unfold Gw
 refine T1 (λD=>?_) (λD=>?_)
 ·exact T3
 exact T3
def PA (D:Int)(b2:Int)  : Xh (Uy D b2):=by
 unfold Uy
 refine T1 (λh=>?_) (λh=>?_)
 ·exact T3
 refine T1 (λy=>?_) (λy=>?_)
 ·exact T3
 refine T0 (T5 (by simp_all)) (λ_ _=>?_)
 refine T0 (T5 (by simp_all)) (λ_ _=>?_)
 exact T3
def DZ (y:Bool)  : Xh (WM y):=by
 unfold WM
 refine T1 (λh=>?_) (λh=>?_)
 ·exact T3
 exact T3
def IF (Dd:Int)(y:Int)(h:Int)  : Xh (Fw Dd y h):=by
 unfold Fw
 refine T1 (λhc1=>?_) (λhc1=>?_)
 ·refine T0 (Qh5 y h ) (λx_2 hv3=>?_)
  exact T3
 refine T1 (λhc4=>?_) (λhc4=>?_)
 ·refine T0 (Qa0 y h ) (λx_5 hv6=>?_)
  exact T3
 refine T1 (λhc7=>?_) (λhc7=>?_)
 ·refine T0 (Qd7 y h ) (λx_8 hv9=>?_)
  exact T3
 refine T1 (λD=>?_) (λD=>?_)
 ·refine T0 (PA y h ) (λx_11 hv12=>?_)
  exact T3
 refine T1 (λhc13=>?_) (λhc13=>?_)
 ·refine T0 (PA y h ) (λx_14 hv15=>?_)
  exact T3
 refine T1 (λhc16=>?_) (λhc16=>?_)
 ·refine T0 (DZ (y==h) ) (λx_17 hv18=>?_)
  exact T3
 refine T1 (λhc19=>?_) (λhc19=>?_)
 ·refine T0 (DZ (y != h) ) (λx_20 hv21=>?_)
  exact T3
 refine T1 (λhc22=>?_) (λhc22=>?_)
 ·refine T0 (DZ (decide (y<h)) ) (λx_23 hv24=>?_)
  exact T3
 refine T1 (λhc25=>?_) (λhc25=>?_)
 ·refine T0 (DZ (decide (y<=h)) ) (λx_26 hv27=>?_)
  exact T3
 refine T1 (λhc28=>?_) (λhc28=>?_)
 ·refine T0 (P:=λ_=>True) ?_ (λv_29 hv30=>?_)
  ·unfold Qbs
   refine T1 (λhc31=>?_) (λhc31=>?_)
   ·refine T0 (DZ (h != 0) ) (λx_32 hv33=>?_)
    exact T3
   refine T0 (DZ false ) (λx_34 hv35=>?_)
   exact T3
  unfold Qbt
  exact T3
 refine T1 (λhc36=>?_) (λhc36=>?_)
 ·refine T0 (P:=λ_=>True) ?_ (λv_37 hv38=>?_)
  ·unfold Qbu
   refine T1 (λhc39=>?_) (λhc39=>?_)
   ·refine T0 (DZ true ) (λx_40 hv41=>?_)
    exact T3
   refine T0 (DZ (h != 0) ) (λx_42 hv43=>?_)
   exact T3
  unfold Qbv
  exact T3
 exact T3
def Qb2 (h:Int)  : Xh (PM h):=by
 unfold PM
 refine T0 (IF 2 0 h ) (λD y=>?_)
 exact T3
def Sl (b:QBg)(h:b.length<=maxLen):WE b=some (AX (-1) b):=by
 unfold WE
 have y:=TI (body:=λst=>Wm b st.1 st.2) (l:=b) (ρ:=Unit⊕Unit) (λi (t:Int)=>(t,(i:Int)))
  (λi t x=>bif ((decide (x.1<=t))||((decide (x.2<1))||(decide (1048576<x.2))))then .inr (.inl ())else .inl x.1) (λ_=>.inr ())
  (λi t x D hx=>by
   show Wm b t i=_
   unfold Wm
   rw[QP (by omega:(i:Int)<b.length),XE,XQ,hx,Qg]
   cases ((decide (x.1<=t))||((decide (x.2<1))||(decide (1048576<x.2))))with
   | true=>rfl
   | false=>simp only[QR,Sum.elim_inl];rw[QH D h])
  (λt=>by
   show Wm b t b.length=_
   unfold Wm
   rw[QZ (by omega)];rfl) (-1) (s0:=(-1,0)) rfl
 rw[y]
 have:∀(l:QBg) (k:Nat) (t:Int),HE (λi t (x:Int×Int)=>(bif ((decide (x.1<=t))||((decide (x.2<1))||(decide (1048576<x.2))))then .inr (.inl ())else .inl x.1:Int⊕(Unit⊕Unit))) (λ_=>.inr ()) k t l=bif AX t l then .inr ()else .inl ():=by
  intro l
  induction l with
  | nil=>intro k t;rfl
  | cons x l ih=>
   intro k t
   rw[HE,AX]
   cases ((decide (x.1<=t))||((decide (x.2<1))||(decide (1048576<x.2))))with
   | true=>rfl
   | false=>simp only[QR,Sum.elim_inl,Bool.not_false,Bool.true_and];exact ih _ _
 rw[this]
 cases AX (-1) b<;>rfl
def TL (b:QBg)(h:b.length<=maxLen):Lf b=some (bif AX (-1) b then .inr b else .inl ()):=by
 unfold Lf
 rw[Sl b h,Qg]
 cases hr:AX (-1) b with
 | false=>rfl
 | true=>
  simp only[FQ,QR,XE]
  have ha:=(GA.1 hr).1
  obtain⟨r,h1,h2⟩:=Qcm (body:=λst=>UR b st.1 st.2) b.length (λi s=>s=((i:Int),b.take i)) (λr=>r=b)
   (λi s y D=>by
    subst D
    refine .inl ⟨(((i+1:Nat):Int),b.take (i+1)),?_,rfl⟩
    show UR b i (b.take i)=_
    unfold UR
    rw[QP (by omega:(i:Int)<b.length),XE,XQ,QW y,Qg,QH y h]
    have e:b.take (i+1)=b.take i++[b[i]]:=by rw[Oj,QW y];rfl
    rw[e,<-Qln (by have:=(ha.sublist (List.take_sublist (i+1) b));rw[e]at this;exact this)])
   (λs D=>by
    subst D
    refine⟨_,?_,rfl⟩
    show UR b b.length (b.take b.length)=_
    unfold UR
    rw[QZ (by omega),Mb];rfl) (0,[]) rfl
  rw[h1,h2];rfl
def VD (a b:QBg)(y:a.length<=maxLen)(h:b.length<=maxLen):Hd a b=some (bif AX (-1) a then(bif AX (-1) b then .inr (.inr (.inr (a,b)))else .inr (.inr (.inl a)))else(bif AX (-1) b then .inr (.inl b)else .inl ())):=by
 unfold Hd
 rw[TL a y]
 cases AX (-1) a with
 | true=>
  simp only[XE,Qg,Sum.elim_inr]
  unfold OS
  rw[TL b h]
  cases AX (-1) b<;>rfl
 | false=>
  simp only[QR,Qg,Sum.elim_inl]
  unfold OR
  rw[TL b h]
  cases AX (-1) b<;>rfl
def Lb (m:QBg)(ha:CZ m)(h':m.length<=8796093022208):Dm m=some (FK m):=by
 have h:m.length<=maxLen:=by unfold maxLen;omega
 unfold Dm WL Cn
 simp only[QP (show m.length<=17592186044416 by omega),Qaf rfl,Qg,Qkd ha]
 obtain⟨r,h1,h2⟩:=Qcm (body:=λst=>KP (m.map Prod.fst) m st.1 st.2) m.length (λi s=>s=((i:Int),FK (m.take i))) (λr=>r=FK m)
  (λi s y D=>by
   subst D
   refine .inl ⟨(((i+1:Nat):Int),FK (m.take (i+1))),?_,rfl⟩
   show KP (m.map Prod.fst) m i (FK (m.take i))=_
   unfold KP
   have e:m.take (i+1)=m.take i++[m[i]]:=by rw[Oj,QW y];rfl
   have ec:(Xa m m[i].1).getD 0=m[i].2:=HG ha.nd (Yp y)
   rw[QP (by simp;omega),XE,XQ,XU,QW y,DK,Qg,ec]
   have hl:(FK (m.take i)).length<=i:=Jx (Qcb _ _) (by simp;omega)
   cases hc:decide (0<m[i].2)with
   | true=>
    simp only[XE]
    rw[BD (by simp;omega),Qg]
    unfold Dg
    rw[QH y h,e]
    unfold FK
    rw[List.filter_append,Ad,if_pos hc];rfl
   | false=>
    simp only[QR]
    unfold Dg
    rw[QH y h,e]
    unfold FK
    rw[List.filter_append,Ad,if_neg (by rw[hc];decide),List.filter_nil,IH])
  (λs D=>by
   subst D
   refine⟨_,?_,rfl⟩
   show KP (m.map Prod.fst) m m.length (FK (m.take m.length))=_
   unfold KP
   rw[QZ (by simp),Mb];rfl) (0,[]) rfl
 rw[h1,h2];rfl
def Qh6 (m:QBg):(FK m).length<=m.length:=Qcb _ _
def FO (a b:QBg)(h:a.length+b.length<=8796093022208):(¬(Rt a/\Rt b)/\Jh a b=some ([],1))\/(Rt a/\Rt b/\(∃k,1048576<QY a k+QY b k)/\Jh a b=some ([],2))\/
  (Rt a/\Rt b/\∃r,Jh a b=some (r,0)/\Rt r/\(∀k,QY r k=QY a k+QY b k)/\r.length<=a.length+b.length):=by
 unfold Jh
 rw[VD a b (by unfold maxLen;omega) (by unfold maxLen;omega),Qg]
 cases ra:AX (-1) a with
 | false=>exact .inl ⟨λhh=>(by rw[GA.2 hh.1]at ra;cases ra),by cases AX (-1) b<;>rfl⟩
 | true=>
  cases rb:AX (-1) b with
  | false=>exact .inl ⟨λhh=>(by rw[GA.2 hh.2]at rb;cases rb),rfl⟩
  | true=>
   have D:=GA.1 ra
   have y:=GA.1 rb
   simp only[XE,Sum.elim_inr]
   unfold Rw
   have hw:∀p∈b,QY a p.1+p.2=QY a p.1+QY b p.1:=λp hp=>by rw[HG y.1.nd hp]
   rcases Qfh (g:=λx v=>Qs (x+v)) (stop:=λx=>decide (1048576<x)) (q:=some ()) (body:=λst p=>Aw st p.1 p.2) (λs p=>by
     show Aw s p.1 p.2=_
     unfold Aw
     rw[FJ,if_pos rfl]
     unfold QY
     simp only[PZ]
     cases decide (1048576<Qs ((Xa s p.1).getD 0+p.2))<;>rfl) D.1 y.1.nd with⟨⟨p,h1,h2⟩,h3⟩|⟨h1,s',h3,h4,h5,h6⟩
   ·refine .inr (.inl ⟨D,y,⟨p.1,?_⟩,?_⟩)
    ·have:=D.cnt p.1
     have:=y.cnt p.1
     have h2:=XB h2
     rw[HG y.1.nd h1]
     rw[HG y.1.nd h1]at this
     rwa[Ja (by omega)]at h2
    simp only[h3 () rfl];rfl
   have hk:∀k,QY s' k=QY a k+QY b k/\QY s' k<=1048576:=λk=>by
    have ca:=D.cnt k
    have cb:=y.cnt k
    have e:=h6 k
    unfold Qcn at e
    cases hm:Xa b k with
    | none=>
     rw[hm]at e
     simp only at e
     have:QY b k=0:=by unfold QY;rw[hm];rfl
     have e2:QY s' k=QY a k:=by unfold QY;rw[e]
     omega
    | some v=>
     rw[hm]at e
     simp only at e
     have e1:QY b k=v:=by unfold QY;rw[hm];rfl
     have e2:QY s' k=Qs (QY a k+v):=by unfold QY;rw[e];rfl
     have h7:=h1 (k,v) ((WS y.1.nd).1 hm)
     simp only[XG]at h7
     rw[Ja (by omega)]at e2 h7
     omega
   refine .inr (.inr ⟨D,y,FK s',?_,Qkc h4 (λk hk0=>⟨?_,(hk k).2⟩),λk=>?_,Jx (Qh6 s') h5⟩)
   ·simp only[h3,Qg,Sum.elim_inl]
    unfold Mi
    rw[Lb s' h4 (by omega)];rfl
   ·have:=(hk k).1
    have ca:=D.cnt k
    have cb:=y.cnt k
    by_cases c:0<QY a k
    ·exact D.cnt_pos c
    exact y.cnt_pos (by omega)
   rw[Qh4 h4,(hk k).1]
   have ca:=D.cnt k
   have cb:=y.cnt k
   split<;>omega
def Sm (m h:QBg):Dh m h=some (!(m.any λp=>decide (QY h p.1<p.2))):=by
 unfold Dh
 rw[Qjr (bad:=λp=>decide (QY h p.1<p.2)) (q:=()) (λp=>by
  show KT h p.1 p.2=_
  unfold KT QY
  cases decide ((Xa h p.1).getD 0<p.2)<;>rfl)]
 cases m.any λp=>decide (QY h p.1<p.2)<;>rfl
def Qfv {a b:QBg}(y:Rt a)(hb:Rt b):(a.any λp=>decide (QY b p.1<p.2))=false↔∀k,QY a k<=QY b k:=by
 rw[<-LW,Oc]
 simp only[QV,not_exists,not_and]
 constructor
 ·intro h k
  have cb:=hb.cnt k
  cases e:Xa a k with
  | none=>
   have:QY a k=0:=by unfold QY;rw[e];rfl
   omega
  | some v=>
   have D:=h _ ((WS y.1.nd).1 e)
   have:QY a k=v:=by unfold QY;rw[e];rfl
   simp only at D
   omega
 intro h p hp hlt
 have:=h p.1
 rw[HG y.1.nd hp]at this
 omega
def Qfw (a b:QBg)(ha:a.length<=maxLen)(hb:b.length<=maxLen):∃r,Mx a b=some r/\(r=true↔Rt a/\Rt b/\∀k,QY a k<=QY b k):=by
 unfold Mx
 rw[VD a b ha hb,Qg]
 cases ra:AX (-1) a with
 | false=>exact⟨false,by cases AX (-1) b<;>rfl,by simp;intro hh;rw[GA.2 hh]at ra;cases ra⟩
 | true=>
  cases rb:AX (-1) b with
  | false=>exact⟨false,rfl,by simp;intro _ hh;rw[GA.2 hh]at rb;cases rb⟩
  | true=>
   have y:=GA.1 ra
   have D:=GA.1 rb
   refine⟨!(a.any λp=>decide (QY b p.1<p.2)),?_,?_⟩
   ·simp only[XE,Sum.elim_inr]
    unfold Mw
    rw[Sm];rfl
   rw[KY,Qfv y D]
   exact⟨λh=>⟨y,D,h⟩,λh=>h.2.2⟩
def Pc (a b:QBg)(h:a.length+b.length<=8796093022208):(¬(Rt a/\Rt b)/\JG a b=some ([],1))\/(Rt a/\Rt b/\(∃k,QY a k<QY b k)/\JG a b=some ([],10))\/
  (Rt a/\Rt b/\(∀k,QY b k<=QY a k)/\∃r,JG a b=some (r,0)/\Rt r/\(∀k,QY r k=QY a k-QY b k)/\r.length<=a.length+b.length):=by
 unfold JG
 rw[VD a b (by unfold maxLen;omega) (by unfold maxLen;omega),Qg]
 cases ra:AX (-1) a with
 | false=>exact .inl ⟨λhh=>(by rw[GA.2 hh.1]at ra;cases ra),by cases AX (-1) b<;>rfl⟩
 | true=>
  cases rb:AX (-1) b with
  | false=>exact .inl ⟨λhh=>(by rw[GA.2 hh.2]at rb;cases rb),rfl⟩
  | true=>
   have y:=GA.1 ra
   have D:=GA.1 rb
   simp only[XE,Sum.elim_inr]
   unfold OW
   rw[Sm,Qg]
   cases hw:b.any λp=>decide (QY a p.1<p.2)with
   | true=>
    refine .inr (.inl ⟨y,D,?_,rfl⟩)
    obtain⟨p,h1,h2⟩:=Oc.1 hw
    exact⟨p.1,by rw[HG D.1.nd h1];exact XB h2⟩
   | false=>
    have hle:=(Qfv D y).1 hw
    simp only[Bool.not_false,FQ,QR]
    rcases Qfh (g:=λx v=>Qs (x-v)) (stop:=λ_=>false) (q:=none) (body:=λst p=>Uq st p.1 p.2) (λs p=>by
      show Uq s p.1 p.2=_
      unfold Uq QY
      rfl) y.1 D.1.nd with⟨⟨p,h1,h2⟩,h3⟩|⟨h1,s',h3,h4,h5,h6⟩
    ·cases h2
    have hk:∀k,QY s' k=QY a k-QY b k:=λk=>by
     have ca:=y.cnt k
     have cb:=D.cnt k
     have e:=h6 k
     unfold Qcn at e
     cases hm:Xa b k with
     | none=>
      rw[hm]at e
      simp only at e
      have:QY b k=0:=by unfold QY;rw[hm];rfl
      have e2:QY s' k=QY a k:=by unfold QY;rw[e]
      omega
     | some v=>
      rw[hm]at e
      simp only at e
      have e1:QY b k=v:=by unfold QY;rw[hm];rfl
      have e2:QY s' k=Qs (QY a k-v):=by unfold QY;rw[e];rfl
      rw[Ja (by omega)]at e2
      omega
    refine .inr (.inr ⟨y,D,hle,FK s',?_,Qkc h4 (λk hk0=>?_),λk=>?_,Jx (Qh6 s') h5⟩)
    ·simp only[h3,Qg,Sum.elim_inl]
     unfold IR
     rw[Lb s' h4 (by omega)];rfl
    ·have:=hk k
     have ca:=y.cnt k
     have cb:=D.cnt k
     exact⟨y.cnt_pos (by omega),by omega⟩
    rw[Qh4 h4,hk k]
    have:=hle k
    split<;>omega
def Qfx (t:Int):Nv [t]=some (bif decide (0<=t)then [(t,1)]else []):=by
 unfold Nv
 rw[WH]
 show((UQ [t] 0 []).bind _).bind _=_
 unfold UQ
 rw[QP (by simp),XE,show idx [t] 0=some t from rfl,Qg]
 unfold Oq
 rw[show Qs (0+1)=1 from by decide]
 cases h:decide (0<=t)with
 | false=>
  simp only[QR,Qg,Sum.elim_inl]
  rw[WH]
  show((UQ [t] 1 []).bind _).bind _=_
  unfold UQ
  rw[QZ (by simp)]
  simp only[QR,Qg,Sum.elim_inr]
  unfold Ve
  rw[Lb [] List.Pairwise.nil (by simp)];rfl
 | true=>
  simp only[XE,Qg,Sum.elim_inl]
  rw[WH]
  show((UQ [t] 1 [(t,min2 (Qs (0+1)) 1048576)]).bind _).bind _=_
  unfold UQ
  rw[QZ (by simp)]
  simp only[QR,Qg,Sum.elim_inr]
  unfold Ve
  rw[Lb _ (List.pairwise_singleton _ _) (by simp[maxLen]),show min2 (Qs (0+1)) 1048576=1 from by decide];rfl
def QiK : ∀(n:Nat) (e:Qv) (d:Int),Wt e->SizeOf.sizeOf e<=n->Qo (Gr n e d) λ_=>True
 | 0,e,_,_,h=>absurd e.pos (by omega)
 | n+1,e,d,he,h=>by
  unfold Gr OZ
  refine T1 (λ_=>T3) λ_=>?_
  refine T0 (Qo.up e.Kids.length (λst=>st.2) (λ_=>True) (Q:=λ_=>True) rfl trivial (λi st D hn _=>?_)) (λq _=>?_)
  ·obtain⟨a,x⟩:=st
   replace D:x=(i:Int):=D
   show Qo (NO e (Gr n) d a x) _
   unfold NO
   refine T1 (λhc=>?_) (λhc=>T2 (Qy trivial))
   simp only[QV]at hc
   refine T0 (T4 (by omega) (by omega)) λk hk=>?_
   have:=QbP hk
   refine T0 (QiK n k _ ((DY he).2 k hk) (by omega)) λy _=>?_
   refine T1 (λ_=>T2 (Qy trivial)) λ_=>T1 (λ_=>T2 (Qy trivial)) λ_=>?_
   exact T2 (QX ⟨by omega,by subst D;exact QH (by omega) (DY he).1,trivial⟩)
  rcases q with q | q
  ·exact T3
  exact T3
def Qgp (e:Qv)(h:Wt e):Qo (Ch e) λ_=>True:=by
 unfold Ch Vr
 exact T0 (QiK _ e 60 h (YV _)) λ_ _=>T3
def Qmb (n1:Ql)(h:Xp n1)(q0:Int):Qo (MS n1 q0) λr=>r=true->q0<=400:=by
 unfold MS
 refine T0 (Qo.up n1.Tasks.length (λst=>st.2) (λ_=>True) (Q:=λ_=>True) rfl trivial (λi st hi hn _=>?_)) (λq _=>?_)
 ·obtain⟨a,x⟩:=st
  replace hi:x=(i:Int):=hi
  show Qo (MR n1 a x) _
  unfold MR
  refine T1 (λhc=>?_) (λ_=>T2 (Qy trivial))
  simp only[QV]at hc
  refine T0 (T4 (by omega) (by omega)) λe he=>?_
  have ke:=h.2.2.1.2 e he
  refine T1 (λ_=>T2 (Qy trivial)) λ_=>?_
  refine T0 (Qo.up e.Vars.length (λst=>st) (λ_=>True) (Q:=λ_=>True) rfl trivial (λi2 st D hn2 _=>?_)) (λq _=>?_)
  ·show Qo (MM e st) _
   unfold MM
   refine T1 (λhc=>?_) (λ_=>T2 (Qy trivial))
   simp only[QV]at hc
   refine T0 (T4 (by omega) (by omega)) λs _=>?_
   exact T1 (λ_=>T2 (Qy trivial)) λ_=>T2 (QX ⟨by omega,by rw[D];exact QH (by omega) ke.2.1.1,trivial⟩)
  rcases q with q | q
  ·exact T2 (Qy trivial)
  show Qo (CM e a x) _
  unfold CM
  refine T0 (Qgp e.Guard ke.2.2.1) λg _=>?_
  refine T0 (Qo.up e.Ins.length (λst=>st.2) (λ_=>True) (Q:=λ_=>True) rfl trivial (λi2 st D hn2 _=>?_)) (λq _=>?_)
  ·obtain⟨b,y⟩:=st
   replace D:y=(i2:Int):=D
   show Qo (MN e b y) _
   unfold MN
   refine T1 (λhc=>?_) (λ_=>T2 (Qy trivial))
   simp only[QV]at hc
   refine T0 (T4 (by omega) (by omega)) λs hs=>?_
   refine T0 (Qgp s.Expr (ke.2.2.2.2.2.1.2 s hs).2) λg _=>?_
   exact T2 (QX ⟨by omega,by subst D;exact QH (by omega) ke.2.2.2.2.2.1.1,trivial⟩)
  show Qo (MQ e a x q) _
  unfold MQ
  refine T0 (Qo.up e.Outs.length (λst=>st.2) (λ_=>True) (Q:=λ_=>True) rfl trivial (λi2 st D hn2 _=>?_)) (λq _=>?_)
  ·obtain⟨b,y⟩:=st
   replace D:y=(i2:Int):=D
   show Qo (MO e b y) _
   unfold MO
   refine T1 (λhc=>?_) (λ_=>T2 (Qy trivial))
   simp only[QV]at hc
   refine T0 (T4 (by omega) (by omega)) λs hs=>?_
   refine T0 (Qgp s.Expr (ke.2.2.2.2.2.2.1.2 s hs).2) λg _=>?_
   exact T2 (QX ⟨by omega,by subst D;exact QH (by omega) ke.2.2.2.2.2.2.1.1,trivial⟩)
  show Qo (MP a e x q) _
  unfold MP
  exact T1 (λ_=>T2 (Qy trivial)) λ_=>T2 (QX ⟨by omega,by subst hi;exact QH (by omega) h.2.2.1.1,trivial⟩)
 rcases q with q | q
 ·exact T2 λh=>by cases h
 exact T2 λh=>by simpa using h
def Qmc (n1:Ql)(h:Xp n1):Qo (Ov n1) λr=>r=true->n1.Colours.length<=40/\n1.Places.length<=70/\n1.Tasks.length<=70:=by
 unfold Ov
 refine T1 (λ_=>T2 λh=>by cases h) λD=>?_
 simp only[KL,XG]at D
 refine T6 (P:=λ_=>True) ?_ λ_ _ _=>by omega
 refine T0 (Qo.up n1.Colours.length (λst=>st.2) (λ_=>True) (Q:=λ_=>True) rfl trivial (λi st hi hn _=>?_)) (λq _=>?_)
 ·obtain⟨a,x⟩:=st
  replace hi:x=(i:Int):=hi
  show Qo (NR n1 a x) _
  unfold NR
  refine T1 (λD=>?_) (λ_=>T2 (Qy trivial))
  simp only[QV]at D
  refine T0 (T4 (by omega) (by omega)).self λe he=>?_
  obtain⟨he,hm⟩:=he
  refine T0 (P:=λ_=>True) ?_ λy _=>?_
  ·unfold VW
   rw[he,Qg]
   exact T1 (λ_=>T3) λ_=>T3
  unfold VX
  refine T1 (λ_=>T2 (Qy trivial)) λ_=>?_
  refine T0 (Qo.up e.Names.length (λst=>st) (λ_=>True) (Q:=λ_=>True) rfl trivial (λi2 st hi2 hn2 _=>?_)) (λq _=>?_)
  ·show Qo (NQ n1 x st) _
   unfold NQ
   simp only[he,Qg]
   refine T1 (λD=>?_) (λ_=>T2 (Qy trivial))
   simp only[QV]at D
   refine T0 (T4 (by omega) (by omega)) λs _=>?_
   refine T1 (λ_=>T2 (Qy trivial)) λ_=>?_
   exact T2 (QX ⟨by omega,by rw[hi2];exact QH (by omega) (h.1.2 e hm).2.2.2.2.1.1,trivial⟩)
  rcases q with q | q
  ·exact T2 (Qy trivial)
  exact T2 (QX ⟨by omega,by subst hi;exact QH (by omega) h.1.1,trivial⟩)
 rcases q with q | q
 ·exact T3
 show Qo (MT n1 q) _
 unfold MT
 refine T0 (Qo.up n1.Places.length (λst=>st.2) (λ_=>True) (Q:=λ_=>True) rfl trivial (λi st hi hn _=>?_)) (λq _=>?_)
 ·obtain⟨a,x⟩:=st
  replace hi:x=(i:Int):=hi
  show Qo (NS n1 a x) _
  unfold NS
  refine T1 (λD=>?_) (λ_=>T2 (Qy trivial))
  simp only[QV]at D
  refine T0 (T4 (by omega) (by omega)) λe _=>?_
  refine T0 (T4 (by omega) (by omega)) λe2 _=>?_
  exact T1 (λ_=>T2 (Qy trivial)) λ_=>T2 (QX ⟨by omega,by subst hi;exact QH (by omega) h.2.1.1,trivial⟩)
 rcases q with q | q
 ·exact T3
 exact(Qmb n1 h q).mono λ_ _=>trivial
def Qmd (m:L_ QBg)(h:m.length<=maxLen):Qo (Ow m) λ_=>True:=by
 unfold Ow
 refine T0 (Qo.up m.length (λst=>st.2) (λ_=>True) (Q:=λ_=>True) rfl trivial (λi st y hn _=>?_)) (λq _=>T3)
 obtain⟨a,x⟩:=st
 replace y:x=(i:Int):=y
 show Qo (NT m a x) _
 unfold NT
 refine T1 (λD=>?_) (λ_=>T2 (Qy trivial))
 simp only[QJ,QV]at D
 refine T0 (T4 (by omega) (by omega)) λe _=>?_
 exact T2 (QX ⟨by omega,by subst y;exact QH (by omega) h,trivial⟩)
def QiL {l:QBg}(h:CZ l):∀{a:Int},(∀p∈l,a<=p.1)->∀(i:Nat) (y:i<l.length),a+i<=(l[i]).1:=by
 induction l with
 | nil=>intro a _ i y;simp at y
 | cons p l ih=>
  intro a D i y
  obtain⟨h1,h2⟩:=EJ.1 h
  cases i with
  | zero=>have:=D p YB;simpa using this
  | succ i=>
   have h3:=ih h2 (a:=a+1) (λq hq=>by have:=h1 q hq;have:=D p YB;omega) i (by simpa using y)
   simp only[List.getElem_cons_succ]
   omega
def Qlp {l:QBg}(h:CZ l)(h0:0<l.length){k:Int}(D:0<QY l k):k<=(l[l.length-1]).1:=by
 unfold QY at D
 cases e:Xa l k with
 | none=>rw[e]at D;simp at D
 | some v=>
  obtain⟨j,hj,y⟩:=Bh.1 ((WS h.nd).1 e)
  by_cases c:j=l.length-1
  ·subst c;rw[y];exact Int.le_refl _
  have:=List.pairwise_iff_getElem.1 h j (l.length-1) hj (by omega) (by omega)
  rw[y]at this
  simp only at this
  omega
def Ka (n:Ql)(c:Nat)(m:L_ QBg):Prop:=m.length=n.Places.length/\∀b∈m,Rt b/\b.length<=c
def Ka.mono {n:Ql}{c y:Nat}{m:L_ QBg}(h:Ka n c m)(hc:c<=y):Ka n y m:=⟨h.1,λb D=>⟨(h.2 b D).1,Jx (h.2 b D).2 hc⟩⟩
def Fa (n:Ql)(m:L_ QBg):Prop:=∀(j:Nat) b p,m[j]? = some b->n.Places[j]? = some p->∀k,0<QY b k->∃z,YF n.Colours p.Colour=some z/\k<z
def Qh7 (n1:Ql)(m:L_ QBg)(h:Xp n1)(hm:Xf (Xf λ_=>True) m):Qo (Ex n1 m) λr=>r=true->Ka n1 1024 m/\Fa n1 m:=by
 unfold Ex
 refine T1 (λ_=>T2 λh=>by cases h) λhc=>?_
 have hl:m.length=n1.Places.length:=by simp only[Kj]at hc;omega
 refine T0 (Qo.up m.length (λst=>st) (λst=>∀(j:Nat) (hj:j<m.length),(j:Int)<st->(Rt m[j]/\(m[j]).length<=1024)/\∀p,n1.Places[j]? = some p->∀k,0<QY m[j] k->∃z,YF n1.Colours p.Colour=some z/\k<z) (Q:=λq=>q=.inr ()->(∀b∈m,Rt b/\b.length<=1024)/\Fa n1 m) rfl (λj _ hj=>by omega) (λi st hi hn hJ=>?_)) (λq hq=>?_)
 ·show Qo (Gd m n1 st) _
  unfold Gd
  refine T1 (λhc=>?_) (λhc=>T2 (Qy λ_=>⟨λb hb=>by
   obtain⟨j,hj,rfl⟩:=Bh.1 hb
   simp only[XG]at hc
   exact(hJ j hj (by omega)).1,λj b p hb hp=>by
   obtain⟨hj,rfl⟩:=Xd.1 hb
   simp only[XG]at hc
   exact(hJ j hj (by omega)).2 p hp⟩))
  simp only[QV]at hc
  have y:i<m.length:=by omega
  have hlp:i<n1.Places.length:=by omega
  rw[hi,XQ,QW y,Qg,XQ,QW hlp,Qg]
  refine T0 (UO n1.Colours (n1.Places[i]).Colour h.1).self λsz hsz=>?_
  obtain⟨hze,hsz⟩:=hsz
  have hb:=hm.2 _ (Yp y)
  have hbl:=hb.1
  refine T0 (P:=λr=>r=false->(Rt m[i]/\(m[i]).length<=1024)/\∀k,0<QY m[i] k->k<sz) ?_ λx hx=>?_
  ·unfold Mk
   rw[Sl _ hb.1,Qg]
   refine T1 (λ_=>T2 λh=>by cases h) λhr=>?_
   have D:=GA.1 (by simpa using hr:AX (-1) m[i]=true)
   refine T1 (λh0=>?_) (λh0=>T2 λ_=>⟨⟨D,by simp only[XG]at h0;omega⟩,λk hk=>by
    simp only[XG]at h0
    rw[show m[i]=[]from LZ.1 (by omega)]at hk
    simp[QY,Xa]at hk⟩)
   simp only[QV]at h0
   unfold maxLen at hbl
   rw[Ja (by omega),show((m[i]).length:Int)-1=(((m[i]).length-1:Nat):Int) by omega,XQ,QW (by omega),Qg]
   refine T2 λhf=>?_
   simp only[XG]at hf
   have:=QiL D.1 (a:=0) (λp hp=>(D.2 p hp).1) ((m[i]).length-1) (by omega)
   refine⟨⟨D,by omega⟩,λk hk=>?_⟩
   have:=Qlp D.1 (by omega) hk
   omega
  unfold Ml
  refine T1 (λ_=>T2 (Qy λh=>by cases h)) λhxf=>?_
  refine T2 (QX ⟨y,QH y hm.1,λj hj hjs=>?_⟩)
  rw[QH y hm.1]at hjs
  by_cases c:j=i
  ·subst c
   refine⟨(hx hxf).1,λp hp k hk=>⟨sz,?_,(hx hxf).2 k hk⟩⟩
   rw[QW hlp]at hp
   cases hp
   exact hze
  exact hJ j hj (by omega)
 rcases q with q | q
 ·exact T2 λh=>by cases h
 exact T2 λ_=>⟨⟨hl,(hq rfl).1⟩,(hq rfl).2⟩
structure Yl (n:Ql):Prop where
 k:Xp n
 pl:n.Places.length<=70
 tl:n.Tasks.length<=12
 tk:∀t∈n.Tasks,t.Vars.length<=16/\t.Ins.length<=16/\t.Outs.length<=16/\t.Cancel.length<=16
def Qkf (n1:Ql)(k2:Int)(h:JT n1 k2=some 0):∃t,idx n1.Tasks k2=some t/\t.Vars.length<=16/\t.Ins.length<=16/\t.Outs.length<=16/\t.Cancel.length<=16:=by
 unfold JT at h
 obtain⟨x5,_,h⟩:=Qm h
 rcases Xq h with⟨_,h⟩|⟨_,h⟩
 ·cases h
 obtain⟨x7,_,h⟩:=Qm h
 rcases Xq h with⟨c,h⟩|⟨_,h⟩
 ·simp only[Option.some.injEq]at h;rw[h]at c;cases c
 obtain⟨e9,he9,h⟩:=Qm h
 obtain⟨e10,D,h⟩:=Qm h
 rw[he9]at D;cases D
 obtain⟨_,_,h⟩:=Qm h
 obtain⟨_,_,h⟩:=Qm h
 obtain⟨_,_,h⟩:=Qm h
 obtain⟨_,_,h⟩:=Qm h
 obtain⟨x15,y,h⟩:=Qm h
 have bad:∀a b:Int,0<a->x15=(a,b)->False:=λa b ha e=>by
  subst e
  simp only at h
  rcases Xq h with⟨c,h⟩|⟨_,h⟩
  ·simp only[beq_iff_eq]at c;omega
  simp only[Option.some.injEq]at h;omega
 unfold Dv at y
 obtain⟨x20,_,y⟩:=Qm y
 rcases Xq y with⟨_,y⟩|⟨_,y⟩
 ·exact(bad _ _ (by decide) (Option.some.inj y).symm).elim
 obtain⟨x22,_,y⟩:=Qm y
 rcases Xq y with⟨_,y⟩|⟨_,y⟩
 ·exact(bad _ _ (by decide) (Option.some.inj y).symm).elim
 obtain⟨x24,h24,y⟩:=Qm y
 rcases Xq y with⟨_,y⟩|⟨c,y⟩
 ·exact(bad _ _ (by decide) (Option.some.inj y).symm).elim
 unfold AV at h24
 simp only[Option.some.injEq]at h24
 rw[<-h24]at c
 simp only[Ac,QJ,QV,HF]at c
 exact⟨e9,he9,by omega,by omega,by omega,by omega⟩
def Qdf (D:L_ QT)(n1:Ql)(h:Xp n1)(hl:Xf Ys D):Qo (Kh D n1) λr=>r.2=0->∀(j:Nat),j<D.length->JT n1 j=some 0:=by
 unfold Kh
 refine T0 (Qo.up D.length (λst=>st) (λst=>∀(j:Nat),(j:Int)<st->JT n1 j=some 0) (Q:=λq=>(∀a b,q=.inl (a,b)->b≠0)/\(q=.inr ()->∀(j:Nat),j<D.length->JT n1 j=some 0)) rfl (λj hj=>by omega) (λi st hi hn hJ=>?_)) (λq hq=>?_)
 ·show Qo (Ku D n1 st) _
  unfold Ku
  refine T1 (λy=>?_) (λy=>T2 (Qy ⟨λa b h=>(by cases h),λ_ j hj=>by
   simp only[XG]at y
   exact hJ j (by omega)⟩))
  simp only[QV]at y
  refine T0 (T4 (by omega) (by omega)) λe he=>?_
  refine T0 (P:=λx=>JT n1 st=some x) ?_ λx hx=>?_
  ·unfold BW
   exact T0 (Zi n1 st h).self λx hx=>T2 hx.1
  refine T1 (λy=>T2 (Qy ⟨λa b h=>(by cases h;simpa using y),λh=>(by cases h)⟩)) λy=>?_
  simp only[Kj]at y
  refine T2 (QX ⟨by omega,by rw[hi];exact QH (by omega) hl.1,λj hj=>?_⟩)
  rw[hi,QH (show i<D.length by omega) hl.1]at hj
  by_cases c:j=i
  ·subst c;rw[<-hi,hx,y]
  exact hJ j (by omega)
 rcases q with q | q
 ·exact T2 λh=>absurd h (hq.1 q.1 q.2 rfl)
 exact T2 λ_=>hq.2 rfl
def Qkg (n1:Ql)(h:Xp n1){p:Gb}(y:Ej n1=some (0,p)):∀t∈n1.Tasks,t.Vars.length<=16/\t.Ins.length<=16/\t.Outs.length<=16/\t.Cancel.length<=16:=by
 unfold Ej at y
 obtain⟨x6,_,y⟩:=Qm y
 rcases Xq y with⟨c,y⟩|⟨_,y⟩
 ·simp only[Option.some.injEq,Prod.mk.injEq]at y;rw[y.1]at c;cases c
 obtain⟨x8,_,y⟩:=Qm y
 rcases Xq y with⟨c,y⟩|⟨_,y⟩
 ·simp only[Option.some.injEq,Prod.mk.injEq]at y;rw[y.1]at c;cases c
 obtain⟨x10,_,y⟩:=Qm y
 rcases Xq y with⟨c,y⟩|⟨_,y⟩
 ·simp only[Option.some.injEq,Prod.mk.injEq]at y;rw[y.1]at c;cases c
 obtain⟨x12,D,y⟩:=Qm y
 rcases Xq y with⟨c,y⟩|⟨c,y⟩
 ·simp only[Option.some.injEq,Prod.mk.injEq]at y;rw[y.1]at c;cases c
 simp only[Kj]at c
 obtain⟨r,hr,hr2⟩:=Qdf n1.Tasks n1 h h.2.2.1
 rw[D]at hr;cases hr
 intro t ht
 obtain⟨j,hj,rfl⟩:=Bh.1 ht
 obtain⟨t,h1,h2⟩:=Qkf n1 j (hr2 c j hj)
 rw[XQ,QW hj]at h1
 cases h1
 exact h2
def Qkh (n1:Ql)(m:L_ QBg)(h:Xp n1)(hm:Xf (Xf λ_=>True) m):Qo (AW n1 m) λr=>r=true->Yl n1/\Ka n1 1024 m/\Fa n1 m:=by
 unfold AW
 refine T0 (Qmc n1 h) λx5 h5=>?_
 refine T0 (Qmd m hm.1) λx6 _=>?_
 refine T1 (λ_=>T2 λh=>by cases h) λhc=>?_
 simp only[KL,Ac,XG]at hc
 have h5:=h5 hc.1
 refine T0 (Qhe n1 h).self λx11 h11=>?_
 refine T0 (P:=λr=>r=false->Yl n1/\Ka n1 1024 m/\Fa n1 m) ?_ λx12 h12=>?_
 ·unfold MV
  refine T1 (λ_=>T2 λh=>by cases h) λD=>?_
  simp only[Kj]at D
  refine T0 (Qh7 n1 m h hm) λr hr=>T2 λhrf=>⟨⟨h,h5.2.1,by omega,?_⟩,hr (by simpa using hrf)⟩
  obtain⟨a,b⟩:=x11
  simp only at D
  subst D
  exact Qkg n1 h h11.1
 unfold MX
 refine T1 (λ_=>T2 λh=>by cases h) λhx=>?_
 have hfin:=h12 hx
 refine T6 (P:=λ_=>True) ?_ λ_ _ _=>hfin
 refine T0 (Qo.up n1.Tasks.length (λst=>st.2) (λ_=>True) (Q:=λ_=>True) rfl trivial (λi st hi hn _=>?_)) (λq _=>T3)
 obtain⟨a,x⟩:=st
 replace hi:x=(i:Int):=hi
 show Qo (MW n1 a x) _
 unfold MW
 refine T1 (λhc=>?_) (λ_=>T2 (Qy trivial))
 simp only[QV]at hc
 refine T0 (T4 (by omega) (by omega)) λe _=>?_
 refine T0 (TJ n1 x h) λy _=>?_
 exact T2 (QX ⟨by omega,by subst hi;exact QH (by omega) h.2.2.1.1,trivial⟩)
def QgH (s:YD)(m:Int)(h:0<=s.k/\s.k<s.sizes.length):Qo (Wg s m) λr=>r=true->0<=m:=by
 unfold Wg
 refine T0 (P:=λr=>r=true->0<=m) ?_ λx D=>T2 D
 unfold EP
 refine T1 (λy=>?_) λ_=>T2 λh=>by cases h
 exact T0 (T4 h.1 h.2) λ_ _=>T2 λ_=>by simpa using y
def AZ (s:YD)(h:0<=s.k/\s.k<s.all.length):Qo (KQ s) λ_=>True:=by
 unfold KQ
 exact T0 (T4 h.1 h.2) λ_ _=>T3
def Qlq (l:L_ Xj)(k m:Int)(hl:Xf JW l):Qo (Ge l k m) λ_=>True:=by
 unfold Ge
 refine T0 (BY l k hl) λx D=>?_
 refine T0 (P:=λr=>r=false->x.1=true) ?_ λr hr=>?_
 ·unfold Fu
  refine T1 (λ_=>T2 λh=>by cases h) λy=>?_
  have y:x.1=true:=by simpa using y
  have h:=D.2 y
  exact T0 (QgH x.2 m (by omega)) λ_ _=>T2 λ_=>y
 unfold Fv
 refine T1 (λ_=>T3) λy=>?_
 have h:=D.2 (hr y)
 refine T0 (AZ x.2 (by omega)) λ_ _=>?_
 refine T1 (λ_=>?_) λ_=>T3
 exact T0 (AZ x.2 (by omega)) λ_ _=>T3
def Qlr (l:L_ Xj)(k n:Int)(hl:Xf JW l):Qo (Gf l k n) λr=>r.2=true->0<=r.1:=by
 unfold Gf
 refine T0 (BY l k hl) λx hx=>?_
 refine T1 (λ_=>T2 λh=>by cases h) λD=>?_
 have h:=hx.2 (by simpa using D)
 have k1:∀m,Qo (Kq x m) λr=>r.2=true->0<=r.1:=λm=>by
  unfold Kq
  refine T0 (QgH x.2 m (by omega)) λy hy=>?_
  exact T1 (λ_=>T2 λh=>by cases h) λD=>T2 λ_=>hy (by simpa using D)
 refine T0 (AZ x.2 (by omega)) λ_ _=>?_
 refine T1 (λ_=>?_) λ_=>k1 _
 exact T1 (λ_=>T2 λh=>by cases h) λ_=>k1 _
def Qki (l:L_ Xj)(k n:Int)(hl:Xf JW l):Qo (Gf l k n) λr=>r.2=true->∃z,YF l k=some z/\r.1<z:=by
 unfold Gf YF
 refine T0 (BY l k hl).self λx hx=>?_
 obtain⟨hxe,hx⟩:=hx
 refine T1 (λ_=>T2 λh=>by cases h) λhc=>?_
 have h:=hx.2 (by simpa using hc)
 have hk:k.toNat<x.2.sizes.length:=by omega
 have ei:idx x.2.sizes k=some x.2.sizes[k.toNat]:=Qfd h.1.1 h.1.2
 have k1:∀m,Qo (Kq x m) λr=>r.2=true->∃z,((Ef l k).bind λx5=>bif (!x5.1)then some 0 else(idx x5.2.sizes k).bind λe7=>some e7)=some z/\r.1<z:=λm=>by
  unfold Kq
  refine T0 (P:=λy=>y=true->m<x.2.sizes[k.toNat]) ?_ λy hy=>?_
  ·unfold Wg
   refine T0 (P:=λy=>y=true->m<x.2.sizes[k.toNat]) ?_ λy hy=>T2 hy
   unfold EP
   refine T1 (λ_=>?_) λ_=>T2 λh=>by cases h
   rw[h.2.1,ei,Qg]
   exact T2 λh=>by simpa using h
  refine T1 (λ_=>T2 λh=>by cases h) λD=>T2 λ_=>⟨x.2.sizes[k.toNat],?_,hy (by simpa using D)⟩
  rw[hxe,Qg,hc,QR,ei];rfl
 refine T0 (AZ x.2 (by omega)) λ_ _=>?_
 refine T1 (λ_=>?_) λ_=>k1 _
 exact T1 (λ_=>T2 λh=>by cases h) λ_=>k1 _
def NW {α:Type}{o:O_ α}{P:α->Prop}(h:Qo o P){r:α}(e:o=some r):P r:=by
 obtain⟨r',y,D⟩:=h
 rw[e]at y;cases y;exact D
def Qh8 : ∀(n:Nat) (v:LI_) (e:Qv),Zb v.length e->SizeOf.sizeOf e<=n->Qo (Yo n v e) λ_=>True
 | 0,_,e,_,h=>absurd e.pos (by omega)
 | n+1,v,e,he,h=>by
  cases he with
  | mk _ D h2 h3 h5 h6 hr=>
  unfold Yo HV
  have sub:∀(j:Nat) (hj:j<e.Kids.length),Qo (Yo n v (e.Kids[j])) λ_=>True:=λj hj=>
   Qh8 n v _ (hr _ (Yp hj)) (by have:=QbP (Yp hj);omega)
  have kid:∀(j:Nat) (hj:j<e.Kids.length),idx e.Kids (j:Int)=some e.Kids[j]:=λj hj=>by rw[XQ,QW hj]
  rcases D with D | D | D | D | D | D
  ·refine T0 (P:=λx=>x=.inl v) (by unfold KM;rw[D];exact T2 rfl) λx hx=>?_
   subst hx
   exact T3
  ·refine T0 (P:=λx=>x=.inr (.inl v)) (by unfold KM;rw[D];exact T2 rfl) λx hx=>?_
   subst hx
   show Qo (Uz e v) _
   unfold Uz Cp
   have:=h2 D
   exact T0 (T0 (T4 (by omega) (by omega)) λ_ _=>T3) λ_ _=>T3
  ·refine T0 (P:=λx=>x=.inr (.inr (.inl v))) (by unfold KM Ko;rw[D];exact T2 rfl) λx hx=>?_
   subst hx
   show Qo (Wp (Yo n) e v) _
   unfold Wp Aj
   have hl:=h3 (.inl D)
   refine T0 (P:=λ_=>True) ?_ λ_ _=>T3
   rw[show idx e.Kids 0=some (e.Kids[0]'(by omega))from kid 0 (by omega),Qg]
   refine T0 (sub 0 (by omega)) λx _=>?_
   refine T1 (λ_=>T3) λ_=>T1 (λ_=>T0 (Qb2 _) λ_ _=>T3) λ_=>T0 (IF _ _ _) λ_ _=>T3
  ·refine T0 (P:=λx=>x=.inr (.inr (.inl v))) (by unfold KM Ko;rw[D];exact T2 rfl) λx hx=>?_
   subst hx
   show Qo (Wp (Yo n) e v) _
   unfold Wp Aj
   have hl:=h3 (.inr D)
   refine T0 (P:=λ_=>True) ?_ λ_ _=>T3
   rw[show idx e.Kids 0=some (e.Kids[0]'(by omega))from kid 0 (by omega),Qg]
   refine T0 (sub 0 (by omega)) λx _=>?_
   refine T1 (λ_=>T3) λ_=>T1 (λ_=>T0 (Qb2 _) λ_ _=>T3) λ_=>T0 (IF _ _ _) λ_ _=>T3
  ·refine T0 (P:=λx=>x=.inr (.inr (.inr (.inl v)))) (by unfold KM Ko;rw[D];exact T2 rfl) λx hx=>?_
   subst hx
   show Qo (UA (Yo n) e v) _
   unfold UA NG
   have hl:=h5 D
   refine T0 (P:=λ_=>True) ?_ λ_ _=>T3
   rw[show idx e.Kids 0=some (e.Kids[0]'(by omega))from kid 0 (by omega),Qg]
   refine T0 (sub 0 (by omega)) λx _=>?_
   have k1:∀b,Qo (WN x e (Yo n) v b) λ_=>True:=λb=>by
    unfold WN
    refine T1 (λ_=>T0 (IF _ _ _) λ_ _=>T3) λ_=>?_
    rw[show idx e.Kids 1=some (e.Kids[1]'(by omega))from kid 1 (by omega),Qg]
    refine T0 (sub 1 (by omega)) λy _=>?_
    exact T1 (λ_=>T3) λ_=>T0 (IF _ _ _) λ_ _=>T3
   exact T1 (λ_=>T3) λ_=>T1 (λ_=>k1 _) λ_=>T1 (λ_=>k1 _) λ_=>k1 _
  refine T0 (P:=λx=>x=.inr (.inr (.inr (.inr v)))) (by unfold KM Ko;rw[D];exact T2 rfl) λx hx=>?_
  subst hx
  show Qo (UB (Yo n) e v) _
  unfold UB HU
  have hl:=h6 D
  refine T0 (P:=λ_=>True) ?_ λ_ _=>T3
  rw[show idx e.Kids 0=some (e.Kids[0]'(by omega))from kid 0 (by omega),Qg]
  refine T0 (sub 0 (by omega)) λx _=>?_
  refine T1 (λ_=>T3) λ_=>T1 (λ_=>?_) λ_=>?_
  ·rw[show idx e.Kids 1=some (e.Kids[1]'(by omega))from kid 1 (by omega),Qg]
   exact T0 (sub 1 (by omega)) λy _=>T3
  rw[show idx e.Kids 2=some (e.Kids[2]'(by omega))from kid 2 (by omega),Qg]
  exact T0 (sub 2 (by omega)) λy _=>T3
def Qkj (e:Qv)(v:LI_)(h:Wt e):Qo (Il e v) λ_=>True:=by
 unfold Il
 refine T0 (NV e v.length h) λx D=>?_
 refine T1 (λ_=>T3) λy=>?_
 unfold Mr
 exact T0 (Qh8 _ v e (D (by simpa using y)) (YV _)) λ_ _=>T3
def Qjs (n:Ql)(y:Int)(D:LI_)(h:Yl n):Qo (GK n y D) λr=>r.2=0->0<=y/\y<n.Tasks.length:=by
 unfold GK
 refine T1 (λ_=>T2 λh=>by cases h) λhc=>?_
 simp only[KL,XG]at hc
 refine T0 (T4 (by omega) (by omega)) λe he=>?_
 have hv:=(h.tk e he).1
 have ke:=h.k.2.2.1.2 e he
 refine T1 (λ_=>T2 λh=>by cases h) λhl=>?_
 simp only[Kj]at hl
 refine T0 (T5 (by simp only[QJ,QV];omega)) λ_ _=>?_
 refine T6 (P:=λ_=>True) ?_ λ_ _ _=>by omega
 refine T0 (Qo.up e.Vars.length (λst=>st.1) (λst=>st.2.length=e.Vars.length) (Q:=λ_=>True) rfl (by simp) (λi st hi hn hJ=>?_)) (λq _=>?_)
 ·obtain⟨x,l⟩:=st
  replace hi:x=(i:Int):=hi
  replace hJ:l.length=e.Vars.length:=hJ
  show Qo (BL e D n x l) _
  unfold BL
  refine T1 (λhc=>?_) (λ_=>T2 (Qy trivial))
  simp only[QV]at hc
  refine T0 (T4 (by omega) (by omega)) λa _=>?_
  refine T0 (T4 (by omega) (by omega)) λb _=>?_
  refine T0 (Qlq _ _ _ h.k.1) λc _=>?_
  refine T1 (λ_=>T2 (Qy trivial)) λ_=>?_
  refine T0 (T4 (by omega) (by omega)) λd _=>?_
  exact T2 (QX ⟨by omega,by subst hi;exact QH (by omega) (by unfold maxLen;omega:e.Vars.length<=maxLen),by simpa using hJ⟩)
 rcases q with q | q
 ·exact T3
 exact T3
def Zj {α:Type}{l:L_ α}{i:Nat}{x y:α}(h:y∈l.set i x):y=x\/y∈l:=by
 rcases Zo h with h | h
 ·exact .inr h
 exact .inl h
def Sn (n:Ql)(l:L_ Yd)(D env:LI_)(h:Yl n)(hl:Xf FL l)(hw:D.length<=1000):Qo (WQ n l D env) λr=>r.2=0->Ka n D.length r.1/\Fa n r.1:=by
 unfold WQ
 have hpl:=h.pl
 refine T0 (T5 (by simp only[QJ,QV];omega)) λ_ _=>?_
 refine T0 (Qo.up D.length (λst=>st.1) (λst=>(st.2.length=n.Places.length/\∀b∈st.2,Rt b/\(b.length:Int)<=st.1)/\Fa n st.2) (Q:=λq=>(∀x,q=.inl x->x≠0)/\∀m,q=.inr m->Ka n D.length m/\Fa n m) rfl ⟨⟨by simp,λb hb=>?_⟩,λj b p hb hp k hk=>?_⟩ (λi st hi hn hJ=>?_)) (λq hq=>?_)
 ·have:=Qef hb
  subst this
  exact⟨Rt.nil,by simp⟩
 ·have:=Qef (XP hb)
  subst this
  simp[QY,Xa]at hk
 ·obtain⟨x,m⟩:=st
  replace hi:x=(i:Int):=hi
  obtain⟨⟨hJ1,hJ2⟩,hJ3⟩:(m.length=n.Places.length/\∀b∈m,Rt b/\(b.length:Int)<=x)/\Fa n m:=hJ
  have err:∀y:Int,y≠0->(∀s',(Sum.inr (Sum.inl y):(Int×L_ QBg)⊕(Int⊕L_ QBg))=.inl s'->i<D.length/\s'.1=((i+1:Nat):Int)/\(s'.2.length=n.Places.length/\∀b∈s'.2,Rt b/\(b.length:Int)<=s'.1)/\Fa n s'.2)/\∀r,(Sum.inr (Sum.inl y):(Int×L_ QBg)⊕(Int⊕L_ QBg))=.inr r->(∀x,r=.inl x->x≠0)/\∀m,r=.inr m->Ka n D.length m/\Fa n m:=
   λy hy=>⟨λs' e=>(by cases e),λr e=>(by cases e;exact⟨λx e=>(by cases e;exact hy),λm e=>(by cases e)⟩)⟩
  show Qo (Ll D l env n x m) _
  unfold Ll
  refine T1 (λhc=>?_) (λhc=>T2 (Qy ⟨λx e=>(by cases e),λm' e=>?_⟩))
  ·simp only[QV]at hc
   refine T0 (T4 (by omega) (by omega)) λe18 _=>?_
   refine T1 (λ_=>T2 (err _ (by decide))) λhc1=>?_
   simp only[KL,XG]at hc1
   refine T0 (T4 (by omega) (by omega)) λe22 h22=>?_
   refine T0 (Qkj e22.Expr env (hl.2 e22 h22).2) λx23 _=>?_
   refine T1 (λhc2=>T2 (err _ (by simpa using hc2))) λ_=>?_
   refine T0 (T4 (by omega) (by omega)) λe25 _=>?_
   refine T1 (λ_=>T2 (err _ (by decide))) λhc3=>?_
   simp only[KL,XG]at hc3
   refine T0 (T4 (by omega) (by omega)).self λe29 h29=>?_
   refine T0 (Qlr _ _ _ h.k.1).self λx30 h30=>?_
   refine T1 (λ_=>T2 (err _ (by decide))) λhc4=>?_
   have hz:=NW (Qki _ _ _ h.k.1) h30.1 (by simpa using hc4)
   have h30:=h30.2 (by simpa using hc4)
   refine T0 (T4 (by omega) (by omega)).self λe32 h32e=>?_
   have h32:=h32e.2
   have h32e:=h32e.1
   have h29:=h29.1
   rw[Qfx,QP h30]
   simp only[XE,Qg]
   have hb:=hJ2 e32 h32
   have key:∃s,Jh e32 [(x30.1,1)]=some s/\(s.2=0->(Rt s.1/\s.1.length<=e32.length+1)/\∀k,QY s.1 k=QY e32 k+QY [(x30.1,1)] k):=by
    rcases FO e32 [(x30.1,1)] (by simp;omega)with⟨_,e⟩|⟨_,_,_,e⟩|⟨_,_,r,e,h1,hcn,h2⟩
    ·exact⟨_,e,λh=>by cases h⟩
    ·exact⟨_,e,λh=>by cases h⟩
    exact⟨_,e,λ_=>⟨⟨h1,by simpa using h2⟩,hcn⟩⟩
   obtain⟨s,es,hs⟩:=key
   rw[es,Qg]
   refine T0 (T4 (by omega) (by omega)) λ_ _=>?_
   refine T1 (λhc5=>T2 (err _ (by simpa using hc5))) λhc5=>?_
   obtain⟨hs,hcn⟩:=hs (by simpa using hc5)
   refine T2 (QX ⟨by omega,by subst hi;exact QH (by omega) (by unfold maxLen;omega:D.length<=maxLen),⟨by simpa using hJ1,λb hb'=>?_⟩,λj b p hb' hp k hk=>?_⟩)
   ·subst hi
    show Rt b/\(b.length:Int)<=Qs ((i:Int)+1)
    rw[QH (by omega) (by unfold maxLen;omega:D.length<=maxLen)]
    rcases Zj hb' with rfl | hb'
    ·exact⟨hs.1,by omega⟩
    have:=hJ2 b hb'
    exact⟨this.1,by omega⟩
   have hb':(m.set e25.Place.toNat s.1)[j]? = some b:=hb'
   by_cases cj:e25.Place.toNat=j
   ·subst cj
    rw[Oe (by omega)]at hb'
    cases hb'
    rw[Qcl (by omega)]at h29 h32e
    rw[h29]at hp
    cases hp
    rw[hcn]at hk
    by_cases c0:0<QY e32 k
    ·exact hJ3 _ e32 e29 h32e h29 k c0
    have h9:0<QY [(x30.1,1)] k:=by omega
    have h8:x30.1=k:=by
     apply Decidable.byContradiction
     intro hne
     simp[QY,Xa,hne]at h9
    obtain⟨z,hz1,hz2⟩:=hz
    exact⟨z,hz1,by omega⟩
   rw[LY cj]at hb'
   exact hJ3 j b p hb' hp k hk
  cases e
  exact⟨⟨hJ1,λb hb=>⟨(hJ2 b hb).1,by have:=(hJ2 b hb).2;omega⟩⟩,hJ3⟩
 rcases q with q | q
 ·exact T2 λh=>absurd h (hq.1 q rfl)
 exact T2 λ_=>hq.2 q rfl
def Qh9 (a m:L_ QBg)(D:Xf (Xf λ_=>True) a)(hm:Xf (Xf λ_=>True) m):Qo (BS a m) λ_=>True:=by
 unfold BS Yf
 refine T0 (P:=λ_=>True) ?_ λ_ _=>T3
 refine T1 (λ_=>T3) λh=>?_
 simp only[Kj]at h
 refine T0 (Qo.up a.length (λst=>st) (λ_=>True) (Q:=λ_=>True) rfl trivial (λi st hi hn hJ=>?_)) (λq _=>?_)
 ·show Qo (XZ a m st) _
  unfold XZ
  refine T1 (λh=>?_) (λ_=>T2 (Qy trivial))
  simp only[QV]at h
  refine T0 (T4 (by omega) (by omega)) λx hx=>?_
  refine T0 (T4 (by omega) (by omega)) λy hy=>?_
  refine T0 (P:=λ_=>True) (by obtain⟨r,hr,_⟩:=Qfw x y (D.2 x hx).1 (hm.2 y hy).1;exact⟨r,hr,trivial⟩) λ_ _=>?_
  exact T1 (λ_=>T2 (Qy trivial)) λ_=>T2 (QX ⟨by omega,by rw[hi];exact QH (by omega) D.1,trivial⟩)
 rcases q with q | q
 ·exact T3
 exact T3
def Ka.len {n:Ql}{c:Nat}{m:L_ QBg}(h:Ka n c m)(D:Yl n)(hc:c<=1000000):Xf (Xf λ_=>True) m:=
 ⟨by have:=h.1;have:=D.pl;unfold maxLen;omega,λb y=>⟨by have:=(h.2 b y).2;unfold maxLen;omega,λ_ _=>trivial⟩⟩
structure BOk (n:Ql) (m:List QBg) (b:Xw):Prop where
 net:b.net=n
 mm:b.m=m
 task:b.task∈n.Tasks
def Qme (n:Ql)(m:L_ QBg)(y:Int)(D:LI_)(h:Yl n):Qo (Js n m y D) λr=>r.1=0->BOk n m r.2:=by
 unfold Js
 refine T0 (Qjs n y D h) λx hx=>?_
 refine T1 (λhc=>T2 λh=>absurd h (by simpa using hc)) λhc=>?_
 have:=hx (by simpa using hc)
 exact T0 (T4 this.1 this.2) λe he=>T2 λ_=>⟨rfl,rfl,he⟩
def Qkk (n:Ql)(m:L_ QBg)(b:Xw)(h:Yl n)(y:BOk n m b):Qo (XW b) λ_=>True:=by
 unfold XW
 refine T0 (Qkj _ _ (h.k.2.2.1.2 _ y.task).2.2.1) λx _=>?_
 exact T1 (λ_=>T3) λ_=>T1 (λ_=>T3) λ_=>T3
def Qmf (n:Ql)(m:L_ QBg)(b:Xw)(outs:LI_)(h:Yl n)(y:BOk n m b)(D:outs.length<=1000):Qo (XY b outs) λ_=>True:=by
 unfold XY
 rw[y.net]
 exact T0 (Sn n _ outs _ h (h.k.2.2.1.2 _ y.task).2.2.2.2.2.2.1 D) λx _=>T3
def Qjt (l:LI_)(x:Int)(h:l.length<=maxLen):Qo (Je l x) λ_=>True:=Bg l x ⟨h,λ_ _=>trivial⟩
def Qkl (l:LI_)(h:l.length<=4294967296):Xn l=some l:=by
 unfold Xn
 rw[BD (by simp;omega)];rfl
def Qls (l:LI_)(h:l.length<=4294967296):Kf l=some (GI l):=by
 unfold Kf
 rw[BD (by omega)];rfl
def Qmg (n:Ql)(m:L_ QBg)(b:Xw)(D:LI_)(h:Yl n)(hb:BOk n m b)(hm:Xf (Xf λ_=>True) m)(hi:D.length<=100):Qo (XX b D) λ_=>True:=by
 have ki:=(h.k.2.2.1.2 _ hb.task).2.2.2.2.2.1
 have kl:=(h.tk _ hb.task).2.1
 unfold XX
 rw[hb.net,hb.mm]
 refine T0 (Sn n _ D _ h ki (by omega)) λx hx=>?_
 refine T1 (λ_=>T3) λhc=>?_
 have hx:=hx (by simpa using hc)
 refine T0 (Qh9 _ _ (hx.1.len h (by omega)) hm) λy _=>?_
 refine T1 (λ_=>T3) λ_=>T1 (λ_=>T3) λ_=>?_
 refine T0 (Qo.up b.task.Ins.length (λst=>st) (λ_=>True) (Q:=λ_=>True) rfl trivial (λi st hi hn _=>?_)) (λq _=>?_)
 ·show Qo (UV b D st) _
  unfold UV
  refine T1 (λhc=>?_) (λ_=>T2 (Qy trivial))
  simp only[QV]at hc
  have step:Qo (DG st) λo=>(∀s',o=.inl s'->i<b.task.Ins.length/\s'=((i+1:Nat):Int)/\True)/\∀r:Unit⊕Unit,o=.inr r->True:=
   T2 (QX (ix:=λst=>st) (J:=λ_=>True) (Q:=λ_=>True) ⟨by omega,by rw[hi];exact QH (by omega) ki.1,trivial⟩)
  refine T0 (Qjt D st (by unfold maxLen;omega)) λz _=>?_
  refine T1 (λ_=>step) λ_=>?_
  rw[Qkl D (by omega),Qg]
  refine T0 (T5 (by simp;omega)) λ_ _=>?_
  rw[Qls _ (by simp;omega),Qg]
  refine T0 (T5 (by simp[SY])) λ_ _=>?_
  rw[hb.net]
  refine T0 (Sn n _ _ _ h ki (by rw[SY];simp;omega)) λu hu=>?_
  refine T0 (P:=λ_=>True) ?_ λv _=>?_
  ·unfold Ip
   rw[hb.mm]
   refine T1 (λhc2=>?_) λ_=>T3
   have hu:=hu (by simpa using hc2)
   refine T0 (Qh9 _ _ (hu.1.len h (by rw[SY];simp;omega)) hm) λ_ _=>T3
  unfold Iq
  exact T1 (λ_=>T2 (Qy trivial)) λ_=>step
 rcases q with q | q
 ·exact T3
 exact T3
def Qia (r:L_ LI_):Prop:=r.length<=16/\∀row∈r,row.length<=16
def chB (o:O_ QLL):Bool:=match o with
 | some r=>decide (r.length<=16)&&r.all λrow=>decide (row.length<=16)
 | none=>false
def Qib {o:O_ QLL}(h:chB o=true):Qo o Qia:=by
 cases o with
 | none=>cases h
 | some r=>
  simp only[chB,QJ,QV,XD]at h
  exact T2 h
def Qnd {h:Int}(y:¬h<0)(D:¬16<h):h=0\/h=1\/h=2\/h=3\/h=4\/h=5\/h=6\/h=7\/h=8\/h=9\/h=10\/h=11\/h=12\/h=13\/h=14\/h=15\/h=16:=by omega
set_option maxRecDepth 100000 in
def QgI (D y:Int):Qo (KB D y) Qia:=by
 by_cases hg:((decide (y<0))||((decide (16<y))||((D==3)&&(decide (4<y)))))=true
 ·unfold KB
  rw[hg]
  exact T2 ⟨by simp,λr h=>by cases h⟩
 simp only[Kw,QJ,QV,beq_iff_eq,not_or,not_and]at hg
 obtain⟨h0,h1,h2⟩:=hg
 by_cases e1:D=1
 ·subst e1
  rcases Qnd h0 h1 with rfl | rfl | rfl | rfl | rfl | rfl | rfl | rfl | rfl | rfl | rfl | rfl | rfl | rfl | rfl | rfl | rfl<;>exact Qib (by kernel_rfl)
 by_cases e2:D=2
 ·subst e2
  rcases Qnd h0 h1 with rfl | rfl | rfl | rfl | rfl | rfl | rfl | rfl | rfl | rfl | rfl | rfl | rfl | rfl | rfl | rfl | rfl<;>exact Qib (by kernel_rfl)
 by_cases e3:D=3
 ·subst e3
  have h3:=h2 rfl
  have:y=0\/y=1\/y=2\/y=3\/y=4:=by omega
  rcases this with rfl | rfl | rfl | rfl | rfl<;>exact Qib (by kernel_rfl)
 have f1:(D==1)=false:=by simpa using e1
 have f2:(D==2)=false:=by simpa using e2
 have f3:(D==3)=false:=by simpa using e3
 unfold KB Gy
 rw[f1,f2,f3]
 exact T1 (λ_=>T2 ⟨by simp,λr h=>by cases h⟩) λ_=>T2 ⟨by simp,λr h=>by cases h⟩
def Qmh (a b:LI_)(D:a.length<=maxLen):Qo (Jb a b) λ_=>True:=by
 unfold Jb
 refine T1 (λ_=>T3) λh=>?_
 simp only[Kj]at h
 refine T0 (Qo.up a.length (λst=>st) (λ_=>True) (Q:=λ_=>True) rfl trivial (λi st hi hn hJ=>?_)) (λq _=>?_)
 ·show Qo (JY a b st) _
  unfold JY
  refine T1 (λh=>?_) (λ_=>T2 (Qy trivial))
  simp only[QV]at h
  refine T0 (T4 (by omega) (by omega)) λx hx=>?_
  refine T0 (T4 (by omega) (by omega)) λy hy=>?_
  exact T1 (λ_=>T2 (Qy trivial)) λ_=>T2 (QX ⟨by omega,by rw[hi];exact QH (by omega) D,trivial⟩)
 rcases q with q | q
 ·exact T3
 exact T3
def Qic (y h:Int)(row:LI_):Qo (WR y h row) λ_=>True:=by
 unfold WR Ki Wb
 refine T0 (QgI y h) λx D=>?_
 refine T0 (P:=λ_=>True) ?_ λ_ _=>T3
 refine T0 (P:=λ_=>True) ?_ λ_ _=>T3
 have hl:=D.1
 refine T0 (Qo.up x.length (λst=>st) (λ_=>True) (Q:=λ_=>True) rfl trivial (λi st hi hn hJ=>?_)) (λq _=>?_)
 ·show Qo (YA x row st) _
  unfold YA CI
  refine T1 (λhc=>?_) (λ_=>T2 (Qy trivial))
  simp only[QV]at hc
  refine T0 (T4 (by omega) (by omega)) λe he=>?_
  have:=D.2 e he
  refine T0 (T0 (Qmh e row (by unfold maxLen;omega)) λ_ _=>T3) λ_ _=>?_
  exact T1 (λ_=>T2 (Qy trivial)) λ_=>T2 (QX ⟨by omega,by rw[hi];exact QH (by omega) (by unfold maxLen;omega:x.length<=maxLen),trivial⟩)
 rcases q with q | q
 ·exact T3
 exact T3
def YR (n:Ql)(o:Qr):Prop:=o.Vars.length<=20/\o.Ins.length<=20/\o.Outs.length<=20
def QiM (n:Ql)(m:L_ QBg)(o:Qr)(h:Yl n)(hm:Xf (Xf λ_=>True) m)(ho:YR n o):Qo (Jt n m o) λ_=>True:=by
 unfold Jt
 refine T0 (Qme n m o.Task o.Vars h) λx hx=>?_
 have k3:∀e,(e=0->x.1=0)->Qo (KN x o e) λ_=>True:=λe he=>by
  unfold KN
  refine T1 (λ_=>T3) λD=>?_
  have hb:=hx (he (by simpa using D))
  refine T0 (P:=λ_=>True) ?_ λy _=>?_
  ·unfold CJ
   refine T0 (Qic _ _ _) λz _=>?_
   exact T1 (λ_=>T3) λ_=>T0 (Qic _ _ _) λ_ _=>T3
  unfold CK
  refine T1 (λ_=>T3) λ_=>?_
  refine T0 (Qmg n m x.2 o.Ins h hb hm (by have:=ho.2.1;omega)) λz _=>?_
  refine T1 (λ_=>T3) λ_=>?_
  exact T0 (Qmf n m x.2 o.Outs h hb (by have:=ho.2.2;omega)) λ_ _=>T3
 refine T1 (λD=>?_) λD=>k3 _ λh=>h
 have D:x.1=0:=by simpa using D
 exact T0 (Qkk n m x.2 h (hx D)) λe _=>k3 e λ_=>D
def Zk (n:Ql)(o:Qr)(h:Yl n)(ho:YR n o):Qo (Kr n o) λr=>r.2=0->Ka n 20 r.1/\Fa n r.1:=by
 unfold Kr
 refine T0 (Qjs n o.Task o.Vars h) λx hx=>?_
 refine T1 (λD=>T2 λh=>absurd h (by simpa using D)) λD=>?_
 have:=hx (by simpa using D)
 refine T0 (T4 this.1 this.2) λe he=>?_
 have hl:=ho.2.1
 exact T0 (Sn n _ _ _ h (h.k.2.2.1.2 _ he).2.2.2.2.2.1 (by omega)) λy hy=>T2 λh0=>⟨(hy h0).1.mono hl,(hy h0).2⟩
def Qgq (n:Ql)(o:Qr)(h:Yl n)(ho:YR n o):Qo (Ez n o) λr=>r.2=0->(Ka n 20 r.1/\Fa n r.1)/\0<=o.Task/\o.Task<n.Tasks.length:=by
 unfold Ez
 refine T0 (Qjs n o.Task o.Vars h) λx hx=>?_
 refine T1 (λD=>T2 λh=>absurd h (by simpa using D)) λD=>?_
 have:=hx (by simpa using D)
 refine T0 (T4 this.1 this.2) λe he=>?_
 have hl:=ho.2.2
 exact T0 (Sn n _ _ _ h (h.k.2.2.1.2 _ he).2.2.2.2.2.2.1 (by omega)) λy hy=>T2 λh0=>⟨⟨(hy h0).1.mono hl,(hy h0).2⟩,this⟩
def So (m:L_ QBg)(h:m.length<=4294967296)(hb:∀b∈m,b.length<=4294967296):Ij m=some m:=by
 unfold Ij Jn
 rw[BD (by simp;omega)]
 simp only[Qg,Zp]
 obtain⟨r,h1,h2⟩:=(Qo.up (body:=λst=>He m st.1 st.2) m.length (λst=>st.1) (λst=>st.2=m) (Q:=λq=>q=m) (s0:=(0,m)) rfl rfl (λi st hi hn D=>by
  obtain⟨x,l⟩:=st
  replace hi:x=(i:Int):=hi
  replace D:l=m:=D
  subst D
  show Qo (He l x l) _
  unfold He
  refine T1 (λhc=>?_) (λ_=>T2 (Qy rfl))
  simp only[QV]at hc
  have y:i<l.length:=by omega
  rw[hi,XQ,QW y,Qg]
  unfold YE
  rw[BD (by have:=hb _ (Yp y);simp;omega)]
  simp only[Qg,Zp]
  exact T2 (QX ⟨y,QH y (by unfold maxLen;omega),by simp⟩)))
 rw[h1,h2];rfl
def Qlt (n:Ql)(a b:L_ QBg)(c d:Nat)(h:Yl n)(ha:Ka n c a)(hb:Ka n d b)(hcd:c+d<=1000000):Qo (JH a b) λr=>r.2=0->Ka n (c+d) r.1:=by
 have hpl:=h.pl
 have ha1:=ha.1
 have hb1:=hb.1
 have y:min2 (a.length:Int) (b.length:Int)=(n.Places.length:Int):=by unfold min2;split<;>omega
 unfold JH
 rw[y]
 refine T0 (T5 (by simp only[QJ,QV];omega)) λ_ _=>?_
 refine T0 (Qo.up n.Places.length (λst=>st.1) (λst=>st.2.length=n.Places.length/\∀b∈st.2,Rt b/\b.length<=c+d) (Q:=λq:Int⊕L_ QBg=>(∀x,q=.inl x->x≠0)/\∀m,q=.inr m->Ka n (c+d) m) rfl ⟨by simp,λb hb=>?_⟩ (λi st hi hn hJ=>?_)) (λq hq=>?_)
 ·have:=Qef hb
  subst this
  exact⟨Rt.nil,by simp⟩
 ·obtain⟨x,m⟩:=st
  replace hi:x=(i:Int):=hi
  obtain⟨hJ1,hJ2⟩:m.length=n.Places.length/\∀b∈m,Rt b/\b.length<=c+d:=hJ
  show Qo (Di a b x m) _
  unfold Di
  rw[y]
  refine T1 (λhc=>?_) (λhc=>T2 (Qy ⟨λx e=>(by cases e),λm' e=>(by cases e;exact⟨hJ1,hJ2⟩)⟩))
  simp only[QV,Qcd]at hc
  refine T0 (T4 (by omega) (by omega)) λu hu=>?_
  refine T0 (T4 (by omega) (by omega)) λv hv=>?_
  have hu2:=ha.2 u hu
  have hv2:=hb.2 v hv
  have key:∃s,JG u v=some s/\(s.2=0->Rt s.1/\s.1.length<=c+d):=by
   rcases Pc u v (by omega)with⟨_,e⟩|⟨_,_,_,e⟩|⟨_,_,_,r,e,h1,_,h2⟩
   ·exact⟨_,e,λh=>by cases h⟩
   ·exact⟨_,e,λh=>by cases h⟩
   exact⟨_,e,λ_=>⟨h1,by show r.length<=_;omega⟩⟩
  obtain⟨s,es,hs⟩:=key
  rw[es,Qg]
  refine T0 (T4 (by omega) (by omega)) λ_ _=>?_
  refine T1 (λhc5=>T2 (Qy ⟨λx e=>(by cases e;simpa using hc5),λm' e=>(by cases e)⟩)) λhc5=>?_
  have hs:=hs (by simpa using hc5)
  refine T2 (QX ⟨by omega,by subst hi;exact QH (by omega) (by unfold maxLen;omega:n.Places.length<=maxLen),by simpa using hJ1,λb D=>?_⟩)
  rcases Zj D with rfl | D
  ·exact hs
  exact hJ2 b D
 rcases q with q | q
 ·exact T2 λh=>absurd h (hq.1 q rfl)
 exact T2 λ_=>hq.2 q rfl
def QgJ (n:Ql)(a b:L_ QBg)(c d:Nat)(h:Yl n)(ha:Ka n c a)(hb:Ka n d b)(hcd:c+d<=1000000):Qo (Gq a b) λr=>r.2=0->Ka n (c+d) r.1:=by
 have hpl:=h.pl
 have ha1:=ha.1
 have hb1:=hb.1
 have y:min2 (a.length:Int) (b.length:Int)=(n.Places.length:Int):=by unfold min2;split<;>omega
 unfold Gq
 rw[y]
 refine T0 (T5 (by simp only[QJ,QV];omega)) λ_ _=>?_
 refine T0 (Qo.up n.Places.length (λst=>st.1) (λst=>st.2.length=n.Places.length/\∀b∈st.2,Rt b/\b.length<=c+d) (Q:=λq:Int⊕L_ QBg=>(∀x,q=.inl x->x≠0)/\∀m,q=.inr m->Ka n (c+d) m) rfl ⟨by simp,λb hb=>?_⟩ (λi st hi hn hJ=>?_)) (λq hq=>?_)
 ·have:=Qef hb
  subst this
  exact⟨Rt.nil,by simp⟩
 ·obtain⟨x,m⟩:=st
  replace hi:x=(i:Int):=hi
  obtain⟨hJ1,hJ2⟩:m.length=n.Places.length/\∀b∈m,Rt b/\b.length<=c+d:=hJ
  show Qo (EA a b x m) _
  unfold EA
  rw[y]
  refine T1 (λhc=>?_) (λhc=>T2 (Qy ⟨λx e=>(by cases e),λm' e=>(by cases e;exact⟨hJ1,hJ2⟩)⟩))
  simp only[QV,Qcd]at hc
  refine T0 (T4 (by omega) (by omega)) λu hu=>?_
  refine T0 (T4 (by omega) (by omega)) λv hv=>?_
  have hu2:=ha.2 u hu
  have hv2:=hb.2 v hv
  have key:∃s,Jh u v=some s/\(s.2=0->Rt s.1/\s.1.length<=c+d):=by
   rcases FO u v (by omega)with⟨_,e⟩|⟨_,_,_,e⟩|⟨_,_,r,e,h1,_,h2⟩
   ·exact⟨_,e,λh=>by cases h⟩
   ·exact⟨_,e,λh=>by cases h⟩
   exact⟨_,e,λ_=>⟨h1,by show r.length<=_;omega⟩⟩
  obtain⟨s,es,hs⟩:=key
  rw[es,Qg]
  refine T0 (T4 (by omega) (by omega)) λ_ _=>?_
  refine T1 (λhc5=>T2 (Qy ⟨λx e=>(by cases e;simpa using hc5),λm' e=>(by cases e)⟩)) λhc5=>?_
  have hs:=hs (by simpa using hc5)
  refine T2 (QX ⟨by omega,by subst hi;exact QH (by omega) (by unfold maxLen;omega:n.Places.length<=maxLen),by simpa using hJ1,λb D=>?_⟩)
  rcases Zj D with rfl | D
  ·exact hs
  exact hJ2 b D
 rcases q with q | q
 ·exact T2 λh=>absurd h (hq.1 q rfl)
 exact T2 λ_=>hq.2 q rfl
def Qne (n:Ql)(m:L_ QBg)(o:Qr)(c:Nat)(h:Yl n)(hm:Ka n c m)(D:c<=900000)(ho:YR n o):Qo (UW n m o) λr=>r.2=0->Ka n (c+20) r.1:=by
 unfold UW
 refine T0 (QiM n m o h (hm.len h (by omega)) ho) λx _=>?_
 refine T1 (λD=>T2 λh=>absurd h (by simpa using D)) λ_=>?_
 refine T0 (Zk n o h ho) λy hy=>?_
 refine T1 (λD=>T2 λh=>absurd h (by simpa using D)) λhc2=>?_
 exact T0 (Qlt n m y.1 c 20 h hm (hy (by simpa using hc2)).1 (by omega)) λz hz=>T2 hz
def Qnf (n:Ql)(m:L_ QBg)(o:Qr)(c:Nat)(h:Yl n)(hm:Ka n c m)(hc:c<=900000)(ho:YR n o):Qo (Eg n m o) λr=>r.2=0->Ka n (c+20) r.1:=by
 have hpl:=h.pl
 have hm1:=hm.1
 unfold Eg
 refine T0 (Qgq n o h ho) λy hy=>?_
 refine T1 (λhc=>T2 λh=>absurd h (by simpa using hc)) λhc2=>?_
 obtain⟨⟨hy,_⟩,h1,h2⟩:=hy (by simpa using hc2)
 rw[So m (by omega) (λb hb=>by have:=(hm.2 b hb).2;omega),Qg]
 refine T0 (T4 h1 h2) λe he=>?_
 have hcl:=(h.tk e he).2.2.2
 refine T0 (Qo.up e.Cancel.length (λst=>st.1) (λst=>Ka n c st.2) (Q:=λq=>Ka n c q) rfl hm (λi st hi hn hJ=>?_)) (λq hq=>?_)
 ·obtain⟨x,l⟩:=st
  replace hi:x=(i:Int):=hi
  replace hJ:Ka n c l:=hJ
  show Qo (AN e x l) _
  unfold AN
  refine T1 (λhc=>?_) (λ_=>T2 (Qy hJ))
  simp only[QV]at hc
  refine T0 (T4 (by omega) (by omega)) λk _=>?_
  have next:∀l,Ka n c l->Qo (Dt x l) λo=>(∀s',o=.inl s'->i<e.Cancel.length/\s'.1=((i+1:Nat):Int)/\Ka n c s'.2)/\∀r:L_ QBg,o=.inr r->Ka n c r:=λl hl=>by
   unfold Dt
   exact T2 (QX (ix:=λst:Int×L_ QBg=>st.1) (J:=λst:Int×L_ QBg=>Ka n c st.2) ⟨by omega,by subst hi;exact QH (by omega) (by unfold maxLen;omega:e.Cancel.length<=maxLen),hl⟩)
  refine T1 (λD=>?_) λ_=>next l hJ
  simp only[QJ,QV]at D
  refine T0 (T4 D.1 D.2) λ_ _=>?_
  refine next _ ⟨by simpa using hJ.1,λb hb=>?_⟩
  rcases Zj hb with rfl | hb
  ·exact⟨Rt.nil,by simp⟩
  exact hJ.2 b hb
 show Qo (AO y q) _
 unfold AO
 exact T0 (QgJ n q y.1 c 20 h hq hy (by omega)) λz hz=>T2 hz
abbrev Bag := QBg
def Qju (h:Bag->Bag->O_ (Bag×Int))(a b r:L_ Bag):Prop:=∀(j:Nat) x y,a[j]? = some x->b[j]? = some y->∃z,r[j]? = some z/\h x y=some (z,0)
def Can (h:Bag->Bag->O_ (Bag×Int))(a b:L_ Bag):Prop:=∀(j:Nat) x y,a[j]? = some x->b[j]? = some y->∃z,h x y=some (z,0)
def Ba {α:Type}{l:L_ α}{i:Nat}(h:i<l.length):l[i]? = some l[i]:=QW h
def Qkm {a b r:Bag}(h:a.length+b.length<=8796093022208)(e:Jh a b=some (r,0)):Rt a/\Rt b/\Rt r/\∀k,QY r k=QY a k+QY b k:=by
 rcases FO a b h with⟨_,e'⟩|⟨_,_,_,e'⟩|⟨y,D,r',e',h3,h4,_⟩
 ·rw[e]at e';cases e'
 ·rw[e]at e';cases e'
 rw[e]at e';cases e';exact⟨y,D,h3,h4⟩
def Qmi {a b r:Bag}(h:a.length+b.length<=8796093022208)(e:JG a b=some (r,0)):Rt a/\Rt b/\Rt r/\(∀k,QY b k<=QY a k)/\∀k,QY r k=QY a k-QY b k:=by
 rcases Pc a b h with⟨_,e'⟩|⟨_,_,_,e'⟩|⟨y,D,h5,r',e',h3,h4,_⟩
 ·rw[e]at e';cases e'
 ·rw[e]at e';cases e'
 rw[e]at e';cases e';exact⟨y,D,h3,h5,h4⟩
def Qco {n:Ql}{c:Nat}{m:L_ Bag}(h:Ka n c m){j:Nat}(y:j<n.Places.length):∃b,m[j]? = some b/\Rt b/\b.length<=c:=by
 have:j<m.length:=by have:=h.1;omega
 exact⟨m[j],Ba this,h.2 _ (Yp this)⟩
def QiC (n:Ql)(a b:L_ Bag)(c d:Nat)(h:Yl n)(ha:Ka n c a)(hb:Ka n d b)(hcd:c+d<=1000000):Qo (JH a b) λr=>(r.2=0->r.1.length=n.Places.length/\Qju JG a b r.1)/\(Can JG a b->r.2=0):=by
 have hpl:=h.pl
 have ha1:=ha.1
 have hb1:=hb.1
 have hmin:min2 (a.length:Int) (b.length:Int)=(n.Places.length:Int):=by unfold min2;split<;>omega
 unfold JH
 rw[hmin]
 refine T0 (T5 (by simp only[QJ,QV];omega)) λ_ _=>?_
 refine T0 (Qo.up n.Places.length (λst=>st.1) (λst=>st.2.length=n.Places.length/\∀(j:Nat) x y,(j:Int)<st.1->a[j]? = some x->b[j]? = some y->∃z,st.2[j]? = some z/\JG x y=some (z,0)) (Q:=λq:Int⊕L_ Bag=>(∀x,q=.inl x->x≠0/\¬Can JG a b)/\∀m,q=.inr m->m.length=n.Places.length/\Qju JG a b m) rfl ⟨by simp,λj x y hj=>by omega⟩ (λi st hi hn hJ=>?_)) (λq hq=>?_)
 ·obtain⟨x,m⟩:=st
  replace hi:x=(i:Int):=hi
  obtain⟨hJ1,hJ2⟩:m.length=n.Places.length/\∀(j:Nat) u v,(j:Int)<x->a[j]? = some u->b[j]? = some v->∃z,m[j]? = some z/\JG u v=some (z,0):=hJ
  show Qo (Di a b x m) _
  unfold Di
  rw[hmin]
  refine T1 (λhc=>?_) (λhc=>T2 (Qy ⟨λx e=>(by cases e),λm' e=>(by cases e;exact⟨hJ1,λj u v hu hv=>hJ2 j u v (by
   simp only[XG,Qcd]at hc
   have:=(Xd.1 hu).1
   omega) hu hv⟩)⟩))
  simp only[QV,Qcd]at hc
  have i1:i<a.length:=by omega
  have i2:i<b.length:=by omega
  rw[hi,XQ,Ba i1,Qg,XQ,Ba i2,Qg]
  have hu2:=ha.2 _ (Yp i1)
  have hv2:=hb.2 _ (Yp i2)
  have key:∃s,JG a[i] b[i]=some s:=by
   rcases Pc a[i] b[i] (by omega)with⟨_,e⟩|⟨_,_,_,e⟩|⟨_,_,_,r,e,h1,_,h2⟩
   ·exact⟨_,e⟩
   ·exact⟨_,e⟩
   exact⟨_,e⟩
  obtain⟨s,es⟩:=key
  rw[es,Qg]
  refine T0 (T4 (by omega) (by omega)) λ_ _=>?_
  refine T1 (λD=>T2 (Qy ⟨λx e=>(by cases e;exact⟨by simpa using D,λhcan=>by
   obtain⟨z,hz⟩:=hcan i _ _ (Ba i1) (Ba i2)
   rw[es]at hz
   cases hz
   simp at D⟩),λm' e=>(by cases e)⟩)) λD=>?_
  simp only[Kj]at D
  refine T2 (QX ⟨by omega,QH (by omega) (by unfold maxLen;omega:n.Places.length<=maxLen),by simpa using hJ1,λj u v hj hu hv=>?_⟩)
  have hj:(j:Int)<Qs ((i:Int)+1):=hj
  rw[QH (show i<n.Places.length by omega) (by unfold maxLen;omega)]at hj
  show ∃z,(m.set (i:Int).toNat s.1)[j]? = some z/\_
  by_cases cj:j=i
  ·subst cj
   rw[Ba i1]at hu;rw[Ba i2]at hv
   cases hu;cases hv
   refine⟨s.1,by rw[show((j:Int)).toNat=j from LX j];exact Oe (by omega),?_⟩
   rw[es,<-D]
  obtain⟨z,h1,h2⟩:=hJ2 j u v (by omega) hu hv
  exact⟨z,by rw[LY (by simp;omega)];exact h1,h2⟩
 rcases q with q | q
 ·have:=hq.1 q rfl
  exact T2 ⟨λh=>absurd h this.1,λh=>absurd h this.2⟩
 exact T2 ⟨λ_=>hq.2 q rfl,λ_=>rfl⟩
def Qb3 (n:Ql)(a b:L_ Bag)(c d:Nat)(h:Yl n)(ha:Ka n c a)(hb:Ka n d b)(hcd:c+d<=1000000):Qo (Gq a b) λr=>(r.2=0->r.1.length=n.Places.length/\Qju Jh a b r.1)/\(Can Jh a b->r.2=0):=by
 have hpl:=h.pl
 have ha1:=ha.1
 have hb1:=hb.1
 have hmin:min2 (a.length:Int) (b.length:Int)=(n.Places.length:Int):=by unfold min2;split<;>omega
 unfold Gq
 rw[hmin]
 refine T0 (T5 (by simp only[QJ,QV];omega)) λ_ _=>?_
 refine T0 (Qo.up n.Places.length (λst=>st.1) (λst=>st.2.length=n.Places.length/\∀(j:Nat) x y,(j:Int)<st.1->a[j]? = some x->b[j]? = some y->∃z,st.2[j]? = some z/\Jh x y=some (z,0)) (Q:=λq:Int⊕L_ Bag=>(∀x,q=.inl x->x≠0/\¬Can Jh a b)/\∀m,q=.inr m->m.length=n.Places.length/\Qju Jh a b m) rfl ⟨by simp,λj x y hj=>by omega⟩ (λi st hi hn hJ=>?_)) (λq hq=>?_)
 ·obtain⟨x,m⟩:=st
  replace hi:x=(i:Int):=hi
  obtain⟨hJ1,hJ2⟩:m.length=n.Places.length/\∀(j:Nat) u v,(j:Int)<x->a[j]? = some u->b[j]? = some v->∃z,m[j]? = some z/\Jh u v=some (z,0):=hJ
  show Qo (EA a b x m) _
  unfold EA
  rw[hmin]
  refine T1 (λhc=>?_) (λhc=>T2 (Qy ⟨λx e=>(by cases e),λm' e=>(by cases e;exact⟨hJ1,λj u v hu hv=>hJ2 j u v (by
   simp only[XG,Qcd]at hc
   have:=(Xd.1 hu).1
   omega) hu hv⟩)⟩))
  simp only[QV,Qcd]at hc
  have i1:i<a.length:=by omega
  have i2:i<b.length:=by omega
  rw[hi,XQ,Ba i1,Qg,XQ,Ba i2,Qg]
  have hu2:=ha.2 _ (Yp i1)
  have hv2:=hb.2 _ (Yp i2)
  have key:∃s,Jh a[i] b[i]=some s:=by
   rcases FO a[i] b[i] (by omega)with⟨_,e⟩|⟨_,_,_,e⟩|⟨_,_,r,e,h1,_,h2⟩
   ·exact⟨_,e⟩
   ·exact⟨_,e⟩
   exact⟨_,e⟩
  obtain⟨s,es⟩:=key
  rw[es,Qg]
  refine T0 (T4 (by omega) (by omega)) λ_ _=>?_
  refine T1 (λD=>T2 (Qy ⟨λx e=>(by cases e;exact⟨by simpa using D,λhcan=>by
   obtain⟨z,hz⟩:=hcan i _ _ (Ba i1) (Ba i2)
   rw[es]at hz
   cases hz
   simp at D⟩),λm' e=>(by cases e)⟩)) λD=>?_
  simp only[Kj]at D
  refine T2 (QX ⟨by omega,QH (by omega) (by unfold maxLen;omega:n.Places.length<=maxLen),by simpa using hJ1,λj u v hj hu hv=>?_⟩)
  have hj:(j:Int)<Qs ((i:Int)+1):=hj
  rw[QH (show i<n.Places.length by omega) (by unfold maxLen;omega)]at hj
  show ∃z,(m.set (i:Int).toNat s.1)[j]? = some z/\_
  by_cases cj:j=i
  ·subst cj
   rw[Ba i1]at hu;rw[Ba i2]at hv
   cases hu;cases hv
   refine⟨s.1,by rw[show((j:Int)).toNat=j from LX j];exact Oe (by omega),?_⟩
   rw[es,<-D]
  obtain⟨z,h1,h2⟩:=hJ2 j u v (by omega) hu hv
  exact⟨z,by rw[LY (by simp;omega)];exact h1,h2⟩
 rcases q with q | q
 ·have:=hq.1 q rfl
  exact T2 ⟨λh=>absurd h this.1,λh=>absurd h this.2⟩
 exact T2 ⟨λ_=>hq.2 q rfl,λ_=>rfl⟩
def Qjv {n:Ql}{m t:L_ Bag}{o:Qr}(h:UW n m o=some (t,0)):Jt n m o=some 0/\∃D,Kr n o=some (D,0)/\JH m D=some (t,0):=by
 unfold UW at h
 obtain⟨x,hx,h⟩:=Qm h
 rcases Xq h with⟨c,h⟩|⟨c,h⟩
 ·simp only[Option.some.injEq,Prod.mk.injEq]at h
  rw[h.2]at c;cases c
 simp only[Kj]at c
 subst c
 obtain⟨y,hy,h⟩:=Qm h
 obtain⟨y1,y2⟩:=y
 rcases Xq h with⟨c,h⟩|⟨c,h⟩
 ·simp only[Option.some.injEq,Prod.mk.injEq]at h
  simp only[h.2]at c;cases c
 simp only[Kj]at c
 subst c
 obtain⟨z,hz,h⟩:=Qm h
 obtain⟨z1,z2⟩:=z
 simp only[Option.some.injEq,Prod.mk.injEq]at h
 obtain⟨rfl,rfl⟩:=h
 exact⟨hx,y1,hy,hz⟩
end Go.Proofs
