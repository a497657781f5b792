/- A part of the proof; what it holds is told at each theorem. -/
import Derived.Test.YtphohlpbjofddaaGreatDoorO4XPlA
import Derived.Test.YtphohlpbjofddaaGreatDoorO4V3
import Derived.Test.YtphohlpbjofddaaGreatDoorO4T2
import Derived.KernelRfl
set_option linter.all false
namespace Go.Vm
open Go Go.RowKit
def Qg {α:Type}(o:O_ α)(Q:α->Prop):Prop:=∃r,o=some r/\Q r
section
variable {α β σ ρ:Type}
def Qg.ok {a:α}{Q:α->Prop}(h:Q a):Qg (some a) Q:=⟨a,rfl,h⟩
def Qg.okT {a:α}:Qg (some a) λ_=>True:=⟨a,rfl,trivial⟩
def Qg.bind {o:O_ α}{f:α->O_ β}{P:α->Prop}{Q:β->Prop}(h:Qg o P)(k:∀x,P x->Qg (f x) Q):Qg (o.bind f) Q:=by
 obtain⟨x,rfl,j⟩:=h
 exact k x j
def Qg.bif {c:Bool}{a b:O_ α}{Q:α->Prop}(h:c=true->Qg a Q)(j:c=false->Qg b Q):Qg (bif c then a else b) Q:=by
 cases c with
 | true=>exact h rfl
 | false=>exact j rfl
def Qg.chk {c:Bool}(h:c=true):Qg (chk c) λ_=>True:=⟨(),PA h,trivial⟩
def Qg.idx {l:L_ α}{j:Int}(h:0<=j)(D:j<l.length):Qg (idx l j) λx=>x∈l:=by
 rw[LY h D]
 exact⟨_,rfl,Xs _⟩
def Qg.get {l:L_ α}{j:Nat}(h:j<l.length):Qg (l[j]?) λx=>x∈l:=by
 rw[Qy h]
 exact⟨_,rfl,Xs _⟩
def Qg.sidx {s:ByteArray}{j:Int}(h:0<=j)(D:j<s.size):Qg (sidx s j) λ_=>True:=by
 unfold Vm.sidx
 rw[if_pos h]
 have:j.toNat<s.size:=by omega
 rw[getElem?_pos s j.toNat this]
 exact⟨_,rfl,trivial⟩
def Qg.mono {o:O_ α}{P Q:α->Prop}(h:Qg o P)(k:∀x,P x->Q x):Qg o Q:=let ⟨r,h1,h2⟩:=h;⟨r,h1,k r h2⟩
def Qg.tot {o:O_ α}{P:α->Prop}(h:Qg o P):∃r,o=some r:=let ⟨r,h1,_⟩:=h;⟨r,h1⟩
def Qg.self {o:O_ α}{P:α->Prop}(h:Qg o P):Qg o λx=>o=some x/\P x:=let ⟨r,h1,h2⟩:=h;⟨r,h1,h1,h2⟩
def Qg.up {body:σ->O_ (σ⊕ρ)}(n:Nat)(ix:σ->Int)(J:σ->Prop){Q:ρ->Prop}{s0:σ}(h0:ix s0=0)(hJ:J s0)
  (j:∀(i:Nat) s,ix s=(i:Int)->i<=n->J s->Qg (body s) λo=>(∀h,o=.inl h->i<n/\ix h=((i+1:Nat):Int)/\J h)/\∀r,o=.inr r->Q r):Qg (Qs body s0) Q:=by
 have key:∀k i s,i+k=n->ix s=(i:Int)->J s->∃r,Qs body s=some r/\Q r:=by
  intro k
  induction k with
  | zero=>
   intro i s hk hi hj
   obtain⟨o,ho,D,h2⟩:=j i s hi (by omega) hj
   rw[Yz,ho]
   cases o with
   | inl h=>have:=(D h rfl).1;omega
   | inr r=>exact⟨r,rfl,h2 r rfl⟩
  | succ k ih=>
   intro i s hk hi hj
   obtain⟨o,ho,D,h2⟩:=j i s hi (by omega) hj
   rw[Yz,ho]
   cases o with
   | inl h=>
    obtain⟨_,h3,h4⟩:=D h rfl
    exact ih (i+1) h (by omega) h3 h4
   | inr r=>exact⟨r,rfl,h2 r rfl⟩
 exact key n 0 s0 (by omega) h0 hJ
def QG {s:σ}{n i:Nat}{ix:σ->Int}{J:σ->Prop}{Q:ρ->Prop}(h:i<n/\ix s=((i+1:Nat):Int)/\J s):
  (∀j,(Sum.inl s:σ⊕ρ)=.inl j->i<n/\ix j=((i+1:Nat):Int)/\J j)/\∀r,(Sum.inl s:σ⊕ρ)=.inr r->Q r:=
 ⟨λj e=>(by cases e;exact h),λr e=>(by cases e)⟩
def Qp {r:ρ}{n i:Nat}{ix:σ->Int}{J:σ->Prop}{Q:ρ->Prop}(h:Q r):
  (∀j,(Sum.inr r:σ⊕ρ)=.inl j->i<n/\ix j=((i+1:Nat):Int)/\J j)/\∀D,(Sum.inr r:σ⊕ρ)=.inr D->Q D:=
 ⟨λj e=>(by cases e),λD e=>(by cases e;exact h)⟩
end
def QO {α:Type}(ok:α->Prop)(l:L_ α):Prop:=l.length<=maxLen/\∀x∈l,ok x
def QO.drop {α:Type}{ok:α->Prop}{l:L_ α}(h:QO ok l)(k:Nat):QO ok (l.drop k):=⟨by have:=h.1;rw[Nu];omega,λx j=>h.2 x (Vk j)⟩
def QO.take {α:Type}{ok:α->Prop}{l:L_ α}(h:QO ok l)(k:Nat):QO ok (l.take k):=⟨by have:=h.1;rw[Wm];omega,λx j=>h.2 x (UI j)⟩
def QO.nil {α:Type}{ok:α->Prop}:QO ok ([]:L_ α):=⟨by simp,λx h=>by cases h⟩
def QO.app {α:Type}{ok:α->Prop}{l m:L_ α}(h:QO ok l)(D:QO ok m)(hs:l.length+m.length<=maxLen):QO ok (l++m):=⟨by simpa using hs,λx hx=>by rcases YM.1 hx with j | j;exact h.2 x j;exact D.2 x j⟩
def Es (s:ByteArray):Prop:=s.size<=maxLen
def QmY {s:ByteArray}(h:JF s (⟨#[]⟩:ByteArray)=false):0<s.size:=by
 apply Nat.pos_of_ne_zero
 intro j
 have:s=⟨#[]⟩:=by
  obtain⟨a⟩:=s
  have:a=#[]:=Qlq j
  rw[this]
 subst this
 simp[JF]at h
def IV {a b:Int}:0<=min2 a b↔0<=a/\0<=b:=by unfold min2;split<;>omega
def IW {a b n:Int}:max2 a b<n↔a<n/\b<n:=by unfold max2;split<;>omega
def IX {a b n:Int}:max2 a b<=n↔a<=n/\b<=n:=by unfold max2;split<;>omega
abbrev T0:=@Qg.bind
abbrev T1:=@Qg.bif
abbrev T2:=@Qg.ok
abbrev T3:=@Qg.okT
abbrev T4:=@Qg.idx
abbrev T5:=@Qg.chk
abbrev T6:=@Qg.mono
def DG (l:L_ (Int×Int)):Prop:=l.Pairwise λp q=>p.1<q.1
def PB (l:L_ (Int×Int)):Prop:=l.Pairwise λp q=>p.1≠q.1
def DG.nd {l:L_ (Int×Int)}(h:DG l):PB l:=h.imp λh=>by omega
def WT {p:Int×Int}{l:L_ (Int×Int)}:DG (p::l)↔(∀q∈l,p.1<q.1)/\DG l:=RT
def Qlc {p:Int×Int}{l:L_ (Int×Int)}:PB (p::l)↔(∀q∈l,p.1≠q.1)/\PB l:=RT
def IY {l:L_ (Int×Int)}{k:Int}:QW l k=none↔∀p∈l,p.1≠k:=by
 induction l with
 | nil=>simp[QW]
 | cons p l j=>
  obtain⟨a,x⟩:=p
  rw[XU]
  by_cases h:a=k
  ·simp[h]
  simp[h,j]
def Jt {l:L_ (Int×Int)}(hn:PB l){k v:Int}:QW l k=some v↔(k,v)∈l:=by
 induction l with
 | nil=>simp[QW]
 | cons p l ih=>
  obtain⟨a,x⟩:=p
  obtain⟨j,D⟩:=Qlc.1 hn
  rw[XU]
  by_cases h:a=k
  ·subst h
   rw[if_pos rfl]
   constructor
   ·intro e;cases e;simp
   intro e
   rcases Yt.1 e with e | e
   ·cases e;rfl
   exact absurd rfl (j (a,v) e)
  rw[if_neg h,ih D]
  constructor
  ·intro e;exact Yf _ e
  intro e
  rcases Yt.1 e with e | e
  ·cases e;exact absurd rfl h
  exact e
def QmZ {l m:L_ (Int×Int)}(D:PB l)(h:l.Perm m)(k:Int):QW l k=QW m k:=by
 have hm:PB m:=(h.pairwise_iff (λj=>Ne.symm j)).1 D
 apply Option.ext
 intro v
 rw[Jt D,Jt hm]
 exact h.mem_iff
def asc_ext {l m:L_ (Int×Int)}(hl:DG l)(hm:DG m)(h:∀k,QW l k=QW m k):l=m:=by
 induction l generalizing m with
 | nil=>
  cases m with
  | nil=>rfl
  | cons p m=>have:=h p.1;rw[XU (κ:=Int)]at this;simp[QW]at this
 | cons p l ih=>
  obtain⟨a,x⟩:=p
  cases m with
  | nil=>have:=h a;rw[XU]at this;simp[QW]at this
  | cons q m=>
   obtain⟨b,y⟩:=q
   obtain⟨l1,l2⟩:=WT.1 hl
   obtain⟨m1,m2⟩:=WT.1 hm
   have j:a=b:=by
    rcases Int.lt_trichotomy a b with D | D | D
    ·have e:=h a
     rw[XU,XU,if_pos rfl,if_neg (by omega),IY.2 (λp hp=>by have:=m1 p hp;simp at this;omega)]at e
     cases e
    ·exact D
    have e:=h b
    rw[XU,XU,if_neg (by omega),if_pos rfl,IY.2 (λp hp=>by have:=l1 p hp;simp at this;omega)]at e
    cases e
   subst j
   have e:=h a
   rw[XU,XU,if_pos rfl,if_pos rfl]at e
   cases e
   rw[ih l2 m2 λk=>?_]
   by_cases hk:a=k
   ·subst hk
    rw[IY.2 (λp hp=>by have:=l1 p hp;simp at this;omega),IY.2 (λp hp=>by have:=m1 p hp;simp at this;omega)]
   have:=h k
   rwa[XU,XU,if_neg hk,if_neg hk]at this
def Qpx {l:L_ (Int×Int)}{k v:Int}{p:Int×Int}(h:p∈MA l k v):∃q∈l,q.1=p.1:=by
 induction l with
 | nil=>cases h
 | cons q l ih=>
  obtain⟨a,x⟩:=q
  rw[MA]at h
  split at h
  ·rename_i e
   rcases Yt.1 h with rfl | h
   ·exact⟨_,XQ,e⟩
   exact⟨p,Yf _ h,rfl⟩
  rcases Yt.1 h with rfl | h
  ·exact⟨_,XQ,rfl⟩
  obtain⟨q,j,D⟩:=ih h
  exact⟨q,Yf _ j,D⟩
def Qn5 {lt:Int->Int->Bool}{l:L_ (Int×Int)}{k v:Int}{p:Int×Int}(h:p∈Mz lt l k v):p=(k,v)\/p∈l:=by
 induction l with
 | nil=>simp[Mz]at h;exact .inl h
 | cons q l j=>
  obtain⟨a,x⟩:=q
  rw[Mz]at h
  split at h
  ·rcases Yt.1 h with h | h
   ·exact .inl h
   exact .inr h
  rcases Yt.1 h with h | h
  ·exact .inr (h▸XQ)
  rcases j h with h | h
  ·exact .inl h
  exact .inr (Yf _ h)
def Qkf {l:L_ (Int×Int)}(h:DG l)(k v:Int):DG (Ja FU l k v):=by
 unfold Ja
 split
 ·rename_i x hx
  clear hx
  induction l with
  | nil=>exact h
  | cons p l ih=>
   obtain⟨a,x⟩:=p
   obtain⟨D,h2⟩:=WT.1 h
   rw[MA]
   split
   ·rename_i e;subst e;exact WT.2 ⟨D,h2⟩
   refine WT.2 ⟨λq j=>?_,ih h2⟩
   obtain⟨q',hq',e⟩:=Qpx j
   rw[<-e];exact D _ hq'
 rename_i hn
 induction l with
 | nil=>exact Qgc _ _
 | cons p l ih=>
  obtain⟨a,x⟩:=p
  obtain⟨D,h2⟩:=WT.1 h
  rw[XU]at hn
  split at hn
  ·cases hn
  rename_i hne
  rw[Mz]
  split
  ·rename_i e
   have e:k<a:=Xn e
   refine WT.2 ⟨λq j=>?_,h⟩
   rcases Yt.1 j with rfl | j
   ·exact e
   have:=D q j;simp at this ⊢;omega
  rename_i e
  have e:¬k<a:=λc=>e (QB c)
  refine WT.2 ⟨λq j=>?_,ih h2 hn⟩
  rcases Qn5 j with rfl | j
  ·show a<k;omega
  exact D q j
def Qn6 {l:L_ (Int×Int)}{k v:Int}:(MA l k v).length=l.length:=by
 induction l with
 | nil=>rfl
 | cons p l h=>
  obtain⟨a,x⟩:=p
  rw[MA]
  split
  ·rfl
  simp[h]
def Qn7 {lt:Int->Int->Bool}{l:L_ (Int×Int)}{k v:Int}:(Mz lt l k v).length=l.length+1:=by
 induction l with
 | nil=>rfl
 | cons p l h=>
  obtain⟨a,x⟩:=p
  rw[Mz]
  split
  ·rfl
  simp[h]
def Qn8 {l:L_ (Int×Int)}{k v:Int}:(Ja FU l k v).length<=l.length+1:=by
 unfold Ja
 split
 ·rw[Qn6];omega
 rw[Qn7];exact JE _
def Qn9 {l:L_ (Int×Int)}{k v:Int}(h:DG (l++[(k,v)])):Ja FU l k v=l++[(k,v)]:=by
 have hl:DG l:=(Qga.1 h).1
 refine asc_ext (Qkf hl k v) h λj=>?_
 rw[AM]
 have D:∀p∈l,p.1<k:=λp hp=>(Qga.1 h).2.2 p hp (k,v) (by simp)
 clear h
 induction l with
 | nil=>
  show(if j=k then some v else none)=(if k=j then some v else none)
  by_cases c:j=k
  ·rw[if_pos c,if_pos c.symm]
  rw[if_neg c,if_neg (λe=>c e.symm)]
 | cons p l ih=>
  obtain⟨a,x⟩:=p
  have h1:=D (a,x) XQ
  simp only at h1
  rw[List.cons_append,XU,XU]
  rw[<-ih (WT.1 hl).2 λp hp=>D p (Yf _ hp)]
  by_cases c:j=k
  ·subst c;rw[if_pos rfl,if_pos rfl,if_neg (by omega)]
  rw[if_neg c,if_neg c]
section
variable {ρ:Type}{g:Int->Int->Int}{stop:Int->Bool}{q:O_ ρ}{body:L_ (Int×Int)->Int×Int->O_ (L_ (Int×Int)⊕ρ)}
def QE (s:L_ (Int×Int))(k:Int):Int:=(QW s k).getD 0
def Qdl (g:Int->Int->Int)(s l:L_ (Int×Int))(k:Int):O_ Int:=match QW l k with
 | some v=>some (g (QE s k) v)
 | none=>QW s k
def Qa4 (hb:∀s p,body s p=bif stop (g (QE s p.1) p.2)then q.map Sum.inr else some (.inl (Ja FU s p.1 (g (QE s p.1) p.2)))):
  ∀l s,DG s->PB l->((∃p∈l,stop (g (QE s p.1) p.2)=true)/\WL body s l=q.map Sum.inr)\/
   ((∀p∈l,stop (g (QE s p.1) p.2)=false)/\∃D,WL body s l=some (.inl D)/\DG D/\D.length<=s.length+l.length/\∀k,QW D k=Qdl g s l k):=by
 intro l
 induction l with
 | nil=>intro s hs _;exact .inr ⟨λp h=>(by cases h),s,rfl,hs,by simp,λk=>rfl⟩
 | cons p l ih=>
  intro s hs hl
  obtain⟨h1,h2⟩:=Qlc.1 hl
  simp only[WL,hb]
  cases hst:stop (g (QE s p.1) p.2)with
  | true=>exact .inl ⟨⟨p,XQ,hst⟩,by cases q<;>rfl⟩
  | false=>
   simp only[Qq,Qd,Sum.elim_inl]
   have hc:∀r∈l,QE (Ja FU s p.1 (g (QE s p.1) p.2)) r.1=QE s r.1:=λr j=>by
    unfold QE
    rw[AM,if_neg (λe=>h1 r j e.symm)]
   rcases ih _ (Qkf hs p.1 (g (QE s p.1) p.2)) h2 with⟨⟨r,j,h3⟩,h4⟩|⟨h3,D,h4,h5,h6,h7⟩
   ·exact .inl ⟨⟨r,Yf _ j,by rw[hc r j]at h3;exact h3⟩,h4⟩
   refine .inr ⟨λr j=>?_,D,h4,h5,?_,λk=>?_⟩
   ·rcases Yt.1 j with rfl | j
    ·exact hst
    have:=h3 r j;rwa[hc r j]at this
   ·have:=Qn8 (l:=s) (k:=p.1) (v:=g (QE s p.1) p.2)
    simp;omega
   rw[h7]
   obtain⟨a,x⟩:=p
   unfold Qdl
   rw[XU]
   by_cases e:a=k
   ·subst e
    rw[if_pos rfl,IY.2 (λr j=>Ne.symm (h1 r j)),AM,if_pos rfl]
   rw[if_neg e]
   simp only[QE,AM,if_neg (λe'=>e (Eq.symm e'):¬k=a)]
def Qhc (hb:∀s p,body s p=bif stop (g (QE s p.1) p.2)then q.map Sum.inr else some (.inl (Ja FU s p.1 (g (QE s p.1) p.2)))){l s:L_ (Int×Int)}(hs:DG s)(hl:PB l):
  ((∃p∈l,stop (g (QE s p.1) p.2)=true)/\∀r,q=some r->CX body s l=some (.inr r))\/
   ((∀p∈l,stop (g (QE s p.1) p.2)=false)/\∃s',CX body s l=some (.inl s')/\DG s'/\s'.length<=s.length+l.length/\∀k,QW s' k=Qdl g s l k):=by
 have key:∀l':L_ (Int×Int),l'.Perm l->WL body s l'=WL body s l:=λl' hp=>by
  have D:PB l':=(hp.pairwise_iff (λhab=>Ne.symm hab)).2 hl
  rcases Qa4 hb l' s hs D with⟨⟨p,h,h2⟩,j⟩|⟨h,s1,j,h4,_,h5⟩
  ·rcases Qa4 hb l s hs hl with⟨_,g3⟩|⟨g1,_⟩
   ·rw[j,g3]
   rw[g1 p (hp.mem_iff.1 h)]at h2;cases h2
  rcases Qa4 hb l s hs hl with⟨⟨p,g1,g2⟩,g3⟩|⟨g1,s2,g3,g4,_,g5⟩
  ·rw[h p (hp.mem_iff.2 g1)]at g2;cases g2
  rw[j,g3,asc_ext h4 g4 λk=>?_]
  rw[h5,g5]
  unfold Qdl
  rw[QmZ D hp k]
 rcases Qa4 hb l s hs hl with⟨h,j⟩|⟨h,s1,j,h4,h6,h5⟩
 ·exact .inl ⟨h,λr hr=>Il.2 ⟨key,by rw[j,hr];rfl⟩⟩
 exact .inr ⟨h,s1,Il.2 ⟨key,j⟩,h4,h6,h5⟩
end
def Ql2 {ρ:Type}{bad:Int×Int->Bool}{q:ρ}{body:Unit->Int×Int->O_ (Unit⊕ρ)}(j:∀p,body () p=some (bif bad p then .inr q else .inl ()))(l:L_ (Int×Int)):
  CX body () l=some (bif l.any bad then .inr q else .inl ()):=by
 have h:∀l:L_ (Int×Int),WL body () l=some (bif l.any bad then .inr q else .inl ()):=by
  intro l
  induction l with
  | nil=>rfl
  | cons p l D=>
   simp only[WL,j,Qd,List.any_cons]
   cases bad p with
   | true=>rfl
   | false=>exact D
 refine Il.2 ⟨λl' hp=>?_,h l⟩
 rw[h,h]
 congr 2
 rw[Vf,GX,GX]
 exact⟨λ⟨x,a,b⟩=>⟨x,hp.mem_iff.1 a,b⟩,λ⟨x,a,b⟩=>⟨x,hp.mem_iff.2 a,b⟩⟩
def Ge (a:Int):L_ (Int×Int)->Bool
 | []=>true
 | p::r=>!(decide (p.1<=a)||(decide (p.2<1)||decide (1048576<p.2)))&&Ge p.1 r
def QoQ {a:Int}{l:L_ (Int×Int)}:Ge a l=true↔DG l/\∀p∈l,a<p.1/\1<=p.2/\p.2<=1048576:=by
 induction l generalizing a with
 | nil=>simp[Ge,DG]
 | cons p l ih=>
  rw[Ge,QH,ih,WT]
  simp only[GW,Kn,QV]
  constructor
  ·rintro ⟨⟨D,h2,j⟩,h4,h5⟩
   refine⟨⟨λq h=>(h5 q h).1,h4⟩,λq h=>?_⟩
   rcases Yt.1 h with rfl | h
   ·omega
   have:=h5 q h;omega
  rintro ⟨⟨D,h2⟩,j⟩
  have:=j p XQ
  exact⟨by omega,h2,λq h=>⟨D q h,(j q (Yf _ h)).2⟩⟩
def Rt (l:L_ (Int×Int)):Prop:=DG l/\∀p∈l,0<=p.1/\1<=p.2/\p.2<=1048576
def YF {l:L_ (Int×Int)}:Ge (-1) l=true↔Rt l:=by
 rw[QoQ]
 constructor
 ·rintro ⟨h,j⟩;exact⟨h,λp hp=>by have:=j p hp;omega⟩
 rintro ⟨h,j⟩;exact⟨h,λp hp=>by have:=j p hp;omega⟩
def Rt.nil : Rt []:=⟨List.Pairwise.nil,λp h=>by cases h⟩
def Gz {l:L_ (Int×Int)}(h:PB l){p:Int×Int}(hp:p∈l):QE l p.1=p.2:=by
 unfold QE;rw[(Jt h).2 (show(p.1,p.2)∈l from hp)];rfl
def Rt.cnt {l:L_ (Int×Int)}(h:Rt l)(k:Int):0<=QE l k/\QE l k<=1048576:=by
 unfold QE
 cases e:QW l k with
 | none=>simp
 | some v=>have:=h.2 _ ((Jt h.1.nd).1 e);simp at this ⊢;omega
def Rt.cnt_pos {l:L_ (Int×Int)}(h:Rt l){k:Int}(j:0<QE l k):0<=k:=by
 unfold QE at j
 cases e:QW l k with
 | none=>rw[e]at j;simp at j
 | some v=>exact(h.2 _ ((Jt h.1.nd).1 e)).1
def rt_ext {l m:L_ (Int×Int)}(hl:Rt l)(hm:Rt m)(h:∀k,QE l k=QE m k):l=m:=by
 refine asc_ext hl.1 hm.1 λk=>?_
 have:=h k
 unfold QE at this
 cases D:QW l k with
 | none=>
  cases j:QW m k with
  | none=>rfl
  | some v=>have h3:=hm.2 _ ((Jt hm.1.nd).1 j);rw[D,j]at this;simp at this h3;omega
 | some v=>
  have h3:=hl.2 _ ((Jt hl.1.nd).1 D)
  cases j:QW m k with
  | none=>rw[D,j]at this;simp at this h3;omega
  | some u=>rw[D,j]at this;simpa using this
def HX (l:L_ (Int×Int)):L_ (Int×Int):=l.filter λp=>decide (0<p.2)
def Qkg {l:L_ (Int×Int)}(h:DG l)(k:Int):QE (HX l) k=if 0<QE l k then QE l k else 0:=by
 have hp:DG (HX l):=h.sublist List.filter_sublist
 by_cases c:0<QE l k
 ·rw[if_pos c]
  unfold QE at c
  cases e:QW l k with
  | none=>rw[e]at c;simp at c
  | some v=>
   rw[e]at c
   have j:(k,v)∈HX l:=Mc.2 ⟨(Jt h.nd).1 e,by simpa using c⟩
   unfold QE
   rw[(Jt hp.nd).2 j,e]
 rw[if_neg c]
 unfold QE
 cases e:QW (HX l) k with
 | none=>rfl
 | some v=>
  have j:=Mc.1 ((Jt hp.nd).1 e)
  have D:=(Jt h.nd).2 j.1
  unfold QE at c
  rw[D]at c
  simp at j c;omega
def Qm0 {l:L_ (Int×Int)}(h:DG l)(hb:∀k,0<QE l k->0<=k/\QE l k<=1048576):Rt (HX l):=by
 refine⟨h.sublist List.filter_sublist,λp hp=>?_⟩
 obtain⟨j,D⟩:=Mc.1 hp
 have h3:=Gz h.nd j
 have h4:0<p.2:=Xn D
 have:=hb p.1 (by omega)
 omega
def Qm1 {l:L_ (Int×Int)}(h:DG l):Df (l.map Prod.fst)=l.map Prod.fst:=by
 rw[QaM]
 refine List.mergeSort_of_pairwise ?_
 rw[RU]
 exact h.imp λh=>by simp;omega
def upL : Int->Nat->L_ Int
 | _,0=>[]
 | x,k+1=>x::upL (x+1) k
def binds : L_ Int->L_ (L_ Int)
 | []=>[[]]
 | s::r=>(0::upL 1 (s-1).toNat).flatMap λx=>(binds r).map (x::·)
def YU : L_ Int->L_ Int->L_ (L_ Int)
 | s::r,x::d=>(YU r d).map (x::·)++(upL (x+1) (s-(x+1)).toNat).flatMap λy=>(binds r).map (y::·)
 | _,_=>[]
def Fl (l:L_ Int):L_ Int:=List.replicate l.length 0
def ZB (l:L_ Int):binds l=Fl l::YU l (Fl l):=by
 induction l with
 | nil=>rfl
 | cons s r h=>
  show(0::upL 1 (s-1).toNat).flatMap (λx=>(binds r).map (x::·))=(0::Fl r)::((YU r (Fl r)).map (0::·)++(upL (0+1) (s-(0+1)).toNat).flatMap λy=>(binds r).map (y::·))
  rw[GY,Int.zero_add]
  have:(binds r).map (λx=>(0:Int)::x)=(0::Fl r)::(YU r (Fl r)).map (0::·):=by rw[h];rfl
  rw[this];rfl
def Sg : L_ Int->L_ Int->O_ (L_ Int)
 | s::r,x::d=>match Sg r d with
  | some e=>some (x::e)
  | none=>if x+1<s then some ((x+1)::Fl r)else none
 | _,_=>none
def Qhd : ∀l d:L_ Int,YU l d=match Sg l d with
  | none=>[]
  | some e=>e::YU l e:=by
 intro l
 induction l with
 | nil=>intro d;rfl
 | cons s r j=>
  intro d
  cases d with
  | nil=>rfl
  | cons x d=>
   have h:=j d
   rw[Sg]
   cases e:Sg r d with
   | some e'=>
    rw[e]at h
    simp only[YU,h];rfl
   | none=>
    rw[e]at h
    simp only at h
    simp only[YU,h,List.map_nil,Pl]
    by_cases c:x+1<s
    ·rw[if_pos c]
     rw[show(s-(x+1)).toNat=(s-(x+1+1)).toNat+1 by omega,upL,GY]
     have:(binds r).map (λz=>(x+1)::z)=((x+1)::Fl r)::(YU r (Fl r)).map ((x+1)::·):=by rw[ZB r];rfl
     rw[this];rfl
    rw[if_neg c,show(s-(x+1)).toNat=0 by omega];rfl
def QcM : ∀l d:L_ Int,(∀(j:Nat) x s,d[j]? = some x->l[j]? = some s->¬x+1<s)->Sg l d=none:=by
 intro l
 induction l with
 | nil=>intro d _;cases d<;>rfl
 | cons s r ih=>
  intro d h
  cases d with
  | nil=>rfl
  | cons x d=>
   rw[Sg,ih d λj y z D h2=>h (j+1) y z (by simpa using D) (by simpa using h2)]
   simp only
   rw[if_neg (h 0 x s rfl rfl)]
def Qld : ∀(k:Nat) (l d:L_ Int) (x s:Int),l.length=d.length->d[k]? = some x->l[k]? = some s->x+1<s->(∀(j:Nat) y z,k<j->d[j]? = some y->l[j]? = some z->¬y+1<z)->
  Sg l d=some (d.take k++(x+1)::List.replicate (d.length-(k+1)) 0):=by
 intro k
 induction k with
 | zero=>
  intro l d x s hl h hs D ha
  cases l with
  | nil=>cases hs
  | cons s' r=>
   cases d with
   | nil=>cases h
   | cons x' d=>
    simp only[List.getElem?_cons_zero,Option.some.injEq]at h hs
    subst h;subst hs
    rw[Sg,QcM r d λj y z h1 h2=>ha (j+1) y z (by omega) (by simpa using h1) (by simpa using h2)]
    simp only
    rw[if_pos D]
    simp only[DX]at hl
    simp[Fl];omega
 | succ k ih=>
  intro l d x s hl h hs D ha
  cases l with
  | nil=>cases hs
  | cons s' r=>
   cases d with
   | nil=>cases h
   | cons x' d=>
    simp only[Qam]at h hs
    simp only[DX,Nat.add_right_cancel_iff]at hl
    rw[Sg,ih r d x s hl h hs D λj y z h0 h1 h2=>ha (j+1) y z (by omega) (by simpa using h1) (by simpa using h2)]
    simp
def inB : L_ Int->L_ Int->Prop
 | [],[]=>True
 | s::r,x::d=>0<=x/\(x=0\/x<s)/\inB r d
 | _,_=>False
def QoR {y x:Int}{k:Nat}:y∈upL x k↔x<=y/\y<x+k:=by
 induction k generalizing x with
 | zero=>
  simp only[upL,List.not_mem_nil,false_iff];omega
 | succ k h=>simp only[upL,Yt,h];omega
def Qm2 {l d:L_ Int}:d∈binds l↔inB l d:=by
 induction l generalizing d with
 | nil=>cases d<;>simp[binds,inB]
 | cons s r ih=>
  cases d with
  | nil=>simp[binds,inB]
  | cons x d=>
   simp only[binds,List.mem_flatMap,Yt,QoR,YN,List.cons.injEq,inB,<-ih]
   constructor
   ·rintro ⟨y,j,e,h,rfl,rfl⟩
    exact⟨by omega,by omega,h⟩
   rintro ⟨j,h,D⟩
   exact⟨x,by omega,d,D,rfl,rfl⟩
def QoS {l d:L_ Int}(h:inB l d):d.length=l.length:=by
 induction l generalizing d with
 | nil=>cases d with
  | nil=>rfl
  | cons x d=>exact h.elim
 | cons s r j=>cases d with
  | nil=>exact h.elim
  | cons x d=>simp[j h.2.2]
section
variable {α:Type}
def YI (most:Nat)(h X:L_ α):L_ α⊕L_ α:=if (h++X).length<most then .inr (h++X)else .inl ((h++X).take most)
def Np {most:Nat}{j:L_ α}(h:j.length<most):YI most j []=.inr j:=by
 unfold YI
 rw[Qal,if_pos h]
def Qoa {most:Nat}{j X:L_ α}(h:j.length=most):YI most j X=.inl j:=by
 unfold YI
 rw[if_neg (by simp;omega)]
 subst h
 rw[List.take_left]
def Qob {most:Nat}{h X:L_ α}{x:α}:YI most h (x::X)=YI most (h++[x]) X:=by
 unfold YI
 rw[WD];rfl
def Qdm {most:Nat}{h X Y:L_ α}:YI most h (X++Y)=match YI most h X with
  | .inl a=>.inl a
  | .inr a=>YI most a Y:=by
 unfold YI
 by_cases c:(h++X).length<most
 ·rw[if_pos c]
  simp only[WD]
 rw[if_neg c,if_neg (by simp at c ⊢;omega),<-WD,Qdc (by omega)]
def Qhe {most:Nat}{j X a:L_ α}(h:YI most j X=.inr a):a.length<most:=by
 unfold YI at h
 split at h
 ·cases h;assumption
 cases h
def Qdn {most:Nat}{j X a:L_ α}(h:YI most j X=.inr a):a=j++X:=by
 unfold YI at h
 split at h
 ·cases h;rfl
 cases h
def Qkh {most:Nat}{X:L_ α}(h:0<most):(match YI most [] X with | .inl a=>a | .inr a=>a)=X.take most:=by
 unfold YI
 rw[Pl]
 by_cases c:X.length<most
 ·rw[if_pos c];simp only;rw[KE (by omega)]
 rw[if_neg c]
end
section
variable {M K:Type}[DecidableEq K](key:M->K)(succ:M->L_ M)
def QfM (out:L_ M)(x:M):Bool:=out.any λy=>decide (key y=key x)
def Yq (most:Nat):L_ M->L_ M->L_ M⊕L_ M
 | out,[]=>.inr out
 | out,x::xs=>if QfM key out x then Yq most out xs else if out.length=most then .inl out else Yq most (out++[x]) xs
def Gf (most:Nat):Nat->L_ M->Nat->L_ M×Bool
 | 0,out,_=>(out,true)
 | f+1,out,a=>match out[a]? with
  | none=>(out,true)
  | some x=>match Yq key most out (succ x)with
   | .inl o=>(o,false)
   | .inr o=>Gf most f o (a+1)
variable {key}{succ}
def Ql3 {most:Nat}:∀{xs out o:L_ M},Yq key most out xs=.inr o->out.length<=most->(∃r,o=out++r)/\o.length<=most:=by
 intro xs
 induction xs with
 | nil=>intro out o h j;cases h;exact⟨⟨[],by simp⟩,j⟩
 | cons x xs D=>
  intro out o h j
  rw[Yq]at h
  split at h
  ·exact D h j
  split at h
  ·cases h
  obtain⟨⟨r,hr⟩,h2⟩:=D h (by simp;omega)
  exact⟨⟨x::r,by rw[hr];simp⟩,h2⟩
def Ql4 {most:Nat}:∀{xs out o:L_ M},Yq key most out xs=.inl o->out.length<=most->(∃r,o=out++r)/\o.length=most:=by
 intro xs
 induction xs with
 | nil=>intro out o h j;cases h
 | cons x xs D=>
  intro out o h j
  rw[Yq]at h
  split at h
  ·exact D h j
  split at h
  ·cases h;exact⟨⟨[],by simp⟩,by assumption⟩
  obtain⟨⟨r,hr⟩,h2⟩:=D h (by simp;omega)
  exact⟨⟨x::r,by rw[hr];simp⟩,h2⟩
def Sh (key:M->K)(l:L_ M):Prop:=l.Pairwise λa b=>key a≠key b
def Sh.add {l:L_ M}{x:M}(h:Sh key l)(D:QfM key l x=false):Sh key (l++[x]):=by
 unfold Sh
 rw[Qga]
 refine⟨h,Qgc _ _,λa ha b j=>?_⟩
 rw[Nw]at j
 subst j
 intro e
 have:QfM key l b=true:=GX.2 ⟨a,ha,QB e⟩
 rw[this]at D;cases D
def Qhf {P:M->Prop}{most:Nat}:∀{xs out o:L_ M},(Yq key most out xs=.inl o\/Yq key most out xs=.inr o)->Sh key out->(∀x∈out,P x)->(∀x∈xs,P x)->Sh key o/\∀x∈o,P x:=by
 intro xs
 induction xs with
 | nil=>intro out o h D hp _;rcases h with h | h<;>cases h;exact⟨D,hp⟩
 | cons x xs ih=>
  intro out o h D hp hx
  rw[Yq]at h
  split at h
  ·exact ih h D hp λy j=>hx y (Yf _ j)
  rename_i c
  split at h
  ·rcases h with h | h<;>cases h;exact⟨D,hp⟩
  refine ih h (D.add (by simpa using c)) (λy j=>?_) λy j=>hx y (Yf _ j)
  rcases YM.1 j with j | j
  ·exact hp y j
  simp at j;subst j;exact hx _ XQ
def Qm3 {P:M->Prop}(hs:∀x,P x->∀y∈succ x,P y){most:Nat}:∀(f:Nat) {out:L_ M} {a:Nat},out.length<=most->Sh key out->(∀x∈out,P x)->
  (∃r,(Gf key succ most f out a).1=out++r)/\(Gf key succ most f out a).1.length<=most/\Sh key (Gf key succ most f out a).1/\∀x∈(Gf key succ most f out a).1,P x:=by
 intro f
 induction f with
 | zero=>intro out a j h hp;exact⟨⟨[],by simp[Gf]⟩,j,h,hp⟩
 | succ f ih=>
  intro out a j h hp
  rw[Gf]
  cases ho:out[a]? with
  | none=>exact⟨⟨[],by simp⟩,j,h,hp⟩
  | some x=>
   simp only
   have hx:=hp x (XF ho)
   cases e:Yq key most out (succ x)with
   | inl o=>
    obtain⟨h1,h2⟩:=Ql4 e j
    obtain⟨D,h4⟩:=Qhf (.inl e) h hp (hs x hx)
    exact⟨h1,by simp only;omega,D,h4⟩
   | inr o=>
    obtain⟨⟨r,hr⟩,h2⟩:=Ql3 e j
    obtain⟨D,h4⟩:=Qhf (.inr e) h hp (hs x hx)
    simp only
    obtain⟨⟨r2,hr2⟩,k2⟩:=ih (a:=a+1) h2 D h4
    exact⟨⟨r++r2,by rw[hr2,hr,WD]⟩,k2⟩
end
end Go.Vm
noncomputable section
namespace Go.Proofs
open Go Go.RowKit Go.Vm
inductive KD : Qi->Prop where
 | mk (e:Qi):e.Kids.length<=maxLen->(∀k∈e.Kids,KD k)->KD e
def KO {e:Qi}(h:KD e):QO KD e.Kids:=by
 cases h with
 | mk _ j D=>exact⟨j,D⟩
def PT {e k:Qi}(h:k∈e.Kids):SizeOf.sizeOf k<SizeOf.sizeOf e:=by
 obtain⟨a,b,l⟩:=e
 have:=List.sizeOf_lt_of_mem h
 simp only[Qi.mk.sizeOf_spec]at *
 omega
def Qi.pos (e:Qi):0<SizeOf.sizeOf e:=by
 obtain⟨a,b,l⟩:=e
 simp only[Qi.mk.sizeOf_spec];omega
inductive VZ (v:Int):Qi->Prop where
 | mk (e:Qi):(e.Kind=1\/e.Kind=2\/e.Kind=3\/e.Kind=4\/e.Kind=5\/e.Kind=6)->(e.Kind=2->0<=e.Num/\e.Num<v)->(e.Kind=3\/e.Kind=4->e.Kids.length=1)->(e.Kind=5->e.Kids.length=2)->(e.Kind=6->e.Kids.length=3)->(∀k∈e.Kids,VZ v k)->VZ v e
def YJ (x:QM):Prop:=Es x.Name/\True/\True/\True/\(QO Es) x.Names/\True/\True
def Wk (x:Xh):Prop:=Es x.Name/\True/\(QO (λ_=>True)) x.First
def Gg (x:Yd):Prop:=Es x.Name/\True
def Fm (x:Xk):Prop:=True/\KD x.Expr
def Yo (x:QL):Prop:=Es x.Name/\(QO Gg) x.Vars/\KD x.Guard/\True/\True/\(QO Fm) x.Ins/\(QO Fm) x.Outs/\(QO (λ_=>True)) x.Cancel/\True/\True
def Xl (x:Qn):Prop:=(QO YJ) x.Colours/\(QO Wk) x.Places/\(QO Yo) x.Tasks/\True/\True
def Qjp (x:XZ):Prop:=(QO YJ) x.all/\(QO (λ_=>True)) x.sizes/\True
def Qhg (j:Qn)(h:Xl j):Qg (Fd j) λr=>True:=by
 unfold Fd
 exact T3
def Kv (j:(L_ Xh))(h:Int)(D:(QO Wk) j):Qg (YB j h) λr=>r=true->0<=h/\h<j.length:=by
 unfold YB
 exact T2 (by first | (intro hr;first | (cases hr;done) | omega | ((try simp only[QH,Kh,Kn,GW,Bj,QC,QV,beq_iff_eq,bne_iff_ne,ne_eq,FN,Vg,Ju,FP,Ij,Nu,Wm,DX,IV,IW,IX]at *);omega)) | ((try simp only[QH,Kh,Kn,GW,Bj,QC,QV,beq_iff_eq,bne_iff_ne,ne_eq,FN,Vg,Ju,FP,Ij,Nu,Wm,DX,IV,IW,IX]at *);omega) | simp_all)
def Qhh (j:Qn)(h:Xl j):Qg (Mj j) λr=>True:=by
 unfold Mj
 refine T0 (P:=λ_=>True) ?_ (λx_1 hv2=>?_)
 ·unfold SY
  refine T0 (Kv j.Places j.From (h.2.1)) (λx_3 hv4=>?_)
  refine T1 (λD=>?_) (λD=>?_)
  ·refine T0 (Kv j.Places j.To (h.2.1)) (λx_6 hv7=>?_)
   exact T3
  exact T3
 unfold SZ
 exact T3
def Qhi (j:Qn)(h:Xl j):Qg (Mk j) λr=>True:=by
 unfold Mk
 exact T3
def Qhj (j:Qn)(v2:Int)(v3:Int)(v4:Int)(h:Xl j):Qg (Fe j v2 v3 v4) λr=>True:=by
 unfold Fe
 refine T0 (Qhg j (h)) (λx_1 hv2=>?_)
 refine T1 (λD=>?_) (λD=>?_)
 ·exact T3
 refine T0 (Qhh j (h)) (λx_4 hv5=>?_)
 refine T1 (λhc6=>?_) (λhc6=>?_)
 ·exact T3
 refine T0 (Qhi j (h)) (λx_7 hv8=>?_)
 refine T1 (λhc9=>?_) (λhc9=>?_)
 ·exact T3
 exact T3
def Qhk (D:Int)(j:Int)  : Qg (Ag D j) λr=>True:=by
 unfold Ag
 refine T1 (λh=>?_) (λh=>?_)
 ·exact T3
 exact T3
def RI (h:Int)  : Qg (Ed h) λr=>True:=by
 unfold Ed
 exact T3
def AO (s1:ByteArray)(h_s1:Es s1):Qg (WF s1) λr=>True:=by
 unfold WF
 refine T0 (P:=λ_=>True) ?_ (λx_1 hv2=>?_)
 ·unfold Cq
  refine T1 (λhc3=>?_) (λhc3=>?_)
  ·exact T3
  have hshc3:=QmY hc3
  refine T1 (λhc4=>?_) (λhc4=>?_)
  ·exact T3
  refine T0 (Qg.sidx (by omega) (by omega)) (λc_5 hv6=>?_)
  refine T0 (RI c_5 ) (λx_7 hv8=>?_)
  exact T3
 unfold MH
 refine T1 (λhc9=>?_) (λhc9=>?_)
 ·exact T3
 refine T0 (Qg.up (s1.size) (λst=>st) (λ_=>True) (Q:=λq=>True) rfl trivial (λi11 st h hn13 hj14=>?_)) (λD hq16=>?_)
 ·obtain⟨j,hst⟩:∃y,y=st:=⟨_,rfl⟩
  subst hst
  replace h:j=(i11:Int):=h
  show Qg (Gh s1 j) _
  unfold Gh
  refine T1 (λhc17=>?_) (λhc17=>?_)
  ·refine T0 (Qg.sidx (by omega) (by simp_all)) (λc_18 hv19=>?_)
   refine T0 (P:=λ_=>True) ?_ (λx_20 hv21=>?_)
   ·unfold MC
    refine T0 (RI c_18 ) (λx_22 hv23=>?_)
    refine T1 (λhc24=>?_) (λhc24=>?_)
    ·refine T1 (λhc25=>?_) (λhc25=>?_)
     ·exact T3
     refine T1 (λhc26=>?_) (λhc26=>?_)
     ·exact T3
     exact T3
    exact T3
   unfold ME
   refine T1 (λhc27=>?_) (λhc27=>?_)
   ·exact T2 (Qp trivial)
   exact T2 (QG ⟨(by simp_all),by subst h;exact Qr (by simp_all) h_s1,trivial⟩)
  exact T2 (Qp trivial)
 rcases D with D | D
 ·show Qg (MF) _
  unfold MF
  exact T3
 show Qg (MG) _
 unfold MG
 exact T3
def QfN (l1:(L_ ByteArray))(j:(QO Es) l1):Qg (Ue l1) λr=>True:=by
 unfold Ue
 refine T0 (Qg.up (l1.length) (λst=>st.1) (λ_=>True) (Q:=λq=>True) rfl trivial (λi3 st D hn5 hj6=>?_)) (λq7 hq8=>?_)
 ·obtain⟨x_1,m_2⟩:=st
  replace D:x_1=(i3:Int):=D
  show Qg (We l1 x_1 m_2) _
  unfold We
  refine T1 (λhc9=>?_) (λhc9=>?_)
  ·refine T0 (T4 (by omega) (by simp_all)) (λh hv11=>?_)
   refine T0 (P:=λ_=>True) ?_ (λx_12 hv13=>?_)
   ·unfold Lh
    refine T0 (AO h (((j).2 h hv11))) (λx_14 hv15=>?_)
    refine T1 (λhc16=>?_) (λhc16=>?_)
    ·exact T3
    exact T3
   unfold Li
   refine T1 (λhc17=>?_) (λhc17=>?_)
   ·exact T2 (Qp trivial)
   exact T2 (QG ⟨(by simp_all),by subst D;exact Qr (by simp_all) (j).1,trivial⟩)
  exact T2 (Qp trivial)
 rcases q7 with q7 | q7
 ·show Qg (Lj) _
  unfold Lj
  exact T3
 show Qg (Lk) _
 unfold Lk
 exact T3
def Qhl (D:QM)(h:(L_ Int))(h_c1:YJ D)(j:(QO (λ_=>True)) h):Qg (Ah D h) λr=>True:=by
 unfold Ah
 refine T1 (λhc1=>?_) (λhc1=>?_)
 ·refine T0 (Qhk D.Lo D.Hi ) (λx_2 hv3=>?_)
  exact T3
 refine T1 (λhc4=>?_) (λhc4=>?_)
 ·refine T0 (QfN D.Names (h_c1.2.2.2.2.1)) (λx_5 hv6=>?_)
  refine T1 (λhc7=>?_) (λhc7=>?_)
  ·exact T3
  unfold WM
  exact T3
 refine T1 (λhc8=>?_) (λhc8=>?_)
 ·refine T1 (λhc9=>?_) (λhc9=>?_)
  ·refine T0 (T4 (by(try simp only[QH,Kh,Kn,GW,Bj,QC,QV,beq_iff_eq,bne_iff_ne,ne_eq,FN,Vg,Ju,FP,Ij,Nu,Wm,DX,IV,IW,IX]at *);omega) (by(try simp only[QH,Kh,Kn,GW,Bj,QC,QV,beq_iff_eq,bne_iff_ne,ne_eq,FN,Vg,Ju,FP,Ij,Nu,Wm,DX,IV,IW,IX]at *);omega)) (λe_10 hv11=>?_)
   refine T0 (T4 (by(try simp only[QH,Kh,Kn,GW,Bj,QC,QV,beq_iff_eq,bne_iff_ne,ne_eq,FN,Vg,Ju,FP,Ij,Nu,Wm,DX,IV,IW,IX]at *);omega) (by(try simp only[QH,Kh,Kn,GW,Bj,QC,QV,beq_iff_eq,bne_iff_ne,ne_eq,FN,Vg,Ju,FP,Ij,Nu,Wm,DX,IV,IW,IX]at *);omega)) (λe_12 hv13=>?_)
   exact T3
  unfold WM
  exact T3
 unfold WM
 exact T3
def TL (j:(L_ QM))(D:(QO YJ) j):Qg (Gi j) λr=>((QO (λ_=>True)) r.1/\True)/\(r.2=true->r.1.length=j.length/\∀x∈r.1,1<=x/\x<=1024):=by
 unfold Gi
 refine T1 (λhc=>T2 ⟨⟨QO.nil,trivial⟩,λh=>by cases h⟩) (λhc=>?_)
 have hl:j.length<=32:=by simp only[QV]at hc;omega
 refine T0 (Qg.up j.length (λst=>st.1) (λst=>(st.2.2.length:Int)=st.1/\∀x∈st.2.2,1<=x/\x<=1024) (Q:=λq=>∀l,q=.inr l->l.length=j.length/\∀x∈l,1<=x/\x<=1024) rfl ⟨rfl,λx h=>(by cases h)⟩ (λi st hi hn hj=>?_)) (λq hq=>?_)
 ·obtain⟨x,m,l⟩:=st
  replace hi:x=(i:Int):=hi
  replace hj:(l.length:Int)=x/\∀x∈l,1<=x/\x<=1024:=hj
  obtain⟨hj,hj2⟩:=hj
  show Qg (Wf j x m l) _
  unfold Wf
  refine T1 (λhc2=>?_) (λhc2=>?_)
  ·simp only[QC]at hc2
   refine T0 (T4 (by omega) (by omega)) λe he=>?_
   refine T0 (Qhl e l (D.2 e he) ⟨by unfold maxLen;omega,λ_ _=>trivial⟩) λy _=>?_
   refine T0 (P:=λz=>z=false->1<=y/\y<=1024) ?_ λz hz=>?_
   ·unfold Ll
    refine T0 (AO e.Name (D.2 e he).1) λz _=>?_
    refine T1 (λ_=>T2 (λh=>by cases h)) λ_=>T1 (λ_=>T2 (λh=>by cases h)) λ_=>T1 (λ_=>T2 (λh=>by cases h)) λh1=>T2 λh2=>?_
    simp only[QV]at h1 h2
    omega
   unfold Lm
   refine T1 (λ_=>T2 (Qp λl h=>by cases h)) λhz0=>?_
   refine T0 (T5 (by simp;omega)) λ_ _=>?_
   exact T2 (QG ⟨by omega,by subst hi;exact Qr (by omega) (by unfold maxLen;omega:j.length<=maxLen),by simp only[Ju,FP];subst hi;rw[Qr (show i<j.length by omega) (by unfold maxLen;omega)];omega,λu hu=>by
    rcases YM.1 hu with hu | hu
    ·exact hj2 u hu
    simp at hu;subst hu;exact hz hz0⟩)
  simp only[QV]at hc2
  exact T2 (Qp λl' h=>by cases h;exact⟨by omega,hj2⟩)
 rcases q with q | q
 ·exact T2 ⟨⟨QO.nil,trivial⟩,λh=>by cases h⟩
 have:=hq q rfl
 exact T2 ⟨⟨⟨by show q.length<=maxLen;unfold maxLen;omega,λ_ _=>trivial⟩,trivial⟩,λ_=>this⟩
def QfO (j:(L_ QM))(h:(QO YJ) j):Qg (IB j) λr=>True:=by
 unfold IB
 refine T0 (TL j (h)) (λx_1 D=>?_)
 exact T3
def Qaa (D:Qn)(j:Int)(h:Xl D)(hp0:0<=j)(hp1:j<D.Colours.length):Qg (UL D j) λr=>True:=by
 have hl:=h.1.1
 unfold maxLen at hl
 unfold UL
 rw[Xv (show -9223372036854775808<=j+1/\j+1<=9223372036854775807 by omega)]
 refine T0 (T5 (by simp only[QH,QC];omega)) λ_ _=>?_
 exact T0 (QfO _ ((h.1.drop _).take _)) λx _=>T3
def Qhm : L_ ByteArray:=(Ff).getD []
set_option maxRecDepth 100000 in
def Qoc : Ff=some Qhm:=by kernel_rfl
set_option maxRecDepth 100000 in
def Qk2 : (decide (Qhm.length<=1000)&&Qhm.all λs=>decide (s.size<=1000))=true:=by kernel_rfl
def Qhn : Qg (Ff) λr=>QO Es r:=by
 have h:=Qk2
 rw[QH,decide_eq_true_iff,XD]at h
 refine⟨Qhm,Qoc,by unfold maxLen;omega,λx j=>?_⟩
 have:=h.2 x j
 rw[decide_eq_true_iff]at this
 unfold Es maxLen;omega
def OD (s1:(L_ ByteArray))(v2:ByteArray)(j:(QO Es) s1)(h_v2:Es v2):Qg (KX s1 v2) λr=>True:=by
 unfold KX
 refine T0 (Qg.up (s1.length) (λst=>st) (λ_=>True) (Q:=λq=>True) rfl trivial (λi2 st h hn4 hj5=>?_)) (λq6 hq7=>?_)
 ·obtain⟨x_1,hst⟩:∃y,y=st:=⟨_,rfl⟩
  subst hst
  replace h:x_1=(i2:Int):=h
  show Qg (Di s1 v2 x_1) _
  unfold Di
  refine T1 (λhc8=>?_) (λhc8=>?_)
  ·refine T0 (T4 (by omega) (by simp_all)) (λe_9 hv10=>?_)
   refine T1 (λD=>?_) (λD=>?_)
   ·exact T2 (Qp trivial)
   exact T2 (QG ⟨(by simp_all),by subst h;exact Qr (by simp_all) (j).1,trivial⟩)
  exact T2 (Qp trivial)
 rcases q6 with q6 | q6
 ·show Qg (Dj q6) _
  unfold Dj
  exact T3
 show Qg (Dk) _
 unfold Dk
 exact T3
def LZ (D:(L_ ByteArray))(v2:ByteArray)(h:(QO Es) D)(j:Es v2):Qg (Kj D v2) λr=>True:=by
 unfold Kj
 refine T0 (OD D v2 (h) (j)) (λx_1 hv2=>?_)
 exact T3
def Qit (D:ByteArray)(h:Es D):Qg (Oi D) λr=>True:=by
 unfold Oi
 refine T0 (Qhn  ) (λx_1 j=>?_)
 refine T0 (LZ x_1 D (j) (h)) (λx_3 hv4=>?_)
 exact T3
def BY (j:ByteArray)(h:Es j):Qg (GR j) λr=>True:=by
 unfold GR
 refine T0 (P:=λ_=>True) ?_ (λx_1 hv2=>?_)
 ·unfold VC
  refine T0 (AO j (h)) (λx_3 hv4=>?_)
  refine T1 (λD=>?_) (λD=>?_)
  ·refine T0 (Qit j (h)) (λx_6 hv7=>?_)
   exact T3
  exact T3
 unfold VD
 exact T3
def TY (j:ByteArray)(h:Es j):Qg (Eg j) λr=>True:=by
 unfold Eg
 refine T0 (BY j (h)) (λx_1 D=>?_)
 exact T3
def LE (s1:(L_ ByteArray))(h:(QO Es) s1):Qg (JY s1) λr=>True:=by
 unfold JY
 refine T0 (Qg.up (s1.length) (λst=>st) (λ_=>True) (Q:=λq=>True) rfl trivial (λi2 st j hn4 hj5=>?_)) (λq6 hq7=>?_)
 ·obtain⟨x_1,hst⟩:∃y,y=st:=⟨_,rfl⟩
  subst hst
  replace j:x_1=(i2:Int):=j
  show Qg (KY s1 x_1) _
  unfold KY
  refine T1 (λhc8=>?_) (λhc8=>?_)
  ·refine T0 (T4 (by omega) (by simp_all)) (λD hv10=>?_)
   refine T0 (TY D (((h).2 D hv10))) (λx_11 hv12=>?_)
   refine T1 (λhc13=>?_) (λhc13=>?_)
   ·exact T2 (Qp trivial)
   exact T2 (QG ⟨(by simp_all),by subst j;exact Qr (by simp_all) (h).1,trivial⟩)
  exact T2 (Qp trivial)
 rcases q6 with q6 | q6
 ·show Qg (KZ q6) _
  unfold KZ
  exact T3
 show Qg (Wa) _
 unfold Wa
 exact T3
def Hy (j:(L_ ByteArray))(h:(QO Es) j):Qg (Jp j) λr=>True:=by
 unfold Jp
 refine T0 (LE j (h)) (λx_1 D=>?_)
 exact T3
def Qab (j:QM)(h:YJ j):Qg (UM j) λr=>True:=by
 unfold UM
 refine T0 (P:=λ_=>True) ?_ (λx_1 hv2=>?_)
 ·unfold LT
  refine T0 (BY j.Name (h.1)) (λx_3 hv4=>?_)
  refine T1 (λD=>?_) (λD=>?_)
  ·refine T1 (λhc6=>?_) (λhc6=>?_)
   ·exact T3
   refine T0 (Hy j.Names (h.2.2.2.2.1)) (λx_7 hv8=>?_)
   exact T3
  exact T3
 unfold LU
 exact T3
def QcN (D:Qn)(v2:Int)(v3:Int)(v4:QM)(v5:Int)(h:Xl D)(j:YJ v4)(hp0:0<=v2)(hp1:v2<D.Colours.length):Qg (Cu D v2 v3 v4 v5) λr=>True:=by
 unfold Cu
 refine T0 (Qaa D v2 (h) (by omega) (by omega)) (λx_1 hv2=>?_)
 refine T1 (λhc3=>?_) (λhc3=>?_)
 ·exact T3
 refine T0 (Qab v4 (j)) (λx_4 hv5=>?_)
 refine T1 (λhc6=>?_) (λhc6=>?_)
 ·exact T3
 exact T3
def QbV (D:Int)(c2:QM)(v3:Qn)(h:YJ c2)(j:Xl v3)(hp0:0<=D)(hp1:D<v3.Colours.length):Qg (Bt D c2 v3) λr=>True:=by
 unfold Bt
 refine T0 (QcN v3 D 8 c2 8 (j) (h) (by omega) (by omega)) (λx_1 hv2=>?_)
 exact T3
def Si (l1:(L_ QM))(v2:Qn)(h:(QO YJ) l1)(h_v2:Xl v2)(hp0:l1.length<=v2.Colours.length):Qg (DY l1 v2) λr=>True:=by
 unfold DY
 refine T0 (Qg.up (l1.length) (λst=>st) (λ_=>True) (Q:=λq=>True) rfl trivial (λi2 st j hn4 hj5=>?_)) (λq6 hq7=>?_)
 ·obtain⟨D,hst⟩:∃y,y=st:=⟨_,rfl⟩
  subst hst
  replace j:D=(i2:Int):=j
  show Qg (Ey l1 v2 D) _
  unfold Ey
  refine T1 (λhc8=>?_) (λhc8=>?_)
  ·refine T0 (T4 (by omega) (by simp_all)) (λe_9 hv10=>?_)
   refine T0 (QbV D e_9 v2 (((h).2 e_9 hv10)) (h_v2) (by omega) (by simp_all;omega)) (λx_11 hv12=>?_)
   refine T1 (λhc13=>?_) (λhc13=>?_)
   ·exact T2 (Qp trivial)
   exact T2 (QG ⟨(by simp_all),by subst j;exact Qr (by simp_all) (h).1,trivial⟩)
  exact T2 (Qp trivial)
 rcases q6 with q6 | q6
 ·show Qg (Ez q6.1 q6.2) _
  unfold Ez
  exact T3
 show Qg (EA) _
 unfold EA
 exact T3
def RJ (n1:Qn)(h:Xl n1):Qg (AC n1) λr=>True:=by
 unfold AC
 refine T0 (Si n1.Colours n1 (h.1) (h) (by omega)) (λD j=>?_)
 exact T3
def Qea (j:Xh)(h:Wk j):Qg (FY j) λr=>True:=by
 unfold FY
 refine T0 (BY j.Name (h.1)) (λx_1 D=>?_)
 exact T3
def Qeb (D:Xh)(v2:Xh)(h:Wk D)(j:Wk v2):Qg (FZ D v2) λr=>True:=by
 unfold FZ
 exact T3
def CR (s1:(L_ Xh))(v2:Xh)(h:(QO Wk) s1)(h_v2:Wk v2):Qg (YS s1 v2) λr=>True:=by
 unfold YS
 refine T0 (Qg.up (s1.length) (λst=>st) (λ_=>True) (Q:=λq=>True) rfl trivial (λi2 st j hn4 hj5=>?_)) (λq6 hq7=>?_)
 ·obtain⟨x_1,hst⟩:∃y,y=st:=⟨_,rfl⟩
  subst hst
  replace j:x_1=(i2:Int):=j
  show Qg (JI s1 v2 x_1) _
  unfold JI
  refine T1 (λhc8=>?_) (λhc8=>?_)
  ·refine T0 (T4 (by omega) (by simp_all)) (λD hv10=>?_)
   refine T0 (Qeb D v2 (((h).2 D hv10)) (h_v2)) (λx_11 hv12=>?_)
   refine T1 (λhc13=>?_) (λhc13=>?_)
   ·exact T2 (Qp trivial)
   exact T2 (QG ⟨(by simp_all),by subst j;exact Qr (by simp_all) (h).1,trivial⟩)
  exact T2 (Qp trivial)
 rcases q6 with q6 | q6
 ·show Qg (JJ q6) _
  unfold JJ
  exact T3
 show Qg (JK) _
 unfold JK
 exact T3
def Bi (D:(L_ Xh))(v2:Xh)(h:(QO Wk) D)(j:Wk v2):Qg (YD D v2) λr=>True:=by
 unfold YD
 refine T0 (CR D v2 (h) (j)) (λx_1 hv2=>?_)
 exact T3
def Qec (D:Qn)(v2:Int)(v3:Xh)(h:Xl D)(j:Wk v3)(hp0:0<=v2)(hp1:v2<D.Places.length):Qg (Ha D v2 v3) λr=>True:=by
 unfold Ha
 refine T0 (T5 (by simp_all;omega)) (λ_ _=>?_)
 refine T0 (Bi ((D.Places.drop 0).take (v2.toNat-0)) v3 (((h.2.1).drop _).take _) (j)) (λx_1 hv2=>?_)
 exact T3
def Fo (j:(L_ QM))(D:Int)(h:(QO YJ) j):Qg (KL j D) λr=>True:=by
 unfold KL
 exact T3
def Qed (j:Qn)(D:Xh)(h:Xl j)(h_v2:Wk D):Qg (Hb j D) λr=>True:=by
 unfold Hb
 refine T0 (Fo j.Colours D.Colour (h.1)) (λx_1 hv2=>?_)
 exact T3
def Qjq (b1:QBg)(D:(QO (λ_=>True)) b1):Qg (GE b1) λr=>True:=by
 unfold GE
 refine T0 (Qg.up (b1.length) (λst=>st.2) (λ_=>True) (Q:=λq=>True) rfl trivial (λi3 st j hn5 hj6=>?_)) (λq7 hq8=>?_)
 ·obtain⟨h,x_2⟩:=st
  replace j:x_2=(i3:Int):=j
  show Qg (WW b1 h x_2) _
  unfold WW
  refine T1 (λhc9=>?_) (λhc9=>?_)
  ·refine T0 (T4 (by omega) (by simp_all)) (λe_10 hv11=>?_)
   refine T1 (λhc12=>?_) (λhc12=>?_)
   ·exact T2 (Qp trivial)
   exact T2 (QG ⟨(by simp_all),by subst j;exact Qr (by simp_all) (D).1,trivial⟩)
  exact T2 (Qp trivial)
 rcases q7 with q7 | q7
 ·show Qg (OO) _
  unfold OO
  exact T3
 show Qg (OP) _
 unfold OP
 exact T3
def Qee (j:Xh)(h:Wk j):Qg (Hc j) λr=>True:=by
 unfold Hc
 refine T0 (Qjq j.First (h.2.2)) (λx_1 D=>?_)
 exact T3
def Fp (l1:(L_ QM))(D:Int)(j:(QO YJ) l1):Qg (Ww l1 D) λr=>(True/\Qjp r.2)/\(r.1=true->(0<=D/\D<r.2.sizes.length)/\r.2.k=D/\r.2.all.length=r.2.sizes.length/\∀x∈r.2.sizes,1<=x/\x<=1024):=by
 unfold Ww
 refine T0 (TL l1 j) λx hx=>?_
 refine T1 (λ_=>T2 ⟨⟨trivial,QO.nil,QO.nil,trivial⟩,λh=>by cases h⟩) λhc=>?_
 simp only[Kn,Bj,QV]at hc
 have:=hx.2 hc.1
 exact T2 ⟨⟨trivial,j,hx.1.1,trivial⟩,λ_=>⟨⟨by omega,by show D<(x.1.length:Int);omega⟩,rfl,this.1.symm,this.2⟩⟩
def Wq (D:(L_ QM))(k2:Int)(j:(QO YJ) D):Qg (Yl D k2) λr=>0<=r/\r<=1024:=by
 unfold Yl
 refine T0 (Fp D k2 j) (λx hx=>?_)
 refine T1 (λhc=>T2 (by omega)) (λhc=>?_)
 have h:=hx.2 (by simpa using hc)
 exact T0 (T4 (by omega) (by omega)) λe he=>T2 (by have:=h.2.2.2 e he;omega)
def QbW (h:(Int×Int))(j:Int)  : Qg (Bu h j) λr=>True:=by
 unfold Bu
 exact T3
def LF (s1:QBg)(v2:Int)(j:(QO (λ_=>True)) s1):Qg (JZ s1 v2) λr=>True:=by
 unfold JZ
 refine T0 (Qg.up (s1.length) (λst=>st) (λ_=>True) (Q:=λq=>True) rfl trivial (λi2 st h hn4 hj5=>?_)) (λq6 hq7=>?_)
 ·obtain⟨x_1,hst⟩:∃y,y=st:=⟨_,rfl⟩
  subst hst
  replace h:x_1=(i2:Int):=h
  show Qg (Wb s1 v2 x_1) _
  unfold Wb
  refine T1 (λhc8=>?_) (λhc8=>?_)
  ·refine T0 (T4 (by omega) (by simp_all)) (λe_9 hv10=>?_)
   refine T0 (QbW e_9 v2 ) (λx_11 hv12=>?_)
   refine T1 (λD=>?_) (λD=>?_)
   ·exact T2 (Qp trivial)
   exact T2 (QG ⟨(by simp_all),by subst h;exact Qr (by simp_all) (j).1,trivial⟩)
  exact T2 (Qp trivial)
 rcases q6 with q6 | q6
 ·show Qg (Wc q6) _
  unfold Wc
  exact T3
 show Qg (Wd) _
 unfold Wd
 exact T3
def Hz (j:QBg)(D:Int)(h:(QO (λ_=>True)) j):Qg (Jq j D) λr=>True:=by
 unfold Jq
 refine T0 (LF j D (h)) (λx_1 hv2=>?_)
 exact T3
def Qef (v1:Qn)(D:Xh)(h:Xl v1)(j:Wk D):Qg (Hd v1 D) λr=>True:=by
 unfold Hd
 refine T0 (Wq v1.Colours D.Colour (h.1)) (λx_1 hv2=>?_)
 refine T0 (Hz D.First x_1 (j.2.2)) (λx_3 hv4=>?_)
 exact T3
def QcO (D:Xh)(v2:Int)(v3:Qn)(v4:Int)(v5:Int)(v6:Int)(v7:Int)(v8:Int)(h:Wk D)(j:Xl v3)(hp0:0<=v4)(hp1:v4<v3.Places.length):Qg (Cv D v2 v3 v4 v5 v6 v7 v8) λr=>True:=by
 unfold Cv
 refine T0 (Qea D (h)) (λx_1 hv2=>?_)
 refine T1 (λhc3=>?_) (λhc3=>?_)
 ·exact T3
 refine T0 (Qec v3 v4 D (j) (h) (by omega) (by omega)) (λx_4 hv5=>?_)
 refine T1 (λhc6=>?_) (λhc6=>?_)
 ·exact T3
 refine T0 (Qed v3 D (j) (h)) (λx_7 hv8=>?_)
 refine T1 (λhc9=>?_) (λhc9=>?_)
 ·exact T3
 refine T0 (Qee D (h)) (λx_10 hv11=>?_)
 refine T1 (λhc12=>?_) (λhc12=>?_)
 ·exact T3
 refine T0 (Qef v3 D (j) (h)) (λx_13 hv14=>?_)
 refine T1 (λhc15=>?_) (λhc15=>?_)
 ·exact T3
 exact T3
def Qho (n1:Qn)(k2:Int)(h:Xl n1):Qg (Ml n1 k2) λr=>True:=by
 unfold Ml
 refine T0 (Kv n1.Places k2 (h.2.1)) (λx_1 hv2=>?_)
 refine T1 (λD=>?_) (λD=>?_)
 ·exact T3
 refine T0 (T4 (by simp_all) (by simp_all)) (λj hv5=>?_)
 refine T0 (QcO j 1 n1 k2 5 3 1 8 (((h.2.1).2 j hv5)) (h) (by simp_all) (by simp_all)) (λx_6 hv7=>?_)
 exact T3
def Qhp (D:Int)(p2:Xh)(v3:Qn)(j:Wk p2)(h:Xl v3):Qg (Mm D p2 v3) λr=>True:=by
 unfold Mm
 refine T0 (Qho v3 D (h)) (λx_1 hv2=>?_)
 exact T3
def TM (l1:(L_ Xh))(v2:Qn)(h:(QO Wk) l1)(h_v2:Xl v2):Qg (GG l1 v2) λr=>True:=by
 unfold GG
 refine T0 (Qg.up (l1.length) (λst=>st) (λ_=>True) (Q:=λq=>True) rfl trivial (λi2 st j hn4 hj5=>?_)) (λq6 hq7=>?_)
 ·obtain⟨D,hst⟩:∃y,y=st:=⟨_,rfl⟩
  subst hst
  replace j:D=(i2:Int):=j
  show Qg (EV l1 v2 D) _
  unfold EV
  refine T1 (λhc8=>?_) (λhc8=>?_)
  ·refine T0 (T4 (by omega) (by simp_all)) (λe_9 hv10=>?_)
   refine T0 (Qhp D e_9 v2 (((h).2 e_9 hv10)) (h_v2)) (λx_11 hv12=>?_)
   refine T1 (λhc13=>?_) (λhc13=>?_)
   ·exact T2 (Qp trivial)
   exact T2 (QG ⟨(by simp_all),by subst j;exact Qr (by simp_all) (h).1,trivial⟩)
  exact T2 (Qp trivial)
 rcases q6 with q6 | q6
 ·show Qg (EW q6.1 q6.2) _
  unfold EW
  exact T3
 show Qg (EX) _
 unfold EX
 exact T3
def HY (j:(L_ QL))(h:Int)(D:(QO Yo) j):Qg (Jl j h) λr=>r=true->0<=h/\h<j.length:=by
 unfold Jl
 exact T2 (by first | (intro hr;first | (cases hr;done) | omega | ((try simp only[QH,Kh,Kn,GW,Bj,QC,QV,beq_iff_eq,bne_iff_ne,ne_eq,FN,Vg,Ju,FP,Ij,Nu,Wm,DX,IV,IW,IX]at *);omega)) | ((try simp only[QH,Kh,Kn,GW,Bj,QC,QV,beq_iff_eq,bne_iff_ne,ne_eq,FN,Vg,Ju,FP,Ij,Nu,Wm,DX,IV,IW,IX]at *);omega) | simp_all)
def Qhq (v1:Int)(D:Qn)(v3:QL)(h:Xl D)(j:Yo v3):Qg (Mn v1 D v3) λr=>True:=by
 unfold Mn
 exact T3
def QcP (v1:Int)(D:Qn)(v3:QL)(v4:Int)(h:Xl D)(j:Yo v3):Qg (Cw v1 D v3 v4) λr=>True:=by
 unfold Cw
 exact T3
def QcQ (v1:Int)(D:Qn)(v3:QL)(v4:Int)(h:Xl D)(j:Yo v3):Qg (Cx v1 D v3 v4) λr=>True:=by
 unfold Cx
 exact T3
def QcR (v1:Int)(D:Qn)(v3:QL)(h:Xl D)(j:Yo v3):Qg (Cy v1 D v3) λr=>True:=by
 unfold Cy
 exact T3
def QfP (j:QL)(h:Yo j):Qg (IF j) λr=>True:=by
 unfold IF
 refine T0 (BY j.Name (h.1)) (λx_1 D=>?_)
 exact T3
def QfQ (D:QL)(v2:QL)(h:Yo D)(j:Yo v2):Qg (IG D v2) λr=>True:=by
 unfold IG
 exact T3
def FL (s1:(L_ QL))(v2:QL)(h:(QO Yo) s1)(h_v2:Yo v2):Qg (Ji s1 v2) λr=>True:=by
 unfold Ji
 refine T0 (Qg.up (s1.length) (λst=>st) (λ_=>True) (Q:=λq=>True) rfl trivial (λi2 st j hn4 hj5=>?_)) (λq6 hq7=>?_)
 ·obtain⟨x_1,hst⟩:∃y,y=st:=⟨_,rfl⟩
  subst hst
  replace j:x_1=(i2:Int):=j
  show Qg (Kd s1 v2 x_1) _
  unfold Kd
  refine T1 (λhc8=>?_) (λhc8=>?_)
  ·refine T0 (T4 (by omega) (by simp_all)) (λD hv10=>?_)
   refine T0 (QfQ D v2 (((h).2 D hv10)) (h_v2)) (λx_11 hv12=>?_)
   refine T1 (λhc13=>?_) (λhc13=>?_)
   ·exact T2 (Qp trivial)
   exact T2 (QG ⟨(by simp_all),by subst j;exact Qr (by simp_all) (h).1,trivial⟩)
  exact T2 (Qp trivial)
 rcases q6 with q6 | q6
 ·show Qg (Ke q6) _
  unfold Ke
  exact T3
 show Qg (Kf) _
 unfold Kf
 exact T3
def Cd (D:(L_ QL))(v2:QL)(h:(QO Yo) D)(j:Yo v2):Qg (YO D v2) λr=>True:=by
 unfold YO
 refine T0 (FL D v2 (h) (j)) (λx_1 hv2=>?_)
 exact T3
def QfR (D:Qn)(v2:Int)(v3:QL)(h:Xl D)(j:Yo v3)(hp0:0<=v2)(hp1:v2<D.Tasks.length):Qg (IH D v2 v3) λr=>True:=by
 unfold IH
 refine T0 (T5 (by simp_all;omega)) (λ_ _=>?_)
 refine T0 (Cd ((D.Tasks.drop 0).take (v2.toNat-0)) v3 (((h.2.2.1).drop _).take _) (j)) (λx_1 hv2=>?_)
 exact T3
def QfS (D:Int)(j:QL)(h:Yo j):Qg (BQ D j) λr=>True:=by
 unfold BQ
 exact T3
def TZ (j:Yd)(h:Gg j):Qg (Eh j) λr=>True:=by
 unfold Eh
 refine T0 (BY j.Name (h.1)) (λx_1 D=>?_)
 exact T3
def Va (D:Yd)(v2:Yd)(h:Gg D)(j:Gg v2):Qg (Ei D v2) λr=>True:=by
 unfold Ei
 exact T3
def HZ (s1:(L_ Yd))(v2:Yd)(h:(QO Gg) s1)(h_v2:Gg v2):Qg (Jz s1 v2) λr=>True:=by
 unfold Jz
 refine T0 (Qg.up (s1.length) (λst=>st) (λ_=>True) (Q:=λq=>True) rfl trivial (λi2 st j hn4 hj5=>?_)) (λq6 hq7=>?_)
 ·obtain⟨x_1,hst⟩:∃y,y=st:=⟨_,rfl⟩
  subst hst
  replace j:x_1=(i2:Int):=j
  show Qg (Kx s1 v2 x_1) _
  unfold Kx
  refine T1 (λhc8=>?_) (λhc8=>?_)
  ·refine T0 (T4 (by omega) (by simp_all)) (λD hv10=>?_)
   refine T0 (Va D v2 (((h).2 D hv10)) (h_v2)) (λx_11 hv12=>?_)
   refine T1 (λhc13=>?_) (λhc13=>?_)
   ·exact T2 (Qp trivial)
   exact T2 (QG ⟨(by simp_all),by subst j;exact Qr (by simp_all) (h).1,trivial⟩)
  exact T2 (Qp trivial)
 rcases q6 with q6 | q6
 ·show Qg (Ky q6) _
  unfold Ky
  exact T3
 show Qg (Kz) _
 unfold Kz
 exact T3
def Fq (D:(L_ Yd))(v2:Yd)(h:(QO Gg) D)(j:Gg v2):Qg (YV D v2) λr=>True:=by
 unfold YV
 refine T0 (HZ D v2 (h) (j)) (λx_1 hv2=>?_)
 exact T3
def Vb (D:(L_ Yd))(v2:Int)(v3:Yd)(h:(QO Gg) D)(j:Gg v3)(hp0:0<=v2)(hp1:v2<D.length):Qg (Ej D v2 v3) λr=>True:=by
 unfold Ej
 refine T0 (T5 (by simp_all;omega)) (λ_ _=>?_)
 refine T0 (Fq ((D.drop 0).take (v2.toNat-0)) v3 (((h).drop _).take _) (j)) (λx_1 hv2=>?_)
 exact T3
def Vc (j:Qn)(D:Yd)(h:Xl j)(h_v2:Gg D):Qg (Ek j D) λr=>True:=by
 unfold Ek
 refine T0 (Fo j.Colours D.Colour (h.1)) (λx_1 hv2=>?_)
 exact T3
def QcS (v1:Yd)(v2:Int)(v3:(L_ Yd))(v4:Int)(v5:Int)(v6:Qn)(v7:Int)(h:Gg v1)(j:(QO Gg) v3)(D:Xl v6)(hp0:0<=v4)(hp1:v4<v3.length):Qg (CA v1 v2 v3 v4 v5 v6 v7) λr=>True:=by
 unfold CA
 refine T0 (TZ v1 (h)) (λx_1 hv2=>?_)
 refine T1 (λhc3=>?_) (λhc3=>?_)
 ·exact T3
 refine T0 (Vb v3 v4 v1 (j) (h) (by omega) (by omega)) (λx_4 hv5=>?_)
 refine T1 (λhc6=>?_) (λhc6=>?_)
 ·exact T3
 refine T0 (Vc v6 v1 (D) (h)) (λx_7 hv8=>?_)
 refine T1 (λhc9=>?_) (λhc9=>?_)
 ·exact T3
 exact T3
def Qac (k1:Int)(v2:Yd)(v3:(L_ Yd))(v4:Qn)(h:Gg v2)(j:(QO Gg) v3)(D:Xl v4)(hp0:0<=k1)(hp1:k1<v3.length):Qg (UN k1 v2 v3 v4) λr=>True:=by
 unfold UN
 refine T0 (QcS v2 1 v3 k1 5 v4 3 (h) (j) (D) (by omega) (by omega)) (λx_1 hv2=>?_)
 exact T3
def ZC (l1:(L_ Yd))(v2:(L_ Yd))(v3:Qn)(h:(QO Gg) l1)(h_v2:(QO Gg) v2)(h_v3:Xl v3)(hp0:l1.length<=v2.length):Qg (EY l1 v2 v3) λr=>True:=by
 unfold EY
 refine T0 (Qg.up (l1.length) (λst=>st) (λ_=>True) (Q:=λq=>True) rfl trivial (λi2 st j hn4 hj5=>?_)) (λq6 hq7=>?_)
 ·obtain⟨D,hst⟩:∃y,y=st:=⟨_,rfl⟩
  subst hst
  replace j:D=(i2:Int):=j
  show Qg (US l1 v2 v3 D) _
  unfold US
  refine T1 (λhc8=>?_) (λhc8=>?_)
  ·refine T0 (T4 (by omega) (by simp_all)) (λe_9 hv10=>?_)
   refine T0 (Qac D e_9 v2 v3 (((h).2 e_9 hv10)) (h_v2) (h_v3) (by omega) (by simp_all;omega)) (λx_11 hv12=>?_)
   refine T1 (λhc13=>?_) (λhc13=>?_)
   ·exact T2 (Qp trivial)
   exact T2 (QG ⟨(by simp_all),by subst j;exact Qr (by simp_all) (h).1,trivial⟩)
  exact T2 (Qp trivial)
 rcases q6 with q6 | q6
 ·show Qg (UT q6.1 q6.2) _
  unfold UT
  exact T3
 show Qg (UU) _
 unfold UU
 exact T3
def QbX (n1:Qn)(D:(L_ Yd))(j:Xl n1)(h:(QO Gg) D):Qg (Bv n1 D) λr=>True:=by
 unfold Bv
 refine T0 (ZC D D n1 (h) (h) (j) (by omega)) (λx_1 hv2=>?_)
 exact T3
def QfT (D:Qn)(v2:QL)(h:Xl D)(j:Yo v2):Qg (II D v2) λr=>True:=by
 unfold II
 refine T0 (QbX D v2.Vars (h) (j.2.1)) (λx_1 hv2=>?_)
 exact T3
def Qeg (D:Qn)(v2:QL)(v3:Int)(h:Xl D)(j:Yo v2):Qg (AD D v2 v3) λr=>True:=by
 unfold AD
 refine T0 (QfT D v2 (h) (j)) (λx_1 hv2=>?_)
 exact T3
def Za (n1:Qn)(k2:Int)(h:Xl n1):Qg (WJ n1 k2) λr=>True:=by
 unfold WJ
 refine T0 (HY n1.Tasks k2 (h.2.2.1)) (λx_1 hv2=>?_)
 refine T1 (λhc3=>?_) (λhc3=>?_)
 ·exact T3
 refine T0 (T4 (by simp_all) (by simp_all)) (λD hv5=>?_)
 refine T0 (Qg.up (D.Vars.length) (λst=>st.2) (λ_=>True) (Q:=λq=>True) rfl trivial (λi8 st hi9 hn10 hj11=>?_)) (λj hq13=>?_)
 ·obtain⟨out_6,x_7⟩:=st
  replace hi9:x_7=(i8:Int):=hi9
  show Qg (Ux D n1 out_6 x_7) _
  unfold Ux
  refine T1 (λhc14=>?_) (λhc14=>?_)
  ·refine T0 (T4 (by omega) (by simp_all)) (λe_15 hv16=>?_)
   refine T0 (Wq n1.Colours e_15.Colour (h.1)) (λx_17 hv18=>?_)
   refine T1 (λhc19=>?_) (λhc19=>?_)
   ·exact T2 (Qp trivial)
   exact T2 (QG ⟨(by simp_all),by subst hi9;exact Qr (by simp_all) (((h.2.2.1).2 D hv5).2.1).1,trivial⟩)
  exact T2 (Qp trivial)
 rcases j with j | j
 ·show Qg (MV) _
  unfold MV
  exact T3
 show Qg (MW j) _
 unfold MW
 exact T3
def QfU (j:Qn)(D:Int)(h:Xl j):Qg (BR j D) λr=>True:=by
 unfold BR
 refine T0 (Za j D (h)) (λx_1 hv2=>?_)
 exact T3
def Qjr (h:Int):Qg (LN h) λr=>0<=r->(h=1\/h=2\/h=3\/h=4\/h=5\/h=6)/\(h=3\/h=4->r=1)/\(h=5->r=2)/\(h=6->r=3):=by
 unfold LN
 refine T1 (λj=>?_) (λj=>?_)
 ·unfold Ug;rw[j]
  simp only[beq_iff_eq]at j
  exact T2 (by omega)
 simp only[beq_eq_false_iff_ne]at j
 unfold Ug
 refine T1 (λj=>T2 (by simp only[beq_iff_eq]at j;omega)) (λhc2=>?_)
 simp only[beq_eq_false_iff_ne]at hc2
 refine T1 (λD=>?_) (λD=>?_)
 ·unfold Uf;rw[D]
  simp only[beq_iff_eq]at D
  exact T2 (by omega)
 simp only[beq_eq_false_iff_ne]at D
 unfold Uf
 refine T1 (λj=>T2 (by simp only[beq_iff_eq]at j;omega)) (λhc4=>?_)
 simp only[beq_eq_false_iff_ne]at hc4
 refine T1 (λj=>T2 (by simp only[beq_iff_eq]at j;omega)) (λhc5=>?_)
 simp only[beq_eq_false_iff_ne]at hc5
 exact T1 (λj=>T2 (by simp only[beq_iff_eq]at j;omega)) (λhc6=>T2 (by omega))
def Qiu (Yg:Int)  : Qg (HG Yg) λr=>True:=by
 unfold HG
 exact T3
def Pe (rec_:Qi->Int->O_ Bool)(D:L_ Qi)(v2:Int)(h1:D.length<=maxLen)(h:∀k∈D,Qg (rec_ k v2) λr=>r=true->VZ v2 k):Qg (XC rec_ D v2) λr=>r=false->∀k∈D,VZ v2 k:=by
 unfold XC Jd
 refine T0 (P:=λx=>x<0->∀k∈D,VZ v2 k) ?_ λx hx=>T2 λh=>hx (by simp only[QV]at h;omega)
 refine T0 (Qg.up D.length (λst=>st) (λst=>∀(j:Nat) k,(j:Int)<st->D[j]? = some k->VZ v2 k) (Q:=λq=>(∀x,q=.inl x->0<=x)/\(q=.inr ()->∀k∈D,VZ v2 k)) rfl (λj k hj=>by omega) (λi st hi hn hj=>?_)) (λq hq=>?_)
 ·show Qg (XB D rec_ v2 st) _
  unfold XB Iv
  refine T1 (λhc=>?_) (λhc=>T2 (Qp ⟨λx h=>(by cases h),λ_ k hk=>by
   obtain⟨j,hj1,hj2⟩:=Nv.1 hk
   simp only[QV]at hc
   exact hj j k (by omega) (by rw[Qy hj1,hj2])⟩))
  simp only[QC]at hc
  rw[Wu (by omega)]
  have hlt:st.toNat<D.length:=by omega
  rw[Qy hlt]
  refine T0 (P:=λk=>k=D[st.toNat]) (T2 rfl) λk hk=>?_
  subst hk
  refine T0 (P:=λr=>r=false->VZ v2 D[st.toNat]) (T0 (h _ (Xs hlt)) λx hx=>T2 λh=>hx (by simpa using h)) λx hx=>?_
  refine T1 (λ_=>T2 (Qp ⟨λx h=>(by cases h;omega),λh=>(by cases h)⟩)) λhxf=>T2 (QG ⟨by omega,by rw[hi];exact Qr (by omega) h1,?_⟩)
  rw[hi,Qr (show i<D.length by omega) h1]
  intro j k hj' hk
  by_cases c:j=i
  ·subst c
   have e:st.toNat=j:=by omega
   have:=hx hxf
   rw[Qy (by omega)]at hk
   cases hk
   simpa only[e] using this
  exact hj j k (by omega) hk
 rcases q with q | q
 ·exact T2 λh=>absurd (hq.1 q rfl) (by omega)
 exact T2 λ_=>hq.2 rfl
def Ni : ∀(n:Nat) (e:Qi) (v:Int),KD e->SizeOf.sizeOf e<=n->Qg (Yy n e v) λr=>r=true->VZ v e
 | 0,e,_,_,h=>absurd e.pos (by omega)
 | n+1,e,v,he,h=>by
  unfold Yy BK
  refine T0 (Qjr e.Kind) λx hx=>?_
  refine T1 (λ_=>T2 λh=>by cases h) λh1=>T1 (λ_=>T2 λh=>by cases h) λh2=>?_
  refine T0 (P:=λ_=>True) ?_ λy _=>?_
  ·unfold NH
   exact T1 (λ_=>T0 (Qiu e.Num) λx _=>T3) λ_=>T3
  unfold NI
  refine T1 (λ_=>T2 λh=>by cases h) λ_=>?_
  refine T0 (Pe (Yy n) e.Kids v (KO he).1 λk j=>Ni n k v ((KO he).2 k j) (by have:=PT j;omega)) λx hx2=>T2 λhx3=>?_
  simp only[KI]at h1
  have D:=hx (by omega)
  simp only[Bool.and_eq_false_iff,Kn,QV,beq_eq_false_iff_ne]at h2
  exact .mk e D.1 (λj=>by omega) (λj=>by have:=D.2.1 j;omega) (λj=>by have:=D.2.2.1 j;omega) (λj=>by have:=D.2.2.2 j;omega) (hx2 (by simpa using hx3))
def Qiv (D:Qi)(h:Int)(j:KD D):Qg (NJ D h) λr=>r=true->VZ h D:=Ni _ D h j (JE _)
def TN : ∀(n:Nat) (e:Qi),KD e->SizeOf.sizeOf e<=n->Qg (Kk n e) λ_=>True
 | 0,e,_,h=>absurd e.pos (by omega)
 | n+1,e,he,h=>by
  unfold Kk Iu
  refine T0 (Qg.up e.Kids.length (λst=>st.2) (λ_=>True) (Q:=λ_=>True) rfl trivial (λi st j hn _=>?_)) (λq _=>?_)
  ·obtain⟨a,x⟩:=st
   replace j:x=(i:Int):=j
   show Qg (NF e (Kk n) a x) _
   unfold NF
   refine T1 (λD=>?_) (λD=>?_)
   ·simp only[QC]at D
    refine T0 (T4 (by omega) (by omega)) λk hk=>?_
    have:=PT hk
    refine T0 (TN n k ((KO he).2 k hk) (by omega)) λd _=>?_
    exact T2 (QG ⟨by omega,by subst j;exact Qr (by omega) (KO he).1,trivial⟩)
   exact T2 (Qp trivial)
  unfold Vu
  exact T3
def Qiw (j:Qi)(h:KD j):Qg (NG j) λ_=>True:=TN _ j h (JE _)
def Zb : ∀(n:Nat) (e:Qi),KD e->SizeOf.sizeOf e<=n->Qg (KQ n e) λ_=>True
 | 0,e,_,h=>absurd e.pos (by omega)
 | n+1,e,he,h=>by
  unfold KQ Mh
  refine T0 (Qg.up e.Kids.length (λst=>st.2) (λ_=>True) (Q:=λ_=>True) rfl trivial (λi st j hn _=>?_)) (λq _=>?_)
  ·obtain⟨a,x⟩:=st
   replace j:x=(i:Int):=j
   show Qg (OR e (KQ n) a x) _
   unfold OR
   refine T1 (λD=>?_) (λD=>?_)
   ·simp only[QC]at D
    refine T0 (T4 (by omega) (by omega)) λk hk=>?_
    have:=PT hk
    refine T0 (Zb n k ((KO he).2 k hk) (by omega)) λd _=>?_
    exact T2 (QG ⟨by omega,by subst j;exact Qr (by omega) (KO he).1,trivial⟩)
   exact T2 (Qp trivial)
  unfold ZM
  exact T3
def Qjs (j:Qi)(h:KD j):Qg (Pq j) λ_=>True:=Zb _ j h (JE _)
def IZ (e1:Qi)(j:Int)(D:KD e1):Qg (GP e1 j) λr=>r=true->VZ j e1:=by
 unfold GP
 refine T0 (P:=λr=>r=true->VZ j e1) ?_ (λx hx=>T2 hx)
 unfold NK
 refine T0 (Qiw e1 D) (λx _=>?_)
 refine T1 (λ_=>?_) (λ_=>T2 λh=>by cases h)
 refine T0 (Qjs e1 D) (λx _=>?_)
 refine T1 (λ_=>?_) (λ_=>T2 λh=>by cases h)
 exact T0 (Qiv e1 j D) (λx hx=>T2 hx)
def QfV (v1:QL)(v2:Int)(h:Yo v1):Qg (IJ v1 v2) λr=>True:=by
 unfold IJ
 refine T0 (P:=λ_=>True) ?_ (λx_1 hv2=>?_)
 ·unfold Ru
  refine T0 (IZ v1.Guard v2 (h.2.2.1)) (λx_3 hv4=>?_)
  refine T1 (λj=>?_) (λj=>?_)
  ·refine T1 (λD=>?_) (λD=>?_)
   ·exact T3
   exact T3
  exact T3
 unfold Rv
 exact T3
def QcT (j:Qn)(D:Xk)(h:Xl j)(h_v2:Fm D):Qg (CB j D) λr=>True:=by
 unfold CB
 refine T0 (Kv j.Places D.Place (h.2.1)) (λx_1 hv2=>?_)
 exact T3
def QcU (j:Xk)(D:Int)(h:Fm j):Qg (CC j D) λr=>True:=by
 unfold CC
 refine T0 (IZ j.Expr D (h.2)) (λx_1 hv2=>?_)
 exact T3
def QcV (v1:Qn)(D:Xk)(v3:Int)(v4:Int)(v5:Int)(j:Xl v1)(h:Fm D):Qg (CD v1 D v3 v4 v5) λr=>True:=by
 unfold CD
 refine T0 (QcT v1 D (j) (h)) (λx_1 hv2=>?_)
 refine T1 (λhc3=>?_) (λhc3=>?_)
 ·exact T3
 refine T0 (QcU D v4 (h)) (λx_4 hv5=>?_)
 refine T1 (λhc6=>?_) (λhc6=>?_)
 ·exact T3
 exact T3
def QfW (p1:Int)(D:Xk)(v3:Qn)(v4:Int)(h:Fm D)(j:Xl v3):Qg (IK p1 D v3 v4) λr=>True:=by
 unfold IK
 refine T0 (QcV v3 D 3 v4 1 (j) (h)) (λx_1 hv2=>?_)
 exact T3
def ZD (l1:(L_ Xk))(v2:Qn)(v3:Int)(h:(QO Fm) l1)(h_v2:Xl v2):Qg (EZ l1 v2 v3) λr=>True:=by
 unfold EZ
 refine T0 (Qg.up (l1.length) (λst=>st) (λ_=>True) (Q:=λq=>True) rfl trivial (λi2 st j hn4 hj5=>?_)) (λq6 hq7=>?_)
 ·obtain⟨D,hst⟩:∃y,y=st:=⟨_,rfl⟩
  subst hst
  replace j:D=(i2:Int):=j
  show Qg (UV l1 v2 v3 D) _
  unfold UV
  refine T1 (λhc8=>?_) (λhc8=>?_)
  ·refine T0 (T4 (by omega) (by simp_all)) (λe_9 hv10=>?_)
   refine T0 (QfW D e_9 v2 v3 (((h).2 e_9 hv10)) (h_v2)) (λx_11 hv12=>?_)
   refine T1 (λhc13=>?_) (λhc13=>?_)
   ·exact T2 (Qp trivial)
   exact T2 (QG ⟨(by simp_all),by subst j;exact Qr (by simp_all) (h).1,trivial⟩)
  exact T2 (Qp trivial)
 rcases q6 with q6 | q6
 ·show Qg (UW q6.1 q6.2) _
  unfold UW
  exact T3
 show Qg (UX) _
 unfold UX
 exact T3
def Qad (n1:Qn)(l2:(L_ Xk))(h:Int)(D:Xl n1)(j:(QO Fm) l2):Qg (HQ n1 l2 h) λr=>True:=by
 unfold HQ
 refine T0 (ZD l2 n1 h (j) (D)) (λx_1 hv2=>?_)
 exact T3
def QfX (D:Qn)(v2:QL)(v3:Int)(h:Xl D)(j:Yo v2):Qg (IL D v2 v3) λr=>True:=by
 unfold IL
 refine T0 (Qad D v2.Ins v3 (h) (j.2.2.2.2.2.1)) (λx_1 hv2=>?_)
 exact T3
def Qa5 (D:Qn)(v2:QL)(v3:Int)(v4:Int)(h:Xl D)(j:Yo v2):Qg (AE D v2 v3 v4) λr=>True:=by
 unfold AE
 refine T0 (QfX D v2 v3 (h) (j)) (λx_1 hv2=>?_)
 exact T3
def QfY (D:Qn)(v2:QL)(v3:Int)(h:Xl D)(j:Yo v2):Qg (IM D v2 v3) λr=>True:=by
 unfold IM
 refine T0 (Qad D v2.Outs v3 (h) (j.2.2.2.2.2.2.1)) (λx_1 hv2=>?_)
 exact T3
def Qa6 (D:Qn)(v2:QL)(v3:Int)(v4:Int)(h:Xl D)(j:Yo v2):Qg (AF D v2 v3 v4) λr=>True:=by
 unfold AF
 refine T0 (QfY D v2 v3 (h) (j)) (λx_1 hv2=>?_)
 exact T3
def Qae (j:Qn)(D:Int)(h:Xl j):Qg (UO j D) λr=>True:=by
 unfold UO
 refine T0 (Kv j.Places D (h.2.1)) (λx_1 hv2=>?_)
 exact T3
def TO (s1:(L_ Int))(v2:Int)(j:(QO (λ_=>True)) s1):Qg (Wz s1 v2) λr=>True:=by
 unfold Wz
 refine T0 (Qg.up (s1.length) (λst=>st) (λ_=>True) (Q:=λq=>True) rfl trivial (λi2 st h hn4 hj5=>?_)) (λq6 hq7=>?_)
 ·obtain⟨x_1,hst⟩:∃y,y=st:=⟨_,rfl⟩
  subst hst
  replace h:x_1=(i2:Int):=h
  show Qg (YH s1 v2 x_1) _
  unfold YH
  refine T1 (λhc8=>?_) (λhc8=>?_)
  ·refine T0 (T4 (by omega) (by simp_all)) (λe_9 hv10=>?_)
   refine T1 (λD=>?_) (λD=>?_)
   ·exact T2 (Qp trivial)
   exact T2 (QG ⟨(by simp_all),by subst h;exact Qr (by simp_all) (j).1,trivial⟩)
  exact T2 (Qp trivial)
 rcases q6 with q6 | q6
 ·show Qg (EO q6) _
  unfold EO
  exact T3
 show Qg (EP) _
 unfold EP
 exact T3
def Ch (j:(L_ Int))(D:Int)(h:(QO (λ_=>True)) j):Qg (Yh j D) λr=>True:=by
 unfold Yh
 refine T0 (TO j D (h)) (λx_1 hv2=>?_)
 exact T3
def Qaf (j:(L_ Int))(D:Int)(v3:Int)(h:(QO (λ_=>True)) j)(hp0:0<=D)(hp1:D<j.length):Qg (UP j D v3) λr=>True:=by
 unfold UP
 refine T0 (T5 (by simp_all;omega)) (λ_ _=>?_)
 refine T0 (Ch ((j.drop 0).take (D.toNat-0)) v3 (((h).drop _).take _)) (λx_1 hv2=>?_)
 exact T3
def QcW (v1:Qn)(v2:Int)(v3:Int)(v4:(L_ Int))(v5:Int)(v6:Int)(h:Xl v1)(j:(QO (λ_=>True)) v4)(hp0:0<=v5)(hp1:v5<v4.length):Qg (CE v1 v2 v3 v4 v5 v6) λr=>True:=by
 unfold CE
 refine T0 (Qae v1 v2 (h)) (λx_1 hv2=>?_)
 refine T1 (λD=>?_) (λD=>?_)
 ·exact T3
 refine T0 (Qaf v4 v5 v2 (j) (by omega) (by omega)) (λx_4 hv5=>?_)
 refine T1 (λhc6=>?_) (λhc6=>?_)
 ·exact T3
 exact T3
def QbY (k1:Int)(h:Int)(v3:Qn)(v4:(L_ Int))(j:Xl v3)(D:(QO (λ_=>True)) v4)(hp0:0<=k1)(hp1:k1<v4.length):Qg (Bw k1 h v3 v4) λr=>True:=by
 unfold Bw
 refine T0 (QcW v3 h 3 v4 k1 5 (j) (D) (by omega) (by omega)) (λx_1 hv2=>?_)
 exact T3
def QcX (l1:(L_ Int))(v2:Qn)(v3:(L_ Int))(D:(QO (λ_=>True)) l1)(h_v2:Xl v2)(h_v3:(QO (λ_=>True)) v3)(hp0:l1.length<=v3.length):Qg (CF l1 v2 v3) λr=>True:=by
 unfold CF
 refine T0 (Qg.up (l1.length) (λst=>st) (λ_=>True) (Q:=λq=>True) rfl trivial (λi2 st h hn4 hj5=>?_)) (λq6 hq7=>?_)
 ·obtain⟨j,hst⟩:∃y,y=st:=⟨_,rfl⟩
  subst hst
  replace h:j=(i2:Int):=h
  show Qg (FI l1 v2 v3 j) _
  unfold FI
  refine T1 (λhc8=>?_) (λhc8=>?_)
  ·refine T0 (T4 (by omega) (by simp_all)) (λe_9 hv10=>?_)
   refine T0 (QbY j e_9 v2 v3 (h_v2) (h_v3) (by omega) (by simp_all;omega)) (λx_11 hv12=>?_)
   refine T1 (λhc13=>?_) (λhc13=>?_)
   ·exact T2 (Qp trivial)
   exact T2 (QG ⟨(by simp_all),by subst h;exact Qr (by simp_all) (D).1,trivial⟩)
  exact T2 (Qp trivial)
 rcases q6 with q6 | q6
 ·show Qg (FJ q6.1 q6.2) _
  unfold FJ
  exact T3
 show Qg (FK) _
 unfold FK
 exact T3
def Qeh (n1:Qn)(D:(L_ Int))(j:Xl n1)(h:(QO (λ_=>True)) D):Qg (Hf n1 D) λr=>True:=by
 unfold Hf
 refine T0 (QcX D n1 D (h) (j) (h) (by omega)) (λx_1 hv2=>?_)
 exact T3
def Qei (D:Qn)(v2:QL)(h:Xl D)(j:Yo v2):Qg (Hg D v2) λr=>True:=by
 unfold Hg
 refine T0 (Qeh D v2.Cancel (h) (j.2.2.2.2.2.2.2.1)) (λx_1 hv2=>?_)
 exact T3
def Qa7 (D:Qn)(v2:QL)(v3:Int)(h:Xl D)(j:Yo v2):Qg (AG D v2 v3) λr=>True:=by
 unfold AG
 refine T0 (Qei D v2 (h) (j)) (λx_1 hv2=>?_)
 exact T3
def RK (D:Int)(j:(L_ Xk))(h:(QO Fm) j):Qg (AH D j) λr=>True:=by
 unfold AH
 exact T3
def Qhr (j:QL)(h:Yo j):Qg (Mo j) λr=>True:=by
 unfold Mo
 refine T0 (P:=λ_=>True) ?_ (λx_1 hv2=>?_)
 ·unfold Th
  refine T0 (RK j.Join j.Ins (h.2.2.2.2.2.1)) (λx_3 hv4=>?_)
  refine T1 (λhc5=>?_) (λhc5=>?_)
  ·refine T0 (RK j.Split j.Outs (h.2.2.2.2.2.2.1)) (λx_6 hv7=>?_)
   refine T1 (λhc8=>?_) (λhc8=>?_)
   ·refine T1 (λhc9=>?_) (λhc9=>?_)
    ·refine T1 (λD=>?_) (λD=>?_)
     ·exact T3
     exact T3
    exact T3
   exact T3
  exact T3
 unfold Ti
 exact T3
def Qej (j:QL)(h:Yo j):Qg (Hh j) λr=>True:=by
 unfold Hh
 refine T0 (Qhr j (h)) (λx_1 D=>?_)
 exact T3
def QcY (D:QL)(v2:Int)(v3:Qn)(v4:Int)(v5:Int)(v6:Int)(v7:Int)(v8:Int)(v9:Int)(v10:Int)(v11:Int)(v12:Int)(v13:Int)(v14:Int)(v15:Int)(h:Yo D)(j:Xl v3)(hp0:0<=v4)(hp1:v4<v3.Tasks.length):Qg (Gl D v2 v3 v4 v5 v6 v7 v8 v9 v10 v11 v12 v13 v14 v15) λr=>True:=by
 unfold Gl
 refine T0 (QfP D (h)) (λx_1 hv2=>?_)
 refine T1 (λhc3=>?_) (λhc3=>?_)
 ·exact T3
 refine T0 (QfR v3 v4 D (j) (h) (by omega) (by omega)) (λx_4 hv5=>?_)
 refine T1 (λhc6=>?_) (λhc6=>?_)
 ·exact T3
 refine T0 (QfS v6 D (h)) (λx_7 hv8=>?_)
 refine T1 (λhc9=>?_) (λhc9=>?_)
 ·exact T3
 refine T0 (Qeg v3 D v8 (j) (h)) (λx_10 hv11=>?_)
 refine T1 (λhc12=>?_) (λhc12=>?_)
 ·exact T3
 refine T0 (QfU v3 v4 (j)) (λx_13 hv14=>?_)
 refine T1 (λhc15=>?_) (λhc15=>?_)
 ·exact T3
 refine T0 (QfV D v6 (h)) (λx_16 hv17=>?_)
 refine T1 (λhc18=>?_) (λhc18=>?_)
 ·exact T3
 refine T0 (Qa5 v3 D v6 x_10.2 (j) (h)) (λx_19 hv20=>?_)
 refine T1 (λhc21=>?_) (λhc21=>?_)
 ·exact T3
 refine T0 (Qa6 v3 D v6 x_19.2 (j) (h)) (λx_22 hv23=>?_)
 refine T1 (λhc24=>?_) (λhc24=>?_)
 ·exact T3
 refine T0 (Qa7 v3 D x_22.2 (j) (h)) (λx_25 hv26=>?_)
 refine T1 (λhc27=>?_) (λhc27=>?_)
 ·exact T3
 refine T0 (Qej D (h)) (λx_28 hv29=>?_)
 refine T1 (λhc30=>?_) (λhc30=>?_)
 ·exact T3
 exact T3
def Qag (n1:Qn)(k2:Int)(h:Xl n1):Qg (Kg n1 k2) λr=>True:=by
 unfold Kg
 refine T0 (HY n1.Tasks k2 (h.2.2.1)) (λx_1 hv2=>?_)
 refine T1 (λhc3=>?_) (λhc3=>?_)
 ·exact T3
 refine T0 (RJ n1 (h)) (λx_4 hv5=>?_)
 refine T1 (λhc6=>?_) (λhc6=>?_)
 ·exact T3
 refine T0 (T4 (by simp_all) (by simp_all)) (λj D=>?_)
 refine T0 (T4 (by simp_all) (by simp_all)) (λe_9 hv10=>?_)
 refine T0 (Qhq 0 n1 j (h) (((h.2.2.1).2 j D))) (λx_11 hv12=>?_)
 refine T0 (QcP 0 n1 j (e_9.Vars.length:Int) (h) (((h.2.2.1).2 j D))) (λx_13 hv14=>?_)
 refine T0 (QcQ 0 n1 j (e_9.Vars.length:Int) (h) (((h.2.2.1).2 j D))) (λx_15 hv16=>?_)
 refine T0 (QcR 0 n1 j (h) (((h.2.2.1).2 j D))) (λx_17 hv18=>?_)
 refine T0 (QcY j 1 n1 k2 5 (e_9.Vars.length:Int) 2 0 (-1) 2 1 (-1) (-1) (-1) 11 (((h.2.2.1).2 j D)) (h) (by simp_all) (by simp_all)) (λx_19 hv20=>?_)
 refine T1 (λhc21=>?_) (λhc21=>?_)
 ·exact T3
 exact T3
def Qhs (D:Int)(p2:QL)(v3:Qn)(j:Yo p2)(h:Xl v3):Qg (Fh D p2 v3) λr=>True:=by
 unfold Fh
 refine T0 (Qag v3 D (h)) (λx_1 hv2=>?_)
 exact T3
def Vd (l1:(L_ QL))(v2:Qn)(h:(QO Yo) l1)(h_v2:Xl v2):Qg (KC l1 v2) λr=>True:=by
 unfold KC
 refine T0 (Qg.up (l1.length) (λst=>st) (λ_=>True) (Q:=λq=>True) rfl trivial (λi2 st j hn4 hj5=>?_)) (λq6 hq7=>?_)
 ·obtain⟨D,hst⟩:∃y,y=st:=⟨_,rfl⟩
  subst hst
  replace j:D=(i2:Int):=j
  show Qg (KM l1 v2 D) _
  unfold KM
  refine T1 (λhc8=>?_) (λhc8=>?_)
  ·refine T0 (T4 (by omega) (by simp_all)) (λe_9 hv10=>?_)
   refine T0 (Qhs D e_9 v2 (((h).2 e_9 hv10)) (h_v2)) (λx_11 hv12=>?_)
   refine T1 (λhc13=>?_) (λhc13=>?_)
   ·exact T2 (Qp trivial)
   exact T2 (QG ⟨(by simp_all),by subst j;exact Qr (by simp_all) (h).1,trivial⟩)
  exact T2 (Qp trivial)
 rcases q6 with q6 | q6
 ·show Qg (Uy q6.1 q6.2) _
  unfold Uy
  exact T3
 show Qg (Uz) _
 unfold Uz
 exact T3
def Qjt (n1:Qn)(h:Xl n1):Qg (GH n1) λr=>True:=by
 unfold GH
 refine T0 (Qhj n1 2 3 1 (h)) (λx_1 hv2=>?_)
 refine T1 (λD=>?_) (λD=>?_)
 ·exact T3
 refine T0 (RJ n1 (h)) (λx_4 hv5=>?_)
 refine T1 (λhc6=>?_) (λhc6=>?_)
 ·exact T3
 refine T0 (TM n1.Places n1 (h.2.1) (h)) (λx_7 hv8=>?_)
 refine T1 (λhc9=>?_) (λhc9=>?_)
 ·exact T3
 refine T0 (Vd n1.Tasks n1 (h.2.2.1) (h)) (λx_10 hv11=>?_)
 refine T1 (λj=>?_) (λj=>?_)
 ·exact T3
 exact T3
def Qki (j:Int)(b2:Int)  : Qg (Cr j b2) λr=>True:=by
 unfold Cr
 refine T1 (λh=>?_) (λh=>?_)
 ·exact T3
 exact T3
def QbZ (j:Int)(b2:Int)  : Qg (Wg j b2) λr=>True:=by
 unfold Wg
 refine T1 (λh=>?_) (λh=>?_)
 ·exact T3
 exact T3
def Qbz (j:Int)  : Qg (AU j) λr=>True:=by
 unfold AU
 refine T1 (λh=>?_) (λh=>?_)
 ·exact T3
 exact T3
def Qb0 (h:Int)(j:Int)  : Qg (DH h j) λr=>True:=by
 unfold DH
 exact T3
def QfZ (a1:Int)(b2:Int)  : Qg (Uh a1 b2) λr=>True:=by
 unfold Uh
 refine T0 (Qbz a1 ) (λx_1 hv2=>?_)
 refine T0 (Qbz b2 ) (λx_3 hv4=>?_)
 refine T0 (Qb0 x_1 x_3 ) (λx_5 hv6=>?_)
 refine T1 (λh=>?_) (λh=>?_)
 ·unfold Wh
  refine T1 (λj=>?_) (λj=>?_)
  ·exact T3
  exact T3
 unfold Wh
 refine T1 (λD=>?_) (λD=>?_)
 ·exact T3
 exact T3
def RL (D:Int)(b2:Int)  : Qg (Ks D b2) λr=>True:=by
 unfold Ks
 refine T1 (λh=>?_) (λh=>?_)
 ·exact T3
 refine T1 (λj=>?_) (λj=>?_)
 ·exact T3
 refine T0 (T5 (by simp_all)) (λ_ _=>?_)
 refine T0 (T5 (by simp_all)) (λ_ _=>?_)
 exact T3
def GV (j:Bool)  : Qg (Jy j) λr=>True:=by
 unfold Jy
 refine T1 (λh=>?_) (λh=>?_)
 ·exact T3
 exact T3
def Bg (Yg:Int)(j:Int)(h:Int)  : Qg (Js Yg j h) λr=>True:=by
 unfold Js
 refine T1 (λhc1=>?_) (λhc1=>?_)
 ·refine T0 (Qki j h ) (λx_2 hv3=>?_)
  exact T3
 refine T1 (λhc4=>?_) (λhc4=>?_)
 ·refine T0 (QbZ j h ) (λx_5 hv6=>?_)
  exact T3
 refine T1 (λhc7=>?_) (λhc7=>?_)
 ·refine T0 (QfZ j h ) (λx_8 hv9=>?_)
  exact T3
 refine T1 (λD=>?_) (λD=>?_)
 ·refine T0 (RL j h ) (λx_11 hv12=>?_)
  exact T3
 refine T1 (λhc13=>?_) (λhc13=>?_)
 ·refine T0 (RL j h ) (λx_14 hv15=>?_)
  exact T3
 refine T1 (λhc16=>?_) (λhc16=>?_)
 ·refine T0 (GV (j==h) ) (λx_17 hv18=>?_)
  exact T3
 refine T1 (λhc19=>?_) (λhc19=>?_)
 ·refine T0 (GV (j != h) ) (λx_20 hv21=>?_)
  exact T3
 refine T1 (λhc22=>?_) (λhc22=>?_)
 ·refine T0 (GV (decide (j<h)) ) (λx_23 hv24=>?_)
  exact T3
 refine T1 (λhc25=>?_) (λhc25=>?_)
 ·refine T0 (GV (decide (j<=h)) ) (λx_26 hv27=>?_)
  exact T3
 refine T1 (λhc28=>?_) (λhc28=>?_)
 ·refine T0 (P:=λ_=>True) ?_ (λv_29 hv30=>?_)
  ·unfold NM
   refine T1 (λhc31=>?_) (λhc31=>?_)
   ·refine T0 (GV (h != 0) ) (λx_32 hv33=>?_)
    exact T3
   refine T0 (GV false ) (λx_34 hv35=>?_)
   exact T3
  unfold SQ
  exact T3
 refine T1 (λhc36=>?_) (λhc36=>?_)
 ·refine T0 (P:=λ_=>True) ?_ (λv_37 hv38=>?_)
  ·unfold NN
   refine T1 (λhc39=>?_) (λhc39=>?_)
   ·refine T0 (GV true ) (λx_40 hv41=>?_)
    exact T3
   refine T0 (GV (h != 0) ) (λx_42 hv43=>?_)
   exact T3
  unfold SR
  exact T3
 exact T3
def QcZ (h:Int)  : Qg (NP h) λr=>True:=by
 unfold NP
 refine T0 (Bg 2 0 h ) (λD j=>?_)
 exact T3
def TP (b:L_ (Int×Int))(h:b.length<=maxLen):GE b=some (Ge (-1) b):=by
 unfold GE
 have j:=No (body:=λst=>WW b st.1 st.2) (l:=b) (ρ:=Unit⊕Unit) (λi (t:Int)=>(t,(i:Int)))
  (λi t x=>bif ((decide (x.1<=t))||((decide (x.2<1))||(decide (1048576<x.2))))then .inr (.inl ())else .inl x.1) (λ_=>.inr ())
  (λi t x D hx=>by
   show WW b t i=_
   unfold WW
   rw[QB (by omega:(i:Int)<b.length),Qx,QR,hx,Qd]
   cases ((decide (x.1<=t))||((decide (x.2<1))||(decide (1048576<x.2))))with
   | true=>rfl
   | false=>simp only[Qq,Sum.elim_inl];rw[Qr D h])
  (λt=>by
   show WW b t b.length=_
   unfold WW
   rw[QF (by omega)];rfl) (-1) (s0:=(-1,0)) rfl
 rw[j]
 have:∀(l:L_ (Int×Int)) (k:Nat) (t:Int),AN (λi t (x:Int×Int)=>(bif ((decide (x.1<=t))||((decide (x.2<1))||(decide (1048576<x.2))))then .inr (.inl ())else .inl x.1:Int⊕(Unit⊕Unit))) (λ_=>.inr ()) k t l=bif Ge t l then .inr ()else .inl ():=by
  intro l
  induction l with
  | nil=>intro k t;rfl
  | cons x l ih=>
   intro k t
   rw[AN,Ge]
   cases ((decide (x.1<=t))||((decide (x.2<1))||(decide (1048576<x.2))))with
   | true=>rfl
   | false=>simp only[Qq,Sum.elim_inl,Bool.not_false,RO];exact ih _ _
 rw[this]
 cases Ge (-1) b<;>rfl
def Zc (b:L_ (Int×Int))(h:b.length<=maxLen):MJ b=some (bif Ge (-1) b then .inr b else .inl ()):=by
 unfold MJ
 rw[TP b h,Qd]
 cases hr:Ge (-1) b with
 | false=>rfl
 | true=>
  simp only[DW,Qq,Qx]
  have ha:=(YF.1 hr).1
  obtain⟨r,h1,h2⟩:=Nn (body:=λst=>AX b st.1 st.2) b.length (λi s=>s=((i:Int),b.take i)) (λr=>r=b)
   (λi s j D=>by
    subst D
    refine .inl ⟨(((i+1:Nat):Int),b.take (i+1)),?_,rfl⟩
    show AX b i (b.take i)=_
    unfold AX
    rw[QB (by omega:(i:Int)<b.length),Qx,QR,Qy j,Qd,Qr j h]
    have e:b.take (i+1)=b.take i++[b[i]]:=by rw[GZ,Qy j];rfl
    rw[e,<-Qn9 (by have:=(ha.sublist (List.take_sublist (i+1) b));rw[e]at this;exact this)])
   (λs D=>by
    subst D
    refine⟨_,?_,rfl⟩
    show AX b b.length (b.take b.length)=_
    unfold AX
    rw[QF (by omega),FQ];rfl) (0,[]) rfl
  rw[h1,h2];rfl
def ZE (a b:L_ (Int×Int))(j:a.length<=maxLen)(h:b.length<=maxLen):Iy a b=some (bif Ge (-1) a then(bif Ge (-1) b then .inr (.inr (.inr (a,b)))else .inr (.inr (.inl a)))else(bif Ge (-1) b then .inr (.inl b)else .inl ())):=by
 unfold Iy
 rw[Zc a j]
 cases Ge (-1) a with
 | true=>
  simp only[Qx,Qd,Sum.elim_inr]
  unfold Ra
  rw[Zc b h]
  cases Ge (-1) b<;>rfl
 | false=>
  simp only[Qq,Qd,Sum.elim_inl]
  unfold PZ
  rw[Zc b h]
  cases Ge (-1) b<;>rfl
def Mu (m:L_ (Int×Int))(ha:DG m)(h':m.length<=4294967296):Gj m=some (HX m):=by
 have h:m.length<=maxLen:=by unfold maxLen;omega
 unfold Gj Dx FC
 simp only[QB h',PA rfl,Qd,Qm1 ha]
 obtain⟨r,h1,h2⟩:=Nn (body:=λst=>Ws (m.map Prod.fst) m st.1 st.2) m.length (λi s=>s=((i:Int),HX (m.take i))) (λr=>r=HX m)
  (λi s j D=>by
   subst D
   refine .inl ⟨(((i+1:Nat):Int),HX (m.take (i+1))),?_,rfl⟩
   show Ws (m.map Prod.fst) m i (HX (m.take i))=_
   unfold Ws
   have e:m.take (i+1)=m.take i++[m[i]]:=by rw[GZ,Qy j];rfl
   have ec:(QW m m[i].1).getD 0=m[i].2:=Gz ha.nd (Xs j)
   rw[QB (by simp;omega),Qx,QR,Ya,Qy j,WU,Qd,ec]
   have hl:(HX (m.take i)).length<=i:=Jn (Qda _ _) (by simp;omega)
   cases hc:decide (0<m[i].2)with
   | true=>
    simp only[Qx]
    rw[GJ (by simp;omega),Qd]
    unfold Gb
    rw[Qr j h,e]
    unfold HX
    rw[List.filter_append,Mb,if_pos hc];rfl
   | false=>
    simp only[Qq]
    unfold Gb
    rw[Qr j h,e]
    unfold HX
    rw[List.filter_append,Mb,if_neg (by rw[hc];decide),List.filter_nil,Qal])
  (λs D=>by
   subst D
   refine⟨_,?_,rfl⟩
   show Ws (m.map Prod.fst) m m.length (HX (m.take m.length))=_
   unfold Ws
   rw[QF (by simp),FQ];rfl) (0,[]) rfl
 rw[h1,h2];rfl
def Qkj (m:L_ (Int×Int)):(HX m).length<=m.length:=Qda _ _
def UG (a b:L_ (Int×Int))(h:a.length+b.length<=4294967296):(¬(Rt a/\Rt b)/\Je a b=some ([],1))\/(Rt a/\Rt b/\(∃k,1048576<QE a k+QE b k)/\Je a b=some ([],2))\/
  (Rt a/\Rt b/\∃r,Je a b=some (r,0)/\Rt r/\(∀k,QE r k=QE a k+QE b k)/\r.length<=a.length+b.length):=by
 unfold Je
 rw[ZE a b (by unfold maxLen;omega) (by unfold maxLen;omega),Qd]
 cases ra:Ge (-1) a with
 | false=>exact .inl ⟨λhh=>(by rw[YF.2 hh.1]at ra;cases ra),by cases Ge (-1) b<;>rfl⟩
 | true=>
  cases rb:Ge (-1) b with
  | false=>exact .inl ⟨λhh=>(by rw[YF.2 hh.2]at rb;cases rb),rfl⟩
  | true=>
   have D:=YF.1 ra
   have j:=YF.1 rb
   simp only[Qx,Sum.elim_inr]
   unfold ST
   have hw:∀p∈b,QE a p.1+p.2=QE a p.1+QE b p.1:=λp hp=>by rw[Gz j.1.nd hp]
   rcases Qhc (g:=λx v=>Qj (x+v)) (stop:=λx=>decide (1048576<x)) (q:=some ()) (body:=λst p=>BL st p.1 p.2) (λs p=>by
     show BL s p.1 p.2=_
     unfold BL
     rw[AM,if_pos rfl]
     unfold QE
     simp only[Sq]
     cases decide (1048576<Qj ((QW s p.1).getD 0+p.2))<;>rfl) D.1 j.1.nd with⟨⟨p,h1,h2⟩,h3⟩|⟨h1,s',h3,h4,h5,h6⟩
   ·refine .inr (.inl ⟨D,j,⟨p.1,?_⟩,?_⟩)
    ·have:=D.cnt p.1
     have:=j.cnt p.1
     have h2:=Xn h2
     rw[Gz j.1.nd h1]
     rw[Gz j.1.nd h1]at this
     rwa[Xv (by omega)]at h2
    simp only[h3 () rfl];rfl
   have hk:∀k,QE s' k=QE a k+QE b k/\QE s' k<=1048576:=λk=>by
    have ca:=D.cnt k
    have cb:=j.cnt k
    have e:=h6 k
    unfold Qdl at e
    cases hm:QW b k with
    | none=>
     rw[hm]at e
     simp only at e
     have:QE b k=0:=by unfold QE;rw[hm];rfl
     have e2:QE s' k=QE a k:=by unfold QE;rw[e]
     omega
    | some v=>
     rw[hm]at e
     simp only at e
     have e1:QE b k=v:=by unfold QE;rw[hm];rfl
     have e2:QE s' k=Qj (QE a k+v):=by unfold QE;rw[e];rfl
     have h7:=h1 (k,v) ((Jt j.1.nd).1 hm)
     simp only[QV]at h7
     rw[Xv (by omega)]at e2 h7
     omega
   refine .inr (.inr ⟨D,j,HX s',?_,Qm0 h4 (λk hk0=>⟨?_,(hk k).2⟩),λk=>?_,Jn (Qkj s') h5⟩)
   ·simp only[h3,Qd,Sum.elim_inl]
    unfold NR
    rw[Mu s' h4 (by omega)];rfl
   ·have:=(hk k).1
    have ca:=D.cnt k
    have cb:=j.cnt k
    by_cases c:0<QE a k
    ·exact D.cnt_pos c
    exact j.cnt_pos (by omega)
   rw[Qkg h4,(hk k).1]
   have ca:=D.cnt k
   have cb:=j.cnt k
   split<;>omega
def TQ (m h:L_ (Int×Int)):Gc m h=some (!(m.any λp=>decide (QE h p.1<p.2))):=by
 unfold Gc
 rw[Ql2 (bad:=λp=>decide (QE h p.1<p.2)) (q:=()) (λp=>by
  show Wy h p.1 p.2=_
  unfold Wy QE
  cases decide ((QW h p.1).getD 0<p.2)<;>rfl)]
 cases m.any λp=>decide (QE h p.1<p.2)<;>rfl
def Qa8 {a b:L_ (Int×Int)}(j:Rt a)(hb:Rt b):(a.any λp=>decide (QE b p.1<p.2))=false↔∀k,QE a k<=QE b k:=by
 rw[<-FN,GX]
 simp only[QC,not_exists,not_and]
 constructor
 ·intro h k
  have cb:=hb.cnt k
  cases e:QW a k with
  | none=>
   have:QE a k=0:=by unfold QE;rw[e];rfl
   omega
  | some v=>
   have D:=h _ ((Jt j.1.nd).1 e)
   have:QE a k=v:=by unfold QE;rw[e];rfl
   simp only at D
   omega
 intro h p hp hlt
 have:=h p.1
 rw[Gz j.1.nd hp]at this
 omega
def AP (a b:L_ (Int×Int))(ha:a.length<=maxLen)(hb:b.length<=maxLen):∃r,HI a b=some r/\(r=true↔Rt a/\Rt b/\∀k,QE a k<=QE b k):=by
 unfold HI
 rw[ZE a b ha hb,Qd]
 cases ra:Ge (-1) a with
 | false=>exact⟨false,by cases Ge (-1) b<;>rfl,by simp;intro hh;rw[YF.2 hh]at ra;cases ra⟩
 | true=>
  cases rb:Ge (-1) b with
  | false=>exact⟨false,rfl,by simp;intro _ hh;rw[YF.2 hh]at rb;cases rb⟩
  | true=>
   have j:=YF.1 ra
   have D:=YF.1 rb
   refine⟨!(a.any λp=>decide (QE b p.1<p.2)),?_,?_⟩
   ·simp only[Qx,Sum.elim_inr]
    unfold NS
    rw[TQ];rfl
   rw[GW,Qa8 j D]
   exact⟨λh=>⟨j,D,h⟩,λh=>h.2.2⟩
def Fs (a b:L_ (Int×Int))(h:a.length+b.length<=4294967296):(¬(Rt a/\Rt b)/\Jh a b=some ([],1))\/(Rt a/\Rt b/\(∃k,QE a k<QE b k)/\Jh a b=some ([],10))\/
  (Rt a/\Rt b/\(∀k,QE b k<=QE a k)/\∃r,Jh a b=some (r,0)/\Rt r/\(∀k,QE r k=QE a k-QE b k)/\r.length<=a.length+b.length):=by
 unfold Jh
 rw[ZE a b (by unfold maxLen;omega) (by unfold maxLen;omega),Qd]
 cases ra:Ge (-1) a with
 | false=>exact .inl ⟨λhh=>(by rw[YF.2 hh.1]at ra;cases ra),by cases Ge (-1) b<;>rfl⟩
 | true=>
  cases rb:Ge (-1) b with
  | false=>exact .inl ⟨λhh=>(by rw[YF.2 hh.2]at rb;cases rb),rfl⟩
  | true=>
   have j:=YF.1 ra
   have D:=YF.1 rb
   simp only[Qx,Sum.elim_inr]
   unfold Rc
   rw[TQ,Qd]
   cases hw:b.any λp=>decide (QE a p.1<p.2)with
   | true=>
    refine .inr (.inl ⟨j,D,?_,rfl⟩)
    obtain⟨p,h1,h2⟩:=GX.1 hw
    exact⟨p.1,by rw[Gz D.1.nd h1];exact Xn h2⟩
   | false=>
    have hle:=(Qa8 D j).1 hw
    simp only[Bool.not_false,DW,Qq]
    rcases Qhc (g:=λx v=>Qj (x-v)) (stop:=λ_=>false) (q:=none) (body:=λst p=>Ai st p.1 p.2) (λs p=>by
      show Ai s p.1 p.2=_
      unfold Ai QE
      rfl) j.1 D.1.nd with⟨⟨p,h1,h2⟩,h3⟩|⟨h1,s',h3,h4,h5,h6⟩
    ·cases h2
    have hk:∀k,QE s' k=QE a k-QE b k:=λk=>by
     have ca:=j.cnt k
     have cb:=D.cnt k
     have e:=h6 k
     unfold Qdl at e
     cases hm:QW b k with
     | none=>
      rw[hm]at e
      simp only at e
      have:QE b k=0:=by unfold QE;rw[hm];rfl
      have e2:QE s' k=QE a k:=by unfold QE;rw[e]
      omega
     | some v=>
      rw[hm]at e
      simp only at e
      have e1:QE b k=v:=by unfold QE;rw[hm];rfl
      have e2:QE s' k=Qj (QE a k-v):=by unfold QE;rw[e];rfl
      rw[Xv (by omega)]at e2
      omega
    refine .inr (.inr ⟨j,D,hle,HX s',?_,Qm0 h4 (λk hk0=>?_),λk=>?_,Jn (Qkj s') h5⟩)
    ·simp only[h3,Qd,Sum.elim_inl]
     unfold Mi
     rw[Mu s' h4 (by omega)];rfl
    ·have:=hk k
     have ca:=j.cnt k
     have cb:=D.cnt k
     exact⟨j.cnt_pos (by omega),by omega⟩
    rw[Qkg h4,hk k]
    have:=hle k
    split<;>omega
def Qa9 (t:Int):QaY [t]=some (bif decide (0<=t)then [(t,1)]else []):=by
 unfold QaY
 rw[Yz]
 show((AW [t] 0 []).bind _).bind _=_
 unfold AW
 rw[QB (by simp),Qx,show idx [t] 0=some t from rfl,Qd]
 unfold Pr
 rw[show Qj (0+1)=1 from by decide]
 cases h:decide (0<=t)with
 | false=>
  simp only[Qq,Qd,Sum.elim_inl]
  rw[Yz]
  show((AW [t] 1 []).bind _).bind _=_
  unfold AW
  rw[QF (by simp)]
  simp only[Qq,Qd,Sum.elim_inr]
  unfold Zq
  rw[Mu [] List.Pairwise.nil (by simp)];rfl
 | true=>
  simp only[Qx,Qd,Sum.elim_inl]
  rw[Yz]
  show((AW [t] 1 [(t,min2 (Qj (0+1)) 1048576)]).bind _).bind _=_
  unfold AW
  rw[QF (by simp)]
  simp only[Qq,Qd,Sum.elim_inr]
  unfold Zq
  rw[Mu _ (Qgc _ _) (by simp[maxLen]),show min2 (Qj (0+1)) 1048576=1 from by decide];rfl
def Qle : ∀(n:Nat) (e:Qi) (d:Int),KD e->SizeOf.sizeOf e<=n->Qg (Ex n e d) λ_=>True
 | 0,e,_,_,h=>absurd e.pos (by omega)
 | n+1,e,d,he,h=>by
  unfold Ex Rf
  refine T1 (λ_=>T3) λ_=>?_
  refine T0 (Qg.up e.Kids.length (λst=>st.2) (λ_=>True) (Q:=λ_=>True) rfl trivial (λi st j hn _=>?_)) (λq _=>?_)
  ·obtain⟨a,x⟩:=st
   replace j:x=(i:Int):=j
   show Qg (OT e (Ex n) d a x) _
   unfold OT
   refine T1 (λD=>?_) (λD=>T2 (Qp trivial))
   simp only[QC]at D
   refine T0 (T4 (by omega) (by omega)) λk hk=>?_
   have:=PT hk
   refine T0 (Qle n k _ ((KO he).2 k hk) (by omega)) λy _=>?_
   refine T1 (λ_=>T2 (Qp trivial)) λ_=>T1 (λ_=>T2 (Qp trivial)) λ_=>?_
   exact T2 (QG ⟨by omega,by subst j;exact Qr (by omega) (KO he).1,trivial⟩)
  rcases q with q | q
  ·exact T3
  exact T3
def Qix (e:Qi)(h:KD e):Qg (Fu e) λ_=>True:=by
 unfold Fu Zt
 exact T0 (Qle _ e 60 h (JE _)) λ_ _=>T3
def QoT (n1:Qn)(h:Xl n1)(q0:Int):Qg (Og n1 q0) λr=>r=true->q0<=400:=by
 unfold Og
 refine T0 (Qg.up n1.Tasks.length (λst=>st.2) (λ_=>True) (Q:=λ_=>True) rfl trivial (λi st hi hn _=>?_)) (λq _=>?_)
 ·obtain⟨a,x⟩:=st
  replace hi:x=(i:Int):=hi
  show Qg (Oe n1 a x) _
  unfold Oe
  refine T1 (λD=>?_) (λ_=>T2 (Qp trivial))
  simp only[QC]at D
  refine T0 (T4 (by omega) (by omega)) λe he=>?_
  have ke:=h.2.2.1.2 e he
  refine T1 (λ_=>T2 (Qp trivial)) λ_=>?_
  refine T0 (Qg.up e.Vars.length (λst=>st) (λ_=>True) (Q:=λ_=>True) rfl trivial (λi2 st j hn2 _=>?_)) (λq _=>?_)
  ·show Qg (NX e st) _
   unfold NX
   refine T1 (λD=>?_) (λ_=>T2 (Qp trivial))
   simp only[QC]at D
   refine T0 (T4 (by omega) (by omega)) λs _=>?_
   exact T1 (λ_=>T2 (Qp trivial)) λ_=>T2 (QG ⟨by omega,by rw[j];exact Qr (by omega) ke.2.1.1,trivial⟩)
  rcases q with q | q
  ·exact T2 (Qp trivial)
  show Qg (Od e a x) _
  unfold Od
  refine T0 (Qix e.Guard ke.2.2.1) λg _=>?_
  refine T0 (Qg.up e.Ins.length (λst=>st.2) (λ_=>True) (Q:=λ_=>True) rfl trivial (λi2 st j hn2 _=>?_)) (λq _=>?_)
  ·obtain⟨b,y⟩:=st
   replace j:y=(i2:Int):=j
   show Qg (NY e b y) _
   unfold NY
   refine T1 (λD=>?_) (λ_=>T2 (Qp trivial))
   simp only[QC]at D
   refine T0 (T4 (by omega) (by omega)) λs hs=>?_
   refine T0 (Qix s.Expr (ke.2.2.2.2.2.1.2 s hs).2) λg _=>?_
   exact T2 (QG ⟨by omega,by subst j;exact Qr (by omega) ke.2.2.2.2.2.1.1,trivial⟩)
  show Qg (Oc e a x q) _
  unfold Oc
  refine T0 (Qg.up e.Outs.length (λst=>st.2) (λ_=>True) (Q:=λ_=>True) rfl trivial (λi2 st j hn2 _=>?_)) (λq _=>?_)
  ·obtain⟨b,y⟩:=st
   replace j:y=(i2:Int):=j
   show Qg (NZ e b y) _
   unfold NZ
   refine T1 (λD=>?_) (λ_=>T2 (Qp trivial))
   simp only[QC]at D
   refine T0 (T4 (by omega) (by omega)) λs hs=>?_
   refine T0 (Qix s.Expr (ke.2.2.2.2.2.2.1.2 s hs).2) λg _=>?_
   exact T2 (QG ⟨by omega,by subst j;exact Qr (by omega) ke.2.2.2.2.2.2.1.1,trivial⟩)
  show Qg (Oa a e x q) _
  unfold Oa
  exact T1 (λ_=>T2 (Qp trivial)) λ_=>T2 (QG ⟨by omega,by subst hi;exact Qr (by omega) h.2.2.1.1,trivial⟩)
 rcases q with q | q
 ·exact T2 λh=>by cases h
 exact T2 λh=>by simpa using h
def QoU (n1:Qn)(h:Xl n1):Qg (Ps n1) λr=>r=true->n1.Colours.length<=40/\n1.Places.length<=70/\n1.Tasks.length<=70:=by
 unfold Ps
 refine T1 (λ_=>T2 λh=>by cases h) λj=>?_
 simp only[Kn,QV]at j
 refine T6 (P:=λ_=>True) ?_ λ_ _ _=>by omega
 refine T0 (Qg.up n1.Colours.length (λst=>st.2) (λ_=>True) (Q:=λ_=>True) rfl trivial (λi st D hn _=>?_)) (λq _=>?_)
 ·obtain⟨a,x⟩:=st
  replace D:x=(i:Int):=D
  show Qg (OW n1 a x) _
  unfold OW
  refine T1 (λj=>?_) (λ_=>T2 (Qp trivial))
  simp only[QC]at j
  refine T0 (T4 (by omega) (by omega)).self λe he=>?_
  obtain⟨he,hm⟩:=he
  refine T0 (P:=λ_=>True) ?_ λy _=>?_
  ·unfold ZP
   rw[he,Qd]
   exact T1 (λ_=>T3) λ_=>T3
  unfold ZQ
  refine T1 (λ_=>T2 (Qp trivial)) λ_=>?_
  refine T0 (Qg.up e.Names.length (λst=>st) (λ_=>True) (Q:=λ_=>True) rfl trivial (λi2 st hi2 hn2 _=>?_)) (λq _=>?_)
  ·show Qg (OV n1 x st) _
   unfold OV
   simp only[he,Qd]
   refine T1 (λj=>?_) (λ_=>T2 (Qp trivial))
   simp only[QC]at j
   refine T0 (T4 (by omega) (by omega)) λs _=>?_
   refine T1 (λ_=>T2 (Qp trivial)) λ_=>?_
   exact T2 (QG ⟨by omega,by rw[hi2];exact Qr (by omega) (h.1.2 e hm).2.2.2.2.1.1,trivial⟩)
  rcases q with q | q
  ·exact T2 (Qp trivial)
  exact T2 (QG ⟨by omega,by subst D;exact Qr (by omega) h.1.1,trivial⟩)
 rcases q with q | q
 ·exact T3
 show Qg (Oh n1 q) _
 unfold Oh
 refine T0 (Qg.up n1.Places.length (λst=>st.2) (λ_=>True) (Q:=λ_=>True) rfl trivial (λi st D hn _=>?_)) (λq _=>?_)
 ·obtain⟨a,x⟩:=st
  replace D:x=(i:Int):=D
  show Qg (OX n1 a x) _
  unfold OX
  refine T1 (λj=>?_) (λ_=>T2 (Qp trivial))
  simp only[QC]at j
  refine T0 (T4 (by omega) (by omega)) λe _=>?_
  refine T0 (T4 (by omega) (by omega)) λe2 _=>?_
  exact T1 (λ_=>T2 (Qp trivial)) λ_=>T2 (QG ⟨by omega,by subst D;exact Qr (by omega) h.2.1.1,trivial⟩)
 rcases q with q | q
 ·exact T3
 exact(QoT n1 h q).mono λ_ _=>trivial
def QoV (m:L_ QBg)(h:m.length<=maxLen):Qg (Pu m) λ_=>True:=by
 unfold Pu
 refine T0 (Qg.up m.length (λst=>st.2) (λ_=>True) (Q:=λ_=>True) rfl trivial (λi st j hn _=>?_)) (λq _=>T3)
 obtain⟨a,x⟩:=st
 replace j:x=(i:Int):=j
 show Qg (OY m a x) _
 unfold OY
 refine T1 (λD=>?_) (λ_=>T2 (Qp trivial))
 simp only[QH,QC]at D
 refine T0 (T4 (by omega) (by omega)) λe _=>?_
 exact T2 (QG ⟨by omega,by subst j;exact Qr (by omega) h,trivial⟩)
def Qlf {l:L_ (Int×Int)}(h:DG l):∀{a:Int},(∀p∈l,a<=p.1)->∀(i:Nat) (j:i<l.length),a+i<=(l[i]).1:=by
 induction l with
 | nil=>intro a _ i j;simp at j
 | cons p l ih=>
  intro a D i j
  obtain⟨h1,h2⟩:=WT.1 h
  cases i with
  | zero=>have:=D p XQ;simpa using this
  | succ i=>
   have h3:=ih h2 (a:=a+1) (λq hq=>by have:=h1 q hq;have:=D p XQ;omega) i (by simpa using j)
   simp only[List.getElem_cons_succ]
   omega
def Qod {l:L_ (Int×Int)}(h:DG l)(h0:0<l.length){k:Int}(hk:0<QE l k):k<=(l[l.length-1]).1:=by
 unfold QE at hk
 cases e:QW l k with
 | none=>rw[e]at hk;simp at hk
 | some v=>
  obtain⟨j,hj,D⟩:=Nv.1 ((Jt h.nd).1 e)
  by_cases c:j=l.length-1
  ·subst c;rw[D];exact Int.le_refl _
  have:=Qgb.1 h j (l.length-1) hj (by omega) (by omega)
  rw[D]at this
  simp only at this
  omega
def JP (n:Qn)(c:Nat)(m:L_ QBg):Prop:=m.length=n.Places.length/\∀b∈m,Rt b/\b.length<=c
def JP.mono {n:Qn}{c j:Nat}{m:L_ QBg}(h:JP n c m)(hc:c<=j):JP n j m:=⟨h.1,λb D=>⟨(h.2 b D).1,Jn (h.2 b D).2 hc⟩⟩
def Hv (n:Qn)(m:L_ QBg):Prop:=∀(j:Nat) b p,m[j]? = some b->n.Places[j]? = some p->∀k,0<QE b k->∃z,Yl n.Colours p.Colour=some z/\k<z
def Qkk (n1:Qn)(m:L_ QBg)(h:Xl n1)(hm:QO (QO λ_=>True) m):Qg (Ok n1 m) λr=>r=true->JP n1 1024 m/\Hv n1 m:=by
 unfold Ok
 refine T1 (λ_=>T2 λh=>by cases h) λhc=>?_
 have hl:m.length=n1.Places.length:=by simp only[KI]at hc;omega
 refine T0 (Qg.up m.length (λst=>st) (λst=>∀(j:Nat) (hj:j<m.length),(j:Int)<st->(Rt m[j]/\(m[j]).length<=1024)/\∀p,n1.Places[j]? = some p->∀k,0<QE m[j] k->∃z,Yl n1.Colours p.Colour=some z/\k<z) (Q:=λq=>q=.inr ()->(∀b∈m,Rt b/\b.length<=1024)/\Hv n1 m) rfl (λj _ hj=>by omega) (λi st hi hn hJ=>?_)) (λq hq=>?_)
 ·show Qg (Oj m n1 st) _
  unfold Oj
  refine T1 (λhc=>?_) (λhc=>T2 (Qp λ_=>⟨λb hb=>by
   obtain⟨j,hj,rfl⟩:=Nv.1 hb
   simp only[QV]at hc
   exact(hJ j hj (by omega)).1,λj b p hb hp=>by
   obtain⟨hj,rfl⟩:=Xe.1 hb
   simp only[QV]at hc
   exact(hJ j hj (by omega)).2 p hp⟩))
  simp only[QC]at hc
  have D:i<m.length:=by omega
  have hlp:i<n1.Places.length:=by omega
  rw[hi,QR,Qy D,Qd,QR,Qy hlp,Qd]
  refine T0 (Wq n1.Colours (n1.Places[i]).Colour h.1).self λsz hsz=>?_
  obtain⟨hze,hsz⟩:=hsz
  have hb:=hm.2 _ (Xs D)
  have hbl:=hb.1
  refine T0 (P:=λr=>r=false->(Rt m[i]/\(m[i]).length<=1024)/\∀k,0<QE m[i] k->k<sz) ?_ λx hx=>?_
  ·unfold VF
   rw[TP _ hb.1,Qd]
   refine T1 (λ_=>T2 λh=>by cases h) λhr=>?_
   have hrt:=YF.1 (by simpa using hr:Ge (-1) m[i]=true)
   refine T1 (λh0=>?_) (λh0=>T2 λ_=>⟨⟨hrt,by simp only[QV]at h0;omega⟩,λk hk=>by
    simp only[QV]at h0
    rw[show m[i]=[]from FO.1 (by omega)]at hk
    simp[QE,QW]at hk⟩)
   simp only[QC]at h0
   unfold maxLen at hbl
   rw[Xv (by omega),show((m[i]).length:Int)-1=(((m[i]).length-1:Nat):Int) by omega,QR,Qy (by omega),Qd]
   refine T2 λhf=>?_
   simp only[QV]at hf
   have:=Qlf hrt.1 (a:=0) (λp hp=>(hrt.2 p hp).1) ((m[i]).length-1) (by omega)
   refine⟨⟨hrt,by omega⟩,λk hk=>?_⟩
   have:=Qod hrt.1 (by omega) hk
   omega
  unfold VG
  refine T1 (λ_=>T2 (Qp λh=>by cases h)) λhxf=>?_
  refine T2 (QG ⟨D,Qr D hm.1,λj hj hjs=>?_⟩)
  rw[Qr D hm.1]at hjs
  by_cases c:j=i
  ·subst c
   refine⟨(hx hxf).1,λp hp k hk=>⟨sz,?_,(hx hxf).2 k hk⟩⟩
   rw[Qy hlp]at hp
   cases hp
   exact hze
  exact hJ j hj (by omega)
 rcases q with q | q
 ·exact T2 λh=>by cases h
 exact T2 λ_=>⟨⟨hl,(hq rfl).1⟩,(hq rfl).2⟩
structure Xd (n:Qn):Prop where
 k:Xl n
 pl:n.Places.length<=70
 tl:n.Tasks.length<=12
 tk:∀t∈n.Tasks,t.Vars.length<=16/\t.Ins.length<=16/\t.Outs.length<=16/\t.Cancel.length<=16
def Qm4 (n1:Qn)(k2:Int)(h:Kg n1 k2=some 0):∃t,idx n1.Tasks k2=some t/\t.Vars.length<=16/\t.Ins.length<=16/\t.Outs.length<=16/\t.Cancel.length<=16:=by
 unfold Kg at h
 obtain⟨x5,_,h⟩:=Qw h
 rcases Xr h with⟨_,h⟩|⟨_,h⟩
 ·cases h
 obtain⟨x7,_,h⟩:=Qw h
 rcases Xr h with⟨c,h⟩|⟨_,h⟩
 ·simp only[Option.some.injEq]at h;rw[h]at c;cases c
 obtain⟨e9,he9,h⟩:=Qw h
 obtain⟨e10,D,h⟩:=Qw h
 rw[he9]at D;cases D
 obtain⟨_,_,h⟩:=Qw h
 obtain⟨_,_,h⟩:=Qw h
 obtain⟨_,_,h⟩:=Qw h
 obtain⟨_,_,h⟩:=Qw h
 obtain⟨x15,j,h⟩:=Qw h
 have bad:∀a b:Int,0<a->x15=(a,b)->False:=λa b ha e=>by
  subst e
  simp only at h
  rcases Xr h with⟨c,h⟩|⟨_,h⟩
  ·simp only[beq_iff_eq]at c;omega
  simp only[Option.some.injEq]at h;omega
 unfold Gl at j
 obtain⟨x20,_,j⟩:=Qw j
 rcases Xr j with⟨_,j⟩|⟨_,j⟩
 ·exact(bad _ _ (by decide) (Option.some.inj j).symm).elim
 obtain⟨x22,_,j⟩:=Qw j
 rcases Xr j with⟨_,j⟩|⟨_,j⟩
 ·exact(bad _ _ (by decide) (Option.some.inj j).symm).elim
 obtain⟨x24,h24,j⟩:=Qw j
 rcases Xr j with⟨_,j⟩|⟨c,j⟩
 ·exact(bad _ _ (by decide) (Option.some.inj j).symm).elim
 unfold BQ at h24
 simp only[Option.some.injEq]at h24
 rw[<-h24]at c
 simp only[Bj,QH,QC,IX]at c
 exact⟨e9,he9,by omega,by omega,by omega,by omega⟩
def Qev (l1:L_ QL)(n1:Qn)(h:Xl n1)(hl:QO Yo l1):Qg (KC l1 n1) λr=>r.2=0->∀(j:Nat),j<l1.length->Kg n1 j=some 0:=by
 unfold KC
 refine T0 (Qg.up l1.length (λst=>st) (λst=>∀(j:Nat),(j:Int)<st->Kg n1 j=some 0) (Q:=λq=>(∀a b,q=.inl (a,b)->b≠0)/\(q=.inr ()->∀(j:Nat),j<l1.length->Kg n1 j=some 0)) rfl (λj hj=>by omega) (λi st hi hn hJ=>?_)) (λq hq=>?_)
 ·show Qg (KM l1 n1 st) _
  unfold KM
  refine T1 (λD=>?_) (λD=>T2 (Qp ⟨λa b h=>(by cases h),λ_ j hj=>by
   simp only[QV]at D
   exact hJ j (by omega)⟩))
  simp only[QC]at D
  refine T0 (T4 (by omega) (by omega)) λe he=>?_
  refine T0 (P:=λx=>Kg n1 st=some x) ?_ λx hx=>?_
  ·unfold Fh
   exact T0 (Qag n1 st h).self λx hx=>T2 hx.1
  refine T1 (λD=>T2 (Qp ⟨λa b h=>(by cases h;simpa using D),λh=>(by cases h)⟩)) λD=>?_
  simp only[KI]at D
  refine T2 (QG ⟨by omega,by rw[hi];exact Qr (by omega) hl.1,λj hj=>?_⟩)
  rw[hi,Qr (show i<l1.length by omega) hl.1]at hj
  by_cases c:j=i
  ·subst c;rw[<-hi,hx,D]
  exact hJ j (by omega)
 rcases q with q | q
 ·exact T2 λh=>absurd h (hq.1 q.1 q.2 rfl)
 exact T2 λ_=>hq.2 rfl
def Qm5 (n1:Qn)(h:Xl n1){p:Ec}(D:GH n1=some (0,p)):∀t∈n1.Tasks,t.Vars.length<=16/\t.Ins.length<=16/\t.Outs.length<=16/\t.Cancel.length<=16:=by
 unfold GH at D
 obtain⟨x6,_,D⟩:=Qw D
 rcases Xr D with⟨c,D⟩|⟨_,D⟩
 ·simp only[Option.some.injEq,Prod.mk.injEq]at D;rw[D.1]at c;cases c
 obtain⟨x8,_,D⟩:=Qw D
 rcases Xr D with⟨c,D⟩|⟨_,D⟩
 ·simp only[Option.some.injEq,Prod.mk.injEq]at D;rw[D.1]at c;cases c
 obtain⟨x10,_,D⟩:=Qw D
 rcases Xr D with⟨c,D⟩|⟨_,D⟩
 ·simp only[Option.some.injEq,Prod.mk.injEq]at D;rw[D.1]at c;cases c
 obtain⟨x12,h12,D⟩:=Qw D
 rcases Xr D with⟨c,D⟩|⟨c,D⟩
 ·simp only[Option.some.injEq,Prod.mk.injEq]at D;rw[D.1]at c;cases c
 simp only[KI]at c
 obtain⟨r,hr,hr2⟩:=Qev n1.Tasks n1 h h.2.2.1
 rw[h12]at hr;cases hr
 intro t ht
 obtain⟨j,hj,rfl⟩:=Nv.1 ht
 obtain⟨t,h1,h2⟩:=Qm4 n1 j (hr2 c j hj)
 rw[QR,Qy hj]at h1
 cases h1
 exact h2
def Qpy (n1:Qn)(m:L_ QBg)(h:Xl n1)(hm:QO (QO λ_=>True) m):Qg (GS n1 m) λr=>r=true->Xd n1/\JP n1 1024 m/\Hv n1 m:=by
 unfold GS
 refine T0 (QoU n1 h) λx5 h5=>?_
 refine T0 (QoV m hm.1) λx6 _=>?_
 refine T1 (λ_=>T2 λh=>by cases h) λhc=>?_
 simp only[Kn,Bj,QV]at hc
 have h5:=h5 hc.1
 refine T0 (Qjt n1 h).self λx11 h11=>?_
 refine T0 (P:=λr=>r=false->Xd n1/\JP n1 1024 m/\Hv n1 m) ?_ λx12 h12=>?_
 ·unfold Hj
  refine T1 (λ_=>T2 λh=>by cases h) λj=>?_
  simp only[KI]at j
  refine T0 (Qkk n1 m h hm) λr hr=>T2 λhrf=>⟨⟨h,h5.2.1,by omega,?_⟩,hr (by simpa using hrf)⟩
  obtain⟨a,b⟩:=x11
  simp only at j
  subst j
  exact Qm5 n1 h h11.1
 unfold Hk
 refine T1 (λ_=>T2 λh=>by cases h) λhx=>?_
 have D:=h12 hx
 refine T6 (P:=λ_=>True) ?_ λ_ _ _=>D
 refine T0 (Qg.up n1.Tasks.length (λst=>st.2) (λ_=>True) (Q:=λ_=>True) rfl trivial (λi st hi hn _=>?_)) (λq _=>T3)
 obtain⟨a,x⟩:=st
 replace hi:x=(i:Int):=hi
 show Qg (Ol n1 a x) _
 unfold Ol
 refine T1 (λhc=>?_) (λ_=>T2 (Qp trivial))
 simp only[QC]at hc
 refine T0 (T4 (by omega) (by omega)) λe _=>?_
 refine T0 (Za n1 x h) λy _=>?_
 exact T2 (QG ⟨by omega,by subst hi;exact Qr (by omega) h.2.2.1.1,trivial⟩)
def QiT (s:XZ)(m:Int)(h:0<=s.k/\s.k<s.sizes.length):Qg (JT s m) λr=>r=true->0<=m:=by
 unfold JT
 refine T0 (P:=λr=>r=true->0<=m) ?_ λx D=>T2 D
 unfold Ga
 refine T1 (λj=>?_) λ_=>T2 λh=>by cases h
 exact T0 (T4 h.1 h.2) λ_ _=>T2 λ_=>by simpa using j
def BZ (s:XZ)(h:0<=s.k/\s.k<s.all.length):Qg (Jr s) λ_=>True:=by
 unfold Jr
 exact T0 (T4 h.1 h.2) λ_ _=>T3
def Qoe (l:L_ QM)(k m:Int)(hl:QO YJ l):Qg (Wn l k m) λ_=>True:=by
 unfold Wn
 refine T0 (Fp l k hl) λx D=>?_
 refine T0 (P:=λr=>r=false->x.1=true) ?_ λr hr=>?_
 ·unfold Ax
  refine T1 (λ_=>T2 λh=>by cases h) λj=>?_
  have j:x.1=true:=by simpa using j
  have h:=D.2 j
  exact T0 (QiT x.2 m (by omega)) λ_ _=>T2 λ_=>j
 unfold Ay
 refine T1 (λ_=>T3) λj=>?_
 have h:=D.2 (hr j)
 refine T0 (BZ x.2 (by omega)) λ_ _=>?_
 refine T1 (λ_=>?_) λ_=>T3
 exact T0 (BZ x.2 (by omega)) λ_ _=>T3
def Qkl (l:L_ QM)(k n:Int)(hl:QO YJ l):Qg (Wo l k n) λr=>r.2=true->0<=r.1:=by
 unfold Wo
 refine T0 (Fp l k hl) λx hx=>?_
 refine T1 (λ_=>T2 λh=>by cases h) λj=>?_
 have h:=hx.2 (by simpa using j)
 have D:∀m,Qg (JO x m) λr=>r.2=true->0<=r.1:=λm=>by
  unfold JO
  refine T0 (QiT x.2 m (by omega)) λy hy=>?_
  exact T1 (λ_=>T2 λh=>by cases h) λj=>T2 λ_=>hy (by simpa using j)
 refine T0 (BZ x.2 (by omega)) λ_ _=>?_
 refine T1 (λ_=>?_) λ_=>D _
 exact T1 (λ_=>T2 λh=>by cases h) λ_=>D _
def Qm6 (l:L_ QM)(k n:Int)(hl:QO YJ l):Qg (Wo l k n) λr=>r.2=true->∃z,Yl l k=some z/\r.1<z:=by
 unfold Wo Yl
 refine T0 (Fp l k hl).self λx D=>?_
 obtain⟨hxe,D⟩:=D
 refine T1 (λ_=>T2 λh=>by cases h) λhc=>?_
 have h:=D.2 (by simpa using hc)
 have hk:k.toNat<x.2.sizes.length:=by omega
 have ei:idx x.2.sizes k=some x.2.sizes[k.toNat]:=LY h.1.1 h.1.2
 have k1:∀m,Qg (JO x m) λr=>r.2=true->∃z,((Ww l k).bind λx5=>bif (!x5.1)then some 0 else(idx x5.2.sizes k).bind λe7=>some e7)=some z/\r.1<z:=λm=>by
  unfold JO
  refine T0 (P:=λy=>y=true->m<x.2.sizes[k.toNat]) ?_ λy hy=>?_
  ·unfold JT
   refine T0 (P:=λy=>y=true->m<x.2.sizes[k.toNat]) ?_ λy hy=>T2 hy
   unfold Ga
   refine T1 (λ_=>?_) λ_=>T2 λh=>by cases h
   rw[h.2.1,ei,Qd]
   exact T2 λh=>by simpa using h
  refine T1 (λ_=>T2 λh=>by cases h) λj=>T2 λ_=>⟨x.2.sizes[k.toNat],?_,hy (by simpa using j)⟩
  rw[hxe,Qd,hc,Qq,ei];rfl
 refine T0 (BZ x.2 (by omega)) λ_ _=>?_
 refine T1 (λ_=>?_) λ_=>k1 _
 exact T1 (λ_=>T2 λh=>by cases h) λ_=>k1 _
def GA {α:Type}{o:O_ α}{P:α->Prop}(h:Qg o P){r:α}(e:o=some r):P r:=by
 obtain⟨r',j,D⟩:=h
 rw[e]at j;cases j;exact D
def Qkm : ∀(n:Nat) (v:L_ Int) (e:Qi),VZ v.length e->SizeOf.sizeOf e<=n->Qg (Xx n v e) λ_=>True
 | 0,_,e,_,h=>absurd e.pos (by omega)
 | n+1,v,e,he,h=>by
  cases he with
  | mk _ D h2 h3 h5 h6 hr=>
  unfold Xx EF
  have sub:∀(j:Nat) (hj:j<e.Kids.length),Qg (Xx n v (e.Kids[j])) λ_=>True:=λj hj=>
   Qkm n v _ (hr _ (Xs hj)) (by have:=PT (Xs hj);omega)
  have kid:∀(j:Nat) (hj:j<e.Kids.length),idx e.Kids (j:Int)=some e.Kids[j]:=λj hj=>by rw[QR,Qy hj]
  rcases D with D | D | D | D | D | D
  ·refine T0 (P:=λx=>x=.inl v) (by unfold Kr;rw[D];exact T2 rfl) λx hx=>?_
   subst hx
   exact T3
  ·refine T0 (P:=λx=>x=.inr (.inl v)) (by unfold Kr;rw[D];exact T2 rfl) λx hx=>?_
   subst hx
   show Qg (WX e v) _
   unfold WX UK
   have:=h2 D
   exact T0 (T0 (T4 (by omega) (by omega)) λ_ _=>T3) λ_ _=>T3
  ·refine T0 (P:=λx=>x=.inr (.inr (.inl v))) (by unfold Kr JM;rw[D];exact T2 rfl) λx hx=>?_
   subst hx
   show Qg (JN (Xx n) e v) _
   unfold JN EE
   have hl:=h3 (.inl D)
   refine T0 (P:=λ_=>True) ?_ λ_ _=>T3
   rw[show idx e.Kids 0=some (e.Kids[0]'(by omega))from kid 0 (by omega),Qd]
   refine T0 (sub 0 (by omega)) λx _=>?_
   refine T1 (λ_=>T3) λ_=>T1 (λ_=>T0 (QcZ _) λ_ _=>T3) λ_=>T0 (Bg _ _ _) λ_ _=>T3
  ·refine T0 (P:=λx=>x=.inr (.inr (.inl v))) (by unfold Kr JM;rw[D];exact T2 rfl) λx hx=>?_
   subst hx
   show Qg (JN (Xx n) e v) _
   unfold JN EE
   have hl:=h3 (.inr D)
   refine T0 (P:=λ_=>True) ?_ λ_ _=>T3
   rw[show idx e.Kids 0=some (e.Kids[0]'(by omega))from kid 0 (by omega),Qd]
   refine T0 (sub 0 (by omega)) λx _=>?_
   refine T1 (λ_=>T3) λ_=>T1 (λ_=>T0 (QcZ _) λ_ _=>T3) λ_=>T0 (Bg _ _ _) λ_ _=>T3
  ·refine T0 (P:=λx=>x=.inr (.inr (.inr (.inl v)))) (by unfold Kr JM;rw[D];exact T2 rfl) λx hx=>?_
   subst hx
   show Qg (WY (Xx n) e v) _
   unfold WY Iw
   have hl:=h5 D
   refine T0 (P:=λ_=>True) ?_ λ_ _=>T3
   rw[show idx e.Kids 0=some (e.Kids[0]'(by omega))from kid 0 (by omega),Qd]
   refine T0 (sub 0 (by omega)) λx _=>?_
   have k1:∀b,Qg (Wi x e (Xx n) v b) λ_=>True:=λb=>by
    unfold Wi
    refine T1 (λ_=>T0 (Bg _ _ _) λ_ _=>T3) λ_=>?_
    rw[show idx e.Kids 1=some (e.Kids[1]'(by omega))from kid 1 (by omega),Qd]
    refine T0 (sub 1 (by omega)) λy _=>?_
    exact T1 (λ_=>T3) λ_=>T0 (Bg _ _ _) λ_ _=>T3
   exact T1 (λ_=>T3) λ_=>T1 (λ_=>k1 _) λ_=>T1 (λ_=>k1 _) λ_=>k1 _
  refine T0 (P:=λx=>x=.inr (.inr (.inr (.inr v)))) (by unfold Kr JM;rw[D];exact T2 rfl) λx hx=>?_
  subst hx
  show Qg (WZ (Xx n) e v) _
  unfold WZ Bo
  have hl:=h6 D
  refine T0 (P:=λ_=>True) ?_ λ_ _=>T3
  rw[show idx e.Kids 0=some (e.Kids[0]'(by omega))from kid 0 (by omega),Qd]
  refine T0 (sub 0 (by omega)) λx _=>?_
  refine T1 (λ_=>T3) λ_=>T1 (λ_=>?_) λ_=>?_
  ·rw[show idx e.Kids 1=some (e.Kids[1]'(by omega))from kid 1 (by omega),Qd]
   exact T0 (sub 1 (by omega)) λy _=>T3
  rw[show idx e.Kids 2=some (e.Kids[2]'(by omega))from kid 2 (by omega),Qd]
  exact T0 (sub 2 (by omega)) λy _=>T3
def Qm7 (e:Qi)(v:L_ Int)(h:KD e):Qg (AV e v) λ_=>True:=by
 unfold AV
 refine T0 (IZ e v.length h) λx D=>?_
 refine T1 (λ_=>T3) λj=>?_
 unfold FV
 exact T0 (Qkm _ v e (D (by simpa using j)) (JE _)) λ_ _=>T3
def Ql5 (n:Qn)(j:Int)(D:L_ Int)(h:Xd n):Qg (WH n j D) λr=>r.2=0->0<=j/\j<n.Tasks.length:=by
 unfold WH
 refine T1 (λ_=>T2 λh=>by cases h) λhc=>?_
 simp only[Kn,QV]at hc
 refine T0 (T4 (by omega) (by omega)) λe he=>?_
 have hv:=(h.tk e he).1
 have ke:=h.k.2.2.1.2 e he
 refine T1 (λ_=>T2 λh=>by cases h) λhl=>?_
 simp only[KI]at hl
 refine T0 (T5 (by simp only[QH,QC];omega)) λ_ _=>?_
 refine T6 (P:=λ_=>True) ?_ λ_ _ _=>by omega
 refine T0 (Qg.up e.Vars.length (λst=>st.1) (λst=>st.2.length=e.Vars.length) (Q:=λ_=>True) rfl (by simp) (λi st hi hn hJ=>?_)) (λq _=>?_)
 ·obtain⟨x,l⟩:=st
  replace hi:x=(i:Int):=hi
  replace hJ:l.length=e.Vars.length:=hJ
  show Qg (WG e D n x l) _
  unfold WG
  refine T1 (λhc=>?_) (λ_=>T2 (Qp trivial))
  simp only[QC]at hc
  refine T0 (T4 (by omega) (by omega)) λa _=>?_
  refine T0 (T4 (by omega) (by omega)) λb _=>?_
  refine T0 (Qoe _ _ _ h.k.1) λc _=>?_
  refine T1 (λ_=>T2 (Qp trivial)) λ_=>?_
  refine T0 (T4 (by omega) (by omega)) λd _=>?_
  exact T2 (QG ⟨by omega,by subst hi;exact Qr (by omega) (by unfold maxLen;omega:e.Vars.length<=maxLen),by simpa using hJ⟩)
 rcases q with q | q
 ·exact T3
 exact T3
def Pf {α:Type}{l:L_ α}{i:Nat}{x y:α}(h:y∈l.set i x):y=x\/y∈l:=by
 rcases List.mem_or_eq_of_mem_set h with h | h
 ·exact .inr h
 exact .inl h
def Nj (n:Qn)(l:L_ Xk)(D env:L_ Int)(h:Xd n)(hl:QO Fm l)(hw:D.length<=1000):Qg (XS n l D env) λr=>r.2=0->JP n D.length r.1/\Hv n r.1:=by
 unfold XS
 have hpl:=h.pl
 refine T0 (T5 (by simp only[QH,QC];omega)) λ_ _=>?_
 refine T0 (Qg.up D.length (λst=>st.1) (λst=>(st.2.length=n.Places.length/\∀b∈st.2,Rt b/\(b.length:Int)<=st.1)/\Hv n st.2) (Q:=λq=>(∀x,q=.inl x->x≠0)/\∀m,q=.inr m->JP n D.length m/\Hv n m) rfl ⟨⟨by simp,λb hb=>?_⟩,λj b p hb hp k hk=>?_⟩ (λi st hi hn hJ=>?_)) (λq hq=>?_)
 ·have:=Pk hb
  subst this
  exact⟨Rt.nil,by simp⟩
 ·have:=Pk (XF hb)
  subst this
  simp[QE,QW]at hk
 ·obtain⟨x,m⟩:=st
  replace hi:x=(i:Int):=hi
  obtain⟨⟨hJ1,hJ2⟩,hJ3⟩:(m.length=n.Places.length/\∀b∈m,Rt b/\(b.length:Int)<=x)/\Hv n m:=hJ
  have err:∀y:Int,y≠0->(∀s',(Sum.inr (Sum.inl y):(Int×L_ QBg)⊕(Int⊕L_ QBg))=.inl s'->i<D.length/\s'.1=((i+1:Nat):Int)/\(s'.2.length=n.Places.length/\∀b∈s'.2,Rt b/\(b.length:Int)<=s'.1)/\Hv n s'.2)/\∀r,(Sum.inr (Sum.inl y):(Int×L_ QBg)⊕(Int⊕L_ QBg))=.inr r->(∀x,r=.inl x->x≠0)/\∀m,r=.inr m->JP n D.length m/\Hv n m:=
   λy hy=>⟨λs' e=>(by cases e),λr e=>(by cases e;exact⟨λx e=>(by cases e;exact hy),λm e=>(by cases e)⟩)⟩
  show Qg (KJ D l env n x m) _
  unfold KJ
  refine T1 (λhc=>?_) (λhc=>T2 (Qp ⟨λx e=>(by cases e),λm' e=>?_⟩))
  ·simp only[QC]at hc
   refine T0 (T4 (by omega) (by omega)) λe18 _=>?_
   refine T1 (λ_=>T2 (err _ (by decide))) λhc1=>?_
   simp only[Kn,QV]at hc1
   refine T0 (T4 (by omega) (by omega)) λe22 h22=>?_
   refine T0 (Qm7 e22.Expr env (hl.2 e22 h22).2) λx23 _=>?_
   refine T1 (λhc2=>T2 (err _ (by simpa using hc2))) λ_=>?_
   refine T0 (T4 (by omega) (by omega)) λe25 _=>?_
   refine T1 (λ_=>T2 (err _ (by decide))) λhc3=>?_
   simp only[Kn,QV]at hc3
   refine T0 (T4 (by omega) (by omega)).self λe29 h29=>?_
   refine T0 (Qkl _ _ _ h.k.1).self λx30 h30=>?_
   refine T1 (λ_=>T2 (err _ (by decide))) λhc4=>?_
   have hz:=GA (Qm6 _ _ _ h.k.1) h30.1 (by simpa using hc4)
   have h30:=h30.2 (by simpa using hc4)
   refine T0 (T4 (by omega) (by omega)).self λe32 h32e=>?_
   have h32:=h32e.2
   have h32e:=h32e.1
   have h29:=h29.1
   rw[Qa9,QB h30]
   simp only[Qx,Qd]
   have hb:=hJ2 e32 h32
   have key:∃s,Je e32 [(x30.1,1)]=some s/\(s.2=0->(Rt s.1/\s.1.length<=e32.length+1)/\∀k,QE s.1 k=QE e32 k+QE [(x30.1,1)] k):=by
    rcases UG e32 [(x30.1,1)] (by simp;omega)with⟨_,e⟩|⟨_,_,_,e⟩|⟨_,_,r,e,h1,hcn,h2⟩
    ·exact⟨_,e,λh=>by cases h⟩
    ·exact⟨_,e,λh=>by cases h⟩
    exact⟨_,e,λ_=>⟨⟨h1,by simpa using h2⟩,hcn⟩⟩
   obtain⟨s,es,hs⟩:=key
   rw[es,Qd]
   refine T0 (T4 (by omega) (by omega)) λ_ _=>?_
   refine T1 (λhc5=>T2 (err _ (by simpa using hc5))) λhc5=>?_
   obtain⟨hs,hcn⟩:=hs (by simpa using hc5)
   refine T2 (QG ⟨by omega,by subst hi;exact Qr (by omega) (by unfold maxLen;omega:D.length<=maxLen),⟨by simpa using hJ1,λb hb'=>?_⟩,λj b p hb' hp k hk=>?_⟩)
   ·subst hi
    show Rt b/\(b.length:Int)<=Qj ((i:Int)+1)
    rw[Qr (by omega) (by unfold maxLen;omega:D.length<=maxLen)]
    rcases Pf hb' with rfl | hb'
    ·exact⟨hs.1,by omega⟩
    have:=hJ2 b hb'
    exact⟨this.1,by omega⟩
   have hb':(m.set e25.Place.toNat s.1)[j]? = some b:=hb'
   by_cases cj:e25.Place.toNat=j
   ·subst cj
    rw[Qc9 (by omega)]at hb'
    cases hb'
    rw[Wu (by omega)]at h29 h32e
    rw[h29]at hp
    cases hp
    rw[hcn]at hk
    by_cases c0:0<QE e32 k
    ·exact hJ3 _ e32 e29 h32e h29 k c0
    have h9:0<QE [(x30.1,1)] k:=by omega
    have h8:x30.1=k:=by
     apply Decidable.byContradiction
     intro hne
     simp[QE,QW,hne]at h9
    obtain⟨z,hz1,hz2⟩:=hz
    exact⟨z,hz1,by omega⟩
   rw[Qc8 cj]at hb'
   exact hJ3 j b p hb' hp k hk
  cases e
  exact⟨⟨hJ1,λb hb=>⟨(hJ2 b hb).1,by have:=(hJ2 b hb).2;omega⟩⟩,hJ3⟩
 rcases q with q | q
 ·exact T2 λh=>absurd h (hq.1 q rfl)
 exact T2 λ_=>hq.2 q rfl
def Qf0 (a m:L_ QBg)(j:QO (QO λ_=>True) a)(hm:QO (QO λ_=>True) m):Qg (Ew a m) λ_=>True:=by
 unfold Ew XK
 refine T0 (P:=λ_=>True) ?_ λ_ _=>T3
 refine T1 (λ_=>T3) λh=>?_
 simp only[KI]at h
 refine T0 (Qg.up a.length (λst=>st) (λ_=>True) (Q:=λ_=>True) rfl trivial (λi st D hn hJ=>?_)) (λq _=>?_)
 ·show Qg (Xb a m st) _
  unfold Xb
  refine T1 (λh=>?_) (λ_=>T2 (Qp trivial))
  simp only[QC]at h
  refine T0 (T4 (by omega) (by omega)) λx hx=>?_
  refine T0 (T4 (by omega) (by omega)) λy hy=>?_
  refine T0 (P:=λ_=>True) (by obtain⟨r,hr,_⟩:=AP x y (j.2 x hx).1 (hm.2 y hy).1;exact⟨r,hr,trivial⟩) λ_ _=>?_
  exact T1 (λ_=>T2 (Qp trivial)) λ_=>T2 (QG ⟨by omega,by rw[D];exact Qr (by omega) j.1,trivial⟩)
 rcases q with q | q
 ·exact T3
 exact T3
def JP.len {n:Qn}{c:Nat}{m:L_ QBg}(h:JP n c m)(D:Xd n)(hc:c<=1000000):QO (QO λ_=>True) m:=
 ⟨by have:=h.1;have:=D.pl;unfold maxLen;omega,λb j=>⟨by have:=(h.2 b j).2;unfold maxLen;omega,λ_ _=>trivial⟩⟩
structure BOk (n:Qn) (m:List QBg) (b:QX):Prop where
 net:b.net=n
 mm:b.m=m
 task:b.task∈n.Tasks
def Qlg (n:Qn)(m:L_ QBg)(j:Int)(D:L_ Int)(h:Xd n):Qg (YE n m j D) λr=>r.1=0->BOk n m r.2:=by
 unfold YE
 refine T0 (Ql5 n j D h) λx hx=>?_
 refine T1 (λhc=>T2 λh=>absurd h (by simpa using hc)) λhc=>?_
 have:=hx (by simpa using hc)
 exact T0 (T4 this.1 this.2) λe he=>T2 λ_=>⟨rfl,rfl,he⟩
def QiU (n:Qn)(m:L_ QBg)(b:QX)(h:Xd n)(j:BOk n m b):Qg (Xu b) λ_=>True:=by
 unfold Xu
 refine T0 (Qm7 _ _ (h.k.2.2.1.2 _ j.task).2.2.1) λx _=>?_
 exact T1 (λ_=>T3) λ_=>T1 (λ_=>T3) λ_=>T3
def Qiy (n:Qn)(m:L_ QBg)(b:QX)(outs:L_ Int)(h:Xd n)(j:BOk n m b)(D:outs.length<=1000):Qg (XN b outs) λ_=>True:=by
 unfold XN
 rw[j.net]
 exact T0 (Nj n _ outs _ h (h.k.2.2.1.2 _ j.task).2.2.2.2.2.2.1 D) λx _=>T3
def Ql6 (l:L_ Int)(x:Int)(h:l.length<=maxLen):Qg (Yh l x) λ_=>True:=Ch l x ⟨h,λ_ _=>trivial⟩
def Nq (l:L_ Int)(h:l.length<=4294967296):Yn l=some l:=by
 unfold Yn
 rw[GJ (by simp;omega)];rfl
def Qba (l:L_ Int)(h:l.length<=4294967296):JC l=some (Df l):=by
 unfold JC
 rw[GJ (by omega)];rfl
def Qlh (n:Qn)(m:L_ QBg)(b:QX)(j:L_ Int)(h:Xd n)(hb:BOk n m b)(hm:QO (QO λ_=>True) m)(hi:j.length<=100):Qg (Xo b j) λ_=>True:=by
 have ki:=(h.k.2.2.1.2 _ hb.task).2.2.2.2.2.1
 have kl:=(h.tk _ hb.task).2.1
 unfold Xo
 rw[hb.net,hb.mm]
 refine T0 (Nj n _ j _ h ki (by omega)) λx hx=>?_
 refine T1 (λ_=>T3) λhc=>?_
 have hx:=hx (by simpa using hc)
 refine T0 (Qf0 _ _ (hx.1.len h (by omega)) hm) λy _=>?_
 refine T1 (λ_=>T3) λ_=>T1 (λ_=>T3) λ_=>?_
 refine T0 (Qg.up b.task.Ins.length (λst=>st) (λ_=>True) (Q:=λ_=>True) rfl trivial (λi st hi hn _=>?_)) (λq _=>?_)
 ·show Qg (XV b j st) _
  unfold XV
  refine T1 (λhc=>?_) (λ_=>T2 (Qp trivial))
  simp only[QC]at hc
  have D:Qg (Kl st) λo=>(∀s',o=.inl s'->i<b.task.Ins.length/\s'=((i+1:Nat):Int)/\True)/\∀r:Unit⊕Unit,o=.inr r->True:=
   T2 (QG (ix:=λst=>st) (J:=λ_=>True) (Q:=λ_=>True) ⟨by omega,by rw[hi];exact Qr (by omega) ki.1,trivial⟩)
  refine T0 (Ql6 j st (by unfold maxLen;omega)) λz _=>?_
  refine T1 (λ_=>D) λ_=>?_
  rw[Nq j (by omega),Qd]
  refine T0 (T5 (by simp;omega)) λ_ _=>?_
  rw[Qba _ (by simp;omega),Qd]
  refine T0 (T5 (by simp[DP])) λ_ _=>?_
  rw[hb.net]
  refine T0 (Nj n _ _ _ h ki (by rw[DP];simp;omega)) λu hu=>?_
  refine T0 (P:=λ_=>True) ?_ λv _=>?_
  ·unfold Ba
   rw[hb.mm]
   refine T1 (λhc2=>?_) λ_=>T3
   have hu:=hu (by simpa using hc2)
   refine T0 (Qf0 _ _ (hu.1.len h (by rw[DP];simp;omega)) hm) λ_ _=>T3
  unfold Bb
  exact T1 (λ_=>T2 (Qp trivial)) λ_=>D
 rcases q with q | q
 ·exact T3
 exact T3
def Ia (r:L_ (L_ Int)):Prop:=r.length<=16/\∀row∈r,row.length<=16
def chB (o:O_ QLL):Bool:=match o with
 | some r=>decide (r.length<=16)&&r.all λrow=>decide (row.length<=16)
 | none=>false
def Qkn {o:O_ QLL}(h:chB o=true):Qg o Ia:=by
 cases o with
 | none=>cases h
 | some r=>
  simp only[chB,QH,QC,XD]at h
  exact T2 h
def Qko {h:Int}(j:¬h<0)(D:¬16<h):h=0\/h=1\/h=2\/h=3\/h=4\/h=5\/h=6\/h=7\/h=8\/h=9\/h=10\/h=11\/h=12\/h=13\/h=14\/h=15\/h=16:=by omega
set_option maxRecDepth 100000 in
def Zd (D j:Int):Qg (Yx D j) Ia:=by
 by_cases hg:((decide (j<0))||((decide (16<j))||((D==3)&&(decide (4<j)))))=true
 ·unfold Yx
  rw[hg]
  exact T2 ⟨by simp,λr h=>by cases h⟩
 simp only[Kh,QH,QC,beq_iff_eq,not_or,not_and]at hg
 obtain⟨h0,h1,h2⟩:=hg
 by_cases e1:D=1
 ·subst e1
  rcases Qko h0 h1 with rfl | rfl | rfl | rfl | rfl | rfl | rfl | rfl | rfl | rfl | rfl | rfl | rfl | rfl | rfl | rfl | rfl<;>exact Qkn (by kernel_rfl)
 by_cases e2:D=2
 ·subst e2
  rcases Qko h0 h1 with rfl | rfl | rfl | rfl | rfl | rfl | rfl | rfl | rfl | rfl | rfl | rfl | rfl | rfl | rfl | rfl | rfl<;>exact Qkn (by kernel_rfl)
 by_cases e3:D=3
 ·subst e3
  have h3:=h2 rfl
  have:j=0\/j=1\/j=2\/j=3\/j=4:=by omega
  rcases this with rfl | rfl | rfl | rfl | rfl<;>exact Qkn (by kernel_rfl)
 have f1:(D==1)=false:=by simpa using e1
 have f2:(D==2)=false:=by simpa using e2
 have f3:(D==3)=false:=by simpa using e3
 unfold Yx ED
 rw[f1,f2,f3]
 exact T1 (λ_=>T2 ⟨by simp,λr h=>by cases h⟩) λ_=>T2 ⟨by simp,λr h=>by cases h⟩
def QoW (a b:L_ Int)(j:a.length<=maxLen):Qg (Jk a b) λ_=>True:=by
 unfold Jk
 refine T1 (λ_=>T3) λh=>?_
 simp only[KI]at h
 refine T0 (Qg.up a.length (λst=>st) (λ_=>True) (Q:=λ_=>True) rfl trivial (λi st D hn hJ=>?_)) (λq _=>?_)
 ·show Qg (Ku a b st) _
  unfold Ku
  refine T1 (λh=>?_) (λ_=>T2 (Qp trivial))
  simp only[QC]at h
  refine T0 (T4 (by omega) (by omega)) λx hx=>?_
  refine T0 (T4 (by omega) (by omega)) λy hy=>?_
  exact T1 (λ_=>T2 (Qp trivial)) λ_=>T2 (QG ⟨by omega,by rw[D];exact Qr (by omega) j,trivial⟩)
 rcases q with q | q
 ·exact T3
 exact T3
def Qkp (j h:Int)(row:L_ Int):Qg (DS j h row) λ_=>True:=by
 unfold DS KH KG
 refine T0 (Zd j h) λx D=>?_
 refine T0 (P:=λ_=>True) ?_ λ_ _=>T3
 refine T0 (P:=λ_=>True) ?_ λ_ _=>T3
 have hl:=D.1
 refine T0 (Qg.up x.length (λst=>st) (λ_=>True) (Q:=λ_=>True) rfl trivial (λi st hi hn hJ=>?_)) (λq _=>?_)
 ·show Qg (Yi x row st) _
  unfold Yi FW
  refine T1 (λhc=>?_) (λ_=>T2 (Qp trivial))
  simp only[QC]at hc
  refine T0 (T4 (by omega) (by omega)) λe he=>?_
  have:=D.2 e he
  refine T0 (T0 (QoW e row (by unfold maxLen;omega)) λ_ _=>T3) λ_ _=>?_
  exact T1 (λ_=>T2 (Qp trivial)) λ_=>T2 (QG ⟨by omega,by rw[hi];exact Qr (by omega) (by unfold maxLen;omega:x.length<=maxLen),trivial⟩)
 rcases q with q | q
 ·exact T3
 exact T3
def YQ (n:Qn)(o:Qh):Prop:=o.Vars.length<=20/\o.Ins.length<=20/\o.Outs.length<=20
def Qah (n:Qn)(m:L_ QBg)(o:Qh)(h:Xd n)(hm:QO (QO λ_=>True) m)(ho:YQ n o):Qg (Ye n m o) λ_=>True:=by
 unfold Ye
 refine T0 (Qlg n m o.Task o.Vars h) λx hx=>?_
 have k3:∀e,(e=0->x.1=0)->Qg (Jg x o e) λ_=>True:=λe he=>by
  unfold Jg
  refine T1 (λ_=>T3) λj=>?_
  have D:=hx (he (by simpa using j))
  refine T0 (P:=λ_=>True) ?_ λy _=>?_
  ·unfold Az
   refine T0 (Qkp _ _ _) λz _=>?_
   exact T1 (λ_=>T3) λ_=>T0 (Qkp _ _ _) λ_ _=>T3
  unfold AA
  refine T1 (λ_=>T3) λ_=>?_
  refine T0 (Qlh n m x.2 o.Ins h D hm (by have:=ho.2.1;omega)) λz _=>?_
  refine T1 (λ_=>T3) λ_=>?_
  exact T0 (Qiy n m x.2 o.Outs h D (by have:=ho.2.2;omega)) λ_ _=>T3
 refine T1 (λj=>?_) λj=>k3 _ λh=>h
 have j:x.1=0:=by simpa using j
 exact T0 (QiU n m x.2 h (hx j)) λe _=>k3 e λ_=>j
def Qiz (n:Qn)(o:Qh)(h:Xd n)(ho:YQ n o):Qg (WA n o) λr=>r.2=0->JP n 20 r.1/\Hv n r.1:=by
 unfold WA
 refine T0 (Ql5 n o.Task o.Vars h) λx hx=>?_
 refine T1 (λj=>T2 λh=>absurd h (by simpa using j)) λj=>?_
 have:=hx (by simpa using j)
 refine T0 (T4 this.1 this.2) λe he=>?_
 have hl:=ho.2.1
 exact T0 (Nj n _ _ _ h (h.k.2.2.1.2 _ he).2.2.2.2.2.1 (by omega)) λy hy=>T2 λD=>⟨(hy D).1.mono hl,(hy D).2⟩
def QiA (n:Qn)(o:Qh)(h:Xd n)(ho:YQ n o):Qg (HP n o) λr=>r.2=0->(JP n 20 r.1/\Hv n r.1)/\0<=o.Task/\o.Task<n.Tasks.length:=by
 unfold HP
 refine T0 (Ql5 n o.Task o.Vars h) λx hx=>?_
 refine T1 (λj=>T2 λh=>absurd h (by simpa using j)) λj=>?_
 have:=hx (by simpa using j)
 refine T0 (T4 this.1 this.2) λe he=>?_
 have hl:=ho.2.2
 exact T0 (Nj n _ _ _ h (h.k.2.2.1.2 _ he).2.2.2.2.2.2.1 (by omega)) λy hy=>T2 λD=>⟨⟨(hy D).1.mono hl,(hy D).2⟩,this⟩
def QiV {σ ρ:Type}{body:σ->O_ (σ⊕ρ)}(mu:σ->Nat)(J:σ->Prop){Q:ρ->Prop}{s0:σ}(hJ:J s0)
  (j:∀s,J s->Qg (body s) λo=>(∀h,o=.inl h->mu h<mu s/\J h)/\∀r,o=.inr r->Q r):Qg (Qs body s0) Q:=by
 have key:∀k s,mu s<=k->J s->Qg (Qs body s) Q:=by
  intro k
  induction k with
  | zero=>
   intro s hk hj
   obtain⟨o,D,h1,h2⟩:=j s hj
   cases o with
   | inl h=>have:=(h1 h rfl).1;omega
   | inr r=>exact⟨r,by rw[Yz,D];rfl,h2 r rfl⟩
  | succ k ih=>
   intro s hk hj
   obtain⟨o,D,h1,h2⟩:=j s hj
   cases o with
   | inl h=>
    obtain⟨h3,h4⟩:=h1 h rfl
    obtain⟨r,h5,h6⟩:=ih h (by omega) h4
    exact⟨r,by rw[Yz,D];exact h5,h6⟩
   | inr r=>exact⟨r,by rw[Yz,D];rfl,h2 r rfl⟩
 exact key _ s0 (JE _) hJ
def Qf1 {l:L_ Int}{k:Nat}(h:k<l.length)(Z:L_ Int)(x:Int):(l.take (k+1)++Z).set k x=l.take k++x::Z:=by
 have e:l.take (k+1)=l.take k++[l[k]]:=by rw[GZ,Qy h];rfl
 rw[e,WD,List.set_append,if_neg (by simp;omega)]
 have:k-(l.take k).length=0:=by simp;omega
 rw[this];rfl
def OE (m:L_ QBg)(h:m.length<=4294967296)(hb:∀b∈m,b.length<=4294967296):LM m=some m:=by
 unfold LM Jx
 rw[GJ (by simp;omega)]
 simp only[Qd,Pl]
 obtain⟨r,h1,h2⟩:=(Qg.up (body:=λst=>Ir m st.1 st.2) m.length (λst=>st.1) (λst=>st.2=m) (Q:=λq=>q=m) (s0:=(0,m)) rfl rfl (λi st hi hn D=>by
  obtain⟨x,l⟩:=st
  replace hi:x=(i:Int):=hi
  replace D:l=m:=D
  subst D
  show Qg (Ir l x l) _
  unfold Ir
  refine T1 (λhc=>?_) (λ_=>T2 (Qp rfl))
  simp only[QC]at hc
  have j:i<l.length:=by omega
  rw[hi,QR,Qy j,Qd]
  unfold KV
  rw[GJ (by have:=hb _ (Xs j);simp;omega)]
  simp only[Qd,Pl]
  exact T2 (QG ⟨j,Qr j (by unfold maxLen;omega),by simp⟩)))
 rw[h1,h2];rfl
def Qof (n:Qn)(a b:L_ QBg)(c d:Nat)(h:Xd n)(ha:JP n c a)(hb:JP n d b)(hcd:c+d<=1000000):Qg (WI a b) λr=>r.2=0->JP n (c+d) r.1:=by
 have hpl:=h.pl
 have ha1:=ha.1
 have hb1:=hb.1
 have j:min2 (a.length:Int) (b.length:Int)=(n.Places.length:Int):=by unfold min2;split<;>omega
 unfold WI
 rw[j]
 refine T0 (T5 (by simp only[QH,QC];omega)) λ_ _=>?_
 refine T0 (Qg.up n.Places.length (λst=>st.1) (λst=>st.2.length=n.Places.length/\∀b∈st.2,Rt b/\b.length<=c+d) (Q:=λq:Int⊕L_ QBg=>(∀x,q=.inl x->x≠0)/\∀m,q=.inr m->JP n (c+d) m) rfl ⟨by simp,λb hb=>?_⟩ (λi st hi hn hJ=>?_)) (λq hq=>?_)
 ·have:=Pk hb
  subst this
  exact⟨Rt.nil,by simp⟩
 ·obtain⟨x,m⟩:=st
  replace hi:x=(i:Int):=hi
  obtain⟨hJ1,hJ2⟩:m.length=n.Places.length/\∀b∈m,Rt b/\b.length<=c+d:=hJ
  show Qg (JU a b x m) _
  unfold JU
  rw[j]
  refine T1 (λhc=>?_) (λhc=>T2 (Qp ⟨λx e=>(by cases e),λm' e=>(by cases e;exact⟨hJ1,hJ2⟩)⟩))
  simp only[QC,RQ]at hc
  refine T0 (T4 (by omega) (by omega)) λu hu=>?_
  refine T0 (T4 (by omega) (by omega)) λv hv=>?_
  have hu2:=ha.2 u hu
  have hv2:=hb.2 v hv
  have key:∃s,Jh u v=some s/\(s.2=0->Rt s.1/\s.1.length<=c+d):=by
   rcases Fs u v (by omega)with⟨_,e⟩|⟨_,_,_,e⟩|⟨_,_,_,r,e,h1,_,h2⟩
   ·exact⟨_,e,λh=>by cases h⟩
   ·exact⟨_,e,λh=>by cases h⟩
   exact⟨_,e,λ_=>⟨h1,by show r.length<=_;omega⟩⟩
  obtain⟨s,es,hs⟩:=key
  rw[es,Qd]
  refine T0 (T4 (by omega) (by omega)) λ_ _=>?_
  refine T1 (λhc5=>T2 (Qp ⟨λx e=>(by cases e;simpa using hc5),λm' e=>(by cases e)⟩)) λhc5=>?_
  have hs:=hs (by simpa using hc5)
  refine T2 (QG ⟨by omega,by subst hi;exact Qr (by omega) (by unfold maxLen;omega:n.Places.length<=maxLen),by simpa using hJ1,λb D=>?_⟩)
  rcases Pf D with rfl | D
  ·exact hs
  exact hJ2 b D
 rcases q with q | q
 ·exact T2 λh=>absurd h (hq.1 q rfl)
 exact T2 λ_=>hq.2 q rfl
def Qm8 (n:Qn)(a b:L_ QBg)(c d:Nat)(h:Xd n)(ha:JP n c a)(hb:JP n d b)(hcd:c+d<=1000000):Qg (JV a b) λr=>r.2=0->JP n (c+d) r.1:=by
 have hpl:=h.pl
 have ha1:=ha.1
 have hb1:=hb.1
 have j:min2 (a.length:Int) (b.length:Int)=(n.Places.length:Int):=by unfold min2;split<;>omega
 unfold JV
 rw[j]
 refine T0 (T5 (by simp only[QH,QC];omega)) λ_ _=>?_
 refine T0 (Qg.up n.Places.length (λst=>st.1) (λst=>st.2.length=n.Places.length/\∀b∈st.2,Rt b/\b.length<=c+d) (Q:=λq:Int⊕L_ QBg=>(∀x,q=.inl x->x≠0)/\∀m,q=.inr m->JP n (c+d) m) rfl ⟨by simp,λb hb=>?_⟩ (λi st hi hn hJ=>?_)) (λq hq=>?_)
 ·have:=Pk hb
  subst this
  exact⟨Rt.nil,by simp⟩
 ·obtain⟨x,m⟩:=st
  replace hi:x=(i:Int):=hi
  obtain⟨hJ1,hJ2⟩:m.length=n.Places.length/\∀b∈m,Rt b/\b.length<=c+d:=hJ
  show Qg (YR a b x m) _
  unfold YR
  rw[j]
  refine T1 (λhc=>?_) (λhc=>T2 (Qp ⟨λx e=>(by cases e),λm' e=>(by cases e;exact⟨hJ1,hJ2⟩)⟩))
  simp only[QC,RQ]at hc
  refine T0 (T4 (by omega) (by omega)) λu hu=>?_
  refine T0 (T4 (by omega) (by omega)) λv hv=>?_
  have hu2:=ha.2 u hu
  have hv2:=hb.2 v hv
  have key:∃s,Je u v=some s/\(s.2=0->Rt s.1/\s.1.length<=c+d):=by
   rcases UG u v (by omega)with⟨_,e⟩|⟨_,_,_,e⟩|⟨_,_,r,e,h1,_,h2⟩
   ·exact⟨_,e,λh=>by cases h⟩
   ·exact⟨_,e,λh=>by cases h⟩
   exact⟨_,e,λ_=>⟨h1,by show r.length<=_;omega⟩⟩
  obtain⟨s,es,hs⟩:=key
  rw[es,Qd]
  refine T0 (T4 (by omega) (by omega)) λ_ _=>?_
  refine T1 (λhc5=>T2 (Qp ⟨λx e=>(by cases e;simpa using hc5),λm' e=>(by cases e)⟩)) λhc5=>?_
  have hs:=hs (by simpa using hc5)
  refine T2 (QG ⟨by omega,by subst hi;exact Qr (by omega) (by unfold maxLen;omega:n.Places.length<=maxLen),by simpa using hJ1,λb D=>?_⟩)
  rcases Pf D with rfl | D
  ·exact hs
  exact hJ2 b D
 rcases q with q | q
 ·exact T2 λh=>absurd h (hq.1 q rfl)
 exact T2 λ_=>hq.2 q rfl
def Qkq (n:Qn)(m:L_ QBg)(o:Qh)(c:Nat)(h:Xd n)(hm:JP n c m)(j:c<=900000)(ho:YQ n o):Qg (GF n m o) λr=>r.2=0->JP n (c+20) r.1:=by
 unfold GF
 refine T0 (Qah n m o h (hm.len h (by omega)) ho) λx _=>?_
 refine T1 (λj=>T2 λh=>absurd h (by simpa using j)) λ_=>?_
 refine T0 (Qiz n o h ho) λy hy=>?_
 refine T1 (λj=>T2 λh=>absurd h (by simpa using j)) λD=>?_
 exact T0 (Qof n m y.1 c 20 h hm (hy (by simpa using D)).1 (by omega)) λz hz=>T2 hz
def Qpz (n:Qn)(m:L_ QBg)(o:Qh)(c:Nat)(h:Xd n)(hm:JP n c m)(hc:c<=900000)(ho:YQ n o):Qg (Dp n m o) λr=>r.2=0->JP n (c+20) r.1:=by
 have hpl:=h.pl
 have hm1:=hm.1
 unfold Dp
 refine T0 (QiA n o h ho) λy hy=>?_
 refine T1 (λhc=>T2 λh=>absurd h (by simpa using hc)) λhc2=>?_
 obtain⟨⟨hy,_⟩,h1,h2⟩:=hy (by simpa using hc2)
 rw[OE m (by omega) (λb hb=>by have:=(hm.2 b hb).2;omega),Qd]
 refine T0 (T4 h1 h2) λe he=>?_
 have hcl:=(h.tk e he).2.2.2
 refine T0 (Qg.up e.Cancel.length (λst=>st.1) (λst=>JP n c st.2) (Q:=λq=>JP n c q) rfl hm (λi st hi hn D=>?_)) (λq hq=>?_)
 ·obtain⟨x,l⟩:=st
  replace hi:x=(i:Int):=hi
  replace D:JP n c l:=D
  show Qg (YL e x l) _
  unfold YL
  refine T1 (λhc=>?_) (λ_=>T2 (Qp D))
  simp only[QC]at hc
  refine T0 (T4 (by omega) (by omega)) λk _=>?_
  have next:∀l,JP n c l->Qg (Da x l) λo=>(∀s',o=.inl s'->i<e.Cancel.length/\s'.1=((i+1:Nat):Int)/\JP n c s'.2)/\∀r:L_ QBg,o=.inr r->JP n c r:=λl hl=>by
   unfold Da
   exact T2 (QG (ix:=λst:Int×L_ QBg=>st.1) (J:=λst:Int×L_ QBg=>JP n c st.2) ⟨by omega,by subst hi;exact Qr (by omega) (by unfold maxLen;omega:e.Cancel.length<=maxLen),hl⟩)
  refine T1 (λj=>?_) λ_=>next l D
  simp only[QH,QC]at j
  refine T0 (T4 j.1 j.2) λ_ _=>?_
  refine next _ ⟨by simpa using D.1,λb hb=>?_⟩
  rcases Pf hb with rfl | hb
  ·exact⟨Rt.nil,by simp⟩
  exact D.2 b hb
 show Qg (Gk y q) _
 unfold Gk
 exact T0 (Qm8 n q y.1 c 20 h hq hy (by omega)) λz hz=>T2 hz
def Qog (n:Qn)(m:L_ QBg)(o:Qh)(c:Nat)(h:Xd n)(hm:JP n c m)(D:c<=800000)(ho:YQ n o):Qg (Wp n m o) λr=>r.2=0->JP n (c+40) r.1:=by
 unfold Wp
 refine T0 (Qkq n m o c h hm (by omega) ho) λx hx=>?_
 refine T1 (λD=>T2 λh=>absurd h (by simpa using D)) λj=>?_
 exact T0 (Qpz n x.1 o (c+20) h (hx (by simpa using j)) (by omega) ho) λz hz=>T2 hz
end Go.Proofs
