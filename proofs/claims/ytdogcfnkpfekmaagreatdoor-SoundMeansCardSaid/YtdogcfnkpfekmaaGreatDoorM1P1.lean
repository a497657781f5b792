/- A part of the proof. -/
import Derived.Test.YtdogcfnkpfekmaaGreatDoorM1XPlA
import Derived.Test.YtdogcfnkpfekmaaGreatDoorM1V3
import Derived.Test.YtdogcfnkpfekmaaGreatDoorM1T2
import Derived.KernelRfl
set_option linter.all false
namespace Go.Vm
open Go Go.RowKit
def Qg {α:Type}(o:O_ α)(Q:α->Prop):Prop:=∃r,o=some r/\Q r
abbrev Xl {α:Type}(o:O_ α):Prop:=Qg o λ_=>True
section
variable {α β σ ρ:Type}
def Qg.ok {a:α}{Q:α->Prop}(h:Q a):Qg (some a) Q:=⟨a,rfl,h⟩
def Qg.okT {a:α}:Qg (some a) λ_=>True:=⟨a,rfl,trivial⟩
def Qg.bind {o:O_ α}{f:α->O_ β}{P:α->Prop}{Q:β->Prop}(h:Qg o P)(k:∀x,P x->Qg (f x) Q):Qg (o.bind f) Q:=by
 obtain⟨x,rfl,D⟩:=h
 exact k x D
def Qg.bif {c:Bool}{a b:O_ α}{Q:α->Prop}(h:c=true->Qg a Q)(D:c=false->Qg b Q):Qg (bif c then a else b) Q:=by
 cases c with
 | true=>exact h rfl
 | false=>exact D rfl
def Qg.chk {c:Bool}(h:c=true):Qg (chk c) λ_=>True:=⟨(),PS h,trivial⟩
def Qg.idx {l:L_ α}{j:Int}(h:0<=j)(D:j<l.length):Qg (idx l j) λx=>x∈l:=by
 rw[Qc1 h D]
 exact⟨_,rfl,XV _⟩
def Qg.get {l:L_ α}{j:Nat}(h:j<l.length):Qg (l[j]?) λx=>x∈l:=by
 rw[Qx h]
 exact⟨_,rfl,XV _⟩
def Qg.sidx {s:ByteArray}{j:Int}(h:0<=j)(D:j<s.size):Qg (sidx s j) λ_=>True:=by
 unfold Vm.sidx
 rw[if_pos h]
 have:j.toNat<s.size:=by omega
 rw[getElem?_pos s j.toNat this]
 exact⟨_,rfl,trivial⟩
def Qg.mono {o:O_ α}{P Q:α->Prop}(h:Qg o P)(k:∀x,P x->Q x):Qg o Q:=let ⟨r,h1,h2⟩:=h;⟨r,h1,k r h2⟩
def Qg.tot {o:O_ α}{P:α->Prop}(h:Qg o P):∃r,o=some r:=let ⟨r,h1,_⟩:=h;⟨r,h1⟩
def Qg.self {o:O_ α}{P:α->Prop}(h:Qg o P):Qg o λx=>o=some x/\P x:=let ⟨r,h1,h2⟩:=h;⟨r,h1,h1,h2⟩
def Qg.up {body:σ->O_ (σ⊕ρ)}(n:Nat)(ix:σ->Int)(J:σ->Prop){Q:ρ->Prop}{s0:σ}(h0:ix s0=0)(hJ:J s0)
  (D:∀(i:Nat) s,ix s=(i:Int)->i<=n->J s->Qg (body s) λo=>(∀h,o=.inl h->i<n/\ix h=((i+1:Nat):Int)/\J h)/\∀r,o=.inr r->Q r):Qg (QE body s0) Q:=by
 have key:∀k i s,i+k=n->ix s=(i:Int)->J s->∃r,QE body s=some r/\Q r:=by
  intro k
  induction k with
  | zero=>
   intro i s hk hi hj
   obtain⟨o,ho,h1,h2⟩:=D i s hi (by omega) hj
   rw[KJ,ho]
   cases o with
   | inl h=>have:=(h1 h rfl).1;omega
   | inr r=>exact⟨r,rfl,h2 r rfl⟩
  | succ k ih=>
   intro i s hk hi hj
   obtain⟨o,ho,h1,h2⟩:=D i s hi (by omega) hj
   rw[KJ,ho]
   cases o with
   | inl h=>
    obtain⟨_,h3,h4⟩:=h1 h rfl
    exact ih (i+1) h (by omega) h3 h4
   | inr r=>exact⟨r,rfl,h2 r rfl⟩
 exact key n 0 s0 (by omega) h0 hJ
def QK {s:σ}{n i:Nat}{ix:σ->Int}{J:σ->Prop}{Q:ρ->Prop}(h:i<n/\ix s=((i+1:Nat):Int)/\J s):
  (∀D,(Sum.inl s:σ⊕ρ)=.inl D->i<n/\ix D=((i+1:Nat):Int)/\J D)/\∀r,(Sum.inl s:σ⊕ρ)=.inr r->Q r:=
 ⟨λD e=>(by cases e;exact h),λr e=>(by cases e)⟩
def Qm {r:ρ}{n i:Nat}{ix:σ->Int}{J:σ->Prop}{Q:ρ->Prop}(h:Q r):
  (∀D,(Sum.inr r:σ⊕ρ)=.inl D->i<n/\ix D=((i+1:Nat):Int)/\J D)/\∀r',(Sum.inr r:σ⊕ρ)=.inr r'->Q r':=
 ⟨λD e=>(by cases e),λr' e=>(by cases e;exact h)⟩
end
def Xe {α:Type}(ok:α->Prop)(l:L_ α):Prop:=l.length<=maxLen/\∀x∈l,ok x
def Xe.drop {α:Type}{ok:α->Prop}{l:L_ α}(h:Xe ok l)(k:Nat):Xe ok (l.drop k):=⟨by have:=h.1;rw[Mt];omega,λx D=>h.2 x (Sm D)⟩
def Xe.take {α:Type}{ok:α->Prop}{l:L_ α}(h:Xe ok l)(k:Nat):Xe ok (l.take k):=⟨by have:=h.1;rw[WJ];omega,λx D=>h.2 x (Bj D)⟩
def Xe.nil {α:Type}{ok:α->Prop}:Xe ok ([]:L_ α):=⟨by simp,λx h=>by cases h⟩
def Xe.app {α:Type}{ok:α->Prop}{l m:L_ α}(h:Xe ok l)(hm:Xe ok m)(hs:l.length+m.length<=maxLen):Xe ok (l++m):=⟨by simpa using hs,λx hx=>by rcases YI.1 hx with D | D;exact h.2 x D;exact hm.2 x D⟩
def UL (s:ByteArray):Prop:=s.size<=maxLen
def QlZ {s:ByteArray}(h:CB s (⟨#[]⟩:ByteArray)=false):0<s.size:=by
 apply Nat.pos_of_ne_zero
 intro D
 have:s=⟨#[]⟩:=by
  obtain⟨a⟩:=s
  have:a=#[]:=Array.eq_empty_of_size_eq_zero D
  rw[this]
 subst this
 simp[CB]at h
def Nx {a b:Int}:0<=min2 a b↔0<=a/\0<=b:=by unfold min2;split<;>omega
def Ny {a b n:Int}:max2 a b<n↔a<n/\b<n:=by unfold max2;split<;>omega
def Lm {a b n:Int}:max2 a b<=n↔a<=n/\b<=n:=by unfold max2;split<;>omega
abbrev T0:=@Qg.bind
abbrev T1:=@Qg.bif
abbrev T2:=@Qg.ok
abbrev T3:=@Qg.okT
abbrev T4:=@Qg.idx
abbrev T5:=@Qg.chk
abbrev T6:=@Qg.mono
def HD (l:L_ (Int×Int)):Prop:=l.Pairwise λp q=>p.1<q.1
def PT (l:L_ (Int×Int)):Prop:=l.Pairwise λp q=>p.1≠q.1
def HD.nd {l:L_ (Int×Int)}(h:HD l):PT l:=h.imp λh=>by omega
def Uz {p:Int×Int}{l:L_ (Int×Int)}:HD (p::l)↔(∀q∈l,p.1<q.1)/\HD l:=Vt
def Qj1 {p:Int×Int}{l:L_ (Int×Int)}:PT (p::l)↔(∀q∈l,p.1≠q.1)/\PT l:=Vt
def Qgr {l:L_ (Int×Int)}{k:Int}:Qs l k=none↔∀p∈l,p.1≠k:=by
 induction l with
 | nil=>simp[Qs]
 | cons p l D=>
  obtain⟨a,x⟩:=p
  rw[Yc]
  by_cases h:a=k
  ·simp[h]
  simp[h,D]
def DR {l:L_ (Int×Int)}(hn:PT l){k v:Int}:Qs l k=some v↔(k,v)∈l:=by
 induction l with
 | nil=>simp[Qs]
 | cons p l ih=>
  obtain⟨a,x⟩:=p
  obtain⟨D,h2⟩:=Qj1.1 hn
  rw[Yc]
  by_cases h:a=k
  ·subst h
   rw[if_pos rfl]
   constructor
   ·intro e;cases e;simp
   intro e
   rcases Yl.1 e with e | e
   ·cases e;rfl
   exact absurd rfl (D (a,v) e)
  rw[if_neg h,ih h2]
  constructor
  ·intro e;exact XZ _ e
  intro e
  rcases Yl.1 e with e | e
  ·cases e;exact absurd rfl h
  exact e
def Ql0 {l m:L_ (Int×Int)}(hl:PT l)(h:l.Perm m)(k:Int):Qs l k=Qs m k:=by
 have hm:PT m:=(h.pairwise_iff (λD=>Ne.symm D)).1 hl
 apply Option.ext
 intro v
 rw[DR hl,DR hm]
 exact h.mem_iff
def Qj2 {l m:L_ (Int×Int)}(hl:HD l)(hm:HD m)(h:∀k,Qs l k=Qs m k):l=m:=by
 induction l generalizing m with
 | nil=>
  cases m with
  | nil=>rfl
  | cons p m=>have:=h p.1;rw[Yc (κ:=Int)]at this;simp[Qs]at this
 | cons p l ih=>
  obtain⟨a,x⟩:=p
  cases m with
  | nil=>have:=h a;rw[Yc]at this;simp[Qs]at this
  | cons q m=>
   obtain⟨b,y⟩:=q
   obtain⟨l1,l2⟩:=Uz.1 hl
   obtain⟨m1,m2⟩:=Uz.1 hm
   have D:a=b:=by
    rcases Int.lt_trichotomy a b with hc | hc | hc
    ·have e:=h a
     rw[Yc,Yc,if_pos rfl,if_neg (by omega),Qgr.2 (λp hp=>by have:=m1 p hp;simp at this;omega)]at e
     cases e
    ·exact hc
    have e:=h b
    rw[Yc,Yc,if_neg (by omega),if_pos rfl,Qgr.2 (λp hp=>by have:=l1 p hp;simp at this;omega)]at e
    cases e
   subst D
   have e:=h a
   rw[Yc,Yc,if_pos rfl,if_pos rfl]at e
   cases e
   rw[ih l2 m2 λk=>?_]
   by_cases hk:a=k
   ·subst hk
    rw[Qgr.2 (λp hp=>by have:=l1 p hp;simp at this;omega),Qgr.2 (λp hp=>by have:=m1 p hp;simp at this;omega)]
   have:=h k
   rwa[Yc,Yc,if_neg hk,if_neg hk]at this
def Qo3 {l:L_ (Int×Int)}{k v:Int}{p:Int×Int}(h:p∈BE l k v):∃q∈l,q.1=p.1:=by
 induction l with
 | nil=>cases h
 | cons q l ih=>
  obtain⟨a,x⟩:=q
  rw[BE]at h
  split at h
  ·rename_i e
   rcases Yl.1 h with rfl | h
   ·exact⟨_,XR,e⟩
   exact⟨p,XZ _ h,rfl⟩
  rcases Yl.1 h with rfl | h
  ·exact⟨_,XR,rfl⟩
  obtain⟨q,D,h2⟩:=ih h
  exact⟨q,XZ _ D,h2⟩
def Qna {lt:Int->Int->Bool}{l:L_ (Int×Int)}{k v:Int}{p:Int×Int}(h:p∈UQ lt l k v):p=(k,v)\/p∈l:=by
 induction l with
 | nil=>simp[UQ]at h;exact .inl h
 | cons q l D=>
  obtain⟨a,x⟩:=q
  rw[UQ]at h
  split at h
  ·rcases Yl.1 h with h | h
   ·exact .inl h
   exact .inr h
  rcases Yl.1 h with h | h
  ·exact .inr (h▸XR)
  rcases D h with h | h
  ·exact .inl h
  exact .inr (XZ _ h)
def Qjh {l:L_ (Int×Int)}(h:HD l)(k v:Int):HD (XG KM l k v):=by
 unfold XG
 split
 ·rename_i x hx
  clear hx
  induction l with
  | nil=>exact h
  | cons p l ih=>
   obtain⟨a,x⟩:=p
   obtain⟨h1,h2⟩:=Uz.1 h
   rw[BE]
   split
   ·rename_i e;subst e;exact Uz.2 ⟨h1,h2⟩
   refine Uz.2 ⟨λq D=>?_,ih h2⟩
   obtain⟨q',hq',e⟩:=Qo3 D
   rw[<-e];exact h1 _ hq'
 rename_i hn
 induction l with
 | nil=>exact Vu _ _
 | cons p l ih=>
  obtain⟨a,x⟩:=p
  obtain⟨h1,h2⟩:=Uz.1 h
  rw[Yc]at hn
  split at hn
  ·cases hn
  rename_i hne
  rw[UQ]
  split
  ·rename_i e
   have e:k<a:=Xw e
   refine Uz.2 ⟨λq D=>?_,h⟩
   rcases Yl.1 D with rfl | D
   ·exact e
   have:=h1 q D;simp at this ⊢;omega
  rename_i e
  have e:¬k<a:=λc=>e (Yu c)
  refine Uz.2 ⟨λq D=>?_,ih h2 hn⟩
  rcases Qna D with rfl | D
  ·show a<k;omega
  exact h1 q D
def Qnb {l:L_ (Int×Int)}{k v:Int}:(BE l k v).length=l.length:=by
 induction l with
 | nil=>rfl
 | cons p l h=>
  obtain⟨a,x⟩:=p
  rw[BE]
  split
  ·rfl
  simp[h]
def Qnc {lt:Int->Int->Bool}{l:L_ (Int×Int)}{k v:Int}:(UQ lt l k v).length=l.length+1:=by
 induction l with
 | nil=>rfl
 | cons p l h=>
  obtain⟨a,x⟩:=p
  rw[UQ]
  split
  ·rfl
  simp[h]
def Qnd {l:L_ (Int×Int)}{k v:Int}:(XG KM l k v).length<=l.length+1:=by
 unfold XG
 split
 ·rw[Qnb];omega
 rw[Qnc];exact Jp _
def Qne {l:L_ (Int×Int)}{k v:Int}(h:HD (l++[(k,v)])):XG KM l k v=l++[(k,v)]:=by
 have hl:HD l:=(QfD.1 h).1
 refine Qj2 (Qjh hl k v) h λj=>?_
 rw[Wa]
 have D:∀p∈l,p.1<k:=λp hp=>(QfD.1 h).2.2 p hp (k,v) (by simp)
 clear h
 induction l with
 | nil=>
  show(if j=k then some v else none)=(if k=j then some v else none)
  by_cases c:j=k
  ·rw[if_pos c,if_pos c.symm]
  rw[if_neg c,if_neg (λe=>c e.symm)]
 | cons p l ih=>
  obtain⟨a,x⟩:=p
  have h1:=D (a,x) XR
  simp only at h1
  rw[List.cons_append,Yc,Yc]
  rw[<-ih (Uz.1 hl).2 λp hp=>D p (XZ _ hp)]
  by_cases c:j=k
  ·subst c;rw[if_pos rfl,if_pos rfl,if_neg (by omega)]
  rw[if_neg c,if_neg c]
section
variable {ρ:Type}{g:Int->Int->Int}{stop:Int->Bool}{q:O_ ρ}{body:L_ (Int×Int)->Int×Int->O_ (L_ (Int×Int)⊕ρ)}
def Xc (s:L_ (Int×Int))(k:Int):Int:=(Qs s k).getD 0
def QdC (g:Int->Int->Int)(s l:L_ (Int×Int))(k:Int):O_ Int:=match Qs l k with
 | some v=>some (g (Xc s k) v)
 | none=>Qs s k
def Qbs (hb:∀s p,body s p=bif stop (g (Xc s p.1) p.2)then q.map Sum.inr else some (.inl (XG KM s p.1 (g (Xc s p.1) p.2)))):
  ∀l s,HD s->PT l->((∃p∈l,stop (g (Xc s p.1) p.2)=true)/\Jv body s l=q.map Sum.inr)\/
   ((∀p∈l,stop (g (Xc s p.1) p.2)=false)/\∃s',Jv body s l=some (.inl s')/\HD s'/\s'.length<=s.length+l.length/\∀k,Qs s' k=QdC g s l k):=by
 intro l
 induction l with
 | nil=>intro s hs _;exact .inr ⟨λp h=>(by cases h),s,rfl,hs,by simp,λk=>rfl⟩
 | cons p l ih=>
  intro s hs hl
  obtain⟨h1,h2⟩:=Qj1.1 hl
  simp only[Jv,hb]
  cases hst:stop (g (Xc s p.1) p.2)with
  | true=>exact .inl ⟨⟨p,XR,hst⟩,by cases q<;>rfl⟩
  | false=>
   simp only[Xh,Qd,Sum.elim_inl]
   have hc:∀r∈l,Xc (XG KM s p.1 (g (Xc s p.1) p.2)) r.1=Xc s r.1:=λr D=>by
    unfold Xc
    rw[Wa,if_neg (λe=>h1 r D e.symm)]
   rcases ih _ (Qjh hs p.1 (g (Xc s p.1) p.2)) h2 with⟨⟨r,D,h3⟩,h4⟩|⟨h3,s',h4,h5,h6,h7⟩
   ·exact .inl ⟨⟨r,XZ _ D,by rw[hc r D]at h3;exact h3⟩,h4⟩
   refine .inr ⟨λr D=>?_,s',h4,h5,?_,λk=>?_⟩
   ·rcases Yl.1 D with rfl | D
    ·exact hst
    have:=h3 r D;rwa[hc r D]at this
   ·have:=Qnd (l:=s) (k:=p.1) (v:=g (Xc s p.1) p.2)
    simp;omega
   rw[h7]
   obtain⟨a,x⟩:=p
   unfold QdC
   rw[Yc]
   by_cases e:a=k
   ·subst e
    rw[if_pos rfl,Qgr.2 (λr D=>Ne.symm (h1 r D)),Wa,if_pos rfl]
   rw[if_neg e]
   simp only[Xc,Wa,if_neg (λe'=>e (Eq.symm e'):¬k=a)]
def Qgs (hb:∀s p,body s p=bif stop (g (Xc s p.1) p.2)then q.map Sum.inr else some (.inl (XG KM s p.1 (g (Xc s p.1) p.2)))){l s:L_ (Int×Int)}(hs:HD s)(hl:PT l):
  ((∃p∈l,stop (g (Xc s p.1) p.2)=true)/\∀r,q=some r->Fk body s l=some (.inr r))\/
   ((∀p∈l,stop (g (Xc s p.1) p.2)=false)/\∃s',Fk body s l=some (.inl s')/\HD s'/\s'.length<=s.length+l.length/\∀k,Qs s' k=QdC g s l k):=by
 have key:∀l':L_ (Int×Int),l'.Perm l->Jv body s l'=Jv body s l:=λl' hp=>by
  have hl':PT l':=(hp.pairwise_iff (λhab=>Ne.symm hab)).2 hl
  rcases Qbs hb l' s hs hl' with⟨⟨p,h,h2⟩,D⟩|⟨h,s1,D,h4,_,h5⟩
  ·rcases Qbs hb l s hs hl with⟨_,g3⟩|⟨g1,_⟩
   ·rw[D,g3]
   rw[g1 p (hp.mem_iff.1 h)]at h2;cases h2
  rcases Qbs hb l s hs hl with⟨⟨p,g1,g2⟩,g3⟩|⟨g1,s2,g3,g4,_,g5⟩
  ·rw[h p (hp.mem_iff.2 g1)]at g2;cases g2
  rw[D,g3,Qj2 h4 g4 λk=>?_]
  rw[h5,g5]
  unfold QdC
  rw[Ql0 hl' hp k]
 rcases Qbs hb l s hs hl with⟨h,D⟩|⟨h,s1,D,h4,h6,h5⟩
 ·exact .inl ⟨h,λr hr=>CD.2 ⟨key,by rw[D,hr];rfl⟩⟩
 exact .inr ⟨h,s1,CD.2 ⟨key,D⟩,h4,h6,h5⟩
end
def QkQ {ρ:Type}{bad:Int×Int->Bool}{q:ρ}{body:Unit->Int×Int->O_ (Unit⊕ρ)}(D:∀p,body () p=some (bif bad p then .inr q else .inl ()))(l:L_ (Int×Int)):
  Fk body () l=some (bif l.any bad then .inr q else .inl ()):=by
 have h:∀l:L_ (Int×Int),Jv body () l=some (bif l.any bad then .inr q else .inl ()):=by
  intro l
  induction l with
  | nil=>rfl
  | cons p l ih=>
   simp only[Jv,D,Qd,List.any_cons]
   cases bad p with
   | true=>rfl
   | false=>exact ih
 refine CD.2 ⟨λl' hp=>?_,h l⟩
 rw[h,h]
 congr 2
 rw[QaI,Iw,Iw]
 exact⟨λ⟨x,a,b⟩=>⟨x,hp.mem_iff.1 a,b⟩,λ⟨x,a,b⟩=>⟨x,hp.mem_iff.2 a,b⟩⟩
def Cj (a:Int):L_ (Int×Int)->Bool
 | []=>true
 | p::r=>!(decide (p.1<=a)||(decide (p.2<1)||decide (1048576<p.2)))&&Cj p.1 r
def Qoc {a:Int}{l:L_ (Int×Int)}:Cj a l=true↔HD l/\∀p∈l,a<p.1/\1<=p.2/\p.2<=1048576:=by
 induction l generalizing a with
 | nil=>simp[Cj,HD]
 | cons p l ih=>
  rw[Cj,QJ,ih,Uz]
  simp only[UA,KC,Xm]
  constructor
  ·rintro ⟨⟨h1,h2,D⟩,h4,h5⟩
   refine⟨⟨λq h=>(h5 q h).1,h4⟩,λq h=>?_⟩
   rcases Yl.1 h with rfl | h
   ·omega
   have:=h5 q h;omega
  rintro ⟨⟨h1,h2⟩,D⟩
  have:=D p XR
  exact⟨by omega,h2,λq h=>⟨h1 q h,(D q (XZ _ h)).2⟩⟩
def Rt (l:L_ (Int×Int)):Prop:=HD l/\∀p∈l,0<=p.1/\1<=p.2/\p.2<=1048576
def DH {l:L_ (Int×Int)}:Cj (-1) l=true↔Rt l:=by
 rw[Qoc]
 constructor
 ·rintro ⟨h,D⟩;exact⟨h,λp hp=>by have:=D p hp;omega⟩
 rintro ⟨h,D⟩;exact⟨h,λp hp=>by have:=D p hp;omega⟩
def Rt.nil : Rt []:=⟨List.Pairwise.nil,λp h=>by cases h⟩
def FJ {l:L_ (Int×Int)}(h:PT l){p:Int×Int}(hp:p∈l):Xc l p.1=p.2:=by
 unfold Xc;rw[(DR h).2 (show(p.1,p.2)∈l from hp)];rfl
def Rt.cnt {l:L_ (Int×Int)}(h:Rt l)(k:Int):0<=Xc l k/\Xc l k<=1048576:=by
 unfold Xc
 cases e:Qs l k with
 | none=>simp
 | some v=>have:=h.2 _ ((DR h.1.nd).1 e);simp at this ⊢;omega
def Rt.cnt_pos {l:L_ (Int×Int)}(h:Rt l){k:Int}(D:0<Xc l k):0<=k:=by
 unfold Xc at D
 cases e:Qs l k with
 | none=>rw[e]at D;simp at D
 | some v=>exact(h.2 _ ((DR h.1.nd).1 e)).1
def Ik (l:L_ (Int×Int)):L_ (Int×Int):=l.filter λp=>decide (0<p.2)
def Qji {l:L_ (Int×Int)}(h:HD l)(k:Int):Xc (Ik l) k=if 0<Xc l k then Xc l k else 0:=by
 have hp:HD (Ik l):=h.sublist List.filter_sublist
 by_cases c:0<Xc l k
 ·rw[if_pos c]
  unfold Xc at c
  cases e:Qs l k with
  | none=>rw[e]at c;simp at c
  | some v=>
   rw[e]at c
   have D:(k,v)∈Ik l:=Ex.2 ⟨(DR h.nd).1 e,by simpa using c⟩
   unfold Xc
   rw[(DR hp.nd).2 D,e]
 rw[if_neg c]
 unfold Xc
 cases e:Qs (Ik l) k with
 | none=>rfl
 | some v=>
  have D:=Ex.1 ((DR hp.nd).1 e)
  have h2:=(DR h.nd).2 D.1
  unfold Xc at c
  rw[h2]at c
  simp at D c;omega
def Ql1 {l:L_ (Int×Int)}(h:HD l)(hb:∀k,0<Xc l k->0<=k/\Xc l k<=1048576):Rt (Ik l):=by
 refine⟨h.sublist List.filter_sublist,λp hp=>?_⟩
 obtain⟨D,h2⟩:=Ex.1 hp
 have h3:=FJ h.nd D
 have h4:0<p.2:=Xw h2
 have:=hb p.1 (by omega)
 omega
def Ql2 {l:L_ (Int×Int)}(h:HD l):JG (l.map Prod.fst)=l.map Prod.fst:=by
 rw[Qbb]
 refine List.mergeSort_of_pairwise ?_
 rw[NH]
 exact h.imp λh=>by simp;omega
def upL : Int->Nat->L_ Int
 | _,0=>[]
 | x,k+1=>x::upL (x+1) k
def binds : L_ Int->L_ (L_ Int)
 | []=>[[]]
 | s::r=>(0::upL 1 (s-1).toNat).flatMap λx=>(binds r).map (x::·)
def DI : L_ Int->L_ Int->L_ (L_ Int)
 | s::r,x::d=>(DI r d).map (x::·)++(upL (x+1) (s-(x+1)).toNat).flatMap λy=>(binds r).map (y::·)
 | _,_=>[]
def Il (l:L_ Int):L_ Int:=List.replicate l.length 0
def QeA (l:L_ Int):binds l=Il l::DI l (Il l):=by
 induction l with
 | nil=>rfl
 | cons s r h=>
  show(0::upL 1 (s-1).toNat).flatMap (λx=>(binds r).map (x::·))=(0::Il r)::((DI r (Il r)).map (0::·)++(upL (0+1) (s-(0+1)).toNat).flatMap λy=>(binds r).map (y::·))
  rw[Ms,Int.zero_add]
  have:(binds r).map (λx=>(0:Int)::x)=(0::Il r)::(DI r (Il r)).map (0::·):=by rw[h];rfl
  rw[this];rfl
def SG : L_ Int->L_ Int->O_ (L_ Int)
 | s::r,x::d=>match SG r d with
  | some e=>some (x::e)
  | none=>if x+1<s then some ((x+1)::Il r)else none
 | _,_=>none
def QkR : ∀l d:L_ Int,DI l d=match SG l d with
  | none=>[]
  | some e=>e::DI l e:=by
 intro l
 induction l with
 | nil=>intro d;rfl
 | cons s r D=>
  intro d
  cases d with
  | nil=>rfl
  | cons x d=>
   have h:=D d
   rw[SG]
   cases e:SG r d with
   | some e'=>
    rw[e]at h
    simp only[DI,h];rfl
   | none=>
    rw[e]at h
    simp only at h
    simp only[DI,h,List.map_nil,Vs]
    by_cases c:x+1<s
    ·rw[if_pos c]
     rw[show(s-(x+1)).toNat=(s-(x+1+1)).toNat+1 by omega,upL,Ms]
     have:(binds r).map (λz=>(x+1)::z)=((x+1)::Il r)::(DI r (Il r)).map ((x+1)::·):=by rw[QeA r];rfl
     rw[this];rfl
    rw[if_neg c,show(s-(x+1)).toNat=0 by omega];rfl
def QhX : ∀l d:L_ Int,(∀(j:Nat) x s,d[j]? = some x->l[j]? = some s->¬x+1<s)->SG l d=none:=by
 intro l
 induction l with
 | nil=>intro d _;cases d<;>rfl
 | cons s r ih=>
  intro d h
  cases d with
  | nil=>rfl
  | cons x d=>
   rw[SG,ih d λj y z D h2=>h (j+1) y z (by simpa using D) (by simpa using h2)]
   simp only
   rw[if_neg (h 0 x s rfl rfl)]
def Qod : ∀(k:Nat) (l d:L_ Int) (x s:Int),l.length=d.length->d[k]? = some x->l[k]? = some s->x+1<s->(∀(j:Nat) y z,k<j->d[j]? = some y->l[j]? = some z->¬y+1<z)->
  SG l d=some (d.take k++(x+1)::List.replicate (d.length-(k+1)) 0):=by
 intro k
 induction k with
 | zero=>
  intro l d x s hl h hs D ha
  cases l with
  | nil=>cases hs
  | cons s' r=>
   cases d with
   | nil=>cases h
   | cons x' d=>
    simp only[List.getElem?_cons_zero,Option.some.injEq]at h hs
    subst h;subst hs
    rw[SG,QhX r d λj y z h1 h2=>ha (j+1) y z (by omega) (by simpa using h1) (by simpa using h2)]
    simp only
    rw[if_pos D]
    simp only[DU]at hl
    simp[Il];omega
 | succ k ih=>
  intro l d x s hl h hs D ha
  cases l with
  | nil=>cases hs
  | cons s' r=>
   cases d with
   | nil=>cases h
   | cons x' d=>
    simp only[Qdr]at h hs
    simp only[DU,Nat.add_right_cancel_iff]at hl
    rw[SG,ih r d x s hl h hs D λj y z h0 h1 h2=>ha (j+1) y z (by omega) (by simpa using h1) (by simpa using h2)]
    simp
def inB : L_ Int->L_ Int->Prop
 | [],[]=>True
 | s::r,x::d=>0<=x/\(x=0\/x<s)/\inB r d
 | _,_=>False
def Qoe {y x:Int}{k:Nat}:y∈upL x k↔x<=y/\y<x+k:=by
 induction k generalizing x with
 | zero=>
  simp only[upL,List.not_mem_nil,false_iff];omega
 | succ k h=>simp only[upL,Yl,h];omega
def Ql3 {l d:L_ Int}:d∈binds l↔inB l d:=by
 induction l generalizing d with
 | nil=>cases d<;>simp[binds,inB]
 | cons s r ih=>
  cases d with
  | nil=>simp[binds,inB]
  | cons x d=>
   simp only[binds,List.mem_flatMap,Yl,Qoe,Yh,List.cons.injEq,inB,<-ih]
   constructor
   ·rintro ⟨y,D,e,h,rfl,rfl⟩
    exact⟨by omega,by omega,h⟩
   rintro ⟨D,h,h3⟩
   exact⟨x,by omega,d,h3,rfl,rfl⟩
def Qof {l d:L_ Int}(h:inB l d):d.length=l.length:=by
 induction l generalizing d with
 | nil=>cases d with
  | nil=>rfl
  | cons x d=>exact h.elim
 | cons s r D=>cases d with
  | nil=>exact h.elim
  | cons x d=>simp[D h.2.2]
section
variable {α:Type}
def Wf (most:Nat)(h X:L_ α):L_ α⊕L_ α:=if (h++X).length<most then .inr (h++X)else .inl ((h++X).take most)
def Qav {most:Nat}{D:L_ α}(h:D.length<most):Wf most D []=.inr D:=by
 unfold Wf
 rw[Vr,if_pos h]
def Qnf {most:Nat}{D X:L_ α}(h:D.length=most):Wf most D X=.inl D:=by
 unfold Wf
 rw[if_neg (by simp;omega)]
 subst h
 rw[List.take_left]
def Qng {most:Nat}{h X:L_ α}{x:α}:Wf most h (x::X)=Wf most (h++[x]) X:=by
 unfold Wf
 rw[WI];rfl
def Qj3 {most:Nat}{h X Y:L_ α}:Wf most h (X++Y)=match Wf most h X with
  | .inl a=>.inl a
  | .inr a=>Wf most a Y:=by
 unfold Wf
 by_cases c:(h++X).length<most
 ·rw[if_pos c]
  simp only[WI]
 rw[if_neg c,if_neg (by simp at c ⊢;omega),<-WI,Qds (by omega)]
def Ql4 {most:Nat}{D X a:L_ α}(h:Wf most D X=.inr a):a.length<most:=by
 unfold Wf at h
 split at h
 ·cases h;assumption
 cases h
def Qj4 {most:Nat}{D X a:L_ α}(h:Wf most D X=.inr a):a=D++X:=by
 unfold Wf at h
 split at h
 ·cases h;rfl
 cases h
def Qnh {most:Nat}{X:L_ α}(h:0<most):(match Wf most [] X with | .inl a=>a | .inr a=>a)=X.take most:=by
 unfold Wf
 rw[Vs]
 by_cases c:X.length<most
 ·rw[if_pos c];simp only;rw[Kl (by omega)]
 rw[if_neg c]
end
section
variable {M K:Type}[DecidableEq K](key:M->K)(succ:M->L_ M)
def Qhv (out:L_ M)(x:M):Bool:=out.any λy=>decide (key y=key x)
def Wb (most:Nat):L_ M->L_ M->L_ M⊕L_ M
 | out,[]=>.inr out
 | out,x::xs=>if Qhv key out x then Wb most out xs else if out.length=most then .inl out else Wb most (out++[x]) xs
def Ck (most:Nat):Nat->L_ M->Nat->L_ M×Bool
 | 0,out,_=>(out,true)
 | f+1,out,a=>match out[a]? with
  | none=>(out,true)
  | some x=>match Wb key most out (succ x)with
   | .inl o=>(o,false)
   | .inr o=>Ck most f o (a+1)
variable {key}{succ}
def QkS {most:Nat}:∀{xs out o:L_ M},Wb key most out xs=.inr o->out.length<=most->(∃r,o=out++r)/\o.length<=most:=by
 intro xs
 induction xs with
 | nil=>intro out o h D;cases h;exact⟨⟨[],by simp⟩,D⟩
 | cons x xs ih=>
  intro out o h D
  rw[Wb]at h
  split at h
  ·exact ih h D
  split at h
  ·cases h
  obtain⟨⟨r,hr⟩,h2⟩:=ih h (by simp;omega)
  exact⟨⟨x::r,by rw[hr];simp⟩,h2⟩
def QkT {most:Nat}:∀{xs out o:L_ M},Wb key most out xs=.inl o->out.length<=most->(∃r,o=out++r)/\o.length=most:=by
 intro xs
 induction xs with
 | nil=>intro out o h D;cases h
 | cons x xs ih=>
  intro out o h D
  rw[Wb]at h
  split at h
  ·exact ih h D
  split at h
  ·cases h;exact⟨⟨[],by simp⟩,by assumption⟩
  obtain⟨⟨r,hr⟩,h2⟩:=ih h (by simp;omega)
  exact⟨⟨x::r,by rw[hr];simp⟩,h2⟩
def Ln (key:M->K)(l:L_ M):Prop:=l.Pairwise λa b=>key a≠key b
def Ln.add {l:L_ M}{x:M}(h:Ln key l)(hx:Qhv key l x=false):Ln key (l++[x]):=by
 unfold Ln
 rw[QfD]
 refine⟨h,Vu _ _,λa ha b D=>?_⟩
 rw[Ao]at D
 subst D
 intro e
 have:Qhv key l b=true:=Iw.2 ⟨a,ha,Yu e⟩
 rw[this]at hx;cases hx
def Qgt {P:M->Prop}{most:Nat}:∀{xs out o:L_ M},(Wb key most out xs=.inl o\/Wb key most out xs=.inr o)->Ln key out->(∀x∈out,P x)->(∀x∈xs,P x)->Ln key o/\∀x∈o,P x:=by
 intro xs
 induction xs with
 | nil=>intro out o h ha hp _;rcases h with h | h<;>cases h;exact⟨ha,hp⟩
 | cons x xs ih=>
  intro out o h ha hp hx
  rw[Wb]at h
  split at h
  ·exact ih h ha hp λy D=>hx y (XZ _ D)
  rename_i c
  split at h
  ·rcases h with h | h<;>cases h;exact⟨ha,hp⟩
  refine ih h (ha.add (by simpa using c)) (λy D=>?_) λy D=>hx y (XZ _ D)
  rcases YI.1 D with D | D
  ·exact hp y D
  simp at D;subst D;exact hx _ XR
def Ql5 {P:M->Prop}(hs:∀x,P x->∀y∈succ x,P y){most:Nat}:∀(f:Nat) {out:L_ M} {a:Nat},out.length<=most->Ln key out->(∀x∈out,P x)->
  (∃r,(Ck key succ most f out a).1=out++r)/\(Ck key succ most f out a).1.length<=most/\Ln key (Ck key succ most f out a).1/\∀x∈(Ck key succ most f out a).1,P x:=by
 intro f
 induction f with
 | zero=>intro out a D h hp;exact⟨⟨[],by simp[Ck]⟩,D,h,hp⟩
 | succ f ih=>
  intro out a D h hp
  rw[Ck]
  cases ho:out[a]? with
  | none=>exact⟨⟨[],by simp⟩,D,h,hp⟩
  | some x=>
   simp only
   have hx:=hp x (XE ho)
   cases e:Wb key most out (succ x)with
   | inl o=>
    obtain⟨h1,h2⟩:=QkT e D
    obtain⟨h3,h4⟩:=Qgt (.inl e) h hp (hs x hx)
    exact⟨h1,by simp only;omega,h3,h4⟩
   | inr o=>
    obtain⟨⟨r,hr⟩,h2⟩:=QkS e D
    obtain⟨h3,h4⟩:=Qgt (.inr e) h hp (hs x hx)
    simp only
    obtain⟨⟨r2,hr2⟩,k2⟩:=ih (a:=a+1) h2 h3 h4
    exact⟨⟨r++r2,by rw[hr2,hr,WI]⟩,k2⟩
end
end Go.Vm
noncomputable section
namespace Go.Proofs
open Go Go.RowKit Go.Vm
inductive Dd : Ql->Prop where
 | mk (e:Ql):e.Kids.length<=maxLen->(∀k∈e.Kids,Dd k)->Dd e
def GR {e:Ql}(h:Dd e):Xe Dd e.Kids:=by
 cases h with
 | mk _ D h2=>exact⟨D,h2⟩
def Qc2 {e k:Ql}(h:k∈e.Kids):SizeOf.sizeOf k<SizeOf.sizeOf e:=by
 obtain⟨a,b,l⟩:=e
 have:=List.sizeOf_lt_of_mem h
 simp only[Ql.mk.sizeOf_spec]at *
 omega
def Ql.pos (e:Ql):0<SizeOf.sizeOf e:=by
 obtain⟨a,b,l⟩:=e
 simp only[Ql.mk.sizeOf_spec];omega
inductive POk (v:Int):Ql->Prop where
 | mk (e:Ql):(e.Kind=1\/e.Kind=2\/e.Kind=3\/e.Kind=4\/e.Kind=5\/e.Kind=6)->(e.Kind=2->0<=e.Num/\e.Num<v)->(e.Kind=3\/e.Kind=4->e.Kids.length=1)->(e.Kind=5->e.Kids.length=2)->(e.Kind=6->e.Kids.length=3)->(∀k∈e.Kids,POk v k)->POk v e
def Kj (x:QL):Prop:=UL x.Name/\True/\True/\True/\(Xe UL) x.Names/\True/\True
def Wu (x:QP):Prop:=UL x.Name/\True/\(Xe (λ_=>True)) x.First
def Ge (x:YO):Prop:=UL x.Name/\True
def Im (x:Xs):Prop:=True/\Dd x.Expr
def YC (x:QH):Prop:=UL x.Name/\(Xe Ge) x.Vars/\Dd x.Guard/\True/\True/\(Xe Im) x.Ins/\(Xe Im) x.Outs/\(Xe (λ_=>True)) x.Cancel/\True/\True
def Xr (x:Qf):Prop:=(Xe Kj) x.Colours/\(Xe Wu) x.Places/\(Xe YC) x.Tasks/\True/\True
def Qis (x:YP):Prop:=(Xe Kj) x.all/\(Xe (λ_=>True)) x.sizes/\True
def Qgu (D:Qf)(h:Xr D):Xl (ME D):=by
 unfold ME
 exact T3
def Kv (D:(L_ QP))(h:Int)(h_l1:(Xe Wu) D):Qg (YG D h) λr=>r=true->0<=h/\h<D.length:=by
 unfold YG
 exact T2 (by first | (intro hr;first | (cases hr;done) | omega | ((try simp only[QJ,Wv,KC,UA,Bi,QI,Xm,beq_iff_eq,bne_iff_ne,ne_eq,PE,Vq,Kc,CA,NG,Mt,WJ,DU,Nx,Ny,Lm]at *);omega)) | ((try simp only[QJ,Wv,KC,UA,Bi,QI,Xm,beq_iff_eq,bne_iff_ne,ne_eq,PE,Vq,Kc,CA,NG,Mt,WJ,DU,Nx,Ny,Lm]at *);omega) | simp_all)
def Qgv (D:Qf)(h:Xr D):Xl (MF D):=by
 unfold MF
 refine T0 (P:=λ_=>True) ?_ (λx_1 hv2=>?_)
 ·unfold TE
  refine T0 (Kv D.Places D.From (h.2.1)) (λx_3 hv4=>?_)
  refine T1 (λhc5=>?_) (λhc5=>?_)
  ·refine T0 (Kv D.Places D.To (h.2.1)) (λx_6 hv7=>?_)
   exact T3
  exact T3
 unfold TF
 exact T3
def Qgw (D:Qf)(h:Xr D):Xl (MG D):=by
 unfold MG
 exact T3
def Qgx (D:Qf)(v2:Int)(v3:Int)(v4:Int)(h:Xr D):Xl (MH D v2 v3 v4):=by
 unfold MH
 refine T0 (Qgu D (h)) (λx_1 hv2=>?_)
 refine T1 (λhc3=>?_) (λhc3=>?_)
 ·exact T3
 refine T0 (Qgv D (h)) (λx_4 hv5=>?_)
 refine T1 (λhc6=>?_) (λhc6=>?_)
 ·exact T3
 refine T0 (Qgw D (h)) (λx_7 hv8=>?_)
 refine T1 (λhc9=>?_) (λhc9=>?_)
 ·exact T3
 exact T3
def Qgy (lo1:Int)(D:Int)  : Xl (Mu lo1 D):=by
 unfold Mu
 refine T1 (λh=>?_) (λh=>?_)
 ·exact T3
 exact T3
def Se (h:Int)  : Xl (Au h):=by
 unfold Au
 exact T3
def OM (s1:ByteArray)(h_s1:UL s1):Xl (Ae s1):=by
 unfold Ae
 refine T0 (P:=λ_=>True) ?_ (λx_1 hv2=>?_)
 ·unfold Tk
  refine T1 (λhc3=>?_) (λhc3=>?_)
  ·exact T3
  have hshc3:=QlZ hc3
  refine T1 (λhc4=>?_) (λhc4=>?_)
  ·exact T3
  refine T0 (Qg.sidx (by omega) (by omega)) (λc_5 hv6=>?_)
  refine T0 (Se c_5 ) (λx_7 hv8=>?_)
  exact T3
 unfold Tn
 refine T1 (λhc9=>?_) (λhc9=>?_)
 ·exact T3
 refine T0 (Qg.up (s1.size) (λst=>st) (λ_=>True) (Q:=λq=>True) rfl trivial (λi11 st h hn13 hj14=>?_)) (λq15 hq16=>?_)
 ·obtain⟨D,hst⟩:∃y,y=st:=⟨_,rfl⟩
  subst hst
  replace h:D=(i11:Int):=h
  show Qg (MS s1 D) _
  unfold MS
  refine T1 (λhc17=>?_) (λhc17=>?_)
  ·refine T0 (Qg.sidx (by omega) (by simp_all)) (λc_18 hv19=>?_)
   refine T0 (P:=λ_=>True) ?_ (λx_20 hv21=>?_)
   ·unfold Tl
    refine T0 (Se c_18 ) (λx_22 hv23=>?_)
    refine T1 (λhc24=>?_) (λhc24=>?_)
    ·refine T1 (λhc25=>?_) (λhc25=>?_)
     ·exact T3
     refine T1 (λhc26=>?_) (λhc26=>?_)
     ·exact T3
     exact T3
    exact T3
   unfold Tm
   refine T1 (λhc27=>?_) (λhc27=>?_)
   ·exact T2 (Qm trivial)
   exact T2 (QK ⟨(by simp_all),by subst h;exact Qv (by simp_all) h_s1,trivial⟩)
  exact T2 (Qm trivial)
 rcases q15 with q15 | q15
 ·show Qg (MT) _
  unfold MT
  exact T3
 show Qg (MU) _
 unfold MU
 exact T3
def Qfh (l1:(L_ ByteArray))(D:(Xe UL) l1):Xl (IM l1):=by
 unfold IM
 refine T0 (Qg.up (l1.length) (λst=>st.1) (λ_=>True) (Q:=λq=>True) rfl trivial (λi3 st hi4 hn5 hj6=>?_)) (λq7 hq8=>?_)
 ·obtain⟨x_1,m_2⟩:=st
  replace hi4:x_1=(i3:Int):=hi4
  show Qg (Lv l1 x_1 m_2) _
  unfold Lv
  refine T1 (λhc9=>?_) (λhc9=>?_)
  ·refine T0 (T4 (by omega) (by simp_all)) (λh hv11=>?_)
   refine T0 (P:=λ_=>True) ?_ (λx_12 hv13=>?_)
   ·unfold RP
    refine T0 (OM h (((D).2 h hv11))) (λx_14 hv15=>?_)
    refine T1 (λhc16=>?_) (λhc16=>?_)
    ·exact T3
    exact T3
   unfold RQ
   refine T1 (λhc17=>?_) (λhc17=>?_)
   ·exact T2 (Qm trivial)
   exact T2 (QK ⟨(by simp_all),by subst hi4;exact Qv (by simp_all) (D).1,trivial⟩)
  exact T2 (Qm trivial)
 rcases q7 with q7 | q7
 ·show Qg (Lw) _
  unfold Lw
  exact T3
 show Qg (Lx) _
 unfold Lx
 exact T3
def Qgz (c1:QL)(h:LI_)(h_c1:Kj c1)(D:(Xe (λ_=>True)) h):Xl (Mv c1 h):=by
 unfold Mv
 refine T1 (λhc1=>?_) (λhc1=>?_)
 ·refine T0 (Qgy c1.Lo c1.Hi ) (λx_2 hv3=>?_)
  exact T3
 refine T1 (λhc4=>?_) (λhc4=>?_)
 ·refine T0 (Qfh c1.Names (h_c1.2.2.2.2.1)) (λx_5 hv6=>?_)
  refine T1 (λhc7=>?_) (λhc7=>?_)
  ·exact T3
  unfold WN
  exact T3
 refine T1 (λhc8=>?_) (λhc8=>?_)
 ·refine T1 (λhc9=>?_) (λhc9=>?_)
  ·refine T0 (T4 (by(try simp only[QJ,Wv,KC,UA,Bi,QI,Xm,beq_iff_eq,bne_iff_ne,ne_eq,PE,Vq,Kc,CA,NG,Mt,WJ,DU,Nx,Ny,Lm]at *);omega) (by(try simp only[QJ,Wv,KC,UA,Bi,QI,Xm,beq_iff_eq,bne_iff_ne,ne_eq,PE,Vq,Kc,CA,NG,Mt,WJ,DU,Nx,Ny,Lm]at *);omega)) (λe_10 hv11=>?_)
   refine T0 (T4 (by(try simp only[QJ,Wv,KC,UA,Bi,QI,Xm,beq_iff_eq,bne_iff_ne,ne_eq,PE,Vq,Kc,CA,NG,Mt,WJ,DU,Nx,Ny,Lm]at *);omega) (by(try simp only[QJ,Wv,KC,UA,Bi,QI,Xm,beq_iff_eq,bne_iff_ne,ne_eq,PE,Vq,Kc,CA,NG,Mt,WJ,DU,Nx,Ny,Lm]at *);omega)) (λe_12 hv13=>?_)
   exact T3
  unfold WN
  exact T3
 unfold WN
 exact T3
def TU (D:(L_ QL))(h_l1:(Xe Kj) D):Qg (BM D) λr=>((Xe (λ_=>True)) r.1/\True)/\(r.2=true->r.1.length=D.length/\∀x∈r.1,1<=x/\x<=1024):=by
 unfold BM
 refine T1 (λhc=>T2 ⟨⟨Xe.nil,trivial⟩,λh=>by cases h⟩) (λhc=>?_)
 have hl:D.length<=32:=by simp only[Xm]at hc;omega
 refine T0 (Qg.up D.length (λst=>st.1) (λst=>(st.2.2.length:Int)=st.1/\∀x∈st.2.2,1<=x/\x<=1024) (Q:=λq=>∀l,q=.inr l->l.length=D.length/\∀x∈l,1<=x/\x<=1024) rfl ⟨rfl,λx h=>(by cases h)⟩ (λi st hi hn hj=>?_)) (λq hq=>?_)
 ·obtain⟨x,m,l⟩:=st
  replace hi:x=(i:Int):=hi
  replace hj:(l.length:Int)=x/\∀x∈l,1<=x/\x<=1024:=hj
  obtain⟨hj,hj2⟩:=hj
  show Qg (Lz D x m l) _
  unfold Lz
  refine T1 (λhc2=>?_) (λhc2=>?_)
  ·simp only[QI]at hc2
   refine T0 (T4 (by omega) (by omega)) λe he=>?_
   refine T0 (Qgz e l (h_l1.2 e he) ⟨by unfold maxLen;omega,λ_ _=>trivial⟩) λy _=>?_
   refine T0 (P:=λz=>z=false->1<=y/\y<=1024) ?_ λz hz=>?_
   ·unfold RS
    refine T0 (OM e.Name (h_l1.2 e he).1) λz _=>?_
    refine T1 (λ_=>T2 (λh=>by cases h)) λ_=>T1 (λ_=>T2 (λh=>by cases h)) λ_=>T1 (λ_=>T2 (λh=>by cases h)) λh1=>T2 λh2=>?_
    simp only[Xm]at h1 h2
    omega
   unfold RT
   refine T1 (λ_=>T2 (Qm λl h=>by cases h)) λhz0=>?_
   refine T0 (T5 (by simp;omega)) λ_ _=>?_
   exact T2 (QK ⟨by omega,by subst hi;exact Qv (by omega) (by unfold maxLen;omega:D.length<=maxLen),by simp only[Kc,CA];subst hi;rw[Qv (show i<D.length by omega) (by unfold maxLen;omega)];omega,λu hu=>by
    rcases YI.1 hu with hu | hu
    ·exact hj2 u hu
    simp at hu;subst hu;exact hz hz0⟩)
  simp only[Xm]at hc2
  exact T2 (Qm λl' h=>by cases h;exact⟨by omega,hj2⟩)
 rcases q with q | q
 ·exact T2 ⟨⟨Xe.nil,trivial⟩,λh=>by cases h⟩
 have:=hq q rfl
 exact T2 ⟨⟨⟨by show q.length<=maxLen;unfold maxLen;omega,λ_ _=>trivial⟩,trivial⟩,λ_=>this⟩
def Qfi (D:(L_ QL))(h:(Xe Kj) D):Xl (Lb D):=by
 unfold Lb
 refine T0 (TU D (h)) (λx_1 hv2=>?_)
 exact T3
def Qaw (v1:Qf)(D:Int)(h:Xr v1)(hp0:0<=D)(hp1:D<v1.Colours.length):Xl (UG v1 D):=by
 have hl:=h.1.1
 unfold maxLen at hl
 unfold UG
 rw[Yf (show -9223372036854775808<=D+1/\D+1<=9223372036854775807 by omega)]
 refine T0 (T5 (by simp only[QJ,QI];omega)) λ_ _=>?_
 exact T0 (Qfi _ ((h.1.drop _).take _)) λx _=>T3
def QgA : L_ ByteArray:=(Fu).getD []
set_option maxRecDepth 100000 in
def Qni : Fu=some QgA:=by kernel_rfl
set_option maxRecDepth 100000 in
def QjT : (decide (QgA.length<=1000)&&QgA.all λs=>decide (s.size<=1000))=true:=by kernel_rfl
def QgB : Qg (Fu) λr=>Xe UL r:=by
 have h:=QjT
 rw[QJ,decide_eq_true_iff,XF]at h
 refine⟨QgA,Qni,by unfold maxLen;omega,λx D=>?_⟩
 have:=h.2 x D
 rw[decide_eq_true_iff]at this
 unfold UL maxLen;omega
def ON (s1:(L_ ByteArray))(v2:ByteArray)(D:(Xe UL) s1)(h_v2:UL v2):Xl (Wl s1 v2):=by
 unfold Wl
 refine T0 (Qg.up (s1.length) (λst=>st) (λ_=>True) (Q:=λq=>True) rfl trivial (λi2 st h hn4 hj5=>?_)) (λq6 hq7=>?_)
 ·obtain⟨x_1,hst⟩:∃y,y=st:=⟨_,rfl⟩
  subst hst
  replace h:x_1=(i2:Int):=h
  show Qg (Dj s1 v2 x_1) _
  unfold Dj
  refine T1 (λhc8=>?_) (λhc8=>?_)
  ·refine T0 (T4 (by omega) (by simp_all)) (λe_9 hv10=>?_)
   refine T1 (λhc11=>?_) (λhc11=>?_)
   ·exact T2 (Qm trivial)
   exact T2 (QK ⟨(by simp_all),by subst h;exact Qv (by simp_all) (D).1,trivial⟩)
  exact T2 (Qm trivial)
 rcases q6 with q6 | q6
 ·show Qg (Dk q6) _
  unfold Dk
  exact T3
 show Qg (Dl) _
 unfold Dl
 exact T3
def Mn (s1:(L_ ByteArray))(v2:ByteArray)(h:(Xe UL) s1)(D:UL v2):Xl (Kd s1 v2):=by
 unfold Kd
 refine T0 (ON s1 v2 (h) (D)) (λx_1 hv2=>?_)
 exact T3
def Qhw (s1:ByteArray)(h:UL s1):Xl (OC s1):=by
 unfold OC
 refine T0 (QgB  ) (λx_1 D=>?_)
 refine T0 (Mn x_1 s1 (D) (h)) (λx_3 hv4=>?_)
 exact T3
def Cm (D:ByteArray)(h:UL D):Xl (GP D):=by
 unfold GP
 refine T0 (P:=λ_=>True) ?_ (λx_1 hv2=>?_)
 ·unfold VW
  refine T0 (OM D (h)) (λx_3 hv4=>?_)
  refine T1 (λhc5=>?_) (λhc5=>?_)
  ·refine T0 (Qhw D (h)) (λx_6 hv7=>?_)
   exact T3
  exact T3
 unfold VX
 exact T3
def Vj (D:ByteArray)(h:UL D):Xl (Ed D):=by
 unfold Ed
 refine T0 (Cm D (h)) (λx_1 hv2=>?_)
 exact T3
def LL (s1:(L_ ByteArray))(h:(Xe UL) s1):Xl (JR s1):=by
 unfold JR
 refine T0 (Qg.up (s1.length) (λst=>st) (λ_=>True) (Q:=λq=>True) rfl trivial (λi2 st D hn4 hj5=>?_)) (λq6 hq7=>?_)
 ·obtain⟨x_1,hst⟩:∃y,y=st:=⟨_,rfl⟩
  subst hst
  replace D:x_1=(i2:Int):=D
  show Qg (Wm s1 x_1) _
  unfold Wm
  refine T1 (λhc8=>?_) (λhc8=>?_)
  ·refine T0 (T4 (by omega) (by simp_all)) (λe_9 hv10=>?_)
   refine T0 (Vj e_9 (((h).2 e_9 hv10))) (λx_11 hv12=>?_)
   refine T1 (λhc13=>?_) (λhc13=>?_)
   ·exact T2 (Qm trivial)
   exact T2 (QK ⟨(by simp_all),by subst D;exact Qv (by simp_all) (h).1,trivial⟩)
  exact T2 (Qm trivial)
 rcases q6 with q6 | q6
 ·show Qg (Wn q6) _
  unfold Wn
  exact T3
 show Qg (Wo) _
 unfold Wo
 exact T3
def HI (D:(L_ ByteArray))(h:(Xe UL) D):Xl (Js D):=by
 unfold Js
 refine T0 (LL D (h)) (λx_1 hv2=>?_)
 exact T3
def Qax (D:QL)(h:Kj D):Xl (UH D):=by
 unfold UH
 refine T0 (P:=λ_=>True) ?_ (λx_1 hv2=>?_)
 ·unfold Mi
  refine T0 (Cm D.Name (h.1)) (λx_3 hv4=>?_)
  refine T1 (λhc5=>?_) (λhc5=>?_)
  ·refine T1 (λhc6=>?_) (λhc6=>?_)
   ·exact T3
   refine T0 (HI D.Names (h.2.2.2.2.1)) (λx_7 hv8=>?_)
   exact T3
  exact T3
 unfold Mj
 exact T3
def Qc3 (v1:Qf)(v2:Int)(v3:Int)(v4:QL)(v5:Int)(h:Xr v1)(D:Kj v4)(hp0:0<=v2)(hp1:v2<v1.Colours.length):Xl (CO v1 v2 v3 v4 v5):=by
 unfold CO
 refine T0 (Qaw v1 v2 (h) (by omega) (by omega)) (λx_1 hv2=>?_)
 refine T1 (λhc3=>?_) (λhc3=>?_)
 ·exact T3
 refine T0 (Qax v4 (D)) (λx_4 hv5=>?_)
 refine T1 (λhc6=>?_) (λhc6=>?_)
 ·exact T3
 exact T3
def Qcb (k1:Int)(c2:QL)(v3:Qf)(h:Kj c2)(D:Xr v3)(hp0:0<=k1)(hp1:k1<v3.Colours.length):Xl (Bv k1 c2 v3):=by
 unfold Bv
 refine T0 (Qc3 v3 k1 8 c2 8 (D) (h) (by omega) (by omega)) (λx_1 hv2=>?_)
 exact T3
def SH (l1:(L_ QL))(v2:Qf)(h:(Xe Kj) l1)(h_v2:Xr v2)(hp0:l1.length<=v2.Colours.length):Xl (DX l1 v2):=by
 unfold DX
 refine T0 (Qg.up (l1.length) (λst=>st) (λ_=>True) (Q:=λq=>True) rfl trivial (λi2 st D hn4 hj5=>?_)) (λq6 hq7=>?_)
 ·obtain⟨x_1,hst⟩:∃y,y=st:=⟨_,rfl⟩
  subst hst
  replace D:x_1=(i2:Int):=D
  show Qg (Ep l1 v2 x_1) _
  unfold Ep
  refine T1 (λhc8=>?_) (λhc8=>?_)
  ·refine T0 (T4 (by omega) (by simp_all)) (λe_9 hv10=>?_)
   refine T0 (Qcb x_1 e_9 v2 (((h).2 e_9 hv10)) (h_v2) (by omega) (by simp_all;omega)) (λx_11 hv12=>?_)
   refine T1 (λhc13=>?_) (λhc13=>?_)
   ·exact T2 (Qm trivial)
   exact T2 (QK ⟨(by simp_all),by subst D;exact Qv (by simp_all) (h).1,trivial⟩)
  exact T2 (Qm trivial)
 rcases q6 with q6 | q6
 ·show Qg (Er q6.1 q6.2) _
  unfold Er
  exact T3
 show Qg (Es) _
 unfold Es
 exact T3
def Sf (n1:Qf)(h:Xr n1):Xl (AM n1):=by
 unfold AM
 refine T0 (SH n1.Colours n1 (h.1) (h) (by omega)) (λx_1 D=>?_)
 exact T3
def Qeg (D:QP)(h:Wu D):Xl (Hs D):=by
 unfold Hs
 refine T0 (Cm D.Name (h.1)) (λx_1 hv2=>?_)
 exact T3
def Qeh (p1:QP)(v2:QP)(h:Wu p1)(D:Wu v2):Xl (Ht p1 v2):=by
 unfold Ht
 exact T3
def Fb (s1:(L_ QP))(v2:QP)(h:(Xe Wu) s1)(h_v2:Wu v2):Xl (YV s1 v2):=by
 unfold YV
 refine T0 (Qg.up (s1.length) (λst=>st) (λ_=>True) (Q:=λq=>True) rfl trivial (λi2 st D hn4 hj5=>?_)) (λq6 hq7=>?_)
 ·obtain⟨x_1,hst⟩:∃y,y=st:=⟨_,rfl⟩
  subst hst
  replace D:x_1=(i2:Int):=D
  show Qg (JJ s1 v2 x_1) _
  unfold JJ
  refine T1 (λhc8=>?_) (λhc8=>?_)
  ·refine T0 (T4 (by omega) (by simp_all)) (λe_9 hv10=>?_)
   refine T0 (Qeh e_9 v2 (((h).2 e_9 hv10)) (h_v2)) (λx_11 hv12=>?_)
   refine T1 (λhc13=>?_) (λhc13=>?_)
   ·exact T2 (Qm trivial)
   exact T2 (QK ⟨(by simp_all),by subst D;exact Qv (by simp_all) (h).1,trivial⟩)
  exact T2 (Qm trivial)
 rcases q6 with q6 | q6
 ·show Qg (JK q6) _
  unfold JK
  exact T3
 show Qg (JL) _
 unfold JL
 exact T3
def Bh (s1:(L_ QP))(v2:QP)(h:(Xe Wu) s1)(D:Wu v2):Xl (YK s1 v2):=by
 unfold YK
 refine T0 (Fb s1 v2 (h) (D)) (λx_1 hv2=>?_)
 exact T3
def Qei (v1:Qf)(v2:Int)(v3:QP)(h:Xr v1)(D:Wu v3)(hp0:0<=v2)(hp1:v2<v1.Places.length):Xl (Hu v1 v2 v3):=by
 unfold Hu
 refine T0 (T5 (by simp_all;omega)) (λ_ _=>?_)
 refine T0 (Bh ((v1.Places.drop 0).take (v2.toNat-0)) v3 (((h.2.1).drop _).take _) (D)) (λx_1 hv2=>?_)
 exact T3
def FB (D:(L_ QL))(k2:Int)(h:(Xe Kj) D):Xl (KX D k2):=by
 unfold KX
 exact T3
def Qej (D:Qf)(v2:QP)(h:Xr D)(h_v2:Wu v2):Xl (Hv D v2):=by
 unfold Hv
 refine T0 (FB D.Colours v2.Colour (h.1)) (λx_1 hv2=>?_)
 exact T3
def Qit (b1:QBg)(h_b1:(Xe (λ_=>True)) b1):Xl (Kg b1):=by
 unfold Kg
 refine T0 (Qg.up (b1.length) (λst=>st.2) (λ_=>True) (Q:=λq=>True) rfl trivial (λi3 st D hn5 hj6=>?_)) (λq7 hq8=>?_)
 ·obtain⟨h,x_2⟩:=st
  replace D:x_2=(i3:Int):=D
  show Qg (Kf b1 h x_2) _
  unfold Kf
  refine T1 (λhc9=>?_) (λhc9=>?_)
  ·refine T0 (T4 (by omega) (by simp_all)) (λe_10 hv11=>?_)
   refine T1 (λhc12=>?_) (λhc12=>?_)
   ·exact T2 (Qm trivial)
   exact T2 (QK ⟨(by simp_all),by subst D;exact Qv (by simp_all) (h_b1).1,trivial⟩)
  exact T2 (Qm trivial)
 rcases q7 with q7 | q7
 ·show Qg (IH) _
  unfold IH
  exact T3
 show Qg (II) _
 unfold II
 exact T3
def Qek (D:QP)(h:Wu D):Xl (Hw D):=by
 unfold Hw
 refine T0 (Qit D.First (h.2.2)) (λx_1 hv2=>?_)
 exact T3
def FC (l1:(L_ QL))(k2:Int)(D:(Xe Kj) l1):Qg (Ub l1 k2) λr=>(True/\Qis r.2)/\(r.1=true->(0<=k2/\k2<r.2.sizes.length)/\r.2.k=k2/\r.2.all.length=r.2.sizes.length/\∀x∈r.2.sizes,1<=x/\x<=1024):=by
 unfold Ub
 refine T0 (TU l1 D) λx hx=>?_
 refine T1 (λ_=>T2 ⟨⟨trivial,Xe.nil,Xe.nil,trivial⟩,λh=>by cases h⟩) λhc=>?_
 simp only[KC,Bi,Xm]at hc
 have:=hx.2 hc.1
 exact T2 ⟨⟨trivial,D,hx.1.1,trivial⟩,λ_=>⟨⟨by omega,by show k2<(x.1.length:Int);omega⟩,rfl,this.1.symm,this.2⟩⟩
def Wz (l1:(L_ QL))(k2:Int)(D:(Xe Kj) l1):Qg (YS l1 k2) λr=>0<=r/\r<=1024:=by
 unfold YS
 refine T0 (FC l1 k2 D) (λx hx=>?_)
 refine T1 (λhc=>T2 (by omega)) (λhc=>?_)
 have h:=hx.2 (by simpa using hc)
 exact T0 (T4 (by omega) (by omega)) λe he=>T2 (by have:=h.2.2.2 e he;omega)
def Qcc (h:(Int×Int))(D:Int)  : Xl (Bw h D):=by
 unfold Bw
 exact T3
def LM (s1:QBg)(v2:Int)(D:(Xe (λ_=>True)) s1):Xl (JS s1 v2):=by
 unfold JS
 refine T0 (Qg.up (s1.length) (λst=>st) (λ_=>True) (Q:=λq=>True) rfl trivial (λi2 st h hn4 hj5=>?_)) (λq6 hq7=>?_)
 ·obtain⟨x_1,hst⟩:∃y,y=st:=⟨_,rfl⟩
  subst hst
  replace h:x_1=(i2:Int):=h
  show Qg (Wp s1 v2 x_1) _
  unfold Wp
  refine T1 (λhc8=>?_) (λhc8=>?_)
  ·refine T0 (T4 (by omega) (by simp_all)) (λe_9 hv10=>?_)
   refine T0 (Qcc e_9 v2 ) (λx_11 hv12=>?_)
   refine T1 (λhc13=>?_) (λhc13=>?_)
   ·exact T2 (Qm trivial)
   exact T2 (QK ⟨(by simp_all),by subst h;exact Qv (by simp_all) (D).1,trivial⟩)
  exact T2 (Qm trivial)
 rcases q6 with q6 | q6
 ·show Qg (Wq q6) _
  unfold Wq
  exact T3
 show Qg (Wr) _
 unfold Wr
 exact T3
def HJ (D:QBg)(v2:Int)(h:(Xe (λ_=>True)) D):Xl (Jt D v2):=by
 unfold Jt
 refine T0 (LM D v2 (h)) (λx_1 hv2=>?_)
 exact T3
def Qel (v1:Qf)(v2:QP)(h:Xr v1)(D:Wu v2):Xl (Hx v1 v2):=by
 unfold Hx
 refine T0 (Wz v1.Colours v2.Colour (h.1)) (λx_1 hv2=>?_)
 refine T0 (HJ v2.First x_1 (D.2.2)) (λx_3 hv4=>?_)
 exact T3
def Qc4 (v1:QP)(v2:Int)(v3:Qf)(v4:Int)(v5:Int)(v6:Int)(v7:Int)(v8:Int)(h:Wu v1)(D:Xr v3)(hp0:0<=v4)(hp1:v4<v3.Places.length):Xl (CP v1 v2 v3 v4 v5 v6 v7 v8):=by
 unfold CP
 refine T0 (Qeg v1 (h)) (λx_1 hv2=>?_)
 refine T1 (λhc3=>?_) (λhc3=>?_)
 ·exact T3
 refine T0 (Qei v3 v4 v1 (D) (h) (by omega) (by omega)) (λx_4 hv5=>?_)
 refine T1 (λhc6=>?_) (λhc6=>?_)
 ·exact T3
 refine T0 (Qej v3 v1 (D) (h)) (λx_7 hv8=>?_)
 refine T1 (λhc9=>?_) (λhc9=>?_)
 ·exact T3
 refine T0 (Qek v1 (h)) (λx_10 hv11=>?_)
 refine T1 (λhc12=>?_) (λhc12=>?_)
 ·exact T3
 refine T0 (Qel v3 v1 (D) (h)) (λx_13 hv14=>?_)
 refine T1 (λhc15=>?_) (λhc15=>?_)
 ·exact T3
 exact T3
def QgC (n1:Qf)(k2:Int)(h:Xr n1):Xl (MI n1 k2):=by
 unfold MI
 refine T0 (Kv n1.Places k2 (h.2.1)) (λx_1 hv2=>?_)
 refine T1 (λhc3=>?_) (λhc3=>?_)
 ·exact T3
 refine T0 (T4 (by simp_all) (by simp_all)) (λD hv5=>?_)
 refine T0 (Qc4 D 1 n1 k2 5 3 1 8 (((h.2.1).2 D hv5)) (h) (by simp_all) (by simp_all)) (λx_6 hv7=>?_)
 exact T3
def QgD (k1:Int)(p2:QP)(v3:Qf)(D:Wu p2)(h:Xr v3):Xl (MJ k1 p2 v3):=by
 unfold MJ
 refine T0 (QgC v3 k1 (h)) (λx_1 hv2=>?_)
 exact T3
def TV (l1:(L_ QP))(v2:Qf)(h:(Xe Wu) l1)(h_v2:Xr v2):Xl (GC l1 v2):=by
 unfold GC
 refine T0 (Qg.up (l1.length) (λst=>st) (λ_=>True) (Q:=λq=>True) rfl trivial (λi2 st D hn4 hj5=>?_)) (λq6 hq7=>?_)
 ·obtain⟨x_1,hst⟩:∃y,y=st:=⟨_,rfl⟩
  subst hst
  replace D:x_1=(i2:Int):=D
  show Qg (EO l1 v2 x_1) _
  unfold EO
  refine T1 (λhc8=>?_) (λhc8=>?_)
  ·refine T0 (T4 (by omega) (by simp_all)) (λe_9 hv10=>?_)
   refine T0 (QgD x_1 e_9 v2 (((h).2 e_9 hv10)) (h_v2)) (λx_11 hv12=>?_)
   refine T1 (λhc13=>?_) (λhc13=>?_)
   ·exact T2 (Qm trivial)
   exact T2 (QK ⟨(by simp_all),by subst D;exact Qv (by simp_all) (h).1,trivial⟩)
  exact T2 (Qm trivial)
 rcases q6 with q6 | q6
 ·show Qg (EP q6.1 q6.2) _
  unfold EP
  exact T3
 show Qg (EQ) _
 unfold EQ
 exact T3
def Io (D:(L_ QH))(h:Int)(h_l1:(Xe YC) D):Qg (Jo D h) λr=>r=true->0<=h/\h<D.length:=by
 unfold Jo
 exact T2 (by first | (intro hr;first | (cases hr;done) | omega | ((try simp only[QJ,Wv,KC,UA,Bi,QI,Xm,beq_iff_eq,bne_iff_ne,ne_eq,PE,Vq,Kc,CA,NG,Mt,WJ,DU,Nx,Ny,Lm]at *);omega)) | ((try simp only[QJ,Wv,KC,UA,Bi,QI,Xm,beq_iff_eq,bne_iff_ne,ne_eq,PE,Vq,Kc,CA,NG,Mt,WJ,DU,Nx,Ny,Lm]at *);omega) | simp_all)
def QgE (v1:Int)(v2:Qf)(v3:QH)(h:Xr v2)(D:YC v3):Xl (MK v1 v2 v3):=by
 unfold MK
 exact T3
def Qc5 (v1:Int)(v2:Qf)(v3:QH)(v4:Int)(h:Xr v2)(D:YC v3):Xl (CQ v1 v2 v3 v4):=by
 unfold CQ
 exact T3
def Qc6 (v1:Int)(v2:Qf)(v3:QH)(v4:Int)(h:Xr v2)(D:YC v3):Xl (CR v1 v2 v3 v4):=by
 unfold CR
 exact T3
def Qc7 (v1:Int)(v2:Qf)(v3:QH)(h:Xr v2)(D:YC v3):Xl (CS v1 v2 v3):=by
 unfold CS
 exact T3
def Qfj (D:QH)(h:YC D):Xl (Le D):=by
 unfold Le
 refine T0 (Cm D.Name (h.1)) (λx_1 hv2=>?_)
 exact T3
def Qfk (p1:QH)(v2:QH)(h:YC p1)(D:YC v2):Xl (Lf p1 v2):=by
 unfold Lf
 exact T3
def Ha (s1:(L_ QH))(v2:QH)(h:(Xe YC) s1)(h_v2:YC v2):Xl (Jh s1 v2):=by
 unfold Jh
 refine T0 (Qg.up (s1.length) (λst=>st) (λ_=>True) (Q:=λq=>True) rfl trivial (λi2 st D hn4 hj5=>?_)) (λq6 hq7=>?_)
 ·obtain⟨x_1,hst⟩:∃y,y=st:=⟨_,rfl⟩
  subst hst
  replace D:x_1=(i2:Int):=D
  show Qg (JX s1 v2 x_1) _
  unfold JX
  refine T1 (λhc8=>?_) (λhc8=>?_)
  ·refine T0 (T4 (by omega) (by simp_all)) (λe_9 hv10=>?_)
   refine T0 (Qfk e_9 v2 (((h).2 e_9 hv10)) (h_v2)) (λx_11 hv12=>?_)
   refine T1 (λhc13=>?_) (λhc13=>?_)
   ·exact T2 (Qm trivial)
   exact T2 (QK ⟨(by simp_all),by subst D;exact Qv (by simp_all) (h).1,trivial⟩)
  exact T2 (Qm trivial)
 rcases q6 with q6 | q6
 ·show Qg (JY q6) _
  unfold JY
  exact T3
 show Qg (JZ) _
 unfold JZ
 exact T3
def Cs (s1:(L_ QH))(v2:QH)(h:(Xe YC) s1)(D:YC v2):Xl (YT s1 v2):=by
 unfold YT
 refine T0 (Ha s1 v2 (h) (D)) (λx_1 hv2=>?_)
 exact T3
def Qfl (v1:Qf)(v2:Int)(v3:QH)(h:Xr v1)(D:YC v3)(hp0:0<=v2)(hp1:v2<v1.Tasks.length):Xl (Lg v1 v2 v3):=by
 unfold Lg
 refine T0 (T5 (by simp_all;omega)) (λ_ _=>?_)
 refine T0 (Cs ((v1.Tasks.drop 0).take (v2.toNat-0)) v3 (((h.2.2.1).drop _).take _) (D)) (λx_1 hv2=>?_)
 exact T3
def Qfm (v1:Int)(D:QH)(h:YC D):Xl (Cb v1 D):=by
 unfold Cb
 exact T3
def Vk (D:YO)(h:Ge D):Xl (Ee D):=by
 unfold Ee
 refine T0 (Cm D.Name (h.1)) (λx_1 hv2=>?_)
 exact T3
def Vl (p1:YO)(v2:YO)(h:Ge p1)(D:Ge v2):Xl (Ef p1 v2):=by
 unfold Ef
 exact T3
def Ip (s1:(L_ YO))(v2:YO)(h:(Xe Ge) s1)(h_v2:Ge v2):Xl (JB s1 v2):=by
 unfold JB
 refine T0 (Qg.up (s1.length) (λst=>st) (λ_=>True) (Q:=λq=>True) rfl trivial (λi2 st D hn4 hj5=>?_)) (λq6 hq7=>?_)
 ·obtain⟨x_1,hst⟩:∃y,y=st:=⟨_,rfl⟩
  subst hst
  replace D:x_1=(i2:Int):=D
  show Qg (Kw s1 v2 x_1) _
  unfold Kw
  refine T1 (λhc8=>?_) (λhc8=>?_)
  ·refine T0 (T4 (by omega) (by simp_all)) (λe_9 hv10=>?_)
   refine T0 (Vl e_9 v2 (((h).2 e_9 hv10)) (h_v2)) (λx_11 hv12=>?_)
   refine T1 (λhc13=>?_) (λhc13=>?_)
   ·exact T2 (Qm trivial)
   exact T2 (QK ⟨(by simp_all),by subst D;exact Qv (by simp_all) (h).1,trivial⟩)
  exact T2 (Qm trivial)
 rcases q6 with q6 | q6
 ·show Qg (Kx q6) _
  unfold Kx
  exact T3
 show Qg (Ky) _
 unfold Ky
 exact T3
def FD (s1:(L_ YO))(v2:YO)(h:(Xe Ge) s1)(D:Ge v2):Xl (Jd s1 v2):=by
 unfold Jd
 refine T0 (Ip s1 v2 (h) (D)) (λx_1 hv2=>?_)
 exact T3
def Vn (v1:(L_ YO))(v2:Int)(v3:YO)(h:(Xe Ge) v1)(D:Ge v3)(hp0:0<=v2)(hp1:v2<v1.length):Xl (Eg v1 v2 v3):=by
 unfold Eg
 refine T0 (T5 (by simp_all;omega)) (λ_ _=>?_)
 refine T0 (FD ((v1.drop 0).take (v2.toNat-0)) v3 (((h).drop _).take _) (D)) (λx_1 hv2=>?_)
 exact T3
def Vo (D:Qf)(v2:YO)(h:Xr D)(h_v2:Ge v2):Xl (Eh D v2):=by
 unfold Eh
 refine T0 (FB D.Colours v2.Colour (h.1)) (λx_1 hv2=>?_)
 exact T3
def Qc8 (v1:YO)(v2:Int)(v3:(L_ YO))(v4:Int)(v5:Int)(v6:Qf)(v7:Int)(h:Ge v1)(D:(Xe Ge) v3)(h_v6:Xr v6)(hp0:0<=v4)(hp1:v4<v3.length):Xl (CV v1 v2 v3 v4 v5 v6 v7):=by
 unfold CV
 refine T0 (Vk v1 (h)) (λx_1 hv2=>?_)
 refine T1 (λhc3=>?_) (λhc3=>?_)
 ·exact T3
 refine T0 (Vn v3 v4 v1 (D) (h) (by omega) (by omega)) (λx_4 hv5=>?_)
 refine T1 (λhc6=>?_) (λhc6=>?_)
 ·exact T3
 refine T0 (Vo v6 v1 (h_v6) (h)) (λx_7 hv8=>?_)
 refine T1 (λhc9=>?_) (λhc9=>?_)
 ·exact T3
 exact T3
def Qay (k1:Int)(v2:YO)(v3:(L_ YO))(v4:Qf)(h:Ge v2)(D:(Xe Ge) v3)(h_v4:Xr v4)(hp0:0<=k1)(hp1:k1<v3.length):Xl (UI k1 v2 v3 v4):=by
 unfold UI
 refine T0 (Qc8 v2 1 v3 k1 5 v4 3 (h) (D) (h_v4) (by omega) (by omega)) (λx_1 hv2=>?_)
 exact T3
def ZP (l1:(L_ YO))(v2:(L_ YO))(v3:Qf)(h:(Xe Ge) l1)(h_v2:(Xe Ge) v2)(h_v3:Xr v3)(hp0:l1.length<=v2.length):Xl (ER l1 v2 v3):=by
 unfold ER
 refine T0 (Qg.up (l1.length) (λst=>st) (λ_=>True) (Q:=λq=>True) rfl trivial (λi2 st D hn4 hj5=>?_)) (λq6 hq7=>?_)
 ·obtain⟨x_1,hst⟩:∃y,y=st:=⟨_,rfl⟩
  subst hst
  replace D:x_1=(i2:Int):=D
  show Qg (UR l1 v2 v3 x_1) _
  unfold UR
  refine T1 (λhc8=>?_) (λhc8=>?_)
  ·refine T0 (T4 (by omega) (by simp_all)) (λe_9 hv10=>?_)
   refine T0 (Qay x_1 e_9 v2 v3 (((h).2 e_9 hv10)) (h_v2) (h_v3) (by omega) (by simp_all;omega)) (λx_11 hv12=>?_)
   refine T1 (λhc13=>?_) (λhc13=>?_)
   ·exact T2 (Qm trivial)
   exact T2 (QK ⟨(by simp_all),by subst D;exact Qv (by simp_all) (h).1,trivial⟩)
  exact T2 (Qm trivial)
 rcases q6 with q6 | q6
 ·show Qg (US q6.1 q6.2) _
  unfold US
  exact T3
 show Qg (UT) _
 unfold UT
 exact T3
def Qcd (n1:Qf)(l2:(L_ YO))(D:Xr n1)(h:(Xe Ge) l2):Xl (Bx n1 l2):=by
 unfold Bx
 refine T0 (ZP l2 l2 n1 (h) (h) (D) (by omega)) (λx_1 hv2=>?_)
 exact T3
def Qfn (v1:Qf)(v2:QH)(h:Xr v1)(D:YC v2):Xl (Lh v1 v2):=by
 unfold Lh
 refine T0 (Qcd v1 v2.Vars (h) (D.2.1)) (λx_1 hv2=>?_)
 exact T3
def Qem (v1:Qf)(v2:QH)(v3:Int)(h:Xr v1)(D:YC v2):Xl (AN v1 v2 v3):=by
 unfold AN
 refine T0 (Qfn v1 v2 (h) (D)) (λx_1 hv2=>?_)
 exact T3
def Zf (n1:Qf)(k2:Int)(h:Xr n1):Xl (WL n1 k2):=by
 unfold WL
 refine T0 (Io n1.Tasks k2 (h.2.2.1)) (λx_1 hv2=>?_)
 refine T1 (λhc3=>?_) (λhc3=>?_)
 ·exact T3
 refine T0 (T4 (by simp_all) (by simp_all)) (λe_4 hv5=>?_)
 refine T0 (Qg.up (e_4.Vars.length) (λst=>st.2) (λ_=>True) (Q:=λq=>True) rfl trivial (λi8 st hi9 hn10 hj11=>?_)) (λD hq13=>?_)
 ·obtain⟨out_6,x_7⟩:=st
  replace hi9:x_7=(i8:Int):=hi9
  show Qg (Ut e_4 n1 out_6 x_7) _
  unfold Ut
  refine T1 (λhc14=>?_) (λhc14=>?_)
  ·refine T0 (T4 (by omega) (by simp_all)) (λe_15 hv16=>?_)
   refine T0 (Wz n1.Colours e_15.Colour (h.1)) (λx_17 hv18=>?_)
   refine T1 (λhc19=>?_) (λhc19=>?_)
   ·exact T2 (Qm trivial)
   exact T2 (QK ⟨(by simp_all),by subst hi9;exact Qv (by simp_all) (((h.2.2.1).2 e_4 hv5).2.1).1,trivial⟩)
  exact T2 (Qm trivial)
 rcases D with D | D
 ·show Qg (No) _
  unfold No
  exact T3
 show Qg (Np D) _
 unfold Np
 exact T3
def Qfo (D:Qf)(v2:Int)(h:Xr D):Xl (Cc D v2):=by
 unfold Cc
 refine T0 (Zf D v2 (h)) (λx_1 hv2=>?_)
 exact T3
def Qiu (h:Int):Qg (PP h) λr=>0<=r->(h=1\/h=2\/h=3\/h=4\/h=5\/h=6)/\(h=3\/h=4->r=1)/\(h=5->r=2)/\(h=6->r=3):=by
 unfold PP
 refine T1 (λD=>?_) (λD=>?_)
 ·unfold BO;rw[D]
  simp only[beq_iff_eq]at D
  exact T2 (by omega)
 simp only[beq_eq_false_iff_ne]at D
 unfold BO
 refine T1 (λD=>T2 (by simp only[beq_iff_eq]at D;omega)) (λhc2=>?_)
 simp only[beq_eq_false_iff_ne]at hc2
 refine T1 (λhc3=>?_) (λhc3=>?_)
 ·unfold BN;rw[hc3]
  simp only[beq_iff_eq]at hc3
  exact T2 (by omega)
 simp only[beq_eq_false_iff_ne]at hc3
 unfold BN
 refine T1 (λD=>T2 (by simp only[beq_iff_eq]at D;omega)) (λhc4=>?_)
 simp only[beq_eq_false_iff_ne]at hc4
 refine T1 (λD=>T2 (by simp only[beq_iff_eq]at D;omega)) (λhc5=>?_)
 simp only[beq_eq_false_iff_ne]at hc5
 exact T1 (λD=>T2 (by simp only[beq_iff_eq]at D;omega)) (λhc6=>T2 (by omega))
def Qhx (Ga:Int)  : Xl (NV Ga):=by
 unfold NV
 exact T3
def Py (rec_:Ql->Int->O_ Bool)(D:L_ Ql)(v2:Int)(h1:D.length<=maxLen)(h:∀k∈D,Qg (rec_ k v2) λr=>r=true->POk v2 k):Qg (YR rec_ D v2) λr=>r=false->∀k∈D,POk v2 k:=by
 unfold YR KO
 refine T0 (P:=λx=>x<0->∀k∈D,POk v2 k) ?_ λx hx=>T2 λh=>hx (by simp only[Xm]at h;omega)
 refine T0 (Qg.up D.length (λst=>st) (λst=>∀(j:Nat) k,(j:Int)<st->D[j]? = some k->POk v2 k) (Q:=λq=>(∀x,q=.inl x->0<=x)/\(q=.inr ()->∀k∈D,POk v2 k)) rfl (λj k hj=>by omega) (λi st hi hn hj=>?_)) (λq hq=>?_)
 ·show Qg (JV D rec_ v2 st) _
  unfold JV Pi
  refine T1 (λhc=>?_) (λhc=>T2 (Qm ⟨λx h=>(by cases h),λ_ k hk=>by
   obtain⟨j,hj1,hj2⟩:=Hb.1 hk
   simp only[Xm]at hc
   exact hj j k (by omega) (by rw[Qx hj1,hj2])⟩))
  simp only[QI]at hc
  rw[Gq (by omega)]
  have hlt:st.toNat<D.length:=by omega
  rw[Qx hlt]
  refine T0 (P:=λk=>k=D[st.toNat]) (T2 rfl) λk hk=>?_
  subst hk
  refine T0 (P:=λr=>r=false->POk v2 D[st.toNat]) (T0 (h _ (XV hlt)) λx hx=>T2 λh=>hx (by simpa using h)) λx hx=>?_
  refine T1 (λ_=>T2 (Qm ⟨λx h=>(by cases h;omega),λh=>(by cases h)⟩)) λhxf=>T2 (QK ⟨by omega,by rw[hi];exact Qv (by omega) h1,?_⟩)
  rw[hi,Qv (show i<D.length by omega) h1]
  intro j k hj' hk
  by_cases c:j=i
  ·subst c
   have e:st.toNat=j:=by omega
   have:=hx hxf
   rw[Qx (by omega)]at hk
   cases hk
   simpa only[e] using this
  exact hj j k (by omega) hk
 rcases q with q | q
 ·exact T2 λh=>absurd (hq.1 q rfl) (by omega)
 exact T2 λ_=>hq.2 rfl
def TW : ∀(n:Nat) (e:Ql) (v:Int),Dd e->SizeOf.sizeOf e<=n->Qg (Gi n e v) λr=>r=true->POk v e
 | 0,e,_,_,h=>absurd e.pos (by omega)
 | n+1,e,v,he,h=>by
  unfold Gi Pj
  refine T0 (Qiu e.Kind) λx hx=>?_
  refine T1 (λ_=>T2 λh=>by cases h) λh1=>T1 (λ_=>T2 λh=>by cases h) λh2=>?_
  refine T0 (P:=λ_=>True) ?_ λy _=>?_
  ·unfold VH
   exact T1 (λ_=>T0 (Qhx e.Num) λx _=>T3) λ_=>T3
  unfold VI
  refine T1 (λ_=>T2 λh=>by cases h) λ_=>?_
  refine T0 (Py (Gi n) e.Kids v (GR he).1 λk D=>TW n k v ((GR he).2 k D) (by have:=Qc2 D;omega)) λx hx2=>T2 λhx3=>?_
  simp only[KI]at h1
  have h3:=hx (by omega)
  simp only[Bool.and_eq_false_iff,KC,Xm,beq_eq_false_iff_ne]at h2
  exact .mk e h3.1 (λD=>by omega) (λD=>by have:=h3.2.1 D;omega) (λD=>by have:=h3.2.2.1 D;omega) (λD=>by have:=h3.2.2.2 D;omega) (hx2 (by simpa using hx3))
def Qhy (e1:Ql)(h:Int)(D:Dd e1):Qg (Tr e1 h) λr=>r=true->POk h e1:=TW _ e1 h D (Jp _)
def TX : ∀(n:Nat) (e:Ql),Dd e->SizeOf.sizeOf e<=n->Qg (Gh n e) λ_=>True
 | 0,e,_,h=>absurd e.pos (by omega)
 | n+1,e,he,h=>by
  unfold Gh Pg
  refine T0 (Qg.up e.Kids.length (λst=>st.2) (λ_=>True) (Q:=λ_=>True) rfl trivial (λi st hi hn _=>?_)) (λq _=>?_)
  ·obtain⟨a,x⟩:=st
   replace hi:x=(i:Int):=hi
   show Qg (NU e (Gh n) a x) _
   unfold NU
   refine T1 (λD=>?_) (λD=>?_)
   ·simp only[QI]at D
    refine T0 (T4 (by omega) (by omega)) λk hk=>?_
    have:=Qc2 hk
    refine T0 (TX n k ((GR he).2 k hk) (by omega)) λd _=>?_
    exact T2 (QK ⟨by omega,by subst hi;exact Qv (by omega) (GR he).1,trivial⟩)
   exact T2 (Qm trivial)
  unfold VG
  exact T3
def Qhz (D:Ql)(h:Dd D):Qg (Tp D) λ_=>True:=TX _ D h (Jp _)
def Zg : ∀(n:Nat) (e:Ql),Dd e->SizeOf.sizeOf e<=n->Qg (El n e) λ_=>True
 | 0,e,_,h=>absurd e.pos (by omega)
 | n+1,e,he,h=>by
  unfold El RG
  refine T0 (Qg.up e.Kids.length (λst=>st.2) (λ_=>True) (Q:=λ_=>True) rfl trivial (λi st hi hn _=>?_)) (λq _=>?_)
  ·obtain⟨a,x⟩:=st
   replace hi:x=(i:Int):=hi
   show Qg (Ph e (El n) a x) _
   unfold Ph
   refine T1 (λD=>?_) (λD=>?_)
   ·simp only[QI]at D
    refine T0 (T4 (by omega) (by omega)) λk hk=>?_
    have:=Qc2 hk
    refine T0 (Zg n k ((GR he).2 k hk) (by omega)) λd _=>?_
    exact T2 (QK ⟨by omega,by subst hi;exact Qv (by omega) (GR he).1,trivial⟩)
   exact T2 (Qm trivial)
  unfold Qab
  exact T3
def Qiv (D:Ql)(h:Dd D):Qg (ZB D) λ_=>True:=Zg _ D h (Jp _)
def Pz (e1:Ql)(D:Int)(h_e1:Dd e1):Qg (BQ e1 D) λr=>r=true->POk D e1:=by
 unfold BQ
 refine T0 (P:=λr=>r=true->POk D e1) ?_ (λx hx=>T2 hx)
 unfold VJ
 refine T0 (Qhz e1 h_e1) (λx _=>?_)
 refine T1 (λ_=>?_) (λ_=>T2 λh=>by cases h)
 refine T0 (Qiv e1 h_e1) (λx _=>?_)
 refine T1 (λ_=>?_) (λ_=>T2 λh=>by cases h)
 exact T0 (Qhy e1 D h_e1) (λx hx=>T2 hx)
def Qfp (v1:QH)(v2:Int)(h:YC v1):Xl (Li v1 v2):=by
 unfold Li
 refine T0 (P:=λ_=>True) ?_ (λx_1 hv2=>?_)
 ·unfold Sc
  refine T0 (Pz v1.Guard v2 (h.2.2.1)) (λx_3 hv4=>?_)
  refine T1 (λD=>?_) (λD=>?_)
  ·refine T1 (λhc6=>?_) (λhc6=>?_)
   ·exact T3
   exact T3
  exact T3
 unfold Sd
 exact T3
def Qc9 (D:Qf)(v2:Xs)(h:Xr D)(h_v2:Im v2):Xl (CW D v2):=by
 unfold CW
 refine T0 (Kv D.Places v2.Place (h.2.1)) (λx_1 hv2=>?_)
 exact T3
def Qda (D:Xs)(v2:Int)(h:Im D):Xl (CX D v2):=by
 unfold CX
 refine T0 (Pz D.Expr v2 (h.2)) (λx_1 hv2=>?_)
 exact T3
def Qdb (v1:Qf)(v2:Xs)(v3:Int)(v4:Int)(v5:Int)(D:Xr v1)(h:Im v2):Xl (CY v1 v2 v3 v4 v5):=by
 unfold CY
 refine T0 (Qc9 v1 v2 (D) (h)) (λx_1 hv2=>?_)
 refine T1 (λhc3=>?_) (λhc3=>?_)
 ·exact T3
 refine T0 (Qda v2 v4 (h)) (λx_4 hv5=>?_)
 refine T1 (λhc6=>?_) (λhc6=>?_)
 ·exact T3
 exact T3
def Qfq (p1:Int)(a2:Xs)(v3:Qf)(v4:Int)(h:Im a2)(D:Xr v3):Xl (Lj p1 a2 v3 v4):=by
 unfold Lj
 refine T0 (Qdb v3 a2 3 v4 1 (D) (h)) (λx_1 hv2=>?_)
 exact T3
def ZQ (l1:(L_ Xs))(v2:Qf)(v3:Int)(h:(Xe Im) l1)(h_v2:Xr v2):Xl (ES l1 v2 v3):=by
 unfold ES
 refine T0 (Qg.up (l1.length) (λst=>st) (λ_=>True) (Q:=λq=>True) rfl trivial (λi2 st D hn4 hj5=>?_)) (λq6 hq7=>?_)
 ·obtain⟨x_1,hst⟩:∃y,y=st:=⟨_,rfl⟩
  subst hst
  replace D:x_1=(i2:Int):=D
  show Qg (UU l1 v2 v3 x_1) _
  unfold UU
  refine T1 (λhc8=>?_) (λhc8=>?_)
  ·refine T0 (T4 (by omega) (by simp_all)) (λe_9 hv10=>?_)
   refine T0 (Qfq x_1 e_9 v2 v3 (((h).2 e_9 hv10)) (h_v2)) (λx_11 hv12=>?_)
   refine T1 (λhc13=>?_) (λhc13=>?_)
   ·exact T2 (Qm trivial)
   exact T2 (QK ⟨(by simp_all),by subst D;exact Qv (by simp_all) (h).1,trivial⟩)
  exact T2 (Qm trivial)
 rcases q6 with q6 | q6
 ·show Qg (UV q6.1 q6.2) _
  unfold UV
  exact T3
 show Qg (UW) _
 unfold UW
 exact T3
def Qaz (n1:Qf)(l2:(L_ Xs))(h:Int)(h_n1:Xr n1)(D:(Xe Im) l2):Xl (Ij n1 l2 h):=by
 unfold Ij
 refine T0 (ZQ l2 n1 h (D) (h_n1)) (λx_1 hv2=>?_)
 exact T3
def Qfr (v1:Qf)(v2:QH)(v3:Int)(h:Xr v1)(D:YC v2):Xl (Lk v1 v2 v3):=by
 unfold Lk
 refine T0 (Qaz v1 v2.Ins v3 (h) (D.2.2.2.2.2.1)) (λx_1 hv2=>?_)
 exact T3
def Qbt (v1:Qf)(v2:QH)(v3:Int)(v4:Int)(h:Xr v1)(D:YC v2):Xl (AO v1 v2 v3 v4):=by
 unfold AO
 refine T0 (Qfr v1 v2 v3 (h) (D)) (λx_1 hv2=>?_)
 exact T3
def Qfs (v1:Qf)(v2:QH)(v3:Int)(h:Xr v1)(D:YC v2):Xl (Ll v1 v2 v3):=by
 unfold Ll
 refine T0 (Qaz v1 v2.Outs v3 (h) (D.2.2.2.2.2.2.1)) (λx_1 hv2=>?_)
 exact T3
def Qbu (v1:Qf)(v2:QH)(v3:Int)(v4:Int)(h:Xr v1)(D:YC v2):Xl (AP v1 v2 v3 v4):=by
 unfold AP
 refine T0 (Qfs v1 v2 v3 (h) (D)) (λx_1 hv2=>?_)
 exact T3
def QaA (D:Qf)(v2:Int)(h:Xr D):Xl (UJ D v2):=by
 unfold UJ
 refine T0 (Kv D.Places v2 (h.2.1)) (λx_1 hv2=>?_)
 exact T3
def TY (s1:LI_)(v2:Int)(D:(Xe (λ_=>True)) s1):Xl (WF s1 v2):=by
 unfold WF
 refine T0 (Qg.up (s1.length) (λst=>st) (λ_=>True) (Q:=λq=>True) rfl trivial (λi2 st h hn4 hj5=>?_)) (λq6 hq7=>?_)
 ·obtain⟨x_1,hst⟩:∃y,y=st:=⟨_,rfl⟩
  subst hst
  replace h:x_1=(i2:Int):=h
  show Qg (Yp s1 v2 x_1) _
  unfold Yp
  refine T1 (λhc8=>?_) (λhc8=>?_)
  ·refine T0 (T4 (by omega) (by simp_all)) (λe_9 hv10=>?_)
   refine T1 (λhc11=>?_) (λhc11=>?_)
   ·exact T2 (Qm trivial)
   exact T2 (QK ⟨(by simp_all),by subst h;exact Qv (by simp_all) (D).1,trivial⟩)
  exact T2 (Qm trivial)
 rcases q6 with q6 | q6
 ·show Qg (EG q6) _
  unfold EG
  exact T3
 show Qg (EH) _
 unfold EH
 exact T3
def Cz (D:LI_)(v2:Int)(h:(Xe (λ_=>True)) D):Xl (XW D v2):=by
 unfold XW
 refine T0 (TY D v2 (h)) (λx_1 hv2=>?_)
 exact T3
def QaB (D:LI_)(v2:Int)(v3:Int)(h:(Xe (λ_=>True)) D)(hp0:0<=v2)(hp1:v2<D.length):Xl (UK D v2 v3):=by
 unfold UK
 refine T0 (T5 (by simp_all;omega)) (λ_ _=>?_)
 refine T0 (Cz ((D.drop 0).take (v2.toNat-0)) v3 (((h).drop _).take _)) (λx_1 hv2=>?_)
 exact T3
def Qdc (v1:Qf)(v2:Int)(v3:Int)(v4:LI_)(v5:Int)(v6:Int)(h:Xr v1)(D:(Xe (λ_=>True)) v4)(hp0:0<=v5)(hp1:v5<v4.length):Xl (CZ v1 v2 v3 v4 v5 v6):=by
 unfold CZ
 refine T0 (QaA v1 v2 (h)) (λx_1 hv2=>?_)
 refine T1 (λhc3=>?_) (λhc3=>?_)
 ·exact T3
 refine T0 (QaB v4 v5 v2 (D) (by omega) (by omega)) (λx_4 hv5=>?_)
 refine T1 (λhc6=>?_) (λhc6=>?_)
 ·exact T3
 exact T3
def Qce (k1:Int)(h:Int)(v3:Qf)(v4:LI_)(D:Xr v3)(h_v4:(Xe (λ_=>True)) v4)(hp0:0<=k1)(hp1:k1<v4.length):Xl (Bz k1 h v3 v4):=by
 unfold Bz
 refine T0 (Qdc v3 h 3 v4 k1 5 (D) (h_v4) (by omega) (by omega)) (λx_1 hv2=>?_)
 exact T3
def Qdd (l1:LI_)(v2:Qf)(v3:LI_)(h_l1:(Xe (λ_=>True)) l1)(h_v2:Xr v2)(h_v3:(Xe (λ_=>True)) v3)(hp0:l1.length<=v3.length):Xl (Fa l1 v2 v3):=by
 unfold Fa
 refine T0 (Qg.up (l1.length) (λst=>st) (λ_=>True) (Q:=λq=>True) rfl trivial (λi2 st h hn4 hj5=>?_)) (λq6 hq7=>?_)
 ·obtain⟨D,hst⟩:∃y,y=st:=⟨_,rfl⟩
  subst hst
  replace h:D=(i2:Int):=h
  show Qg (FX l1 v2 v3 D) _
  unfold FX
  refine T1 (λhc8=>?_) (λhc8=>?_)
  ·refine T0 (T4 (by omega) (by simp_all)) (λe_9 hv10=>?_)
   refine T0 (Qce D e_9 v2 v3 (h_v2) (h_v3) (by omega) (by simp_all;omega)) (λx_11 hv12=>?_)
   refine T1 (λhc13=>?_) (λhc13=>?_)
   ·exact T2 (Qm trivial)
   exact T2 (QK ⟨(by simp_all),by subst h;exact Qv (by simp_all) (h_l1).1,trivial⟩)
  exact T2 (Qm trivial)
 rcases q6 with q6 | q6
 ·show Qg (FY q6.1 q6.2) _
  unfold FY
  exact T3
 show Qg (FZ) _
 unfold FZ
 exact T3
def Qen (n1:Qf)(l2:LI_)(D:Xr n1)(h:(Xe (λ_=>True)) l2):Xl (Hz n1 l2):=by
 unfold Hz
 refine T0 (Qdd l2 n1 l2 (h) (D) (h) (by omega)) (λx_1 hv2=>?_)
 exact T3
def Qeo (v1:Qf)(v2:QH)(h:Xr v1)(D:YC v2):Xl (HA v1 v2):=by
 unfold HA
 refine T0 (Qen v1 v2.Cancel (h) (D.2.2.2.2.2.2.2.1)) (λx_1 hv2=>?_)
 exact T3
def Qbv (v1:Qf)(v2:QH)(v3:Int)(h:Xr v1)(D:YC v2):Xl (AQ v1 v2 v3):=by
 unfold AQ
 refine T0 (Qeo v1 v2 (h) (D)) (λx_1 hv2=>?_)
 exact T3
def Sg (k1:Int)(D:(L_ Xs))(h:(Xe Im) D):Xl (AR k1 D):=by
 unfold AR
 exact T3
def QgF (D:QH)(h:YC D):Xl (ML D):=by
 unfold ML
 refine T0 (P:=λ_=>True) ?_ (λx_1 hv2=>?_)
 ·unfold TN
  refine T0 (Sg D.Join D.Ins (h.2.2.2.2.2.1)) (λx_3 hv4=>?_)
  refine T1 (λhc5=>?_) (λhc5=>?_)
  ·refine T0 (Sg D.Split D.Outs (h.2.2.2.2.2.2.1)) (λx_6 hv7=>?_)
   refine T1 (λhc8=>?_) (λhc8=>?_)
   ·refine T1 (λhc9=>?_) (λhc9=>?_)
    ·refine T1 (λhc10=>?_) (λhc10=>?_)
     ·exact T3
     exact T3
    exact T3
   exact T3
  exact T3
 unfold TO
 exact T3
def Qep (D:QH)(h:YC D):Xl (HB D):=by
 unfold HB
 refine T0 (QgF D (h)) (λx_1 hv2=>?_)
 exact T3
def Qde (v1:QH)(v2:Int)(v3:Qf)(v4:Int)(v5:Int)(v6:Int)(v7:Int)(v8:Int)(v9:Int)(v10:Int)(v11:Int)(v12:Int)(v13:Int)(v14:Int)(v15:Int)(h:YC v1)(D:Xr v3)(hp0:0<=v4)(hp1:v4<v3.Tasks.length):Xl (Gp v1 v2 v3 v4 v5 v6 v7 v8 v9 v10 v11 v12 v13 v14 v15):=by
 unfold Gp
 refine T0 (Qfj v1 (h)) (λx_1 hv2=>?_)
 refine T1 (λhc3=>?_) (λhc3=>?_)
 ·exact T3
 refine T0 (Qfl v3 v4 v1 (D) (h) (by omega) (by omega)) (λx_4 hv5=>?_)
 refine T1 (λhc6=>?_) (λhc6=>?_)
 ·exact T3
 refine T0 (Qfm v6 v1 (h)) (λx_7 hv8=>?_)
 refine T1 (λhc9=>?_) (λhc9=>?_)
 ·exact T3
 refine T0 (Qem v3 v1 v8 (D) (h)) (λx_10 hv11=>?_)
 refine T1 (λhc12=>?_) (λhc12=>?_)
 ·exact T3
 refine T0 (Qfo v3 v4 (D)) (λx_13 hv14=>?_)
 refine T1 (λhc15=>?_) (λhc15=>?_)
 ·exact T3
 refine T0 (Qfp v1 v6 (h)) (λx_16 hv17=>?_)
 refine T1 (λhc18=>?_) (λhc18=>?_)
 ·exact T3
 refine T0 (Qbt v3 v1 v6 x_10.2 (D) (h)) (λx_19 hv20=>?_)
 refine T1 (λhc21=>?_) (λhc21=>?_)
 ·exact T3
 refine T0 (Qbu v3 v1 v6 x_19.2 (D) (h)) (λx_22 hv23=>?_)
 refine T1 (λhc24=>?_) (λhc24=>?_)
 ·exact T3
 refine T0 (Qbv v3 v1 x_22.2 (D) (h)) (λx_25 hv26=>?_)
 refine T1 (λhc27=>?_) (λhc27=>?_)
 ·exact T3
 refine T0 (Qep v1 (h)) (λx_28 hv29=>?_)
 refine T1 (λhc30=>?_) (λhc30=>?_)
 ·exact T3
 exact T3
def QaC (n1:Qf)(k2:Int)(h:Xr n1):Xl (Ka n1 k2):=by
 unfold Ka
 refine T0 (Io n1.Tasks k2 (h.2.2.1)) (λx_1 hv2=>?_)
 refine T1 (λhc3=>?_) (λhc3=>?_)
 ·exact T3
 refine T0 (Sf n1 (h)) (λx_4 hv5=>?_)
 refine T1 (λhc6=>?_) (λhc6=>?_)
 ·exact T3
 refine T0 (T4 (by simp_all) (by simp_all)) (λD hv8=>?_)
 refine T0 (T4 (by simp_all) (by simp_all)) (λe_9 hv10=>?_)
 refine T0 (QgE 0 n1 D (h) (((h.2.2.1).2 D hv8))) (λx_11 hv12=>?_)
 refine T0 (Qc5 0 n1 D (e_9.Vars.length:Int) (h) (((h.2.2.1).2 D hv8))) (λx_13 hv14=>?_)
 refine T0 (Qc6 0 n1 D (e_9.Vars.length:Int) (h) (((h.2.2.1).2 D hv8))) (λx_15 hv16=>?_)
 refine T0 (Qc7 0 n1 D (h) (((h.2.2.1).2 D hv8))) (λx_17 hv18=>?_)
 refine T0 (Qde D 1 n1 k2 5 (e_9.Vars.length:Int) 2 0 (-1) 2 1 (-1) (-1) (-1) 11 (((h.2.2.1).2 D hv8)) (h) (by simp_all) (by simp_all)) (λx_19 hv20=>?_)
 refine T1 (λhc21=>?_) (λhc21=>?_)
 ·exact T3
 exact T3
def QgG (k1:Int)(p2:QH)(v3:Qf)(D:YC p2)(h:Xr v3):Xl (Fw k1 p2 v3):=by
 unfold Fw
 refine T0 (QaC v3 k1 (h)) (λx_1 hv2=>?_)
 exact T3
def Vp (l1:(L_ QH))(v2:Qf)(h:(Xe YC) l1)(h_v2:Xr v2):Xl (KB l1 v2):=by
 unfold KB
 refine T0 (Qg.up (l1.length) (λst=>st) (λ_=>True) (Q:=λq=>True) rfl trivial (λi2 st D hn4 hj5=>?_)) (λq6 hq7=>?_)
 ·obtain⟨x_1,hst⟩:∃y,y=st:=⟨_,rfl⟩
  subst hst
  replace D:x_1=(i2:Int):=D
  show Qg (KY l1 v2 x_1) _
  unfold KY
  refine T1 (λhc8=>?_) (λhc8=>?_)
  ·refine T0 (T4 (by omega) (by simp_all)) (λe_9 hv10=>?_)
   refine T0 (QgG x_1 e_9 v2 (((h).2 e_9 hv10)) (h_v2)) (λx_11 hv12=>?_)
   refine T1 (λhc13=>?_) (λhc13=>?_)
   ·exact T2 (Qm trivial)
   exact T2 (QK ⟨(by simp_all),by subst D;exact Qv (by simp_all) (h).1,trivial⟩)
  exact T2 (Qm trivial)
 rcases q6 with q6 | q6
 ·show Qg (Uu q6.1 q6.2) _
  unfold Uu
  exact T3
 show Qg (Uv) _
 unfold Uv
 exact T3
def Qiw (n1:Qf)(h:Xr n1):Xl (Uc n1):=by
 unfold Uc
 refine T0 (Qgx n1 2 3 1 (h)) (λx_1 hv2=>?_)
 refine T1 (λhc3=>?_) (λhc3=>?_)
 ·exact T3
 refine T0 (Sf n1 (h)) (λx_4 hv5=>?_)
 refine T1 (λhc6=>?_) (λhc6=>?_)
 ·exact T3
 refine T0 (TV n1.Places n1 (h.2.1) (h)) (λx_7 hv8=>?_)
 refine T1 (λhc9=>?_) (λhc9=>?_)
 ·exact T3
 refine T0 (Vp n1.Tasks n1 (h.2.2.1) (h)) (λx_10 hv11=>?_)
 refine T1 (λD=>?_) (λD=>?_)
 ·exact T3
 exact T3
def Qjj (D:Int)(b2:Int)  : Xl (Su D b2):=by
 unfold Su
 refine T1 (λh=>?_) (λh=>?_)
 ·exact T3
 exact T3
def Qcf (D:Int)(b2:Int)  : Xl (Bn D b2):=by
 unfold Bn
 refine T1 (λh=>?_) (λh=>?_)
 ·exact T3
 exact T3
def QbO (D:Int)  : Xl (LV D):=by
 unfold LV
 refine T1 (λh=>?_) (λh=>?_)
 ·exact T3
 exact T3
def Qcg (h:Int)(D:Int)  : Xl (Bo h D):=by
 unfold Bo
 exact T3
def Qft (a1:Int)(b2:Int)  : Xl (IN a1 b2):=by
 unfold IN
 refine T0 (QbO a1 ) (λx_1 hv2=>?_)
 refine T0 (QbO b2 ) (λx_3 hv4=>?_)
 refine T0 (Qcg x_1 x_3 ) (λx_5 hv6=>?_)
 refine T1 (λh=>?_) (λh=>?_)
 ·unfold Eu
  refine T1 (λD=>?_) (λD=>?_)
  ·exact T3
  exact T3
 unfold Eu
 refine T1 (λhc9=>?_) (λhc9=>?_)
 ·exact T3
 exact T3
def Sh (a1:Int)(b2:Int)  : Xl (Av a1 b2):=by
 unfold Av
 refine T1 (λh=>?_) (λh=>?_)
 ·exact T3
 refine T1 (λD=>?_) (λD=>?_)
 ·exact T3
 refine T0 (T5 (by simp_all)) (λ_ _=>?_)
 refine T0 (T5 (by simp_all)) (λ_ _=>?_)
 exact T3
def GS (D:Bool)  : Xl (Dz D):=by
 unfold Dz
 refine T1 (λh=>?_) (λh=>?_)
 ·exact T3
 exact T3
def Mo (Ga:Int)(D:Int)(h:Int)  : Xl (HW Ga D h):=by
 unfold HW
 refine T1 (λhc1=>?_) (λhc1=>?_)
 ·refine T0 (Qjj D h ) (λx_2 hv3=>?_)
  exact T3
 refine T1 (λhc4=>?_) (λhc4=>?_)
 ·refine T0 (Qcf D h ) (λx_5 hv6=>?_)
  exact T3
 refine T1 (λhc7=>?_) (λhc7=>?_)
 ·refine T0 (Qft D h ) (λx_8 hv9=>?_)
  exact T3
 refine T1 (λhc10=>?_) (λhc10=>?_)
 ·refine T0 (Sh D h ) (λx_11 hv12=>?_)
  exact T3
 refine T1 (λhc13=>?_) (λhc13=>?_)
 ·refine T0 (Sh D h ) (λx_14 hv15=>?_)
  exact T3
 refine T1 (λhc16=>?_) (λhc16=>?_)
 ·refine T0 (GS (D==h) ) (λx_17 hv18=>?_)
  exact T3
 refine T1 (λhc19=>?_) (λhc19=>?_)
 ·refine T0 (GS (D != h) ) (λx_20 hv21=>?_)
  exact T3
 refine T1 (λhc22=>?_) (λhc22=>?_)
 ·refine T0 (GS (decide (D<h)) ) (λx_23 hv24=>?_)
  exact T3
 refine T1 (λhc25=>?_) (λhc25=>?_)
 ·refine T0 (GS (decide (D<=h)) ) (λx_26 hv27=>?_)
  exact T3
 refine T1 (λhc28=>?_) (λhc28=>?_)
 ·refine T0 (P:=λ_=>True) ?_ (λv_29 hv30=>?_)
  ·unfold QcH
   refine T1 (λhc31=>?_) (λhc31=>?_)
   ·refine T0 (GS (h != 0) ) (λx_32 hv33=>?_)
    exact T3
   refine T0 (GS false ) (λx_34 hv35=>?_)
   exact T3
  unfold QcI
  exact T3
 refine T1 (λhc36=>?_) (λhc36=>?_)
 ·refine T0 (P:=λ_=>True) ?_ (λv_37 hv38=>?_)
  ·unfold QcJ
   refine T1 (λhc39=>?_) (λhc39=>?_)
   ·refine T0 (GS true ) (λx_40 hv41=>?_)
    exact T3
   refine T0 (GS (h != 0) ) (λx_42 hv43=>?_)
   exact T3
  unfold QcK
  exact T3
 exact T3
def Qdf (h:Int)  : Xl (Sv h):=by
 unfold Sv
 refine T0 (Mo 2 0 h ) (λx_1 D=>?_)
 exact T3
def Cn (b:QBg)(h:b.length<=maxLen):Kg b=some (Cj (-1) b):=by
 unfold Kg
 have D:=Zd (body:=λst=>Kf b st.1 st.2) (l:=b) (ρ:=Unit⊕Unit) (λi (t:Int)=>(t,(i:Int)))
  (λi t x=>bif ((decide (x.1<=t))||((decide (x.2<1))||(decide (1048576<x.2))))then .inr (.inl ())else .inl x.1) (λ_=>.inr ())
  (λi t x hi hx=>by
   show Kf b t i=_
   unfold Kf
   rw[Yu (by omega:(i:Int)<b.length),QY,QT,hx,Qd]
   cases ((decide (x.1<=t))||((decide (x.2<1))||(decide (1048576<x.2))))with
   | true=>rfl
   | false=>simp only[Xh,Sum.elim_inl];rw[Qv hi h])
  (λt=>by
   show Kf b t b.length=_
   unfold Kf
   rw[JM (by omega)];rfl) (-1) (s0:=(-1,0)) rfl
 rw[D]
 have:∀(l:QBg) (k:Nat) (t:Int),BA (λi t (x:Int×Int)=>(bif ((decide (x.1<=t))||((decide (x.2<1))||(decide (1048576<x.2))))then .inr (.inl ())else .inl x.1:Int⊕(Unit⊕Unit))) (λ_=>.inr ()) k t l=bif Cj t l then .inr ()else .inl ():=by
  intro l
  induction l with
  | nil=>intro k t;rfl
  | cons x l ih=>
   intro k t
   rw[BA,Cj]
   cases ((decide (x.1<=t))||((decide (x.2<1))||(decide (1048576<x.2))))with
   | true=>rfl
   | false=>simp only[Xh,Sum.elim_inl,Si,Bool.true_and];exact ih _ _
 rw[this]
 cases Cj (-1) b<;>rfl
def Zh (b:QBg)(h:b.length<=maxLen):CE b=some (bif Cj (-1) b then .inr b else .inl ()):=by
 unfold CE
 rw[Cn b h,Qd]
 cases hr:Cj (-1) b with
 | false=>rfl
 | true=>
  simp only[GV,Xh,QY]
  have ha:=(DH.1 hr).1
  obtain⟨r,h1,h2⟩:=Ci (body:=λst=>Dq b st.1 st.2) b.length (λi s=>s=((i:Int),b.take i)) (λr=>r=b)
   (λi s hi D=>by
    subst D
    refine .inl ⟨(((i+1:Nat):Int),b.take (i+1)),?_,rfl⟩
    show Dq b i (b.take i)=_
    unfold Dq
    rw[Yu (by omega:(i:Int)<b.length),QY,QT,Qx hi,Qd,Qv hi h]
    have e:b.take (i+1)=b.take i++[b[i]]:=by rw[DV,Qx hi];rfl
    rw[e,<-Qne (by have:=(ha.sublist (List.take_sublist (i+1) b));rw[e]at this;exact this)])
   (λs D=>by
    subst D
    refine⟨_,?_,rfl⟩
    show Dq b b.length (b.take b.length)=_
    unfold Dq
    rw[JM (by omega),Hc];rfl) (0,[]) rfl
  rw[h1,h2];rfl
def ZR (a b:QBg)(D:a.length<=maxLen)(h:b.length<=maxLen):IJ a b=some (bif Cj (-1) a then(bif Cj (-1) b then .inr (.inr (.inr (a,b)))else .inr (.inr (.inl a)))else(bif Cj (-1) b then .inr (.inl b)else .inl ())):=by
 unfold IJ
 rw[Zh a D]
 cases Cj (-1) a with
 | true=>
  simp only[QY,Qd,Sum.elim_inr]
  unfold RD
  rw[Zh b h]
  cases Cj (-1) b<;>rfl
 | false=>
  simp only[Xh,Qd,Sum.elim_inl]
  unfold RC
  rw[Zh b h]
  cases Cj (-1) b<;>rfl
def MM (m:QBg)(ha:HD m)(h':m.length<=4294967296):Gg m=some (Ik m):=by
 have h:m.length<=maxLen:=by unfold maxLen;omega
 unfold Gg Dv FQ
 simp only[Yu h',PS rfl,Qd,Ql2 ha]
 obtain⟨r,h1,h2⟩:=Ci (body:=λst=>WA (m.map Prod.fst) m st.1 st.2) m.length (λi s=>s=((i:Int),Ik (m.take i))) (λr=>r=Ik m)
  (λi s hi D=>by
   subst D
   refine .inl ⟨(((i+1:Nat):Int),Ik (m.take (i+1))),?_,rfl⟩
   show WA (m.map Prod.fst) m i (Ik (m.take i))=_
   unfold WA
   have e:m.take (i+1)=m.take i++[m[i]]:=by rw[DV,Qx hi];rfl
   have ec:(Qs m m[i].1).getD 0=m[i].2:=FJ ha.nd (XV hi)
   rw[Yu (by simp;omega),QY,QT,XY,Qx hi,JD,Qd,ec]
   have hl:(Ik (m.take i)).length<=i:=Ym (IA _ _) (by simp;omega)
   cases hc:decide (0<m[i].2)with
   | true=>
    simp only[QY]
    rw[GE (by simp;omega),Qd]
    unfold Gb
    rw[Qv hi h,e]
    unfold Ik
    rw[NF,Am,if_pos hc];rfl
   | false=>
    simp only[Xh]
    unfold Gb
    rw[Qv hi h,e]
    unfold Ik
    rw[NF,Am,if_neg (by rw[hc];decide),List.filter_nil,Vr])
  (λs D=>by
   subst D
   refine⟨_,?_,rfl⟩
   show WA (m.map Prod.fst) m m.length (Ik (m.take m.length))=_
   unfold WA
   rw[JM (by simp),Hc];rfl) (0,[]) rfl
 rw[h1,h2];rfl
def Qjk (m:QBg):(Ik m).length<=m.length:=IA _ _
def Iq (a b:QBg)(h:a.length+b.length<=4294967296):(¬(Rt a/\Rt b)/\Jw a b=some ([],1))\/(Rt a/\Rt b/\(∃k,1048576<Xc a k+Xc b k)/\Jw a b=some ([],2))\/
  (Rt a/\Rt b/\∃r,Jw a b=some (r,0)/\Rt r/\(∀k,Xc r k=Xc a k+Xc b k)/\r.length<=a.length+b.length):=by
 unfold Jw
 rw[ZR a b (by unfold maxLen;omega) (by unfold maxLen;omega),Qd]
 cases ra:Cj (-1) a with
 | false=>exact .inl ⟨λhh=>(by rw[DH.2 hh.1]at ra;cases ra),by cases Cj (-1) b<;>rfl⟩
 | true=>
  cases rb:Cj (-1) b with
  | false=>exact .inl ⟨λhh=>(by rw[DH.2 hh.2]at rb;cases rb),rfl⟩
  | true=>
   have hra:=DH.1 ra
   have D:=DH.1 rb
   simp only[QY,Sum.elim_inr]
   unfold Td
   have hw:∀p∈b,Xc a p.1+p.2=Xc a p.1+Xc b p.1:=λp hp=>by rw[FJ D.1.nd hp]
   rcases Qgs (g:=λx v=>Qi (x+v)) (stop:=λx=>decide (1048576<x)) (q:=some ()) (body:=λst p=>BK st p.1 p.2) (λs p=>by
     show BK s p.1 p.2=_
     unfold BK
     rw[Wa,if_pos rfl]
     unfold Xc
     simp only[GH]
     cases decide (1048576<Qi ((Qs s p.1).getD 0+p.2))<;>rfl) hra.1 D.1.nd with⟨⟨p,h1,h2⟩,h3⟩|⟨h1,s',h3,h4,h5,h6⟩
   ·refine .inr (.inl ⟨hra,D,⟨p.1,?_⟩,?_⟩)
    ·have:=hra.cnt p.1
     have:=D.cnt p.1
     have h2:=Xw h2
     rw[FJ D.1.nd h1]
     rw[FJ D.1.nd h1]at this
     rwa[Yf (by omega)]at h2
    simp only[h3 () rfl];rfl
   have hk:∀k,Xc s' k=Xc a k+Xc b k/\Xc s' k<=1048576:=λk=>by
    have ca:=hra.cnt k
    have cb:=D.cnt k
    have e:=h6 k
    unfold QdC at e
    cases hm:Qs b k with
    | none=>
     rw[hm]at e
     simp only at e
     have:Xc b k=0:=by unfold Xc;rw[hm];rfl
     have e2:Xc s' k=Xc a k:=by unfold Xc;rw[e]
     omega
    | some v=>
     rw[hm]at e
     simp only at e
     have e1:Xc b k=v:=by unfold Xc;rw[hm];rfl
     have e2:Xc s' k=Qi (Xc a k+v):=by unfold Xc;rw[e];rfl
     have h7:=h1 (k,v) ((DR D.1.nd).1 hm)
     simp only[Xm]at h7
     rw[Yf (by omega)]at e2 h7
     omega
   refine .inr (.inr ⟨hra,D,Ik s',?_,Ql1 h4 (λk hk0=>⟨?_,(hk k).2⟩),λk=>?_,Ym (Qjk s') h5⟩)
   ·simp only[h3,Qd,Sum.elim_inl]
    unfold NS
    rw[MM s' h4 (by omega)];rfl
   ·have:=(hk k).1
    have ca:=hra.cnt k
    have cb:=D.cnt k
    by_cases c:0<Xc a k
    ·exact hra.cnt_pos c
    exact D.cnt_pos (by omega)
   rw[Qji h4,(hk k).1]
   have ca:=hra.cnt k
   have cb:=D.cnt k
   split<;>omega
def TZ (m h:QBg):Gc m h=some (!(m.any λp=>decide (Xc h p.1<p.2))):=by
 unfold Gc
 rw[QkQ (bad:=λp=>decide (Xc h p.1<p.2)) (q:=()) (λp=>by
  show WE h p.1 p.2=_
  unfold WE Xc
  cases decide ((Qs h p.1).getD 0<p.2)<;>rfl)]
 cases m.any λp=>decide (Xc h p.1<p.2)<;>rfl
def QgH {a b:QBg}(D:Rt a)(hb:Rt b):(a.any λp=>decide (Xc b p.1<p.2))=false↔∀k,Xc a k<=Xc b k:=by
 rw[<-PE,Iw]
 simp only[QI,not_exists,not_and]
 constructor
 ·intro h k
  have cb:=hb.cnt k
  cases e:Qs a k with
  | none=>
   have:Xc a k=0:=by unfold Xc;rw[e];rfl
   omega
  | some v=>
   have h1:=h _ ((DR D.1.nd).1 e)
   have:Xc a k=v:=by unfold Xc;rw[e];rfl
   simp only at h1
   omega
 intro h p hp hlt
 have:=h p.1
 rw[FJ D.1.nd hp]at this
 omega
def QgI (a b:QBg)(ha:a.length<=maxLen)(hb:b.length<=maxLen):∃r,Oc a b=some r/\(r=true↔Rt a/\Rt b/\∀k,Xc a k<=Xc b k):=by
 unfold Oc
 rw[ZR a b ha hb,Qd]
 cases ra:Cj (-1) a with
 | false=>exact⟨false,by cases Cj (-1) b<;>rfl,by simp;intro hh;rw[DH.2 hh]at ra;cases ra⟩
 | true=>
  cases rb:Cj (-1) b with
  | false=>exact⟨false,rfl,by simp;intro _ hh;rw[DH.2 hh]at rb;cases rb⟩
  | true=>
   have D:=DH.1 ra
   have hrb:=DH.1 rb
   refine⟨!(a.any λp=>decide (Xc b p.1<p.2)),?_,?_⟩
   ·simp only[QY,Sum.elim_inr]
    unfold Oa
    rw[TZ];rfl
   rw[UA,QgH D hrb]
   exact⟨λh=>⟨D,hrb,h⟩,λh=>h.2.2⟩
def RN (a b:QBg)(h:a.length+b.length<=4294967296):(¬(Rt a/\Rt b)/\JO a b=some ([],1))\/(Rt a/\Rt b/\(∃k,Xc a k<Xc b k)/\JO a b=some ([],10))\/
  (Rt a/\Rt b/\(∀k,Xc b k<=Xc a k)/\∃r,JO a b=some (r,0)/\Rt r/\(∀k,Xc r k=Xc a k-Xc b k)/\r.length<=a.length+b.length):=by
 unfold JO
 rw[ZR a b (by unfold maxLen;omega) (by unfold maxLen;omega),Qd]
 cases ra:Cj (-1) a with
 | false=>exact .inl ⟨λhh=>(by rw[DH.2 hh.1]at ra;cases ra),by cases Cj (-1) b<;>rfl⟩
 | true=>
  cases rb:Cj (-1) b with
  | false=>exact .inl ⟨λhh=>(by rw[DH.2 hh.2]at rb;cases rb),rfl⟩
  | true=>
   have D:=DH.1 ra
   have hrb:=DH.1 rb
   simp only[QY,Sum.elim_inr]
   unfold RI
   rw[TZ,Qd]
   cases hw:b.any λp=>decide (Xc a p.1<p.2)with
   | true=>
    refine .inr (.inl ⟨D,hrb,?_,rfl⟩)
    obtain⟨p,h1,h2⟩:=Iw.1 hw
    exact⟨p.1,by rw[FJ hrb.1.nd h1];exact Xw h2⟩
   | false=>
    have hle:=(QgH hrb D).1 hw
    simp only[Si,GV,Xh]
    rcases Qgs (g:=λx v=>Qi (x-v)) (stop:=λ_=>false) (q:=none) (body:=λst p=>Af st p.1 p.2) (λs p=>by
      show Af s p.1 p.2=_
      unfold Af Xc
      rfl) D.1 hrb.1.nd with⟨⟨p,h1,h2⟩,h3⟩|⟨h1,s',h3,h4,h5,h6⟩
    ·cases h2
    have hk:∀k,Xc s' k=Xc a k-Xc b k:=λk=>by
     have ca:=D.cnt k
     have cb:=hrb.cnt k
     have e:=h6 k
     unfold QdC at e
     cases hm:Qs b k with
     | none=>
      rw[hm]at e
      simp only at e
      have:Xc b k=0:=by unfold Xc;rw[hm];rfl
      have e2:Xc s' k=Xc a k:=by unfold Xc;rw[e]
      omega
     | some v=>
      rw[hm]at e
      simp only at e
      have e1:Xc b k=v:=by unfold Xc;rw[hm];rfl
      have e2:Xc s' k=Qi (Xc a k-v):=by unfold Xc;rw[e];rfl
      rw[Yf (by omega)]at e2
      omega
    refine .inr (.inr ⟨D,hrb,hle,Ik s',?_,Ql1 h4 (λk hk0=>?_),λk=>?_,Ym (Qjk s') h5⟩)
    ·simp only[h3,Qd,Sum.elim_inl]
     unfold Mw
     rw[MM s' h4 (by omega)];rfl
    ·have:=hk k
     have ca:=D.cnt k
     have cb:=hrb.cnt k
     exact⟨D.cnt_pos (by omega),by omega⟩
    rw[Qji h4,hk k]
    have:=hle k
    split<;>omega
def QgJ (t:Int):Pc [t]=some (bif decide (0<=t)then [(t,1)]else []):=by
 unfold Pc
 rw[KJ]
 show((AU [t] 0 []).bind _).bind _=_
 unfold AU
 rw[Yu (by simp),QY,show idx [t] 0=some t from rfl,Qd]
 unfold PN
 rw[show Qi (0+1)=1 from by decide]
 cases h:decide (0<=t)with
 | false=>
  simp only[Xh,Qd,Sum.elim_inl]
  rw[KJ]
  show((AU [t] 1 []).bind _).bind _=_
  unfold AU
  rw[JM (by simp)]
  simp only[Xh,Qd,Sum.elim_inr]
  unfold ZA
  rw[MM [] List.Pairwise.nil (by simp)];rfl
 | true=>
  simp only[QY,Qd,Sum.elim_inl]
  rw[KJ]
  show((AU [t] 1 [(t,min2 (Qi (0+1)) 1048576)]).bind _).bind _=_
  unfold AU
  rw[JM (by simp)]
  simp only[Xh,Qd,Sum.elim_inr]
  unfold ZA
  rw[MM _ (Vu _ _) (by simp[maxLen]),show min2 (Qi (0+1)) 1048576=1 from by decide];rfl
def Qj5 : ∀(n:Nat) (e:Ql) (d:Int),Dd e->SizeOf.sizeOf e<=n->Qg (Eo n e d) λ_=>True
 | 0,e,_,_,h=>absurd e.pos (by omega)
 | n+1,e,d,he,h=>by
  unfold Eo RK
  refine T1 (λ_=>T3) λ_=>?_
  refine T0 (Qg.up e.Kids.length (λst=>st.2) (λ_=>True) (Q:=λ_=>True) rfl trivial (λi st hi hn _=>?_)) (λq _=>?_)
  ·obtain⟨a,x⟩:=st
   replace hi:x=(i:Int):=hi
   show Qg (Pq e (Eo n) d a x) _
   unfold Pq
   refine T1 (λD=>?_) (λD=>T2 (Qm trivial))
   simp only[QI]at D
   refine T0 (T4 (by omega) (by omega)) λk hk=>?_
   have:=Qc2 hk
   refine T0 (Qj5 n k _ ((GR he).2 k hk) (by omega)) λy _=>?_
   refine T1 (λ_=>T2 (Qm trivial)) λ_=>T1 (λ_=>T2 (Qm trivial)) λ_=>?_
   exact T2 (QK ⟨by omega,by subst hi;exact Qv (by omega) (GR he).1,trivial⟩)
  rcases q with q | q
  ·exact T3
  exact T3
def QhA (e:Ql)(h:Dd e):Qg (FH e) λ_=>True:=by
 unfold FH ZI
 exact T0 (Qj5 _ e 60 h (Jp _)) λ_ _=>T3
def Qj6 (n1:Qf)(h:Xr n1)(q0:Int):Qg (OB n1 q0) λr=>r=true->q0<=400:=by
 unfold OB
 refine T0 (Qg.up n1.Tasks.length (λst=>st.2) (λ_=>True) (Q:=λ_=>True) rfl trivial (λi st hi hn _=>?_)) (λq _=>?_)
 ·obtain⟨a,x⟩:=st
  replace hi:x=(i:Int):=hi
  show Qg (OA n1 a x) _
  unfold OA
  refine T1 (λhc=>?_) (λ_=>T2 (Qm trivial))
  simp only[QI]at hc
  refine T0 (T4 (by omega) (by omega)) λe he=>?_
  have ke:=h.2.2.1.2 e he
  refine T1 (λ_=>T2 (Qm trivial)) λ_=>?_
  refine T0 (Qg.up e.Vars.length (λst=>st) (λ_=>True) (Q:=λ_=>True) rfl trivial (λi2 st D hn2 _=>?_)) (λq _=>?_)
  ·show Qg (Ou e st) _
   unfold Ou
   refine T1 (λhc=>?_) (λ_=>T2 (Qm trivial))
   simp only[QI]at hc
   refine T0 (T4 (by omega) (by omega)) λs _=>?_
   exact T1 (λ_=>T2 (Qm trivial)) λ_=>T2 (QK ⟨by omega,by rw[D];exact Qv (by omega) ke.2.1.1,trivial⟩)
  rcases q with q | q
  ·exact T2 (Qm trivial)
  show Qg (Oz e a x) _
  unfold Oz
  refine T0 (QhA e.Guard ke.2.2.1) λg _=>?_
  refine T0 (Qg.up e.Ins.length (λst=>st.2) (λ_=>True) (Q:=λ_=>True) rfl trivial (λi2 st D hn2 _=>?_)) (λq _=>?_)
  ·obtain⟨b,y⟩:=st
   replace D:y=(i2:Int):=D
   show Qg (Ov e b y) _
   unfold Ov
   refine T1 (λhc=>?_) (λ_=>T2 (Qm trivial))
   simp only[QI]at hc
   refine T0 (T4 (by omega) (by omega)) λs hs=>?_
   refine T0 (QhA s.Expr (ke.2.2.2.2.2.1.2 s hs).2) λg _=>?_
   exact T2 (QK ⟨by omega,by subst D;exact Qv (by omega) ke.2.2.2.2.2.1.1,trivial⟩)
  show Qg (Oy e a x q) _
  unfold Oy
  refine T0 (Qg.up e.Outs.length (λst=>st.2) (λ_=>True) (Q:=λ_=>True) rfl trivial (λi2 st D hn2 _=>?_)) (λq _=>?_)
  ·obtain⟨b,y⟩:=st
   replace D:y=(i2:Int):=D
   show Qg (Ow e b y) _
   unfold Ow
   refine T1 (λhc=>?_) (λ_=>T2 (Qm trivial))
   simp only[QI]at hc
   refine T0 (T4 (by omega) (by omega)) λs hs=>?_
   refine T0 (QhA s.Expr (ke.2.2.2.2.2.2.1.2 s hs).2) λg _=>?_
   exact T2 (QK ⟨by omega,by subst D;exact Qv (by omega) ke.2.2.2.2.2.2.1.1,trivial⟩)
  show Qg (Ox a e x q) _
  unfold Ox
  exact T1 (λ_=>T2 (Qm trivial)) λ_=>T2 (QK ⟨by omega,by subst hi;exact Qv (by omega) h.2.2.1.1,trivial⟩)
 rcases q with q | q
 ·exact T2 λh=>by cases h
 exact T2 λh=>by simpa using h
def Qog (n1:Qf)(h:Xr n1):Qg (Be n1) λr=>r=true->n1.Colours.length<=40/\n1.Places.length<=70/\n1.Tasks.length<=70:=by
 unfold Be
 refine T1 (λ_=>T2 λh=>by cases h) λD=>?_
 simp only[KC,Xm]at D
 refine T6 (P:=λ_=>True) ?_ λ_ _ _=>by omega
 refine T0 (Qg.up n1.Colours.length (λst=>st.2) (λ_=>True) (Q:=λ_=>True) rfl trivial (λi st hi hn _=>?_)) (λq _=>?_)
 ·obtain⟨a,x⟩:=st
  replace hi:x=(i:Int):=hi
  show Qg (BY n1 a x) _
  unfold BY
  refine T1 (λD=>?_) (λ_=>T2 (Qm trivial))
  simp only[QI]at D
  refine T0 (T4 (by omega) (by omega)).self λe he=>?_
  obtain⟨he,hm⟩:=he
  refine T0 (P:=λ_=>True) ?_ λy _=>?_
  ·unfold Ps
   rw[he,Qd]
   exact T1 (λ_=>T3) λ_=>T3
  unfold Pu
  refine T1 (λ_=>T2 (Qm trivial)) λ_=>?_
  refine T0 (Qg.up e.Names.length (λst=>st) (λ_=>True) (Q:=λ_=>True) rfl trivial (λi2 st hi2 hn2 _=>?_)) (λq _=>?_)
  ·show Qg (BX n1 x st) _
   unfold BX
   simp only[he,Qd]
   refine T1 (λD=>?_) (λ_=>T2 (Qm trivial))
   simp only[QI]at D
   refine T0 (T4 (by omega) (by omega)) λs _=>?_
   refine T1 (λ_=>T2 (Qm trivial)) λ_=>?_
   exact T2 (QK ⟨by omega,by rw[hi2];exact Qv (by omega) (h.1.2 e hm).2.2.2.2.1.1,trivial⟩)
  rcases q with q | q
  ·exact T2 (Qm trivial)
  exact T2 (QK ⟨by omega,by subst hi;exact Qv (by omega) h.1.1,trivial⟩)
 rcases q with q | q
 ·exact T3
 show Qg (AI n1 q) _
 unfold AI
 refine T0 (Qg.up n1.Places.length (λst=>st.2) (λ_=>True) (Q:=λ_=>True) rfl trivial (λi st hi hn _=>?_)) (λq _=>?_)
 ·obtain⟨a,x⟩:=st
  replace hi:x=(i:Int):=hi
  show Qg (BZ n1 a x) _
  unfold BZ
  refine T1 (λD=>?_) (λ_=>T2 (Qm trivial))
  simp only[QI]at D
  refine T0 (T4 (by omega) (by omega)) λe _=>?_
  refine T0 (T4 (by omega) (by omega)) λe2 _=>?_
  exact T1 (λ_=>T2 (Qm trivial)) λ_=>T2 (QK ⟨by omega,by subst hi;exact Qv (by omega) h.2.1.1,trivial⟩)
 rcases q with q | q
 ·exact T3
 exact(Qj6 n1 h q).mono λ_ _=>trivial
def Qoh (m:L_ QBg)(h:m.length<=maxLen):Qg (PR m) λ_=>True:=by
 unfold PR
 refine T0 (Qg.up m.length (λst=>st.2) (λ_=>True) (Q:=λ_=>True) rfl trivial (λi st hi hn _=>?_)) (λq _=>T3)
 obtain⟨a,x⟩:=st
 replace hi:x=(i:Int):=hi
 show Qg (Pv m a x) _
 unfold Pv
 refine T1 (λD=>?_) (λ_=>T2 (Qm trivial))
 simp only[QJ,QI]at D
 refine T0 (T4 (by omega) (by omega)) λe _=>?_
 exact T2 (QK ⟨by omega,by subst hi;exact Qv (by omega) h,trivial⟩)
def Qj7 {l:QBg}(h:HD l):∀{a:Int},(∀p∈l,a<=p.1)->∀(i:Nat) (hi:i<l.length),a+i<=(l[i]).1:=by
 induction l with
 | nil=>intro a _ i hi;simp at hi
 | cons p l ih=>
  intro a D i hi
  obtain⟨h1,h2⟩:=Uz.1 h
  cases i with
  | zero=>have:=D p XR;simpa using this
  | succ i=>
   have h3:=ih h2 (a:=a+1) (λq hq=>by have:=h1 q hq;have:=D p XR;omega) i (by simpa using hi)
   simp only[List.getElem_cons_succ]
   omega
def Qnj {l:QBg}(h:HD l)(h0:0<l.length){k:Int}(hk:0<Xc l k):k<=(l[l.length-1]).1:=by
 unfold Xc at hk
 cases e:Qs l k with
 | none=>rw[e]at hk;simp at hk
 | some v=>
  obtain⟨j,hj,D⟩:=Hb.1 ((DR h.nd).1 e)
  by_cases c:j=l.length-1
  ·subst c;rw[D];exact Int.le_refl _
  have:=QfE.1 h j (l.length-1) hj (by omega) (by omega)
  rw[D]at this
  simp only at this
  omega
def JU (n:Qf)(c:Nat)(m:L_ QBg):Prop:=m.length=n.Places.length/\∀b∈m,Rt b/\b.length<=c
def JU.mono {n:Qf}{c D:Nat}{m:L_ QBg}(h:JU n c m)(hc:c<=D):JU n D m:=⟨h.1,λb hb=>⟨(h.2 b hb).1,Ym (h.2 b hb).2 hc⟩⟩
def HE (n:Qf)(m:L_ QBg):Prop:=∀(j:Nat) b p,m[j]? = some b->n.Places[j]? = some p->∀k,0<Xc b k->∃z,YS n.Colours p.Colour=some z/\k<z
def Qjl (n1:Qf)(m:L_ QBg)(h:Xr n1)(hm:Xe (Xe λ_=>True) m):Qg (OE n1 m) λr=>r=true->JU n1 1024 m/\HE n1 m:=by
 unfold OE
 refine T1 (λ_=>T2 λh=>by cases h) λhc=>?_
 have hl:m.length=n1.Places.length:=by simp only[KI]at hc;omega
 refine T0 (Qg.up m.length (λst=>st) (λst=>∀(j:Nat) (hj:j<m.length),(j:Int)<st->(Rt m[j]/\(m[j]).length<=1024)/\∀p,n1.Places[j]? = some p->∀k,0<Xc m[j] k->∃z,YS n1.Colours p.Colour=some z/\k<z) (Q:=λq=>q=.inr ()->(∀b∈m,Rt b/\b.length<=1024)/\HE n1 m) rfl (λj _ hj=>by omega) (λi st hi hn hJ=>?_)) (λq hq=>?_)
 ·show Qg (OD m n1 st) _
  unfold OD
  refine T1 (λhc=>?_) (λhc=>T2 (Qm λ_=>⟨λb hb=>by
   obtain⟨j,hj,rfl⟩:=Hb.1 hb
   simp only[Xm]at hc
   exact(hJ j hj (by omega)).1,λj b p hb hp=>by
   obtain⟨hj,rfl⟩:=Xa.1 hb
   simp only[Xm]at hc
   exact(hJ j hj (by omega)).2 p hp⟩))
  simp only[QI]at hc
  have D:i<m.length:=by omega
  have hlp:i<n1.Places.length:=by omega
  rw[hi,QT,Qx D,Qd,QT,Qx hlp,Qd]
  refine T0 (Wz n1.Colours (n1.Places[i]).Colour h.1).self λsz hsz=>?_
  obtain⟨hze,hsz⟩:=hsz
  have hb:=hm.2 _ (XV D)
  have hbl:=hb.1
  refine T0 (P:=λr=>r=false->(Rt m[i]/\(m[i]).length<=1024)/\∀k,0<Xc m[i] k->k<sz) ?_ λx hx=>?_
  ·unfold VZ
   rw[Cn _ hb.1,Qd]
   refine T1 (λ_=>T2 λh=>by cases h) λhr=>?_
   have hrt:=DH.1 (by simpa using hr:Cj (-1) m[i]=true)
   refine T1 (λh0=>?_) (λh0=>T2 λ_=>⟨⟨hrt,by simp only[Xm]at h0;omega⟩,λk hk=>by
    simp only[Xm]at h0
    rw[show m[i]=[]from Iz.1 (by omega)]at hk
    simp[Xc,Qs]at hk⟩)
   simp only[QI]at h0
   unfold maxLen at hbl
   rw[Yf (by omega),show((m[i]).length:Int)-1=(((m[i]).length-1:Nat):Int) by omega,QT,Qx (by omega),Qd]
   refine T2 λhf=>?_
   simp only[Xm]at hf
   have:=Qj7 hrt.1 (a:=0) (λp hp=>(hrt.2 p hp).1) ((m[i]).length-1) (by omega)
   refine⟨⟨hrt,by omega⟩,λk hk=>?_⟩
   have:=Qnj hrt.1 (by omega) hk
   omega
  unfold Za
  refine T1 (λ_=>T2 (Qm λh=>by cases h)) λhxf=>?_
  refine T2 (QK ⟨D,Qv D hm.1,λj hj hjs=>?_⟩)
  rw[Qv D hm.1]at hjs
  by_cases c:j=i
  ·subst c
   refine⟨(hx hxf).1,λp hp k hk=>⟨sz,?_,(hx hxf).2 k hk⟩⟩
   rw[Qx hlp]at hp
   cases hp
   exact hze
  exact hJ j hj (by omega)
 rcases q with q | q
 ·exact T2 λh=>by cases h
 exact T2 λ_=>⟨⟨hl,(hq rfl).1⟩,(hq rfl).2⟩
structure Xn (n:Qf):Prop where
 k:Xr n
 pl:n.Places.length<=70
 tl:n.Tasks.length<=12
 tk:∀t∈n.Tasks,t.Vars.length<=16/\t.Ins.length<=16/\t.Outs.length<=16/\t.Cancel.length<=16
def Ql6 (n1:Qf)(k2:Int)(h:Ka n1 k2=some 0):∃t,idx n1.Tasks k2=some t/\t.Vars.length<=16/\t.Ins.length<=16/\t.Outs.length<=16/\t.Cancel.length<=16:=by
 unfold Ka at h
 obtain⟨x5,_,h⟩:=Qz h
 rcases XS h with⟨_,h⟩|⟨_,h⟩
 ·cases h
 obtain⟨x7,_,h⟩:=Qz h
 rcases XS h with⟨c,h⟩|⟨_,h⟩
 ·simp only[Option.some.injEq]at h;rw[h]at c;cases c
 obtain⟨e9,he9,h⟩:=Qz h
 obtain⟨e10,he10,h⟩:=Qz h
 rw[he9]at he10;cases he10
 obtain⟨_,_,h⟩:=Qz h
 obtain⟨_,_,h⟩:=Qz h
 obtain⟨_,_,h⟩:=Qz h
 obtain⟨_,_,h⟩:=Qz h
 obtain⟨x15,D,h⟩:=Qz h
 have bad:∀a b:Int,0<a->x15=(a,b)->False:=λa b ha e=>by
  subst e
  simp only at h
  rcases XS h with⟨c,h⟩|⟨_,h⟩
  ·simp only[beq_iff_eq]at c;omega
  simp only[Option.some.injEq]at h;omega
 unfold Gp at D
 obtain⟨x20,_,D⟩:=Qz D
 rcases XS D with⟨_,D⟩|⟨_,D⟩
 ·exact(bad _ _ (by decide) (Option.some.inj D).symm).elim
 obtain⟨x22,_,D⟩:=Qz D
 rcases XS D with⟨_,D⟩|⟨_,D⟩
 ·exact(bad _ _ (by decide) (Option.some.inj D).symm).elim
 obtain⟨x24,h24,D⟩:=Qz D
 rcases XS D with⟨_,D⟩|⟨c,D⟩
 ·exact(bad _ _ (by decide) (Option.some.inj D).symm).elim
 unfold Cb at h24
 simp only[Option.some.injEq]at h24
 rw[<-h24]at c
 simp only[Bi,QJ,QI,Lm]at c
 exact⟨e9,he9,by omega,by omega,by omega,by omega⟩
def QeB (l1:L_ QH)(n1:Qf)(h:Xr n1)(hl:Xe YC l1):Qg (KB l1 n1) λr=>r.2=0->∀(j:Nat),j<l1.length->Ka n1 j=some 0:=by
 unfold KB
 refine T0 (Qg.up l1.length (λst=>st) (λst=>∀(j:Nat),(j:Int)<st->Ka n1 j=some 0) (Q:=λq=>(∀a b,q=.inl (a,b)->b≠0)/\(q=.inr ()->∀(j:Nat),j<l1.length->Ka n1 j=some 0)) rfl (λj hj=>by omega) (λi st hi hn hJ=>?_)) (λq hq=>?_)
 ·show Qg (KY l1 n1 st) _
  unfold KY
  refine T1 (λD=>?_) (λD=>T2 (Qm ⟨λa b h=>(by cases h),λ_ j hj=>by
   simp only[Xm]at D
   exact hJ j (by omega)⟩))
  simp only[QI]at D
  refine T0 (T4 (by omega) (by omega)) λe he=>?_
  refine T0 (P:=λx=>Ka n1 st=some x) ?_ λx hx=>?_
  ·unfold Fw
   exact T0 (QaC n1 st h).self λx hx=>T2 hx.1
  refine T1 (λD=>T2 (Qm ⟨λa b h=>(by cases h;simpa using D),λh=>(by cases h)⟩)) λD=>?_
  simp only[KI]at D
  refine T2 (QK ⟨by omega,by rw[hi];exact Qv (by omega) hl.1,λj hj=>?_⟩)
  rw[hi,Qv (show i<l1.length by omega) hl.1]at hj
  by_cases c:j=i
  ·subst c;rw[<-hi,hx,D]
  exact hJ j (by omega)
 rcases q with q | q
 ·exact T2 λh=>absurd h (hq.1 q.1 q.2 rfl)
 exact T2 λ_=>hq.2 rfl
def Ql7 (n1:Qf)(h:Xr n1){p:GY}(D:Uc n1=some (0,p)):∀t∈n1.Tasks,t.Vars.length<=16/\t.Ins.length<=16/\t.Outs.length<=16/\t.Cancel.length<=16:=by
 unfold Uc at D
 obtain⟨x6,_,D⟩:=Qz D
 rcases XS D with⟨c,D⟩|⟨_,D⟩
 ·simp only[Option.some.injEq,Prod.mk.injEq]at D;rw[D.1]at c;cases c
 obtain⟨x8,_,D⟩:=Qz D
 rcases XS D with⟨c,D⟩|⟨_,D⟩
 ·simp only[Option.some.injEq,Prod.mk.injEq]at D;rw[D.1]at c;cases c
 obtain⟨x10,_,D⟩:=Qz D
 rcases XS D with⟨c,D⟩|⟨_,D⟩
 ·simp only[Option.some.injEq,Prod.mk.injEq]at D;rw[D.1]at c;cases c
 obtain⟨x12,h12,D⟩:=Qz D
 rcases XS D with⟨c,D⟩|⟨c,D⟩
 ·simp only[Option.some.injEq,Prod.mk.injEq]at D;rw[D.1]at c;cases c
 simp only[KI]at c
 obtain⟨r,hr,hr2⟩:=QeB n1.Tasks n1 h h.2.2.1
 rw[h12]at hr;cases hr
 intro t ht
 obtain⟨j,hj,rfl⟩:=Hb.1 ht
 obtain⟨t,h1,h2⟩:=Ql6 n1 j (hr2 c j hj)
 rw[QT,Qx hj]at h1
 cases h1
 exact h2
def Qo4 (n1:Qf)(m:L_ QBg)(h:Xr n1)(hm:Xe (Xe λ_=>True) m):Qg (Cd n1 m) λr=>r=true->Xn n1/\JU n1 1024 m/\HE n1 m:=by
 unfold Cd
 refine T0 (Qog n1 h) λx5 h5=>?_
 refine T0 (Qoh m hm.1) λx6 _=>?_
 refine T1 (λ_=>T2 λh=>by cases h) λhc=>?_
 simp only[KC,Bi,Xm]at hc
 have h5:=h5 hc.1
 refine T0 (Qiw n1 h).self λx11 h11=>?_
 refine T0 (P:=λr=>r=false->Xn n1/\JU n1 1024 m/\HE n1 m) ?_ λx12 h12=>?_
 ·unfold OF
  refine T1 (λ_=>T2 λh=>by cases h) λD=>?_
  simp only[KI]at D
  refine T0 (Qjl n1 m h hm) λr hr=>T2 λhrf=>⟨⟨h,h5.2.1,by omega,?_⟩,hr (by simpa using hrf)⟩
  obtain⟨a,b⟩:=x11
  simp only at D
  subst D
  exact Ql7 n1 h h11.1
 unfold OH
 refine T1 (λ_=>T2 λh=>by cases h) λhx=>?_
 have hfin:=h12 hx
 refine T6 (P:=λ_=>True) ?_ λ_ _ _=>hfin
 refine T0 (Qg.up n1.Tasks.length (λst=>st.2) (λ_=>True) (Q:=λ_=>True) rfl trivial (λi st hi hn _=>?_)) (λq _=>T3)
 obtain⟨a,x⟩:=st
 replace hi:x=(i:Int):=hi
 show Qg (OG n1 a x) _
 unfold OG
 refine T1 (λhc=>?_) (λ_=>T2 (Qm trivial))
 simp only[QI]at hc
 refine T0 (T4 (by omega) (by omega)) λe _=>?_
 refine T0 (Zf n1 x h) λy _=>?_
 exact T2 (QK ⟨by omega,by subst hi;exact Qv (by omega) h.2.2.1.1,trivial⟩)
def QhY (s:YP)(m:Int)(h:0<=s.k/\s.k<s.sizes.length):Qg (WO s m) λr=>r=true->0<=m:=by
 unfold WO
 refine T0 (P:=λr=>r=true->0<=m) ?_ λx hx=>T2 hx
 unfold UD
 refine T1 (λD=>?_) λ_=>T2 λh=>by cases h
 exact T0 (T4 h.1 h.2) λ_ _=>T2 λ_=>by simpa using D
def Co (s:YP)(h:0<=s.k/\s.k<s.all.length):Qg (WB s) λ_=>True:=by
 unfold WB
 exact T0 (T4 h.1 h.2) λ_ _=>T3
def Qnk (l:L_ QL)(k m:Int)(hl:Xe Kj l):Qg (Ea l k m) λ_=>True:=by
 unfold Ea
 refine T0 (FC l k hl) λx hx=>?_
 refine T0 (P:=λr=>r=false->x.1=true) ?_ λr hr=>?_
 ·unfold HU
  refine T1 (λ_=>T2 λh=>by cases h) λD=>?_
  have D:x.1=true:=by simpa using D
  have h:=hx.2 D
  exact T0 (QhY x.2 m (by omega)) λ_ _=>T2 λ_=>D
 unfold HV
 refine T1 (λ_=>T3) λD=>?_
 have h:=hx.2 (hr D)
 refine T0 (Co x.2 (by omega)) λ_ _=>?_
 refine T1 (λ_=>?_) λ_=>T3
 exact T0 (Co x.2 (by omega)) λ_ _=>T3
def Qnl (l:L_ QL)(k n:Int)(hl:Xe Kj l):Qg (Eb l k n) λr=>r.2=true->0<=r.1:=by
 unfold Eb
 refine T0 (FC l k hl) λx hx=>?_
 refine T1 (λ_=>T2 λh=>by cases h) λD=>?_
 have h:=hx.2 (by simpa using D)
 have k1:∀m,Qg (KQ x m) λr=>r.2=true->0<=r.1:=λm=>by
  unfold KQ
  refine T0 (QhY x.2 m (by omega)) λy hy=>?_
  exact T1 (λ_=>T2 λh=>by cases h) λD=>T2 λ_=>hy (by simpa using D)
 refine T0 (Co x.2 (by omega)) λ_ _=>?_
 refine T1 (λ_=>?_) λ_=>k1 _
 exact T1 (λ_=>T2 λh=>by cases h) λ_=>k1 _
def Ql8 (l:L_ QL)(k n:Int)(hl:Xe Kj l):Qg (Eb l k n) λr=>r.2=true->∃z,YS l k=some z/\r.1<z:=by
 unfold Eb YS
 refine T0 (FC l k hl).self λx hx=>?_
 obtain⟨hxe,hx⟩:=hx
 refine T1 (λ_=>T2 λh=>by cases h) λhc=>?_
 have h:=hx.2 (by simpa using hc)
 have hk:k.toNat<x.2.sizes.length:=by omega
 have ei:idx x.2.sizes k=some x.2.sizes[k.toNat]:=Qc1 h.1.1 h.1.2
 have k1:∀m,Qg (KQ x m) λr=>r.2=true->∃z,((Ub l k).bind λx5=>bif (!x5.1)then some 0 else(idx x5.2.sizes k).bind λe7=>some e7)=some z/\r.1<z:=λm=>by
  unfold KQ
  refine T0 (P:=λy=>y=true->m<x.2.sizes[k.toNat]) ?_ λy hy=>?_
  ·unfold WO
   refine T0 (P:=λy=>y=true->m<x.2.sizes[k.toNat]) ?_ λy hy=>T2 hy
   unfold UD
   refine T1 (λ_=>?_) λ_=>T2 λh=>by cases h
   rw[h.2.1,ei,Qd]
   exact T2 λh=>by simpa using h
  refine T1 (λ_=>T2 λh=>by cases h) λD=>T2 λ_=>⟨x.2.sizes[k.toNat],?_,hy (by simpa using D)⟩
  rw[hxe,Qd,hc,Xh,ei];rfl
 refine T0 (Co x.2 (by omega)) λ_ _=>?_
 refine T1 (λ_=>?_) λ_=>k1 _
 exact T1 (λ_=>T2 λh=>by cases h) λ_=>k1 _
def Al {α:Type}{o:O_ α}{P:α->Prop}(h:Qg o P){r:α}(e:o=some r):P r:=by
 obtain⟨r',D,h2⟩:=h
 rw[e]at D;cases D;exact h2
def Qjm : ∀(n:Nat) (v:LI_) (e:Ql),POk v.length e->SizeOf.sizeOf e<=n->Qg (Yx n v e) λ_=>True
 | 0,_,e,_,h=>absurd e.pos (by omega)
 | n+1,v,e,he,h=>by
  cases he with
  | mk _ D h2 h3 h5 h6 hr=>
  unfold Yx LB
  have sub:∀(j:Nat) (hj:j<e.Kids.length),Qg (Yx n v (e.Kids[j])) λ_=>True:=λj hj=>
   Qjm n v _ (hr _ (XV hj)) (by have:=Qc2 (XV hj);omega)
  have kid:∀(j:Nat) (hj:j<e.Kids.length),idx e.Kids (j:Int)=some e.Kids[j]:=λj hj=>by rw[QT,Qx hj]
  rcases D with D | D | D | D | D | D
  ·refine T0 (P:=λx=>x=.inl v) (by unfold Wx;rw[D];exact T2 rfl) λx hx=>?_
   subst hx
   exact T3
  ·refine T0 (P:=λx=>x=.inr (.inl v)) (by unfold Wx;rw[D];exact T2 rfl) λx hx=>?_
   subst hx
   show Qg (Aw e v) _
   unfold Aw FT
   have:=h2 D
   exact T0 (T0 (T4 (by omega) (by omega)) λ_ _=>T3) λ_ _=>T3
  ·refine T0 (P:=λx=>x=.inr (.inr (.inl v))) (by unfold Wx KP;rw[D];exact T2 rfl) λx hx=>?_
   subst hx
   show Qg (WY (Yx n) e v) _
   unfold WY Bp
   have hl:=h3 (.inl D)
   refine T0 (P:=λ_=>True) ?_ λ_ _=>T3
   rw[show idx e.Kids 0=some (e.Kids[0]'(by omega))from kid 0 (by omega),Qd]
   refine T0 (sub 0 (by omega)) λx _=>?_
   refine T1 (λ_=>T3) λ_=>T1 (λ_=>T0 (Qdf _) λ_ _=>T3) λ_=>T0 (Mo _ _ _) λ_ _=>T3
  ·refine T0 (P:=λx=>x=.inr (.inr (.inl v))) (by unfold Wx KP;rw[D];exact T2 rfl) λx hx=>?_
   subst hx
   show Qg (WY (Yx n) e v) _
   unfold WY Bp
   have hl:=h3 (.inr D)
   refine T0 (P:=λ_=>True) ?_ λ_ _=>T3
   rw[show idx e.Kids 0=some (e.Kids[0]'(by omega))from kid 0 (by omega),Qd]
   refine T0 (sub 0 (by omega)) λx _=>?_
   refine T1 (λ_=>T3) λ_=>T1 (λ_=>T0 (Qdf _) λ_ _=>T3) λ_=>T0 (Mo _ _ _) λ_ _=>T3
  ·refine T0 (P:=λx=>x=.inr (.inr (.inr (.inl v)))) (by unfold Wx KP;rw[D];exact T2 rfl) λx hx=>?_
   subst hx
   show Qg (Ax (Yx n) e v) _
   unfold Ax Pk
   have hl:=h5 D
   refine T0 (P:=λ_=>True) ?_ λ_ _=>T3
   rw[show idx e.Kids 0=some (e.Kids[0]'(by omega))from kid 0 (by omega),Qd]
   refine T0 (sub 0 (by omega)) λx _=>?_
   have k1:∀b,Qg (DJ x e (Yx n) v b) λ_=>True:=λb=>by
    unfold DJ
    refine T1 (λ_=>T0 (Mo _ _ _) λ_ _=>T3) λ_=>?_
    rw[show idx e.Kids 1=some (e.Kids[1]'(by omega))from kid 1 (by omega),Qd]
    refine T0 (sub 1 (by omega)) λy _=>?_
    exact T1 (λ_=>T3) λ_=>T0 (Mo _ _ _) λ_ _=>T3
   exact T1 (λ_=>T3) λ_=>T1 (λ_=>k1 _) λ_=>T1 (λ_=>k1 _) λ_=>k1 _
  refine T0 (P:=λx=>x=.inr (.inr (.inr (.inr v)))) (by unfold Wx KP;rw[D];exact T2 rfl) λx hx=>?_
  subst hx
  show Qg (Ay (Yx n) e v) _
  unfold Ay LA
  have hl:=h6 D
  refine T0 (P:=λ_=>True) ?_ λ_ _=>T3
  rw[show idx e.Kids 0=some (e.Kids[0]'(by omega))from kid 0 (by omega),Qd]
  refine T0 (sub 0 (by omega)) λx _=>?_
  refine T1 (λ_=>T3) λ_=>T1 (λ_=>?_) λ_=>?_
  ·rw[show idx e.Kids 1=some (e.Kids[1]'(by omega))from kid 1 (by omega),Qd]
   exact T0 (sub 1 (by omega)) λy _=>T3
  rw[show idx e.Kids 2=some (e.Kids[2]'(by omega))from kid 2 (by omega),Qd]
  exact T0 (sub 2 (by omega)) λy _=>T3
def Ql9 (e:Ql)(v:LI_)(h:Dd e):Qg (LW e v) λ_=>True:=by
 unfold LW
 refine T0 (Pz e v.length h) λx hx=>?_
 refine T1 (λ_=>T3) λD=>?_
 unfold NY
 exact T0 (Qjm _ v e (hx (by simpa using D)) (Jp _)) λ_ _=>T3
def QiI (n:Qf)(D:Int)(vars:LI_)(h:Xn n):Qg (EF n D vars) λr=>r.2=0->0<=D/\D<n.Tasks.length:=by
 unfold EF
 refine T1 (λ_=>T2 λh=>by cases h) λhc=>?_
 simp only[KC,Xm]at hc
 refine T0 (T4 (by omega) (by omega)) λe he=>?_
 have hv:=(h.tk e he).1
 have ke:=h.k.2.2.1.2 e he
 refine T1 (λ_=>T2 λh=>by cases h) λhl=>?_
 simp only[KI]at hl
 refine T0 (T5 (by simp only[QJ,QI];omega)) λ_ _=>?_
 refine T6 (P:=λ_=>True) ?_ λ_ _ _=>by omega
 refine T0 (Qg.up e.Vars.length (λst=>st.1) (λst=>st.2.length=e.Vars.length) (Q:=λ_=>True) rfl (by simp) (λi st hi hn hJ=>?_)) (λq _=>?_)
 ·obtain⟨x,l⟩:=st
  replace hi:x=(i:Int):=hi
  replace hJ:l.length=e.Vars.length:=hJ
  show Qg (Fl e vars n x l) _
  unfold Fl
  refine T1 (λhc=>?_) (λ_=>T2 (Qm trivial))
  simp only[QI]at hc
  refine T0 (T4 (by omega) (by omega)) λa _=>?_
  refine T0 (T4 (by omega) (by omega)) λb _=>?_
  refine T0 (Qnk _ _ _ h.k.1) λc _=>?_
  refine T1 (λ_=>T2 (Qm trivial)) λ_=>?_
  refine T0 (T4 (by omega) (by omega)) λd _=>?_
  exact T2 (QK ⟨by omega,by subst hi;exact Qv (by omega) (by unfold maxLen;omega:e.Vars.length<=maxLen),by simpa using hJ⟩)
 rcases q with q | q
 ·exact T3
 exact T3
def QaD {α:Type}{l:L_ α}{i:Nat}{x y:α}(h:y∈l.set i x):y=x\/y∈l:=by
 rcases List.mem_or_eq_of_mem_set h with h | h
 ·exact .inr h
 exact .inl h
def Va (n:Qf)(l:L_ Xs)(D env:LI_)(h:Xn n)(hl:Xe Im l)(hw:D.length<=1000):Qg (DO n l D env) λr=>r.2=0->JU n D.length r.1/\HE n r.1:=by
 unfold DO
 have hpl:=h.pl
 refine T0 (T5 (by simp only[QJ,QI];omega)) λ_ _=>?_
 refine T0 (Qg.up D.length (λst=>st.1) (λst=>(st.2.length=n.Places.length/\∀b∈st.2,Rt b/\(b.length:Int)<=st.1)/\HE n st.2) (Q:=λq=>(∀x,q=.inl x->x≠0)/\∀m,q=.inr m->JU n D.length m/\HE n m) rfl ⟨⟨by simp,λb hb=>?_⟩,λj b p hb hp k hk=>?_⟩ (λi st hi hn hJ=>?_)) (λq hq=>?_)
 ·have:=QaJ hb
  subst this
  exact⟨Rt.nil,by simp⟩
 ·have:=QaJ (XE hb)
  subst this
  simp[Xc,Qs]at hk
 ·obtain⟨x,m⟩:=st
  replace hi:x=(i:Int):=hi
  obtain⟨⟨hJ1,hJ2⟩,hJ3⟩:(m.length=n.Places.length/\∀b∈m,Rt b/\(b.length:Int)<=x)/\HE n m:=hJ
  have err:∀y:Int,y≠0->(∀s',(Sum.inr (Sum.inl y):(Int×L_ QBg)⊕(Int⊕L_ QBg))=.inl s'->i<D.length/\s'.1=((i+1:Nat):Int)/\(s'.2.length=n.Places.length/\∀b∈s'.2,Rt b/\(b.length:Int)<=s'.1)/\HE n s'.2)/\∀r,(Sum.inr (Sum.inl y):(Int×L_ QBg)⊕(Int⊕L_ QBg))=.inr r->(∀x,r=.inl x->x≠0)/\∀m,r=.inr m->JU n D.length m/\HE n m:=
   λy hy=>⟨λs' e=>(by cases e),λr e=>(by cases e;exact⟨λx e=>(by cases e;exact hy),λm e=>(by cases e)⟩)⟩
  show Qg (MW D l env n x m) _
  unfold MW
  refine T1 (λhc=>?_) (λhc=>T2 (Qm ⟨λx e=>(by cases e),λm' e=>?_⟩))
  ·simp only[QI]at hc
   refine T0 (T4 (by omega) (by omega)) λe18 _=>?_
   refine T1 (λ_=>T2 (err _ (by decide))) λhc1=>?_
   simp only[KC,Xm]at hc1
   refine T0 (T4 (by omega) (by omega)) λe22 h22=>?_
   refine T0 (Ql9 e22.Expr env (hl.2 e22 h22).2) λx23 _=>?_
   refine T1 (λhc2=>T2 (err _ (by simpa using hc2))) λ_=>?_
   refine T0 (T4 (by omega) (by omega)) λe25 _=>?_
   refine T1 (λ_=>T2 (err _ (by decide))) λhc3=>?_
   simp only[KC,Xm]at hc3
   refine T0 (T4 (by omega) (by omega)).self λe29 h29=>?_
   refine T0 (Qnl _ _ _ h.k.1).self λx30 h30=>?_
   refine T1 (λ_=>T2 (err _ (by decide))) λhc4=>?_
   have hz:=Al (Ql8 _ _ _ h.k.1) h30.1 (by simpa using hc4)
   have h30:=h30.2 (by simpa using hc4)
   refine T0 (T4 (by omega) (by omega)).self λe32 h32e=>?_
   have h32:=h32e.2
   have h32e:=h32e.1
   have h29:=h29.1
   rw[QgJ,Yu h30]
   simp only[QY,Qd]
   have hb:=hJ2 e32 h32
   have key:∃s,Jw e32 [(x30.1,1)]=some s/\(s.2=0->(Rt s.1/\s.1.length<=e32.length+1)/\∀k,Xc s.1 k=Xc e32 k+Xc [(x30.1,1)] k):=by
    rcases Iq e32 [(x30.1,1)] (by simp;omega)with⟨_,e⟩|⟨_,_,_,e⟩|⟨_,_,r,e,h1,hcn,h2⟩
    ·exact⟨_,e,λh=>by cases h⟩
    ·exact⟨_,e,λh=>by cases h⟩
    exact⟨_,e,λ_=>⟨⟨h1,by simpa using h2⟩,hcn⟩⟩
   obtain⟨s,es,hs⟩:=key
   rw[es,Qd]
   refine T0 (T4 (by omega) (by omega)) λ_ _=>?_
   refine T1 (λhc5=>T2 (err _ (by simpa using hc5))) λhc5=>?_
   obtain⟨hs,hcn⟩:=hs (by simpa using hc5)
   refine T2 (QK ⟨by omega,by subst hi;exact Qv (by omega) (by unfold maxLen;omega:D.length<=maxLen),⟨by simpa using hJ1,λb hb'=>?_⟩,λj b p hb' hp k hk=>?_⟩)
   ·subst hi
    show Rt b/\(b.length:Int)<=Qi ((i:Int)+1)
    rw[Qv (by omega) (by unfold maxLen;omega:D.length<=maxLen)]
    rcases QaD hb' with rfl | hb'
    ·exact⟨hs.1,by omega⟩
    have:=hJ2 b hb'
    exact⟨this.1,by omega⟩
   have hb':(m.set e25.Place.toNat s.1)[j]? = some b:=hb'
   by_cases cj:e25.Place.toNat=j
   ·subst cj
    rw[PG (by omega)]at hb'
    cases hb'
    rw[Gq (by omega)]at h29 h32e
    rw[h29]at hp
    cases hp
    rw[hcn]at hk
    by_cases c0:0<Xc e32 k
    ·exact hJ3 _ e32 e29 h32e h29 k c0
    have h9:0<Xc [(x30.1,1)] k:=by omega
    have h8:x30.1=k:=by
     apply Decidable.byContradiction
     intro hne
     simp[Xc,Qs,hne]at h9
    obtain⟨z,hz1,hz2⟩:=hz
    exact⟨z,hz1,by omega⟩
   rw[Ix cj]at hb'
   exact hJ3 j b p hb' hp k hk
  cases e
  exact⟨⟨hJ1,λb hb=>⟨(hJ2 b hb).1,by have:=(hJ2 b hb).2;omega⟩⟩,hJ3⟩
 rcases q with q | q
 ·exact T2 λh=>absurd h (hq.1 q rfl)
 exact T2 λ_=>hq.2 q rfl
def Qjn (a m:L_ QBg)(D:Xe (Xe λ_=>True) a)(hm:Xe (Xe λ_=>True) m):Qg (Fq a m) λ_=>True:=by
 unfold Fq Yk
 refine T0 (P:=λ_=>True) ?_ λ_ _=>T3
 refine T1 (λ_=>T3) λh=>?_
 simp only[KI]at h
 refine T0 (Qg.up a.length (λst=>st) (λ_=>True) (Q:=λ_=>True) rfl trivial (λi st hi hn hJ=>?_)) (λq _=>?_)
 ·show Qg (Yb a m st) _
  unfold Yb
  refine T1 (λh=>?_) (λ_=>T2 (Qm trivial))
  simp only[QI]at h
  refine T0 (T4 (by omega) (by omega)) λx hx=>?_
  refine T0 (T4 (by omega) (by omega)) λy hy=>?_
  refine T0 (P:=λ_=>True) (by obtain⟨r,hr,_⟩:=QgI x y (D.2 x hx).1 (hm.2 y hy).1;exact⟨r,hr,trivial⟩) λ_ _=>?_
  exact T1 (λ_=>T2 (Qm trivial)) λ_=>T2 (QK ⟨by omega,by rw[hi];exact Qv (by omega) D.1,trivial⟩)
 rcases q with q | q
 ·exact T3
 exact T3
def JU.len {n:Qf}{c:Nat}{m:L_ QBg}(h:JU n c m)(hn:Xn n)(hc:c<=1000000):Xe (Xe λ_=>True) m:=
 ⟨by have:=h.1;have:=hn.pl;unfold maxLen;omega,λb D=>⟨by have:=(h.2 b D).2;unfold maxLen;omega,λ_ _=>trivial⟩⟩
structure BOk (n:Qf) (m:List QBg) (b:Xo):Prop where
 net:b.net=n
 mm:b.m=m
 task:b.task∈n.Tasks
def Qj8 (n:Qf)(m:L_ QBg)(D:Int)(vars:LI_)(h:Xn n):Qg (JE n m D vars) λr=>r.1=0->BOk n m r.2:=by
 unfold JE
 refine T0 (QiI n D vars h) λx hx=>?_
 refine T1 (λhc=>T2 λh=>absurd h (by simpa using hc)) λhc=>?_
 have:=hx (by simpa using hc)
 exact T0 (T4 this.1 this.2) λe he=>T2 λ_=>⟨rfl,rfl,he⟩
def QhZ (n:Qf)(m:L_ QBg)(b:Xo)(h:Xn n)(D:BOk n m b):Qg (XO b) λ_=>True:=by
 unfold XO
 refine T0 (Ql9 _ _ (h.k.2.2.1.2 _ D.task).2.2.1) λx _=>?_
 exact T1 (λ_=>T3) λ_=>T1 (λ_=>T3) λ_=>T3
def QhB (n:Qf)(m:L_ QBg)(b:Xo)(outs:LI_)(h:Xn n)(D:BOk n m b)(ho:outs.length<=1000):Qg (Yo b outs) λ_=>True:=by
 unfold Yo
 rw[D.net]
 exact T0 (Va n _ outs _ h (h.k.2.2.1.2 _ D.task).2.2.2.2.2.2.1 ho) λx _=>T3
def QkU (l:LI_)(x:Int)(h:l.length<=maxLen):Qg (XW l x) λ_=>True:=Cz l x ⟨h,λ_ _=>trivial⟩
def Ru (l:LI_)(h:l.length<=4294967296):YA l=some l:=by
 unfold YA
 rw[GE (by simp;omega)];rfl
def Qjo (l:LI_)(h:l.length<=4294967296):YF l=some (JG l):=by
 unfold YF
 rw[GE (by omega)];rfl
def Qj9 (n:Qf)(m:L_ QBg)(b:Xo)(D:LI_)(h:Xn n)(hb:BOk n m b)(hm:Xe (Xe λ_=>True) m)(hi:D.length<=100):Qg (XK b D) λ_=>True:=by
 have ki:=(h.k.2.2.1.2 _ hb.task).2.2.2.2.2.1
 have kl:=(h.tk _ hb.task).2.1
 unfold XK
 rw[hb.net,hb.mm]
 refine T0 (Va n _ D _ h ki (by omega)) λx hx=>?_
 refine T1 (λ_=>T3) λhc=>?_
 have hx:=hx (by simpa using hc)
 refine T0 (Qjn _ _ (hx.1.len h (by omega)) hm) λy _=>?_
 refine T1 (λ_=>T3) λ_=>T1 (λ_=>T3) λ_=>?_
 refine T0 (Qg.up b.task.Ins.length (λst=>st) (λ_=>True) (Q:=λ_=>True) rfl trivial (λi st hi hn _=>?_)) (λq _=>?_)
 ·show Qg (AZ b D st) _
  unfold AZ
  refine T1 (λhc=>?_) (λ_=>T2 (Qm trivial))
  simp only[QI]at hc
  have step:Qg (Gy st) λo=>(∀s',o=.inl s'->i<b.task.Ins.length/\s'=((i+1:Nat):Int)/\True)/\∀r:Unit⊕Unit,o=.inr r->True:=
   T2 (QK (ix:=λst=>st) (J:=λ_=>True) (Q:=λ_=>True) ⟨by omega,by rw[hi];exact Qv (by omega) ki.1,trivial⟩)
  refine T0 (QkU D st (by unfold maxLen;omega)) λz _=>?_
  refine T1 (λ_=>step) λ_=>?_
  rw[Ru D (by omega),Qd]
  refine T0 (T5 (by simp;omega)) λ_ _=>?_
  rw[Qjo _ (by simp;omega),Qd]
  refine T0 (T5 (by simp[Cu])) λ_ _=>?_
  rw[hb.net]
  refine T0 (Va n _ _ _ h ki (by rw[Cu];simp;omega)) λu hu=>?_
  refine T0 (P:=λ_=>True) ?_ λv _=>?_
  ·unfold Ma
   rw[hb.mm]
   refine T1 (λhc2=>?_) λ_=>T3
   have hu:=hu (by simpa using hc2)
   refine T0 (Qjn _ _ (hu.1.len h (by rw[Cu];simp;omega)) hm) λ_ _=>T3
  unfold Mb
  exact T1 (λ_=>T2 (Qm trivial)) λ_=>step
 rcases q with q | q
 ·exact T3
 exact T3
def OO (r:L_ LI_):Prop:=r.length<=16/\∀row∈r,row.length<=16
def chB (o:O_ QLL):Bool:=match o with
 | some r=>decide (r.length<=16)&&r.all λrow=>decide (row.length<=16)
 | none=>false
def Qjp {o:O_ QLL}(h:chB o=true):Qg o OO:=by
 cases o with
 | none=>cases h
 | some r=>
  simp only[chB,QJ,QI,XF]at h
  exact T2 h
def near {h:Int}(D:¬h<0)(h1:¬16<h):h=0\/h=1\/h=2\/h=3\/h=4\/h=5\/h=6\/h=7\/h=8\/h=9\/h=10\/h=11\/h=12\/h=13\/h=14\/h=15\/h=16:=by omega
set_option maxRecDepth 100000 in
def Zi (kind D:Int):Qg (Wk kind D) OO:=by
 by_cases hg:((decide (D<0))||((decide (16<D))||((kind==3)&&(decide (4<D)))))=true
 ·unfold Wk
  rw[hg]
  exact T2 ⟨by simp,λr h=>by cases h⟩
 simp only[Wv,QJ,QI,beq_iff_eq,not_or,not_and]at hg
 obtain⟨h0,h1,h2⟩:=hg
 by_cases e1:kind=1
 ·subst e1
  rcases near h0 h1 with rfl | rfl | rfl | rfl | rfl | rfl | rfl | rfl | rfl | rfl | rfl | rfl | rfl | rfl | rfl | rfl | rfl<;>exact Qjp (by kernel_rfl)
 by_cases e2:kind=2
 ·subst e2
  rcases near h0 h1 with rfl | rfl | rfl | rfl | rfl | rfl | rfl | rfl | rfl | rfl | rfl | rfl | rfl | rfl | rfl | rfl | rfl<;>exact Qjp (by kernel_rfl)
 by_cases e3:kind=3
 ·subst e3
  have h3:=h2 rfl
  have:D=0\/D=1\/D=2\/D=3\/D=4:=by omega
  rcases this with rfl | rfl | rfl | rfl | rfl<;>exact Qjp (by kernel_rfl)
 have f1:(kind==1)=false:=by simpa using e1
 have f2:(kind==2)=false:=by simpa using e2
 have f3:(kind==3)=false:=by simpa using e3
 unfold Wk Et
 rw[f1,f2,f3]
 exact T1 (λ_=>T2 ⟨by simp,λr h=>by cases h⟩) λ_=>T2 ⟨by simp,λr h=>by cases h⟩
def Qoi (a b:LI_)(D:a.length<=maxLen):Qg (Jn a b) λ_=>True:=by
 unfold Jn
 refine T1 (λ_=>T3) λh=>?_
 simp only[KI]at h
 refine T0 (Qg.up a.length (λst=>st) (λ_=>True) (Q:=λ_=>True) rfl trivial (λi st hi hn hJ=>?_)) (λq _=>?_)
 ·show Qg (Kr a b st) _
  unfold Kr
  refine T1 (λh=>?_) (λ_=>T2 (Qm trivial))
  simp only[QI]at h
  refine T0 (T4 (by omega) (by omega)) λx hx=>?_
  refine T0 (T4 (by omega) (by omega)) λy hy=>?_
  exact T1 (λ_=>T2 (Qm trivial)) λ_=>T2 (QK ⟨by omega,by rw[hi];exact Qv (by omega) D,trivial⟩)
 rcases q with q | q
 ·exact T3
 exact T3
def Qjq (D h:Int)(row:LI_):Qg (DP D h row) λ_=>True:=by
 unfold DP KG KF
 refine T0 (Zi D h) λx hx=>?_
 refine T0 (P:=λ_=>True) ?_ λ_ _=>T3
 refine T0 (P:=λ_=>True) ?_ λ_ _=>T3
 have hl:=hx.1
 refine T0 (Qg.up x.length (λst=>st) (λ_=>True) (Q:=λ_=>True) rfl trivial (λi st hi hn hJ=>?_)) (λq _=>?_)
 ·show Qg (Ys x row st) _
  unfold Ys Hj
  refine T1 (λhc=>?_) (λ_=>T2 (Qm trivial))
  simp only[QI]at hc
  refine T0 (T4 (by omega) (by omega)) λe he=>?_
  have:=hx.2 e he
  refine T0 (T0 (Qoi e row (by unfold maxLen;omega)) λ_ _=>T3) λ_ _=>?_
  exact T1 (λ_=>T2 (Qm trivial)) λ_=>T2 (QK ⟨by omega,by rw[hi];exact Qv (by omega) (by unfold maxLen;omega:x.length<=maxLen),trivial⟩)
 rcases q with q | q
 ·exact T3
 exact T3
def Wc (n:Qf)(o:Qk):Prop:=o.Vars.length<=20/\o.Ins.length<=20/\o.Outs.length<=20
def Qka (n:Qf)(m:L_ QBg)(o:Qk)(h:Xn n)(hm:Xe (Xe λ_=>True) m)(ho:Wc n o):Qg (KS n m o) λ_=>True:=by
 unfold KS
 refine T0 (Qj8 n m o.Task o.Vars h) λx hx=>?_
 have k3:∀e,(e=0->x.1=0)->Qg (Wy x o e) λ_=>True:=λe he=>by
  unfold Wy
  refine T1 (λ_=>T3) λD=>?_
  have hb:=hx (he (by simpa using D))
  refine T0 (P:=λ_=>True) ?_ λy _=>?_
  ·unfold Hk
   refine T0 (Qjq _ _ _) λz _=>?_
   exact T1 (λ_=>T3) λ_=>T0 (Qjq _ _ _) λ_ _=>T3
  unfold Hl
  refine T1 (λ_=>T3) λ_=>?_
  refine T0 (Qj9 n m x.2 o.Ins h hb hm (by have:=ho.2.1;omega)) λz _=>?_
  refine T1 (λ_=>T3) λ_=>?_
  exact T0 (QhB n m x.2 o.Outs h hb (by have:=ho.2.2;omega)) λ_ _=>T3
 refine T1 (λD=>?_) λD=>k3 _ λh=>h
 have D:x.1=0:=by simpa using D
 exact T0 (QhZ n m x.2 h (hx D)) λe _=>k3 e λ_=>D
def Qkb (n:Qf)(o:Qk)(h:Xn n)(ho:Wc n o):Qg (BT n o) λr=>r.2=0->JU n 20 r.1/\HE n r.1:=by
 unfold BT
 refine T0 (QiI n o.Task o.Vars h) λx hx=>?_
 refine T1 (λD=>T2 λh=>absurd h (by simpa using D)) λD=>?_
 have:=hx (by simpa using D)
 refine T0 (T4 this.1 this.2) λe he=>?_
 have hl:=ho.2.1
 exact T0 (Va n _ _ _ h (h.k.2.2.1.2 _ he).2.2.2.2.2.1 (by omega)) λy hy=>T2 λh0=>⟨(hy h0).1.mono hl,(hy h0).2⟩
def Qkc (n:Qf)(o:Qk)(h:Xn n)(ho:Wc n o):Qg (Ok n o) λr=>r.2=0->(JU n 20 r.1/\HE n r.1)/\0<=o.Task/\o.Task<n.Tasks.length:=by
 unfold Ok
 refine T0 (QiI n o.Task o.Vars h) λx hx=>?_
 refine T1 (λD=>T2 λh=>absurd h (by simpa using D)) λD=>?_
 have:=hx (by simpa using D)
 refine T0 (T4 this.1 this.2) λe he=>?_
 have hl:=ho.2.2
 exact T0 (Va n _ _ _ h (h.k.2.2.1.2 _ he).2.2.2.2.2.2.1 (by omega)) λy hy=>T2 λh0=>⟨⟨(hy h0).1.mono hl,(hy h0).2⟩,this⟩
def Qma {σ ρ:Type}{body:σ->O_ (σ⊕ρ)}(mu:σ->Nat)(J:σ->Prop){Q:ρ->Prop}{s0:σ}(hJ:J s0)
  (D:∀s,J s->Qg (body s) λo=>(∀h,o=.inl h->mu h<mu s/\J h)/\∀r,o=.inr r->Q r):Qg (QE body s0) Q:=by
 have key:∀k s,mu s<=k->J s->Qg (QE body s) Q:=by
  intro k
  induction k with
  | zero=>
   intro s hk hj
   obtain⟨o,ho,h1,h2⟩:=D s hj
   cases o with
   | inl h=>have:=(h1 h rfl).1;omega
   | inr r=>exact⟨r,by rw[KJ,ho];rfl,h2 r rfl⟩
  | succ k ih=>
   intro s hk hj
   obtain⟨o,ho,h1,h2⟩:=D s hj
   cases o with
   | inl h=>
    obtain⟨h3,h4⟩:=h1 h rfl
    obtain⟨r,h5,h6⟩:=ih h (by omega) h4
    exact⟨r,by rw[KJ,ho];exact h5,h6⟩
   | inr r=>exact⟨r,by rw[KJ,ho];rfl,h2 r rfl⟩
 exact key _ s0 (Jp _) hJ
def Qjr {l:LI_}{k:Nat}(h:k<l.length)(Z:LI_)(x:Int):(l.take (k+1)++Z).set k x=l.take k++x::Z:=by
 have e:l.take (k+1)=l.take k++[l[k]]:=by rw[DV,Qx h];rfl
 rw[e,WI,List.set_append,if_neg (by simp;omega)]
 have:k-(l.take k).length=0:=by simp;omega
 rw[this];rfl
end Go.Proofs
