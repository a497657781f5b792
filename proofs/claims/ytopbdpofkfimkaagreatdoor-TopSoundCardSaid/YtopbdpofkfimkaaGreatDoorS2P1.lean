/- A part of the proof. -/
import Derived.Test.YtopbdpofkfimkaaGreatDoorS2XPlA
import Derived.Test.YtopbdpofkfimkaaGreatDoorS2V3
import Derived.Test.YtopbdpofkfimkaaGreatDoorS2T3
import Derived.KernelRfl
set_option linter.all false
namespace Go.Vm
open Go Go.RowKit
open Option renaming some→C
def Qk {α:Type}(o:O_ α)(Q:α->Prop):Prop:=∃r,o=C r/\Q r
abbrev Xl {α:Type}(o:O_ α):Prop:=Qk o λ_=>True
section
variable {α β σ ρ:Type}
def Qk.ok {a:α}{Q:α->Prop}(h:Q a):Qk (C a) Q:=⟨a,rfl,h⟩
def Qk.okT {a:α}:Qk (C a) λ_=>True:=⟨a,rfl,trivial⟩
def Qk.bind {o:O_ α}{f:α->O_ β}{P:α->Prop}{Q:β->Prop}(h:Qk o P)(k:∀x,P x->Qk (f x) Q):Qk (o.bind f) Q:=by
 obtain⟨x,rfl,O⟩:=h;exact k x O
def Qk.bif {c:Bool}{a b:O_ α}{Q:α->Prop}(h:c=true->Qk a Q)(O:c=false->Qk b Q):Qk (bif c then a else b) Q:=by
 cases c with|true=>exact h rfl|false=>exact O rfl
def Qk.chk {c:Bool}(h:c=true):Qk (chk c) λ_=>True:=⟨(),QbX h,trivial⟩
def Qk.idx {l:L_ α}{j:Int}(h:0<=j)(O:j<l.length):Qk (idx l j) λx=>x∈l:=by
 rw[QjH h O];exact⟨_,rfl,Jc _⟩
def Qk.get {l:L_ α}{j:Nat}(h:j<l.length):Qk (l[j]?) λx=>x∈l:=by
 rw[QI h];exact⟨_,rfl,Jc _⟩
def Qk.sidx {s:ByteArray}{j:Int}(h:0<=j)(O:j<s.size):Qk (sidx s j) λ_=>True:=by
 unfold Vm.sidx;rw[if_pos h];have:j.toNat<s.size:=by omega
 rw[getElem?_pos s j.toNat this];exact⟨_,rfl,trivial⟩
def Qk.mono {o:O_ α}{P Q:α->Prop}(h:Qk o P)(k:∀x,P x->Q x):Qk o Q:=let ⟨r,h1,h2⟩:=h;⟨r,h1,k r h2⟩
def Qk.tot {o:O_ α}{P:α->Prop}(h:Qk o P):∃r,o=C r:=let ⟨r,h1,_⟩:=h;⟨r,h1⟩
def Qk.self {o:O_ α}{P:α->Prop}(h:Qk o P):Qk o λx=>o=C x/\P x:=let ⟨r,h1,h2⟩:=h;⟨r,h1,h1,h2⟩
def Qk.up {body:σ->O_ (σ⊕ρ)}(n:Nat)(ix:σ->Int)(J:σ->Prop){Q:ρ->Prop}{s0:σ}(h0:ix s0=0)(hJ:J s0)
  (O:∀(i:Nat) s,ix s=(i:Int)->i<=n->J s->Qk (body s) λo=>(∀h,o=.inl h->i<n/\ix h=((i+1:Nat):Int)/\J h)/\∀r,o=.inr r->Q r):Qk (Qx body s0) Q:=by
 have key:∀k i s,i+k=n->ix s=(i:Int)->J s->∃r,Qx body s=C r/\Q r:=by
  intro k
  induction k with
  |zero=>
   intro i s hk hi hj;obtain⟨o,ho,h1,h2⟩:=O i s hi (by omega) hj;rw[Wi,ho];cases o with|inl h=>have:=(h1 h rfl).1;omega|inr r=>exact⟨r,rfl,h2 r rfl⟩
  |succ k ih=>
   intro i s hk hi hj;obtain⟨o,ho,h1,h2⟩:=O i s hi (by omega) hj;rw[Wi,ho];cases o with
   |inl h=>
    obtain⟨_,h3,h4⟩:=h1 h rfl;exact ih (i+1) h (by omega) h3 h4
   |inr r=>exact⟨r,rfl,h2 r rfl⟩
 exact key n 0 s0 (by omega) h0 hJ
def QY {s:σ}{n i:Nat}{ix:σ->Int}{J:σ->Prop}{Q:ρ->Prop}(h:i<n/\ix s=((i+1:Nat):Int)/\J s):
  (∀O,(Sum.inl s:σ⊕ρ)=.inl O->i<n/\ix O=((i+1:Nat):Int)/\J O)/\∀r,(Sum.inl s:σ⊕ρ)=.inr r->Q r:=
 ⟨λO e=>(by cases e;exact h),λr e=>(by cases e)⟩
def Qw {r:ρ}{n i:Nat}{ix:σ->Int}{J:σ->Prop}{Q:ρ->Prop}(h:Q r):
  (∀O,(Sum.inr r:σ⊕ρ)=.inl O->i<n/\ix O=((i+1:Nat):Int)/\J O)/\∀r',(Sum.inr r:σ⊕ρ)=.inr r'->Q r':=
 ⟨λO e=>(by cases e),λr' e=>(by cases e;exact h)⟩
end
def Xg {α:Type}(ok:α->Prop)(l:L_ α):Prop:=l.length<=maxLen/\∀x∈l,ok x
def Xg.drop {α:Type}{ok:α->Prop}{l:L_ α}(h:Xg ok l)(k:Nat):Xg ok (l.drop k):=⟨by have:=h.1;rw[Hh];omega,λx O=>h.2 x (Nr O)⟩
def Xg.take {α:Type}{ok:α->Prop}{l:L_ α}(h:Xg ok l)(k:Nat):Xg ok (l.take k):=⟨by have:=h.1;rw[Kd];omega,λx O=>h.2 x (DV O)⟩
def Xg.nil {α:Type}{ok:α->Prop}:Xg ok ([]:L_ α):=⟨by simp,λx h=>by cases h⟩
def Xg.app {α:Type}{ok:α->Prop}{l m:L_ α}(h:Xg ok l)(hm:Xg ok m)(hs:l.length+m.length<=maxLen):Xg ok (l++m):=⟨by simpa using hs,λx hx=>by rcases Jy.1 hx with O|O;exact h.2 x O;exact hm.2 x O⟩
def AS (s:ByteArray):Prop:=s.size<=maxLen
def Qvd {s:ByteArray}(h:Km s (⟨#[]⟩:ByteArray)=false):0<s.size:=by
 apply Nat.pos_of_ne_zero;intro O;have:s=⟨#[]⟩:=by
  obtain⟨a⟩:=s;have:a=#[]:=Array.eq_empty_of_size_eq_zero O;rw[this]
 subst this;simp[Km]at h
def Sl {a b:Int}:0<=min2 a b↔0<=a/\0<=b:=by unfold min2;split<;>omega
def Sm {a b n:Int}:max2 a b<n↔a<n/\b<n:=by unfold max2;split<;>omega
def On {a b n:Int}:max2 a b<=n↔a<=n/\b<=n:=by unfold max2;split<;>omega
abbrev T0:=@Qk.bind
abbrev T1:=@Qk.bif
abbrev T2:=@Qk.ok
abbrev T3:=@Qk.okT
abbrev T4:=@Qk.idx
abbrev T5:=@Qk.chk
abbrev T6:=@Qk.mono
def Mb (l:L_ (Int×Int)):Prop:=l.Pairwise λp q=>p.1<q.1
def ZA (l:L_ (Int×Int)):Prop:=l.Pairwise λp q=>p.1≠q.1
def Mb.nd {l:L_ (Int×Int)}(h:Mb l):ZA l:=h.imp λh=>by omega
def AB {p:Int×Int}{l:L_ (Int×Int)}:Mb (p::l)↔(∀q∈l,p.1<q.1)/\Mb l:=QgQ
def Qtj {p:Int×Int}{l:L_ (Int×Int)}:ZA (p::l)↔(∀q∈l,p.1≠q.1)/\ZA l:=QgQ
def Qoz {l:L_ (Int×Int)}{k:Int}:Qy l k=none↔∀p∈l,p.1≠k:=by
 induction l with
 |nil=>simp[Qy]|cons p l O=>
  obtain⟨a,x⟩:=p;rw[Yn];by_cases h:a=k
  ·simp[h]
  simp[h,O]
def GB {l:L_ (Int×Int)}(hn:ZA l){k v:Int}:Qy l k=C v↔(k,v)∈l:=by
 induction l with
 |nil=>simp[Qy]|cons p l ih=>
  obtain⟨a,x⟩:=p;obtain⟨O,h2⟩:=Qtj.1 hn;rw[Yn];by_cases h:a=k
  ·subst h;rw[if_pos rfl];constructor
   ·intro e;cases e;simp
   intro e;rcases Yw.1 e with e|e
   ·cases e;rfl
   exact absurd rfl (O (a,v) e)
  rw[if_neg h,ih h2];constructor
  ·intro e;exact Yq _ e
  intro e;rcases Yw.1 e with e|e
  ·cases e;exact absurd rfl h
  exact e
def Qve {l m:L_ (Int×Int)}(hl:ZA l)(h:l.Perm m)(k:Int):Qy l k=Qy m k:=by
 have hm:ZA m:=(h.pairwise_iff (λO=>Ne.symm O)).1 hl;apply Option.ext;intro v;rw[GB hl,GB hm];exact h.mem_iff
def Qtk {l m:L_ (Int×Int)}(hl:Mb l)(hm:Mb m)(h:∀k,Qy l k=Qy m k):l=m:=by
 induction l generalizing m with
 |nil=>
  cases m with|nil=>rfl|cons p m=>have:=h p.1;rw[Yn (κ:=Int)]at this;simp[Qy]at this
 |cons p l ih=>
  obtain⟨a,x⟩:=p;cases m with
  |nil=>have:=h a;rw[Yn]at this;simp[Qy]at this|cons q m=>
   obtain⟨b,y⟩:=q;obtain⟨l1,l2⟩:=AB.1 hl;obtain⟨m1,m2⟩:=AB.1 hm;have O:a=b:=by
    rcases Int.lt_trichotomy a b with hc|hc|hc
    ·have e:=h a;rw[Yn,Yn,if_pos rfl,if_neg (by omega),Qoz.2 (λp hp=>by have:=m1 p hp;simp at this;omega)]at e;cases e
    ·exact hc
    have e:=h b;rw[Yn,Yn,if_neg (by omega),if_pos rfl,Qoz.2 (λp hp=>by have:=l1 p hp;simp at this;omega)]at e;cases e
   subst O;have e:=h a;rw[Yn,Yn,if_pos rfl,if_pos rfl]at e;cases e;rw[ih l2 m2 λk=>?_];by_cases hk:a=k
   ·subst hk;rw[Qoz.2 (λp hp=>by have:=l1 p hp;simp at this;omega),Qoz.2 (λp hp=>by have:=m1 p hp;simp at this;omega)]
   have:=h k;rwa[Yn,Yn,if_neg hk,if_neg hk]at this
def Qzd {l:L_ (Int×Int)}{k v:Int}{p:Int×Int}(h:p∈CR l k v):∃q∈l,q.1=p.1:=by
 induction l with
 |nil=>cases h
 |cons q l ih=>
  obtain⟨a,x⟩:=q;rw[CR]at h;split at h
  ·rename_i e;rcases Yw.1 h with rfl|h
   ·exact⟨_,Yd,e⟩
   exact⟨p,Yq _ h,rfl⟩
  rcases Yw.1 h with rfl|h
  ·exact⟨_,Yd,rfl⟩
  obtain⟨q,O,h2⟩:=ih h;exact⟨q,Yq _ O,h2⟩
def QwA {lt:Int->Int->Bool}{l:L_ (Int×Int)}{k v:Int}{p:Int×Int}(h:p∈AX lt l k v):p=(k,v)\/p∈l:=by
 induction l with
 |nil=>simp[AX]at h;exact .inl h|cons q l O=>
  obtain⟨a,x⟩:=q;rw[AX]at h;split at h
  ·rcases Yw.1 h with h|h
   ·exact .inl h
   exact .inr h
  rcases Yw.1 h with h|h
  ·exact .inr (h▸Yd)
  rcases O h with h|h
  ·exact .inl h
  exact .inr (Yq _ h)
def Qsx {l:L_ (Int×Int)}(h:Mb l)(k v:Int):Mb (XF Wk l k v):=by
 unfold XF;split
 ·rename_i x hx;clear hx
  induction l with
  |nil=>exact h|cons p l ih=>
   obtain⟨a,x⟩:=p;obtain⟨h1,h2⟩:=AB.1 h;rw[CR];split
   ·rename_i e;subst e;exact AB.2 ⟨h1,h2⟩
   refine AB.2 ⟨λq O=>?_,ih h2⟩;obtain⟨q',hq',e⟩:=Qzd O;rw[<-e];exact h1 _ hq'
 rename_i hn
 induction l with
 |nil=>exact QgR _ _|cons p l ih=>
  obtain⟨a,x⟩:=p;obtain⟨h1,h2⟩:=AB.1 h;rw[Yn]at hn;split at hn
  ·cases hn
  rename_i hne;rw[AX];split
  ·rename_i e;have e:k<a:=QZ e;refine AB.2 ⟨λq O=>?_,h⟩;rcases Yw.1 O with rfl|O
   ·exact e
   have:=h1 q O;simp at this ⊢;omega
  rename_i e;have e:¬k<a:=λc=>e (Yy c);refine AB.2 ⟨λq O=>?_,ih h2 hn⟩;rcases QwA O with rfl|O
  ·show a<k;omega
  exact h1 q O
def QwB {l:L_ (Int×Int)}{k v:Int}:(CR l k v).length=l.length:=by
 induction l with
 |nil=>rfl|cons p l h=>
  obtain⟨a,x⟩:=p;rw[CR];split
  ·rfl
  simp[h]
def QwC {lt:Int->Int->Bool}{l:L_ (Int×Int)}{k v:Int}:(AX lt l k v).length=l.length+1:=by
 induction l with
 |nil=>rfl|cons p l h=>
  obtain⟨a,x⟩:=p;rw[AX];split
  ·rfl
  simp[h]
def QwD {l:L_ (Int×Int)}{k v:Int}:(XF Wk l k v).length<=l.length+1:=by
 unfold XF;split
 ·rw[QwB];omega
 rw[QwC];exact YK _
def QwE {l:L_ (Int×Int)}{k v:Int}(h:Mb (l++[(k,v)])):XF Wk l k v=l++[(k,v)]:=by
 have hl:Mb l:=(Qm4.1 h).1;refine Qtk (Qsx hl k v) h λj=>?_;rw[Wx];have O:∀p∈l,p.1<k:=λp hp=>(Qm4.1 h).2.2 p hp (k,v) (by simp);clear h
 induction l with
 |nil=>
  show(if j=k then C v else none)=(if k=j then C v else none);by_cases c:j=k
  ·rw[if_pos c,if_pos c.symm]
  rw[if_neg c,if_neg (λe=>c e.symm)]
 |cons p l ih=>
  obtain⟨a,x⟩:=p;have h1:=O (a,x) Yd;simp only at h1;rw[List.cons_append,Yn,Yn];rw[<-ih (AB.1 hl).2 λp hp=>O p (Yq _ hp)];by_cases c:j=k
  ·subst c;rw[if_pos rfl,if_pos rfl,if_neg (by omega)]
  rw[if_neg c,if_neg c]
section
variable {ρ:Type}{g:Int->Int->Int}{stop:Int->Bool}{q:O_ ρ}{body:L_ (Int×Int)->Int×Int->O_ (L_ (Int×Int)⊕ρ)}
def Xd (s:L_ (Int×Int))(k:Int):Int:=(Qy s k).getD 0
def Qkn (g:Int->Int->Int)(s l:L_ (Int×Int))(k:Int):O_ Int:=match Qy l k with|some v=>C (g (Xd s k) v)|none=>Qy s k
def QhB (hb:∀s p,body s p=bif stop (g (Xd s p.1) p.2)then q.map Sum.inr else C (.inl (XF Wk s p.1 (g (Xd s p.1) p.2)))):
  ∀l s,Mb s->ZA l->((∃p∈l,stop (g (Xd s p.1) p.2)=true)/\JP body s l=q.map Sum.inr)\/
   ((∀p∈l,stop (g (Xd s p.1) p.2)=false)/\∃s',JP body s l=C (.inl s')/\Mb s'/\s'.length<=s.length+l.length/\∀k,Qy s' k=Qkn g s l k):=by
 intro l
 induction l with
 |nil=>intro s hs _;exact .inr ⟨λp h=>(by cases h),s,rfl,hs,by simp,λk=>rfl⟩
 |cons p l ih=>
  intro s hs hl;obtain⟨h1,h2⟩:=Qtj.1 hl;simp only[JP,hb];cases hst:stop (g (Xd s p.1) p.2)with
  |true=>exact .inl ⟨⟨p,Yd,hst⟩,by cases q<;>rfl⟩
  |false=>
   simp only[Xn,Qh,Sum.elim_inl];have hc:∀r∈l,Xd (XF Wk s p.1 (g (Xd s p.1) p.2)) r.1=Xd s r.1:=λr O=>by
    unfold Xd;rw[Wx,if_neg (λe=>h1 r O e.symm)]
   rcases ih _ (Qsx hs p.1 (g (Xd s p.1) p.2)) h2 with⟨⟨r,O,h3⟩,h4⟩|⟨h3,s',h4,h5,h6,h7⟩
   ·exact .inl ⟨⟨r,Yq _ O,by rw[hc r O]at h3;exact h3⟩,h4⟩
   refine .inr ⟨λr O=>?_,s',h4,h5,?_,λk=>?_⟩
   ·rcases Yw.1 O with rfl|O
    ·exact hst
    have:=h3 r O;rwa[hc r O]at this
   ·have:=QwD (l:=s) (k:=p.1) (v:=g (Xd s p.1) p.2);simp;omega
   rw[h7];obtain⟨a,x⟩:=p;unfold Qkn;rw[Yn];by_cases e:a=k
   ·subst e;rw[if_pos rfl,Qoz.2 (λr O=>Ne.symm (h1 r O)),Wx,if_pos rfl]
   rw[if_neg e];simp only[Xd,Wx,if_neg (λe'=>e (Eq.symm e'):¬k=a)]
def QoA (hb:∀s p,body s p=bif stop (g (Xd s p.1) p.2)then q.map Sum.inr else C (.inl (XF Wk s p.1 (g (Xd s p.1) p.2)))){l s:L_ (Int×Int)}(hs:Mb s)(hl:ZA l):
  ((∃p∈l,stop (g (Xd s p.1) p.2)=true)/\∀r,q=C r->Ih body s l=C (.inr r))\/
   ((∀p∈l,stop (g (Xd s p.1) p.2)=false)/\∃s',Ih body s l=C (.inl s')/\Mb s'/\s'.length<=s.length+l.length/\∀k,Qy s' k=Qkn g s l k):=by
 have key:∀l':L_ (Int×Int),l'.Perm l->JP body s l'=JP body s l:=λl' hp=>by
  have hl':ZA l':=(hp.pairwise_iff (λhab=>Ne.symm hab)).2 hl;rcases QhB hb l' s hs hl' with⟨⟨p,h,h2⟩,O⟩|⟨h,s1,O,h4,_,h5⟩
  ·rcases QhB hb l s hs hl with⟨_,g3⟩|⟨g1,_⟩
   ·rw[O,g3]
   rw[g1 p (hp.mem_iff.1 h)]at h2;cases h2
  rcases QhB hb l s hs hl with⟨⟨p,g1,g2⟩,g3⟩|⟨g1,s2,g3,g4,_,g5⟩
  ·rw[h p (hp.mem_iff.2 g1)]at g2;cases g2
  rw[O,g3,Qtk h4 g4 λk=>?_];rw[h5,g5];unfold Qkn;rw[Qve hl' hp k]
 rcases QhB hb l s hs hl with⟨h,O⟩|⟨h,s1,O,h4,h6,h5⟩
 ·exact .inl ⟨h,λr hr=>Hp.2 ⟨key,by rw[O,hr];rfl⟩⟩
 exact .inr ⟨h,s1,Hp.2 ⟨key,O⟩,h4,h6,h5⟩
end
def Qud {ρ:Type}{bad:Int×Int->Bool}{q:ρ}{body:Unit->Int×Int->O_ (Unit⊕ρ)}(O:∀p,body () p=C (bif bad p then .inr q else .inl ()))(l:L_ (Int×Int)):
  Ih body () l=C (bif l.any bad then .inr q else .inl ()):=by
 have h:∀l:L_ (Int×Int),JP body () l=C (bif l.any bad then .inr q else .inl ()):=by
  intro l
  induction l with
  |nil=>rfl|cons p l ih=>
   simp only[JP,O,Qh,List.any_cons];cases bad p with|true=>rfl|false=>exact ih
 refine Hp.2 ⟨λl' hp=>?_,h l⟩;rw[h,h];congr 2;rw[QgM,No,No];exact⟨λ⟨x,a,b⟩=>⟨x,hp.mem_iff.1 a,b⟩,λ⟨x,a,b⟩=>⟨x,hp.mem_iff.2 a,b⟩⟩
def FK (a:Int):L_ (Int×Int)->Bool
 |[]=>true|p::r=>!(decide (p.1<=a)||(decide (p.2<1)||decide (1048576<p.2)))&&FK p.1 r
def QxI {a:Int}{l:L_ (Int×Int)}:FK a l=true↔Mb l/\∀p∈l,a<p.1/\1<=p.2/\p.2<=1048576:=by
 induction l generalizing a with
 |nil=>simp[FK,Mb]|cons p l ih=>
  rw[FK,QL,ih,AB];simp only[AC,DH,XA];constructor
  ·rintro ⟨⟨h1,h2,O⟩,h4,h5⟩;refine⟨⟨λq h=>(h5 q h).1,h4⟩,λq h=>?_⟩;rcases Yw.1 h with rfl|h
   ·omega
   have:=h5 q h;omega
  rintro ⟨⟨h1,h2⟩,O⟩;have:=O p Yd;exact⟨by omega,h2,λq h=>⟨h1 q h,(O q (Yq _ h)).2⟩⟩
def Rt (l:L_ (Int×Int)):Prop:=Mb l/\∀p∈l,0<=p.1/\1<=p.2/\p.2<=1048576
def Ur {l:L_ (Int×Int)}:FK (-1) l=true↔Rt l:=by
 rw[QxI];constructor
 ·rintro ⟨h,O⟩;exact⟨h,λp hp=>by have:=O p hp;omega⟩
 rintro ⟨h,O⟩;exact⟨h,λp hp=>by have:=O p hp;omega⟩
def Rt.nil : Rt []:=⟨List.Pairwise.nil,λp h=>by cases h⟩
def IY {l:L_ (Int×Int)}(h:ZA l){p:Int×Int}(hp:p∈l):Xd l p.1=p.2:=by
 unfold Xd;rw[(GB h).2 (show(p.1,p.2)∈l from hp)];rfl
def Rt.cnt {l:L_ (Int×Int)}(h:Rt l)(k:Int):0<=Xd l k/\Xd l k<=1048576:=by
 unfold Xd;cases e:Qy l k with|none=>simp|some v=>have:=h.2 _ ((GB h.1.nd).1 e);simp at this ⊢;omega
def Rt.cnt_pos {l:L_ (Int×Int)}(h:Rt l){k:Int}(O:0<Xd l k):0<=k:=by
 unfold Xd at O;cases e:Qy l k with|none=>rw[e]at O;simp at O|some v=>exact(h.2 _ ((GB h.1.nd).1 e)).1
def Nh (l:L_ (Int×Int)):L_ (Int×Int):=l.filter λp=>decide (0<p.2)
def Qsy {l:L_ (Int×Int)}(h:Mb l)(k:Int):Xd (Nh l) k=if 0<Xd l k then Xd l k else 0:=by
 have hp:Mb (Nh l):=h.sublist List.filter_sublist;by_cases c:0<Xd l k
 ·rw[if_pos c];unfold Xd at c;cases e:Qy l k with
  |none=>rw[e]at c;simp at c|some v=>
   rw[e]at c;have O:(k,v)∈Nh l:=AD.2 ⟨(GB h.nd).1 e,by simpa using c⟩;unfold Xd;rw[(GB hp.nd).2 O,e]
 rw[if_neg c];unfold Xd;cases e:Qy (Nh l) k with
 |none=>rfl|some v=>
  have O:=AD.1 ((GB hp.nd).1 e);have h2:=(GB h.nd).2 O.1;unfold Xd at c;rw[h2]at c;simp at O c;omega
def Qvf {l:L_ (Int×Int)}(h:Mb l)(hb:∀k,0<Xd l k->0<=k/\Xd l k<=1048576):Rt (Nh l):=by
 refine⟨h.sublist List.filter_sublist,λp hp=>?_⟩;obtain⟨O,h2⟩:=AD.1 hp;have h3:=IY h.nd O;have h4:0<p.2:=QZ h2;have:=hb p.1 (by omega);omega
def Qvg {l:L_ (Int×Int)}(h:Mb l):Jr (l.map Prod.fst)=l.map Prod.fst:=by
 rw[Qhc];refine List.mergeSort_of_pairwise ?_;rw[Zk];exact h.imp λh=>by simp;omega
def upL : Int->Nat->L_ Int
 |_,0=>[]|x,k+1=>x::upL (x+1) k
def binds : L_ Int->L_ (L_ Int)
 |[]=>[[]]|s::r=>(0::upL 1 (s-1).toNat).flatMap λx=>(binds r).map (x::·)
def Gl : L_ Int->L_ Int->L_ (L_ Int)
 |s::r,x::d=>(Gl r d).map (x::·)++(upL (x+1) (s-(x+1)).toNat).flatMap λy=>(binds r).map (y::·)|_,_=>[]
def Ni (l:L_ Int):L_ Int:=List.replicate l.length 0
def QlO (l:L_ Int):binds l=Ni l::Gl l (Ni l):=by
 induction l with
 |nil=>rfl|cons s r h=>
  show(0::upL 1 (s-1).toNat).flatMap (λx=>(binds r).map (x::·))=(0::Ni r)::((Gl r (Ni r)).map (0::·)++(upL (0+1) (s-(0+1)).toNat).flatMap λy=>(binds r).map (y::·));rw[PN,Int.zero_add];have:(binds r).map (λx=>(0:Int)::x)=(0::Ni r)::(Gl r (Ni r)).map (0::·):=by rw[h];rfl
  rw[this];rfl
def Qb0 : L_ Int->L_ Int->O_ (L_ Int)
 |s::r,x::d=>match Qb0 r d with|some e=>C (x::e)|none=>if x+1<s then C ((x+1)::Ni r)else none
 |_,_=>none
def Que : ∀l d:L_ Int,Gl l d=match Qb0 l d with
  |none=>[]|some e=>e::Gl l e:=by
 intro l
 induction l with
 |nil=>intro d;rfl|cons s r O=>
  intro d;cases d with
  |nil=>rfl|cons x d=>
   have h:=O d;rw[Qb0];cases e:Qb0 r d with
   |some e'=>
    rw[e]at h;simp only[Gl,h];rfl
   |none=>
    rw[e]at h;simp only at h;simp only[Gl,h,List.map_nil,Qd6];by_cases c:x+1<s
    ·rw[if_pos c];rw[show(s-(x+1)).toNat=(s-(x+1+1)).toNat+1 by omega,upL,PN];have:(binds r).map (λz=>(x+1)::z)=((x+1)::Ni r)::(Gl r (Ni r)).map ((x+1)::·):=by rw[QlO r];rfl
     rw[this];rfl
    rw[if_neg c,show(s-(x+1)).toNat=0 by omega];rfl
def QqI : ∀l d:L_ Int,(∀(j:Nat) x s,d[j]? = C x->l[j]? = C s->¬x+1<s)->Qb0 l d=none:=by
 intro l
 induction l with
 |nil=>intro d _;cases d<;>rfl
 |cons s r ih=>
  intro d h;cases d with
  |nil=>rfl|cons x d=>
   rw[Qb0,ih d λj y z O h2=>h (j+1) y z (by simpa using O) (by simpa using h2)];simp only;rw[if_neg (h 0 x s rfl rfl)]
def QxJ : ∀(k:Nat) (l d:L_ Int) (x s:Int),l.length=d.length->d[k]? = C x->l[k]? = C s->x+1<s->(∀(j:Nat) y z,k<j->d[j]? = C y->l[j]? = C z->¬y+1<z)->
  Qb0 l d=C (d.take k++(x+1)::List.replicate (d.length-(k+1)) 0):=by
 intro k
 induction k with
 |zero=>
  intro l d x s hl h hs O ha;cases l with
  |nil=>cases hs
  |cons s' r=>
   cases d with
   |nil=>cases h
   |cons x' d=>
    simp only[List.getElem?_cons_zero,Option.some.injEq]at h hs;subst h;subst hs;rw[Qb0,QqI r d λj y z h1 h2=>ha (j+1) y z (by omega) (by simpa using h1) (by simpa using h2)];simp only;rw[if_pos O];simp only[DU]at hl;simp[Ni];omega
 |succ k ih=>
  intro l d x s hl h hs O ha;cases l with
  |nil=>cases hs
  |cons s' r=>
   cases d with
   |nil=>cases h
   |cons x' d=>
    simp only[QgO]at h hs;simp only[DU,Nat.add_right_cancel_iff]at hl;rw[Qb0,ih r d x s hl h hs O λj y z h0 h1 h2=>ha (j+1) y z (by omega) (by simpa using h1) (by simpa using h2)];simp
def inB : L_ Int->L_ Int->Prop
 |[],[]=>True|s::r,x::d=>0<=x/\(x=0\/x<s)/\inB r d|_,_=>False
def QxK {y x:Int}{k:Nat}:y∈upL x k↔x<=y/\y<x+k:=by
 induction k generalizing x with
 |zero=>
  simp only[upL,List.not_mem_nil,false_iff];omega
 |succ k h=>simp only[upL,Yw,h];omega
def Qvh {l d:L_ Int}:d∈binds l↔inB l d:=by
 induction l generalizing d with
 |nil=>cases d<;>simp[binds,inB]
 |cons s r ih=>
  cases d with
  |nil=>simp[binds,inB]|cons x d=>
   simp only[binds,List.mem_flatMap,Yw,QxK,Ye,List.cons.injEq,inB,<-ih];constructor
   ·rintro ⟨y,O,e,h,rfl,rfl⟩;exact⟨by omega,by omega,h⟩
   rintro ⟨O,h,h3⟩;exact⟨x,by omega,d,h3,rfl,rfl⟩
def QxL {l d:L_ Int}(h:inB l d):d.length=l.length:=by
 induction l generalizing d with
 |nil=>cases d with|nil=>rfl|cons x d=>exact h.elim
 |cons s r O=>cases d with|nil=>exact h.elim|cons x d=>simp[O h.2.2]
section
variable {α:Type}
def WB (most:Nat)(h X:L_ α):L_ α⊕L_ α:=if (h++X).length<most then .inr (h++X)else .inl ((h++X).take most)
def QgB {most:Nat}{O:L_ α}(h:O.length<most):WB most O []=.inr O:=by
 unfold WB;rw[Zg,if_pos h]
def QwF {most:Nat}{O X:L_ α}(h:O.length=most):WB most O X=.inl O:=by
 unfold WB;rw[if_neg (by simp;omega)];subst h;rw[List.take_left]
def QwG {most:Nat}{h X:L_ α}{x:α}:WB most h (x::X)=WB most (h++[x]) X:=by
 unfold WB;rw[WC];rfl
def Qtl {most:Nat}{h X Y:L_ α}:WB most h (X++Y)=match WB most h X with
  |.inl a=>.inl a|.inr a=>WB most a Y:=by
 unfold WB;by_cases c:(h++X).length<most
 ·rw[if_pos c];simp only[WC]
 rw[if_neg c,if_neg (by simp at c ⊢;omega),<-WC,Qj7 (by omega)]
def Qvi {most:Nat}{O X a:L_ α}(h:WB most O X=.inr a):a.length<most:=by
 unfold WB at h;split at h
 ·cases h;assumption
 cases h
def Qtm {most:Nat}{O X a:L_ α}(h:WB most O X=.inr a):a=O++X:=by
 unfold WB at h;split at h
 ·cases h;rfl
 cases h
def QwH {most:Nat}{X:L_ α}(h:0<most):(match WB most [] X with | .inl a=>a | .inr a=>a)=X.take most:=by
 unfold WB;rw[Qd6];by_cases c:X.length<most
 ·rw[if_pos c];simp only;rw[DW (by omega)]
 rw[if_neg c]
end
section
variable {M K:Type}[DecidableEq K](key:M->K)(succ:M->L_ M)
def QwI (out:L_ M)(x:M):Bool:=out.any λy=>decide (key y=key x)
variable {key}{succ}
def QeL (key:M->K)(l:L_ M):Prop:=l.Pairwise λa b=>key a≠key b
def QeL.add {l:L_ M}{x:M}(h:QeL key l)(hx:QwI key l x=false):QeL key (l++[x]):=by
 unfold QeL;rw[Qm4];refine⟨h,QgR _ _,λa ha b O=>?_⟩;rw[Hk]at O;subst O;intro e;have:QwI key l b=true:=No.2 ⟨a,ha,Yy e⟩;rw[this]at hx;cases hx
end
end Go.Vm
noncomputable section
namespace Go.Proofs
open Go Go.RowKit Go.Vm
open Option renaming some→C
open Bool renaming true→t_,false→f_
variable {l:L_ Qq}{n:Qg}{c i:Nat}{m:L_ QBg}
inductive DG : Qo->Prop where
 |mk (e:Qo):e.Kids.length<=maxLen->(∀k∈e.Kids,DG k)->DG e
def EE {e:Qo}(h:DG e):Xg DG e.Kids:=by
 cases h with|mk _ O h2=>exact⟨O,h2⟩
def QjI {e k:Qo}(h:k∈e.Kids):SizeOf.sizeOf k<SizeOf.sizeOf e:=by
 obtain⟨a,b,l⟩:=e;have:=List.sizeOf_lt_of_mem h;simp only[Qo.mk.sizeOf_spec]at *;omega
def Qo.pos (e:Qo):0<SizeOf.sizeOf e:=by
 obtain⟨a,b,l⟩:=e;simp only[Qo.mk.sizeOf_spec];omega
inductive POk (v:Int):Qo->Prop where
 |mk (e:Qo):(e.Kind=1\/e.Kind=2\/e.Kind=3\/e.Kind=4\/e.Kind=5\/e.Kind=6)->(e.Kind=2->0<=e.Num/\e.Num<v)->(e.Kind=3\/e.Kind=4->e.Kids.length=1)->(e.Kind=5->e.Kids.length=2)->(e.Kind=6->e.Kids.length=3)->(∀k∈e.Kids,POk v k)->POk v e
def KH (x:Qj):Prop:=AS x.Name/\True/\True/\True/\(Xg AS) x.Names/\True/\True
def WN (x:Qp):Prop:=AS x.Name/\True/\(Xg (λ_=>True)) x.First
def GQ (x:XB):Prop:=AS x.Name/\True
def Nj (x:Xf):Prop:=True/\DG x.Expr
def YM (x:Qm):Prop:=AS x.Name/\(Xg GQ) x.Vars/\DG x.Guard/\True/\True/\(Xg Nj) x.Ins/\(Xg Nj) x.Outs/\(Xg (λ_=>True)) x.Cancel/\True/\True
def Xu (x:Qg):Prop:=(Xg KH) x.Colours/\(Xg WN) x.Places/\(Xg YM) x.Tasks/\True/\True
def Qrr (x:Ke):Prop:=(Xg KH) x.all/\(Xg (λ_=>True)) x.sizes/\True
def QoB (O:Qg)(h:Xu O):Xl (PS O):=by
 unfold PS;exact T3
def KW (O:(L_ Qp))(h:Int)(h_l1:(Xg WN) O):Qk (YY O h) λr=>r=t_->0<=h/\h<O.length:=by
 unfold YY;exact T2 (by first|(intro hr;first|(cases hr;done)|omega|((try simp only[QL,WO,DH,AC,Hg,QT,XA,beq_iff_eq,bne_iff_ne,ne_eq,Zf,Qd3,YR,Hj,SB,Hh,Kd,DU,Sl,Sm,On]at *);omega))|((try simp only[QL,WO,DH,AC,Hg,QT,XA,beq_iff_eq,bne_iff_ne,ne_eq,Zf,Qd3,YR,Hj,SB,Hh,Kd,DU,Sl,Sm,On]at *);omega)|simp_all)
def QoC (O:Qg)(h:Xu O):Xl (PT O):=by
 unfold PT;refine T0 (P:=λ_=>True) ?_ (λx_1 hv2=>?_)
 ·unfold Qct;refine T0 (KW O.Places O.From (h.2.1)) (λx_3 hv4=>?_);refine T1 (λhc5=>?_) (λhc5=>?_)
  ·refine T0 (KW O.Places O.To (h.2.1)) (λx_6 hv7=>?_);exact T3
  exact T3
 unfold Qcu;exact T3
def QoD (O:Qg)(h:Xu O):Xl (PU O):=by
 unfold PU;exact T3
def QoE (O:Qg)(v2:Int)(v3:Int)(v4:Int)(h:Xu O):Xl (PV O v2 v3 v4):=by
 unfold PV;refine T0 (QoB O (h)) (λx_1 hv2=>?_);refine T1 (λhc3=>?_) (λhc3=>?_)
 ·exact T3
 refine T0 (QoC O (h)) (λx_4 hv5=>?_);refine T1 (λhc6=>?_) (λhc6=>?_)
 ·exact T3
 refine T0 (QoD O (h)) (λx_7 hv8=>?_);refine T1 (λhc9=>?_) (λhc9=>?_)
 ·exact T3
 exact T3
def QoF (lo1:Int)(O:Int)  : Xl (PW lo1 O):=by
 unfold PW;refine T1 (λh=>?_) (λh=>?_)
 ·exact T3
 exact T3
def Qbs (h:Int)  : Xl (BI h):=by
 unfold BI;exact T3
def TP (s1:ByteArray)(h_s1:AS s1):Xl (Bo s1):=by
 unfold Bo;refine T0 (P:=λ_=>True) ?_ (λx_1 hv2=>?_)
 ·unfold Qcv;refine T1 (λhc3=>?_) (λhc3=>?_)
  ·exact T3
  have hshc3:=Qvd hc3;refine T1 (λhc4=>?_) (λhc4=>?_)
  ·exact T3
  refine T0 (Qk.sidx (by omega) (by omega)) (λc_5 hv6=>?_);refine T0 (Qbs c_5 ) (λx_7 hv8=>?_);exact T3
 unfold Qcy;refine T1 (λhc9=>?_) (λhc9=>?_)
 ·exact T3
 refine T0 (Qk.up (s1.size) (λst=>st) (λ_=>True) (Q:=λq=>True) rfl trivial (λi11 st h hn13 hj14=>?_)) (λq15 hq16=>?_)
 ·obtain⟨O,hst⟩:∃y,y=st:=⟨_,rfl⟩;subst hst;replace h:O=(i11:Int):=h;show Qk (Ru s1 O) _;unfold Ru;refine T1 (λhc17=>?_) (λhc17=>?_)
  ·refine T0 (Qk.sidx (by omega) (by simp_all)) (λc_18 hv19=>?_);refine T0 (P:=λ_=>True) ?_ (λx_20 hv21=>?_)
   ·unfold Qcw;refine T0 (Qbs c_18 ) (λx_22 hv23=>?_);refine T1 (λhc24=>?_) (λhc24=>?_)
    ·refine T1 (λhc25=>?_) (λhc25=>?_)
     ·exact T3
     refine T1 (λhc26=>?_) (λhc26=>?_)
     ·exact T3
     exact T3
    exact T3
   unfold Qcx;refine T1 (λhc27=>?_) (λhc27=>?_)
   ·exact T2 (Qw trivial)
   exact T2 (QY ⟨(by simp_all),by subst h;exact QE (by simp_all) h_s1,trivial⟩)
  exact T2 (Qw trivial)
 rcases q15 with q15|q15
 ·show Qk (Rv) _;unfold Rv;exact T3
 show Qk (Rx) _;unfold Rx;exact T3
def QmK (l1:(L_ ByteArray))(O:(Xg AS) l1):Xl (NG l1):=by
 unfold NG;refine T0 (Qk.up (l1.length) (λst=>st.1) (λ_=>True) (Q:=λq=>True) rfl trivial (λi3 st hi4 hn5 hj6=>?_)) (λq7 hq8=>?_)
 ·obtain⟨x_1,m_2⟩:=st;replace hi4:x_1=(i3:Int):=hi4;show Qk (OQ l1 x_1 m_2) _;unfold OQ;refine T1 (λhc9=>?_) (λhc9=>?_)
  ·refine T0 (T4 (by omega) (by simp_all)) (λh hv11=>?_);refine T0 (P:=λ_=>True) ?_ (λx_12 hv13=>?_)
   ·unfold Qbb;refine T0 (TP h (((O).2 h hv11))) (λx_14 hv15=>?_);refine T1 (λhc16=>?_) (λhc16=>?_)
    ·exact T3
    exact T3
   unfold Qbc;refine T1 (λhc17=>?_) (λhc17=>?_)
   ·exact T2 (Qw trivial)
   exact T2 (QY ⟨(by simp_all),by subst hi4;exact QE (by simp_all) (O).1,trivial⟩)
  exact T2 (Qw trivial)
 rcases q7 with q7|q7
 ·show Qk (OR) _;unfold OR;exact T3
 show Qk (OS) _;unfold OS;exact T3
def QoG (c1:Qj)(h:LI_)(h_c1:KH c1)(O:(Xg (λ_=>True)) h):Xl (PX c1 h):=by
 unfold PX;refine T1 (λhc1=>?_) (λhc1=>?_)
 ·refine T0 (QoF c1.Lo c1.Hi ) (λx_2 hv3=>?_);exact T3
 refine T1 (λhc4=>?_) (λhc4=>?_)
 ·refine T0 (QmK c1.Names (h_c1.2.2.2.2.1)) (λx_5 hv6=>?_);refine T1 (λhc7=>?_) (λhc7=>?_)
  ·exact T3
  unfold Dn;exact T3
 refine T1 (λhc8=>?_) (λhc8=>?_)
 ·refine T1 (λhc9=>?_) (λhc9=>?_)
  ·refine T0 (T4 (by(try simp only[QL,WO,DH,AC,Hg,QT,XA,beq_iff_eq,bne_iff_ne,ne_eq,Zf,Qd3,YR,Hj,SB,Hh,Kd,DU,Sl,Sm,On]at *);omega) (by(try simp only[QL,WO,DH,AC,Hg,QT,XA,beq_iff_eq,bne_iff_ne,ne_eq,Zf,Qd3,YR,Hj,SB,Hh,Kd,DU,Sl,Sm,On]at *);omega)) (λe_10 hv11=>?_)
   refine T0 (T4 (by(try simp only[QL,WO,DH,AC,Hg,QT,XA,beq_iff_eq,bne_iff_ne,ne_eq,Zf,Qd3,YR,Hj,SB,Hh,Kd,DU,Sl,Sm,On]at *);omega) (by(try simp only[QL,WO,DH,AC,Hg,QT,XA,beq_iff_eq,bne_iff_ne,ne_eq,Zf,Qd3,YR,Hj,SB,Hh,Kd,DU,Sl,Sm,On]at *);omega)) (λe_12 hv13=>?_)
   exact T3
  unfold Dn;exact T3
 unfold Dn;exact T3
def Qdr (O:(L_ Qj))(h_l1:(Xg KH) O):Qk (Fb O) λr=>((Xg (λ_=>True)) r.1/\True)/\(r.2=t_->r.1.length=O.length/\∀x∈r.1,1<=x/\x<=1024):=by
 unfold Fb;refine T1 (λhc=>T2 ⟨⟨Xg.nil,trivial⟩,λh=>by cases h⟩) (λhc=>?_);have hl:O.length<=32:=by simp only[XA]at hc;omega
 refine T0 (Qk.up O.length (λst=>st.1) (λst=>(st.2.2.length:Int)=st.1/\∀x∈st.2.2,1<=x/\x<=1024) (Q:=λq=>∀l,q=.inr l->l.length=O.length/\∀x∈l,1<=x/\x<=1024) rfl ⟨rfl,λx h=>(by cases h)⟩ (λi st hi hn hj=>?_)) (λq hq=>?_)
 ·obtain⟨x,m,l⟩:=st;replace hi:x=(i:Int):=hi;replace hj:(l.length:Int)=x/\∀x∈l,1<=x/\x<=1024:=hj;obtain⟨hj,hj2⟩:=hj;show Qk (OT O x m l) _;unfold OT;refine T1 (λhc2=>?_) (λhc2=>?_)
  ·simp only[QT]at hc2;refine T0 (T4 (by omega) (by omega)) λe he=>?_;refine T0 (QoG e l (h_l1.2 e he) ⟨by unfold maxLen;omega,λ_ _=>trivial⟩) λy _=>?_;refine T0 (P:=λz=>z=f_->1<=y/\y<=1024) ?_ λz hz=>?_
   ·unfold Qbd;refine T0 (TP e.Name (h_l1.2 e he).1) λz _=>?_;refine T1 (λ_=>T2 (λh=>by cases h)) λ_=>T1 (λ_=>T2 (λh=>by cases h)) λ_=>T1 (λ_=>T2 (λh=>by cases h)) λh1=>T2 λh2=>?_;simp only[XA]at h1 h2;omega
   unfold Qbe;refine T1 (λ_=>T2 (Qw λl h=>by cases h)) λhz0=>?_;refine T0 (T5 (by simp;omega)) λ_ _=>?_;exact T2 (QY ⟨by omega,by subst hi;exact QE (by omega) (by unfold maxLen;omega:O.length<=maxLen),by simp only[YR,Hj];subst hi;rw[QE (show i<O.length by omega) (by unfold maxLen;omega)];omega,λu hu=>by
    rcases Jy.1 hu with hu|hu
    ·exact hj2 u hu
    simp at hu;subst hu;exact hz hz0⟩)
  simp only[XA]at hc2;exact T2 (Qw λl' h=>by cases h;exact⟨by omega,hj2⟩)
 rcases q with q|q
 ·exact T2 ⟨⟨Xg.nil,trivial⟩,λh=>by cases h⟩
 have:=hq q rfl;exact T2 ⟨⟨⟨by show q.length<=maxLen;unfold maxLen;omega,λ_ _=>trivial⟩,trivial⟩,λ_=>this⟩
def QmL (O:(L_ Qj))(h:(Xg KH) O):Xl (NH O):=by
 unfold NH;refine T0 (Qdr O (h)) (λx_1 hv2=>?_);exact T3
def QgC (v1:Qg)(O:Int)(h:Xu v1)(hp0:0<=O)(hp1:O<v1.Colours.length):Xl (AI v1 O):=by
 have hl:=h.1.1;unfold maxLen at hl;unfold AI;rw[YH (show -9223372036854775808<=O+1/\O+1<=9223372036854775807 by omega)];refine T0 (T5 (by simp only[QL,QT];omega)) λ_ _=>?_;exact T0 (QmL _ ((h.1.drop _).take _)) λx _=>T3
def QoH : L_ ByteArray:=(Il).getD []
set_option maxRecDepth 100000 in
def QwJ : Il=C QoH:=by kernel_rfl
set_option maxRecDepth 100000 in
def Qtb : (decide (QoH.length<=1000)&&QoH.all λs=>decide (s.size<=1000))=t_:=by kernel_rfl
def QoI : Qk (Il) λr=>Xg AS r:=by
 have h:=Qtb;rw[QL,decide_eq_true_iff,XM]at h;refine⟨QoH,QwJ,by unfold maxLen;omega,λx O=>?_⟩;have:=h.2 x O;rw[decide_eq_true_iff]at this;unfold AS maxLen;omega
def TQ (s1:(L_ ByteArray))(v2:ByteArray)(O:(Xg AS) s1)(h_v2:AS v2):Xl (Ji s1 v2):=by
 unfold Ji;refine T0 (Qk.up (s1.length) (λst=>st) (λ_=>True) (Q:=λq=>True) rfl trivial (λi2 st h hn4 hj5=>?_)) (λq6 hq7=>?_)
 ·obtain⟨x_1,hst⟩:∃y,y=st:=⟨_,rfl⟩;subst hst;replace h:x_1=(i2:Int):=h;show Qk (DK s1 v2 x_1) _;unfold DK;refine T1 (λhc8=>?_) (λhc8=>?_)
  ·refine T0 (T4 (by omega) (by simp_all)) (λe_9 hv10=>?_);refine T1 (λhc11=>?_) (λhc11=>?_)
   ·exact T2 (Qw trivial)
   exact T2 (QY ⟨(by simp_all),by subst h;exact QE (by simp_all) (O).1,trivial⟩)
  exact T2 (Qw trivial)
 rcases q6 with q6|q6
 ·show Qk (DL q6) _;unfold DL;exact T3
 show Qk (DM) _;unfold DM;exact T3
def PJ (s1:(L_ ByteArray))(v2:ByteArray)(h:(Xg AS) s1)(O:AS v2):Xl (KB s1 v2):=by
 unfold KB;refine T0 (TQ s1 v2 (h) (O)) (λx_1 hv2=>?_);exact T3
def Qqa (s1:ByteArray)(h:AS s1):Xl (CZ s1):=by
 unfold CZ;refine T0 (QoI  ) (λx_1 O=>?_);refine T0 (PJ x_1 s1 (O) (h)) (λx_3 hv4=>?_);exact T3
def FL (O:ByteArray)(h:AS O):Xl (Ey O):=by
 unfold Ey;refine T0 (P:=λ_=>True) ?_ (λx_1 hv2=>?_)
 ·unfold Qej;refine T0 (TP O (h)) (λx_3 hv4=>?_);refine T1 (λhc5=>?_) (λhc5=>?_)
  ·refine T0 (Qqa O (h)) (λx_6 hv7=>?_);exact T3
  exact T3
 unfold Qek;exact T3
def QdW (O:ByteArray)(h:AS O):Xl (EN O):=by
 unfold EN;refine T0 (FL O (h)) (λx_1 hv2=>?_);exact T3
def Mh (s1:(L_ ByteArray))(h:(Xg AS) s1):Xl (JN s1):=by
 unfold JN;refine T0 (Qk.up (s1.length) (λst=>st) (λ_=>True) (Q:=λq=>True) rfl trivial (λi2 st O hn4 hj5=>?_)) (λq6 hq7=>?_)
 ·obtain⟨x_1,hst⟩:∃y,y=st:=⟨_,rfl⟩;subst hst;replace O:x_1=(i2:Int):=O;show Qk (KK s1 x_1) _;unfold KK;refine T1 (λhc8=>?_) (λhc8=>?_)
  ·refine T0 (T4 (by omega) (by simp_all)) (λe_9 hv10=>?_);refine T0 (QdW e_9 (((h).2 e_9 hv10))) (λx_11 hv12=>?_);refine T1 (λhc13=>?_) (λhc13=>?_)
   ·exact T2 (Qw trivial)
   exact T2 (QY ⟨(by simp_all),by subst O;exact QE (by simp_all) (h).1,trivial⟩)
  exact T2 (Qw trivial)
 rcases q6 with q6|q6
 ·show Qk (KL q6) _;unfold KL;exact T3
 show Qk (KM) _;unfold KM;exact T3
def HV (O:(L_ ByteArray))(h:(Xg AS) O):Xl (Js O):=by
 unfold Js;refine T0 (Mh O (h)) (λx_1 hv2=>?_);exact T3
def QgD (O:Qj)(h:KH O):Xl (AJ O):=by
 unfold AJ;refine T0 (P:=λ_=>True) ?_ (λx_1 hv2=>?_)
 ·unfold Pm;refine T0 (FL O.Name (h.1)) (λx_3 hv4=>?_);refine T1 (λhc5=>?_) (λhc5=>?_)
  ·refine T1 (λhc6=>?_) (λhc6=>?_)
   ·exact T3
   refine T0 (HV O.Names (h.2.2.2.2.1)) (λx_7 hv8=>?_);exact T3
  exact T3
 unfold Pn;exact T3
def QjJ (v1:Qg)(v2:Int)(v3:Int)(v4:Qj)(v5:Int)(h:Xu v1)(O:KH v4)(hp0:0<=v2)(hp1:v2<v1.Colours.length):Xl (Ht v1 v2 v3 v4 v5):=by
 unfold Ht;refine T0 (QgC v1 v2 (h) (by omega) (by omega)) (λx_1 hv2=>?_);refine T1 (λhc3=>?_) (λhc3=>?_)
 ·exact T3
 refine T0 (QgD v4 (O)) (λx_4 hv5=>?_);refine T1 (λhc6=>?_) (λhc6=>?_)
 ·exact T3
 exact T3
def Qit (k1:Int)(c2:Qj)(v3:Qg)(h:KH c2)(O:Xu v3)(hp0:0<=k1)(hp1:k1<v3.Colours.length):Xl (CD k1 c2 v3):=by
 unfold CD;refine T0 (QjJ v3 k1 8 c2 8 (O) (h) (by omega) (by omega)) (λx_1 hv2=>?_);exact T3
def Qb1 (l1:(L_ Qj))(v2:Qg)(h:(Xg KH) l1)(h_v2:Xu v2)(hp0:l1.length<=v2.Colours.length):Xl (GF l1 v2):=by
 unfold GF;refine T0 (Qk.up (l1.length) (λst=>st) (λ_=>True) (Q:=λq=>True) rfl trivial (λi2 st O hn4 hj5=>?_)) (λq6 hq7=>?_)
 ·obtain⟨x_1,hst⟩:∃y,y=st:=⟨_,rfl⟩;subst hst;replace O:x_1=(i2:Int):=O;show Qk (Uh l1 v2 x_1) _;unfold Uh;refine T1 (λhc8=>?_) (λhc8=>?_)
  ·refine T0 (T4 (by omega) (by simp_all)) (λe_9 hv10=>?_);refine T0 (Qit x_1 e_9 v2 (((h).2 e_9 hv10)) (h_v2) (by omega) (by simp_all;omega)) (λx_11 hv12=>?_);refine T1 (λhc13=>?_) (λhc13=>?_)
   ·exact T2 (Qw trivial)
   exact T2 (QY ⟨(by simp_all),by subst O;exact QE (by simp_all) (h).1,trivial⟩)
  exact T2 (Qw trivial)
 rcases q6 with q6|q6
 ·show Qk (Ui q6.1 q6.2) _;unfold Ui;exact T3
 show Qk (Uj) _;unfold Uj;exact T3
def Qbt (n1:Qg)(h:Xu n1):Xl (BK n1):=by
 unfold BK;refine T0 (Qb1 n1.Colours n1 (h.1) (h) (by omega)) (λx_1 O=>?_);exact T3
def Qlk (O:Qp)(h:WN O):Xl (Lx O):=by
 unfold Lx;refine T0 (FL O.Name (h.1)) (λx_1 hv2=>?_);exact T3
def Qll (p1:Qp)(v2:Qp)(h:WN p1)(O:WN v2):Xl (Lz p1 v2):=by
 unfold Lz;exact T3
def CA (s1:(L_ Qp))(v2:Qp)(h:(Xg WN) s1)(h_v2:WN v2):Xl (Jd s1 v2):=by
 unfold Jd;refine T0 (Qk.up (s1.length) (λst=>st) (λ_=>True) (Q:=λq=>True) rfl trivial (λi2 st O hn4 hj5=>?_)) (λq6 hq7=>?_)
 ·obtain⟨x_1,hst⟩:∃y,y=st:=⟨_,rfl⟩;subst hst;replace O:x_1=(i2:Int):=O;show Qk (JG s1 v2 x_1) _;unfold JG;refine T1 (λhc8=>?_) (λhc8=>?_)
  ·refine T0 (T4 (by omega) (by simp_all)) (λe_9 hv10=>?_);refine T0 (Qll e_9 v2 (((h).2 e_9 hv10)) (h_v2)) (λx_11 hv12=>?_);refine T1 (λhc13=>?_) (λhc13=>?_)
   ·exact T2 (Qw trivial)
   exact T2 (QY ⟨(by simp_all),by subst O;exact QE (by simp_all) (h).1,trivial⟩)
  exact T2 (Qw trivial)
 rcases q6 with q6|q6
 ·show Qk (JH q6) _;unfold JH;exact T3
 show Qk (JI) _;unfold JI;exact T3
def CB (s1:(L_ Qp))(v2:Qp)(h:(Xg WN) s1)(O:WN v2):Xl (Je s1 v2):=by
 unfold Je;refine T0 (CA s1 v2 (h) (O)) (λx_1 hv2=>?_);exact T3
def Qlm (v1:Qg)(v2:Int)(v3:Qp)(h:Xu v1)(O:WN v3)(hp0:0<=v2)(hp1:v2<v1.Places.length):Xl (LA v1 v2 v3):=by
 unfold LA;refine T0 (T5 (by simp_all;omega)) (λ_ _=>?_);refine T0 (CB ((v1.Places.drop 0).take (v2.toNat-0)) v3 (((h.2.1).drop _).take _) (O)) (λx_1 hv2=>?_);exact T3
def IQ (O:(L_ Qj))(k2:Int)(h:(Xg KH) O):Xl (Wm O k2):=by
 unfold Wm;exact T3
def Qln (O:Qg)(v2:Qp)(h:Xu O)(h_v2:WN v2):Xl (LB O v2):=by
 unfold LB;refine T0 (IQ O.Colours v2.Colour (h.1)) (λx_1 hv2=>?_);exact T3
def Qrs (b1:QBg)(h_b1:(Xg (λ_=>True)) b1):Xl (WX b1):=by
 unfold WX;refine T0 (Qk.up (b1.length) (λst=>st.2) (λ_=>True) (Q:=λq=>True) rfl trivial (λi3 st O hn5 hj6=>?_)) (λq7 hq8=>?_)
 ·obtain⟨h,x_2⟩:=st;replace O:x_2=(i3:Int):=O;show Qk (KE b1 h x_2) _;unfold KE;refine T1 (λhc9=>?_) (λhc9=>?_)
  ·refine T0 (T4 (by omega) (by simp_all)) (λe_10 hv11=>?_);refine T1 (λhc12=>?_) (λhc12=>?_)
   ·exact T2 (Qw trivial)
   exact T2 (QY ⟨(by simp_all),by subst O;exact QE (by simp_all) (h_b1).1,trivial⟩)
  exact T2 (Qw trivial)
 rcases q7 with q7|q7
 ·show Qk (NI) _;unfold NI;exact T3
 show Qk (NJ) _;unfold NJ;exact T3
def Qlo (O:Qp)(h:WN O):Xl (LC O):=by
 unfold LC;refine T0 (Qrs O.First (h.2.2)) (λx_1 hv2=>?_);exact T3
def IR (l1:(L_ Qj))(k2:Int)(O:(Xg KH) l1):Qk (UT l1 k2) λr=>(True/\Qrr r.2)/\(r.1=t_->(0<=k2/\k2<r.2.sizes.length)/\r.2.k=k2/\r.2.all.length=r.2.sizes.length/\∀x∈r.2.sizes,1<=x/\x<=1024):=by
 unfold UT;refine T0 (Qdr l1 O) λx hx=>?_;refine T1 (λ_=>T2 ⟨⟨trivial,Xg.nil,Xg.nil,trivial⟩,λh=>by cases h⟩) λhc=>?_;simp only[DH,Hg,XA]at hc;have:=hx.2 hc.1;exact T2 ⟨⟨trivial,O,hx.1.1,trivial⟩,λ_=>⟨⟨by omega,by show k2<(x.1.length:Int);omega⟩,rfl,this.1.symm,this.2⟩⟩
def WT (l1:(L_ Qj))(k2:Int)(O:(Xg KH) l1):Qk (Jk l1 k2) λr=>0<=r/\r<=1024:=by
 unfold Jk;refine T0 (IR l1 k2 O) (λx hx=>?_);refine T1 (λhc=>T2 (by omega)) (λhc=>?_);have h:=hx.2 (by simpa using hc);exact T0 (T4 (by omega) (by omega)) λe he=>T2 (by have:=h.2.2.2 e he;omega)
def Qiu (h:(Int×Int))(O:Int)  : Xl (CE h O):=by
 unfold CE;exact T3
def Pe (s1:QBg)(v2:Int)(O:(Xg (λ_=>True)) s1):Xl (Kq s1 v2):=by
 unfold Kq;refine T0 (Qk.up (s1.length) (λst=>st) (λ_=>True) (Q:=λq=>True) rfl trivial (λi2 st h hn4 hj5=>?_)) (λq6 hq7=>?_)
 ·obtain⟨x_1,hst⟩:∃y,y=st:=⟨_,rfl⟩;subst hst;replace h:x_1=(i2:Int):=h;show Qk (WF s1 v2 x_1) _;unfold WF;refine T1 (λhc8=>?_) (λhc8=>?_)
  ·refine T0 (T4 (by omega) (by simp_all)) (λe_9 hv10=>?_);refine T0 (Qiu e_9 v2 ) (λx_11 hv12=>?_);refine T1 (λhc13=>?_) (λhc13=>?_)
   ·exact T2 (Qw trivial)
   exact T2 (QY ⟨(by simp_all),by subst h;exact QE (by simp_all) (O).1,trivial⟩)
  exact T2 (Qw trivial)
 rcases q6 with q6|q6
 ·show Qk (WG q6) _;unfold WG;exact T3
 show Qk (WH) _;unfold WH;exact T3
def Mi (O:QBg)(v2:Int)(h:(Xg (λ_=>True)) O):Xl (JO O v2):=by
 unfold JO;refine T0 (Pe O v2 (h)) (λx_1 hv2=>?_);exact T3
def Qlp (v1:Qg)(v2:Qp)(h:Xu v1)(O:WN v2):Xl (LD v1 v2):=by
 unfold LD;refine T0 (WT v1.Colours v2.Colour (h.1)) (λx_1 hv2=>?_);refine T0 (Mi v2.First x_1 (O.2.2)) (λx_3 hv4=>?_);exact T3
def QjK (v1:Qp)(v2:Int)(v3:Qg)(v4:Int)(v5:Int)(v6:Int)(v7:Int)(v8:Int)(h:WN v1)(O:Xu v3)(hp0:0<=v4)(hp1:v4<v3.Places.length):Xl (Hv v1 v2 v3 v4 v5 v6 v7 v8):=by
 unfold Hv;refine T0 (Qlk v1 (h)) (λx_1 hv2=>?_);refine T1 (λhc3=>?_) (λhc3=>?_)
 ·exact T3
 refine T0 (Qlm v3 v4 v1 (O) (h) (by omega) (by omega)) (λx_4 hv5=>?_);refine T1 (λhc6=>?_) (λhc6=>?_)
 ·exact T3
 refine T0 (Qln v3 v1 (O) (h)) (λx_7 hv8=>?_);refine T1 (λhc9=>?_) (λhc9=>?_)
 ·exact T3
 refine T0 (Qlo v1 (h)) (λx_10 hv11=>?_);refine T1 (λhc12=>?_) (λhc12=>?_)
 ·exact T3
 refine T0 (Qlp v3 v1 (O) (h)) (λx_13 hv14=>?_);refine T1 (λhc15=>?_) (λhc15=>?_)
 ·exact T3
 exact T3
def QoJ (n1:Qg)(k2:Int)(h:Xu n1):Xl (PY n1 k2):=by
 unfold PY;refine T0 (KW n1.Places k2 (h.2.1)) (λx_1 hv2=>?_);refine T1 (λhc3=>?_) (λhc3=>?_)
 ·exact T3
 refine T0 (T4 (by simp_all) (by simp_all)) (λO hv5=>?_);refine T0 (QjK O 1 n1 k2 5 3 1 8 (((h.2.1).2 O hv5)) (h) (by simp_all) (by simp_all)) (λx_6 hv7=>?_);exact T3
def QoK (k1:Int)(p2:Qp)(v3:Qg)(O:WN p2)(h:Xu v3):Xl (PZ k1 p2 v3):=by
 unfold PZ;refine T0 (QoJ v3 k1 (h)) (λx_1 hv2=>?_);exact T3
def Qds (l1:(L_ Qp))(v2:Qg)(h:(Xg WN) l1)(h_v2:Xu v2):Xl (Ef l1 v2):=by
 unfold Ef;refine T0 (Qk.up (l1.length) (λst=>st) (λ_=>True) (Q:=λq=>True) rfl trivial (λi2 st O hn4 hj5=>?_)) (λq6 hq7=>?_)
 ·obtain⟨x_1,hst⟩:∃y,y=st:=⟨_,rfl⟩;subst hst;replace O:x_1=(i2:Int):=O;show Qk (UC l1 v2 x_1) _;unfold UC;refine T1 (λhc8=>?_) (λhc8=>?_)
  ·refine T0 (T4 (by omega) (by simp_all)) (λe_9 hv10=>?_);refine T0 (QoK x_1 e_9 v2 (((h).2 e_9 hv10)) (h_v2)) (λx_11 hv12=>?_);refine T1 (λhc13=>?_) (λhc13=>?_)
   ·exact T2 (Qw trivial)
   exact T2 (QY ⟨(by simp_all),by subst O;exact QE (by simp_all) (h).1,trivial⟩)
  exact T2 (Qw trivial)
 rcases q6 with q6|q6
 ·show Qk (UD q6.1 q6.2) _;unfold UD;exact T3
 show Qk (UE) _;unfold UE;exact T3
def Nk (O:(L_ Qm))(h:Int)(h_l1:(Xg YM) O):Qk (JJ O h) λr=>r=t_->0<=h/\h<O.length:=by
 unfold JJ;exact T2 (by first|(intro hr;first|(cases hr;done)|omega|((try simp only[QL,WO,DH,AC,Hg,QT,XA,beq_iff_eq,bne_iff_ne,ne_eq,Zf,Qd3,YR,Hj,SB,Hh,Kd,DU,Sl,Sm,On]at *);omega))|((try simp only[QL,WO,DH,AC,Hg,QT,XA,beq_iff_eq,bne_iff_ne,ne_eq,Zf,Qd3,YR,Hj,SB,Hh,Kd,DU,Sl,Sm,On]at *);omega)|simp_all)
def QoL (v1:Int)(v2:Qg)(v3:Qm)(h:Xu v2)(O:YM v3):Xl (Ra v1 v2 v3):=by
 unfold Ra;exact T3
def QjL (v1:Int)(v2:Qg)(v3:Qm)(v4:Int)(h:Xu v2)(O:YM v3):Xl (Hw v1 v2 v3 v4):=by
 unfold Hw;exact T3
def QjM (v1:Int)(v2:Qg)(v3:Qm)(v4:Int)(h:Xu v2)(O:YM v3):Xl (Hx v1 v2 v3 v4):=by
 unfold Hx;exact T3
def QjN (v1:Int)(v2:Qg)(v3:Qm)(h:Xu v2)(O:YM v3):Xl (Hy v1 v2 v3):=by
 unfold Hy;exact T3
def QmM (O:Qm)(h:YM O):Xl (NM O):=by
 unfold NM;refine T0 (FL O.Name (h.1)) (λx_1 hv2=>?_);exact T3
def QmN (p1:Qm)(v2:Qm)(h:YM p1)(O:YM v2):Xl (NN p1 v2):=by
 unfold NN;exact T3
def FV (s1:(L_ Qm))(v2:Qm)(h:(Xg YM) s1)(h_v2:YM v2):Xl (Jl s1 v2):=by
 unfold Jl;refine T0 (Qk.up (s1.length) (λst=>st) (λ_=>True) (Q:=λq=>True) rfl trivial (λi2 st O hn4 hj5=>?_)) (λq6 hq7=>?_)
 ·obtain⟨x_1,hst⟩:∃y,y=st:=⟨_,rfl⟩;subst hst;replace O:x_1=(i2:Int):=O;show Qk (JY s1 v2 x_1) _;unfold JY;refine T1 (λhc8=>?_) (λhc8=>?_)
  ·refine T0 (T4 (by omega) (by simp_all)) (λe_9 hv10=>?_);refine T0 (QmN e_9 v2 (((h).2 e_9 hv10)) (h_v2)) (λx_11 hv12=>?_);refine T1 (λhc13=>?_) (λhc13=>?_)
   ·exact T2 (Qw trivial)
   exact T2 (QY ⟨(by simp_all),by subst O;exact QE (by simp_all) (h).1,trivial⟩)
  exact T2 (Qw trivial)
 rcases q6 with q6|q6
 ·show Qk (JZ q6) _;unfold JZ;exact T3
 show Qk (Ka) _;unfold Ka;exact T3
def FW (s1:(L_ Qm))(v2:Qm)(h:(Xg YM) s1)(O:YM v2):Xl (Jm s1 v2):=by
 unfold Jm;refine T0 (FV s1 v2 (h) (O)) (λx_1 hv2=>?_);exact T3
def QmO (v1:Qg)(v2:Int)(v3:Qm)(h:Xu v1)(O:YM v3)(hp0:0<=v2)(hp1:v2<v1.Tasks.length):Xl (NO v1 v2 v3):=by
 unfold NO;refine T0 (T5 (by simp_all;omega)) (λ_ _=>?_);refine T0 (FW ((v1.Tasks.drop 0).take (v2.toNat-0)) v3 (((h.2.2.1).drop _).take _) (O)) (λx_1 hv2=>?_);exact T3
def QmP (v1:Int)(O:Qm)(h:YM O):Xl (Fe v1 O):=by
 unfold Fe;exact T3
def QdX (O:XB)(h:GQ O):Xl (EO O):=by
 unfold EO;refine T0 (FL O.Name (h.1)) (λx_1 hv2=>?_);exact T3
def QdY (p1:XB)(v2:XB)(h:GQ p1)(O:GQ v2):Xl (EP p1 v2):=by
 unfold EP;exact T3
def Nl (s1:(L_ XB))(v2:XB)(h:(Xg GQ) s1)(h_v2:GQ v2):Xl (JV s1 v2):=by
 unfold JV;refine T0 (Qk.up (s1.length) (λst=>st) (λ_=>True) (Q:=λq=>True) rfl trivial (λi2 st O hn4 hj5=>?_)) (λq6 hq7=>?_)
 ·obtain⟨x_1,hst⟩:∃y,y=st:=⟨_,rfl⟩;subst hst;replace O:x_1=(i2:Int):=O;show Qk (KY s1 v2 x_1) _;unfold KY;refine T1 (λhc8=>?_) (λhc8=>?_)
  ·refine T0 (T4 (by omega) (by simp_all)) (λe_9 hv10=>?_);refine T0 (QdY e_9 v2 (((h).2 e_9 hv10)) (h_v2)) (λx_11 hv12=>?_);refine T1 (λhc13=>?_) (λhc13=>?_)
   ·exact T2 (Qw trivial)
   exact T2 (QY ⟨(by simp_all),by subst O;exact QE (by simp_all) (h).1,trivial⟩)
  exact T2 (Qw trivial)
 rcases q6 with q6|q6
 ·show Qk (KZ q6) _;unfold KZ;exact T3
 show Qk (Wa) _;unfold Wa;exact T3
def IS (s1:(L_ XB))(v2:XB)(h:(Xg GQ) s1)(O:GQ v2):Xl (Jz s1 v2):=by
 unfold Jz;refine T0 (Nl s1 v2 (h) (O)) (λx_1 hv2=>?_);exact T3
def QdZ (v1:(L_ XB))(v2:Int)(v3:XB)(h:(Xg GQ) v1)(O:GQ v3)(hp0:0<=v2)(hp1:v2<v1.length):Xl (EQ v1 v2 v3):=by
 unfold EQ;refine T0 (T5 (by simp_all;omega)) (λ_ _=>?_);refine T0 (IS ((v1.drop 0).take (v2.toNat-0)) v3 (((h).drop _).take _) (O)) (λx_1 hv2=>?_);exact T3
def Qd0 (O:Qg)(v2:XB)(h:Xu O)(h_v2:GQ v2):Xl (ER O v2):=by
 unfold ER;refine T0 (IQ O.Colours v2.Colour (h.1)) (λx_1 hv2=>?_);exact T3
def QjO (v1:XB)(v2:Int)(v3:(L_ XB))(v4:Int)(v5:Int)(v6:Qg)(v7:Int)(h:GQ v1)(O:(Xg GQ) v3)(h_v6:Xu v6)(hp0:0<=v4)(hp1:v4<v3.length):Xl (HA v1 v2 v3 v4 v5 v6 v7):=by
 unfold HA;refine T0 (QdX v1 (h)) (λx_1 hv2=>?_);refine T1 (λhc3=>?_) (λhc3=>?_)
 ·exact T3
 refine T0 (QdZ v3 v4 v1 (O) (h) (by omega) (by omega)) (λx_4 hv5=>?_);refine T1 (λhc6=>?_) (λhc6=>?_)
 ·exact T3
 refine T0 (Qd0 v6 v1 (h_v6) (h)) (λx_7 hv8=>?_);refine T1 (λhc9=>?_) (λhc9=>?_)
 ·exact T3
 exact T3
def QgE (k1:Int)(v2:XB)(v3:(L_ XB))(v4:Qg)(h:GQ v2)(O:(Xg GQ) v3)(h_v4:Xu v4)(hp0:0<=k1)(hp1:k1<v3.length):Xl (AM k1 v2 v3 v4):=by
 unfold AM;refine T0 (QjO v2 1 v3 k1 5 v4 3 (h) (O) (h_v4) (by omega) (by omega)) (λx_1 hv2=>?_);exact T3
def QfB (l1:(L_ XB))(v2:(L_ XB))(v3:Qg)(h:(Xg GQ) l1)(h_v2:(Xg GQ) v2)(h_v3:Xu v3)(hp0:l1.length<=v2.length):Xl (UF l1 v2 v3):=by
 unfold UF;refine T0 (Qk.up (l1.length) (λst=>st) (λ_=>True) (Q:=λq=>True) rfl trivial (λi2 st O hn4 hj5=>?_)) (λq6 hq7=>?_)
 ·obtain⟨x_1,hst⟩:∃y,y=st:=⟨_,rfl⟩;subst hst;replace O:x_1=(i2:Int):=O;show Qk (AZ l1 v2 v3 x_1) _;unfold AZ;refine T1 (λhc8=>?_) (λhc8=>?_)
  ·refine T0 (T4 (by omega) (by simp_all)) (λe_9 hv10=>?_);refine T0 (QgE x_1 e_9 v2 v3 (((h).2 e_9 hv10)) (h_v2) (h_v3) (by omega) (by simp_all;omega)) (λx_11 hv12=>?_);refine T1 (λhc13=>?_) (λhc13=>?_)
   ·exact T2 (Qw trivial)
   exact T2 (QY ⟨(by simp_all),by subst O;exact QE (by simp_all) (h).1,trivial⟩)
  exact T2 (Qw trivial)
 rcases q6 with q6|q6
 ·show Qk (Ba q6.1 q6.2) _;unfold Ba;exact T3
 show Qk (Bc) _;unfold Bc;exact T3
def Qiv (n1:Qg)(l2:(L_ XB))(O:Xu n1)(h:(Xg GQ) l2):Xl (CF n1 l2):=by
 unfold CF;refine T0 (QfB l2 l2 n1 (h) (h) (O) (by omega)) (λx_1 hv2=>?_);exact T3
def QmQ (v1:Qg)(v2:Qm)(h:Xu v1)(O:YM v2):Xl (NP v1 v2):=by
 unfold NP;refine T0 (Qiv v1 v2.Vars (h) (O.2.1)) (λx_1 hv2=>?_);exact T3
def Qlq (v1:Qg)(v2:Qm)(v3:Int)(h:Xu v1)(O:YM v2):Xl (BL v1 v2 v3):=by
 unfold BL;refine T0 (QmQ v1 v2 (h) (O)) (λx_1 hv2=>?_);exact T3
def QeM (n1:Qg)(k2:Int)(h:Xu n1):Xl (Dk n1 k2):=by
 unfold Dk;refine T0 (Nk n1.Tasks k2 (h.2.2.1)) (λx_1 hv2=>?_);refine T1 (λhc3=>?_) (λhc3=>?_)
 ·exact T3
 refine T0 (T4 (by simp_all) (by simp_all)) (λe_4 hv5=>?_);refine T0 (Qk.up (e_4.Vars.length) (λst=>st.2) (λ_=>True) (Q:=λq=>True) rfl trivial (λi8 st hi9 hn10 hj11=>?_)) (λO hq13=>?_)
 ·obtain⟨out_6,x_7⟩:=st;replace hi9:x_7=(i8:Int):=hi9;show Qk (Ah e_4 n1 out_6 x_7) _;unfold Ah;refine T1 (λhc14=>?_) (λhc14=>?_)
  ·refine T0 (T4 (by omega) (by simp_all)) (λe_15 hv16=>?_);refine T0 (WT n1.Colours e_15.Colour (h.1)) (λx_17 hv18=>?_);refine T1 (λhc19=>?_) (λhc19=>?_)
   ·exact T2 (Qw trivial)
   exact T2 (QY ⟨(by simp_all),by subst hi9;exact QE (by simp_all) (((h.2.2.1).2 e_4 hv5).2.1).1,trivial⟩)
  exact T2 (Qw trivial)
 rcases O with O|O
 ·show Qk (Rz) _;unfold Rz;exact T3
 show Qk (RA O) _;unfold RA;exact T3
def QmR (O:Qg)(v2:Int)(h:Xu O):Xl (Ff O v2):=by
 unfold Ff;refine T0 (QeM O v2 (h)) (λx_1 hv2=>?_);exact T3
def Qrt (h:Int):Qk (Zt h) λr=>0<=r->(h=1\/h=2\/h=3\/h=4\/h=5\/h=6)/\(h=3\/h=4->r=1)/\(h=5->r=2)/\(h=6->r=3):=by
 unfold Zt;refine T1 (λO=>?_) (λO=>?_)
 ·unfold Fh;rw[O];simp only[beq_iff_eq]at O;exact T2 (by omega)
 simp only[beq_eq_false_iff_ne]at O;unfold Fh;refine T1 (λO=>T2 (by simp only[beq_iff_eq]at O;omega)) (λhc2=>?_);simp only[beq_eq_false_iff_ne]at hc2;refine T1 (λhc3=>?_) (λhc3=>?_)
 ·unfold Fg;rw[hc3];simp only[beq_iff_eq]at hc3;exact T2 (by omega)
 simp only[beq_eq_false_iff_ne]at hc3;unfold Fg;refine T1 (λO=>T2 (by simp only[beq_iff_eq]at O;omega)) (λhc4=>?_);simp only[beq_eq_false_iff_ne]at hc4;refine T1 (λO=>T2 (by simp only[beq_iff_eq]at O;omega)) (λhc5=>?_);simp only[beq_eq_false_iff_ne]at hc5;exact T1 (λO=>T2 (by simp only[beq_iff_eq]at O;omega)) (λhc6=>T2 (by omega))
def Qqb (Yk:Int)  : Xl (SR Yk):=by
 unfold SR;exact T3
def Zb (rec_:Qo->Int->O_ Bool)(O:L_ Qo)(v2:Int)(h1:O.length<=maxLen)(h:∀k∈O,Qk (rec_ k v2) λr=>r=t_->POk v2 k):Qk (Jn rec_ O v2) λr=>r=f_->∀k∈O,POk v2 k:=by
 unfold Jn Wn;refine T0 (P:=λx=>x<0->∀k∈O,POk v2 k) ?_ λx hx=>T2 λh=>hx (by simp only[XA]at h;omega);refine T0 (Qk.up O.length (λst=>st) (λst=>∀(j:Nat) k,(j:Int)<st->O[j]? = C k->POk v2 k) (Q:=λq=>(∀x,q=.inl x->0<=x)/\(q=.inr ()->∀k∈O,POk v2 k)) rfl (λj k hj=>by omega) (λi st hi hn hj=>?_)) (λq hq=>?_)
 ·show Qk (Kv O rec_ v2 st) _;unfold Kv VA;refine T1 (λhc=>?_) (λhc=>T2 (Qw ⟨λx h=>(by cases h),λ_ k hk=>by
   obtain⟨j,hj1,hj2⟩:=Lr.1 hk;simp only[XA]at hc;exact hj j k (by omega) (by rw[QI hj1,hj2])⟩))
  simp only[QT]at hc;rw[Bw (by omega)];have hlt:st.toNat<O.length:=by omega
  rw[QI hlt];refine T0 (P:=λk=>k=O[st.toNat]) (T2 rfl) λk hk=>?_;subst hk;refine T0 (P:=λr=>r=f_->POk v2 O[st.toNat]) (T0 (h _ (Jc hlt)) λx hx=>T2 λh=>hx (by simpa using h)) λx hx=>?_;refine T1 (λ_=>T2 (Qw ⟨λx h=>(by cases h;omega),λh=>(by cases h)⟩)) λhxf=>T2 (QY ⟨by omega,by rw[hi];exact QE (by omega) h1,?_⟩);rw[hi,QE (show i<O.length by omega) h1];intro j k hj' hk;by_cases c:j=i
  ·subst c;have e:st.toNat=j:=by omega
   have:=hx hxf;rw[QI (by omega)]at hk;cases hk;simpa only[e] using this
  exact hj j k (by omega) hk
 rcases q with q|q
 ·exact T2 λh=>absurd (hq.1 q rfl) (by omega)
 exact T2 λ_=>hq.2 rfl
def Qdt : ∀(n:Nat) (e:Qo) (v:Int),DG e->SizeOf.sizeOf e<=n->Qk (GU n e v) λr=>r=t_->POk v e
 |0,e,_,_,h=>absurd e.pos (by omega)|n+1,e,v,he,h=>by
  unfold GU VB;refine T0 (Qrt e.Kind) λx hx=>?_;refine T1 (λ_=>T2 λh=>by cases h) λh1=>T1 (λ_=>T2 λh=>by cases h) λh2=>?_;refine T0 (P:=λ_=>True) ?_ λy _=>?_
  ·unfold Qem;exact T1 (λ_=>T0 (Qqb e.Num) λx _=>T3) λ_=>T3
  unfold Qen;refine T1 (λ_=>T2 λh=>by cases h) λ_=>?_;refine T0 (Zb (GU n) e.Kids v (EE he).1 λk O=>Qdt n k v ((EE he).2 k O) (by have:=QjI O;omega)) λx hx2=>T2 λhx3=>?_;simp only[WK]at h1;have h3:=hx (by omega);simp only[Bool.and_eq_false_iff,DH,XA,beq_eq_false_iff_ne]at h2;exact .mk e h3.1 (λO=>by omega) (λO=>by have:=h3.2.1 O;omega) (λO=>by have:=h3.2.2.1 O;omega) (λO=>by have:=h3.2.2.2 O;omega) (hx2 (by simpa using hx3))
def Qqc (e1:Qo)(h:Int)(O:DG e1):Qk (QcH e1 h) λr=>r=t_->POk h e1:=Qdt _ e1 h O (YK _)
def Qdu : ∀(n:Nat) (e:Qo),DG e->SizeOf.sizeOf e<=n->Qk (GT n e) λ_=>True
 |0,e,_,h=>absurd e.pos (by omega)|n+1,e,he,h=>by
  unfold GT Vy;refine T0 (Qk.up e.Kids.length (λst=>st.2) (λ_=>True) (Q:=λ_=>True) rfl trivial (λi st hi hn _=>?_)) (λq _=>?_)
  ·obtain⟨a,x⟩:=st;replace hi:x=(i:Int):=hi;show Qk (SQ e (GT n) a x) _;unfold SQ;refine T1 (λO=>?_) (λO=>?_)
   ·simp only[QT]at O;refine T0 (T4 (by omega) (by omega)) λk hk=>?_;have:=QjI hk;refine T0 (Qdu n k ((EE he).2 k hk) (by omega)) λd _=>?_;exact T2 (QY ⟨by omega,by subst hi;exact QE (by omega) (EE he).1,trivial⟩)
   exact T2 (Qw trivial)
  unfold Qel;exact T3
def Qqd (O:Qo)(h:DG O):Qk (QcF O) λ_=>True:=Qdu _ O h (YK _)
def QeN : ∀(n:Nat) (e:Qo),DG e->SizeOf.sizeOf e<=n->Qk (Uk n e) λ_=>True
 |0,e,_,h=>absurd e.pos (by omega)|n+1,e,he,h=>by
  unfold Uk QaR;refine T0 (Qk.up e.Kids.length (λst=>st.2) (λ_=>True) (Q:=λ_=>True) rfl trivial (λi st hi hn _=>?_)) (λq _=>?_)
  ·obtain⟨a,x⟩:=st;replace hi:x=(i:Int):=hi;show Qk (Vz e (Uk n) a x) _;unfold Vz;refine T1 (λO=>?_) (λO=>?_)
   ·simp only[QT]at O;refine T0 (T4 (by omega) (by omega)) λk hk=>?_;have:=QjI hk;refine T0 (QeN n k ((EE he).2 k hk) (by omega)) λd _=>?_;exact T2 (QY ⟨by omega,by subst hi;exact QE (by omega) (EE he).1,trivial⟩)
   exact T2 (Qw trivial)
  unfold QfT;exact T3
def Qru (O:Qo)(h:DG O):Qk (Qff O) λ_=>True:=QeN _ O h (YK _)
def Zc (e1:Qo)(O:Int)(h_e1:DG e1):Qk (Fj e1 O) λr=>r=t_->POk O e1:=by
 unfold Fj;refine T0 (P:=λr=>r=t_->POk O e1) ?_ (λx hx=>T2 hx);unfold Qeo;refine T0 (Qqd e1 h_e1) (λx _=>?_);refine T1 (λ_=>?_) (λ_=>T2 λh=>by cases h);refine T0 (Qru e1 h_e1) (λx _=>?_);refine T1 (λ_=>?_) (λ_=>T2 λh=>by cases h);exact T0 (Qqc e1 O h_e1) (λx hx=>T2 hx)
def QmS (v1:Qm)(v2:Int)(h:YM v1):Xl (NQ v1 v2):=by
 unfold NQ;refine T0 (P:=λ_=>True) ?_ (λx_1 hv2=>?_)
 ·unfold Qbi;refine T0 (Zc v1.Guard v2 (h.2.2.1)) (λx_3 hv4=>?_);refine T1 (λO=>?_) (λO=>?_)
  ·refine T1 (λhc6=>?_) (λhc6=>?_)
   ·exact T3
   exact T3
  exact T3
 unfold Qbj;exact T3
def QjP (O:Qg)(v2:Xf)(h:Xu O)(h_v2:Nj v2):Xl (HB O v2):=by
 unfold HB;refine T0 (KW O.Places v2.Place (h.2.1)) (λx_1 hv2=>?_);exact T3
def QjQ (O:Xf)(v2:Int)(h:Nj O):Xl (HC O v2):=by
 unfold HC;refine T0 (Zc O.Expr v2 (h.2)) (λx_1 hv2=>?_);exact T3
def QjR (v1:Qg)(v2:Xf)(v3:Int)(v4:Int)(v5:Int)(O:Xu v1)(h:Nj v2):Xl (HD v1 v2 v3 v4 v5):=by
 unfold HD;refine T0 (QjP v1 v2 (O) (h)) (λx_1 hv2=>?_);refine T1 (λhc3=>?_) (λhc3=>?_)
 ·exact T3
 refine T0 (QjQ v2 v4 (h)) (λx_4 hv5=>?_);refine T1 (λhc6=>?_) (λhc6=>?_)
 ·exact T3
 exact T3
def QmT (p1:Int)(a2:Xf)(v3:Qg)(v4:Int)(h:Nj a2)(O:Xu v3):Xl (NR p1 a2 v3 v4):=by
 unfold NR;refine T0 (QjR v3 a2 3 v4 1 (O) (h)) (λx_1 hv2=>?_);exact T3
def QfC (l1:(L_ Xf))(v2:Qg)(v3:Int)(h:(Xg Nj) l1)(h_v2:Xu v2):Xl (UG l1 v2 v3):=by
 unfold UG;refine T0 (Qk.up (l1.length) (λst=>st) (λ_=>True) (Q:=λq=>True) rfl trivial (λi2 st O hn4 hj5=>?_)) (λq6 hq7=>?_)
 ·obtain⟨x_1,hst⟩:∃y,y=st:=⟨_,rfl⟩;subst hst;replace O:x_1=(i2:Int):=O;show Qk (Be l1 v2 v3 x_1) _;unfold Be;refine T1 (λhc8=>?_) (λhc8=>?_)
  ·refine T0 (T4 (by omega) (by simp_all)) (λe_9 hv10=>?_);refine T0 (QmT x_1 e_9 v2 v3 (((h).2 e_9 hv10)) (h_v2)) (λx_11 hv12=>?_);refine T1 (λhc13=>?_) (λhc13=>?_)
   ·exact T2 (Qw trivial)
   exact T2 (QY ⟨(by simp_all),by subst O;exact QE (by simp_all) (h).1,trivial⟩)
  exact T2 (Qw trivial)
 rcases q6 with q6|q6
 ·show Qk (Bf q6.1 q6.2) _;unfold Bf;exact T3
 show Qk (Bg) _;unfold Bg;exact T3
def QgF (n1:Qg)(l2:(L_ Xf))(h:Int)(h_n1:Xu n1)(O:(Xg Nj) l2):Xl (ME n1 l2 h):=by
 unfold ME;refine T0 (QfC l2 n1 h (O) (h_n1)) (λx_1 hv2=>?_);exact T3
def QmU (v1:Qg)(v2:Qm)(v3:Int)(h:Xu v1)(O:YM v2):Xl (NS v1 v2 v3):=by
 unfold NS;refine T0 (QgF v1 v2.Ins v3 (h) (O.2.2.2.2.2.1)) (λx_1 hv2=>?_);exact T3
def QhC (v1:Qg)(v2:Qm)(v3:Int)(v4:Int)(h:Xu v1)(O:YM v2):Xl (BM v1 v2 v3 v4):=by
 unfold BM;refine T0 (QmU v1 v2 v3 (h) (O)) (λx_1 hv2=>?_);exact T3
def QmV (v1:Qg)(v2:Qm)(v3:Int)(h:Xu v1)(O:YM v2):Xl (NT v1 v2 v3):=by
 unfold NT;refine T0 (QgF v1 v2.Outs v3 (h) (O.2.2.2.2.2.2.1)) (λx_1 hv2=>?_);exact T3
def QhD (v1:Qg)(v2:Qm)(v3:Int)(v4:Int)(h:Xu v1)(O:YM v2):Xl (BN v1 v2 v3 v4):=by
 unfold BN;refine T0 (QmV v1 v2 v3 (h) (O)) (λx_1 hv2=>?_);exact T3
def QgG (O:Qg)(v2:Int)(h:Xu O):Xl (AN O v2):=by
 unfold AN;refine T0 (KW O.Places v2 (h.2.1)) (λx_1 hv2=>?_);exact T3
def Qdv (s1:LI_)(v2:Int)(O:(Xg (λ_=>True)) s1):Xl (WY s1 v2):=by
 unfold WY;refine T0 (Qk.up (s1.length) (λst=>st) (λ_=>True) (Q:=λq=>True) rfl trivial (λi2 st h hn4 hj5=>?_)) (λq6 hq7=>?_)
 ·obtain⟨x_1,hst⟩:∃y,y=st:=⟨_,rfl⟩;subst hst;replace h:x_1=(i2:Int):=h;show Qk (YE s1 v2 x_1) _;unfold YE;refine T1 (λhc8=>?_) (λhc8=>?_)
  ·refine T0 (T4 (by omega) (by simp_all)) (λe_9 hv10=>?_);refine T1 (λhc11=>?_) (λhc11=>?_)
   ·exact T2 (Qw trivial)
   exact T2 (QY ⟨(by simp_all),by subst h;exact QE (by simp_all) (O).1,trivial⟩)
  exact T2 (Qw trivial)
 rcases q6 with q6|q6
 ·show Qk (UH q6) _;unfold UH;exact T3
 show Qk (UI) _;unfold UI;exact T3
def Hf (O:LI_)(v2:Int)(h:(Xg (λ_=>True)) O):Xl (Yi O v2):=by
 unfold Yi;refine T0 (Qdv O v2 (h)) (λx_1 hv2=>?_);exact T3
def QgH (O:LI_)(v2:Int)(v3:Int)(h:(Xg (λ_=>True)) O)(hp0:0<=v2)(hp1:v2<O.length):Xl (AO O v2 v3):=by
 unfold AO;refine T0 (T5 (by simp_all;omega)) (λ_ _=>?_);refine T0 (Hf ((O.drop 0).take (v2.toNat-0)) v3 (((h).drop _).take _)) (λx_1 hv2=>?_);exact T3
def QjS (v1:Qg)(v2:Int)(v3:Int)(v4:LI_)(v5:Int)(v6:Int)(h:Xu v1)(O:(Xg (λ_=>True)) v4)(hp0:0<=v5)(hp1:v5<v4.length):Xl (HE v1 v2 v3 v4 v5 v6):=by
 unfold HE;refine T0 (QgG v1 v2 (h)) (λx_1 hv2=>?_);refine T1 (λhc3=>?_) (λhc3=>?_)
 ·exact T3
 refine T0 (QgH v4 v5 v2 (O) (by omega) (by omega)) (λx_4 hv5=>?_);refine T1 (λhc6=>?_) (λhc6=>?_)
 ·exact T3
 exact T3
def Qiw (k1:Int)(h:Int)(v3:Qg)(v4:LI_)(O:Xu v3)(h_v4:(Xg (λ_=>True)) v4)(hp0:0<=k1)(hp1:k1<v4.length):Xl (CG k1 h v3 v4):=by
 unfold CG;refine T0 (QjS v3 h 3 v4 k1 5 (O) (h_v4) (by omega) (by omega)) (λx_1 hv2=>?_);exact T3
def QjT (l1:LI_)(v2:Qg)(v3:LI_)(h_l1:(Xg (λ_=>True)) l1)(h_v2:Xu v2)(h_v3:(Xg (λ_=>True)) v3)(hp0:l1.length<=v3.length):Xl (HF l1 v2 v3):=by
 unfold HF;refine T0 (Qk.up (l1.length) (λst=>st) (λ_=>True) (Q:=λq=>True) rfl trivial (λi2 st h hn4 hj5=>?_)) (λq6 hq7=>?_)
 ·obtain⟨O,hst⟩:∃y,y=st:=⟨_,rfl⟩;subst hst;replace h:O=(i2:Int):=h;show Qk (Li l1 v2 v3 O) _;unfold Li;refine T1 (λhc8=>?_) (λhc8=>?_)
  ·refine T0 (T4 (by omega) (by simp_all)) (λe_9 hv10=>?_);refine T0 (Qiw O e_9 v2 v3 (h_v2) (h_v3) (by omega) (by simp_all;omega)) (λx_11 hv12=>?_);refine T1 (λhc13=>?_) (λhc13=>?_)
   ·exact T2 (Qw trivial)
   exact T2 (QY ⟨(by simp_all),by subst h;exact QE (by simp_all) (h_l1).1,trivial⟩)
  exact T2 (Qw trivial)
 rcases q6 with q6|q6
 ·show Qk (Lj q6.1 q6.2) _;unfold Lj;exact T3
 show Qk (Lk) _;unfold Lk;exact T3
def Qlr (n1:Qg)(l2:LI_)(O:Xu n1)(h:(Xg (λ_=>True)) l2):Xl (LF n1 l2):=by
 unfold LF;refine T0 (QjT l2 n1 l2 (h) (O) (h) (by omega)) (λx_1 hv2=>?_);exact T3
def Qls (v1:Qg)(v2:Qm)(h:Xu v1)(O:YM v2):Xl (LG v1 v2):=by
 unfold LG;refine T0 (Qlr v1 v2.Cancel (h) (O.2.2.2.2.2.2.2.1)) (λx_1 hv2=>?_);exact T3
def QhE (v1:Qg)(v2:Qm)(v3:Int)(h:Xu v1)(O:YM v2):Xl (BO v1 v2 v3):=by
 unfold BO;refine T0 (Qls v1 v2 (h) (O)) (λx_1 hv2=>?_);exact T3
def Qbu (k1:Int)(O:(L_ Xf))(h:(Xg Nj) O):Xl (BP k1 O):=by
 unfold BP;exact T3
def QoM (O:Qm)(h:YM O):Xl (Rb O):=by
 unfold Rb;refine T0 (P:=λ_=>True) ?_ (λx_1 hv2=>?_)
 ·unfold QcI;refine T0 (Qbu O.Join O.Ins (h.2.2.2.2.2.1)) (λx_3 hv4=>?_);refine T1 (λhc5=>?_) (λhc5=>?_)
  ·refine T0 (Qbu O.Split O.Outs (h.2.2.2.2.2.2.1)) (λx_6 hv7=>?_);refine T1 (λhc8=>?_) (λhc8=>?_)
   ·refine T1 (λhc9=>?_) (λhc9=>?_)
    ·refine T1 (λhc10=>?_) (λhc10=>?_)
     ·exact T3
     exact T3
    exact T3
   exact T3
  exact T3
 unfold QcJ;exact T3
def Qlt (O:Qm)(h:YM O):Xl (LH O):=by
 unfold LH;refine T0 (QoM O (h)) (λx_1 hv2=>?_);exact T3
def QjU (v1:Qm)(v2:Int)(v3:Qg)(v4:Int)(v5:Int)(v6:Int)(v7:Int)(v8:Int)(v9:Int)(v10:Int)(v11:Int)(v12:Int)(v13:Int)(v14:Int)(v15:Int)(h:YM v1)(O:Xu v3)(hp0:0<=v4)(hp1:v4<v3.Tasks.length):Xl (GW v1 v2 v3 v4 v5 v6 v7 v8 v9 v10 v11 v12 v13 v14 v15):=by
 unfold GW;refine T0 (QmM v1 (h)) (λx_1 hv2=>?_);refine T1 (λhc3=>?_) (λhc3=>?_)
 ·exact T3
 refine T0 (QmO v3 v4 v1 (O) (h) (by omega) (by omega)) (λx_4 hv5=>?_);refine T1 (λhc6=>?_) (λhc6=>?_)
 ·exact T3
 refine T0 (QmP v6 v1 (h)) (λx_7 hv8=>?_);refine T1 (λhc9=>?_) (λhc9=>?_)
 ·exact T3
 refine T0 (Qlq v3 v1 v8 (O) (h)) (λx_10 hv11=>?_);refine T1 (λhc12=>?_) (λhc12=>?_)
 ·exact T3
 refine T0 (QmR v3 v4 (O)) (λx_13 hv14=>?_);refine T1 (λhc15=>?_) (λhc15=>?_)
 ·exact T3
 refine T0 (QmS v1 v6 (h)) (λx_16 hv17=>?_);refine T1 (λhc18=>?_) (λhc18=>?_)
 ·exact T3
 refine T0 (QhC v3 v1 v6 x_10.2 (O) (h)) (λx_19 hv20=>?_);refine T1 (λhc21=>?_) (λhc21=>?_)
 ·exact T3
 refine T0 (QhD v3 v1 v6 x_19.2 (O) (h)) (λx_22 hv23=>?_);refine T1 (λhc24=>?_) (λhc24=>?_)
 ·exact T3
 refine T0 (QhE v3 v1 x_22.2 (O) (h)) (λx_25 hv26=>?_);refine T1 (λhc27=>?_) (λhc27=>?_)
 ·exact T3
 refine T0 (Qlt v1 (h)) (λx_28 hv29=>?_);refine T1 (λhc30=>?_) (λhc30=>?_)
 ·exact T3
 exact T3
def QgI (n1:Qg)(k2:Int)(h:Xu n1):Xl (Kw n1 k2):=by
 unfold Kw;refine T0 (Nk n1.Tasks k2 (h.2.2.1)) (λx_1 hv2=>?_);refine T1 (λhc3=>?_) (λhc3=>?_)
 ·exact T3
 refine T0 (Qbt n1 (h)) (λx_4 hv5=>?_);refine T1 (λhc6=>?_) (λhc6=>?_)
 ·exact T3
 refine T0 (T4 (by simp_all) (by simp_all)) (λO hv8=>?_);refine T0 (T4 (by simp_all) (by simp_all)) (λe_9 hv10=>?_);refine T0 (QoL 0 n1 O (h) (((h.2.2.1).2 O hv8))) (λx_11 hv12=>?_);refine T0 (QjL 0 n1 O (e_9.Vars.length:Int) (h) (((h.2.2.1).2 O hv8))) (λx_13 hv14=>?_);refine T0 (QjM 0 n1 O (e_9.Vars.length:Int) (h) (((h.2.2.1).2 O hv8))) (λx_15 hv16=>?_);refine T0 (QjN 0 n1 O (h) (((h.2.2.1).2 O hv8))) (λx_17 hv18=>?_);refine T0 (QjU O 1 n1 k2 5 (e_9.Vars.length:Int) 2 0 (-1) 2 1 (-1) (-1) (-1) 11 (((h.2.2.1).2 O hv8)) (h) (by simp_all) (by simp_all)) (λx_19 hv20=>?_);refine T1 (λhc21=>?_) (λhc21=>?_)
 ·exact T3
 exact T3
def QoN (k1:Int)(p2:Qm)(v3:Qg)(O:YM p2)(h:Xu v3):Xl (Iy k1 p2 v3):=by
 unfold Iy;refine T0 (QgI v3 k1 (h)) (λx_1 hv2=>?_);exact T3
def Qd1 (l1:(L_ Qm))(v2:Qg)(h:(Xg YM) l1)(h_v2:Xu v2):Xl (Wd l1 v2):=by
 unfold Wd;refine T0 (Qk.up (l1.length) (λst=>st) (λ_=>True) (Q:=λq=>True) rfl trivial (λi2 st O hn4 hj5=>?_)) (λq6 hq7=>?_)
 ·obtain⟨x_1,hst⟩:∃y,y=st:=⟨_,rfl⟩;subst hst;replace O:x_1=(i2:Int):=O;show Qk (Wo l1 v2 x_1) _;unfold Wo;refine T1 (λhc8=>?_) (λhc8=>?_)
  ·refine T0 (T4 (by omega) (by simp_all)) (λe_9 hv10=>?_);refine T0 (QoN x_1 e_9 v2 (((h).2 e_9 hv10)) (h_v2)) (λx_11 hv12=>?_);refine T1 (λhc13=>?_) (λhc13=>?_)
   ·exact T2 (Qw trivial)
   exact T2 (QY ⟨(by simp_all),by subst O;exact QE (by simp_all) (h).1,trivial⟩)
  exact T2 (Qw trivial)
 rcases q6 with q6|q6
 ·show Qk (Ai q6.1 q6.2) _;unfold Ai;exact T3
 show Qk (Aj) _;unfold Aj;exact T3
def Qrv (n1:Qg)(h:Xu n1):Xl (Eg n1):=by
 unfold Eg;refine T0 (QoE n1 2 3 1 (h)) (λx_1 hv2=>?_);refine T1 (λhc3=>?_) (λhc3=>?_)
 ·exact T3
 refine T0 (Qbt n1 (h)) (λx_4 hv5=>?_);refine T1 (λhc6=>?_) (λhc6=>?_)
 ·exact T3
 refine T0 (Qds n1.Places n1 (h.2.1) (h)) (λx_7 hv8=>?_);refine T1 (λhc9=>?_) (λhc9=>?_)
 ·exact T3
 refine T0 (Qd1 n1.Tasks n1 (h.2.2.1) (h)) (λx_10 hv11=>?_);refine T1 (λO=>?_) (λO=>?_)
 ·exact T3
 exact T3
def Qsz (O:Int)(b2:Int)  : Xl (QbM O b2):=by
 unfold QbM;refine T1 (λh=>?_) (λh=>?_)
 ·exact T3
 exact T3
def Qix (O:Int)(b2:Int)  : Xl (CH O b2):=by
 unfold CH;refine T1 (λh=>?_) (λh=>?_)
 ·exact T3
 exact T3
def Qh1 (O:Int)  : Xl (Pu O):=by
 unfold Pu;refine T1 (λh=>?_) (λh=>?_)
 ·exact T3
 exact T3
def Qiy (h:Int)(O:Int)  : Xl (CI h O):=by
 unfold CI;exact T3
def QmW (a1:Int)(b2:Int)  : Xl (Oc a1 b2):=by
 unfold Oc;refine T0 (Qh1 a1 ) (λx_1 hv2=>?_);refine T0 (Qh1 b2 ) (λx_3 hv4=>?_);refine T0 (Qiy x_1 x_3 ) (λx_5 hv6=>?_);refine T1 (λh=>?_) (λh=>?_)
 ·unfold Uq;refine T1 (λO=>?_) (λO=>?_)
  ·exact T3
  exact T3
 unfold Uq;refine T1 (λhc9=>?_) (λhc9=>?_)
 ·exact T3
 exact T3
def Qbv (a1:Int)(b2:Int)  : Xl (BT a1 b2):=by
 unfold BT;refine T1 (λh=>?_) (λh=>?_)
 ·exact T3
 refine T1 (λO=>?_) (λO=>?_)
 ·exact T3
 refine T0 (T5 (by simp_all)) (λ_ _=>?_);refine T0 (T5 (by simp_all)) (λ_ _=>?_);exact T3
def EF (O:Bool)  : Xl (Gi O):=by
 unfold Gi;refine T1 (λh=>?_) (λh=>?_)
 ·exact T3
 exact T3
def PK (Yk:Int)(O:Int)(h:Int)  : Xl (ML Yk O h):=by
 unfold ML;refine T1 (λhc1=>?_) (λhc1=>?_)
 ·refine T0 (Qsz O h ) (λx_2 hv3=>?_);exact T3
 refine T1 (λhc4=>?_) (λhc4=>?_)
 ·refine T0 (Qix O h ) (λx_5 hv6=>?_);exact T3
 refine T1 (λhc7=>?_) (λhc7=>?_)
 ·refine T0 (QmW O h ) (λx_8 hv9=>?_);exact T3
 refine T1 (λhc10=>?_) (λhc10=>?_)
 ·refine T0 (Qbv O h ) (λx_11 hv12=>?_);exact T3
 refine T1 (λhc13=>?_) (λhc13=>?_)
 ·refine T0 (Qbv O h ) (λx_14 hv15=>?_);exact T3
 refine T1 (λhc16=>?_) (λhc16=>?_)
 ·refine T0 (EF (O==h) ) (λx_17 hv18=>?_);exact T3
 refine T1 (λhc19=>?_) (λhc19=>?_)
 ·refine T0 (EF (O != h) ) (λx_20 hv21=>?_);exact T3
 refine T1 (λhc22=>?_) (λhc22=>?_)
 ·refine T0 (EF (decide (O<h)) ) (λx_23 hv24=>?_);exact T3
 refine T1 (λhc25=>?_) (λhc25=>?_)
 ·refine T0 (EF (decide (O<=h)) ) (λx_26 hv27=>?_);exact T3
 refine T1 (λhc28=>?_) (λhc28=>?_)
 ·refine T0 (P:=λ_=>True) ?_ (λv_29 hv30=>?_)
  ·unfold Qjl;refine T1 (λhc31=>?_) (λhc31=>?_)
   ·refine T0 (EF (h != 0) ) (λx_32 hv33=>?_);exact T3
   refine T0 (EF f_ ) (λx_34 hv35=>?_);exact T3
  unfold Qjm;exact T3
 refine T1 (λhc36=>?_) (λhc36=>?_)
 ·refine T0 (P:=λ_=>True) ?_ (λv_37 hv38=>?_)
  ·unfold Qjn;refine T1 (λhc39=>?_) (λhc39=>?_)
   ·refine T0 (EF t_ ) (λx_40 hv41=>?_);exact T3
   refine T0 (EF (h != 0) ) (λx_42 hv43=>?_);exact T3
  unfold Qjo;exact T3
 exact T3
def QjV (h:Int)  : Xl (QbN h):=by
 unfold QbN;refine T0 (PK 2 0 h ) (λx_1 O=>?_);exact T3
def Qdw (b:QBg)(h:b.length<=maxLen):WX b=C (FK (-1) b):=by
 unfold WX;have O:=QeJ (body:=λst=>KE b st.1 st.2) (l:=b) (ρ:=Unit⊕Unit) (λi (t:Int)=>(t,(i:Int)))
  (λi t x=>bif ((decide (x.1<=t))||((decide (x.2<1))||(decide (1048576<x.2))))then .inr (.inl ())else .inl x.1) (λ_=>.inr ())
  (λi t x hi hx=>by
   show KE b t i=_;unfold KE;rw[Yy (by omega:(i:Int)<b.length),Xi,Xe,hx,Qh];cases ((decide (x.1<=t))||((decide (x.2<1))||(decide (1048576<x.2))))with|true=>rfl|false=>simp only[Xn,Sum.elim_inl];rw[QE hi h])
  (λt=>by
   show KE b t b.length=_;unfold KE;rw[Kh (by omega)];rfl) (-1) (s0:=(-1,0)) rfl
 rw[O];have:∀(l:QBg) (k:Nat) (t:Int),CO (λi t (x:Int×Int)=>(bif ((decide (x.1<=t))||((decide (x.2<1))||(decide (1048576<x.2))))then .inr (.inl ())else .inl x.1:Int⊕(Unit⊕Unit))) (λ_=>.inr ()) k t l=bif FK t l then .inr ()else .inl ():=by
  intro l
  induction l with
  |nil=>intro k t;rfl|cons x l ih=>
   intro k t;rw[CO,FK];cases ((decide (x.1<=t))||((decide (x.2<1))||(decide (1048576<x.2))))with|true=>rfl|false=>simp only[Xn,Sum.elim_inl,Qbw,Bool.true_and];exact ih _ _
 rw[this];cases FK (-1) b<;>rfl
def QeO (b:QBg)(h:b.length<=maxLen):HH b=C (bif FK (-1) b then .inr b else .inl ()):=by
 unfold HH;rw[Qdw b h,Qh];cases hr:FK (-1) b with
 |false=>rfl|true=>
  simp only[DT,Xn,Xi];have ha:=(Ur.1 hr).1;obtain⟨r,h1,h2⟩:=FJ (body:=λst=>Eh b st.1 st.2) b.length (λi s=>s=((i:Int),b.take i)) (λr=>r=b)
   (λi s hi O=>by
    subst O;refine .inl ⟨(((i+1:Nat):Int),b.take (i+1)),?_,rfl⟩;show Eh b i (b.take i)=_;unfold Eh;rw[Yy (by omega:(i:Int)<b.length),Xi,Xe,QI hi,Qh,QE hi h];have e:b.take (i+1)=b.take i++[b[i]]:=by rw[Hl,QI hi];rfl
    rw[e,<-QwE (by have:=(ha.sublist (List.take_sublist (i+1) b));rw[e]at this;exact this)])
   (λs O=>by
    subst O;refine⟨_,?_,rfl⟩;show Eh b b.length (b.take b.length)=_;unfold Eh;rw[Kh (by omega),Hm];rfl) (0,[]) rfl
  rw[h1,h2];rfl
def QfD (a b:QBg)(O:a.length<=maxLen)(h:b.length<=maxLen):NV a b=C (bif FK (-1) a then(bif FK (-1) b then .inr (.inr (.inr (a,b)))else .inr (.inr (.inl a)))else(bif FK (-1) b then .inr (.inl b)else .inl ())):=by
 unfold NV;rw[QeO a O];cases FK (-1) a with
 |true=>
  simp only[Xi,Qh,Sum.elim_inr];unfold QhT;rw[QeO b h];cases FK (-1) b<;>rfl
 |false=>
  simp only[Xn,Qh,Sum.elim_inl];unfold QhS;rw[QeO b h];cases FK (-1) b<;>rfl
def Rl (m:QBg)(ha:Mb m)(h':m.length<=8796093022208):GX m=C (Nh m):=by
 have h:m.length<=maxLen:=by unfold maxLen;omega
 unfold GX Gh Cj;simp only[Yy (show m.length<=17592186044416 by omega),QbX rfl,Qh,Qvg ha];obtain⟨r,h1,h2⟩:=FJ (body:=λst=>WV (m.map Prod.fst) m st.1 st.2) m.length (λi s=>s=((i:Int),Nh (m.take i))) (λr=>r=Nh m)
  (λi s hi O=>by
   subst O;refine .inl ⟨(((i+1:Nat):Int),Nh (m.take (i+1))),?_,rfl⟩;show WV (m.map Prod.fst) m i (Nh (m.take i))=_;unfold WV;have e:m.take (i+1)=m.take i++[m[i]]:=by rw[Hl,QI hi];rfl
   have ec:(Qy m m[i].1).getD 0=m[i].2:=IY ha.nd (Jc hi);rw[Yy (by simp;omega),Xi,Xe,Ya,QI hi,Jh,Qh,ec];have hl:(Nh (m.take i)).length<=i:=Yx (Nq _ _) (by simp;omega);cases hc:decide (0<m[i].2)with
   |true=>
    simp only[Xi];rw[EX (by simp;omega),Qh];unfold GN;rw[QE hi h,e];unfold Nh;rw[Sy,Bz,if_pos hc];rfl
   |false=>
    simp only[Xn];unfold GN;rw[QE hi h,e];unfold Nh;rw[Sy,Bz,if_neg (by rw[hc];decide),List.filter_nil,Zg])
  (λs O=>by
   subst O;refine⟨_,?_,rfl⟩;show WV (m.map Prod.fst) m m.length (Nh (m.take m.length))=_;unfold WV;rw[Kh (by simp),Hm];rfl) (0,[]) rfl
 rw[h1,h2];rfl
def QsA (m:QBg):(Nh m).length<=m.length:=Nq _ _
def Nm (a b:QBg)(h:a.length+b.length<=8796093022208):(¬(Rt a/\Rt b)/\JS a b=C ([],1))\/(Rt a/\Rt b/\(∃k,1048576<Xd a k+Xd b k)/\JS a b=C ([],2))\/
  (Rt a/\Rt b/\∃r,JS a b=C (r,0)/\Rt r/\(∀k,Xd r k=Xd a k+Xd b k)/\r.length<=a.length+b.length):=by
 unfold JS;rw[QfD a b (by unfold maxLen;omega) (by unfold maxLen;omega),Qh];cases ra:FK (-1) a with
 |false=>exact .inl ⟨λhh=>(by rw[Ur.2 hh.1]at ra;cases ra),by cases FK (-1) b<;>rfl⟩
 |true=>
  cases rb:FK (-1) b with
  |false=>exact .inl ⟨λhh=>(by rw[Ur.2 hh.2]at rb;cases rb),rfl⟩
  |true=>
   have hra:=Ur.1 ra;have O:=Ur.1 rb;simp only[Xi,Sum.elim_inr];unfold Qjd;have hw:∀p∈b,Xd a p.1+p.2=Xd a p.1+Xd b p.1:=λp hp=>by rw[IY O.1.nd hp]
   rcases QoA (g:=λx v=>Qf (x+v)) (stop:=λx=>decide (1048576<x)) (q:=C ()) (body:=λst p=>Fo st p.1 p.2) (λs p=>by
     show Fo s p.1 p.2=_;unfold Fo;rw[Wx,if_pos rfl];unfold Xd;simp only[GG];cases decide (1048576<Qf ((Qy s p.1).getD 0+p.2))<;>rfl) hra.1 O.1.nd with⟨⟨p,h1,h2⟩,h3⟩|⟨h1,s',h3,h4,h5,h6⟩
   ·refine .inr (.inl ⟨hra,O,⟨p.1,?_⟩,?_⟩)
    ·have:=hra.cnt p.1;have:=O.cnt p.1;have h2:=QZ h2;rw[IY O.1.nd h1];rw[IY O.1.nd h1]at this;rwa[YH (by omega)]at h2
    simp only[h3 () rfl];rfl
   have hk:∀k,Xd s' k=Xd a k+Xd b k/\Xd s' k<=1048576:=λk=>by
    have ca:=hra.cnt k;have cb:=O.cnt k;have e:=h6 k;unfold Qkn at e;cases hm:Qy b k with
    |none=>
     rw[hm]at e;simp only at e;have:Xd b k=0:=by unfold Xd;rw[hm];rfl
     have e2:Xd s' k=Xd a k:=by unfold Xd;rw[e]
     omega
    |some v=>
     rw[hm]at e;simp only at e;have e1:Xd b k=v:=by unfold Xd;rw[hm];rfl
     have e2:Xd s' k=Qf (Xd a k+v):=by unfold Xd;rw[e];rfl
     have h7:=h1 (k,v) ((GB O.1.nd).1 hm);simp only[XA]at h7;rw[YH (by omega)]at e2 h7;omega
   refine .inr (.inr ⟨hra,O,Nh s',?_,Qvf h4 (λk hk0=>⟨?_,(hk k).2⟩),λk=>?_,Yx (QsA s') h5⟩)
   ·simp only[h3,Qh,Sum.elim_inl];unfold QcO;rw[Rl s' h4 (by omega)];rfl
   ·have:=(hk k).1;have ca:=hra.cnt k;have cb:=O.cnt k;by_cases c:0<Xd a k
    ·exact hra.cnt_pos c
    exact O.cnt_pos (by omega)
   rw[Qsy h4,(hk k).1];have ca:=hra.cnt k;have cb:=O.cnt k;split<;>omega
def Qdx (m h:QBg):GO m h=C (!(m.any λp=>decide (Xd h p.1<p.2))):=by
 unfold GO;rw[Qud (bad:=λp=>decide (Xd h p.1<p.2)) (q:=()) (λp=>by
  show Dd h p.1 p.2=_;unfold Dd Xd;cases decide ((Qy h p.1).getD 0<p.2)<;>rfl)]
 cases m.any λp=>decide (Xd h p.1<p.2)<;>rfl
def QoO {a b:QBg}(O:Rt a)(hb:Rt b):(a.any λp=>decide (Xd b p.1<p.2))=f_↔∀k,Xd a k<=Xd b k:=by
 rw[<-Zf,No];simp only[QT,not_exists,not_and];constructor
 ·intro h k;have cb:=hb.cnt k;cases e:Qy a k with
  |none=>
   have:Xd a k=0:=by unfold Xd;rw[e];rfl
   omega
  |some v=>
   have h1:=h _ ((GB O.1.nd).1 e);have:Xd a k=v:=by unfold Xd;rw[e];rfl
   simp only at h1;omega
 intro h p hp hlt;have:=h p.1;rw[IY O.1.nd hp]at this;omega
def QoP (a b:QBg)(ha:a.length<=maxLen)(hb:b.length<=maxLen):∃r,Th a b=C r/\(r=t_↔Rt a/\Rt b/\∀k,Xd a k<=Xd b k):=by
 unfold Th;rw[QfD a b ha hb,Qh];cases ra:FK (-1) a with
 |false=>exact⟨f_,by cases FK (-1) b<;>rfl,by simp;intro hh;rw[Ur.2 hh]at ra;cases ra⟩
 |true=>
  cases rb:FK (-1) b with
  |false=>exact⟨f_,rfl,by simp;intro _ hh;rw[Ur.2 hh]at rb;cases rb⟩
  |true=>
   have O:=Ur.1 ra;have hrb:=Ur.1 rb;refine⟨!(a.any λp=>decide (Xd b p.1<p.2)),?_,?_⟩
   ·simp only[Xi,Sum.elim_inr];unfold Qet;rw[Qdx];rfl
   rw[AC,QoO O hrb];exact⟨λh=>⟨O,hrb,h⟩,λh=>h.2.2⟩
def Qa8 (a b:QBg)(h:a.length+b.length<=8796093022208):(¬(Rt a/\Rt b)/\Kr a b=C ([],1))\/(Rt a/\Rt b/\(∃k,Xd a k<Xd b k)/\Kr a b=C ([],10))\/
  (Rt a/\Rt b/\(∀k,Xd b k<=Xd a k)/\∃r,Kr a b=C (r,0)/\Rt r/\(∀k,Xd r k=Xd a k-Xd b k)/\r.length<=a.length+b.length):=by
 unfold Kr;rw[QfD a b (by unfold maxLen;omega) (by unfold maxLen;omega),Qh];cases ra:FK (-1) a with
 |false=>exact .inl ⟨λhh=>(by rw[Ur.2 hh.1]at ra;cases ra),by cases FK (-1) b<;>rfl⟩
 |true=>
  cases rb:FK (-1) b with
  |false=>exact .inl ⟨λhh=>(by rw[Ur.2 hh.2]at rb;cases rb),rfl⟩
  |true=>
   have O:=Ur.1 ra;have hrb:=Ur.1 rb;simp only[Xi,Sum.elim_inr];unfold QhX;rw[Qdx,Qh];cases hw:b.any λp=>decide (Xd a p.1<p.2)with
   |true=>
    refine .inr (.inl ⟨O,hrb,?_,rfl⟩);obtain⟨p,h1,h2⟩:=No.1 hw;exact⟨p.1,by rw[IY hrb.1.nd h1];exact QZ h2⟩
   |false=>
    have hle:=(QoO hrb O).1 hw;simp only[Qbw,DT,Xn];rcases QoA (g:=λx v=>Qf (x-v)) (stop:=λ_=>f_) (q:=none) (body:=λst p=>Bq st p.1 p.2) (λs p=>by
      show Bq s p.1 p.2=_;unfold Bq Xd;rfl) O.1 hrb.1.nd with⟨⟨p,h1,h2⟩,h3⟩|⟨h1,s',h3,h4,h5,h6⟩
    ·cases h2
    have hk:∀k,Xd s' k=Xd a k-Xd b k:=λk=>by
     have ca:=O.cnt k;have cb:=hrb.cnt k;have e:=h6 k;unfold Qkn at e;cases hm:Qy b k with
     |none=>
      rw[hm]at e;simp only at e;have:Xd b k=0:=by unfold Xd;rw[hm];rfl
      have e2:Xd s' k=Xd a k:=by unfold Xd;rw[e]
      omega
     |some v=>
      rw[hm]at e;simp only at e;have e1:Xd b k=v:=by unfold Xd;rw[hm];rfl
      have e2:Xd s' k=Qf (Xd a k-v):=by unfold Xd;rw[e];rfl
      rw[YH (by omega)]at e2;omega
    refine .inr (.inr ⟨O,hrb,hle,Nh s',?_,Qvf h4 (λk hk0=>?_),λk=>?_,Yx (QsA s') h5⟩)
    ·simp only[h3,Qh,Sum.elim_inl];unfold QaY;rw[Rl s' h4 (by omega)];rfl
    ·have:=hk k;have ca:=O.cnt k;have cb:=hrb.cnt k;exact⟨O.cnt_pos (by omega),by omega⟩
    rw[Qsy h4,hk k];have:=hle k;split<;>omega
def QoQ (t:Int):VC [t]=C (bif decide (0<=t)then [(t,1)]else []):=by
 unfold VC;rw[Wi];show((Ck [t] 0 []).bind _).bind _=_;unfold Ck;rw[Yy (by simp),Xi,show idx [t] 0=C t from rfl,Qh];unfold Zu;rw[show Qf (0+1)=1 from by decide];cases h:decide (0<=t)with
 |false=>
  simp only[Xn,Qh,Sum.elim_inl];rw[Wi];show((Ck [t] 1 []).bind _).bind _=_;unfold Ck;rw[Kh (by simp)];simp only[Xn,Qh,Sum.elim_inr];unfold Qfk;rw[Rl [] List.Pairwise.nil (by simp)];rfl
 |true=>
  simp only[Xi,Qh,Sum.elim_inl];rw[Wi];show((Ck [t] 1 [(t,min2 (Qf (0+1)) 1048576)]).bind _).bind _=_;unfold Ck;rw[Kh (by simp)];simp only[Xn,Qh,Sum.elim_inr];unfold Qfk;rw[Rl _ (QgR _ _) (by simp[maxLen]),show min2 (Qf (0+1)) 1048576=1 from by decide];rfl
def Qtn : ∀(n:Nat) (e:Qo) (d:Int),DG e->SizeOf.sizeOf e<=n->Qk (Un n e d) λ_=>True
 |0,e,_,_,h=>absurd e.pos (by omega)|n+1,e,d,he,h=>by
  unfold Un Qa7;refine T1 (λ_=>T3) λ_=>?_;refine T0 (Qk.up e.Kids.length (λst=>st.2) (λ_=>True) (Q:=λ_=>True) rfl trivial (λi st hi hn _=>?_)) (λq _=>?_)
  ·obtain⟨a,x⟩:=st;replace hi:x=(i:Int):=hi;show Qk (VV e (Un n) d a x) _;unfold VV;refine T1 (λO=>?_) (λO=>T2 (Qw trivial));simp only[QT]at O;refine T0 (T4 (by omega) (by omega)) λk hk=>?_;have:=QjI hk;refine T0 (Qtn n k _ ((EE he).2 k hk) (by omega)) λy _=>?_;refine T1 (λ_=>T2 (Qw trivial)) λ_=>T1 (λ_=>T2 (Qw trivial)) λ_=>?_;exact T2 (QY ⟨by omega,by subst hi;exact QE (by omega) (EE he).1,trivial⟩)
  rcases q with q|q
  ·exact T3
  exact T3
def Qqe (e:Qo)(h:DG e):Qk (IX e) λ_=>True:=by
 unfold IX QfA;exact T0 (Qtn _ e 60 h (YK _)) λ_ _=>T3
def QxM (n1:Qg)(h:Xu n1)(q0:Int):Qk (TG n1 q0) λr=>r=t_->q0<=400:=by
 unfold TG;refine T0 (Qk.up n1.Tasks.length (λst=>st.2) (λ_=>True) (Q:=λ_=>True) rfl trivial (λi st hi hn _=>?_)) (λq _=>?_)
 ·obtain⟨a,x⟩:=st;replace hi:x=(i:Int):=hi;show Qk (TF n1 a x) _;unfold TF;refine T1 (λhc=>?_) (λ_=>T2 (Qw trivial));simp only[QT]at hc;refine T0 (T4 (by omega) (by omega)) λe he=>?_;have ke:=h.2.2.1.2 e he;refine T1 (λ_=>T2 (Qw trivial)) λ_=>?_;refine T0 (Qk.up e.Vars.length (λst=>st) (λ_=>True) (Q:=λ_=>True) rfl trivial (λi2 st O hn2 _=>?_)) (λq _=>?_)
  ·show Qk (Tz e st) _;unfold Tz;refine T1 (λhc=>?_) (λ_=>T2 (Qw trivial));simp only[QT]at hc;refine T0 (T4 (by omega) (by omega)) λs _=>?_;exact T1 (λ_=>T2 (Qw trivial)) λ_=>T2 (QY ⟨by omega,by rw[O];exact QE (by omega) ke.2.1.1,trivial⟩)
  rcases q with q|q
  ·exact T2 (Qw trivial)
  show Qk (TE e a x) _;unfold TE;refine T0 (Qqe e.Guard ke.2.2.1) λg _=>?_;refine T0 (Qk.up e.Ins.length (λst=>st.2) (λ_=>True) (Q:=λ_=>True) rfl trivial (λi2 st O hn2 _=>?_)) (λq _=>?_)
  ·obtain⟨b,y⟩:=st;replace O:y=(i2:Int):=O;show Qk (TA e b y) _;unfold TA;refine T1 (λhc=>?_) (λ_=>T2 (Qw trivial));simp only[QT]at hc;refine T0 (T4 (by omega) (by omega)) λs hs=>?_;refine T0 (Qqe s.Expr (ke.2.2.2.2.2.1.2 s hs).2) λg _=>?_;exact T2 (QY ⟨by omega,by subst O;exact QE (by omega) ke.2.2.2.2.2.1.1,trivial⟩)
  show Qk (TD e a x q) _;unfold TD;refine T0 (Qk.up e.Outs.length (λst=>st.2) (λ_=>True) (Q:=λ_=>True) rfl trivial (λi2 st O hn2 _=>?_)) (λq _=>?_)
  ·obtain⟨b,y⟩:=st;replace O:y=(i2:Int):=O;show Qk (TB e b y) _;unfold TB;refine T1 (λhc=>?_) (λ_=>T2 (Qw trivial));simp only[QT]at hc;refine T0 (T4 (by omega) (by omega)) λs hs=>?_;refine T0 (Qqe s.Expr (ke.2.2.2.2.2.2.1.2 s hs).2) λg _=>?_;exact T2 (QY ⟨by omega,by subst O;exact QE (by omega) ke.2.2.2.2.2.2.1.1,trivial⟩)
  show Qk (TC a e x q) _;unfold TC;exact T1 (λ_=>T2 (Qw trivial)) λ_=>T2 (QY ⟨by omega,by subst hi;exact QE (by omega) h.2.2.1.1,trivial⟩)
 rcases q with q|q
 ·exact T2 λh=>by cases h
 exact T2 λh=>by simpa using h
def QxN (n1:Qg)(h:Xu n1):Qk (Zy n1) λr=>r=t_->n1.Colours.length<=40/\n1.Places.length<=70/\n1.Tasks.length<=70:=by
 unfold Zy;refine T1 (λ_=>T2 λh=>by cases h) λO=>?_;simp only[DH,XA]at O;refine T6 (P:=λ_=>True) ?_ λ_ _ _=>by omega
 refine T0 (Qk.up n1.Colours.length (λst=>st.2) (λ_=>True) (Q:=λ_=>True) rfl trivial (λi st hi hn _=>?_)) (λq _=>?_)
 ·obtain⟨a,x⟩:=st;replace hi:x=(i:Int):=hi;show Qk (VY n1 a x) _;unfold VY;refine T1 (λO=>?_) (λ_=>T2 (Qw trivial));simp only[QT]at O;refine T0 (T4 (by omega) (by omega)).self λe he=>?_;obtain⟨he,hm⟩:=he;refine T0 (P:=λ_=>True) ?_ λy _=>?_
  ·unfold Qgz;rw[he,Qh];exact T1 (λ_=>T3) λ_=>T3
  unfold QgA;refine T1 (λ_=>T2 (Qw trivial)) λ_=>?_;refine T0 (Qk.up e.Names.length (λst=>st) (λ_=>True) (Q:=λ_=>True) rfl trivial (λi2 st hi2 hn2 _=>?_)) (λq _=>?_)
  ·show Qk (VX n1 x st) _;unfold VX;simp only[he,Qh];refine T1 (λO=>?_) (λ_=>T2 (Qw trivial));simp only[QT]at O;refine T0 (T4 (by omega) (by omega)) λs _=>?_;refine T1 (λ_=>T2 (Qw trivial)) λ_=>?_;exact T2 (QY ⟨by omega,by rw[hi2];exact QE (by omega) (h.1.2 e hm).2.2.2.2.1.1,trivial⟩)
  rcases q with q|q
  ·exact T2 (Qw trivial)
  exact T2 (QY ⟨by omega,by subst hi;exact QE (by omega) h.1.1,trivial⟩)
 rcases q with q|q
 ·exact T3
 show Qk (TH n1 q) _;unfold TH;refine T0 (Qk.up n1.Places.length (λst=>st.2) (λ_=>True) (Q:=λ_=>True) rfl trivial (λi st hi hn _=>?_)) (λq _=>?_)
 ·obtain⟨a,x⟩:=st;replace hi:x=(i:Int):=hi;show Qk (VZ n1 a x) _;unfold VZ;refine T1 (λO=>?_) (λ_=>T2 (Qw trivial));simp only[QT]at O;refine T0 (T4 (by omega) (by omega)) λe _=>?_;refine T0 (T4 (by omega) (by omega)) λe2 _=>?_;exact T1 (λ_=>T2 (Qw trivial)) λ_=>T2 (QY ⟨by omega,by subst hi;exact QE (by omega) h.2.1.1,trivial⟩)
 rcases q with q|q
 ·exact T3
 exact(QxM n1 h q).mono λ_ _=>trivial
def QxO (m:L_ QBg)(h:m.length<=maxLen):Qk (Zz m) λ_=>True:=by
 unfold Zz;refine T0 (Qk.up m.length (λst=>st.2) (λ_=>True) (Q:=λ_=>True) rfl trivial (λi st hi hn _=>?_)) (λq _=>T3);obtain⟨a,x⟩:=st;replace hi:x=(i:Int):=hi;show Qk (Za m a x) _;unfold Za;refine T1 (λO=>?_) (λ_=>T2 (Qw trivial));simp only[QL,QT]at O;refine T0 (T4 (by omega) (by omega)) λe _=>?_;exact T2 (QY ⟨by omega,by subst hi;exact QE (by omega) h,trivial⟩)
def Qto {l:QBg}(h:Mb l):∀{a:Int},(∀p∈l,a<=p.1)->∀(i:Nat) (hi:i<l.length),a+i<=(l[i]).1:=by
 induction l with
 |nil=>intro a _ i hi;simp at hi|cons p l ih=>
  intro a O i hi;obtain⟨h1,h2⟩:=AB.1 h;cases i with
  |zero=>have:=O p Yd;simpa using this|succ i=>
   have h3:=ih h2 (a:=a+1) (λq hq=>by have:=h1 q hq;have:=O p Yd;omega) i (by simpa using hi);simp only[List.getElem_cons_succ];omega
def QwK {l:QBg}(h:Mb l)(h0:0<l.length){k:Int}(hk:0<Xd l k):k<=(l[l.length-1]).1:=by
 unfold Xd at hk;cases e:Qy l k with
 |none=>rw[e]at hk;simp at hk|some v=>
  obtain⟨j,hj,O⟩:=Lr.1 ((GB h.nd).1 e);by_cases c:j=l.length-1
  ·subst c;rw[O];exact Int.le_refl _
  have:=List.pairwise_iff_getElem.1 h j (l.length-1) hj (by omega) (by omega);rw[O]at this;simp only at this;omega
def KA (n:Qg)(c:Nat)(m:L_ QBg):Prop:=m.length=n.Places.length/\∀b∈m,Rt b/\b.length<=c
def KA.mono {O:Nat}(h:KA n c m)(hc:c<=O):KA n O m:=⟨h.1,λb hb=>⟨(h.2 b hb).1,Yx (h.2 b hb).2 hc⟩⟩
def Mc (n:Qg)(m:L_ QBg):Prop:=∀(j:Nat) b p,m[j]? = C b->n.Places[j]? = C p->∀k,0<Xd b k->∃z,Jk n.Colours p.Colour=C z/\k<z
def QsB (n1:Qg)(m:L_ QBg)(h:Xu n1)(hm:Xg (Xg λ_=>True) m):Qk (MW n1 m) λr=>r=t_->KA n1 1024 m/\Mc n1 m:=by
 unfold MW;refine T1 (λ_=>T2 λh=>by cases h) λhc=>?_;have hl:m.length=n1.Places.length:=by simp only[WK]at hc;omega
 refine T0 (Qk.up m.length (λst=>st) (λst=>∀(j:Nat) (hj:j<m.length),(j:Int)<st->(Rt m[j]/\(m[j]).length<=1024)/\∀p,n1.Places[j]? = C p->∀k,0<Xd m[j] k->∃z,Jk n1.Colours p.Colour=C z/\k<z) (Q:=λq=>q=.inr ()->(∀b∈m,Rt b/\b.length<=1024)/\Mc n1 m) rfl (λj _ hj=>by omega) (λi st hi hn hJ=>?_)) (λq hq=>?_)
 ·show Qk (Tn m n1 st) _;unfold Tn;refine T1 (λhc=>?_) (λhc=>T2 (Qw λ_=>⟨λb hb=>by
   obtain⟨j,hj,rfl⟩:=Lr.1 hb;simp only[XA]at hc;exact(hJ j hj (by omega)).1,λj b p hb hp=>by
   obtain⟨hj,rfl⟩:=QX.1 hb;simp only[XA]at hc;exact(hJ j hj (by omega)).2 p hp⟩))
  simp only[QT]at hc;have O:i<m.length:=by omega
  have hlp:i<n1.Places.length:=by omega
  rw[hi,Xe,QI O,Qh,Xe,QI hlp,Qh];refine T0 (WT n1.Colours (n1.Places[i]).Colour h.1).self λsz hsz=>?_;obtain⟨hze,hsz⟩:=hsz;have hb:=hm.2 _ (Jc O);have hbl:=hb.1;refine T0 (P:=λr=>r=f_->(Rt m[i]/\(m[i]).length<=1024)/\∀k,0<Xd m[i] k->k<sz) ?_ λx hx=>?_
  ·unfold Qex;rw[Qdw _ hb.1,Qh];refine T1 (λ_=>T2 λh=>by cases h) λhr=>?_;have hrt:=Ur.1 (by simpa using hr:FK (-1) m[i]=t_);refine T1 (λh0=>?_) (λh0=>T2 λ_=>⟨⟨hrt,by simp only[XA]at h0;omega⟩,λk hk=>by
    simp only[XA]at h0;rw[show m[i]=[]from Np.1 (by omega)]at hk;simp[Xd,Qy]at hk⟩)
   simp only[QT]at h0;unfold maxLen at hbl;rw[YH (by omega),show((m[i]).length:Int)-1=(((m[i]).length-1:Nat):Int) by omega,Xe,QI (by omega),Qh];refine T2 λhf=>?_;simp only[XA]at hf;have:=Qto hrt.1 (a:=0) (λp hp=>(hrt.2 p hp).1) ((m[i]).length-1) (by omega);refine⟨⟨hrt,by omega⟩,λk hk=>?_⟩;have:=QwK hrt.1 (by omega) hk;omega
  unfold Qey;refine T1 (λ_=>T2 (Qw λh=>by cases h)) λhxf=>?_;refine T2 (QY ⟨O,QE O hm.1,λj hj hjs=>?_⟩);rw[QE O hm.1]at hjs;by_cases c:j=i
  ·subst c;refine⟨(hx hxf).1,λp hp k hk=>⟨sz,?_,(hx hxf).2 k hk⟩⟩;rw[QI hlp]at hp;cases hp;exact hze
  exact hJ j hj (by omega)
 rcases q with q|q
 ·exact T2 λh=>by cases h
 exact T2 λ_=>⟨⟨hl,(hq rfl).1⟩,(hq rfl).2⟩
structure XE (n:Qg):Prop where
 k:Xu n
 pl:n.Places.length<=70
 tl:n.Tasks.length<=12
 tk:∀t∈n.Tasks,t.Vars.length<=16/\t.Ins.length<=16/\t.Outs.length<=16/\t.Cancel.length<=16
def Qvj (n1:Qg)(k2:Int)(h:Kw n1 k2=C 0):∃t,idx n1.Tasks k2=C t/\t.Vars.length<=16/\t.Ins.length<=16/\t.Outs.length<=16/\t.Cancel.length<=16:=by
 unfold Kw at h;obtain⟨x5,_,h⟩:=XO h;rcases KI h with⟨_,h⟩|⟨_,h⟩
 ·cases h
 obtain⟨x7,_,h⟩:=XO h;rcases KI h with⟨c,h⟩|⟨_,h⟩
 ·simp only[Option.some.injEq]at h;rw[h]at c;cases c
 obtain⟨e9,he9,h⟩:=XO h;obtain⟨e10,he10,h⟩:=XO h;rw[he9]at he10;cases he10;obtain⟨_,_,h⟩:=XO h;obtain⟨_,_,h⟩:=XO h;obtain⟨_,_,h⟩:=XO h;obtain⟨_,_,h⟩:=XO h;obtain⟨x15,O,h⟩:=XO h;have bad:∀a b:Int,0<a->x15=(a,b)->False:=λa b ha e=>by
  subst e;simp only at h;rcases KI h with⟨c,h⟩|⟨_,h⟩
  ·simp only[beq_iff_eq]at c;omega
  simp only[Option.some.injEq]at h;omega
 unfold GW at O;obtain⟨x20,_,O⟩:=XO O;rcases KI O with⟨_,O⟩|⟨_,O⟩
 ·exact(bad _ _ (by decide) (Option.some.inj O).symm).elim
 obtain⟨x22,_,O⟩:=XO O;rcases KI O with⟨_,O⟩|⟨_,O⟩
 ·exact(bad _ _ (by decide) (Option.some.inj O).symm).elim
 obtain⟨x24,h24,O⟩:=XO O;rcases KI O with⟨_,O⟩|⟨c,O⟩
 ·exact(bad _ _ (by decide) (Option.some.inj O).symm).elim
 unfold Fe at h24;simp only[Option.some.injEq]at h24;rw[<-h24]at c;simp only[Hg,QL,QT,On]at c;exact⟨e9,he9,by omega,by omega,by omega,by omega⟩
def QlP (l1:L_ Qm)(n1:Qg)(h:Xu n1)(hl:Xg YM l1):Qk (Wd l1 n1) λr=>r.2=0->∀(j:Nat),j<l1.length->Kw n1 j=C 0:=by
 unfold Wd;refine T0 (Qk.up l1.length (λst=>st) (λst=>∀(j:Nat),(j:Int)<st->Kw n1 j=C 0) (Q:=λq=>(∀a b,q=.inl (a,b)->b≠0)/\(q=.inr ()->∀(j:Nat),j<l1.length->Kw n1 j=C 0)) rfl (λj hj=>by omega) (λi st hi hn hJ=>?_)) (λq hq=>?_)
 ·show Qk (Wo l1 n1 st) _;unfold Wo;refine T1 (λO=>?_) (λO=>T2 (Qw ⟨λa b h=>(by cases h),λ_ j hj=>by
   simp only[XA]at O;exact hJ j (by omega)⟩))
  simp only[QT]at O;refine T0 (T4 (by omega) (by omega)) λe he=>?_;refine T0 (P:=λx=>Kw n1 st=C x) ?_ λx hx=>?_
  ·unfold Iy;exact T0 (QgI n1 st h).self λx hx=>T2 hx.1
  refine T1 (λO=>T2 (Qw ⟨λa b h=>(by cases h;simpa using O),λh=>(by cases h)⟩)) λO=>?_;simp only[WK]at O;refine T2 (QY ⟨by omega,by rw[hi];exact QE (by omega) hl.1,λj hj=>?_⟩);rw[hi,QE (show i<l1.length by omega) hl.1]at hj;by_cases c:j=i
  ·subst c;rw[<-hi,hx,O]
  exact hJ j (by omega)
 rcases q with q|q
 ·exact T2 λh=>absurd h (hq.1 q.1 q.2 rfl)
 exact T2 λ_=>hq.2 rfl
def Qvk (n1:Qg)(h:Xu n1){p:Zs}(O:Eg n1=C (0,p)):∀t∈n1.Tasks,t.Vars.length<=16/\t.Ins.length<=16/\t.Outs.length<=16/\t.Cancel.length<=16:=by
 unfold Eg at O;obtain⟨x6,_,O⟩:=XO O;rcases KI O with⟨c,O⟩|⟨_,O⟩
 ·simp only[Option.some.injEq,Prod.mk.injEq]at O;rw[O.1]at c;cases c
 obtain⟨x8,_,O⟩:=XO O;rcases KI O with⟨c,O⟩|⟨_,O⟩
 ·simp only[Option.some.injEq,Prod.mk.injEq]at O;rw[O.1]at c;cases c
 obtain⟨x10,_,O⟩:=XO O;rcases KI O with⟨c,O⟩|⟨_,O⟩
 ·simp only[Option.some.injEq,Prod.mk.injEq]at O;rw[O.1]at c;cases c
 obtain⟨x12,h12,O⟩:=XO O;rcases KI O with⟨c,O⟩|⟨c,O⟩
 ·simp only[Option.some.injEq,Prod.mk.injEq]at O;rw[O.1]at c;cases c
 simp only[WK]at c;obtain⟨r,hr,hr2⟩:=QlP n1.Tasks n1 h h.2.2.1;rw[h12]at hr;cases hr;intro t ht;obtain⟨j,hj,rfl⟩:=Lr.1 ht;obtain⟨t,h1,h2⟩:=Qvj n1 j (hr2 c j hj);rw[Xe,QI hj]at h1;cases h1;exact h2
def Qze (n1:Qg)(m:L_ QBg)(h:Xu n1)(hm:Xg (Xg λ_=>True) m):Qk (FG n1 m) λr=>r=t_->XE n1/\KA n1 1024 m/\Mc n1 m:=by
 unfold FG;refine T0 (QxN n1 h) λx5 h5=>?_;refine T0 (QxO m hm.1) λx6 _=>?_;refine T1 (λ_=>T2 λh=>by cases h) λhc=>?_;simp only[DH,Hg,XA]at hc;have h5:=h5 hc.1;refine T0 (Qrv n1 h).self λx11 h11=>?_;refine T0 (P:=λr=>r=f_->XE n1/\KA n1 1024 m/\Mc n1 m) ?_ λx12 h12=>?_
 ·unfold TI;refine T1 (λ_=>T2 λh=>by cases h) λO=>?_;simp only[WK]at O;refine T0 (QsB n1 m h hm) λr hr=>T2 λhrf=>⟨⟨h,h5.2.1,by omega,?_⟩,hr (by simpa using hrf)⟩;obtain⟨a,b⟩:=x11;simp only at O;subst O;exact Qvk n1 h h11.1
 unfold TK;refine T1 (λ_=>T2 λh=>by cases h) λhx=>?_;have hfin:=h12 hx;refine T6 (P:=λ_=>True) ?_ λ_ _ _=>hfin;refine T0 (Qk.up n1.Tasks.length (λst=>st.2) (λ_=>True) (Q:=λ_=>True) rfl trivial (λi st hi hn _=>?_)) (λq _=>T3);obtain⟨a,x⟩:=st;replace hi:x=(i:Int):=hi;show Qk (TJ n1 a x) _;unfold TJ;refine T1 (λhc=>?_) (λ_=>T2 (Qw trivial));simp only[QT]at hc;refine T0 (T4 (by omega) (by omega)) λe _=>?_;refine T0 (QeM n1 x h) λy _=>?_;exact T2 (QY ⟨by omega,by subst hi;exact QE (by omega) h.2.2.1.1,trivial⟩)
def QqJ (s:Ke)(m:Int)(h:0<=s.k/\s.k<s.sizes.length):Qk (Dq s m) λr=>r=t_->0<=m:=by
 unfold Dq;refine T0 (P:=λr=>r=t_->0<=m) ?_ λx hx=>T2 hx;unfold AP;refine T1 (λO=>?_) λ_=>T2 λh=>by cases h
 exact T0 (T4 h.1 h.2) λ_ _=>T2 λ_=>by simpa using O
def FN (s:Ke)(h:0<=s.k/\s.k<s.all.length):Qk (WW s) λ_=>True:=by
 unfold WW;exact T0 (T4 h.1 h.2) λ_ _=>T3
def QwL (l:L_ Qj)(k m:Int)(hl:Xg KH l):Qk (ET l k m) λ_=>True:=by
 unfold ET;refine T0 (IR l k hl) λx hx=>?_;refine T0 (P:=λr=>r=f_->x.1=t_) ?_ λr hr=>?_
 ·unfold MJ;refine T1 (λ_=>T2 λh=>by cases h) λO=>?_;have O:x.1=t_:=by simpa using O
  have h:=hx.2 O;exact T0 (QqJ x.2 m (by omega)) λ_ _=>T2 λ_=>O
 unfold MK;refine T1 (λ_=>T3) λO=>?_;have h:=hx.2 (hr O);refine T0 (FN x.2 (by omega)) λ_ _=>?_;refine T1 (λ_=>?_) λ_=>T3;exact T0 (FN x.2 (by omega)) λ_ _=>T3
def QwM (l:L_ Qj)(k n:Int)(hl:Xg KH l):Qk (EU l k n) λr=>r.2=t_->0<=r.1:=by
 unfold EU;refine T0 (IR l k hl) λx hx=>?_;refine T1 (λ_=>T2 λh=>by cases h) λO=>?_;have h:=hx.2 (by simpa using O);have k1:∀m,Qk (Wq x m) λr=>r.2=t_->0<=r.1:=λm=>by
  unfold Wq;refine T0 (QqJ x.2 m (by omega)) λy hy=>?_;exact T1 (λ_=>T2 λh=>by cases h) λO=>T2 λ_=>hy (by simpa using O)
 refine T0 (FN x.2 (by omega)) λ_ _=>?_;refine T1 (λ_=>?_) λ_=>k1 _;exact T1 (λ_=>T2 λh=>by cases h) λ_=>k1 _
def Qvl (l:L_ Qj)(k n:Int)(hl:Xg KH l):Qk (EU l k n) λr=>r.2=t_->∃z,Jk l k=C z/\r.1<z:=by
 unfold EU Jk;refine T0 (IR l k hl).self λx hx=>?_;obtain⟨hxe,hx⟩:=hx;refine T1 (λ_=>T2 λh=>by cases h) λhc=>?_;have h:=hx.2 (by simpa using hc);have hk:k.toNat<x.2.sizes.length:=by omega
 have ei:idx x.2.sizes k=C x.2.sizes[k.toNat]:=QjH h.1.1 h.1.2;have k1:∀m,Qk (Wq x m) λr=>r.2=t_->∃z,((UT l k).bind λx5=>bif (!x5.1)then C 0 else(idx x5.2.sizes k).bind λe7=>C e7)=C z/\r.1<z:=λm=>by
  unfold Wq;refine T0 (P:=λy=>y=t_->m<x.2.sizes[k.toNat]) ?_ λy hy=>?_
  ·unfold Dq;refine T0 (P:=λy=>y=t_->m<x.2.sizes[k.toNat]) ?_ λy hy=>T2 hy;unfold AP;refine T1 (λ_=>?_) λ_=>T2 λh=>by cases h
   rw[h.2.1,ei,Qh];exact T2 λh=>by simpa using h
  refine T1 (λ_=>T2 λh=>by cases h) λO=>T2 λ_=>⟨x.2.sizes[k.toNat],?_,hy (by simpa using O)⟩;rw[hxe,Qh,hc,Xn,ei];rfl
 refine T0 (FN x.2 (by omega)) λ_ _=>?_;refine T1 (λ_=>?_) λ_=>k1 _;exact T1 (λ_=>T2 λh=>by cases h) λ_=>k1 _
def Bx {α:Type}{o:O_ α}{P:α->Prop}(h:Qk o P){r:α}(e:o=C r):P r:=by
 obtain⟨r',O,h2⟩:=h;rw[e]at O;cases O;exact h2
def QsC : ∀(n:Nat) (v:LI_) (e:Qo),POk v.length e->SizeOf.sizeOf e<=n->Qk (YI n v e) λ_=>True
 |0,_,e,_,h=>absurd e.pos (by omega)|n+1,v,e,he,h=>by
  cases he with
  |mk _ O h2 h3 h5 h6 hr=>
  unfold YI OZ;have sub:∀(j:Nat) (hj:j<e.Kids.length),Qk (YI n v (e.Kids[j])) λ_=>True:=λj hj=>
   QsC n v _ (hr _ (Jc hj)) (by have:=QjI (Jc hj);omega)
  have kid:∀(j:Nat) (hj:j<e.Kids.length),idx e.Kids (j:Int)=C e.Kids[j]:=λj hj=>by rw[Xe,QI hj]
  rcases O with O|O|O|O|O|O
  ·refine T0 (P:=λx=>x=.inl v) (by unfold WQ;rw[O];exact T2 rfl) λx hx=>?_;subst hx;exact T3
  ·refine T0 (P:=λx=>x=.inr (.inl v)) (by unfold WQ;rw[O];exact T2 rfl) λx hx=>?_;subst hx;show Qk (MM e v) _;unfold MM Ln;have:=h2 O;exact T0 (T0 (T4 (by omega) (by omega)) λ_ _=>T3) λ_ _=>T3
  ·refine T0 (P:=λx=>x=.inr (.inr (.inl v))) (by unfold WQ Wp;rw[O];exact T2 rfl) λx hx=>?_;subst hx;show Qk (EC (YI n) e v) _;unfold EC CJ;have hl:=h3 (.inl O);refine T0 (P:=λ_=>True) ?_ λ_ _=>T3;rw[show idx e.Kids 0=C (e.Kids[0]'(by omega))from kid 0 (by omega),Qh];refine T0 (sub 0 (by omega)) λx _=>?_;refine T1 (λ_=>T3) λ_=>T1 (λ_=>T0 (QjV _) λ_ _=>T3) λ_=>T0 (PK _ _ _) λ_ _=>T3
  ·refine T0 (P:=λx=>x=.inr (.inr (.inl v))) (by unfold WQ Wp;rw[O];exact T2 rfl) λx hx=>?_;subst hx;show Qk (EC (YI n) e v) _;unfold EC CJ;have hl:=h3 (.inr O);refine T0 (P:=λ_=>True) ?_ λ_ _=>T3;rw[show idx e.Kids 0=C (e.Kids[0]'(by omega))from kid 0 (by omega),Qh];refine T0 (sub 0 (by omega)) λx _=>?_;refine T1 (λ_=>T3) λ_=>T1 (λ_=>T0 (QjV _) λ_ _=>T3) λ_=>T0 (PK _ _ _) λ_ _=>T3
  ·refine T0 (P:=λx=>x=.inr (.inr (.inr (.inl v)))) (by unfold WQ Wp;rw[O];exact T2 rfl) λx hx=>?_;subst hx;show Qk (MN (YI n) e v) _;unfold MN VD;have hl:=h5 O;refine T0 (P:=λ_=>True) ?_ λ_ _=>T3;rw[show idx e.Kids 0=C (e.Kids[0]'(by omega))from kid 0 (by omega),Qh];refine T0 (sub 0 (by omega)) λx _=>?_;have k1:∀b,Qk (Gq x e (YI n) v b) λ_=>True:=λb=>by
    unfold Gq;refine T1 (λ_=>T0 (PK _ _ _) λ_ _=>T3) λ_=>?_;rw[show idx e.Kids 1=C (e.Kids[1]'(by omega))from kid 1 (by omega),Qh];refine T0 (sub 1 (by omega)) λy _=>?_;exact T1 (λ_=>T3) λ_=>T0 (PK _ _ _) λ_ _=>T3
   exact T1 (λ_=>T3) λ_=>T1 (λ_=>k1 _) λ_=>T1 (λ_=>k1 _) λ_=>k1 _
  refine T0 (P:=λx=>x=.inr (.inr (.inr (.inr v)))) (by unfold WQ Wp;rw[O];exact T2 rfl) λx hx=>?_;subst hx;show Qk (MO (YI n) e v) _;unfold MO OY;have hl:=h6 O;refine T0 (P:=λ_=>True) ?_ λ_ _=>T3;rw[show idx e.Kids 0=C (e.Kids[0]'(by omega))from kid 0 (by omega),Qh];refine T0 (sub 0 (by omega)) λx _=>?_;refine T1 (λ_=>T3) λ_=>T1 (λ_=>?_) λ_=>?_
  ·rw[show idx e.Kids 1=C (e.Kids[1]'(by omega))from kid 1 (by omega),Qh];exact T0 (sub 1 (by omega)) λy _=>T3
  rw[show idx e.Kids 2=C (e.Kids[2]'(by omega))from kid 2 (by omega),Qh];exact T0 (sub 2 (by omega)) λy _=>T3
def Qvm (e:Qo)(v:LI_)(h:DG e):Qk (Pv e v) λ_=>True:=by
 unfold Pv;refine T0 (Zc e v.length h) λx hx=>?_;refine T1 (λ_=>T3) λO=>?_;unfold Tf;exact T0 (QsC _ v e (hx (by simpa using O)) (YK _)) λ_ _=>T3
def QrE (n:Qg)(O:Int)(vars:LI_)(h:XE n):Qk (UJ n O vars) λr=>r.2=0->0<=O/\O<n.Tasks.length:=by
 unfold UJ;refine T1 (λ_=>T2 λh=>by cases h) λhc=>?_;simp only[DH,XA]at hc;refine T0 (T4 (by omega) (by omega)) λe he=>?_;have hv:=(h.tk e he).1;have ke:=h.k.2.2.1.2 e he;refine T1 (λ_=>T2 λh=>by cases h) λhl=>?_;simp only[WK]at hl;refine T0 (T5 (by simp only[QL,QT];omega)) λ_ _=>?_;refine T6 (P:=λ_=>True) ?_ λ_ _ _=>by omega
 refine T0 (Qk.up e.Vars.length (λst=>st.1) (λst=>st.2.length=e.Vars.length) (Q:=λ_=>True) rfl (by simp) (λi st hi hn hJ=>?_)) (λq _=>?_)
 ·obtain⟨x,l⟩:=st;replace hi:x=(i:Int):=hi;replace hJ:l.length=e.Vars.length:=hJ;show Qk (IB e vars n x l) _;unfold IB;refine T1 (λhc=>?_) (λ_=>T2 (Qw trivial));simp only[QT]at hc;refine T0 (T4 (by omega) (by omega)) λa _=>?_;refine T0 (T4 (by omega) (by omega)) λb _=>?_;refine T0 (QwL _ _ _ h.k.1) λc _=>?_;refine T1 (λ_=>T2 (Qw trivial)) λ_=>?_;refine T0 (T4 (by omega) (by omega)) λd _=>?_;exact T2 (QY ⟨by omega,by subst hi;exact QE (by omega) (by unfold maxLen;omega:e.Vars.length<=maxLen),by simpa using hJ⟩)
 rcases q with q|q
 ·exact T3
 exact T3
def QgJ {α:Type}{l:L_ α}{x y:α}(h:y∈l.set i x):y=x\/y∈l:=by
 rcases List.mem_or_eq_of_mem_set h with h|h
 ·exact .inr h
 exact .inl h
def Qdy (n:Qg)(l:L_ Xf)(O env:LI_)(h:XE n)(hl:Xg Nj l)(hw:O.length<=1000):Qk (Gv n l O env) λr=>r.2=0->KA n O.length r.1/\Mc n r.1:=by
 unfold Gv;have hpl:=h.pl;refine T0 (T5 (by simp only[QL,QT];omega)) λ_ _=>?_;refine T0 (Qk.up O.length (λst=>st.1) (λst=>(st.2.length=n.Places.length/\∀b∈st.2,Rt b/\(b.length:Int)<=st.1)/\Mc n st.2) (Q:=λq=>(∀x,q=.inl x->x≠0)/\∀m,q=.inr m->KA n O.length m/\Mc n m) rfl ⟨⟨by simp,λb hb=>?_⟩,λj b p hb hp k hk=>?_⟩ (λi st hi hn hJ=>?_)) (λq hq=>?_)
 ·have:=QgN hb;subst this;exact⟨Rt.nil,by simp⟩
 ·have:=QgN (XG hb);subst this;simp[Xd,Qy]at hk
 ·obtain⟨x,m⟩:=st;replace hi:x=(i:Int):=hi;obtain⟨⟨hJ1,hJ2⟩,hJ3⟩:(m.length=n.Places.length/\∀b∈m,Rt b/\(b.length:Int)<=x)/\Mc n m:=hJ;have err:∀y:Int,y≠0->(∀s',(Sum.inr (Sum.inl y):(Int×L_ QBg)⊕(Int⊕L_ QBg))=.inl s'->i<O.length/\s'.1=((i+1:Nat):Int)/\(s'.2.length=n.Places.length/\∀b∈s'.2,Rt b/\(b.length:Int)<=s'.1)/\Mc n s'.2)/\∀r,(Sum.inr (Sum.inl y):(Int×L_ QBg)⊕(Int⊕L_ QBg))=.inr r->(∀x,r=.inl x->x≠0)/\∀m,r=.inr m->KA n O.length m/\Mc n m:=
   λy hy=>⟨λs' e=>(by cases e),λr e=>(by cases e;exact⟨λx e=>(by cases e;exact hy),λm e=>(by cases e)⟩)⟩
  show Qk (RD O l env n x m) _;unfold RD;refine T1 (λhc=>?_) (λhc=>T2 (Qw ⟨λx e=>(by cases e),λm' e=>?_⟩))
  ·simp only[QT]at hc;refine T0 (T4 (by omega) (by omega)) λe18 _=>?_;refine T1 (λ_=>T2 (err _ (by decide))) λhc1=>?_;simp only[DH,XA]at hc1;refine T0 (T4 (by omega) (by omega)) λe22 h22=>?_;refine T0 (Qvm e22.Expr env (hl.2 e22 h22).2) λx23 _=>?_;refine T1 (λhc2=>T2 (err _ (by simpa using hc2))) λ_=>?_;refine T0 (T4 (by omega) (by omega)) λe25 _=>?_;refine T1 (λ_=>T2 (err _ (by decide))) λhc3=>?_;simp only[DH,XA]at hc3;refine T0 (T4 (by omega) (by omega)).self λe29 h29=>?_;refine T0 (QwM _ _ _ h.k.1).self λx30 h30=>?_;refine T1 (λ_=>T2 (err _ (by decide))) λhc4=>?_;have hz:=Bx (Qvl _ _ _ h.k.1) h30.1 (by simpa using hc4);have h30:=h30.2 (by simpa using hc4);refine T0 (T4 (by omega) (by omega)).self λe32 h32e=>?_;have h32:=h32e.2;have h32e:=h32e.1;have h29:=h29.1;rw[QoQ,Yy h30];simp only[Xi,Qh];have hb:=hJ2 e32 h32;have key:∃s,JS e32 [(x30.1,1)]=C s/\(s.2=0->(Rt s.1/\s.1.length<=e32.length+1)/\∀k,Xd s.1 k=Xd e32 k+Xd [(x30.1,1)] k):=by
    rcases Nm e32 [(x30.1,1)] (by simp;omega)with⟨_,e⟩|⟨_,_,_,e⟩|⟨_,_,r,e,h1,hcn,h2⟩
    ·exact⟨_,e,λh=>by cases h⟩
    ·exact⟨_,e,λh=>by cases h⟩
    exact⟨_,e,λ_=>⟨⟨h1,by simpa using h2⟩,hcn⟩⟩
   obtain⟨s,es,hs⟩:=key;rw[es,Qh];refine T0 (T4 (by omega) (by omega)) λ_ _=>?_;refine T1 (λhc5=>T2 (err _ (by simpa using hc5))) λhc5=>?_;obtain⟨hs,hcn⟩:=hs (by simpa using hc5);refine T2 (QY ⟨by omega,by subst hi;exact QE (by omega) (by unfold maxLen;omega:O.length<=maxLen),⟨by simpa using hJ1,λb hb'=>?_⟩,λj b p hb' hp k hk=>?_⟩)
   ·subst hi;show Rt b/\(b.length:Int)<=Qf ((i:Int)+1);rw[QE (by omega) (by unfold maxLen;omega:O.length<=maxLen)];rcases QgJ hb' with rfl|hb'
    ·exact⟨hs.1,by omega⟩
    have:=hJ2 b hb';exact⟨this.1,by omega⟩
   have hb':(m.set e25.Place.toNat s.1)[j]? = C b:=hb';by_cases cj:e25.Place.toNat=j
   ·subst cj;rw[Qbx (by omega)]at hb';cases hb';rw[Bw (by omega)]at h29 h32e;rw[h29]at hp;cases hp;rw[hcn]at hk;by_cases c0:0<Xd e32 k
    ·exact hJ3 _ e32 e29 h32e h29 k c0
    have h9:0<Xd [(x30.1,1)] k:=by omega
    have h8:x30.1=k:=by
     apply Decidable.byContradiction;intro hne;simp[Xd,Qy,hne]at h9
    obtain⟨z,hz1,hz2⟩:=hz;exact⟨z,hz1,by omega⟩
   rw[SA cj]at hb';exact hJ3 j b p hb' hp k hk
  cases e;exact⟨⟨hJ1,λb hb=>⟨(hJ2 b hb).1,by have:=(hJ2 b hb).2;omega⟩⟩,hJ3⟩
 rcases q with q|q
 ·exact T2 λh=>absurd h (hq.1 q rfl)
 exact T2 λ_=>hq.2 q rfl
def QsD (a m:L_ QBg)(O:Xg (Xg λ_=>True) a)(hm:Xg (Xg λ_=>True) m):Qk (IC a m) λ_=>True:=by
 unfold IC Yu;refine T0 (P:=λ_=>True) ?_ λ_ _=>T3;refine T1 (λ_=>T3) λh=>?_;simp only[WK]at h;refine T0 (Qk.up a.length (λst=>st) (λ_=>True) (Q:=λ_=>True) rfl trivial (λi st hi hn hJ=>?_)) (λq _=>?_)
 ·show Qk (Ym a m st) _;unfold Ym;refine T1 (λh=>?_) (λ_=>T2 (Qw trivial));simp only[QT]at h;refine T0 (T4 (by omega) (by omega)) λx hx=>?_;refine T0 (T4 (by omega) (by omega)) λy hy=>?_;refine T0 (P:=λ_=>True) (by obtain⟨r,hr,_⟩:=QoP x y (O.2 x hx).1 (hm.2 y hy).1;exact⟨r,hr,trivial⟩) λ_ _=>?_;exact T1 (λ_=>T2 (Qw trivial)) λ_=>T2 (QY ⟨by omega,by rw[hi];exact QE (by omega) O.1,trivial⟩)
 rcases q with q|q
 ·exact T3
 exact T3
def KA.len (h:KA n c m)(hn:XE n)(hc:c<=1000000):Xg (Xg λ_=>True) m:=
 ⟨by have:=h.1;have:=hn.pl;unfold maxLen;omega,λb O=>⟨by have:=(h.2 b O).2;unfold maxLen;omega,λ_ _=>trivial⟩⟩
structure BOk (n:Qg) (m:List QBg) (b:Xx):Prop where
 net:b.net=n
 mm:b.m=m
 task:b.task∈n.Tasks
def Qtp (n:Qg)(m:L_ QBg)(O:Int)(vars:LI_)(h:XE n):Qk (Kb n m O vars) λr=>r.1=0->BOk n m r.2:=by
 unfold Kb;refine T0 (QrE n O vars h) λx hx=>?_;refine T1 (λhc=>T2 λh=>absurd h (by simpa using hc)) λhc=>?_;have:=hx (by simpa using hc);exact T0 (T4 this.1 this.2) λe he=>T2 λ_=>⟨rfl,rfl,he⟩
def QqK (n:Qg)(m:L_ QBg)(b:Xx)(h:XE n)(O:BOk n m b):Qk (XX b) λ_=>True:=by
 unfold XX;refine T0 (Qvm _ _ (h.k.2.2.1.2 _ O.task).2.2.1) λx _=>?_;exact T1 (λ_=>T3) λ_=>T1 (λ_=>T3) λ_=>T3
def Qqf (n:Qg)(m:L_ QBg)(b:Xx)(outs:LI_)(h:XE n)(O:BOk n m b)(ho:outs.length<=1000):Qk (YB b outs) λ_=>True:=by
 unfold YB;rw[O.net];exact T0 (Qdy n _ outs _ h (h.k.2.2.1.2 _ O.task).2.2.2.2.2.2.1 ho) λx _=>T3
def Quf (l:LI_)(x:Int)(h:l.length<=maxLen):Qk (Yi l x) λ_=>True:=Hf l x ⟨h,λ_ _=>trivial⟩
def QaB (l:LI_)(h:l.length<=4294967296):XD l=C l:=by
 unfold XD;rw[EX (by simp;omega)];rfl
def QwN (l:LI_)(h:l.length<=4294967296):Yv l=C (Jr l):=by
 unfold Yv;rw[EX (by omega)];rfl
def Qtq (n:Qg)(m:L_ QBg)(b:Xx)(O:LI_)(h:XE n)(hb:BOk n m b)(hm:Xg (Xg λ_=>True) m)(hi:O.length<=100):Qk (XU b O) λ_=>True:=by
 have ki:=(h.k.2.2.1.2 _ hb.task).2.2.2.2.2.1;have kl:=(h.tk _ hb.task).2.1;unfold XU;rw[hb.net,hb.mm];refine T0 (Qdy n _ O _ h ki (by omega)) λx hx=>?_;refine T1 (λ_=>T3) λhc=>?_;have hx:=hx (by simpa using hc);refine T0 (QsD _ _ (hx.1.len h (by omega)) hm) λy _=>?_;refine T1 (λ_=>T3) λ_=>T1 (λ_=>T3) λ_=>?_;refine T0 (Qk.up b.task.Ins.length (λst=>st) (λ_=>True) (Q:=λ_=>True) rfl trivial (λi st hi hn _=>?_)) (λq _=>?_)
 ·show Qk (Cr b O st) _;unfold Cr;refine T1 (λhc=>?_) (λ_=>T2 (Qw trivial));simp only[QT]at hc;have step:Qk (Ei st) λo=>(∀s',o=.inl s'->i<b.task.Ins.length/\s'=((i+1:Nat):Int)/\True)/\∀r:Unit⊕Unit,o=.inr r->True:=
   T2 (QY (ix:=λst=>st) (J:=λ_=>True) (Q:=λ_=>True) ⟨by omega,by rw[hi];exact QE (by omega) ki.1,trivial⟩)
  refine T0 (Quf O st (by unfold maxLen;omega)) λz _=>?_;refine T1 (λ_=>step) λ_=>?_;rw[QaB O (by omega),Qh];refine T0 (T5 (by simp;omega)) λ_ _=>?_;rw[QwN _ (by simp;omega),Qh];refine T0 (T5 (by simp[Ms])) λ_ _=>?_;rw[hb.net];refine T0 (Qdy n _ _ _ h ki (by rw[Ms];simp;omega)) λu hu=>?_;refine T0 (P:=λ_=>True) ?_ λv _=>?_
  ·unfold Pz;rw[hb.mm];refine T1 (λhc2=>?_) λ_=>T3;have hu:=hu (by simpa using hc2);refine T0 (QsD _ _ (hu.1.len h (by rw[Ms];simp;omega)) hm) λ_ _=>T3
  unfold PA;exact T1 (λ_=>T2 (Qw trivial)) λ_=>step
 rcases q with q|q
 ·exact T3
 exact T3
def TR (r:L_ LI_):Prop:=r.length<=16/\∀row∈r,row.length<=16
def chB (o:O_ QLL):Bool:=match o with|some r=>decide (r.length<=16)&&r.all λrow=>decide (row.length<=16)|none=>f_
def QsE {o:O_ QLL}(h:chB o=t_):Qk o TR:=by
 cases o with
 |none=>cases h
 |some r=>
  simp only[chB,QL,QT,XM]at h;exact T2 h
def near {h:Int}(O:¬h<0)(h1:¬16<h):h=0\/h=1\/h=2\/h=3\/h=4\/h=5\/h=6\/h=7\/h=8\/h=9\/h=10\/h=11\/h=12\/h=13\/h=14\/h=15\/h=16:=by omega
set_option maxRecDepth 100000 in
def QeP (kind O:Int):Qk (WI kind O) TR:=by
 by_cases hg:((decide (O<0))||((decide (16<O))||((kind==3)&&(decide (4<O)))))=t_
 ·unfold WI;rw[hg];exact T2 ⟨by simp,λr h=>by cases h⟩
 simp only[WO,QL,QT,beq_iff_eq,not_or,not_and]at hg;obtain⟨h0,h1,h2⟩:=hg;by_cases e1:kind=1
 ·subst e1;rcases near h0 h1 with rfl|rfl|rfl|rfl|rfl|rfl|rfl|rfl|rfl|rfl|rfl|rfl|rfl|rfl|rfl|rfl|rfl<;>exact QsE (by kernel_rfl)
 by_cases e2:kind=2
 ·subst e2;rcases near h0 h1 with rfl|rfl|rfl|rfl|rfl|rfl|rfl|rfl|rfl|rfl|rfl|rfl|rfl|rfl|rfl|rfl|rfl<;>exact QsE (by kernel_rfl)
 by_cases e3:kind=3
 ·subst e3;have h3:=h2 rfl;have:O=0\/O=1\/O=2\/O=3\/O=4:=by omega
  rcases this with rfl|rfl|rfl|rfl|rfl<;>exact QsE (by kernel_rfl)
 have f1:(kind==1)=f_:=by simpa using e1
 have f2:(kind==2)=f_:=by simpa using e2
 have f3:(kind==3)=f_:=by simpa using e3
 unfold WI Up;rw[f1,f2,f3];exact T1 (λ_=>T2 ⟨by simp,λr h=>by cases h⟩) λ_=>T2 ⟨by simp,λr h=>by cases h⟩
def QxP (a b:LI_)(O:a.length<=maxLen):Qk (JK a b) λ_=>True:=by
 unfold JK;refine T1 (λ_=>T3) λh=>?_;simp only[WK]at h;refine T0 (Qk.up a.length (λst=>st) (λ_=>True) (Q:=λ_=>True) rfl trivial (λi st hi hn hJ=>?_)) (λq _=>?_)
 ·show Qk (KT a b st) _;unfold KT;refine T1 (λh=>?_) (λ_=>T2 (Qw trivial));simp only[QT]at h;refine T0 (T4 (by omega) (by omega)) λx hx=>?_;refine T0 (T4 (by omega) (by omega)) λy hy=>?_;exact T1 (λ_=>T2 (Qw trivial)) λ_=>T2 (QY ⟨by omega,by rw[hi];exact QE (by omega) O,trivial⟩)
 rcases q with q|q
 ·exact T3
 exact T3
def QsF (O h:Int)(row:LI_):Qk (Gw O h row) λ_=>True:=by
 unfold Gw Wg Wf;refine T0 (QeP O h) λx hx=>?_;refine T0 (P:=λ_=>True) ?_ λ_ _=>T3;refine T0 (P:=λ_=>True) ?_ λ_ _=>T3;have hl:=hx.1;refine T0 (Qk.up x.length (λst=>st) (λ_=>True) (Q:=λ_=>True) rfl trivial (λi st hi hn hJ=>?_)) (λq _=>?_)
 ·show Qk (YG x row st) _;unfold YG LK;refine T1 (λhc=>?_) (λ_=>T2 (Qw trivial));simp only[QT]at hc;refine T0 (T4 (by omega) (by omega)) λe he=>?_;have:=hx.2 e he;refine T0 (T0 (QxP e row (by unfold maxLen;omega)) λ_ _=>T3) λ_ _=>?_;exact T1 (λ_=>T2 (Qw trivial)) λ_=>T2 (QY ⟨by omega,by rw[hi];exact QE (by omega) (by unfold maxLen;omega:x.length<=maxLen),trivial⟩)
 rcases q with q|q
 ·exact T3
 exact T3
def Wy (n:Qg)(o:Qq):Prop:=o.Vars.length<=20/\o.Ins.length<=20/\o.Outs.length<=20
def Qtr (n:Qg)(m:L_ QBg)(o:Qq)(h:XE n)(hm:Xg (Xg λ_=>True) m)(ho:Wy n o):Qk (Kx n m o) λ_=>True:=by
 unfold Kx;refine T0 (Qtp n m o.Task o.Vars h) λx hx=>?_;have k3:∀e,(e=0->x.1=0)->Qk (WR x o e) λ_=>True:=λe he=>by
  unfold WR;refine T1 (λ_=>T3) λO=>?_;have hb:=hx (he (by simpa using O));refine T0 (P:=λ_=>True) ?_ λy _=>?_
  ·unfold LL;refine T0 (QsF _ _ _) λz _=>?_;exact T1 (λ_=>T3) λ_=>T0 (QsF _ _ _) λ_ _=>T3
  unfold LM;refine T1 (λ_=>T3) λ_=>?_;refine T0 (Qtq n m x.2 o.Ins h hb hm (by have:=ho.2.1;omega)) λz _=>?_;refine T1 (λ_=>T3) λ_=>?_;exact T0 (Qqf n m x.2 o.Outs h hb (by have:=ho.2.2;omega)) λ_ _=>T3
 refine T1 (λO=>?_) λO=>k3 _ λh=>h;have O:x.1=0:=by simpa using O
 exact T0 (QqK n m x.2 h (hx O)) λe _=>k3 e λ_=>O
def Qts (n:Qg)(o:Qq)(h:XE n)(ho:Wy n o):Qk (Ar n o) λr=>r.2=0->KA n 20 r.1/\Mc n r.1:=by
 unfold Ar;refine T0 (QrE n o.Task o.Vars h) λx hx=>?_;refine T1 (λO=>T2 λh=>absurd h (by simpa using O)) λO=>?_;have:=hx (by simpa using O);refine T0 (T4 this.1 this.2) λe he=>?_;have hl:=ho.2.1;exact T0 (Qdy n _ _ _ h (h.k.2.2.1.2 _ he).2.2.2.2.2.1 (by omega)) λy hy=>T2 λh0=>⟨(hy h0).1.mono hl,(hy h0).2⟩
def Qtt (n:Qg)(o:Qq)(h:XE n)(ho:Wy n o):Qk (MY n o) λr=>r.2=0->(KA n 20 r.1/\Mc n r.1)/\0<=o.Task/\o.Task<n.Tasks.length:=by
 unfold MY;refine T0 (QrE n o.Task o.Vars h) λx hx=>?_;refine T1 (λO=>T2 λh=>absurd h (by simpa using O)) λO=>?_;have:=hx (by simpa using O);refine T0 (T4 this.1 this.2) λe he=>?_;have hl:=ho.2.2;exact T0 (Qdy n _ _ _ h (h.k.2.2.1.2 _ he).2.2.2.2.2.2.1 (by omega)) λy hy=>T2 λh0=>⟨⟨(hy h0).1.mono hl,(hy h0).2⟩,this⟩
def Qvn {σ ρ:Type}{body:σ->O_ (σ⊕ρ)}(mu:σ->Nat)(J:σ->Prop){Q:ρ->Prop}{s0:σ}(hJ:J s0)
  (O:∀s,J s->Qk (body s) λo=>(∀h,o=.inl h->mu h<mu s/\J h)/\∀r,o=.inr r->Q r):Qk (Qx body s0) Q:=by
 have key:∀k s,mu s<=k->J s->Qk (Qx body s) Q:=by
  intro k
  induction k with
  |zero=>
   intro s hk hj;obtain⟨o,ho,h1,h2⟩:=O s hj;cases o with|inl h=>have:=(h1 h rfl).1;omega|inr r=>exact⟨r,by rw[Wi,ho];rfl,h2 r rfl⟩
  |succ k ih=>
   intro s hk hj;obtain⟨o,ho,h1,h2⟩:=O s hj;cases o with
   |inl h=>
    obtain⟨h3,h4⟩:=h1 h rfl;obtain⟨r,h5,h6⟩:=ih h (by omega) h4;exact⟨r,by rw[Wi,ho];exact h5,h6⟩
   |inr r=>exact⟨r,by rw[Wi,ho];rfl,h2 r rfl⟩
 exact key _ s0 (YK _) hJ
def QsG {l:LI_}{k:Nat}(h:k<l.length)(Z:LI_)(x:Int):(l.take (k+1)++Z).set k x=l.take k++x::Z:=by
 have e:l.take (k+1)=l.take k++[l[k]]:=by rw[Hl,QI h];rfl
 rw[e,WC,List.set_append,if_neg (by simp;omega)];have:k-(l.take k).length=0:=by simp;omega
 rw[this];rfl
def TS (m:L_ QBg)(h:m.length<=4294967296)(hb:∀b∈m,b.length<=4294967296):Cm m=C m:=by
 unfold Cm WM;rw[EX (by simp;omega)];simp only[Qh,Qd6];obtain⟨r,h1,h2⟩:=(Qk.up (body:=λst=>NY m st.1 st.2) m.length (λst=>st.1) (λst=>st.2=m) (Q:=λq=>q=m) (s0:=(0,m)) rfl rfl (λi st hi hn hJ=>by
  obtain⟨x,l⟩:=st;replace hi:x=(i:Int):=hi;replace hJ:l=m:=hJ;subst hJ;show Qk (NY l x l) _;unfold NY;refine T1 (λhc=>?_) (λ_=>T2 (Qw rfl));simp only[QT]at hc;have O:i<l.length:=by omega
  rw[hi,Xe,QI O,Qh];unfold Jj;rw[EX (by have:=hb _ (Jc O);simp;omega)];simp only[Qh,Qd6];exact T2 (QY ⟨O,QE O (by unfold maxLen;omega),by simp⟩)))
 rw[h1,h2];rfl
def QwO (n:Qg)(a b:L_ QBg)(c d:Nat)(h:XE n)(ha:KA n c a)(hb:KA n d b)(hcd:c+d<=1000000):Qk (Dv a b) λr=>r.2=0->KA n (c+d) r.1:=by
 have hpl:=h.pl;have ha1:=ha.1;have hb1:=hb.1;have O:min2 (a.length:Int) (b.length:Int)=(n.Places.length:Int):=by unfold min2;split<;>omega
 unfold Dv;rw[O];refine T0 (T5 (by simp only[QL,QT];omega)) λ_ _=>?_;refine T0 (Qk.up n.Places.length (λst=>st.1) (λst=>st.2.length=n.Places.length/\∀b∈st.2,Rt b/\b.length<=c+d) (Q:=λq:Int⊕L_ QBg=>(∀x,q=.inl x->x≠0)/\∀m,q=.inr m->KA n (c+d) m) rfl ⟨by simp,λb hb=>?_⟩ (λi st hi hn hJ=>?_)) (λq hq=>?_)
 ·have:=QgN hb;subst this;exact⟨Rt.nil,by simp⟩
 ·obtain⟨x,m⟩:=st;replace hi:x=(i:Int):=hi;obtain⟨hJ1,hJ2⟩:m.length=n.Places.length/\∀b∈m,Rt b/\b.length<=c+d:=hJ;show Qk (GP a b x m) _;unfold GP;rw[O];refine T1 (λhc=>?_) (λhc=>T2 (Qw ⟨λx e=>(by cases e),λm' e=>(by cases e;exact⟨hJ1,hJ2⟩)⟩));simp only[QT,QgP]at hc;refine T0 (T4 (by omega) (by omega)) λu hu=>?_;refine T0 (T4 (by omega) (by omega)) λv hv=>?_;have hu2:=ha.2 u hu;have hv2:=hb.2 v hv;have key:∃s,Kr u v=C s/\(s.2=0->Rt s.1/\s.1.length<=c+d):=by
   rcases Qa8 u v (by omega)with⟨_,e⟩|⟨_,_,_,e⟩|⟨_,_,_,r,e,h1,_,h2⟩
   ·exact⟨_,e,λh=>by cases h⟩
   ·exact⟨_,e,λh=>by cases h⟩
   exact⟨_,e,λ_=>⟨h1,by show r.length<=_;omega⟩⟩
  obtain⟨s,es,hs⟩:=key;rw[es,Qh];refine T0 (T4 (by omega) (by omega)) λ_ _=>?_;refine T1 (λhc5=>T2 (Qw ⟨λx e=>(by cases e;simpa using hc5),λm' e=>(by cases e)⟩)) λhc5=>?_;have hs:=hs (by simpa using hc5);refine T2 (QY ⟨by omega,by subst hi;exact QE (by omega) (by unfold maxLen;omega:n.Places.length<=maxLen),by simpa using hJ1,λb hb'=>?_⟩);rcases QgJ hb' with rfl|hb'
  ·exact hs
  exact hJ2 b hb'
 rcases q with q|q
 ·exact T2 λh=>absurd h (hq.1 q rfl)
 exact T2 λ_=>hq.2 q rfl
def Qvo (n:Qg)(a b:L_ QBg)(c d:Nat)(h:XE n)(ha:KA n c a)(hb:KA n d b)(hcd:c+d<=1000000):Qk (Bp a b) λr=>r.2=0->KA n (c+d) r.1:=by
 have hpl:=h.pl;have ha1:=ha.1;have hb1:=hb.1;have O:min2 (a.length:Int) (b.length:Int)=(n.Places.length:Int):=by unfold min2;split<;>omega
 unfold Bp;rw[O];refine T0 (T5 (by simp only[QL,QT];omega)) λ_ _=>?_;refine T0 (Qk.up n.Places.length (λst=>st.1) (λst=>st.2.length=n.Places.length/\∀b∈st.2,Rt b/\b.length<=c+d) (Q:=λq:Int⊕L_ QBg=>(∀x,q=.inl x->x≠0)/\∀m,q=.inr m->KA n (c+d) m) rfl ⟨by simp,λb hb=>?_⟩ (λi st hi hn hJ=>?_)) (λq hq=>?_)
 ·have:=QgN hb;subst this;exact⟨Rt.nil,by simp⟩
 ·obtain⟨x,m⟩:=st;replace hi:x=(i:Int):=hi;obtain⟨hJ1,hJ2⟩:m.length=n.Places.length/\∀b∈m,Rt b/\b.length<=c+d:=hJ;show Qk (Au a b x m) _;unfold Au;rw[O];refine T1 (λhc=>?_) (λhc=>T2 (Qw ⟨λx e=>(by cases e),λm' e=>(by cases e;exact⟨hJ1,hJ2⟩)⟩));simp only[QT,QgP]at hc;refine T0 (T4 (by omega) (by omega)) λu hu=>?_;refine T0 (T4 (by omega) (by omega)) λv hv=>?_;have hu2:=ha.2 u hu;have hv2:=hb.2 v hv;have key:∃s,JS u v=C s/\(s.2=0->Rt s.1/\s.1.length<=c+d):=by
   rcases Nm u v (by omega)with⟨_,e⟩|⟨_,_,_,e⟩|⟨_,_,r,e,h1,_,h2⟩
   ·exact⟨_,e,λh=>by cases h⟩
   ·exact⟨_,e,λh=>by cases h⟩
   exact⟨_,e,λ_=>⟨h1,by show r.length<=_;omega⟩⟩
  obtain⟨s,es,hs⟩:=key;rw[es,Qh];refine T0 (T4 (by omega) (by omega)) λ_ _=>?_;refine T1 (λhc5=>T2 (Qw ⟨λx e=>(by cases e;simpa using hc5),λm' e=>(by cases e)⟩)) λhc5=>?_;have hs:=hs (by simpa using hc5);refine T2 (QY ⟨by omega,by subst hi;exact QE (by omega) (by unfold maxLen;omega:n.Places.length<=maxLen),by simpa using hJ1,λb hb'=>?_⟩);rcases QgJ hb' with rfl|hb'
  ·exact hs
  exact hJ2 b hb'
 rcases q with q|q
 ·exact T2 λh=>absurd h (hq.1 q rfl)
 exact T2 λ_=>hq.2 q rfl
def Qvp (n:Qg)(m:L_ QBg)(o:Qq)(c:Nat)(h:XE n)(hm:KA n c m)(O:c<=900000)(ho:Wy n o):Qk (UW n m o) λr=>r.2=0->KA n (c+20) r.1:=by
 unfold UW;refine T0 (Qtr n m o h (hm.len h (by omega)) ho) λx _=>?_;refine T1 (λO=>T2 λh=>absurd h (by simpa using O)) λ_=>?_;refine T0 (Qts n o h ho) λy hy=>?_;refine T1 (λO=>T2 λh=>absurd h (by simpa using O)) λhc2=>?_;exact T0 (QwO n m y.1 c 20 h hm (hy (by simpa using hc2)).1 (by omega)) λz hz=>T2 hz
def Qzf (n:Qg)(m:L_ QBg)(o:Qq)(c:Nat)(h:XE n)(hm:KA n c m)(hc:c<=900000)(ho:Wy n o):Qk (UV n m o) λr=>r.2=0->KA n (c+20) r.1:=by
 have hpl:=h.pl;have hm1:=hm.1;unfold UV;refine T0 (Qtt n o h ho) λy hy=>?_;refine T1 (λhc=>T2 λh=>absurd h (by simpa using hc)) λhc2=>?_;obtain⟨⟨hy,_⟩,h1,h2⟩:=hy (by simpa using hc2);rw[TS m (by omega) (λb hb=>by have:=(hm.2 b hb).2;omega),Qh];refine T0 (T4 h1 h2) λe he=>?_;have hcl:=(h.tk e he).2.2.2;refine T0 (Qk.up e.Cancel.length (λst=>st.1) (λst=>KA n c st.2) (Q:=λq=>KA n c q) rfl hm (λi st hi hn hJ=>?_)) (λq hq=>?_)
 ·obtain⟨x,l⟩:=st;replace hi:x=(i:Int):=hi;replace hJ:KA n c l:=hJ;show Qk (Fy e x l) _;unfold Fy;refine T1 (λhc=>?_) (λ_=>T2 (Qw hJ));simp only[QT]at hc;refine T0 (T4 (by omega) (by omega)) λk _=>?_;have next:∀l,KA n c l->Qk (GZ x l) λo=>(∀s',o=.inl s'->i<e.Cancel.length/\s'.1=((i+1:Nat):Int)/\KA n c s'.2)/\∀r:L_ QBg,o=.inr r->KA n c r:=λl hl=>by
   unfold GZ;exact T2 (QY (ix:=λst:Int×L_ QBg=>st.1) (J:=λst:Int×L_ QBg=>KA n c st.2) ⟨by omega,by subst hi;exact QE (by omega) (by unfold maxLen;omega:e.Cancel.length<=maxLen),hl⟩)
  refine T1 (λO=>?_) λ_=>next l hJ;simp only[QL,QT]at O;refine T0 (T4 O.1 O.2) λ_ _=>?_;refine next _ ⟨by simpa using hJ.1,λb hb=>?_⟩;rcases QgJ hb with rfl|hb
  ·exact⟨Rt.nil,by simp⟩
  exact hJ.2 b hb
 show Qk (Fz y q) _;unfold Fz;exact T0 (Qvo n q y.1 c 20 h hq hy (by omega)) λz hz=>T2 hz
def QwP (n:Qg)(m:L_ QBg)(o:Qq)(c:Nat)(h:XE n)(hm:KA n c m)(hc:c<=800000)(ho:Wy n o):Qk (YZ n m o) λr=>r.2=0->KA n (c+40) r.1:=by
 unfold YZ;refine T0 (Qvp n m o c h hm (by omega) ho) λx hx=>?_;refine T1 (λhc=>T2 λh=>absurd h (by simpa using hc)) λO=>?_;exact T0 (Qzf n x.1 o (c+20) h (hx (by simpa using O)) (by omega) ho) λz hz=>T2 hz
def TT (n:Qg):L_ QBg->L_ Qq->O_ QMk
 |m,[]=>C m|m,o::l=>(YZ n m o).bind λx=>bif x.2==0 then TT n x.1 l else none
def Qug {x:L_ QBg}{o:Qq}(h:TT n m (o::l)=C x):∃y,YZ n m o=C (y,0)/\TT n y l=C x:=by
 rw[TT]at h;obtain⟨r,O,h⟩:=XO h;obtain⟨a,b⟩:=r;rcases KI h with⟨c,h⟩|⟨_,h⟩
 ·simp only[beq_iff_eq]at c;subst c;exact⟨a,O,h⟩
 cases h
def Qzg (h:XE n){x:L_ QBg}(hm:KA n c m)(hc:c<=1000000)(hl:l.length<=4294967296)(e:TT n m l=C x):TO n m l=C (x,(l.length:Int)):=by
 have hpl:=h.pl;have hm1:=hm.1;unfold TO;rw[TS m (by omega) (λb hb=>by have:=(hm.2 b hb).2;omega),Qh];obtain⟨r,h1,h2⟩:=FJ (body:=λst=>Bu l n st.1 st.2) l.length (λi s=>s.2=(i:Int)/\TT n s.1 (l.drop i)=C x) (λr=>r=.inr x)
  (λi s hi O=>by
   obtain⟨a,j⟩:=s;obtain⟨rfl,O⟩:j=(i:Int)/\TT n a (l.drop i)=C x:=O;rw[Sx hi]at O;obtain⟨y,g1,g2⟩:=Qug O;refine .inl ⟨(y,((i+1:Nat):Int)),?_,rfl,g2⟩;show Bu l n a i=_;unfold Bu;rw[Yy (by omega:(i:Int)<l.length),Xi,Xe,QI hi,Qh,g1,Qh];show C (Sum.inl (y,Qf ((i:Int)+1)))=_;rw[QE hi (by unfold maxLen;omega)])
  (λs O=>by
   obtain⟨a,j⟩:=s;obtain⟨rfl,O⟩:j=(l.length:Int)/\TT n a (l.drop l.length)=C x:=O;rw[List.drop_length]at O;cases O;refine⟨_,?_,rfl⟩;show Bu l n _ l.length=_;unfold Bu;rw[Kh (by omega)];rfl) (m,0) ⟨rfl,by rw[List.drop_zero];exact e⟩
 rw[h1,h2];rfl
abbrev Bag := QBg
def Quh (h:Bag->Bag->O_ (Bag×Int))(a b r:L_ Bag):Prop:=∀(j:Nat) x y,a[j]? = C x->b[j]? = C y->∃z,r[j]? = C z/\h x y=C (z,0)
def Can (h:Bag->Bag->O_ (Bag×Int))(a b:L_ Bag):Prop:=∀(j:Nat) x y,a[j]? = C x->b[j]? = C y->∃z,h x y=C (z,0)
def RU {α:Type}{l:L_ α}(h:i<l.length):l[i]? = C l[i]:=QI h
def Qzh {a b r:Bag}(h:a.length+b.length<=8796093022208)(e:JS a b=C (r,0)):Rt a/\Rt b/\Rt r/\∀k,Xd r k=Xd a k+Xd b k:=by
 rcases Nm a b h with⟨_,e'⟩|⟨_,_,_,e'⟩|⟨O,h2,r',e',h3,h4,_⟩
 ·rw[e]at e';cases e'
 ·rw[e]at e';cases e'
 rw[e]at e';cases e';exact⟨O,h2,h3,h4⟩
def QxQ {a b r:Bag}(h:a.length+b.length<=8796093022208)(e:Kr a b=C (r,0)):Rt a/\Rt b/\Rt r/\(∀k,Xd b k<=Xd a k)/\∀k,Xd r k=Xd a k-Xd b k:=by
 rcases Qa8 a b h with⟨_,e'⟩|⟨_,_,_,e'⟩|⟨O,h2,h5,r',e',h3,h4,_⟩
 ·rw[e]at e';cases e'
 ·rw[e]at e';cases e'
 rw[e]at e';cases e';exact⟨O,h2,h3,h5,h4⟩
def QrF {m:L_ Bag}(h:KA n c m){j:Nat}(O:j<n.Places.length):∃b,m[j]? = C b/\Rt b/\b.length<=c:=by
 have:j<m.length:=by have:=h.1;omega
 exact⟨m[j],RU this,h.2 _ (Jc this)⟩
end Go.Proofs
