/- A part of the proof. -/
import Derived.Test.YtholdcjomliiiaaGreatDoorW2XPlA
import Derived.Test.YtholdcjomliiiaaGreatDoorW2V3
import Derived.Test.YtholdcjomliiiaaGreatDoorW2T2
import Derived.KernelRfl
set_option linter.all false
namespace Go.Vm
open Go Go.RowKit
open Option renaming some→C
def Qg {α:Type}(o:O_ α)(Q:α->Prop):Prop:=∃r,o=C r/\Q r
abbrev Xs {α:Type}(o:O_ α):Prop:=Qg o λ_=>True
section
variable {α β σ ρ:Type}
def Qg.ok {a:α}{Q:α->Prop}(h:Q a):Qg (C a) Q:=⟨a,rfl,h⟩
def Qg.okT {a:α}:Qg (C a) λ_=>True:=⟨a,rfl,trivial⟩
def Qg.bind {o:O_ α}{f:α->O_ β}{P:α->Prop}{Q:β->Prop}(h:Qg o P)(k:∀x,P x->Qg (f x) Q):Qg (o.bind f) Q:=by
 obtain⟨x,rfl,O⟩:=h;exact k x O
def Qg.bif {c:Bool}{a b:O_ α}{Q:α->Prop}(h:c=true->Qg a Q)(O:c=false->Qg b Q):Qg (bif c then a else b) Q:=by
 cases c with|true=>exact h rfl|false=>exact O rfl
def Qg.chk {c:Bool}(h:c=true):Qg (chk c) λ_=>True:=⟨(),BO h,trivial⟩
def Qg.idx {l:L_ α}{j:Int}(h:0<=j)(O:j<l.length):Qg (idx l j) λx=>x∈l:=by
 rw[Sv h O];exact⟨_,rfl,Xc _⟩
def Qg.sidx {s:ByteArray}{j:Int}(h:0<=j)(O:j<s.size):Qg (sidx s j) λ_=>True:=by
 unfold Vm.sidx;rw[if_pos h];have:j.toNat<s.size:=by omega
 rw[getElem?_pos s j.toNat this];exact⟨_,rfl,trivial⟩
def Qg.mono {o:O_ α}{P Q:α->Prop}(h:Qg o P)(k:∀x,P x->Q x):Qg o Q:=let ⟨r,h1,h2⟩:=h;⟨r,h1,k r h2⟩
def Qg.tot {o:O_ α}{P:α->Prop}(h:Qg o P):∃r,o=C r:=let ⟨r,h1,_⟩:=h;⟨r,h1⟩
def Qg.self {o:O_ α}{P:α->Prop}(h:Qg o P):Qg o λx=>o=C x/\P x:=let ⟨r,h1,h2⟩:=h;⟨r,h1,h1,h2⟩
def Qg.up {body:σ->O_ (σ⊕ρ)}(n:Nat)(ix:σ->Int)(J:σ->Prop){Q:ρ->Prop}{s0:σ}(h0:ix s0=0)(hJ:J s0)
  (O:∀(i:Nat) s,ix s=(i:Int)->i<=n->J s->Qg (body s) λo=>(∀h,o=.inl h->i<n/\ix h=((i+1:Nat):Int)/\J h)/\∀r,o=.inr r->Q r):Qg (Qq body s0) Q:=by
 have key:∀k i s,i+k=n->ix s=(i:Int)->J s->∃r,Qq body s=C r/\Q r:=by
  intro k
  induction k with
  |zero=>
   intro i s hk hi hj;obtain⟨o,ho,h1,h2⟩:=O i s hi (by omega) hj;rw[Yl,ho];cases o with|inl h=>have:=(h1 h rfl).1;omega|inr r=>exact⟨r,rfl,h2 r rfl⟩
  |succ k ih=>
   intro i s hk hi hj;obtain⟨o,ho,h1,h2⟩:=O i s hi (by omega) hj;rw[Yl,ho];cases o with
   |inl h=>
    obtain⟨_,h3,h4⟩:=h1 h rfl;exact ih (i+1) h (by omega) h3 h4
   |inr r=>exact⟨r,rfl,h2 r rfl⟩
 exact key n 0 s0 (by omega) h0 hJ
def QH {s:σ}{n i:Nat}{ix:σ->Int}{J:σ->Prop}{Q:ρ->Prop}(h:i<n/\ix s=((i+1:Nat):Int)/\J s):
  (∀O,(Sum.inl s:σ⊕ρ)=.inl O->i<n/\ix O=((i+1:Nat):Int)/\J O)/\∀r,(Sum.inl s:σ⊕ρ)=.inr r->Q r:=
 ⟨λO e=>(by cases e;exact h),λr e=>(by cases e)⟩
def Qp {r:ρ}{n i:Nat}{ix:σ->Int}{J:σ->Prop}{Q:ρ->Prop}(h:Q r):
  (∀O,(Sum.inr r:σ⊕ρ)=.inl O->i<n/\ix O=((i+1:Nat):Int)/\J O)/\∀r',(Sum.inr r:σ⊕ρ)=.inr r'->Q r':=
 ⟨λO e=>(by cases e),λr' e=>(by cases e;exact h)⟩
end
def QV {α:Type}(ok:α->Prop)(l:L_ α):Prop:=l.length<=maxLen/\∀x∈l,ok x
def QV.drop {α:Type}{ok:α->Prop}{l:L_ α}(h:QV ok l)(k:Nat):QV ok (l.drop k):=⟨by have:=h.1;rw[NF];omega,λx O=>h.2 x (QaX O)⟩
def QV.take {α:Type}{ok:α->Prop}{l:L_ α}(h:QV ok l)(k:Nat):QV ok (l.take k):=⟨by have:=h.1;rw[Kv];omega,λx O=>h.2 x (FQ O)⟩
def QV.nil {α:Type}{ok:α->Prop}:QV ok ([]:L_ α):=⟨by simp,λx h=>by cases h⟩
def AT (s:ByteArray):Prop:=s.size<=maxLen
def Qwo {s:ByteArray}(h:KT s (⟨#[]⟩:ByteArray)=false):0<s.size:=by
 apply Nat.pos_of_ne_zero;intro O;have:s=⟨#[]⟩:=by
  obtain⟨a⟩:=s;have:a=#[]:=Quu O;rw[this]
 subst this;simp[KT]at h
def Rj {a b:Int}:0<=min2 a b↔0<=a/\0<=b:=by unfold min2;split<;>omega
def Rk {a b n:Int}:max2 a b<n↔a<n/\b<n:=by unfold max2;split<;>omega
def Rl {a b n:Int}:max2 a b<=n↔a<=n/\b<=n:=by unfold max2;split<;>omega
abbrev T0:=@Qg.bind
abbrev T1:=@Qg.bif
abbrev T2:=@Qg.ok
abbrev T3:=@Qg.okT
abbrev T4:=@Qg.idx
abbrev T5:=@Qg.chk
abbrev T6:=@Qg.mono
def EQ (l:L_ (Int×Int)):Prop:=l.Pairwise λp q=>p.1<q.1
def Qbf (l:L_ (Int×Int)):Prop:=l.Pairwise λp q=>p.1≠q.1
def EQ.nd {l:L_ (Int×Int)}(h:EQ l):Qbf l:=h.imp λh=>by omega
def GY {p:Int×Int}{l:L_ (Int×Int)}:EQ (p::l)↔(∀q∈l,p.1<q.1)/\EQ l:=Bu
def Qt9 {p:Int×Int}{l:L_ (Int×Int)}:Qbf (p::l)↔(∀q∈l,p.1≠q.1)/\Qbf l:=Bu
def Rm {l:L_ (Int×Int)}{k:Int}:Xg l k=none↔∀p∈l,p.1≠k:=by
 induction l with
 |nil=>simp[Xg]|cons p l O=>
  obtain⟨a,x⟩:=p;rw[YK];by_cases h:a=k
  ·simp[h]
  simp[h,O]
def KE {l:L_ (Int×Int)}(hn:Qbf l){k v:Int}:Xg l k=C v↔(k,v)∈l:=by
 induction l with
 |nil=>simp[Xg]|cons p l ih=>
  obtain⟨a,x⟩:=p;obtain⟨O,h2⟩:=Qt9.1 hn;rw[YK];by_cases h:a=k
  ·subst h;rw[if_pos rfl];constructor
   ·intro e;cases e;simp
   intro e;rcases XP.1 e with e|e
   ·cases e;rfl
   exact absurd rfl (O (a,v) e)
  rw[if_neg h,ih h2];constructor
  ·intro e;exact Ys _ e
  intro e;rcases XP.1 e with e|e
  ·cases e;exact absurd rfl h
  exact e
def Qwp {l m:L_ (Int×Int)}(hl:Qbf l)(h:l.Perm m)(k:Int):Xg l k=Xg m k:=by
 have hm:Qbf m:=(h.pairwise_iff (λO=>Ne.symm O)).1 hl;apply Option.ext;intro v;rw[KE hl,KE hm];exact h.mem_iff
def asc_ext {l m:L_ (Int×Int)}(hl:EQ l)(hm:EQ m)(h:∀k,Xg l k=Xg m k):l=m:=by
 induction l generalizing m with
 |nil=>
  cases m with|nil=>rfl|cons p m=>have:=h p.1;rw[YK (κ:=Int)]at this;simp[Xg]at this
 |cons p l ih=>
  obtain⟨a,x⟩:=p;cases m with
  |nil=>have:=h a;rw[YK]at this;simp[Xg]at this|cons q m=>
   obtain⟨b,y⟩:=q;obtain⟨l1,l2⟩:=GY.1 hl;obtain⟨m1,m2⟩:=GY.1 hm;have O:a=b:=by
    rcases Int.lt_trichotomy a b with hc|hc|hc
    ·have e:=h a;rw[YK,YK,if_pos rfl,if_neg (by omega),Rm.2 (λp hp=>by have:=m1 p hp;simp at this;omega)]at e;cases e
    ·exact hc
    have e:=h b;rw[YK,YK,if_neg (by omega),if_pos rfl,Rm.2 (λp hp=>by have:=l1 p hp;simp at this;omega)]at e;cases e
   subst O;have e:=h a;rw[YK,YK,if_pos rfl,if_pos rfl]at e;cases e;rw[ih l2 m2 λk=>?_];by_cases hk:a=k
   ·subst hk;rw[Rm.2 (λp hp=>by have:=l1 p hp;simp at this;omega),Rm.2 (λp hp=>by have:=m1 p hp;simp at this;omega)]
   have:=h k;rwa[YK,YK,if_neg hk,if_neg hk]at this
def QAi {l:L_ (Int×Int)}{k v:Int}{p:Int×Int}(h:p∈OH l k v):∃q∈l,q.1=p.1:=by
 induction l with
 |nil=>cases h
 |cons q l ih=>
  obtain⟨a,x⟩:=q;rw[OH]at h;split at h
  ·rename_i e;rcases XP.1 h with rfl|h
   ·exact⟨_,Yc,e⟩
   exact⟨p,Ys _ h,rfl⟩
  rcases XP.1 h with rfl|h
  ·exact⟨_,Yc,rfl⟩
  obtain⟨q,O,h2⟩:=ih h;exact⟨q,Ys _ O,h2⟩
def QxS {lt:Int->Int->Bool}{l:L_ (Int×Int)}{k v:Int}{p:Int×Int}(h:p∈Nl lt l k v):p=(k,v)\/p∈l:=by
 induction l with
 |nil=>simp[Nl]at h;exact .inl h|cons q l O=>
  obtain⟨a,x⟩:=q;rw[Nl]at h;split at h
  ·rcases XP.1 h with h|h
   ·exact .inl h
   exact .inr h
  rcases XP.1 h with h|h
  ·exact .inr (h▸Yc)
  rcases O h with h|h
  ·exact .inl h
  exact .inr (Ys _ h)
def QsS {l:L_ (Int×Int)}(h:EQ l)(k v:Int):EQ (YQ UP l k v):=by
 unfold YQ;split
 ·rename_i x hx;clear hx
  induction l with
  |nil=>exact h|cons p l ih=>
   obtain⟨a,x⟩:=p;obtain⟨h1,h2⟩:=GY.1 h;rw[OH];split
   ·rename_i e;subst e;exact GY.2 ⟨h1,h2⟩
   refine GY.2 ⟨λq O=>?_,ih h2⟩;obtain⟨q',hq',e⟩:=QAi O;rw[<-e];exact h1 _ hq'
 rename_i hn
 induction l with
 |nil=>exact Qka _ _|cons p l ih=>
  obtain⟨a,x⟩:=p;obtain⟨h1,h2⟩:=GY.1 h;rw[YK]at hn;split at hn
  ·cases hn
  rename_i hne;rw[Nl];split
  ·rename_i e;have e:k<a:=Xe e;refine GY.2 ⟨λq O=>?_,h⟩;rcases XP.1 O with rfl|O
   ·exact e
   have:=h1 q O;simp at this ⊢;omega
  rename_i e;have e:¬k<a:=λc=>e (Ql c);refine GY.2 ⟨λq O=>?_,ih h2 hn⟩;rcases QxS O with rfl|O
  ·show a<k;omega
  exact h1 q O
def QxT {l:L_ (Int×Int)}{k v:Int}:(OH l k v).length=l.length:=by
 induction l with
 |nil=>rfl|cons p l h=>
  obtain⟨a,x⟩:=p;rw[OH];split
  ·rfl
  simp[h]
def QxU {lt:Int->Int->Bool}{l:L_ (Int×Int)}{k v:Int}:(Nl lt l k v).length=l.length+1:=by
 induction l with
 |nil=>rfl|cons p l h=>
  obtain⟨a,x⟩:=p;rw[Nl];split
  ·rfl
  simp[h]
def QxV {l:L_ (Int×Int)}{k v:Int}:(YQ UP l k v).length<=l.length+1:=by
 unfold YQ;split
 ·rw[QxT];omega
 rw[QxU];exact Yk _
def QxW {l:L_ (Int×Int)}{k v:Int}(h:EQ (l++[(k,v)])):YQ UP l k v=l++[(k,v)]:=by
 have hl:EQ l:=(Qg2.1 h).1;refine asc_ext (QsS hl k v) h λj=>?_;rw[BX];have O:∀p∈l,p.1<k:=λp hp=>(Qg2.1 h).2.2 p hp (k,v) (by simp);clear h
 induction l with
 |nil=>
  show(if j=k then C v else none)=(if k=j then C v else none);by_cases c:j=k
  ·rw[if_pos c,if_pos c.symm]
  rw[if_neg c,if_neg (λe=>c e.symm)]
 |cons p l ih=>
  obtain⟨a,x⟩:=p;have h1:=O (a,x) Yc;simp only at h1;rw[QgY,YK,YK];rw[<-ih (GY.1 hl).2 λp hp=>O p (Ys _ hp)];by_cases c:j=k
  ·subst c;rw[if_pos rfl,if_pos rfl,if_neg (by omega)]
  rw[if_neg c,if_neg c]
section
variable {ρ:Type}{g:Int->Int->Int}{stop:Int->Bool}{q:O_ ρ}{body:L_ (Int×Int)->Int×Int->O_ (L_ (Int×Int)⊕ρ)}
def QJ (s:L_ (Int×Int))(k:Int):Int:=(Xg s k).getD 0
def Qkj (g:Int->Int->Int)(s l:L_ (Int×Int))(k:Int):O_ Int:=match Xg l k with|some v=>C (g (QJ s k) v)|none=>Xg s k
def QhK (hb:∀s p,body s p=bif stop (g (QJ s p.1) p.2)then q.map Sum.inr else C (.inl (YQ UP s p.1 (g (QJ s p.1) p.2)))):
  ∀l s,EQ s->Qbf l->((∃p∈l,stop (g (QJ s p.1) p.2)=true)/\GM body s l=q.map Sum.inr)\/
   ((∀p∈l,stop (g (QJ s p.1) p.2)=false)/\∃s',GM body s l=C (.inl s')/\EQ s'/\s'.length<=s.length+l.length/\∀k,Xg s' k=Qkj g s l k):=by
 intro l
 induction l with
 |nil=>intro s hs _;exact .inr ⟨λp h=>(by cases h),s,rfl,hs,by simp,λk=>rfl⟩
 |cons p l ih=>
  intro s hs hl;obtain⟨h1,h2⟩:=Qt9.1 hl;simp only[GM,hb];cases hst:stop (g (QJ s p.1) p.2)with
  |true=>exact .inl ⟨⟨p,Yc,hst⟩,by cases q<;>rfl⟩
  |false=>
   simp only[Qe,Qa,Sum.elim_inl];have hc:∀r∈l,QJ (YQ UP s p.1 (g (QJ s p.1) p.2)) r.1=QJ s r.1:=λr O=>by
    unfold QJ;rw[BX,if_neg (λe=>h1 r O e.symm)]
   rcases ih _ (QsS hs p.1 (g (QJ s p.1) p.2)) h2 with⟨⟨r,O,h3⟩,h4⟩|⟨h3,s',h4,h5,h6,h7⟩
   ·exact .inl ⟨⟨r,Ys _ O,by rw[hc r O]at h3;exact h3⟩,h4⟩
   refine .inr ⟨λr O=>?_,s',h4,h5,?_,λk=>?_⟩
   ·rcases XP.1 O with rfl|O
    ·exact hst
    have:=h3 r O;rwa[hc r O]at this
   ·have:=QxV (l:=s) (k:=p.1) (v:=g (QJ s p.1) p.2);simp;omega
   rw[h7];obtain⟨a,x⟩:=p;unfold Qkj;rw[YK];by_cases e:a=k
   ·subst e;rw[if_pos rfl,Rm.2 (λr O=>Ne.symm (h1 r O)),BX,if_pos rfl]
   rw[if_neg e];simp only[QJ,BX,if_neg (λe'=>e (Eq.symm e'):¬k=a)]
def Qo7 (hb:∀s p,body s p=bif stop (g (QJ s p.1) p.2)then q.map Sum.inr else C (.inl (YQ UP s p.1 (g (QJ s p.1) p.2)))){l s:L_ (Int×Int)}(hs:EQ s)(hl:Qbf l):
  ((∃p∈l,stop (g (QJ s p.1) p.2)=true)/\∀r,q=C r->MF body s l=C (.inr r))\/
   ((∀p∈l,stop (g (QJ s p.1) p.2)=false)/\∃s',MF body s l=C (.inl s')/\EQ s'/\s'.length<=s.length+l.length/\∀k,Xg s' k=Qkj g s l k):=by
 have key:∀l':L_ (Int×Int),l'.Perm l->GM body s l'=GM body s l:=λl' hp=>by
  have hl':Qbf l':=(hp.pairwise_iff (λhab=>Ne.symm hab)).2 hl;rcases QhK hb l' s hs hl' with⟨⟨p,h,h2⟩,O⟩|⟨h,s1,O,h4,_,h5⟩
  ·rcases QhK hb l s hs hl with⟨_,g3⟩|⟨g1,_⟩
   ·rw[O,g3]
   rw[g1 p (hp.mem_iff.1 h)]at h2;cases h2
  rcases QhK hb l s hs hl with⟨⟨p,g1,g2⟩,g3⟩|⟨g1,s2,g3,g4,_,g5⟩
  ·rw[h p (hp.mem_iff.2 g1)]at g2;cases g2
  rw[O,g3,asc_ext h4 g4 λk=>?_];rw[h5,g5];unfold Qkj;rw[Qwp hl' hp k]
 rcases QhK hb l s hs hl with⟨h,O⟩|⟨h,s1,O,h4,h6,h5⟩
 ·exact .inl ⟨h,λr hr=>Pv.2 ⟨key,by rw[O,hr];rfl⟩⟩
 exact .inr ⟨h,s1,Pv.2 ⟨key,O⟩,h4,h6,h5⟩
end
def Qu8 {ρ:Type}{bad:Int×Int->Bool}{q:ρ}{body:Unit->Int×Int->O_ (Unit⊕ρ)}(O:∀p,body () p=C (bif bad p then .inr q else .inl ()))(l:L_ (Int×Int)):
  MF body () l=C (bif l.any bad then .inr q else .inl ()):=by
 have h:∀l:L_ (Int×Int),GM body () l=C (bif l.any bad then .inr q else .inl ()):=by
  intro l
  induction l with
  |nil=>rfl|cons p l ih=>
   simp only[GM,O,Qa,List.any_cons];cases bad p with|true=>rfl|false=>exact ih
 refine Pv.2 ⟨λl' hp=>?_,h l⟩;rw[h,h];congr 2;rw[HN,Aw,Aw];exact⟨λ⟨x,a,b⟩=>⟨x,hp.mem_iff.1 a,b⟩,λ⟨x,a,b⟩=>⟨x,hp.mem_iff.2 a,b⟩⟩
def Uo (a:Int):L_ (Int×Int)->Bool
 |[]=>true|p::r=>!(decide (p.1<=a)||(decide (p.2<1)||decide (1048576<p.2)))&&Uo p.1 r
def Qy0 {a:Int}{l:L_ (Int×Int)}:Uo a l=true↔EQ l/\∀p∈l,a<p.1/\1<=p.2/\p.2<=1048576:=by
 induction l generalizing a with
 |nil=>simp[Uo,EQ]|cons p l ih=>
  rw[Uo,QN,ih,GY];simp only[Ga,Ku,QU];constructor
  ·rintro ⟨⟨h1,h2,O⟩,h4,h5⟩;refine⟨⟨λq h=>(h5 q h).1,h4⟩,λq h=>?_⟩;rcases XP.1 h with rfl|h
   ·omega
   have:=h5 q h;omega
  rintro ⟨⟨h1,h2⟩,O⟩;have:=O p Yc;exact⟨by omega,h2,λq h=>⟨h1 q h,(O q (Ys _ h)).2⟩⟩
def Rt (l:L_ (Int×Int)):Prop:=EQ l/\∀p∈l,0<=p.1/\1<=p.2/\p.2<=1048576
def Jo {l:L_ (Int×Int)}:Uo (-1) l=true↔Rt l:=by
 rw[Qy0];constructor
 ·rintro ⟨h,O⟩;exact⟨h,λp hp=>by have:=O p hp;omega⟩
 rintro ⟨h,O⟩;exact⟨h,λp hp=>by have:=O p hp;omega⟩
def Rt.nil : Rt []:=⟨List.Pairwise.nil,λp h=>by cases h⟩
def Eh {l:L_ (Int×Int)}(h:Qbf l){p:Int×Int}(hp:p∈l):QJ l p.1=p.2:=by
 unfold QJ;rw[(KE h).2 (show(p.1,p.2)∈l from hp)];rfl
def Rt.cnt {l:L_ (Int×Int)}(h:Rt l)(k:Int):0<=QJ l k/\QJ l k<=1048576:=by
 unfold QJ;cases e:Xg l k with|none=>simp|some v=>have:=h.2 _ ((KE h.1.nd).1 e);simp at this ⊢;omega
def Rt.cnt_pos {l:L_ (Int×Int)}(h:Rt l){k:Int}(O:0<QJ l k):0<=k:=by
 unfold QJ at O;cases e:Xg l k with|none=>rw[e]at O;simp at O|some v=>exact(h.2 _ ((KE h.1.nd).1 e)).1
def rt_ext {l m:L_ (Int×Int)}(hl:Rt l)(hm:Rt m)(h:∀k,QJ l k=QJ m k):l=m:=by
 refine asc_ext hl.1 hm.1 λk=>?_;have:=h k;unfold QJ at this;cases e1:Xg l k with
 |none=>
  cases O:Xg m k with|none=>rfl|some v=>have h3:=hm.2 _ ((KE hm.1.nd).1 O);rw[e1,O]at this;simp at this h3;omega
 |some v=>
  have h3:=hl.2 _ ((KE hl.1.nd).1 e1);cases O:Xg m k with|none=>rw[e1,O]at this;simp at this h3;omega|some u=>rw[e1,O]at this;simpa using this
def Pk (l:L_ (Int×Int)):L_ (Int×Int):=l.filter λp=>decide (0<p.2)
def QsT {l:L_ (Int×Int)}(h:EQ l)(k:Int):QJ (Pk l) k=if 0<QJ l k then QJ l k else 0:=by
 have hp:EQ (Pk l):=h.sublist List.filter_sublist;by_cases c:0<QJ l k
 ·rw[if_pos c];unfold QJ at c;cases e:Xg l k with
  |none=>rw[e]at c;simp at c|some v=>
   rw[e]at c;have O:(k,v)∈Pk l:=FP.2 ⟨(KE h.nd).1 e,by simpa using c⟩;unfold QJ;rw[(KE hp.nd).2 O,e]
 rw[if_neg c];unfold QJ;cases e:Xg (Pk l) k with
 |none=>rfl|some v=>
  have O:=FP.1 ((KE hp.nd).1 e);have h2:=(KE h.nd).2 O.1;unfold QJ at c;rw[h2]at c;simp at O c;omega
def Qwq {l:L_ (Int×Int)}(h:EQ l)(hb:∀k,0<QJ l k->0<=k/\QJ l k<=1048576):Rt (Pk l):=by
 refine⟨h.sublist List.filter_sublist,λp hp=>?_⟩;obtain⟨O,h2⟩:=FP.1 hp;have h3:=Eh h.nd O;have h4:0<p.2:=Xe h2;have:=hb p.1 (by omega);omega
def Qwr {l:L_ (Int×Int)}(h:EQ l):El (l.map Prod.fst)=l.map Prod.fst:=by
 rw[Qhs];refine List.mergeSort_of_pairwise ?_;rw[QaY];exact h.imp λh=>by simp;omega
def upL : Int->Nat->L_ Int
 |_,0=>[]|x,k+1=>x::upL (x+1) k
def binds : L_ Int->L_ (L_ Int)
 |[]=>[[]]|s::r=>(0::upL 1 (s-1).toNat).flatMap λx=>(binds r).map (x::·)
def Ka : L_ Int->L_ Int->L_ (L_ Int)
 |s::r,x::d=>(Ka r d).map (x::·)++(upL (x+1) (s-(x+1)).toNat).flatMap λy=>(binds r).map (y::·)|_,_=>[]
def MS (l:L_ Int):L_ Int:=List.replicate l.length 0
def Qga (l:L_ Int):binds l=MS l::Ka l (MS l):=by
 induction l with
 |nil=>rfl|cons s r h=>
  show(0::upL 1 (s-1).toNat).flatMap (λx=>(binds r).map (x::·))=(0::MS r)::((Ka r (MS r)).map (0::·)++(upL (0+1) (s-(0+1)).toNat).flatMap λy=>(binds r).map (y::·));rw[Ay,Int.zero_add];have:(binds r).map (λx=>(0:Int)::x)=(0::MS r)::(Ka r (MS r)).map (0::·):=by rw[h];rfl
  rw[this];rfl
def QcM : L_ Int->L_ Int->O_ (L_ Int)
 |s::r,x::d=>match QcM r d with|some e=>C (x::e)|none=>if x+1<s then C ((x+1)::MS r)else none
 |_,_=>none
def Qo8 : ∀l d:L_ Int,Ka l d=match QcM l d with
  |none=>[]|some e=>e::Ka l e:=by
 intro l
 induction l with
 |nil=>intro d;rfl|cons s r O=>
  intro d;cases d with
  |nil=>rfl|cons x d=>
   have h:=O d;rw[QcM];cases e:QcM r d with
   |some e'=>
    rw[e]at h;simp only[Ka,h];rfl
   |none=>
    rw[e]at h;simp only at h;simp only[Ka,h,List.map_nil,FR];by_cases c:x+1<s
    ·rw[if_pos c];rw[show(s-(x+1)).toNat=(s-(x+1+1)).toNat+1 by omega,upL,Ay];have:(binds r).map (λz=>(x+1)::z)=((x+1)::MS r)::(Ka r (MS r)).map ((x+1)::·):=by rw[Qga r];rfl
     rw[this];rfl
    rw[if_neg c,show(s-(x+1)).toNat=0 by omega];rfl
def QjJ : ∀l d:L_ Int,(∀(j:Nat) x s,d[j]? = C x->l[j]? = C s->¬x+1<s)->QcM l d=none:=by
 intro l
 induction l with
 |nil=>intro d _;cases d<;>rfl
 |cons s r ih=>
  intro d h;cases d with
  |nil=>rfl|cons x d=>
   rw[QcM,ih d λj y z O h2=>h (j+1) y z (by simpa using O) (by simpa using h2)];simp only;rw[if_neg (h 0 x s rfl rfl)]
def Qua : ∀(k:Nat) (l d:L_ Int) (x s:Int),l.length=d.length->d[k]? = C x->l[k]? = C s->x+1<s->(∀(j:Nat) y z,k<j->d[j]? = C y->l[j]? = C z->¬y+1<z)->
  QcM l d=C (d.take k++(x+1)::List.replicate (d.length-(k+1)) 0):=by
 intro k
 induction k with
 |zero=>
  intro l d x s hl h hs O ha;cases l with
  |nil=>cases hs
  |cons s' r=>
   cases d with
   |nil=>cases h
   |cons x' d=>
    simp only[List.getElem?_cons_zero,Option.some.injEq]at h hs;subst h;subst hs;rw[QcM,QjJ r d λj y z h1 h2=>ha (j+1) y z (by omega) (by simpa using h1) (by simpa using h2)];simp only;rw[if_pos O];simp only[WI]at hl;simp[MS];omega
 |succ k ih=>
  intro l d x s hl h hs O ha;cases l with
  |nil=>cases hs
  |cons s' r=>
   cases d with
   |nil=>cases h
   |cons x' d=>
    simp only[Qj9]at h hs;simp only[WI,Nat.add_right_cancel_iff]at hl;rw[QcM,ih r d x s hl h hs O λj y z h0 h1 h2=>ha (j+1) y z (by omega) (by simpa using h1) (by simpa using h2)];simp
def inB : L_ Int->L_ Int->Prop
 |[],[]=>True|s::r,x::d=>0<=x/\(x=0\/x<s)/\inB r d|_,_=>False
def Qy1 {y x:Int}{k:Nat}:y∈upL x k↔x<=y/\y<x+k:=by
 induction k generalizing x with
 |zero=>
  simp only[upL,List.not_mem_nil,false_iff];omega
 |succ k h=>simp only[upL,XP,h];omega
def Qws {l d:L_ Int}:d∈binds l↔inB l d:=by
 induction l generalizing d with
 |nil=>cases d<;>simp[binds,inB]
 |cons s r ih=>
  cases d with
  |nil=>simp[binds,inB]|cons x d=>
   simp only[binds,List.mem_flatMap,XP,Qy1,Yt,List.cons.injEq,inB,<-ih];constructor
   ·rintro ⟨y,O,e,h,rfl,rfl⟩;exact⟨by omega,by omega,h⟩
   rintro ⟨O,h,h3⟩;exact⟨x,by omega,d,h3,rfl,rfl⟩
def Qy2 {l d:L_ Int}(h:inB l d):d.length=l.length:=by
 induction l generalizing d with
 |nil=>cases d with|nil=>rfl|cons x d=>exact h.elim
 |cons s r O=>cases d with|nil=>exact h.elim|cons x d=>simp[O h.2.2]
section
variable {α:Type}
def JF (most:Nat)(h X:L_ α):L_ α⊕L_ α:=if (h++X).length<most then .inr (h++X)else .inl ((h++X).take most)
def Va {most:Nat}{O:L_ α}(h:O.length<most):JF most O []=.inr O:=by
 unfold JF;rw[Qcr,if_pos h]
def QxX {most:Nat}{O X:L_ α}(h:O.length=most):JF most O X=.inl O:=by
 unfold JF;rw[if_neg (by simp;omega)];subst h;rw[List.take_left]
def QxY {most:Nat}{h X:L_ α}{x:α}:JF most h (x::X)=JF most (h++[x]) X:=by
 unfold JF;rw[Kh];rfl
def Qkk {most:Nat}{h X Y:L_ α}:JF most h (X++Y)=match JF most h X with
  |.inl a=>.inl a|.inr a=>JF most a Y:=by
 unfold JF;by_cases c:(h++X).length<most
 ·rw[if_pos c];simp only[Kh]
 rw[if_neg c,if_neg (by simp at c ⊢;omega),<-Kh,Qgh (by omega)]
def Qo9 {most:Nat}{O X a:L_ α}(h:JF most O X=.inr a):a.length<most:=by
 unfold JF at h;split at h
 ·cases h;assumption
 cases h
def Qkl {most:Nat}{O X a:L_ α}(h:JF most O X=.inr a):a=O++X:=by
 unfold JF at h;split at h
 ·cases h;rfl
 cases h
def QsU {most:Nat}{X:L_ α}(h:0<most):(match JF most [] X with | .inl a=>a | .inr a=>a)=X.take most:=by
 unfold JF;rw[FR];by_cases c:X.length<most
 ·rw[if_pos c];simp only;rw[YV (by omega)]
 rw[if_neg c]
end
section
variable {M K:Type}[DecidableEq K](key:M->K)(succ:M->L_ M)
def Qne (out:L_ M)(x:M):Bool:=out.any λy=>decide (key y=key x)
def Jp (most:Nat):L_ M->L_ M->L_ M⊕L_ M
 |out,[]=>.inr out|out,x::xs=>if Qne key out x then Jp most out xs else if out.length=most then .inl out else Jp most (out++[x]) xs
def Uq (most:Nat):Nat->L_ M->Nat->L_ M×Bool
 |0,out,_=>(out,true)|f+1,out,a=>match out[a]? with
  |none=>(out,true)|some x=>match Jp key most out (succ x)with|.inl o=>(o,false)|.inr o=>Uq most f o (a+1)
variable {key}{succ}
def Qu9 {most:Nat}:∀{xs out o:L_ M},Jp key most out xs=.inr o->out.length<=most->(∃r,o=out++r)/\o.length<=most:=by
 intro xs
 induction xs with
 |nil=>intro out o h O;cases h;exact⟨⟨[],by simp⟩,O⟩
 |cons x xs ih=>
  intro out o h O;rw[Jp]at h;split at h
  ·exact ih h O
  split at h
  ·cases h
  obtain⟨⟨r,hr⟩,h2⟩:=ih h (by simp;omega);exact⟨⟨x::r,by rw[hr];simp⟩,h2⟩
def Qva {most:Nat}:∀{xs out o:L_ M},Jp key most out xs=.inl o->out.length<=most->(∃r,o=out++r)/\o.length=most:=by
 intro xs
 induction xs with
 |nil=>intro out o h O;cases h
 |cons x xs ih=>
  intro out o h O;rw[Jp]at h;split at h
  ·exact ih h O
  split at h
  ·cases h;exact⟨⟨[],by simp⟩,by assumption⟩
  obtain⟨⟨r,hr⟩,h2⟩:=ih h (by simp;omega);exact⟨⟨x::r,by rw[hr];simp⟩,h2⟩
def Tb (key:M->K)(l:L_ M):Prop:=l.Pairwise λa b=>key a≠key b
def Tb.add {l:L_ M}{x:M}(h:Tb key l)(hx:Qne key l x=false):Tb key (l++[x]):=by
 unfold Tb;rw[Qg2];refine⟨h,Qka _ _,λa ha b O=>?_⟩;rw[LA]at O;subst O;intro e;have:Qne key l b=true:=Aw.2 ⟨a,ha,Ql e⟩;rw[this]at hx;cases hx
def Qpa {P:M->Prop}{most:Nat}:∀{xs out o:L_ M},(Jp key most out xs=.inl o\/Jp key most out xs=.inr o)->Tb key out->(∀x∈out,P x)->(∀x∈xs,P x)->Tb key o/\∀x∈o,P x:=by
 intro xs
 induction xs with
 |nil=>intro out o h ha hp _;rcases h with h|h<;>cases h;exact⟨ha,hp⟩
 |cons x xs ih=>
  intro out o h ha hp hx;rw[Jp]at h;split at h
  ·exact ih h ha hp λy O=>hx y (Ys _ O)
  rename_i c;split at h
  ·rcases h with h|h<;>cases h;exact⟨ha,hp⟩
  refine ih h (ha.add (by simpa using c)) (λy O=>?_) λy O=>hx y (Ys _ O);rcases YT.1 O with O|O
  ·exact hp y O
  simp at O;subst O;exact hx _ Yc
def Qwt {P:M->Prop}(hs:∀x,P x->∀y∈succ x,P y){most:Nat}:∀(f:Nat) {out:L_ M} {a:Nat},out.length<=most->Tb key out->(∀x∈out,P x)->
  (∃r,(Uq key succ most f out a).1=out++r)/\(Uq key succ most f out a).1.length<=most/\Tb key (Uq key succ most f out a).1/\∀x∈(Uq key succ most f out a).1,P x:=by
 intro f
 induction f with
 |zero=>intro out a O h hp;exact⟨⟨[],by simp[Uq]⟩,O,h,hp⟩|succ f ih=>
  intro out a O h hp;rw[Uq];cases ho:out[a]? with
  |none=>exact⟨⟨[],by simp⟩,O,h,hp⟩|some x=>
   simp only;have hx:=hp x (XB ho);cases e:Jp key most out (succ x)with
   |inl o=>
    obtain⟨h1,h2⟩:=Qva e O;obtain⟨h3,h4⟩:=Qpa (.inl e) h hp (hs x hx);exact⟨h1,by simp only;omega,h3,h4⟩
   |inr o=>
    obtain⟨⟨r,hr⟩,h2⟩:=Qu9 e O;obtain⟨h3,h4⟩:=Qpa (.inr e) h hp (hs x hx);simp only;obtain⟨⟨r2,hr2⟩,k2⟩:=ih (a:=a+1) h2 h3 h4;exact⟨⟨r++r2,by rw[hr2,hr,Kh]⟩,k2⟩
end
end Go.Vm
noncomputable section
namespace Go.Proofs
open Go Go.RowKit Go.Vm
open Option renaming some→C
open Bool renaming true→t_,false→f_
variable {l:QBg}{n:Qc}{m:L_ QBg}
inductive WZ : Qs->Prop where
 |mk (e:Qs):e.Kids.length<=maxLen->(∀k∈e.Kids,WZ k)->WZ e
def Dp {e:Qs}(h:WZ e):QV WZ e.Kids:=by
 cases h with|mk _ O h2=>exact⟨O,h2⟩
def QbD {e k:Qs}(h:k∈e.Kids):SizeOf.sizeOf k<SizeOf.sizeOf e:=by
 obtain⟨a,b,l⟩:=e;have:=List.sizeOf_lt_of_mem h;simp only[Qs.mk.sizeOf_spec]at *;omega
def Qs.pos (e:Qs):0<SizeOf.sizeOf e:=by
 obtain⟨a,b,l⟩:=e;simp only[Qs.mk.sizeOf_spec];omega
inductive POk (v:Int):Qs->Prop where
 |mk (e:Qs):(e.Kind=1\/e.Kind=2\/e.Kind=3\/e.Kind=4\/e.Kind=5\/e.Kind=6)->(e.Kind=2->0<=e.Num/\e.Num<v)->(e.Kind=3\/e.Kind=4->e.Kids.length=1)->(e.Kind=5->e.Kids.length=2)->(e.Kind=6->e.Kids.length=3)->(∀k∈e.Kids,POk v k)->POk v e
def JG (x:QK):Prop:=AT x.Name/\True/\True/\True/\(QV AT) x.Names/\True/\True
def DY (x:Xn):Prop:=AT x.Name/\True/\(QV (λ_=>True)) x.First
def Ur (x:JH):Prop:=AT x.Name/\True
def MT (x:Jy):Prop:=True/\WZ x.Expr
def Jk (x:QL):Prop:=AT x.Name/\(QV Ur) x.Vars/\WZ x.Guard/\True/\True/\(QV MT) x.Ins/\(QV MT) x.Outs/\(QV (λ_=>True)) x.Cancel/\True/\True
def Xu (x:Qc):Prop:=(QV JG) x.Colours/\(QV DY) x.Places/\(QV Jk) x.Tasks/\True/\True
def Qr0 (x:JD):Prop:=(QV JG) x.all/\(QV (λ_=>True)) x.sizes/\True
def Qpb (O:Qc)(h:Xu O):Xs (SH O):=by
 unfold SH;exact T3
def WR (O:(L_ Xn))(h:Int)(h_l1:(QV DY) O):Qg (Jw O h) λr=>r=t_->0<=h/\h<O.length:=by
 unfold Jw;exact T2 (by first|(intro hr;first|(cases hr;done)|omega|((try simp only[QN,KG,Ku,Ga,CR,Qw,QU,beq_iff_eq,bne_iff_ne,ne_eq,Lz,Qcp,YZ,FO,NG,NF,Kv,WI,Rj,Rk,Rl]at *);omega))|((try simp only[QN,KG,Ku,Ga,CR,Qw,QU,beq_iff_eq,bne_iff_ne,ne_eq,Lz,Qcp,YZ,FO,NG,NF,Kv,WI,Rj,Rk,Rl]at *);omega)|simp_all)
def Qpc (O:Qc)(h:Xu O):Xs (SI O):=by
 unfold SI;refine T0 (P:=λ_=>True) ?_ (λx_1 hv2=>?_)
 ·unfold QdE;refine T0 (WR O.Places O.From (h.2.1)) (λx_3 hv4=>?_);refine T1 (λhc5=>?_) (λhc5=>?_)
  ·refine T0 (WR O.Places O.To (h.2.1)) (λx_6 hv7=>?_);exact T3
  exact T3
 unfold QdF;exact T3
def Qpd (O:Qc)(h:Xu O):Xs (SJ O):=by
 unfold SJ;exact T3
def Qpe (O:Qc)(v2:Int)(v3:Int)(v4:Int)(h:Xu O):Xs (SK O v2 v3 v4):=by
 unfold SK;refine T0 (Qpb O (h)) (λx_1 hv2=>?_);refine T1 (λhc3=>?_) (λhc3=>?_)
 ·exact T3
 refine T0 (Qpc O (h)) (λx_4 hv5=>?_);refine T1 (λhc6=>?_) (λhc6=>?_)
 ·exact T3
 refine T0 (Qpd O (h)) (λx_7 hv8=>?_);refine T1 (λhc9=>?_) (λhc9=>?_)
 ·exact T3
 exact T3
def Qpf (lo1:Int)(O:Int)  : Xs (Fz lo1 O):=by
 unfold Fz;refine T1 (λh=>?_) (λh=>?_)
 ·exact T3
 exact T3
def Qck (h:Int)  : Xs (AA h):=by
 unfold AA;exact T3
def Hr (s1:ByteArray)(h_s1:AT s1):Xs (GD s1):=by
 unfold GD;refine T0 (P:=λ_=>True) ?_ (λx_1 hv2=>?_)
 ·unfold LD;refine T1 (λhc3=>?_) (λhc3=>?_)
  ·exact T3
  have hshc3:=Qwo hc3;refine T1 (λhc4=>?_) (λhc4=>?_)
  ·exact T3
  refine T0 (Qg.sidx (by omega) (by omega)) (λc_5 hv6=>?_);refine T0 (Qck c_5 ) (λx_7 hv8=>?_);exact T3
 unfold Tn;refine T1 (λhc9=>?_) (λhc9=>?_)
 ·exact T3
 refine T0 (Qg.up (s1.size) (λst=>st) (λ_=>True) (Q:=λq=>True) rfl trivial (λi11 st h hn13 hj14=>?_)) (λq15 hq16=>?_)
 ·obtain⟨O,hst⟩:∃y,y=st:=⟨_,rfl⟩;subst hst;replace h:O=(i11:Int):=h;show Qg (Uu s1 O) _;unfold Uu;refine T1 (λhc17=>?_) (λhc17=>?_)
  ·refine T0 (Qg.sidx (by omega) (by simp_all)) (λc_18 hv19=>?_);refine T0 (P:=λ_=>True) ?_ (λx_20 hv21=>?_)
   ·unfold Tj;refine T0 (Qck c_18 ) (λx_22 hv23=>?_);refine T1 (λhc24=>?_) (λhc24=>?_)
    ·refine T1 (λhc25=>?_) (λhc25=>?_)
     ·exact T3
     refine T1 (λhc26=>?_) (λhc26=>?_)
     ·exact T3
     exact T3
    exact T3
   unfold Tk;refine T1 (λhc27=>?_) (λhc27=>?_)
   ·exact T2 (Qp trivial)
   exact T2 (QH ⟨(by simp_all),by subst h;exact Qo (by simp_all) h_s1,trivial⟩)
  exact T2 (Qp trivial)
 rcases q15 with q15|q15
 ·show Qg (Tl) _;unfold Tl;exact T3
 show Qg (Tm) _;unfold Tm;exact T3
def Qnf (l1:(L_ ByteArray))(O:(QV AT) l1):Xs (BZ l1):=by
 unfold BZ;refine T0 (Qg.up (l1.length) (λst=>st.1) (λ_=>True) (Q:=λq=>True) rfl trivial (λi3 st hi4 hn5 hj6=>?_)) (λq7 hq8=>?_)
 ·obtain⟨x_1,m_2⟩:=st;replace hi4:x_1=(i3:Int):=hi4;show Qg (DS l1 x_1 m_2) _;unfold DS;refine T1 (λhc9=>?_) (λhc9=>?_)
  ·refine T0 (T4 (by omega) (by simp_all)) (λh hv11=>?_);refine T0 (P:=λ_=>True) ?_ (λx_12 hv13=>?_)
   ·unfold RA;refine T0 (Hr h (((O).2 h hv11))) (λx_14 hv15=>?_);refine T1 (λhc16=>?_) (λhc16=>?_)
    ·exact T3
    exact T3
   unfold RC;refine T1 (λhc17=>?_) (λhc17=>?_)
   ·exact T2 (Qp trivial)
   exact T2 (QH ⟨(by simp_all),by subst hi4;exact Qo (by simp_all) (O).1,trivial⟩)
  exact T2 (Qp trivial)
 rcases q7 with q7|q7
 ·show Qg (RD) _;unfold RD;exact T3
 show Qg (RF) _;unfold RF;exact T3
def Qpg (c1:QK)(h:LI_)(h_c1:JG c1)(O:(QV (λ_=>True)) h):Xs (FA c1 h):=by
 unfold FA;refine T1 (λhc1=>?_) (λhc1=>?_)
 ·refine T0 (Qpf c1.Lo c1.Hi ) (λx_2 hv3=>?_);exact T3
 refine T1 (λhc4=>?_) (λhc4=>?_)
 ·refine T0 (Qnf c1.Names (h_c1.2.2.2.2.1)) (λx_5 hv6=>?_);refine T1 (λhc7=>?_) (λhc7=>?_)
  ·exact T3
  unfold GN;exact T3
 refine T1 (λhc8=>?_) (λhc8=>?_)
 ·refine T1 (λhc9=>?_) (λhc9=>?_)
  ·refine T0 (T4 (by(try simp only[QN,KG,Ku,Ga,CR,Qw,QU,beq_iff_eq,bne_iff_ne,ne_eq,Lz,Qcp,YZ,FO,NG,NF,Kv,WI,Rj,Rk,Rl]at *);omega) (by(try simp only[QN,KG,Ku,Ga,CR,Qw,QU,beq_iff_eq,bne_iff_ne,ne_eq,Lz,Qcp,YZ,FO,NG,NF,Kv,WI,Rj,Rk,Rl]at *);omega)) (λe_10 hv11=>?_)
   refine T0 (T4 (by(try simp only[QN,KG,Ku,Ga,CR,Qw,QU,beq_iff_eq,bne_iff_ne,ne_eq,Lz,Qcp,YZ,FO,NG,NF,Kv,WI,Rj,Rk,Rl]at *);omega) (by(try simp only[QN,KG,Ku,Ga,CR,Qw,QU,beq_iff_eq,bne_iff_ne,ne_eq,Lz,Qcp,YZ,FO,NG,NF,Kv,WI,Rj,Rk,Rl]at *);omega)) (λe_12 hv13=>?_)
   exact T3
  unfold GN;exact T3
 unfold GN;exact T3
def Qee (O:(L_ QK))(h_l1:(QV JG) O):Qg (Uv O) λr=>((QV (λ_=>True)) r.1/\True)/\(r.2=t_->r.1.length=O.length/\∀x∈r.1,1<=x/\x<=1024):=by
 unfold Uv;refine T1 (λhc=>T2 ⟨⟨QV.nil,trivial⟩,λh=>by cases h⟩) (λhc=>?_);have hl:O.length<=32:=by simp only[QU]at hc;omega
 refine T0 (Qg.up O.length (λst=>st.1) (λst=>(st.2.2.length:Int)=st.1/\∀x∈st.2.2,1<=x/\x<=1024) (Q:=λq=>∀l,q=.inr l->l.length=O.length/\∀x∈l,1<=x/\x<=1024) rfl ⟨rfl,λx h=>(by cases h)⟩ (λi st hi hn hj=>?_)) (λq hq=>?_)
 ·obtain⟨x,m,l⟩:=st;replace hi:x=(i:Int):=hi;replace hj:(l.length:Int)=x/\∀x∈l,1<=x/\x<=1024:=hj;obtain⟨hj,hj2⟩:=hj;show Qg (DT O x m l) _;unfold DT;refine T1 (λhc2=>?_) (λhc2=>?_)
  ·simp only[Qw]at hc2;refine T0 (T4 (by omega) (by omega)) λe he=>?_;refine T0 (Qpg e l (h_l1.2 e he) ⟨by unfold maxLen;omega,λ_ _=>trivial⟩) λy _=>?_;refine T0 (P:=λz=>z=f_->1<=y/\y<=1024) ?_ λz hz=>?_
   ·unfold RG;refine T0 (Hr e.Name (h_l1.2 e he).1) λz _=>?_;refine T1 (λ_=>T2 (λh=>by cases h)) λ_=>T1 (λ_=>T2 (λh=>by cases h)) λ_=>T1 (λ_=>T2 (λh=>by cases h)) λh1=>T2 λh2=>?_;simp only[QU]at h1 h2;omega
   unfold RH;refine T1 (λ_=>T2 (Qp λl h=>by cases h)) λhz0=>?_;refine T0 (T5 (by simp;omega)) λ_ _=>?_;exact T2 (QH ⟨by omega,by subst hi;exact Qo (by omega) (by unfold maxLen;omega:O.length<=maxLen),by simp only[YZ,FO];subst hi;rw[Qo (show i<O.length by omega) (by unfold maxLen;omega)];omega,λu hu=>by
    rcases YT.1 hu with hu|hu
    ·exact hj2 u hu
    simp at hu;subst hu;exact hz hz0⟩)
  simp only[QU]at hc2;exact T2 (Qp λl' h=>by cases h;exact⟨by omega,hj2⟩)
 rcases q with q|q
 ·exact T2 ⟨⟨QV.nil,trivial⟩,λh=>by cases h⟩
 have:=hq q rfl;exact T2 ⟨⟨⟨by show q.length<=maxLen;unfold maxLen;omega,λ_ _=>trivial⟩,trivial⟩,λ_=>this⟩
def Qng (O:(L_ QK))(h:(QV JG) O):Xs (PQ O):=by
 unfold PQ;refine T0 (Qee O (h)) (λx_1 hv2=>?_);exact T3
def QgK (v1:Qc)(O:Int)(h:Xu v1)(hp0:0<=O)(hp1:O<v1.Colours.length):Xs (CZ v1 O):=by
 have hl:=h.1.1;unfold maxLen at hl;unfold CZ;rw[Xb (show -9223372036854775808<=O+1/\O+1<=9223372036854775807 by omega)];refine T0 (T5 (by simp only[QN,Qw];omega)) λ_ _=>?_;exact T0 (Qng _ ((h.1.drop _).take _)) λx _=>T3
def Qph : L_ ByteArray:=(MO).getD []
set_option maxRecDepth 100000 in
def QxZ : MO=C Qph:=by kernel_rfl
set_option maxRecDepth 100000 in
def QtS : (decide (Qph.length<=1000)&&Qph.all λs=>decide (s.size<=1000))=t_:=by kernel_rfl
def Qpi : Qg (MO) λr=>QV AT r:=by
 have h:=QtS;rw[QN,decide_eq_true_iff,XS]at h;refine⟨Qph,QxZ,by unfold maxLen;omega,λx O=>?_⟩;have:=h.2 x O;rw[decide_eq_true_iff]at this;unfold AT maxLen;omega
def ZC (s1:(L_ ByteArray))(v2:ByteArray)(O:(QV AT) s1)(h_v2:AT v2):Xs (DH s1 v2):=by
 unfold DH;refine T0 (Qg.up (s1.length) (λst=>st) (λ_=>True) (Q:=λq=>True) rfl trivial (λi2 st h hn4 hj5=>?_)) (λq6 hq7=>?_)
 ·obtain⟨x_1,hst⟩:∃y,y=st:=⟨_,rfl⟩;subst hst;replace h:x_1=(i2:Int):=h;show Qg (Ep s1 v2 x_1) _;unfold Ep;refine T1 (λhc8=>?_) (λhc8=>?_)
  ·refine T0 (T4 (by omega) (by simp_all)) (λe_9 hv10=>?_);refine T1 (λhc11=>?_) (λhc11=>?_)
   ·exact T2 (Qp trivial)
   exact T2 (QH ⟨(by simp_all),by subst h;exact Qo (by simp_all) (O).1,trivial⟩)
  exact T2 (Qp trivial)
 rcases q6 with q6|q6
 ·show Qg (Er q6) _;unfold Er;exact T3
 show Qg (Es) _;unfold Es;exact T3
def Sw (s1:(L_ ByteArray))(v2:ByteArray)(h:(QV AT) s1)(O:AT v2):Xs (Wz s1 v2):=by
 unfold Wz;refine T0 (ZC s1 v2 (h) (O)) (λx_1 hv2=>?_);exact T3
def QqC (s1:ByteArray)(h:AT s1):Xs (Zi s1):=by
 unfold Zi;refine T0 (Qpi  ) (λx_1 O=>?_);refine T0 (Sw x_1 s1 (O) (h)) (λx_3 hv4=>?_);exact T3
def Li (O:ByteArray)(h:AT O):Xs (Aj O):=by
 unfold Aj;refine T0 (P:=λ_=>True) ?_ (λx_1 hv2=>?_)
 ·unfold QeX;refine T0 (Hr O (h)) (λx_3 hv4=>?_);refine T1 (λhc5=>?_) (λhc5=>?_)
  ·refine T0 (QqC O (h)) (λx_6 hv7=>?_);exact T3
  exact T3
 unfold QeY;exact T3
def Qev (O:ByteArray)(h:AT O):Xs (AE O):=by
 unfold AE;refine T0 (Li O (h)) (λx_1 hv2=>?_);exact T3
def Sb (s1:(L_ ByteArray))(h:(QV AT) s1):Xs (Wn s1):=by
 unfold Wn;refine T0 (Qg.up (s1.length) (λst=>st) (λ_=>True) (Q:=λq=>True) rfl trivial (λi2 st O hn4 hj5=>?_)) (λq6 hq7=>?_)
 ·obtain⟨x_1,hst⟩:∃y,y=st:=⟨_,rfl⟩;subst hst;replace O:x_1=(i2:Int):=O;show Qg (DI s1 x_1) _;unfold DI;refine T1 (λhc8=>?_) (λhc8=>?_)
  ·refine T0 (T4 (by omega) (by simp_all)) (λe_9 hv10=>?_);refine T0 (Qev e_9 (((h).2 e_9 hv10))) (λx_11 hv12=>?_);refine T1 (λhc13=>?_) (λhc13=>?_)
   ·exact T2 (Qp trivial)
   exact T2 (QH ⟨(by simp_all),by subst O;exact Qo (by simp_all) (h).1,trivial⟩)
  exact T2 (Qp trivial)
 rcases q6 with q6|q6
 ·show Qg (DJ q6) _;unfold DJ;exact T3
 show Qg (DK) _;unfold DK;exact T3
def Oy (O:(L_ ByteArray))(h:(QV AT) O):Xs (Kx O):=by
 unfold Kx;refine T0 (Sb O (h)) (λx_1 hv2=>?_);exact T3
def QgL (O:QK)(h:JG O):Xs (Fa O):=by
 unfold Fa;refine T0 (P:=λ_=>True) ?_ (λx_1 hv2=>?_)
 ·unfold Sq;refine T0 (Li O.Name (h.1)) (λx_3 hv4=>?_);refine T1 (λhc5=>?_) (λhc5=>?_)
  ·refine T1 (λhc6=>?_) (λhc6=>?_)
   ·exact T3
   refine T0 (Oy O.Names (h.2.2.2.2.1)) (λx_7 hv8=>?_);exact T3
  exact T3
 unfold Sr;exact T3
def QjK (v1:Qc)(v2:Int)(v3:Int)(v4:QK)(v5:Int)(h:Xu v1)(O:JG v4)(hp0:0<=v2)(hp1:v2<v1.Colours.length):Xs (LP v1 v2 v3 v4 v5):=by
 unfold LP;refine T0 (QgK v1 v2 (h) (by omega) (by omega)) (λx_1 hv2=>?_);refine T1 (λhc3=>?_) (λhc3=>?_)
 ·exact T3
 refine T0 (QgL v4 (O)) (λx_4 hv5=>?_);refine T1 (λhc6=>?_) (λhc6=>?_)
 ·exact T3
 exact T3
def QiH (k1:Int)(c2:QK)(v3:Qc)(h:JG c2)(O:Xu v3)(hp0:0<=k1)(hp1:k1<v3.Colours.length):Xs (HX k1 c2 v3):=by
 unfold HX;refine T0 (QjK v3 k1 8 c2 8 (O) (h) (by omega) (by omega)) (λx_1 hv2=>?_);exact T3
def QcN (l1:(L_ QK))(v2:Qc)(h:(QV JG) l1)(h_v2:Xu v2)(hp0:l1.length<=v2.Colours.length):Xs (Ue l1 v2):=by
 unfold Ue;refine T0 (Qg.up (l1.length) (λst=>st) (λ_=>True) (Q:=λq=>True) rfl trivial (λi2 st O hn4 hj5=>?_)) (λq6 hq7=>?_)
 ·obtain⟨x_1,hst⟩:∃y,y=st:=⟨_,rfl⟩;subst hst;replace O:x_1=(i2:Int):=O;show Qg (Ba l1 v2 x_1) _;unfold Ba;refine T1 (λhc8=>?_) (λhc8=>?_)
  ·refine T0 (T4 (by omega) (by simp_all)) (λe_9 hv10=>?_);refine T0 (QiH x_1 e_9 v2 (((h).2 e_9 hv10)) (h_v2) (by omega) (by simp_all;omega)) (λx_11 hv12=>?_);refine T1 (λhc13=>?_) (λhc13=>?_)
   ·exact T2 (Qp trivial)
   exact T2 (QH ⟨(by simp_all),by subst O;exact Qo (by simp_all) (h).1,trivial⟩)
  exact T2 (Qp trivial)
 rcases q6 with q6|q6
 ·show Qg (Bb q6.1 q6.2) _;unfold Bb;exact T3
 show Qg (Bc) _;unfold Bc;exact T3
def Qcl (n1:Qc)(h:Xu n1):Xs (Hh n1):=by
 unfold Hh;refine T0 (QcN n1.Colours n1 (h.1) (h) (by omega)) (λx_1 O=>?_);exact T3
def Qle (O:Xn)(h:DY O):Xs (NR O):=by
 unfold NR;refine T0 (Li O.Name (h.1)) (λx_1 hv2=>?_);exact T3
def Qlf (p1:Xn)(v2:Xn)(h:DY p1)(O:DY v2):Xs (NS p1 v2):=by
 unfold NS;exact T3
def Mv (s1:(L_ Xn))(v2:Xn)(h:(QV DY) s1)(h_v2:DY v2):Xs (JU s1 v2):=by
 unfold JU;refine T0 (Qg.up (s1.length) (λst=>st) (λ_=>True) (Q:=λq=>True) rfl trivial (λi2 st O hn4 hj5=>?_)) (λq6 hq7=>?_)
 ·obtain⟨x_1,hst⟩:∃y,y=st:=⟨_,rfl⟩;subst hst;replace O:x_1=(i2:Int):=O;show Qg (KX s1 v2 x_1) _;unfold KX;refine T1 (λhc8=>?_) (λhc8=>?_)
  ·refine T0 (T4 (by omega) (by simp_all)) (λe_9 hv10=>?_);refine T0 (Qlf e_9 v2 (((h).2 e_9 hv10)) (h_v2)) (λx_11 hv12=>?_);refine T1 (λhc13=>?_) (λhc13=>?_)
   ·exact T2 (Qp trivial)
   exact T2 (QH ⟨(by simp_all),by subst O;exact Qo (by simp_all) (h).1,trivial⟩)
  exact T2 (Qp trivial)
 rcases q6 with q6|q6
 ·show Qg (KY q6) _;unfold KY;exact T3
 show Qg (KZ) _;unfold KZ;exact T3
def HL (s1:(L_ Xn))(v2:Xn)(h:(QV DY) s1)(O:DY v2):Xs (Jx s1 v2):=by
 unfold Jx;refine T0 (Mv s1 v2 (h) (O)) (λx_1 hv2=>?_);exact T3
def Qlg (v1:Qc)(v2:Int)(v3:Xn)(h:Xu v1)(O:DY v3)(hp0:0<=v2)(hp1:v2<v1.Places.length):Xs (NT v1 v2 v3):=by
 unfold NT;refine T0 (T5 (by simp_all;omega)) (λ_ _=>?_);refine T0 (HL ((v1.Places.drop 0).take (v2.toNat-0)) v3 (((h.2.1).drop _).take _) (O)) (λx_1 hv2=>?_);exact T3
def MU (O:(L_ QK))(k2:Int)(h:(QV JG) O):Xs (Dj O k2):=by
 unfold Dj;exact T3
def Qlh (O:Qc)(v2:Xn)(h:Xu O)(h_v2:DY v2):Xs (NU O v2):=by
 unfold NU;refine T0 (MU O.Colours v2.Colour (h.1)) (λx_1 hv2=>?_);exact T3
def Qr1 (b1:QBg)(h_b1:(QV (λ_=>True)) b1):Xs (Gr b1):=by
 unfold Gr;refine T0 (Qg.up (b1.length) (λst=>st.2) (λ_=>True) (Q:=λq=>True) rfl trivial (λi3 st O hn5 hj6=>?_)) (λq7 hq8=>?_)
 ·obtain⟨h,x_2⟩:=st;replace O:x_2=(i3:Int):=O;show Qg (Ea b1 h x_2) _;unfold Ea;refine T1 (λhc9=>?_) (λhc9=>?_)
  ·refine T0 (T4 (by omega) (by simp_all)) (λe_10 hv11=>?_);refine T1 (λhc12=>?_) (λhc12=>?_)
   ·exact T2 (Qp trivial)
   exact T2 (QH ⟨(by simp_all),by subst O;exact Qo (by simp_all) (h_b1).1,trivial⟩)
  exact T2 (Qp trivial)
 rcases q7 with q7|q7
 ·show Qg (Qab) _;unfold Qab;exact T3
 show Qg (Qac) _;unfold Qac;exact T3
def Qli (O:Xn)(h:DY O):Xs (NV O):=by
 unfold NV;refine T0 (Qr1 O.First (h.2.2)) (λx_1 hv2=>?_);exact T3
def MV (l1:(L_ QK))(k2:Int)(O:(QV JG) l1):Qg (Gt l1 k2) λr=>(True/\Qr0 r.2)/\(r.1=t_->(0<=k2/\k2<r.2.sizes.length)/\r.2.k=k2/\r.2.all.length=r.2.sizes.length/\∀x∈r.2.sizes,1<=x/\x<=1024):=by
 unfold Gt;refine T0 (Qee l1 O) λx hx=>?_;refine T1 (λ_=>T2 ⟨⟨trivial,QV.nil,QV.nil,trivial⟩,λh=>by cases h⟩) λhc=>?_;simp only[Ku,CR,QU]at hc;have:=hx.2 hc.1;exact T2 ⟨⟨trivial,O,hx.1.1,trivial⟩,λ_=>⟨⟨by omega,by show k2<(x.1.length:Int);omega⟩,rfl,this.1.symm,this.2⟩⟩
def KW (l1:(L_ QK))(k2:Int)(O:(QV JG) l1):Qg (Jg l1 k2) λr=>0<=r/\r<=1024:=by
 unfold Jg;refine T0 (MV l1 k2 O) (λx hx=>?_);refine T1 (λhc=>T2 (by omega)) (λhc=>?_);have h:=hx.2 (by simpa using hc);exact T0 (T4 (by omega) (by omega)) λe he=>T2 (by have:=h.2.2.2 e he;omega)
def QiI (h:(Int×Int))(O:Int)  : Xs (HY h O):=by
 unfold HY;exact T3
def Sc (s1:QBg)(v2:Int)(O:(QV (λ_=>True)) s1):Xs (Wo s1 v2):=by
 unfold Wo;refine T0 (Qg.up (s1.length) (λst=>st) (λ_=>True) (Q:=λq=>True) rfl trivial (λi2 st h hn4 hj5=>?_)) (λq6 hq7=>?_)
 ·obtain⟨x_1,hst⟩:∃y,y=st:=⟨_,rfl⟩;subst hst;replace h:x_1=(i2:Int):=h;show Qg (DL s1 v2 x_1) _;unfold DL;refine T1 (λhc8=>?_) (λhc8=>?_)
  ·refine T0 (T4 (by omega) (by simp_all)) (λe_9 hv10=>?_);refine T0 (QiI e_9 v2 ) (λx_11 hv12=>?_);refine T1 (λhc13=>?_) (λhc13=>?_)
   ·exact T2 (Qp trivial)
   exact T2 (QH ⟨(by simp_all),by subst h;exact Qo (by simp_all) (O).1,trivial⟩)
  exact T2 (Qp trivial)
 rcases q6 with q6|q6
 ·show Qg (DM q6) _;unfold DM;exact T3
 show Qg (DN) _;unfold DN;exact T3
def Oz (O:QBg)(v2:Int)(h:(QV (λ_=>True)) O):Xs (Kz O v2):=by
 unfold Kz;refine T0 (Sc O v2 (h)) (λx_1 hv2=>?_);exact T3
def Qlj (v1:Qc)(v2:Xn)(h:Xu v1)(O:DY v2):Xs (NW v1 v2):=by
 unfold NW;refine T0 (KW v1.Colours v2.Colour (h.1)) (λx_1 hv2=>?_);refine T0 (Oz v2.First x_1 (O.2.2)) (λx_3 hv4=>?_);exact T3
def QjL (v1:Xn)(v2:Int)(v3:Qc)(v4:Int)(v5:Int)(v6:Int)(v7:Int)(v8:Int)(h:DY v1)(O:Xu v3)(hp0:0<=v4)(hp1:v4<v3.Places.length):Xs (LQ v1 v2 v3 v4 v5 v6 v7 v8):=by
 unfold LQ;refine T0 (Qle v1 (h)) (λx_1 hv2=>?_);refine T1 (λhc3=>?_) (λhc3=>?_)
 ·exact T3
 refine T0 (Qlg v3 v4 v1 (O) (h) (by omega) (by omega)) (λx_4 hv5=>?_);refine T1 (λhc6=>?_) (λhc6=>?_)
 ·exact T3
 refine T0 (Qlh v3 v1 (O) (h)) (λx_7 hv8=>?_);refine T1 (λhc9=>?_) (λhc9=>?_)
 ·exact T3
 refine T0 (Qli v1 (h)) (λx_10 hv11=>?_);refine T1 (λhc12=>?_) (λhc12=>?_)
 ·exact T3
 refine T0 (Qlj v3 v1 (O) (h)) (λx_13 hv14=>?_);refine T1 (λhc15=>?_) (λhc15=>?_)
 ·exact T3
 exact T3
def Qpj (n1:Qc)(k2:Int)(h:Xu n1):Xs (SL n1 k2):=by
 unfold SL;refine T0 (WR n1.Places k2 (h.2.1)) (λx_1 hv2=>?_);refine T1 (λhc3=>?_) (λhc3=>?_)
 ·exact T3
 refine T0 (T4 (by simp_all) (by simp_all)) (λO hv5=>?_);refine T0 (QjL O 1 n1 k2 5 3 1 8 (((h.2.1).2 O hv5)) (h) (by simp_all) (by simp_all)) (λx_6 hv7=>?_);exact T3
def Qpk (k1:Int)(p2:Xn)(v3:Qc)(O:DY p2)(h:Xu v3):Xs (SM k1 p2 v3):=by
 unfold SM;refine T0 (Qpj v3 k1 (h)) (λx_1 hv2=>?_);exact T3
def Qef (l1:(L_ Xn))(v2:Qc)(h:(QV DY) l1)(h_v2:Xu v2):Xs (UU l1 v2):=by
 unfold UU;refine T0 (Qg.up (l1.length) (λst=>st) (λ_=>True) (Q:=λq=>True) rfl trivial (λi2 st O hn4 hj5=>?_)) (λq6 hq7=>?_)
 ·obtain⟨x_1,hst⟩:∃y,y=st:=⟨_,rfl⟩;subst hst;replace O:x_1=(i2:Int):=O;show Qg (BI l1 v2 x_1) _;unfold BI;refine T1 (λhc8=>?_) (λhc8=>?_)
  ·refine T0 (T4 (by omega) (by simp_all)) (λe_9 hv10=>?_);refine T0 (Qpk x_1 e_9 v2 (((h).2 e_9 hv10)) (h_v2)) (λx_11 hv12=>?_);refine T1 (λhc13=>?_) (λhc13=>?_)
   ·exact T2 (Qp trivial)
   exact T2 (QH ⟨(by simp_all),by subst O;exact Qo (by simp_all) (h).1,trivial⟩)
  exact T2 (Qp trivial)
 rcases q6 with q6|q6
 ·show Qg (BJ q6.1 q6.2) _;unfold BJ;exact T3
 show Qg (BK) _;unfold BK;exact T3
def Pm (O:(L_ QL))(h:Int)(h_l1:(QV Jk) O):Qg (Ks O h) λr=>r=t_->0<=h/\h<O.length:=by
 unfold Ks;exact T2 (by first|(intro hr;first|(cases hr;done)|omega|((try simp only[QN,KG,Ku,Ga,CR,Qw,QU,beq_iff_eq,bne_iff_ne,ne_eq,Lz,Qcp,YZ,FO,NG,NF,Kv,WI,Rj,Rk,Rl]at *);omega))|((try simp only[QN,KG,Ku,Ga,CR,Qw,QU,beq_iff_eq,bne_iff_ne,ne_eq,Lz,Qcp,YZ,FO,NG,NF,Kv,WI,Rj,Rk,Rl]at *);omega)|simp_all)
def Qpl (v1:Int)(v2:Qc)(v3:QL)(h:Xu v2)(O:Jk v3):Xs (SN v1 v2 v3):=by
 unfold SN;exact T3
def QjM (v1:Int)(v2:Qc)(v3:QL)(v4:Int)(h:Xu v2)(O:Jk v3):Xs (LR v1 v2 v3 v4):=by
 unfold LR;exact T3
def QjN (v1:Int)(v2:Qc)(v3:QL)(v4:Int)(h:Xu v2)(O:Jk v3):Xs (LS v1 v2 v3 v4):=by
 unfold LS;exact T3
def QjO (v1:Int)(v2:Qc)(v3:QL)(h:Xu v2)(O:Jk v3):Xs (LT v1 v2 v3):=by
 unfold LT;exact T3
def Qnh (O:QL)(h:Jk O):Xs (PT O):=by
 unfold PT;refine T0 (Li O.Name (h.1)) (λx_1 hv2=>?_);exact T3
def Qni (p1:QL)(v2:QL)(h:Jk p1)(O:Jk v2):Xs (PU p1 v2):=by
 unfold PU;exact T3
def NC (s1:(L_ QL))(v2:QL)(h:(QV Jk) s1)(h_v2:Jk v2):Xs (Kn s1 v2):=by
 unfold Kn;refine T0 (Qg.up (s1.length) (λst=>st) (λ_=>True) (Q:=λq=>True) rfl trivial (λi2 st O hn4 hj5=>?_)) (λq6 hq7=>?_)
 ·obtain⟨x_1,hst⟩:∃y,y=st:=⟨_,rfl⟩;subst hst;replace O:x_1=(i2:Int):=O;show Qg (Wu s1 v2 x_1) _;unfold Wu;refine T1 (λhc8=>?_) (λhc8=>?_)
  ·refine T0 (T4 (by omega) (by simp_all)) (λe_9 hv10=>?_);refine T0 (Qni e_9 v2 (((h).2 e_9 hv10)) (h_v2)) (λx_11 hv12=>?_);refine T1 (λhc13=>?_) (λhc13=>?_)
   ·exact T2 (Qp trivial)
   exact T2 (QH ⟨(by simp_all),by subst O;exact Qo (by simp_all) (h).1,trivial⟩)
  exact T2 (Qp trivial)
 rcases q6 with q6|q6
 ·show Qg (Wv q6) _;unfold Wv;exact T3
 show Qg (Ww) _;unfold Ww;exact T3
def Lq (s1:(L_ QL))(v2:QL)(h:(QV Jk) s1)(O:Jk v2):Xs (JO s1 v2):=by
 unfold JO;refine T0 (NC s1 v2 (h) (O)) (λx_1 hv2=>?_);exact T3
def Qnj (v1:Qc)(v2:Int)(v3:QL)(h:Xu v1)(O:Jk v3)(hp0:0<=v2)(hp1:v2<v1.Tasks.length):Xs (PV v1 v2 v3):=by
 unfold PV;refine T0 (T5 (by simp_all;omega)) (λ_ _=>?_);refine T0 (Lq ((v1.Tasks.drop 0).take (v2.toNat-0)) v3 (((h.2.2.1).drop _).take _) (O)) (λx_1 hv2=>?_);exact T3
def Qnk (v1:Int)(O:QL)(h:Jk O):Xs (IX v1 O):=by
 unfold IX;exact T3
def Qew (O:JH)(h:Ur O):Xs (AG O):=by
 unfold AG;refine T0 (Li O.Name (h.1)) (λx_1 hv2=>?_);exact T3
def Qex (p1:JH)(v2:JH)(h:Ur p1)(O:Ur v2):Xs (AH p1 v2):=by
 unfold AH;exact T3
def Pn (s1:(L_ JH))(v2:JH)(h:(QV Ur) s1)(h_v2:Ur v2):Xs (KL s1 v2):=by
 unfold KL;refine T0 (Qg.up (s1.length) (λst=>st) (λ_=>True) (Q:=λq=>True) rfl trivial (λi2 st O hn4 hj5=>?_)) (λq6 hq7=>?_)
 ·obtain⟨x_1,hst⟩:∃y,y=st:=⟨_,rfl⟩;subst hst;replace O:x_1=(i2:Int):=O;show Qg (WT s1 v2 x_1) _;unfold WT;refine T1 (λhc8=>?_) (λhc8=>?_)
  ·refine T0 (T4 (by omega) (by simp_all)) (λe_9 hv10=>?_);refine T0 (Qex e_9 v2 (((h).2 e_9 hv10)) (h_v2)) (λx_11 hv12=>?_);refine T1 (λhc13=>?_) (λhc13=>?_)
   ·exact T2 (Qp trivial)
   exact T2 (QH ⟨(by simp_all),by subst O;exact Qo (by simp_all) (h).1,trivial⟩)
  exact T2 (Qp trivial)
 rcases q6 with q6|q6
 ·show Qg (WU q6) _;unfold WU;exact T3
 show Qg (WV) _;unfold WV;exact T3
def MW (s1:(L_ JH))(v2:JH)(h:(QV Ur) s1)(O:Ur v2):Xs (Ke s1 v2):=by
 unfold Ke;refine T0 (Pn s1 v2 (h) (O)) (λx_1 hv2=>?_);exact T3
def Qey (v1:(L_ JH))(v2:Int)(v3:JH)(h:(QV Ur) v1)(O:Ur v3)(hp0:0<=v2)(hp1:v2<v1.length):Xs (AI v1 v2 v3):=by
 unfold AI;refine T0 (T5 (by simp_all;omega)) (λ_ _=>?_);refine T0 (MW ((v1.drop 0).take (v2.toNat-0)) v3 (((h).drop _).take _) (O)) (λx_1 hv2=>?_);exact T3
def Qez (O:Qc)(v2:JH)(h:Xu O)(h_v2:Ur v2):Xs (AJ O v2):=by
 unfold AJ;refine T0 (MU O.Colours v2.Colour (h.1)) (λx_1 hv2=>?_);exact T3
def QjP (v1:JH)(v2:Int)(v3:(L_ JH))(v4:Int)(v5:Int)(v6:Qc)(v7:Int)(h:Ur v1)(O:(QV Ur) v3)(h_v6:Xu v6)(hp0:0<=v4)(hp1:v4<v3.length):Xs (LV v1 v2 v3 v4 v5 v6 v7):=by
 unfold LV;refine T0 (Qew v1 (h)) (λx_1 hv2=>?_);refine T1 (λhc3=>?_) (λhc3=>?_)
 ·exact T3
 refine T0 (Qey v3 v4 v1 (O) (h) (by omega) (by omega)) (λx_4 hv5=>?_);refine T1 (λhc6=>?_) (λhc6=>?_)
 ·exact T3
 refine T0 (Qez v6 v1 (h_v6) (h)) (λx_7 hv8=>?_);refine T1 (λhc9=>?_) (λhc9=>?_)
 ·exact T3
 exact T3
def QgM (k1:Int)(v2:JH)(v3:(L_ JH))(v4:Qc)(h:Ur v2)(O:(QV Ur) v3)(h_v4:Xu v4)(hp0:0<=k1)(hp1:k1<v3.length):Xs (Fb k1 v2 v3 v4):=by
 unfold Fb;refine T0 (QjP v2 1 v3 k1 5 v4 3 (h) (O) (h_v4) (by omega) (by omega)) (λx_1 hv2=>?_);exact T3
def Qgb (l1:(L_ JH))(v2:(L_ JH))(v3:Qc)(h:(QV Ur) l1)(h_v2:(QV Ur) v2)(h_v3:Xu v3)(hp0:l1.length<=v2.length):Xs (BL l1 v2 v3):=by
 unfold BL;refine T0 (Qg.up (l1.length) (λst=>st) (λ_=>True) (Q:=λq=>True) rfl trivial (λi2 st O hn4 hj5=>?_)) (λq6 hq7=>?_)
 ·obtain⟨x_1,hst⟩:∃y,y=st:=⟨_,rfl⟩;subst hst;replace O:x_1=(i2:Int):=O;show Qg (Fk l1 v2 v3 x_1) _;unfold Fk;refine T1 (λhc8=>?_) (λhc8=>?_)
  ·refine T0 (T4 (by omega) (by simp_all)) (λe_9 hv10=>?_);refine T0 (QgM x_1 e_9 v2 v3 (((h).2 e_9 hv10)) (h_v2) (h_v3) (by omega) (by simp_all;omega)) (λx_11 hv12=>?_);refine T1 (λhc13=>?_) (λhc13=>?_)
   ·exact T2 (Qp trivial)
   exact T2 (QH ⟨(by simp_all),by subst O;exact Qo (by simp_all) (h).1,trivial⟩)
  exact T2 (Qp trivial)
 rcases q6 with q6|q6
 ·show Qg (Fl q6.1 q6.2) _;unfold Fl;exact T3
 show Qg (Fm) _;unfold Fm;exact T3
def QiJ (n1:Qc)(l2:(L_ JH))(O:Xu n1)(h:(QV Ur) l2):Xs (HZ n1 l2):=by
 unfold HZ;refine T0 (Qgb l2 l2 n1 (h) (h) (O) (by omega)) (λx_1 hv2=>?_);exact T3
def Qnl (v1:Qc)(v2:QL)(h:Xu v1)(O:Jk v2):Xs (PW v1 v2):=by
 unfold PW;refine T0 (QiJ v1 v2.Vars (h) (O.2.1)) (λx_1 hv2=>?_);exact T3
def Qlk (v1:Qc)(v2:QL)(v3:Int)(h:Xu v1)(O:Jk v2):Xs (AM v1 v2 v3):=by
 unfold AM;refine T0 (Qnl v1 v2 (h) (O)) (λx_1 hv2=>?_);exact T3
def Qfs (n1:Qc)(k2:Int)(h:Xu n1):Xs (GI n1 k2):=by
 unfold GI;refine T0 (Pm n1.Tasks k2 (h.2.2.1)) (λx_1 hv2=>?_);refine T1 (λhc3=>?_) (λhc3=>?_)
 ·exact T3
 refine T0 (T4 (by simp_all) (by simp_all)) (λe_4 hv5=>?_);refine T0 (Qg.up (e_4.Vars.length) (λst=>st.2) (λ_=>True) (Q:=λq=>True) rfl trivial (λi8 st hi9 hn10 hj11=>?_)) (λO hq13=>?_)
 ·obtain⟨out_6,x_7⟩:=st;replace hi9:x_7=(i8:Int):=hi9;show Qg (Cz e_4 n1 out_6 x_7) _;unfold Cz;refine T1 (λhc14=>?_) (λhc14=>?_)
  ·refine T0 (T4 (by omega) (by simp_all)) (λe_15 hv16=>?_);refine T0 (KW n1.Colours e_15.Colour (h.1)) (λx_17 hv18=>?_);refine T1 (λhc19=>?_) (λhc19=>?_)
   ·exact T2 (Qp trivial)
   exact T2 (QH ⟨(by simp_all),by subst hi9;exact Qo (by simp_all) (((h.2.2.1).2 e_4 hv5).2.1).1,trivial⟩)
  exact T2 (Qp trivial)
 rcases O with O|O
 ·show Qg (TC) _;unfold TC;exact T3
 show Qg (TD O) _;unfold TD;exact T3
def Qnm (O:Qc)(v2:Int)(h:Xu O):Xs (IY O v2):=by
 unfold IY;refine T0 (Qfs O v2 (h)) (λx_1 hv2=>?_);exact T3
def Qr2 (h:Int):Qg (Si h) λr=>0<=r->(h=1\/h=2\/h=3\/h=4\/h=5\/h=6)/\(h=3\/h=4->r=1)/\(h=5->r=2)/\(h=6->r=3):=by
 unfold Si;refine T1 (λO=>?_) (λO=>?_)
 ·unfold Cb;rw[O];simp only[beq_iff_eq]at O;exact T2 (by omega)
 simp only[beq_eq_false_iff_ne]at O;unfold Cb;refine T1 (λO=>T2 (by simp only[beq_iff_eq]at O;omega)) (λhc2=>?_);simp only[beq_eq_false_iff_ne]at hc2;refine T1 (λhc3=>?_) (λhc3=>?_)
 ·unfold Ca;rw[hc3];simp only[beq_iff_eq]at hc3;exact T2 (by omega)
 simp only[beq_eq_false_iff_ne]at hc3;unfold Ca;refine T1 (λO=>T2 (by simp only[beq_iff_eq]at O;omega)) (λhc4=>?_);simp only[beq_eq_false_iff_ne]at hc4;refine T1 (λO=>T2 (by simp only[beq_iff_eq]at O;omega)) (λhc5=>?_);simp only[beq_eq_false_iff_ne]at hc5;exact T1 (λO=>T2 (by simp only[beq_iff_eq]at O;omega)) (λhc6=>T2 (by omega))
def QqD (JZ:Int)  : Xs (ON JZ):=by
 unfold ON;exact T3
def QaF (rec_:Qs->Int->O_ Bool)(O:L_ Qs)(v2:Int)(h1:O.length<=maxLen)(h:∀k∈O,Qg (rec_ k v2) λr=>r=t_->POk v2 k):Qg (Ya rec_ O v2) λr=>r=f_->∀k∈O,POk v2 k:=by
 unfold Ya Kk;refine T0 (P:=λx=>x<0->∀k∈O,POk v2 k) ?_ λx hx=>T2 λh=>hx (by simp only[QU]at h;omega);refine T0 (Qg.up O.length (λst=>st) (λst=>∀(j:Nat) k,(j:Int)<st->O[j]? = C k->POk v2 k) (Q:=λq=>(∀x,q=.inl x->0<=x)/\(q=.inr ()->∀k∈O,POk v2 k)) rfl (λj k hj=>by omega) (λi st hi hn hj=>?_)) (λq hq=>?_)
 ·show Qg (XZ O rec_ v2 st) _;unfold XZ PH;refine T1 (λhc=>?_) (λhc=>T2 (Qp ⟨λx h=>(by cases h),λ_ k hk=>by
   obtain⟨j,hj1,hj2⟩:=Ej.1 hk;simp only[QU]at hc;exact hj j k (by omega) (by rw[Qv hj1,hj2])⟩))
  simp only[Qw]at hc;rw[DO (by omega)];have hlt:st.toNat<O.length:=by omega
  rw[Qv hlt];refine T0 (P:=λk=>k=O[st.toNat]) (T2 rfl) λk hk=>?_;subst hk;refine T0 (P:=λr=>r=f_->POk v2 O[st.toNat]) (T0 (h _ (Xc hlt)) λx hx=>T2 λh=>hx (by simpa using h)) λx hx=>?_;refine T1 (λ_=>T2 (Qp ⟨λx h=>(by cases h;omega),λh=>(by cases h)⟩)) λhxf=>T2 (QH ⟨by omega,by rw[hi];exact Qo (by omega) h1,?_⟩);rw[hi,Qo (show i<O.length by omega) h1];intro j k hj' hk;by_cases c:j=i
  ·subst c;have e:st.toNat=j:=by omega
   have:=hx hxf;rw[Qv (by omega)]at hk;cases hk;simpa only[e] using this
  exact hj j k (by omega) hk
 rcases q with q|q
 ·exact T2 λh=>absurd (hq.1 q rfl) (by omega)
 exact T2 λ_=>hq.2 rfl
def TT : ∀(n:Nat) (e:Qs) (v:Int),WZ e->SizeOf.sizeOf e<=n->Qg (Jt n e v) λr=>r=t_->POk v e
 |0,e,_,_,h=>absurd e.pos (by omega)|n+1,e,v,he,h=>by
  unfold Jt Iv;refine T0 (Qr2 e.Kind) λx hx=>?_;refine T1 (λ_=>T2 λh=>by cases h) λh1=>T1 (λ_=>T2 λh=>by cases h) λh2=>?_;refine T0 (P:=λ_=>True) ?_ λy _=>?_
  ·unfold VD;exact T1 (λ_=>T0 (QqD e.Num) λx _=>T3) λ_=>T3
  unfold VE;refine T1 (λ_=>T2 λh=>by cases h) λ_=>?_;refine T0 (QaF (Jt n) e.Kids v (Dp he).1 λk O=>TT n k v ((Dp he).2 k O) (by have:=QbD O;omega)) λx hx2=>T2 λhx3=>?_;simp only[KA]at h1;have h3:=hx (by omega);simp only[Vj,Ku,QU,beq_eq_false_iff_ne]at h2;exact .mk e h3.1 (λO=>by omega) (λO=>by have:=h3.2.1 O;omega) (λO=>by have:=h3.2.2.1 O;omega) (λO=>by have:=h3.2.2.2 O;omega) (hx2 (by simpa using hx3))
def QqE (e1:Qs)(h:Int)(O:WZ e1):Qg (VF e1 h) λr=>r=t_->POk h e1:=TT _ e1 h O (Yk _)
def Qeg : ∀(n:Nat) (e:Qs),WZ e->SizeOf.sizeOf e<=n->Qg (WB n e) λ_=>True
 |0,e,_,h=>absurd e.pos (by omega)|n+1,e,he,h=>by
  unfold WB PG;refine T0 (Qg.up e.Kids.length (λst=>st.2) (λ_=>True) (Q:=λ_=>True) rfl trivial (λi st O hn _=>?_)) (λq _=>?_)
  ·obtain⟨a,x⟩:=st;replace O:x=(i:Int):=O;show Qg (VB e (WB n) a x) _;unfold VB;refine T1 (λhc=>?_) (λhc=>?_)
   ·simp only[Qw]at hc;refine T0 (T4 (by omega) (by omega)) λk hk=>?_;have:=QbD hk;refine T0 (Qeg n k ((Dp he).2 k hk) (by omega)) λd _=>?_;exact T2 (QH ⟨by omega,by subst O;exact Qo (by omega) (Dp he).1,trivial⟩)
   exact T2 (Qp trivial)
  unfold QeM;exact T3
def QqF (O:Qs)(h:WZ O):Qg (VC O) λ_=>True:=Qeg _ O h (Yk _)
def Qft : ∀(n:Nat) (e:Qs),WZ e->SizeOf.sizeOf e<=n->Qg (Du n e) λ_=>True
 |0,e,_,h=>absurd e.pos (by omega)|n+1,e,he,h=>by
  unfold Du SG;refine T0 (Qg.up e.Kids.length (λst=>st.2) (λ_=>True) (Q:=λ_=>True) rfl trivial (λi st O hn _=>?_)) (λq _=>?_)
  ·obtain⟨a,x⟩:=st;replace O:x=(i:Int):=O;show Qg (Qag e (Du n) a x) _;unfold Qag;refine T1 (λhc=>?_) (λhc=>?_)
   ·simp only[Qw]at hc;refine T0 (T4 (by omega) (by omega)) λk hk=>?_;have:=QbD hk;refine T0 (Qft n k ((Dp he).2 k hk) (by omega)) λd _=>?_;exact T2 (QH ⟨by omega,by subst O;exact Qo (by omega) (Dp he).1,trivial⟩)
   exact T2 (Qp trivial)
  unfold Qgo;exact T3
def Qr3 (O:Qs)(h:WZ O):Qg (Qa4 O) λ_=>True:=Qft _ O h (Yk _)
def Rn (e1:Qs)(O:Int)(h_e1:WZ e1):Qg (Ac e1 O) λr=>r=t_->POk O e1:=by
 unfold Ac;refine T0 (P:=λr=>r=t_->POk O e1) ?_ (λx hx=>T2 hx);unfold VG;refine T0 (QqF e1 h_e1) (λx _=>?_);refine T1 (λ_=>?_) (λ_=>T2 λh=>by cases h);refine T0 (Qr3 e1 h_e1) (λx _=>?_);refine T1 (λ_=>?_) (λ_=>T2 λh=>by cases h);exact T0 (QqE e1 O h_e1) (λx hx=>T2 hx)
def Qnn (v1:QL)(v2:Int)(h:Jk v1):Xs (PX v1 v2):=by
 unfold PX;refine T0 (P:=λ_=>True) ?_ (λx_1 hv2=>?_)
 ·unfold Qb6;refine T0 (Rn v1.Guard v2 (h.2.2.1)) (λx_3 hv4=>?_);refine T1 (λO=>?_) (λO=>?_)
  ·refine T1 (λhc6=>?_) (λhc6=>?_)
   ·exact T3
   exact T3
  exact T3
 unfold Qb7;exact T3
def QjQ (O:Qc)(v2:Jy)(h:Xu O)(h_v2:MT v2):Xs (LW O v2):=by
 unfold LW;refine T0 (WR O.Places v2.Place (h.2.1)) (λx_1 hv2=>?_);exact T3
def QjR (O:Jy)(v2:Int)(h:MT O):Xs (LX O v2):=by
 unfold LX;refine T0 (Rn O.Expr v2 (h.2)) (λx_1 hv2=>?_);exact T3
def QjS (v1:Qc)(v2:Jy)(v3:Int)(v4:Int)(v5:Int)(O:Xu v1)(h:MT v2):Xs (LY v1 v2 v3 v4 v5):=by
 unfold LY;refine T0 (QjQ v1 v2 (O) (h)) (λx_1 hv2=>?_);refine T1 (λhc3=>?_) (λhc3=>?_)
 ·exact T3
 refine T0 (QjR v2 v4 (h)) (λx_4 hv5=>?_);refine T1 (λhc6=>?_) (λhc6=>?_)
 ·exact T3
 exact T3
def Qno (p1:Int)(a2:Jy)(v3:Qc)(v4:Int)(h:MT a2)(O:Xu v3):Xs (PY p1 a2 v3 v4):=by
 unfold PY;refine T0 (QjS v3 a2 3 v4 1 (O) (h)) (λx_1 hv2=>?_);exact T3
def Qgc (l1:(L_ Jy))(v2:Qc)(v3:Int)(h:(QV MT) l1)(h_v2:Xu v2):Xs (BM l1 v2 v3):=by
 unfold BM;refine T0 (Qg.up (l1.length) (λst=>st) (λ_=>True) (Q:=λq=>True) rfl trivial (λi2 st O hn4 hj5=>?_)) (λq6 hq7=>?_)
 ·obtain⟨x_1,hst⟩:∃y,y=st:=⟨_,rfl⟩;subst hst;replace O:x_1=(i2:Int):=O;show Qg (Fo l1 v2 v3 x_1) _;unfold Fo;refine T1 (λhc8=>?_) (λhc8=>?_)
  ·refine T0 (T4 (by omega) (by simp_all)) (λe_9 hv10=>?_);refine T0 (Qno x_1 e_9 v2 v3 (((h).2 e_9 hv10)) (h_v2)) (λx_11 hv12=>?_);refine T1 (λhc13=>?_) (λhc13=>?_)
   ·exact T2 (Qp trivial)
   exact T2 (QH ⟨(by simp_all),by subst O;exact Qo (by simp_all) (h).1,trivial⟩)
  exact T2 (Qp trivial)
 rcases q6 with q6|q6
 ·show Qg (Fp q6.1 q6.2) _;unfold Fp;exact T3
 show Qg (Fq) _;unfold Fq;exact T3
def QgN (n1:Qc)(l2:(L_ Jy))(h:Int)(h_n1:Xu n1)(O:(QV MT) l2):Xs (OW n1 l2 h):=by
 unfold OW;refine T0 (Qgc l2 n1 h (O) (h_n1)) (λx_1 hv2=>?_);exact T3
def Qnp (v1:Qc)(v2:QL)(v3:Int)(h:Xu v1)(O:Jk v2):Xs (PZ v1 v2 v3):=by
 unfold PZ;refine T0 (QgN v1 v2.Ins v3 (h) (O.2.2.2.2.2.1)) (λx_1 hv2=>?_);exact T3
def QhL (v1:Qc)(v2:QL)(v3:Int)(v4:Int)(h:Xu v1)(O:Jk v2):Xs (Ak v1 v2 v3 v4):=by
 unfold Ak;refine T0 (Qnp v1 v2 v3 (h) (O)) (λx_1 hv2=>?_);exact T3
def Qnq (v1:Qc)(v2:QL)(v3:Int)(h:Xu v1)(O:Jk v2):Xs (Ra v1 v2 v3):=by
 unfold Ra;refine T0 (QgN v1 v2.Outs v3 (h) (O.2.2.2.2.2.2.1)) (λx_1 hv2=>?_);exact T3
def QhM (v1:Qc)(v2:QL)(v3:Int)(v4:Int)(h:Xu v1)(O:Jk v2):Xs (Al v1 v2 v3 v4):=by
 unfold Al;refine T0 (Qnq v1 v2 v3 (h) (O)) (λx_1 hv2=>?_);exact T3
def QgO (O:Qc)(v2:Int)(h:Xu O):Xs (Fc O v2):=by
 unfold Fc;refine T0 (WR O.Places v2 (h.2.1)) (λx_1 hv2=>?_);exact T3
def Qeh (s1:LI_)(v2:Int)(O:(QV (λ_=>True)) s1):Xs (Gv s1 v2):=by
 unfold Gv;refine T0 (Qg.up (s1.length) (λst=>st) (λ_=>True) (Q:=λq=>True) rfl trivial (λi2 st h hn4 hj5=>?_)) (λq6 hq7=>?_)
 ·obtain⟨x_1,hst⟩:∃y,y=st:=⟨_,rfl⟩;subst hst;replace h:x_1=(i2:Int):=h;show Qg (JB s1 v2 x_1) _;unfold JB;refine T1 (λhc8=>?_) (λhc8=>?_)
  ·refine T0 (T4 (by omega) (by simp_all)) (λe_9 hv10=>?_);refine T1 (λhc11=>?_) (λhc11=>?_)
   ·exact T2 (Qp trivial)
   exact T2 (QH ⟨(by simp_all),by subst h;exact Qo (by simp_all) (O).1,trivial⟩)
  exact T2 (Qp trivial)
 rcases q6 with q6|q6
 ·show Qg (BD q6) _;unfold BD;exact T3
 show Qg (BE) _;unfold BE;exact T3
def Lv (O:LI_)(v2:Int)(h:(QV (λ_=>True)) O):Xs (Jb O v2):=by
 unfold Jb;refine T0 (Qeh O v2 (h)) (λx_1 hv2=>?_);exact T3
def QgP (O:LI_)(v2:Int)(v3:Int)(h:(QV (λ_=>True)) O)(hp0:0<=v2)(hp1:v2<O.length):Xs (Fd O v2 v3):=by
 unfold Fd;refine T0 (T5 (by simp_all;omega)) (λ_ _=>?_);refine T0 (Lv ((O.drop 0).take (v2.toNat-0)) v3 (((h).drop _).take _)) (λx_1 hv2=>?_);exact T3
def QjT (v1:Qc)(v2:Int)(v3:Int)(v4:LI_)(v5:Int)(v6:Int)(h:Xu v1)(O:(QV (λ_=>True)) v4)(hp0:0<=v5)(hp1:v5<v4.length):Xs (LZ v1 v2 v3 v4 v5 v6):=by
 unfold LZ;refine T0 (QgO v1 v2 (h)) (λx_1 hv2=>?_);refine T1 (λhc3=>?_) (λhc3=>?_)
 ·exact T3
 refine T0 (QgP v4 v5 v2 (O) (by omega) (by omega)) (λx_4 hv5=>?_);refine T1 (λhc6=>?_) (λhc6=>?_)
 ·exact T3
 exact T3
def QiK (k1:Int)(h:Int)(v3:Qc)(v4:LI_)(O:Xu v3)(h_v4:(QV (λ_=>True)) v4)(hp0:0<=k1)(hp1:k1<v4.length):Xs (Ia k1 h v3 v4):=by
 unfold Ia;refine T0 (QjT v3 h 3 v4 k1 5 (O) (h_v4) (by omega) (by omega)) (λx_1 hv2=>?_);exact T3
def QjU (l1:LI_)(v2:Qc)(v3:LI_)(h_l1:(QV (λ_=>True)) l1)(h_v2:Xu v2)(h_v3:(QV (λ_=>True)) v3)(hp0:l1.length<=v3.length):Xs (Ma l1 v2 v3):=by
 unfold Ma;refine T0 (Qg.up (l1.length) (λst=>st) (λ_=>True) (Q:=λq=>True) rfl trivial (λi2 st h hn4 hj5=>?_)) (λq6 hq7=>?_)
 ·obtain⟨O,hst⟩:∃y,y=st:=⟨_,rfl⟩;subst hst;replace h:O=(i2:Int):=h;show Qg (Nz l1 v2 v3 O) _;unfold Nz;refine T1 (λhc8=>?_) (λhc8=>?_)
  ·refine T0 (T4 (by omega) (by simp_all)) (λe_9 hv10=>?_);refine T0 (QiK O e_9 v2 v3 (h_v2) (h_v3) (by omega) (by simp_all;omega)) (λx_11 hv12=>?_);refine T1 (λhc13=>?_) (λhc13=>?_)
   ·exact T2 (Qp trivial)
   exact T2 (QH ⟨(by simp_all),by subst h;exact Qo (by simp_all) (h_l1).1,trivial⟩)
  exact T2 (Qp trivial)
 rcases q6 with q6|q6
 ·show Qg (NA q6.1 q6.2) _;unfold NA;exact T3
 show Qg (NB) _;unfold NB;exact T3
def Qll (n1:Qc)(l2:LI_)(O:Xu n1)(h:(QV (λ_=>True)) l2):Xs (NY n1 l2):=by
 unfold NY;refine T0 (QjU l2 n1 l2 (h) (O) (h) (by omega)) (λx_1 hv2=>?_);exact T3
def Qlm (v1:Qc)(v2:QL)(h:Xu v1)(O:Jk v2):Xs (NZ v1 v2):=by
 unfold NZ;refine T0 (Qll v1 v2.Cancel (h) (O.2.2.2.2.2.2.2.1)) (λx_1 hv2=>?_);exact T3
def QhN (v1:Qc)(v2:QL)(v3:Int)(h:Xu v1)(O:Jk v2):Xs (Am v1 v2 v3):=by
 unfold Am;refine T0 (Qlm v1 v2 (h) (O)) (λx_1 hv2=>?_);exact T3
def Qcm (k1:Int)(O:(L_ Jy))(h:(QV MT) O):Xs (Hj k1 O):=by
 unfold Hj;exact T3
def Qpm (O:QL)(h:Jk O):Xs (GJ O):=by
 unfold GJ;refine T0 (P:=λ_=>True) ?_ (λx_1 hv2=>?_)
 ·unfold TE;refine T0 (Qcm O.Join O.Ins (h.2.2.2.2.2.1)) (λx_3 hv4=>?_);refine T1 (λhc5=>?_) (λhc5=>?_)
  ·refine T0 (Qcm O.Split O.Outs (h.2.2.2.2.2.2.1)) (λx_6 hv7=>?_);refine T1 (λhc8=>?_) (λhc8=>?_)
   ·refine T1 (λhc9=>?_) (λhc9=>?_)
    ·refine T1 (λhc10=>?_) (λhc10=>?_)
     ·exact T3
     exact T3
    exact T3
   exact T3
  exact T3
 unfold TF;exact T3
def Qln (O:QL)(h:Jk O):Xs (Hk O):=by
 unfold Hk;refine T0 (Qpm O (h)) (λx_1 hv2=>?_);exact T3
def QjV (v1:QL)(v2:Int)(v3:Qc)(v4:Int)(v5:Int)(v6:Int)(v7:Int)(v8:Int)(v9:Int)(v10:Int)(v11:Int)(v12:Int)(v13:Int)(v14:Int)(v15:Int)(h:Jk v1)(O:Xu v3)(hp0:0<=v4)(hp1:v4<v3.Tasks.length):Xs (GU v1 v2 v3 v4 v5 v6 v7 v8 v9 v10 v11 v12 v13 v14 v15):=by
 unfold GU;refine T0 (Qnh v1 (h)) (λx_1 hv2=>?_);refine T1 (λhc3=>?_) (λhc3=>?_)
 ·exact T3
 refine T0 (Qnj v3 v4 v1 (O) (h) (by omega) (by omega)) (λx_4 hv5=>?_);refine T1 (λhc6=>?_) (λhc6=>?_)
 ·exact T3
 refine T0 (Qnk v6 v1 (h)) (λx_7 hv8=>?_);refine T1 (λhc9=>?_) (λhc9=>?_)
 ·exact T3
 refine T0 (Qlk v3 v1 v8 (O) (h)) (λx_10 hv11=>?_);refine T1 (λhc12=>?_) (λhc12=>?_)
 ·exact T3
 refine T0 (Qnm v3 v4 (O)) (λx_13 hv14=>?_);refine T1 (λhc15=>?_) (λhc15=>?_)
 ·exact T3
 refine T0 (Qnn v1 v6 (h)) (λx_16 hv17=>?_);refine T1 (λhc18=>?_) (λhc18=>?_)
 ·exact T3
 refine T0 (QhL v3 v1 v6 x_10.2 (O) (h)) (λx_19 hv20=>?_);refine T1 (λhc21=>?_) (λhc21=>?_)
 ·exact T3
 refine T0 (QhM v3 v1 v6 x_19.2 (O) (h)) (λx_22 hv23=>?_);refine T1 (λhc24=>?_) (λhc24=>?_)
 ·exact T3
 refine T0 (QhN v3 v1 x_22.2 (O) (h)) (λx_25 hv26=>?_);refine T1 (λhc27=>?_) (λhc27=>?_)
 ·exact T3
 refine T0 (Qln v1 (h)) (λx_28 hv29=>?_);refine T1 (λhc30=>?_) (λhc30=>?_)
 ·exact T3
 exact T3
def QgQ (n1:Qc)(k2:Int)(h:Xu n1):Xs (Ko n1 k2):=by
 unfold Ko;refine T0 (Pm n1.Tasks k2 (h.2.2.1)) (λx_1 hv2=>?_);refine T1 (λhc3=>?_) (λhc3=>?_)
 ·exact T3
 refine T0 (Qcl n1 (h)) (λx_4 hv5=>?_);refine T1 (λhc6=>?_) (λhc6=>?_)
 ·exact T3
 refine T0 (T4 (by simp_all) (by simp_all)) (λO hv8=>?_);refine T0 (T4 (by simp_all) (by simp_all)) (λe_9 hv10=>?_);refine T0 (Qpl 0 n1 O (h) (((h.2.2.1).2 O hv8))) (λx_11 hv12=>?_);refine T0 (QjM 0 n1 O (e_9.Vars.length:Int) (h) (((h.2.2.1).2 O hv8))) (λx_13 hv14=>?_);refine T0 (QjN 0 n1 O (e_9.Vars.length:Int) (h) (((h.2.2.1).2 O hv8))) (λx_15 hv16=>?_);refine T0 (QjO 0 n1 O (h) (((h.2.2.1).2 O hv8))) (λx_17 hv18=>?_);refine T0 (QjV O 1 n1 k2 5 (e_9.Vars.length:Int) 2 0 (-1) 2 1 (-1) (-1) (-1) 11 (((h.2.2.1).2 O hv8)) (h) (by simp_all) (by simp_all)) (λx_19 hv20=>?_);refine T1 (λhc21=>?_) (λhc21=>?_)
 ·exact T3
 exact T3
def Qpn (k1:Int)(p2:QL)(v3:Qc)(O:Jk p2)(h:Xu v3):Xs (MQ k1 p2 v3):=by
 unfold MQ;refine T0 (QgQ v3 k1 (h)) (λx_1 hv2=>?_);exact T3
def QeA (l1:(L_ QL))(v2:Qc)(h:(QV Jk) l1)(h_v2:Xu v2):Xs (WY l1 v2):=by
 unfold WY;refine T0 (Qg.up (l1.length) (λst=>st) (λ_=>True) (Q:=λq=>True) rfl trivial (λi2 st O hn4 hj5=>?_)) (λq6 hq7=>?_)
 ·obtain⟨x_1,hst⟩:∃y,y=st:=⟨_,rfl⟩;subst hst;replace O:x_1=(i2:Int):=O;show Qg (Dk l1 v2 x_1) _;unfold Dk;refine T1 (λhc8=>?_) (λhc8=>?_)
  ·refine T0 (T4 (by omega) (by simp_all)) (λe_9 hv10=>?_);refine T0 (Qpn x_1 e_9 v2 (((h).2 e_9 hv10)) (h_v2)) (λx_11 hv12=>?_);refine T1 (λhc13=>?_) (λhc13=>?_)
   ·exact T2 (Qp trivial)
   exact T2 (QH ⟨(by simp_all),by subst O;exact Qo (by simp_all) (h).1,trivial⟩)
  exact T2 (Qp trivial)
 rcases q6 with q6|q6
 ·show Qg (CA q6.1 q6.2) _;unfold CA;exact T3
 show Qg (CB) _;unfold CB;exact T3
def Qr4 (n1:Qc)(h:Xu n1):Xs (Ex n1):=by
 unfold Ex;refine T0 (Qpe n1 2 3 1 (h)) (λx_1 hv2=>?_);refine T1 (λhc3=>?_) (λhc3=>?_)
 ·exact T3
 refine T0 (Qcl n1 (h)) (λx_4 hv5=>?_);refine T1 (λhc6=>?_) (λhc6=>?_)
 ·exact T3
 refine T0 (Qef n1.Places n1 (h.2.1) (h)) (λx_7 hv8=>?_);refine T1 (λhc9=>?_) (λhc9=>?_)
 ·exact T3
 refine T0 (QeA n1.Tasks n1 (h.2.2.1) (h)) (λx_10 hv11=>?_);refine T1 (λO=>?_) (λO=>?_)
 ·exact T3
 exact T3
def QsV (O:Int)(b2:Int)  : Xs (LF O b2):=by
 unfold LF;refine T1 (λh=>?_) (λh=>?_)
 ·exact T3
 exact T3
def QiL (O:Int)(b2:Int)  : Xs (DU O b2):=by
 unfold DU;refine T1 (λh=>?_) (λh=>?_)
 ·exact T3
 exact T3
def Qih (O:Int)  : Xs (Hz O):=by
 unfold Hz;refine T1 (λh=>?_) (λh=>?_)
 ·exact T3
 exact T3
def QiM (h:Int)(O:Int)  : Xs (ER h O):=by
 unfold ER;exact T3
def Qnr (a1:Int)(b2:Int)  : Xs (Cc a1 b2):=by
 unfold Cc;refine T0 (Qih a1 ) (λx_1 hv2=>?_);refine T0 (Qih b2 ) (λx_3 hv4=>?_);refine T0 (QiM x_1 x_3 ) (λx_5 hv6=>?_);refine T1 (λh=>?_) (λh=>?_)
 ·unfold DV;refine T1 (λO=>?_) (λO=>?_)
  ·exact T3
  exact T3
 unfold DV;refine T1 (λhc9=>?_) (λhc9=>?_)
 ·exact T3
 exact T3
def Qcn (a1:Int)(b2:Int)  : Xs (WL a1 b2):=by
 unfold WL;refine T1 (λh=>?_) (λh=>?_)
 ·exact T3
 refine T1 (λO=>?_) (λO=>?_)
 ·exact T3
 refine T0 (T5 (by simp_all)) (λ_ _=>?_);refine T0 (T5 (by simp_all)) (λ_ _=>?_);exact T3
def Ar (O:Bool)  : Xs (KK O):=by
 unfold KK;refine T1 (λh=>?_) (λh=>?_)
 ·exact T3
 exact T3
def HJ (JZ:Int)(O:Int)(h:Int)  : Xs (KD JZ O h):=by
 unfold KD;refine T1 (λhc1=>?_) (λhc1=>?_)
 ·refine T0 (QsV O h ) (λx_2 hv3=>?_);exact T3
 refine T1 (λhc4=>?_) (λhc4=>?_)
 ·refine T0 (QiL O h ) (λx_5 hv6=>?_);exact T3
 refine T1 (λhc7=>?_) (λhc7=>?_)
 ·refine T0 (Qnr O h ) (λx_8 hv9=>?_);exact T3
 refine T1 (λhc10=>?_) (λhc10=>?_)
 ·refine T0 (Qcn O h ) (λx_11 hv12=>?_);exact T3
 refine T1 (λhc13=>?_) (λhc13=>?_)
 ·refine T0 (Qcn O h ) (λx_14 hv15=>?_);exact T3
 refine T1 (λhc16=>?_) (λhc16=>?_)
 ·refine T0 (Ar (O==h) ) (λx_17 hv18=>?_);exact T3
 refine T1 (λhc19=>?_) (λhc19=>?_)
 ·refine T0 (Ar (O != h) ) (λx_20 hv21=>?_);exact T3
 refine T1 (λhc22=>?_) (λhc22=>?_)
 ·refine T0 (Ar (decide (O<h)) ) (λx_23 hv24=>?_);exact T3
 refine T1 (λhc25=>?_) (λhc25=>?_)
 ·refine T0 (Ar (decide (O<=h)) ) (λx_26 hv27=>?_);exact T3
 refine T1 (λhc28=>?_) (λhc28=>?_)
 ·refine T0 (P:=λ_=>True) ?_ (λv_29 hv30=>?_)
  ·unfold VI;refine T1 (λhc31=>?_) (λhc31=>?_)
   ·refine T0 (Ar (h != 0) ) (λx_32 hv33=>?_);exact T3
   refine T0 (Ar f_ ) (λx_34 hv35=>?_);exact T3
  unfold Qdl;exact T3
 refine T1 (λhc36=>?_) (λhc36=>?_)
 ·refine T0 (P:=λ_=>True) ?_ (λv_37 hv38=>?_)
  ·unfold VJ;refine T1 (λhc39=>?_) (λhc39=>?_)
   ·refine T0 (Ar t_ ) (λx_40 hv41=>?_);exact T3
   refine T0 (Ar (h != 0) ) (λx_42 hv43=>?_);exact T3
  unfold Qdm;exact T3
 exact T3
def QjW (h:Int)  : Xs (VL h):=by
 unfold VL;refine T0 (HJ 2 0 h ) (λx_1 O=>?_);exact T3
def ZD (b:QBg)(h:b.length<=maxLen):Gr b=C (Uo (-1) b):=by
 unfold Gr;have O:=Pj (body:=λst=>Ea b st.1 st.2) (l:=b) (ρ:=Unit⊕Unit) (λi (t:Int)=>(t,(i:Int)))
  (λi t x=>bif ((decide (x.1<=t))||((decide (x.2<1))||(decide (1048576<x.2))))then .inr (.inl ())else .inl x.1) (λ_=>.inr ())
  (λi t x hi hx=>by
   show Ea b t i=_;unfold Ea;rw[Ql (by omega:(i:Int)<b.length),Qr,QG,hx,Qa];cases ((decide (x.1<=t))||((decide (x.2<1))||(decide (1048576<x.2))))with|true=>rfl|false=>simp only[Qe,Sum.elim_inl];rw[Qo hi h])
  (λt=>by
   show Ea b t b.length=_;unfold Ea;rw[Qn (by omega)];rfl) (-1) (s0:=(-1,0)) rfl
 rw[O];have:∀(l:QBg) (k:Nat) (t:Int),UW (λi t (x:Int×Int)=>(bif ((decide (x.1<=t))||((decide (x.2<1))||(decide (1048576<x.2))))then .inr (.inl ())else .inl x.1:Int⊕(Unit⊕Unit))) (λ_=>.inr ()) k t l=bif Uo t l then .inr ()else .inl ():=by
  intro l
  induction l with
  |nil=>intro k t;rfl|cons x l ih=>
   intro k t;rw[UW,Uo];cases ((decide (x.1<=t))||((decide (x.2<1))||(decide (1048576<x.2))))with|true=>rfl|false=>simp only[Qe,Sum.elim_inl,Qcq,QaQ];exact ih _ _
 rw[this];cases Uo (-1) b<;>rfl
def Qfu (b:QBg)(h:b.length<=maxLen):Ti b=C (bif Uo (-1) b then .inr b else .inl ()):=by
 unfold Ti;rw[ZD b h,Qa];cases hr:Uo (-1) b with
 |false=>rfl|true=>
  simp only[Jq,Qe,Qr];have ha:=(Jo.1 hr).1;obtain⟨r,h1,h2⟩:=Cf (body:=λst=>Na b st.1 st.2) b.length (λi s=>s=((i:Int),b.take i)) (λr=>r=b)
   (λi s O hs=>by
    subst hs;refine .inl ⟨(((i+1:Nat):Int),b.take (i+1)),?_,rfl⟩;show Na b i (b.take i)=_;unfold Na;rw[Ql (by omega:(i:Int)<b.length),Qr,QG,Qv O,Qa,Qo O h];have e:b.take (i+1)=b.take i++[b[i]]:=by rw[JY,Qv O];rfl
    rw[e,<-QxW (by have:=(ha.sublist (List.take_sublist (i+1) b));rw[e]at this;exact this)])
   (λs hs=>by
    subst hs;refine⟨_,?_,rfl⟩;show Na b b.length (b.take b.length)=_;unfold Na;rw[Qn (by omega),Uf];rfl) (0,[]) rfl
  rw[h1,h2];rfl
def Qgd (a b:QBg)(O:a.length<=maxLen)(h:b.length<=maxLen):PA a b=C (bif Uo (-1) a then(bif Uo (-1) b then .inr (.inr (.inr (a,b)))else .inr (.inr (.inl a)))else(bif Uo (-1) b then .inr (.inl b)else .inl ())):=by
 unfold PA;rw[Qfu a O];cases Uo (-1) a with
 |true=>
  simp only[Qr,Qa,Sum.elim_inr];unfold Qh9;rw[Qfu b h];cases Uo (-1) b<;>rfl
 |false=>
  simp only[Qe,Qa,Sum.elim_inl];unfold Qh8;rw[Qfu b h];cases Uo (-1) b<;>rfl
def Tc (m:QBg)(ha:EQ m)(h':m.length<=4294967296):Ut m=C (Pk m):=by
 have h:m.length<=maxLen:=by unfold maxLen;omega
 unfold Ut EF Nr;simp only[Ql h',BO rfl,Qa,Qwr ha];obtain⟨r,h1,h2⟩:=Cf (body:=λst=>Gl (m.map Prod.fst) m st.1 st.2) m.length (λi s=>s=((i:Int),Pk (m.take i))) (λr=>r=Pk m)
  (λi s O hs=>by
   subst hs;refine .inl ⟨(((i+1:Nat):Int),Pk (m.take (i+1))),?_,rfl⟩;show Gl (m.map Prod.fst) m i (Pk (m.take i))=_;unfold Gl;have e:m.take (i+1)=m.take i++[m[i]]:=by rw[JY,Qv O];rfl
   have ec:(Xg m m[i].1).getD 0=m[i].2:=Eh ha.nd (Xc O);rw[Ql (by simp;omega),Qr,QG,Yj,Qv O,Gq,Qa,ec];have hl:(Pk (m.take i)).length<=i:=Yq (Vo _ _) (by simp;omega);cases hc:decide (0<m[i].2)with
   |true=>
    simp only[Qr];rw[Yv (by simp;omega),Qa];unfold Uj;rw[Qo O h,e];unfold Pk;rw[QaT,Ax,if_pos hc];rfl
   |false=>
    simp only[Qe];unfold Uj;rw[Qo O h,e];unfold Pk;rw[QaT,Ax,if_neg (by rw[hc];decide),List.filter_nil,Qcr])
  (λs hs=>by
   subst hs;refine⟨_,?_,rfl⟩;show Gl (m.map Prod.fst) m m.length (Pk (m.take m.length))=_;unfold Gl;rw[Qn (by simp),Uf];rfl) (0,[]) rfl
 rw[h1,h2];rfl
def QsW (m:QBg):(Pk m).length<=m.length:=Vo _ _
def Au (a b:QBg)(h:a.length+b.length<=4294967296):(¬(Rt a/\Rt b)/\JV a b=C ([],1))\/(Rt a/\Rt b/\(∃k,1048576<QJ a k+QJ b k)/\JV a b=C ([],2))\/
  (Rt a/\Rt b/\∃r,JV a b=C (r,0)/\Rt r/\(∀k,QJ r k=QJ a k+QJ b k)/\r.length<=a.length+b.length):=by
 unfold JV;rw[Qgd a b (by unfold maxLen;omega) (by unfold maxLen;omega),Qa];cases ra:Uo (-1) a with
 |false=>exact .inl ⟨λhh=>(by rw[Jo.2 hh.1]at ra;cases ra),by cases Uo (-1) b<;>rfl⟩
 |true=>
  cases rb:Uo (-1) b with
  |false=>exact .inl ⟨λhh=>(by rw[Jo.2 hh.2]at rb;cases rb),rfl⟩
  |true=>
   have hra:=Jo.1 ra;have O:=Jo.1 rb;simp only[Qr,Sum.elim_inr];unfold Qi9;have hw:∀p∈b,QJ a p.1+p.2=QJ a p.1+QJ b p.1:=λp hp=>by rw[Eh O.1.nd hp]
   rcases Qo7 (g:=λx v=>Qh (x+v)) (stop:=λx=>decide (1048576<x)) (q:=C ()) (body:=λst p=>Iq st p.1 p.2) (λs p=>by
     show Iq s p.1 p.2=_;unfold Iq;rw[BX,if_pos rfl];unfold QJ;simp only[QcZ];cases decide (1048576<Qh ((Xg s p.1).getD 0+p.2))<;>rfl) hra.1 O.1.nd with⟨⟨p,h1,h2⟩,h3⟩|⟨h1,s',h3,h4,h5,h6⟩
   ·refine .inr (.inl ⟨hra,O,⟨p.1,?_⟩,?_⟩)
    ·have:=hra.cnt p.1;have:=O.cnt p.1;have h2:=Xe h2;rw[Eh O.1.nd h1];rw[Eh O.1.nd h1]at this;rwa[Xb (by omega)]at h2
    simp only[h3 () rfl];rfl
   have hk:∀k,QJ s' k=QJ a k+QJ b k/\QJ s' k<=1048576:=λk=>by
    have ca:=hra.cnt k;have cb:=O.cnt k;have e:=h6 k;unfold Qkj at e;cases hm:Xg b k with
    |none=>
     rw[hm]at e;simp only at e;have:QJ b k=0:=by unfold QJ;rw[hm];rfl
     have e2:QJ s' k=QJ a k:=by unfold QJ;rw[e]
     omega
    |some v=>
     rw[hm]at e;simp only at e;have e1:QJ b k=v:=by unfold QJ;rw[hm];rfl
     have e2:QJ s' k=Qh (QJ a k+v):=by unfold QJ;rw[e];rfl
     have h7:=h1 (k,v) ((KE O.1.nd).1 hm);simp only[QU]at h7;rw[Xb (by omega)]at e2 h7;omega
   refine .inr (.inr ⟨hra,O,Pk s',?_,Qwq h4 (λk hk0=>⟨?_,(hk k).2⟩),λk=>?_,Yq (QsW s') h5⟩)
   ·simp only[h3,Qa,Sum.elim_inl];unfold Qdg;rw[Tc s' h4 (by omega)];rfl
   ·have:=(hk k).1;have ca:=hra.cnt k;have cb:=O.cnt k;by_cases c:0<QJ a k
    ·exact hra.cnt_pos c
    exact O.cnt_pos (by omega)
   rw[QsT h4,(hk k).1];have ca:=hra.cnt k;have cb:=O.cnt k;split<;>omega
def Qei (m h:QBg):Ul m h=C (!(m.any λp=>decide (QJ h p.1<p.2))):=by
 unfold Ul;rw[Qu8 (bad:=λp=>decide (QJ h p.1<p.2)) (q:=()) (λp=>by
  show Gu h p.1 p.2=_;unfold Gu QJ;cases decide ((Xg h p.1).getD 0<p.2)<;>rfl)]
 cases m.any λp=>decide (QJ h p.1<p.2)<;>rfl
def QhO {a b:QBg}(O:Rt a)(hb:Rt b):(a.any λp=>decide (QJ b p.1<p.2))=f_↔∀k,QJ a k<=QJ b k:=by
 rw[<-Lz,Aw];simp only[Qw,not_exists,not_and];constructor
 ·intro h k;have cb:=hb.cnt k;cases e:Xg a k with
  |none=>
   have:QJ a k=0:=by unfold QJ;rw[e];rfl
   omega
  |some v=>
   have h1:=h _ ((KE O.1.nd).1 e);have:QJ a k=v:=by unfold QJ;rw[e];rfl
   simp only at h1;omega
 intro h p hp hlt;have:=h p.1;rw[Eh O.1.nd hp]at this;omega
def AU (a b:QBg)(ha:a.length<=maxLen)(hb:b.length<=maxLen):∃r,OQ a b=C r/\(r=t_↔Rt a/\Rt b/\∀k,QJ a k<=QJ b k):=by
 unfold OQ;rw[Qgd a b ha hb,Qa];cases ra:Uo (-1) a with
 |false=>exact⟨f_,by cases Uo (-1) b<;>rfl,by simp;intro hh;rw[Jo.2 hh]at ra;cases ra⟩
 |true=>
  cases rb:Uo (-1) b with
  |false=>exact⟨f_,rfl,by simp;intro _ hh;rw[Jo.2 hh]at rb;cases rb⟩
  |true=>
   have O:=Jo.1 ra;have hrb:=Jo.1 rb;refine⟨!(a.any λp=>decide (QJ b p.1<p.2)),?_,?_⟩
   ·simp only[Qr,Sum.elim_inr];unfold QeQ;rw[Qei];rfl
   rw[Ga,QhO O hrb];exact⟨λh=>⟨O,hrb,h⟩,λh=>h.2.2⟩
def FN (a b:QBg)(h:a.length+b.length<=4294967296):(¬(Rt a/\Rt b)/\JS a b=C ([],1))\/(Rt a/\Rt b/\(∃k,QJ a k<QJ b k)/\JS a b=C ([],10))\/
  (Rt a/\Rt b/\(∀k,QJ b k<=QJ a k)/\∃r,JS a b=C (r,0)/\Rt r/\(∀k,QJ r k=QJ a k-QJ b k)/\r.length<=a.length+b.length):=by
 unfold JS;rw[Qgd a b (by unfold maxLen;omega) (by unfold maxLen;omega),Qa];cases ra:Uo (-1) a with
 |false=>exact .inl ⟨λhh=>(by rw[Jo.2 hh.1]at ra;cases ra),by cases Uo (-1) b<;>rfl⟩
 |true=>
  cases rb:Uo (-1) b with
  |false=>exact .inl ⟨λhh=>(by rw[Jo.2 hh.2]at rb;cases rb),rfl⟩
  |true=>
   have O:=Jo.1 ra;have hrb:=Jo.1 rb;simp only[Qr,Sum.elim_inr];unfold Qib;rw[Qei,Qa];cases hw:b.any λp=>decide (QJ a p.1<p.2)with
   |true=>
    refine .inr (.inl ⟨O,hrb,?_,rfl⟩);obtain⟨p,h1,h2⟩:=Aw.1 hw;exact⟨p.1,by rw[Eh hrb.1.nd h1];exact Xe h2⟩
   |false=>
    have hle:=(QhO hrb O).1 hw;simp only[Qcq,Jq,Qe];rcases Qo7 (g:=λx v=>Qh (x-v)) (stop:=λ_=>f_) (q:=none) (body:=λst p=>FD st p.1 p.2) (λs p=>by
      show FD s p.1 p.2=_;unfold FD QJ;rfl) O.1 hrb.1.nd with⟨⟨p,h1,h2⟩,h3⟩|⟨h1,s',h3,h4,h5,h6⟩
    ·cases h2
    have hk:∀k,QJ s' k=QJ a k-QJ b k:=λk=>by
     have ca:=O.cnt k;have cb:=hrb.cnt k;have e:=h6 k;unfold Qkj at e;cases hm:Xg b k with
     |none=>
      rw[hm]at e;simp only at e;have:QJ b k=0:=by unfold QJ;rw[hm];rfl
      have e2:QJ s' k=QJ a k:=by unfold QJ;rw[e]
      omega
     |some v=>
      rw[hm]at e;simp only at e;have e1:QJ b k=v:=by unfold QJ;rw[hm];rfl
      have e2:QJ s' k=Qh (QJ a k-v):=by unfold QJ;rw[e];rfl
      rw[Xb (by omega)]at e2;omega
    refine .inr (.inr ⟨O,hrb,hle,Pk s',?_,Qwq h4 (λk hk0=>?_),λk=>?_,Yq (QsW s') h5⟩)
    ·simp only[h3,Qa,Sum.elim_inl];unfold QbM;rw[Tc s' h4 (by omega)];rfl
    ·have:=hk k;have ca:=O.cnt k;have cb:=hrb.cnt k;exact⟨O.cnt_pos (by omega),by omega⟩
    rw[QsT h4,hk k];have:=hle k;split<;>omega
def ZE (t:Int):Th [t]=C (bif decide (0<=t)then [(t,1)]else []):=by
 unfold Th;rw[Yl];show((Hw [t] 0 []).bind _).bind _=_;unfold Hw;rw[Ql (by simp),Qr,show idx [t] 0=C t from rfl,Qa];unfold Qa3;rw[show Qh (0+1)=1 from by decide];cases h:decide (0<=t)with
 |false=>
  simp only[Qe,Qa,Sum.elim_inl];rw[Yl];show((Hw [t] 1 []).bind _).bind _=_;unfold Hw;rw[Qn (by simp)];simp only[Qe,Qa,Sum.elim_inr];unfold QfS;rw[Tc [] List.Pairwise.nil (by simp)];rfl
 |true=>
  simp only[Qr,Qa,Sum.elim_inl];rw[Yl];show((Hw [t] 1 [(t,min2 (Qh (0+1)) 1048576)]).bind _).bind _=_;unfold Hw;rw[Qn (by simp)];simp only[Qe,Qa,Sum.elim_inr];unfold QfS;rw[Tc _ (Qka _ _) (by simp[maxLen]),show min2 (Qh (0+1)) 1048576=1 from by decide];rfl
def Qub : ∀(n:Nat) (e:Qs) (d:Int),WZ e->SizeOf.sizeOf e<=n->Qg (AZ n e d) λ_=>True
 |0,e,_,_,h=>absurd e.pos (by omega)|n+1,e,d,he,h=>by
  unfold AZ QbP;refine T1 (λ_=>T3) λ_=>?_;refine T0 (Qg.up e.Kids.length (λst=>st.2) (λ_=>True) (Q:=λ_=>True) rfl trivial (λi st O hn _=>?_)) (λq _=>?_)
  ·obtain⟨a,x⟩:=st;replace O:x=(i:Int):=O;show Qg (Qap e (AZ n) d a x) _;unfold Qap;refine T1 (λhc=>?_) (λhc=>T2 (Qp trivial));simp only[Qw]at hc;refine T0 (T4 (by omega) (by omega)) λk hk=>?_;have:=QbD hk;refine T0 (Qub n k _ ((Dp he).2 k hk) (by omega)) λy _=>?_;refine T1 (λ_=>T2 (Qp trivial)) λ_=>T1 (λ_=>T2 (Qp trivial)) λ_=>?_;exact T2 (QH ⟨by omega,by subst O;exact Qo (by omega) (Dp he).1,trivial⟩)
  rcases q with q|q
  ·exact T3
  exact T3
def QqG (e:Qs)(h:WZ e):Qg (Ng e) λ_=>True:=by
 unfold Ng Qf1;exact T0 (Qub _ e 60 h (Yk _)) λ_ _=>T3
def Quc (n1:Qc)(h:Xu n1)(q0:Int):Qg (Zh n1 q0) λr=>r=t_->q0<=400:=by
 unfold Zh;refine T0 (Qg.up n1.Tasks.length (λst=>st.2) (λ_=>True) (Q:=λ_=>True) rfl trivial (λi st hi hn _=>?_)) (λq _=>?_)
 ·obtain⟨a,x⟩:=st;replace hi:x=(i:Int):=hi;show Qg (Zg n1 a x) _;unfold Zg;refine T1 (λhc=>?_) (λ_=>T2 (Qp trivial));simp only[Qw]at hc;refine T0 (T4 (by omega) (by omega)) λe he=>?_;have ke:=h.2.2.1.2 e he;refine T1 (λ_=>T2 (Qp trivial)) λ_=>?_;refine T0 (Qg.up e.Vars.length (λst=>st) (λ_=>True) (Q:=λ_=>True) rfl trivial (λi2 st O hn2 _=>?_)) (λq _=>?_)
  ·show Qg (Za e st) _;unfold Za;refine T1 (λhc=>?_) (λ_=>T2 (Qp trivial));simp only[Qw]at hc;refine T0 (T4 (by omega) (by omega)) λs _=>?_;exact T1 (λ_=>T2 (Qp trivial)) λ_=>T2 (QH ⟨by omega,by rw[O];exact Qo (by omega) ke.2.1.1,trivial⟩)
  rcases q with q|q
  ·exact T2 (Qp trivial)
  show Qg (Zf e a x) _;unfold Zf;refine T0 (QqG e.Guard ke.2.2.1) λg _=>?_;refine T0 (Qg.up e.Ins.length (λst=>st.2) (λ_=>True) (Q:=λ_=>True) rfl trivial (λi2 st O hn2 _=>?_)) (λq _=>?_)
  ·obtain⟨b,y⟩:=st;replace O:y=(i2:Int):=O;show Qg (Zb e b y) _;unfold Zb;refine T1 (λhc=>?_) (λ_=>T2 (Qp trivial));simp only[Qw]at hc;refine T0 (T4 (by omega) (by omega)) λs hs=>?_;refine T0 (QqG s.Expr (ke.2.2.2.2.2.1.2 s hs).2) λg _=>?_;exact T2 (QH ⟨by omega,by subst O;exact Qo (by omega) ke.2.2.2.2.2.1.1,trivial⟩)
  show Qg (Ze e a x q) _;unfold Ze;refine T0 (Qg.up e.Outs.length (λst=>st.2) (λ_=>True) (Q:=λ_=>True) rfl trivial (λi2 st O hn2 _=>?_)) (λq _=>?_)
  ·obtain⟨b,y⟩:=st;replace O:y=(i2:Int):=O;show Qg (Zc e b y) _;unfold Zc;refine T1 (λhc=>?_) (λ_=>T2 (Qp trivial));simp only[Qw]at hc;refine T0 (T4 (by omega) (by omega)) λs hs=>?_;refine T0 (QqG s.Expr (ke.2.2.2.2.2.2.1.2 s hs).2) λg _=>?_;exact T2 (QH ⟨by omega,by subst O;exact Qo (by omega) ke.2.2.2.2.2.2.1.1,trivial⟩)
  show Qg (Zd a e x q) _;unfold Zd;exact T1 (λ_=>T2 (Qp trivial)) λ_=>T2 (QH ⟨by omega,by subst hi;exact Qo (by omega) h.2.2.1.1,trivial⟩)
 rcases q with q|q
 ·exact T2 λh=>by cases h
 exact T2 λh=>by simpa using h
def Qy3 (n1:Qc)(h:Xu n1):Qg (HG n1) λr=>r=t_->n1.Colours.length<=40/\n1.Places.length<=70/\n1.Tasks.length<=70:=by
 unfold HG;refine T1 (λ_=>T2 λh=>by cases h) λO=>?_;simp only[Ku,QU]at O;refine T6 (P:=λ_=>True) ?_ λ_ _ _=>by omega
 refine T0 (Qg.up n1.Colours.length (λst=>st.2) (λ_=>True) (Q:=λ_=>True) rfl trivial (λi st hi hn _=>?_)) (λq _=>?_)
 ·obtain⟨a,x⟩:=st;replace hi:x=(i:Int):=hi;show Qg (IU n1 a x) _;unfold IU;refine T1 (λO=>?_) (λ_=>T2 (Qp trivial));simp only[Qw]at O;refine T0 (T4 (by omega) (by omega)).self λe he=>?_;obtain⟨he,hm⟩:=he;refine T0 (P:=λ_=>True) ?_ λy _=>?_
  ·unfold Qar;rw[he,Qa];exact T1 (λ_=>T3) λ_=>T3
  unfold Qas;refine T1 (λ_=>T2 (Qp trivial)) λ_=>?_;refine T0 (Qg.up e.Names.length (λst=>st) (λ_=>True) (Q:=λ_=>True) rfl trivial (λi2 st hi2 hn2 _=>?_)) (λq _=>?_)
  ·show Qg (IT n1 x st) _;unfold IT;simp only[he,Qa];refine T1 (λO=>?_) (λ_=>T2 (Qp trivial));simp only[Qw]at O;refine T0 (T4 (by omega) (by omega)) λs _=>?_;refine T1 (λ_=>T2 (Qp trivial)) λ_=>?_;exact T2 (QH ⟨by omega,by rw[hi2];exact Qo (by omega) (h.1.2 e hm).2.2.2.2.1.1,trivial⟩)
  rcases q with q|q
  ·exact T2 (Qp trivial)
  exact T2 (QH ⟨by omega,by subst hi;exact Qo (by omega) h.1.1,trivial⟩)
 rcases q with q|q
 ·exact T3
 show Qg (Hf n1 q) _;unfold Hf;refine T0 (Qg.up n1.Places.length (λst=>st.2) (λ_=>True) (Q:=λ_=>True) rfl trivial (λi st hi hn _=>?_)) (λq _=>?_)
 ·obtain⟨a,x⟩:=st;replace hi:x=(i:Int):=hi;show Qg (IV n1 a x) _;unfold IV;refine T1 (λO=>?_) (λ_=>T2 (Qp trivial));simp only[Qw]at O;refine T0 (T4 (by omega) (by omega)) λe _=>?_;refine T0 (T4 (by omega) (by omega)) λe2 _=>?_;exact T1 (λ_=>T2 (Qp trivial)) λ_=>T2 (QH ⟨by omega,by subst hi;exact Qo (by omega) h.2.1.1,trivial⟩)
 rcases q with q|q
 ·exact T3
 exact(Quc n1 h q).mono λ_ _=>trivial
def Qy4 (m:L_ QBg)(h:m.length<=maxLen):Qg (Qa5 m) λ_=>True:=by
 unfold Qa5;refine T0 (Qg.up m.length (λst=>st.2) (λ_=>True) (Q:=λ_=>True) rfl trivial (λi st O hn _=>?_)) (λq _=>T3);obtain⟨a,x⟩:=st;replace O:x=(i:Int):=O;show Qg (Qat m a x) _;unfold Qat;refine T1 (λhc=>?_) (λ_=>T2 (Qp trivial));simp only[QN,Qw]at hc;refine T0 (T4 (by omega) (by omega)) λe _=>?_;exact T2 (QH ⟨by omega,by subst O;exact Qo (by omega) h,trivial⟩)
def Qud (h:EQ l):∀{a:Int},(∀p∈l,a<=p.1)->∀(i:Nat) (O:i<l.length),a+i<=(l[i]).1:=by
 induction l with
 |nil=>intro a _ i O;simp at O|cons p l ih=>
  intro a ha i O;obtain⟨h1,h2⟩:=GY.1 h;cases i with
  |zero=>have:=ha p Yc;simpa using this|succ i=>
   have h3:=ih h2 (a:=a+1) (λq hq=>by have:=h1 q hq;have:=ha p Yc;omega) i (by simpa using O);simp only[List.getElem_cons_succ];omega
def Qx0 (h:EQ l)(h0:0<l.length){k:Int}(hk:0<QJ l k):k<=(l[l.length-1]).1:=by
 unfold QJ at hk;cases e:Xg l k with
 |none=>rw[e]at hk;simp at hk|some v=>
  obtain⟨j,hj,O⟩:=Ej.1 ((KE h.nd).1 e);by_cases c:j=l.length-1
  ·subst c;rw[O];exact Int.le_refl _
  have:=QeD.1 h j (l.length-1) hj (by omega) (by omega);rw[O]at this;simp only at this;omega
def KF (n:Qc)(c:Nat)(m:L_ QBg):Prop:=m.length=n.Places.length/\∀b∈m,Rt b/\b.length<=c
def KF.mono {c O:Nat}(h:KF n c m)(hc:c<=O):KF n O m:=⟨h.1,λb hb=>⟨(h.2 b hb).1,Yq (h.2 b hb).2 hc⟩⟩
def MX (n:Qc)(m:L_ QBg):Prop:=∀(j:Nat) b p,m[j]? = C b->n.Places[j]? = C p->∀k,0<QJ b k->∃z,Jg n.Colours p.Colour=C z/\k<z
def QsX (n1:Qc)(m:L_ QBg)(h:Xu n1)(hm:QV (QV λ_=>True) m):Qg (Cp n1 m) λr=>r=t_->KF n1 1024 m/\MX n1 m:=by
 unfold Cp;refine T1 (λ_=>T2 λh=>by cases h) λhc=>?_;have hl:m.length=n1.Places.length:=by simp only[KA]at hc;omega
 refine T0 (Qg.up m.length (λst=>st) (λst=>∀(j:Nat) (hj:j<m.length),(j:Int)<st->(Rt m[j]/\(m[j]).length<=1024)/\∀p,n1.Places[j]? = C p->∀k,0<QJ m[j] k->∃z,Jg n1.Colours p.Colour=C z/\k<z) (Q:=λq=>q=.inr ()->(∀b∈m,Rt b/\b.length<=1024)/\MX n1 m) rfl (λj _ hj=>by omega) (λi st hi hn hJ=>?_)) (λq hq=>?_)
 ·show Qg (AB m n1 st) _;unfold AB;refine T1 (λhc=>?_) (λhc=>T2 (Qp λ_=>⟨λb hb=>by
   obtain⟨j,hj,rfl⟩:=Ej.1 hb;simp only[QU]at hc;exact(hJ j hj (by omega)).1,λj b p hb hp=>by
   obtain⟨hj,rfl⟩:=Xf.1 hb;simp only[QU]at hc;exact(hJ j hj (by omega)).2 p hp⟩))
  simp only[Qw]at hc;have O:i<m.length:=by omega
  have hlp:i<n1.Places.length:=by omega
  rw[hi,QG,Qv O,Qa,QG,Qv hlp,Qa];refine T0 (KW n1.Colours (n1.Places[i]).Colour h.1).self λsz hsz=>?_;obtain⟨hze,hsz⟩:=hsz;have hb:=hm.2 _ (Xc O);have hbl:=hb.1;refine T0 (P:=λr=>r=f_->(Rt m[i]/\(m[i]).length<=1024)/\∀k,0<QJ m[i] k->k<sz) ?_ λx hx=>?_
  ·unfold Vy;rw[ZD _ hb.1,Qa];refine T1 (λ_=>T2 λh=>by cases h) λhr=>?_;have hrt:=Jo.1 (by simpa using hr:Uo (-1) m[i]=t_);refine T1 (λh0=>?_) (λh0=>T2 λ_=>⟨⟨hrt,by simp only[QU]at h0;omega⟩,λk hk=>by
    simp only[QU]at h0;rw[show m[i]=[]from HO.1 (by omega)]at hk;simp[QJ,Xg]at hk⟩)
   simp only[Qw]at h0;unfold maxLen at hbl;rw[Xb (by omega),show((m[i]).length:Int)-1=(((m[i]).length-1:Nat):Int) by omega,QG,Qv (by omega),Qa];refine T2 λhf=>?_;simp only[QU]at hf;have:=Qud hrt.1 (a:=0) (λp hp=>(hrt.2 p hp).1) ((m[i]).length-1) (by omega);refine⟨⟨hrt,by omega⟩,λk hk=>?_⟩;have:=Qx0 hrt.1 (by omega) hk;omega
  unfold Vz;refine T1 (λ_=>T2 (Qp λh=>by cases h)) λhxf=>?_;refine T2 (QH ⟨O,Qo O hm.1,λj hj hjs=>?_⟩);rw[Qo O hm.1]at hjs;by_cases c:j=i
  ·subst c;refine⟨(hx hxf).1,λp hp k hk=>⟨sz,?_,(hx hxf).2 k hk⟩⟩;rw[Qv hlp]at hp;cases hp;exact hze
  exact hJ j hj (by omega)
 rcases q with q|q
 ·exact T2 λh=>by cases h
 exact T2 λ_=>⟨⟨hl,(hq rfl).1⟩,(hq rfl).2⟩
structure QT (n:Qc):Prop where
 k:Xu n
 pl:n.Places.length<=70
 tl:n.Tasks.length<=12
 tk:∀t∈n.Tasks,t.Vars.length<=16/\t.Ins.length<=16/\t.Outs.length<=16/\t.Cancel.length<=16
def Qwu (n1:Qc)(k2:Int)(h:Ko n1 k2=C 0):∃t,idx n1.Tasks k2=C t/\t.Vars.length<=16/\t.Ins.length<=16/\t.Outs.length<=16/\t.Cancel.length<=16:=by
 unfold Ko at h;obtain⟨x5,_,h⟩:=QI h;rcases Xy h with⟨_,h⟩|⟨_,h⟩
 ·cases h
 obtain⟨x7,_,h⟩:=QI h;rcases Xy h with⟨c,h⟩|⟨_,h⟩
 ·simp only[Option.some.injEq]at h;rw[h]at c;cases c
 obtain⟨e9,he9,h⟩:=QI h;obtain⟨e10,he10,h⟩:=QI h;rw[he9]at he10;cases he10;obtain⟨_,_,h⟩:=QI h;obtain⟨_,_,h⟩:=QI h;obtain⟨_,_,h⟩:=QI h;obtain⟨_,_,h⟩:=QI h;obtain⟨x15,O,h⟩:=QI h;have bad:∀a b:Int,0<a->x15=(a,b)->False:=λa b ha e=>by
  subst e;simp only at h;rcases Xy h with⟨c,h⟩|⟨_,h⟩
  ·simp only[beq_iff_eq]at c;omega
  simp only[Option.some.injEq]at h;omega
 unfold GU at O;obtain⟨x20,_,O⟩:=QI O;rcases Xy O with⟨_,O⟩|⟨_,O⟩
 ·exact(bad _ _ (by decide) (Option.some.inj O).symm).elim
 obtain⟨x22,_,O⟩:=QI O;rcases Xy O with⟨_,O⟩|⟨_,O⟩
 ·exact(bad _ _ (by decide) (Option.some.inj O).symm).elim
 obtain⟨x24,h24,O⟩:=QI O;rcases Xy O with⟨_,O⟩|⟨c,O⟩
 ·exact(bad _ _ (by decide) (Option.some.inj O).symm).elim
 unfold IX at h24;simp only[Option.some.injEq]at h24;rw[<-h24]at c;simp only[CR,QN,Qw,Rl]at c;exact⟨e9,he9,by omega,by omega,by omega,by omega⟩
def Qge (l1:L_ QL)(n1:Qc)(h:Xu n1)(hl:QV Jk l1):Qg (WY l1 n1) λr=>r.2=0->∀(j:Nat),j<l1.length->Ko n1 j=C 0:=by
 unfold WY;refine T0 (Qg.up l1.length (λst=>st) (λst=>∀(j:Nat),(j:Int)<st->Ko n1 j=C 0) (Q:=λq=>(∀a b,q=.inl (a,b)->b≠0)/\(q=.inr ()->∀(j:Nat),j<l1.length->Ko n1 j=C 0)) rfl (λj hj=>by omega) (λi st hi hn hJ=>?_)) (λq hq=>?_)
 ·show Qg (Dk l1 n1 st) _;unfold Dk;refine T1 (λO=>?_) (λO=>T2 (Qp ⟨λa b h=>(by cases h),λ_ j hj=>by
   simp only[QU]at O;exact hJ j (by omega)⟩))
  simp only[Qw]at O;refine T0 (T4 (by omega) (by omega)) λe he=>?_;refine T0 (P:=λx=>Ko n1 st=C x) ?_ λx hx=>?_
  ·unfold MQ;exact T0 (QgQ n1 st h).self λx hx=>T2 hx.1
  refine T1 (λO=>T2 (Qp ⟨λa b h=>(by cases h;simpa using O),λh=>(by cases h)⟩)) λO=>?_;simp only[KA]at O;refine T2 (QH ⟨by omega,by rw[hi];exact Qo (by omega) hl.1,λj hj=>?_⟩);rw[hi,Qo (show i<l1.length by omega) hl.1]at hj;by_cases c:j=i
  ·subst c;rw[<-hi,hx,O]
  exact hJ j (by omega)
 rcases q with q|q
 ·exact T2 λh=>absurd h (hq.1 q.1 q.2 rfl)
 exact T2 λ_=>hq.2 rfl
def Qwv (n1:Qc)(h:Xu n1){p:Vv}(O:Ex n1=C (0,p)):∀t∈n1.Tasks,t.Vars.length<=16/\t.Ins.length<=16/\t.Outs.length<=16/\t.Cancel.length<=16:=by
 unfold Ex at O;obtain⟨x6,_,O⟩:=QI O;rcases Xy O with⟨c,O⟩|⟨_,O⟩
 ·simp only[Option.some.injEq,Prod.mk.injEq]at O;rw[O.1]at c;cases c
 obtain⟨x8,_,O⟩:=QI O;rcases Xy O with⟨c,O⟩|⟨_,O⟩
 ·simp only[Option.some.injEq,Prod.mk.injEq]at O;rw[O.1]at c;cases c
 obtain⟨x10,_,O⟩:=QI O;rcases Xy O with⟨c,O⟩|⟨_,O⟩
 ·simp only[Option.some.injEq,Prod.mk.injEq]at O;rw[O.1]at c;cases c
 obtain⟨x12,h12,O⟩:=QI O;rcases Xy O with⟨c,O⟩|⟨c,O⟩
 ·simp only[Option.some.injEq,Prod.mk.injEq]at O;rw[O.1]at c;cases c
 simp only[KA]at c;obtain⟨r,hr,hr2⟩:=Qge n1.Tasks n1 h h.2.2.1;rw[h12]at hr;cases hr;intro t ht;obtain⟨j,hj,rfl⟩:=Ej.1 ht;obtain⟨t,h1,h2⟩:=Qwu n1 j (hr2 c j hj);rw[QG,Qv hj]at h1;cases h1;exact h2
def QAj (n1:Qc)(m:L_ QBg)(h:Xu n1)(hm:QV (QV λ_=>True) m):Qg (CC n1 m) λr=>r=t_->QT n1/\KF n1 1024 m/\MX n1 m:=by
 unfold CC;refine T0 (Qy3 n1 h) λx5 h5=>?_;refine T0 (Qy4 m hm.1) λx6 _=>?_;refine T1 (λ_=>T2 λh=>by cases h) λhc=>?_;simp only[Ku,CR,QU]at hc;have h5:=h5 hc.1;refine T0 (Qr4 n1 h).self λx11 h11=>?_;refine T0 (P:=λr=>r=f_->QT n1/\KF n1 1024 m/\MX n1 m) ?_ λx12 h12=>?_
 ·unfold Oa;refine T1 (λ_=>T2 λh=>by cases h) λO=>?_;simp only[KA]at O;refine T0 (QsX n1 m h hm) λr hr=>T2 λhrf=>⟨⟨h,h5.2.1,by omega,?_⟩,hr (by simpa using hrf)⟩;obtain⟨a,b⟩:=x11;simp only at O;subst O;exact Qwv n1 h h11.1
 unfold Oc;refine T1 (λ_=>T2 λh=>by cases h) λhx=>?_;have hfin:=h12 hx;refine T6 (P:=λ_=>True) ?_ λ_ _ _=>hfin;refine T0 (Qg.up n1.Tasks.length (λst=>st.2) (λ_=>True) (Q:=λ_=>True) rfl trivial (λi st hi hn _=>?_)) (λq _=>T3);obtain⟨a,x⟩:=st;replace hi:x=(i:Int):=hi;show Qg (Zj n1 a x) _;unfold Zj;refine T1 (λhc=>?_) (λ_=>T2 (Qp trivial));simp only[Qw]at hc;refine T0 (T4 (by omega) (by omega)) λe _=>?_;refine T0 (Qfs n1 x h) λy _=>?_;exact T2 (QH ⟨by omega,by subst hi;exact Qo (by omega) h.2.2.1.1,trivial⟩)
def Qq2 (s:JD)(m:Int)(h:0<=s.k/\s.k<s.sizes.length):Qg (Wg s m) λr=>r=t_->0<=m:=by
 unfold Wg;refine T0 (P:=λr=>r=t_->0<=m) ?_ λx hx=>T2 hx;unfold Uk;refine T1 (λO=>?_) λ_=>T2 λh=>by cases h
 exact T0 (T4 h.1 h.2) λ_ _=>T2 λ_=>by simpa using O
def Lj (s:JD)(h:0<=s.k/\s.k<s.all.length):Qg (KC s) λ_=>True:=by
 unfold KC;exact T0 (T4 h.1 h.2) λ_ _=>T3
def Qx1 (l:L_ QK)(k m:Int)(hl:QV JG l):Qg (Gd l k m) λ_=>True:=by
 unfold Gd;refine T0 (MV l k hl) λx hx=>?_;refine T0 (P:=λr=>r=f_->x.1=t_) ?_ λr hr=>?_
 ·unfold FZ;refine T1 (λ_=>T2 λh=>by cases h) λO=>?_;have O:x.1=t_:=by simpa using O
  have h:=hx.2 O;exact T0 (Qq2 x.2 m (by omega)) λ_ _=>T2 λ_=>O
 unfold Ha;refine T1 (λ_=>T3) λO=>?_;have h:=hx.2 (hr O);refine T0 (Lj x.2 (by omega)) λ_ _=>?_;refine T1 (λ_=>?_) λ_=>T3;exact T0 (Lj x.2 (by omega)) λ_ _=>T3
def QsY (l:L_ QK)(k n:Int)(hl:QV JG l):Qg (Ge l k n) λr=>r.2=t_->0<=r.1:=by
 unfold Ge;refine T0 (MV l k hl) λx hx=>?_;refine T1 (λ_=>T2 λh=>by cases h) λO=>?_;have h:=hx.2 (by simpa using O);have k1:∀m,Qg (Wb x m) λr=>r.2=t_->0<=r.1:=λm=>by
  unfold Wb;refine T0 (Qq2 x.2 m (by omega)) λy hy=>?_;exact T1 (λ_=>T2 λh=>by cases h) λO=>T2 λ_=>hy (by simpa using O)
 refine T0 (Lj x.2 (by omega)) λ_ _=>?_;refine T1 (λ_=>?_) λ_=>k1 _;exact T1 (λ_=>T2 λh=>by cases h) λ_=>k1 _
def Qww (l:L_ QK)(k n:Int)(hl:QV JG l):Qg (Ge l k n) λr=>r.2=t_->∃z,Jg l k=C z/\r.1<z:=by
 unfold Ge Jg;refine T0 (MV l k hl).self λx hx=>?_;obtain⟨hxe,hx⟩:=hx;refine T1 (λ_=>T2 λh=>by cases h) λhc=>?_;have h:=hx.2 (by simpa using hc);have hk:k.toNat<x.2.sizes.length:=by omega
 have ei:idx x.2.sizes k=C x.2.sizes[k.toNat]:=Sv h.1.1 h.1.2;have k1:∀m,Qg (Wb x m) λr=>r.2=t_->∃z,((Gt l k).bind λx5=>bif (!x5.1)then C 0 else(idx x5.2.sizes k).bind λe7=>C e7)=C z/\r.1<z:=λm=>by
  unfold Wb;refine T0 (P:=λy=>y=t_->m<x.2.sizes[k.toNat]) ?_ λy hy=>?_
  ·unfold Wg;refine T0 (P:=λy=>y=t_->m<x.2.sizes[k.toNat]) ?_ λy hy=>T2 hy;unfold Uk;refine T1 (λ_=>?_) λ_=>T2 λh=>by cases h
   rw[h.2.1,ei,Qa];exact T2 λh=>by simpa using h
  refine T1 (λ_=>T2 λh=>by cases h) λO=>T2 λ_=>⟨x.2.sizes[k.toNat],?_,hy (by simpa using O)⟩;rw[hxe,Qa,hc,Qe,ei];rfl
 refine T0 (Lj x.2 (by omega)) λ_ _=>?_;refine T1 (λ_=>?_) λ_=>k1 _;exact T1 (λ_=>T2 λh=>by cases h) λ_=>k1 _
def WG {α:Type}{o:O_ α}{P:α->Prop}(h:Qg o P){r:α}(e:o=C r):P r:=by
 obtain⟨r',O,h2⟩:=h;rw[e]at O;cases O;exact h2
def QsZ : ∀(n:Nat) (v:LI_) (e:Qs),POk v.length e->SizeOf.sizeOf e<=n->Qg (XU n v e) λ_=>True
 |0,_,e,_,h=>absurd e.pos (by omega)|n+1,v,e,he,h=>by
  cases he with
  |mk _ O h2 h3 h5 h6 hr=>
  unfold XU Bm;have sub:∀(j:Nat) (hj:j<e.Kids.length),Qg (XU n v (e.Kids[j])) λ_=>True:=λj hj=>
   QsZ n v _ (hr _ (Xc hj)) (by have:=QbD (Xc hj);omega)
  have kid:∀(j:Nat) (hj:j<e.Kids.length),idx e.Kids (j:Int)=C e.Kids[j]:=λj hj=>by rw[QG,Qv hj]
  rcases O with O|O|O|O|O|O
  ·refine T0 (P:=λx=>x=.inl v) (by unfold WK;rw[O];exact T2 rfl) λx hx=>?_;subst hx;exact T3
  ·refine T0 (P:=λx=>x=.inr (.inl v)) (by unfold WK;rw[O];exact T2 rfl) λx hx=>?_;subst hx;show Qg (Ae e v) _;unfold Ae CY;have:=h2 O;exact T0 (T0 (T4 (by omega) (by omega)) λ_ _=>T3) λ_ _=>T3
  ·refine T0 (P:=λx=>x=.inr (.inr (.inl v))) (by unfold WK Wa;rw[O];exact T2 rfl) λx hx=>?_;subst hx;show Qg (De (XU n) e v) _;unfold De Bl;have hl:=h3 (.inl O);refine T0 (P:=λ_=>True) ?_ λ_ _=>T3;rw[show idx e.Kids 0=C (e.Kids[0]'(by omega))from kid 0 (by omega),Qa];refine T0 (sub 0 (by omega)) λx _=>?_;refine T1 (λ_=>T3) λ_=>T1 (λ_=>T0 (QjW _) λ_ _=>T3) λ_=>T0 (HJ _ _ _) λ_ _=>T3
  ·refine T0 (P:=λx=>x=.inr (.inr (.inl v))) (by unfold WK Wa;rw[O];exact T2 rfl) λx hx=>?_;subst hx;show Qg (De (XU n) e v) _;unfold De Bl;have hl:=h3 (.inr O);refine T0 (P:=λ_=>True) ?_ λ_ _=>T3;rw[show idx e.Kids 0=C (e.Kids[0]'(by omega))from kid 0 (by omega),Qa];refine T0 (sub 0 (by omega)) λx _=>?_;refine T1 (λ_=>T3) λ_=>T1 (λ_=>T0 (QjW _) λ_ _=>T3) λ_=>T0 (HJ _ _ _) λ_ _=>T3
  ·refine T0 (P:=λx=>x=.inr (.inr (.inr (.inl v)))) (by unfold WK Wa;rw[O];exact T2 rfl) λx hx=>?_;subst hx;show Qg (Af (XU n) e v) _;unfold Af PI;have hl:=h5 O;refine T0 (P:=λ_=>True) ?_ λ_ _=>T3;rw[show idx e.Kids 0=C (e.Kids[0]'(by omega))from kid 0 (by omega),Qa];refine T0 (sub 0 (by omega)) λx _=>?_;have k1:∀b,Qg (DW x e (XU n) v b) λ_=>True:=λb=>by
    unfold DW;refine T1 (λ_=>T0 (HJ _ _ _) λ_ _=>T3) λ_=>?_;rw[show idx e.Kids 1=C (e.Kids[1]'(by omega))from kid 1 (by omega),Qa];refine T0 (sub 1 (by omega)) λy _=>?_;exact T1 (λ_=>T3) λ_=>T0 (HJ _ _ _) λ_ _=>T3
   exact T1 (λ_=>T3) λ_=>T1 (λ_=>k1 _) λ_=>T1 (λ_=>k1 _) λ_=>k1 _
  refine T0 (P:=λx=>x=.inr (.inr (.inr (.inr v)))) (by unfold WK Wa;rw[O];exact T2 rfl) λx hx=>?_;subst hx;show Qg (Ag (XU n) e v) _;unfold Ag HR;have hl:=h6 O;refine T0 (P:=λ_=>True) ?_ λ_ _=>T3;rw[show idx e.Kids 0=C (e.Kids[0]'(by omega))from kid 0 (by omega),Qa];refine T0 (sub 0 (by omega)) λx _=>?_;refine T1 (λ_=>T3) λ_=>T1 (λ_=>?_) λ_=>?_
  ·rw[show idx e.Kids 1=C (e.Kids[1]'(by omega))from kid 1 (by omega),Qa];exact T0 (sub 1 (by omega)) λy _=>T3
  rw[show idx e.Kids 2=C (e.Kids[2]'(by omega))from kid 2 (by omega),Qa];exact T0 (sub 2 (by omega)) λy _=>T3
def Qwx (e:Qs)(v:LI_)(h:WZ e):Qg (HA e v) λ_=>True:=by
 unfold HA;refine T0 (Rn e v.length h) λx hx=>?_;refine T1 (λ_=>T3) λO=>?_;unfold NP;exact T0 (QsZ _ v e (hx (by simpa using O)) (Yk _)) λ_ _=>T3
def Qvb (n:Qc)(O:Int)(vars:LI_)(h:QT n):Qg (DA n O vars) λr=>r.2=0->0<=O/\O<n.Tasks.length:=by
 unfold DA;refine T1 (λ_=>T2 λh=>by cases h) λhc=>?_;simp only[Ku,QU]at hc;refine T0 (T4 (by omega) (by omega)) λe he=>?_;have hv:=(h.tk e he).1;have ke:=h.k.2.2.1.2 e he;refine T1 (λ_=>T2 λh=>by cases h) λhl=>?_;simp only[KA]at hl;refine T0 (T5 (by simp only[QN,Qw];omega)) λ_ _=>?_;refine T6 (P:=λ_=>True) ?_ λ_ _ _=>by omega
 refine T0 (Qg.up e.Vars.length (λst=>st.1) (λst=>st.2.length=e.Vars.length) (Q:=λ_=>True) rfl (by simp) (λi st hi hn hJ=>?_)) (λq _=>?_)
 ·obtain⟨x,l⟩:=st;replace hi:x=(i:Int):=hi;replace hJ:l.length=e.Vars.length:=hJ;show Qg (GF e vars n x l) _;unfold GF;refine T1 (λhc=>?_) (λ_=>T2 (Qp trivial));simp only[Qw]at hc;refine T0 (T4 (by omega) (by omega)) λa _=>?_;refine T0 (T4 (by omega) (by omega)) λb _=>?_;refine T0 (Qx1 _ _ _ h.k.1) λc _=>?_;refine T1 (λ_=>T2 (Qp trivial)) λ_=>?_;refine T0 (T4 (by omega) (by omega)) λd _=>?_;exact T2 (QH ⟨by omega,by subst hi;exact Qo (by omega) (by unfold maxLen;omega:e.Vars.length<=maxLen),by simpa using hJ⟩)
 rcases q with q|q
 ·exact T3
 exact T3
def QaG {α:Type}{l:L_ α}{i:Nat}{x y:α}(h:y∈l.set i x):y=x\/y∈l:=by
 rcases Qg1 h with h|h
 ·exact .inr h
 exact .inl h
def TU (n:Qc)(l:L_ Jy)(O env:LI_)(h:QT n)(hl:QV MT l)(hw:O.length<=1000):Qg (YC n l O env) λr=>r.2=0->KF n O.length r.1/\MX n r.1:=by
 unfold YC;have hpl:=h.pl;refine T0 (T5 (by simp only[QN,Qw];omega)) λ_ _=>?_;refine T0 (Qg.up O.length (λst=>st.1) (λst=>(st.2.length=n.Places.length/\∀b∈st.2,Rt b/\(b.length:Int)<=st.1)/\MX n st.2) (Q:=λq=>(∀x,q=.inl x->x≠0)/\∀m,q=.inr m->KF n O.length m/\MX n m) rfl ⟨⟨by simp,λb hb=>?_⟩,λj b p hb hp k hk=>?_⟩ (λi st hi hn hJ=>?_)) (λq hq=>?_)
 ·have:=QaS hb;subst this;exact⟨Rt.nil,by simp⟩
 ·have:=QaS (XB hb);subst this;simp[QJ,Xg]at hk
 ·obtain⟨x,m⟩:=st;replace hi:x=(i:Int):=hi;obtain⟨⟨hJ1,hJ2⟩,hJ3⟩:(m.length=n.Places.length/\∀b∈m,Rt b/\(b.length:Int)<=x)/\MX n m:=hJ;have err:∀y:Int,y≠0->(∀s',(Sum.inr (Sum.inl y):(Int×L_ QBg)⊕(Int⊕L_ QBg))=.inl s'->i<O.length/\s'.1=((i+1:Nat):Int)/\(s'.2.length=n.Places.length/\∀b∈s'.2,Rt b/\(b.length:Int)<=s'.1)/\MX n s'.2)/\∀r,(Sum.inr (Sum.inl y):(Int×L_ QBg)⊕(Int⊕L_ QBg))=.inr r->(∀x,r=.inl x->x≠0)/\∀m,r=.inr m->KF n O.length m/\MX n m:=
   λy hy=>⟨λs' e=>(by cases e),λr e=>(by cases e;exact⟨λx e=>(by cases e;exact hy),λm e=>(by cases e)⟩)⟩
  show Qg (Df O l env n x m) _;unfold Df;refine T1 (λhc=>?_) (λhc=>T2 (Qp ⟨λx e=>(by cases e),λm' e=>?_⟩))
  ·simp only[Qw]at hc;refine T0 (T4 (by omega) (by omega)) λe18 _=>?_;refine T1 (λ_=>T2 (err _ (by decide))) λhc1=>?_;simp only[Ku,QU]at hc1;refine T0 (T4 (by omega) (by omega)) λe22 h22=>?_;refine T0 (Qwx e22.Expr env (hl.2 e22 h22).2) λx23 _=>?_;refine T1 (λhc2=>T2 (err _ (by simpa using hc2))) λ_=>?_;refine T0 (T4 (by omega) (by omega)) λe25 _=>?_;refine T1 (λ_=>T2 (err _ (by decide))) λhc3=>?_;simp only[Ku,QU]at hc3;refine T0 (T4 (by omega) (by omega)).self λe29 h29=>?_;refine T0 (QsY _ _ _ h.k.1).self λx30 h30=>?_;refine T1 (λ_=>T2 (err _ (by decide))) λhc4=>?_;have hz:=WG (Qww _ _ _ h.k.1) h30.1 (by simpa using hc4);have h30:=h30.2 (by simpa using hc4);refine T0 (T4 (by omega) (by omega)).self λe32 h32e=>?_;have h32:=h32e.2;have h32e:=h32e.1;have h29:=h29.1;rw[ZE,Ql h30];simp only[Qr,Qa];have hb:=hJ2 e32 h32;have key:∃s,JV e32 [(x30.1,1)]=C s/\(s.2=0->(Rt s.1/\s.1.length<=e32.length+1)/\∀k,QJ s.1 k=QJ e32 k+QJ [(x30.1,1)] k):=by
    rcases Au e32 [(x30.1,1)] (by simp;omega)with⟨_,e⟩|⟨_,_,_,e⟩|⟨_,_,r,e,h1,hcn,h2⟩
    ·exact⟨_,e,λh=>by cases h⟩
    ·exact⟨_,e,λh=>by cases h⟩
    exact⟨_,e,λ_=>⟨⟨h1,by simpa using h2⟩,hcn⟩⟩
   obtain⟨s,es,hs⟩:=key;rw[es,Qa];refine T0 (T4 (by omega) (by omega)) λ_ _=>?_;refine T1 (λhc5=>T2 (err _ (by simpa using hc5))) λhc5=>?_;obtain⟨hs,hcn⟩:=hs (by simpa using hc5);refine T2 (QH ⟨by omega,by subst hi;exact Qo (by omega) (by unfold maxLen;omega:O.length<=maxLen),⟨by simpa using hJ1,λb hb'=>?_⟩,λj b p hb' hp k hk=>?_⟩)
   ·subst hi;show Rt b/\(b.length:Int)<=Qh ((i:Int)+1);rw[Qo (by omega) (by unfold maxLen;omega:O.length<=maxLen)];rcases QaG hb' with rfl|hb'
    ·exact⟨hs.1,by omega⟩
    have:=hJ2 b hb';exact⟨this.1,by omega⟩
   have hb':(m.set e25.Place.toNat s.1)[j]? = C b:=hb';by_cases cj:e25.Place.toNat=j
   ·subst cj;rw[Vn (by omega)]at hb';cases hb';rw[DO (by omega)]at h29 h32e;rw[h29]at hp;cases hp;rw[hcn]at hk;by_cases c0:0<QJ e32 k
    ·exact hJ3 _ e32 e29 h32e h29 k c0
    have h9:0<QJ [(x30.1,1)] k:=by omega
    have h8:x30.1=k:=by
     apply Decidable.byContradiction;intro hne;simp[QJ,Xg,hne]at h9
    obtain⟨z,hz1,hz2⟩:=hz;exact⟨z,hz1,by omega⟩
   rw[Vl cj]at hb';exact hJ3 j b p hb' hp k hk
  cases e;exact⟨⟨hJ1,λb hb=>⟨(hJ2 b hb).1,by have:=(hJ2 b hb).2;omega⟩⟩,hJ3⟩
 rcases q with q|q
 ·exact T2 λh=>absurd h (hq.1 q rfl)
 exact T2 λ_=>hq.2 q rfl
def Qns (a m:L_ QBg)(O:QV (QV λ_=>True) a)(hm:QV (QV λ_=>True) m):Qg (GH a m) λ_=>True:=by
 unfold GH XK;refine T0 (P:=λ_=>True) ?_ λ_ _=>T3;refine T1 (λ_=>T3) λh=>?_;simp only[KA]at h;refine T0 (Qg.up a.length (λst=>st) (λ_=>True) (Q:=λ_=>True) rfl trivial (λi st hi hn hJ=>?_)) (λq _=>?_)
 ·show Qg (QS a m st) _;unfold QS;refine T1 (λh=>?_) (λ_=>T2 (Qp trivial));simp only[Qw]at h;refine T0 (T4 (by omega) (by omega)) λx hx=>?_;refine T0 (T4 (by omega) (by omega)) λy hy=>?_;refine T0 (P:=λ_=>True) (by obtain⟨r,hr,_⟩:=AU x y (O.2 x hx).1 (hm.2 y hy).1;exact⟨r,hr,trivial⟩) λ_ _=>?_;exact T1 (λ_=>T2 (Qp trivial)) λ_=>T2 (QH ⟨by omega,by rw[hi];exact Qo (by omega) O.1,trivial⟩)
 rcases q with q|q
 ·exact T3
 exact T3
def KF.len {c:Nat}(h:KF n c m)(hn:QT n)(hc:c<=1000000):QV (QV λ_=>True) m:=
 ⟨by have:=h.1;have:=hn.pl;unfold maxLen;omega,λb O=>⟨by have:=(h.2 b O).2;unfold maxLen;omega,λ_ _=>trivial⟩⟩
structure BOk (n:Qc) (m:List QBg) (b:Xr):Prop where
 net:b.net=n
 mm:b.m=m
 task:b.task∈n.Tasks
def Que (n:Qc)(m:L_ QBg)(O:Int)(vars:LI_)(h:QT n):Qg (YY n m O vars) λr=>r.1=0->BOk n m r.2:=by
 unfold YY;refine T0 (Qvb n O vars h) λx hx=>?_;refine T1 (λhc=>T2 λh=>absurd h (by simpa using hc)) λhc=>?_;have:=hx (by simpa using hc);exact T0 (T4 this.1 this.2) λe he=>T2 λ_=>⟨rfl,rfl,he⟩
def Qq3 (n:Qc)(m:L_ QBg)(b:Xr)(h:QT n)(O:BOk n m b):Qg (XR b) λ_=>True:=by
 unfold XR;refine T0 (Qwx _ _ (h.k.2.2.1.2 _ O.task).2.2.1) λx _=>?_;exact T1 (λ_=>T3) λ_=>T1 (λ_=>T3) λ_=>T3
def QqH (n:Qc)(m:L_ QBg)(b:Xr)(outs:LI_)(h:QT n)(O:BOk n m b)(ho:outs.length<=1000):Qg (Ym b outs) λ_=>True:=by
 unfold Ym;rw[O.net];exact T0 (TU n _ outs _ h (h.k.2.2.1.2 _ O.task).2.2.2.2.2.2.1 ho) λx _=>T3
def Qvc (l:LI_)(x:Int)(h:l.length<=maxLen):Qg (Jb l x) λ_=>True:=Lv l x ⟨h,λ_ _=>trivial⟩
def Vb (l:LI_)(h:l.length<=4294967296):XF l=C l:=by
 unfold XF;rw[Yv (by simp;omega)];rfl
def QhP (l:LI_)(h:l.length<=4294967296):KQ l=C (El l):=by
 unfold KQ;rw[Yv (by omega)];rfl
def Quf (n:Qc)(m:L_ QBg)(b:Xr)(O:LI_)(h:QT n)(hb:BOk n m b)(hm:QV (QV λ_=>True) m)(hi:O.length<=100):Qg (XD b O) λ_=>True:=by
 have ki:=(h.k.2.2.1.2 _ hb.task).2.2.2.2.2.1;have kl:=(h.tk _ hb.task).2.1;unfold XD;rw[hb.net,hb.mm];refine T0 (TU n _ O _ h ki (by omega)) λx hx=>?_;refine T1 (λ_=>T3) λhc=>?_;have hx:=hx (by simpa using hc);refine T0 (Qns _ _ (hx.1.len h (by omega)) hm) λy _=>?_;refine T1 (λ_=>T3) λ_=>T1 (λ_=>T3) λ_=>?_;refine T0 (Qg.up b.task.Ins.length (λst=>st) (λ_=>True) (Q:=λ_=>True) rfl trivial (λi st hi hn _=>?_)) (λq _=>?_)
 ·show Qg (YL b O st) _;unfold YL;refine T1 (λhc=>?_) (λ_=>T2 (Qp trivial));simp only[Qw]at hc;have step:Qg (WE st) λo=>(∀s',o=.inl s'->i<b.task.Ins.length/\s'=((i+1:Nat):Int)/\True)/\∀r:Unit⊕Unit,o=.inr r->True:=
   T2 (QH (ix:=λst=>st) (J:=λ_=>True) (Q:=λ_=>True) ⟨by omega,by rw[hi];exact Qo (by omega) ki.1,trivial⟩)
  refine T0 (Qvc O st (by unfold maxLen;omega)) λz _=>?_;refine T1 (λ_=>step) λ_=>?_;rw[Vb O (by omega),Qa];refine T0 (T5 (by simp;omega)) λ_ _=>?_;rw[QhP _ (by simp;omega),Qa];refine T0 (T5 (by simp[EX])) λ_ _=>?_;rw[hb.net];refine T0 (TU n _ _ _ h ki (by rw[EX];simp;omega)) λu hu=>?_;refine T0 (P:=λ_=>True) ?_ λv _=>?_
  ·unfold HD;rw[hb.mm];refine T1 (λhc2=>?_) λ_=>T3;have hu:=hu (by simpa using hc2);refine T0 (Qns _ _ (hu.1.len h (by rw[EX];simp;omega)) hm) λ_ _=>T3
  unfold HE;exact T1 (λ_=>T2 (Qp trivial)) λ_=>step
 rcases q with q|q
 ·exact T3
 exact T3
def Po (r:L_ LI_):Prop:=r.length<=16/\∀row∈r,row.length<=16
def chB (o:O_ QLL):Bool:=match o with|some r=>decide (r.length<=16)&&r.all λrow=>decide (row.length<=16)|none=>f_
def Qs0 {o:O_ QLL}(h:chB o=t_):Qg o Po:=by
 cases o with
 |none=>cases h
 |some r=>
  simp only[chB,QN,Qw,XS]at h;exact T2 h
def Qs1 {h:Int}(O:¬h<0)(h1:¬16<h):h=0\/h=1\/h=2\/h=3\/h=4\/h=5\/h=6\/h=7\/h=8\/h=9\/h=10\/h=11\/h=12\/h=13\/h=14\/h=15\/h=16:=by omega
set_option maxRecDepth 100000 in
def Qfv (kind O:Int):Qg (Ju kind O) Po:=by
 by_cases hg:((decide (O<0))||((decide (16<O))||((kind==3)&&(decide (4<O)))))=t_
 ·unfold Ju;rw[hg];exact T2 ⟨by simp,λr h=>by cases h⟩
 simp only[KG,QN,Qw,beq_iff_eq,not_or,not_and]at hg;obtain⟨h0,h1,h2⟩:=hg;by_cases e1:kind=1
 ·subst e1;rcases Qs1 h0 h1 with rfl|rfl|rfl|rfl|rfl|rfl|rfl|rfl|rfl|rfl|rfl|rfl|rfl|rfl|rfl|rfl|rfl<;>exact Qs0 (by kernel_rfl)
 by_cases e2:kind=2
 ·subst e2;rcases Qs1 h0 h1 with rfl|rfl|rfl|rfl|rfl|rfl|rfl|rfl|rfl|rfl|rfl|rfl|rfl|rfl|rfl|rfl|rfl<;>exact Qs0 (by kernel_rfl)
 by_cases e3:kind=3
 ·subst e3;have h3:=h2 rfl;have:O=0\/O=1\/O=2\/O=3\/O=4:=by omega
  rcases this with rfl|rfl|rfl|rfl|rfl<;>exact Qs0 (by kernel_rfl)
 have f1:(kind==1)=f_:=by simpa using e1
 have f2:(kind==2)=f_:=by simpa using e2
 have f3:(kind==3)=f_:=by simpa using e3
 unfold Ju Bn;rw[f1,f2,f3];exact T1 (λ_=>T2 ⟨by simp,λr h=>by cases h⟩) λ_=>T2 ⟨by simp,λr h=>by cases h⟩
def Qy5 (a b:LI_)(O:a.length<=maxLen):Qg (Kq a b) λ_=>True:=by
 unfold Kq;refine T1 (λ_=>T3) λh=>?_;simp only[KA]at h;refine T0 (Qg.up a.length (λst=>st) (λ_=>True) (Q:=λ_=>True) rfl trivial (λi st hi hn hJ=>?_)) (λq _=>?_)
 ·show Qg (WM a b st) _;unfold WM;refine T1 (λh=>?_) (λ_=>T2 (Qp trivial));simp only[Qw]at h;refine T0 (T4 (by omega) (by omega)) λx hx=>?_;refine T0 (T4 (by omega) (by omega)) λy hy=>?_;exact T1 (λ_=>T2 (Qp trivial)) λ_=>T2 (QH ⟨by omega,by rw[hi];exact Qo (by omega) O,trivial⟩)
 rcases q with q|q
 ·exact T3
 exact T3
def Qs2 (O h:Int)(row:LI_):Qg (EZ O h row) λ_=>True:=by
 unfold EZ Da GG;refine T0 (Qfv O h) λx hx=>?_;refine T0 (P:=λ_=>True) ?_ λ_ _=>T3;refine T0 (P:=λ_=>True) ?_ λ_ _=>T3;have hl:=hx.1;refine T0 (Qg.up x.length (λst=>st) (λ_=>True) (Q:=λ_=>True) rfl trivial (λi st hi hn hJ=>?_)) (λq _=>?_)
 ·show Qg (Jz x row st) _;unfold Jz NQ;refine T1 (λhc=>?_) (λ_=>T2 (Qp trivial));simp only[Qw]at hc;refine T0 (T4 (by omega) (by omega)) λe he=>?_;have:=hx.2 e he;refine T0 (T0 (Qy5 e row (by unfold maxLen;omega)) λ_ _=>T3) λ_ _=>?_;exact T1 (λ_=>T2 (Qp trivial)) λ_=>T2 (QH ⟨by omega,by rw[hi];exact Qo (by omega) (by unfold maxLen;omega:x.length<=maxLen),trivial⟩)
 rcases q with q|q
 ·exact T3
 exact T3
def Xv (n:Qc)(o:Qd):Prop:=o.Vars.length<=20/\o.Ins.length<=20/\o.Outs.length<=20
def QaH (n:Qc)(m:L_ QBg)(o:Qd)(h:QT n)(hm:QV (QV λ_=>True) m)(ho:Xv n o):Qg (Yb n m o) λ_=>True:=by
 unfold Yb;refine T0 (Que n m o.Task o.Vars h) λx hx=>?_;have k3:∀e,(e=0->x.1=0)->Qg (Kl x o e) λ_=>True:=λe he=>by
  unfold Kl;refine T1 (λ_=>T3) λO=>?_;have hb:=hx (he (by simpa using O));refine T0 (P:=λ_=>True) ?_ λy _=>?_
  ·unfold Hb;refine T0 (Qs2 _ _ _) λz _=>?_;exact T1 (λ_=>T3) λ_=>T0 (Qs2 _ _ _) λ_ _=>T3
  unfold Hc;refine T1 (λ_=>T3) λ_=>?_;refine T0 (Quf n m x.2 o.Ins h hb hm (by have:=ho.2.1;omega)) λz _=>?_;refine T1 (λ_=>T3) λ_=>?_;exact T0 (QqH n m x.2 o.Outs h hb (by have:=ho.2.2;omega)) λ_ _=>T3
 refine T1 (λO=>?_) λO=>k3 _ λh=>h;have O:x.1=0:=by simpa using O
 exact T0 (Qq3 n m x.2 h (hx O)) λe _=>k3 e λ_=>O
def Nj (n:Qc)(o:Qd)(h:QT n)(ho:Xv n o):Qg (Yr n o) λr=>r.2=0->KF n 20 r.1/\MX n r.1:=by
 unfold Yr;refine T0 (Qvb n o.Task o.Vars h) λx hx=>?_;refine T1 (λO=>T2 λh=>absurd h (by simpa using O)) λO=>?_;have:=hx (by simpa using O);refine T0 (T4 this.1 this.2) λe he=>?_;have hl:=ho.2.1;exact T0 (TU n _ _ _ h (h.k.2.2.1.2 _ he).2.2.2.2.2.1 (by omega)) λy hy=>T2 λh0=>⟨(hy h0).1.mono hl,(hy h0).2⟩
def Qkm (n:Qc)(o:Qd)(h:QT n)(ho:Xv n o):Qg (Ah n o) λr=>r.2=0->(KF n 20 r.1/\MX n r.1)/\0<=o.Task/\o.Task<n.Tasks.length:=by
 unfold Ah;refine T0 (Qvb n o.Task o.Vars h) λx hx=>?_;refine T1 (λO=>T2 λh=>absurd h (by simpa using O)) λO=>?_;have:=hx (by simpa using O);refine T0 (T4 this.1 this.2) λe he=>?_;have hl:=ho.2.2;exact T0 (TU n _ _ _ h (h.k.2.2.1.2 _ he).2.2.2.2.2.2.1 (by omega)) λy hy=>T2 λh0=>⟨⟨(hy h0).1.mono hl,(hy h0).2⟩,this⟩
def Qq4 {σ ρ:Type}{body:σ->O_ (σ⊕ρ)}(mu:σ->Nat)(J:σ->Prop){Q:ρ->Prop}{s0:σ}(hJ:J s0)
  (O:∀s,J s->Qg (body s) λo=>(∀h,o=.inl h->mu h<mu s/\J h)/\∀r,o=.inr r->Q r):Qg (Qq body s0) Q:=by
 have key:∀k s,mu s<=k->J s->Qg (Qq body s) Q:=by
  intro k
  induction k with
  |zero=>
   intro s hk hj;obtain⟨o,ho,h1,h2⟩:=O s hj;cases o with|inl h=>have:=(h1 h rfl).1;omega|inr r=>exact⟨r,by rw[Yl,ho];rfl,h2 r rfl⟩
  |succ k ih=>
   intro s hk hj;obtain⟨o,ho,h1,h2⟩:=O s hj;cases o with
   |inl h=>
    obtain⟨h3,h4⟩:=h1 h rfl;obtain⟨r,h5,h6⟩:=ih h (by omega) h4;exact⟨r,by rw[Yl,ho];exact h5,h6⟩
   |inr r=>exact⟨r,by rw[Yl,ho];rfl,h2 r rfl⟩
 exact key _ s0 (Yk _) hJ
def Qnt {l:LI_}{k:Nat}(h:k<l.length)(Z:LI_)(x:Int):(l.take (k+1)++Z).set k x=l.take k++x::Z:=by
 have e:l.take (k+1)=l.take k++[l[k]]:=by rw[JY,Qv h];rfl
 rw[e,Kh,List.set_append,if_neg (by simp;omega)];have:k-(l.take k).length=0:=by simp;omega
 rw[this];rfl
def Lk (m:L_ QBg)(h:m.length<=4294967296)(hb:∀b∈m,b.length<=4294967296):Hx m=C m:=by
 unfold Hx DR;rw[Yv (by simp;omega)];simp only[Qa,FR];obtain⟨r,h1,h2⟩:=(Qg.up (body:=λst=>PB m st.1 st.2) m.length (λst=>st.1) (λst=>st.2=m) (Q:=λq=>q=m) (s0:=(0,m)) rfl rfl (λi st hi hn hJ=>by
  obtain⟨x,l⟩:=st;replace hi:x=(i:Int):=hi;replace hJ:l=m:=hJ;subst hJ;show Qg (PB l x l) _;unfold PB;refine T1 (λhc=>?_) (λ_=>T2 (Qp rfl));simp only[Qw]at hc;have O:i<l.length:=by omega
  rw[hi,QG,Qv O,Qa];unfold JI;rw[Yv (by have:=hb _ (Xc O);simp;omega)];simp only[Qa,FR];exact T2 (QH ⟨O,Qo O (by unfold maxLen;omega),by simp⟩)))
 rw[h1,h2];rfl
def Qx2 (n:Qc)(a b:L_ QBg)(c d:Nat)(h:QT n)(ha:KF n c a)(hb:KF n d b)(hcd:c+d<=1000000):Qg (Jd a b) λr=>r.2=0->KF n (c+d) r.1:=by
 have hpl:=h.pl;have ha1:=ha.1;have hb1:=hb.1;have O:min2 (a.length:Int) (b.length:Int)=(n.Places.length:Int):=by unfold min2;split<;>omega
 unfold Jd;rw[O];refine T0 (T5 (by simp only[QN,Qw];omega)) λ_ _=>?_;refine T0 (Qg.up n.Places.length (λst=>st.1) (λst=>st.2.length=n.Places.length/\∀b∈st.2,Rt b/\b.length<=c+d) (Q:=λq:Int⊕L_ QBg=>(∀x,q=.inl x->x≠0)/\∀m,q=.inr m->KF n (c+d) m) rfl ⟨by simp,λb hb=>?_⟩ (λi st hi hn hJ=>?_)) (λq hq=>?_)
 ·have:=QaS hb;subst this;exact⟨Rt.nil,by simp⟩
 ·obtain⟨x,m⟩:=st;replace hi:x=(i:Int):=hi;obtain⟨hJ1,hJ2⟩:m.length=n.Places.length/\∀b∈m,Rt b/\b.length<=c+d:=hJ;show Qg (JT a b x m) _;unfold JT;rw[O];refine T1 (λhc=>?_) (λhc=>T2 (Qp ⟨λx e=>(by cases e),λm' e=>(by cases e;exact⟨hJ1,hJ2⟩)⟩));simp only[Qw,Qcu]at hc;refine T0 (T4 (by omega) (by omega)) λu hu=>?_;refine T0 (T4 (by omega) (by omega)) λv hv=>?_;have hu2:=ha.2 u hu;have hv2:=hb.2 v hv;have key:∃s,JS u v=C s/\(s.2=0->Rt s.1/\s.1.length<=c+d):=by
   rcases FN u v (by omega)with⟨_,e⟩|⟨_,_,_,e⟩|⟨_,_,_,r,e,h1,_,h2⟩
   ·exact⟨_,e,λh=>by cases h⟩
   ·exact⟨_,e,λh=>by cases h⟩
   exact⟨_,e,λ_=>⟨h1,by show r.length<=_;omega⟩⟩
  obtain⟨s,es,hs⟩:=key;rw[es,Qa];refine T0 (T4 (by omega) (by omega)) λ_ _=>?_;refine T1 (λhc5=>T2 (Qp ⟨λx e=>(by cases e;simpa using hc5),λm' e=>(by cases e)⟩)) λhc5=>?_;have hs:=hs (by simpa using hc5);refine T2 (QH ⟨by omega,by subst hi;exact Qo (by omega) (by unfold maxLen;omega:n.Places.length<=maxLen),by simpa using hJ1,λb hb'=>?_⟩);rcases QaG hb' with rfl|hb'
  ·exact hs
  exact hJ2 b hb'
 rcases q with q|q
 ·exact T2 λh=>absurd h (hq.1 q rfl)
 exact T2 λ_=>hq.2 q rfl
def Qq5 (n:Qc)(a b:L_ QBg)(c d:Nat)(h:QT n)(ha:KF n c a)(hb:KF n d b)(hcd:c+d<=1000000):Qg (Ws a b) λr=>r.2=0->KF n (c+d) r.1:=by
 have hpl:=h.pl;have ha1:=ha.1;have hb1:=hb.1;have O:min2 (a.length:Int) (b.length:Int)=(n.Places.length:Int):=by unfold min2;split<;>omega
 unfold Ws;rw[O];refine T0 (T5 (by simp only[QN,Qw];omega)) λ_ _=>?_;refine T0 (Qg.up n.Places.length (λst=>st.1) (λst=>st.2.length=n.Places.length/\∀b∈st.2,Rt b/\b.length<=c+d) (Q:=λq:Int⊕L_ QBg=>(∀x,q=.inl x->x≠0)/\∀m,q=.inr m->KF n (c+d) m) rfl ⟨by simp,λb hb=>?_⟩ (λi st hi hn hJ=>?_)) (λq hq=>?_)
 ·have:=QaS hb;subst this;exact⟨Rt.nil,by simp⟩
 ·obtain⟨x,m⟩:=st;replace hi:x=(i:Int):=hi;obtain⟨hJ1,hJ2⟩:m.length=n.Places.length/\∀b∈m,Rt b/\b.length<=c+d:=hJ;show Qg (Wh a b x m) _;unfold Wh;rw[O];refine T1 (λhc=>?_) (λhc=>T2 (Qp ⟨λx e=>(by cases e),λm' e=>(by cases e;exact⟨hJ1,hJ2⟩)⟩));simp only[Qw,Qcu]at hc;refine T0 (T4 (by omega) (by omega)) λu hu=>?_;refine T0 (T4 (by omega) (by omega)) λv hv=>?_;have hu2:=ha.2 u hu;have hv2:=hb.2 v hv;have key:∃s,JV u v=C s/\(s.2=0->Rt s.1/\s.1.length<=c+d):=by
   rcases Au u v (by omega)with⟨_,e⟩|⟨_,_,_,e⟩|⟨_,_,r,e,h1,_,h2⟩
   ·exact⟨_,e,λh=>by cases h⟩
   ·exact⟨_,e,λh=>by cases h⟩
   exact⟨_,e,λ_=>⟨h1,by show r.length<=_;omega⟩⟩
  obtain⟨s,es,hs⟩:=key;rw[es,Qa];refine T0 (T4 (by omega) (by omega)) λ_ _=>?_;refine T1 (λhc5=>T2 (Qp ⟨λx e=>(by cases e;simpa using hc5),λm' e=>(by cases e)⟩)) λhc5=>?_;have hs:=hs (by simpa using hc5);refine T2 (QH ⟨by omega,by subst hi;exact Qo (by omega) (by unfold maxLen;omega:n.Places.length<=maxLen),by simpa using hJ1,λb hb'=>?_⟩);rcases QaG hb' with rfl|hb'
  ·exact hs
  exact hJ2 b hb'
 rcases q with q|q
 ·exact T2 λh=>absurd h (hq.1 q rfl)
 exact T2 λ_=>hq.2 q rfl
def Qpo (n:Qc)(m:L_ QBg)(o:Qd)(c:Nat)(h:QT n)(hm:KF n c m)(O:c<=900000)(ho:Xv n o):Qg (KV n m o) λr=>r.2=0->KF n (c+20) r.1:=by
 unfold KV;refine T0 (QaH n m o h (hm.len h (by omega)) ho) λx _=>?_;refine T1 (λO=>T2 λh=>absurd h (by simpa using O)) λ_=>?_;refine T0 (Nj n o h ho) λy hy=>?_;refine T1 (λO=>T2 λh=>absurd h (by simpa using O)) λhc2=>?_;exact T0 (Qx2 n m y.1 c 20 h hm (hy (by simpa using hc2)).1 (by omega)) λz hz=>T2 hz
def Qwy (n:Qc)(m:L_ QBg)(o:Qd)(c:Nat)(h:QT n)(hm:KF n c m)(hc:c<=900000)(ho:Xv n o):Qg (WC n m o) λr=>r.2=0->KF n (c+20) r.1:=by
 have hpl:=h.pl;have hm1:=hm.1;unfold WC;refine T0 (Qkm n o h ho) λy hy=>?_;refine T1 (λhc=>T2 λh=>absurd h (by simpa using hc)) λhc2=>?_;obtain⟨⟨hy,_⟩,h1,h2⟩:=hy (by simpa using hc2);rw[Lk m (by omega) (λb hb=>by have:=(hm.2 b hb).2;omega),Qa];refine T0 (T4 h1 h2) λe he=>?_;have hcl:=(h.tk e he).2.2.2;refine T0 (Qg.up e.Cancel.length (λst=>st.1) (λst=>KF n c st.2) (Q:=λq=>KF n c q) rfl hm (λi st hi hn hJ=>?_)) (λq hq=>?_)
 ·obtain⟨x,l⟩:=st;replace hi:x=(i:Int):=hi;replace hJ:KF n c l:=hJ;show Qg (JJ e x l) _;unfold JJ;refine T1 (λhc=>?_) (λ_=>T2 (Qp hJ));simp only[Qw]at hc;refine T0 (T4 (by omega) (by omega)) λk _=>?_;have next:∀l,KF n c l->Qg (Ed x l) λo=>(∀s',o=.inl s'->i<e.Cancel.length/\s'.1=((i+1:Nat):Int)/\KF n c s'.2)/\∀r:L_ QBg,o=.inr r->KF n c r:=λl hl=>by
   unfold Ed;exact T2 (QH (ix:=λst:Int×L_ QBg=>st.1) (J:=λst:Int×L_ QBg=>KF n c st.2) ⟨by omega,by subst hi;exact Qo (by omega) (by unfold maxLen;omega:e.Cancel.length<=maxLen),hl⟩)
  refine T1 (λO=>?_) λ_=>next l hJ;simp only[QN,Qw]at O;refine T0 (T4 O.1 O.2) λ_ _=>?_;refine next _ ⟨by simpa using hJ.1,λb hb=>?_⟩;rcases QaG hb with rfl|hb
  ·exact⟨Rt.nil,by simp⟩
  exact hJ.2 b hb
 show Qg (Uz y q) _;unfold Uz;exact T0 (Qq5 n q y.1 c 20 h hq hy (by omega)) λz hz=>T2 hz
def Qvd (n:Qc)(m:L_ QBg)(o:Qd)(c:Nat)(h:QT n)(hm:KF n c m)(hc:c<=800000)(ho:Xv n o):Qg (YP n m o) λr=>r.2=0->KF n (c+40) r.1:=by
 unfold YP;refine T0 (Qpo n m o c h hm (by omega) ho) λx hx=>?_;refine T1 (λhc=>T2 λh=>absurd h (by simpa using hc)) λO=>?_;exact T0 (Qwy n x.1 o (c+20) h (hx (by simpa using O)) (by omega) ho) λz hz=>T2 hz
end Go.Proofs
