/- A part of the proof. -/
import Derived.Test.YtdogcfnkpfekmaaGreatDoorN3XPlA
import Derived.Test.YtdogcfnkpfekmaaGreatDoorN3V3
import Derived.Test.YtdogcfnkpfekmaaGreatDoorN3T2
import Derived.KernelRfl
set_option linter.all false
namespace Go.Vm
open Go Go.RowKit
open Option renaming some→C
def Qg {α:Type}(o:O_ α)(Q:α->Prop):Prop:=∃r,o=C r/\Q r
abbrev Xm {α:Type}(o:O_ α):Prop:=Qg o λ_=>True
section
variable {α β σ ρ:Type}
def Qg.ok {a:α}{Q:α->Prop}(h:Q a):Qg (C a) Q:=⟨a,rfl,h⟩
def Qg.okT {a:α}:Qg (C a) λ_=>True:=⟨a,rfl,trivial⟩
def Qg.bind {o:O_ α}{f:α->O_ β}{P:α->Prop}{Q:β->Prop}(h:Qg o P)(k:∀x,P x->Qg (f x) Q):Qg (o.bind f) Q:=by
 obtain⟨x,rfl,O⟩:=h;exact k x O
def Qg.bif {c:Bool}{a b:O_ α}{Q:α->Prop}(h:c=true->Qg a Q)(O:c=false->Qg b Q):Qg (bif c then a else b) Q:=by
 cases c with
 | true=>exact h rfl
 | false=>exact O rfl
def Qg.chk {c:Bool}(h:c=true):Qg (chk c) λ_=>True:=⟨(),GV h,trivial⟩
def Qg.idx {l:L_ α}{j:Int}(h:0<=j)(O:j<l.length):Qg (idx l j) λx=>x∈l:=by
 rw[PT h O];exact⟨_,rfl,Xn _⟩
def Qg.sidx {s:ByteArray}{j:Int}(h:0<=j)(O:j<s.size):Qg (sidx s j) λ_=>True:=by
 unfold Vm.sidx;rw[if_pos h];have:j.toNat<s.size:=by omega
 rw[getElem?_pos s j.toNat this];exact⟨_,rfl,trivial⟩
def Qg.mono {o:O_ α}{P Q:α->Prop}(h:Qg o P)(k:∀x,P x->Q x):Qg o Q:=let ⟨r,h1,h2⟩:=h;⟨r,h1,k r h2⟩
def Qg.tot {o:O_ α}{P:α->Prop}(h:Qg o P):∃r,o=C r:=let ⟨r,h1,_⟩:=h;⟨r,h1⟩
def Qg.self {o:O_ α}{P:α->Prop}(h:Qg o P):Qg o λx=>o=C x/\P x:=let ⟨r,h1,h2⟩:=h;⟨r,h1,h1,h2⟩
def Qg.up {body:σ->O_ (σ⊕ρ)}(n:Nat)(ix:σ->Int)(J:σ->Prop){Q:ρ->Prop}{s0:σ}(h0:ix s0=0)(hJ:J s0)
  (O:∀(i:Nat) s,ix s=(i:Int)->i<=n->J s->Qg (body s) λo=>(∀h,o=.inl h->i<n/\ix h=((i+1:Nat):Int)/\J h)/\∀r,o=.inr r->Q r):Qg (Qh body s0) Q:=by
 have key:∀k i s,i+k=n->ix s=(i:Int)->J s->∃r,Qh body s=C r/\Q r:=by
  intro k
  induction k with
  | zero=>
   intro i s hk hi hj;obtain⟨o,ho,h1,h2⟩:=O i s hi (by omega) hj;rw[Yl,ho];cases o with
   | inl h=>have:=(h1 h rfl).1;omega
   | inr r=>exact⟨r,rfl,h2 r rfl⟩
  | succ k ih=>
   intro i s hk hi hj;obtain⟨o,ho,h1,h2⟩:=O i s hi (by omega) hj;rw[Yl,ho];cases o with
   | inl h=>
    obtain⟨_,h3,h4⟩:=h1 h rfl;exact ih (i+1) h (by omega) h3 h4
   | inr r=>exact⟨r,rfl,h2 r rfl⟩
 exact key n 0 s0 (by omega) h0 hJ
def QG {s:σ}{n i:Nat}{ix:σ->Int}{J:σ->Prop}{Q:ρ->Prop}(h:i<n/\ix s=((i+1:Nat):Int)/\J s):
  (∀O,(Sum.inl s:σ⊕ρ)=.inl O->i<n/\ix O=((i+1:Nat):Int)/\J O)/\∀r,(Sum.inl s:σ⊕ρ)=.inr r->Q r:=
 ⟨λO e=>(by cases e;exact h),λr e=>(by cases e)⟩
def Qn {r:ρ}{n i:Nat}{ix:σ->Int}{J:σ->Prop}{Q:ρ->Prop}(h:Q r):
  (∀O,(Sum.inr r:σ⊕ρ)=.inl O->i<n/\ix O=((i+1:Nat):Int)/\J O)/\∀r',(Sum.inr r:σ⊕ρ)=.inr r'->Q r':=
 ⟨λO e=>(by cases e),λr' e=>(by cases e;exact h)⟩
end
def QP {α:Type}(ok:α->Prop)(l:L_ α):Prop:=l.length<=maxLen/\∀x∈l,ok x
def QP.drop {α:Type}{ok:α->Prop}{l:L_ α}(h:QP ok l)(k:Nat):QP ok (l.drop k):=⟨by have:=h.1;rw[PZ];omega,λx O=>h.2 x (Qa6 O)⟩
def QP.take {α:Type}{ok:α->Prop}{l:L_ α}(h:QP ok l)(k:Nat):QP ok (l.take k):=⟨by have:=h.1;rw[KX];omega,λx O=>h.2 x (Cu O)⟩
def QP.nil {α:Type}{ok:α->Prop}:QP ok ([]:L_ α):=⟨by simp,λx h=>by cases h⟩
def UW (s:ByteArray):Prop:=s.size<=maxLen
def QuA {s:ByteArray}(h:Ko s (⟨#[]⟩:ByteArray)=false):0<s.size:=by
 apply Nat.pos_of_ne_zero;intro O;have:s=⟨#[]⟩:=by
  obtain⟨a⟩:=s;have:a=#[]:=QsC O;rw[this]
 subst this;simp[Ko]at h
def OM {a b:Int}:0<=min2 a b↔0<=a/\0<=b:=by unfold min2;split<;>omega
def ON {a b n:Int}:max2 a b<n↔a<n/\b<n:=by unfold max2;split<;>omega
def OO {a b n:Int}:max2 a b<=n↔a<=n/\b<=n:=by unfold max2;split<;>omega
abbrev T0:=@Qg.bind
abbrev T1:=@Qg.bif
abbrev T2:=@Qg.ok
abbrev T3:=@Qg.okT
abbrev T4:=@Qg.idx
abbrev T5:=@Qg.chk
abbrev T6:=@Qg.mono
def GW (l:L_ (Int×Int)):Prop:=l.Pairwise λp q=>p.1<q.1
def ZP (l:L_ (Int×Int)):Prop:=l.Pairwise λp q=>p.1≠q.1
def GW.nd {l:L_ (Int×Int)}(h:GW l):ZP l:=h.imp λh=>by omega
def Gm {p:Int×Int}{l:L_ (Int×Int)}:GW (p::l)↔(∀q∈l,p.1<q.1)/\GW l:=FA
def Qsl {p:Int×Int}{l:L_ (Int×Int)}:ZP (p::l)↔(∀q∈l,p.1≠q.1)/\ZP l:=FA
def OP {l:L_ (Int×Int)}{k:Int}:Qr l k=none↔∀p∈l,p.1≠k:=by
 induction l with
 | nil=>simp[Qr]
 | cons p l O=>
  obtain⟨a,x⟩:=p;rw[Ys];by_cases h:a=k
  ·simp[h]
  simp[h,O]
def Kc {l:L_ (Int×Int)}(hn:ZP l){k v:Int}:Qr l k=C v↔(k,v)∈l:=by
 induction l with
 | nil=>simp[Qr]
 | cons p l ih=>
  obtain⟨a,x⟩:=p;obtain⟨O,h2⟩:=Qsl.1 hn;rw[Ys];by_cases h:a=k
  ·subst h;rw[if_pos rfl];constructor
   ·intro e;cases e;simp
   intro e;rcases XV.1 e with e | e
   ·cases e;rfl
   exact absurd rfl (O (a,v) e)
  rw[if_neg h,ih h2];constructor
  ·intro e;exact Yb _ e
  intro e;rcases XV.1 e with e | e
  ·cases e;exact absurd rfl h
  exact e
def QuB {l m:L_ (Int×Int)}(hl:ZP l)(h:l.Perm m)(k:Int):Qr l k=Qr m k:=by
 have hm:ZP m:=(h.pairwise_iff (λO=>Ne.symm O)).1 hl;apply Option.ext;intro v;rw[Kc hl,Kc hm];exact h.mem_iff
def asc_ext {l m:L_ (Int×Int)}(hl:GW l)(hm:GW m)(h:∀k,Qr l k=Qr m k):l=m:=by
 induction l generalizing m with
 | nil=>
  cases m with
  | nil=>rfl
  | cons p m=>have:=h p.1;rw[Ys (κ:=Int)]at this;simp[Qr]at this
 | cons p l ih=>
  obtain⟨a,x⟩:=p;cases m with
  | nil=>have:=h a;rw[Ys]at this;simp[Qr]at this
  | cons q m=>
   obtain⟨b,y⟩:=q;obtain⟨l1,l2⟩:=Gm.1 hl;obtain⟨m1,m2⟩:=Gm.1 hm;have O:a=b:=by
    rcases Int.lt_trichotomy a b with hc | hc | hc
    ·have e:=h a;rw[Ys,Ys,if_pos rfl,if_neg (by omega),OP.2 (λp hp=>by have:=m1 p hp;simp at this;omega)]at e;cases e
    ·exact hc
    have e:=h b;rw[Ys,Ys,if_neg (by omega),if_pos rfl,OP.2 (λp hp=>by have:=l1 p hp;simp at this;omega)]at e;cases e
   subst O;have e:=h a;rw[Ys,Ys,if_pos rfl,if_pos rfl]at e;cases e;rw[ih l2 m2 λk=>?_];by_cases hk:a=k
   ·subst hk;rw[OP.2 (λp hp=>by have:=l1 p hp;simp at this;omega),OP.2 (λp hp=>by have:=m1 p hp;simp at this;omega)]
   have:=h k;rwa[Ys,Ys,if_neg hk,if_neg hk]at this
def Qx4 {l:L_ (Int×Int)}{k v:Int}{p:Int×Int}(h:p∈FT l k v):∃q∈l,q.1=p.1:=by
 induction l with
 | nil=>cases h
 | cons q l ih=>
  obtain⟨a,x⟩:=q;rw[FT]at h;split at h
  ·rename_i e;rcases XV.1 h with rfl | h
   ·exact⟨_,XD,e⟩
   exact⟨p,Yb _ h,rfl⟩
  rcases XV.1 h with rfl | h
  ·exact⟨_,XD,rfl⟩
  obtain⟨q,O,h2⟩:=ih h;exact⟨q,Yb _ O,h2⟩
def QvZ {lt:Int->Int->Bool}{l:L_ (Int×Int)}{k v:Int}{p:Int×Int}(h:p∈BL lt l k v):p=(k,v)\/p∈l:=by
 induction l with
 | nil=>simp[BL]at h;exact .inl h
 | cons q l O=>
  obtain⟨a,x⟩:=q;rw[BL]at h;split at h
  ·rcases XV.1 h with h | h
   ·exact .inl h
   exact .inr h
  rcases XV.1 h with h | h
  ·exact .inr (h▸XD)
  rcases O h with h | h
  ·exact .inl h
  exact .inr (Yb _ h)
def Qq4 {l:L_ (Int×Int)}(h:GW l)(k v:Int):GW (XL WI l k v):=by
 unfold XL;split
 ·rename_i x hx;clear hx
  induction l with
  | nil=>exact h
  | cons p l ih=>
   obtain⟨a,x⟩:=p;obtain⟨h1,h2⟩:=Gm.1 h;rw[FT];split
   ·rename_i e;subst e;exact Gm.2 ⟨h1,h2⟩
   refine Gm.2 ⟨λq O=>?_,ih h2⟩;obtain⟨q',hq',e⟩:=Qx4 O;rw[<-e];exact h1 _ hq'
 rename_i hn
 induction l with
 | nil=>exact Qdb _ _
 | cons p l ih=>
  obtain⟨a,x⟩:=p;obtain⟨h1,h2⟩:=Gm.1 h;rw[Ys]at hn;split at hn
  ·cases hn
  rename_i hne;rw[BL];split
  ·rename_i e;have e:k<a:=Xd e;refine Gm.2 ⟨λq O=>?_,h⟩;rcases XV.1 O with rfl | O
   ·exact e
   have:=h1 q O;simp at this ⊢;omega
  rename_i e;have e:¬k<a:=λc=>e (Qt c);refine Gm.2 ⟨λq O=>?_,ih h2 hn⟩;rcases QvZ O with rfl | O
  ·show a<k;omega
  exact h1 q O
def Qv0 {l:L_ (Int×Int)}{k v:Int}:(FT l k v).length=l.length:=by
 induction l with
 | nil=>rfl
 | cons p l h=>
  obtain⟨a,x⟩:=p;rw[FT];split
  ·rfl
  simp[h]
def Qv1 {lt:Int->Int->Bool}{l:L_ (Int×Int)}{k v:Int}:(BL lt l k v).length=l.length+1:=by
 induction l with
 | nil=>rfl
 | cons p l h=>
  obtain⟨a,x⟩:=p;rw[BL];split
  ·rfl
  simp[h]
def Qv2 {l:L_ (Int×Int)}{k v:Int}:(XL WI l k v).length<=l.length+1:=by
 unfold XL;split
 ·rw[Qv0];omega
 rw[Qv1];exact Yx _
def Qv3 {l:L_ (Int×Int)}{k v:Int}(h:GW (l++[(k,v)])):XL WI l k v=l++[(k,v)]:=by
 have hl:GW l:=(Qfz.1 h).1;refine asc_ext (Qq4 hl k v) h λj=>?_;rw[Kb];have O:∀p∈l,p.1<k:=λp hp=>(Qfz.1 h).2.2 p hp (k,v) (by simp);clear h
 induction l with
 | nil=>
  show(if j=k then C v else none)=(if k=j then C v else none);by_cases c:j=k
  ·rw[if_pos c,if_pos c.symm]
  rw[if_neg c,if_neg (λe=>c e.symm)]
 | cons p l ih=>
  obtain⟨a,x⟩:=p;have h1:=O (a,x) XD;simp only at h1;rw[Qfw,Ys,Ys];rw[<-ih (Gm.1 hl).2 λp hp=>O p (Yb _ hp)];by_cases c:j=k
  ·subst c;rw[if_pos rfl,if_pos rfl,if_neg (by omega)]
  rw[if_neg c,if_neg c]
section
variable {ρ:Type}{g:Int->Int->Int}{stop:Int->Bool}{q:O_ ρ}{body:L_ (Int×Int)->Int×Int->O_ (L_ (Int×Int)⊕ρ)}
def QH (s:L_ (Int×Int))(k:Int):Int:=(Qr s k).getD 0
def QiN (g:Int->Int->Int)(s l:L_ (Int×Int))(k:Int):O_ Int:=match Qr l k with
 | some v=>C (g (QH s k) v)
 | none=>Qr s k
def Qgj (hb:∀s p,body s p=bif stop (g (QH s p.1) p.2)then q.map Sum.inr else C (.inl (XL WI s p.1 (g (QH s p.1) p.2)))):
  ∀l s,GW s->ZP l->((∃p∈l,stop (g (QH s p.1) p.2)=true)/\JY body s l=q.map Sum.inr)\/
   ((∀p∈l,stop (g (QH s p.1) p.2)=false)/\∃s',JY body s l=C (.inl s')/\GW s'/\s'.length<=s.length+l.length/\∀k,Qr s' k=QiN g s l k):=by
 intro l
 induction l with
 | nil=>intro s hs _;exact .inr ⟨λp h=>(by cases h),s,rfl,hs,by simp,λk=>rfl⟩
 | cons p l ih=>
  intro s hs hl;obtain⟨h1,h2⟩:=Qsl.1 hl;simp only[JY,hb];cases hst:stop (g (QH s p.1) p.2)with
  | true=>exact .inl ⟨⟨p,XD,hst⟩,by cases q<;>rfl⟩
  | false=>
   simp only[Qi,Qa,Sum.elim_inl];have hc:∀r∈l,QH (XL WI s p.1 (g (QH s p.1) p.2)) r.1=QH s r.1:=λr O=>by
    unfold QH;rw[Kb,if_neg (λe=>h1 r O e.symm)]
   rcases ih _ (Qq4 hs p.1 (g (QH s p.1) p.2)) h2 with⟨⟨r,O,h3⟩,h4⟩|⟨h3,s',h4,h5,h6,h7⟩
   ·exact .inl ⟨⟨r,Yb _ O,by rw[hc r O]at h3;exact h3⟩,h4⟩
   refine .inr ⟨λr O=>?_,s',h4,h5,?_,λk=>?_⟩
   ·rcases XV.1 O with rfl | O
    ·exact hst
    have:=h3 r O;rwa[hc r O]at this
   ·have:=Qv2 (l:=s) (k:=p.1) (v:=g (QH s p.1) p.2);simp;omega
   rw[h7];obtain⟨a,x⟩:=p;unfold QiN;rw[Ys];by_cases e:a=k
   ·subst e;rw[if_pos rfl,OP.2 (λr O=>Ne.symm (h1 r O)),Kb,if_pos rfl]
   rw[if_neg e];simp only[QH,Kb,if_neg (λe'=>e (Eq.symm e'):¬k=a)]
def Qno (hb:∀s p,body s p=bif stop (g (QH s p.1) p.2)then q.map Sum.inr else C (.inl (XL WI s p.1 (g (QH s p.1) p.2)))){l s:L_ (Int×Int)}(hs:GW s)(hl:ZP l):
  ((∃p∈l,stop (g (QH s p.1) p.2)=true)/\∀r,q=C r->IZ body s l=C (.inr r))\/
   ((∀p∈l,stop (g (QH s p.1) p.2)=false)/\∃s',IZ body s l=C (.inl s')/\GW s'/\s'.length<=s.length+l.length/\∀k,Qr s' k=QiN g s l k):=by
 have key:∀l':L_ (Int×Int),l'.Perm l->JY body s l'=JY body s l:=λl' hp=>by
  have hl':ZP l':=(hp.pairwise_iff (λhab=>Ne.symm hab)).2 hl;rcases Qgj hb l' s hs hl' with⟨⟨p,h,h2⟩,O⟩|⟨h,s1,O,h4,_,h5⟩
  ·rcases Qgj hb l s hs hl with⟨_,g3⟩|⟨g1,_⟩
   ·rw[O,g3]
   rw[g1 p (hp.mem_iff.1 h)]at h2;cases h2
  rcases Qgj hb l s hs hl with⟨⟨p,g1,g2⟩,g3⟩|⟨g1,s2,g3,g4,_,g5⟩
  ·rw[h p (hp.mem_iff.2 g1)]at g2;cases g2
  rw[O,g3,asc_ext h4 g4 λk=>?_];rw[h5,g5];unfold QiN;rw[QuB hl' hp k]
 rcases Qgj hb l s hs hl with⟨h,O⟩|⟨h,s1,O,h4,h6,h5⟩
 ·exact .inl ⟨h,λr hr=>HQ.2 ⟨key,by rw[O,hr];rfl⟩⟩
 exact .inr ⟨h,s1,HQ.2 ⟨key,O⟩,h4,h6,h5⟩
end
def Qtc {ρ:Type}{bad:Int×Int->Bool}{q:ρ}{body:Unit->Int×Int->O_ (Unit⊕ρ)}(O:∀p,body () p=C (bif bad p then .inr q else .inl ()))(l:L_ (Int×Int)):
  IZ body () l=C (bif l.any bad then .inr q else .inl ()):=by
 have h:∀l:L_ (Int×Int),JY body () l=C (bif l.any bad then .inr q else .inl ()):=by
  intro l
  induction l with
  | nil=>rfl
  | cons p l ih=>
   simp only[JY,O,Qa,List.any_cons];cases bad p with
   | true=>rfl
   | false=>exact ih
 refine HQ.2 ⟨λl' hp=>?_,h l⟩;rw[h,h];congr 2;rw[NC,EX,EX];exact⟨λ⟨x,a,b⟩=>⟨x,hp.mem_iff.1 a,b⟩,λ⟨x,a,b⟩=>⟨x,hp.mem_iff.2 a,b⟩⟩
def Ek (a:Int):L_ (Int×Int)->Bool
 | []=>true
 | p::r=>!(decide (p.1<=a)||(decide (p.2<1)||decide (1048576<p.2)))&&Ek p.1 r
def Qw9 {a:Int}{l:L_ (Int×Int)}:Ek a l=true↔GW l/\∀p∈l,a<p.1/\1<=p.2/\p.2<=1048576:=by
 induction l generalizing a with
 | nil=>simp[Ek,GW]
 | cons p l ih=>
  rw[Ek,QJ,ih,Gm];simp only[An,JT,QS];constructor
  ·rintro ⟨⟨h1,h2,O⟩,h4,h5⟩;refine⟨⟨λq h=>(h5 q h).1,h4⟩,λq h=>?_⟩;rcases XV.1 h with rfl | h
   ·omega
   have:=h5 q h;omega
  rintro ⟨⟨h1,h2⟩,O⟩;have:=O p XD;exact⟨by omega,h2,λq h=>⟨h1 q h,(O q (Yb _ h)).2⟩⟩
def Rt (l:L_ (Int×Int)):Prop:=GW l/\∀p∈l,0<=p.1/\1<=p.2/\p.2<=1048576
def YV {l:L_ (Int×Int)}:Ek (-1) l=true↔Rt l:=by
 rw[Qw9];constructor
 ·rintro ⟨h,O⟩;exact⟨h,λp hp=>by have:=O p hp;omega⟩
 rintro ⟨h,O⟩;exact⟨h,λp hp=>by have:=O p hp;omega⟩
def Rt.nil : Rt []:=⟨List.Pairwise.nil,λp h=>by cases h⟩
def ET {l:L_ (Int×Int)}(h:ZP l){p:Int×Int}(hp:p∈l):QH l p.1=p.2:=by
 unfold QH;rw[(Kc h).2 (show(p.1,p.2)∈l from hp)];rfl
def Rt.cnt {l:L_ (Int×Int)}(h:Rt l)(k:Int):0<=QH l k/\QH l k<=1048576:=by
 unfold QH;cases e:Qr l k with
 | none=>simp
 | some v=>have:=h.2 _ ((Kc h.1.nd).1 e);simp at this ⊢;omega
def Rt.cnt_pos {l:L_ (Int×Int)}(h:Rt l){k:Int}(O:0<QH l k):0<=k:=by
 unfold QH at O;cases e:Qr l k with
 | none=>rw[e]at O;simp at O
 | some v=>exact(h.2 _ ((Kc h.1.nd).1 e)).1
def rt_ext {l m:L_ (Int×Int)}(hl:Rt l)(hm:Rt m)(h:∀k,QH l k=QH m k):l=m:=by
 refine asc_ext hl.1 hm.1 λk=>?_;have:=h k;unfold QH at this;cases e1:Qr l k with
 | none=>
  cases O:Qr m k with
  | none=>rfl
  | some v=>have h3:=hm.2 _ ((Kc hm.1.nd).1 O);rw[e1,O]at this;simp at this h3;omega
 | some v=>
  have h3:=hl.2 _ ((Kc hl.1.nd).1 e1);cases O:Qr m k with
  | none=>rw[e1,O]at this;simp at this h3;omega
  | some u=>rw[e1,O]at this;simpa using this
def Nu (l:L_ (Int×Int)):L_ (Int×Int):=l.filter λp=>decide (0<p.2)
def Qq5 {l:L_ (Int×Int)}(h:GW l)(k:Int):QH (Nu l) k=if 0<QH l k then QH l k else 0:=by
 have hp:GW (Nu l):=h.sublist List.filter_sublist;by_cases c:0<QH l k
 ·rw[if_pos c];unfold QH at c;cases e:Qr l k with
  | none=>rw[e]at c;simp at c
  | some v=>
   rw[e]at c;have O:(k,v)∈Nu l:=Ua.2 ⟨(Kc h.nd).1 e,by simpa using c⟩;unfold QH;rw[(Kc hp.nd).2 O,e]
 rw[if_neg c];unfold QH;cases e:Qr (Nu l) k with
 | none=>rfl
 | some v=>
  have O:=Ua.1 ((Kc hp.nd).1 e);have h2:=(Kc h.nd).2 O.1;unfold QH at c;rw[h2]at c;simp at O c;omega
def QuC {l:L_ (Int×Int)}(h:GW l)(hb:∀k,0<QH l k->0<=k/\QH l k<=1048576):Rt (Nu l):=by
 refine⟨h.sublist List.filter_sublist,λp hp=>?_⟩;obtain⟨O,h2⟩:=Ua.1 hp;have h3:=ET h.nd O;have h4:0<p.2:=Xd h2;have:=hb p.1 (by omega);omega
def QuD {l:L_ (Int×Int)}(h:GW l):Kq (l.map Prod.fst)=l.map Prod.fst:=by
 rw[QfZ];refine List.mergeSort_of_pairwise ?_;rw[Zx];exact h.imp λh=>by simp;omega
def upL : Int->Nat->L_ Int
 | _,0=>[]
 | x,k+1=>x::upL (x+1) k
def binds : L_ Int->L_ (L_ Int)
 | []=>[[]]
 | s::r=>(0::upL 1 (s-1).toNat).flatMap λx=>(binds r).map (x::·)
def Jz : L_ Int->L_ Int->L_ (L_ Int)
 | s::r,x::d=>(Jz r d).map (x::·)++(upL (x+1) (s-(x+1)).toNat).flatMap λy=>(binds r).map (y::·)
 | _,_=>[]
def Ln (l:L_ Int):L_ Int:=List.replicate l.length 0
def QeH (l:L_ Int):binds l=Ln l::Jz l (Ln l):=by
 induction l with
 | nil=>rfl
 | cons s r h=>
  show(0::upL 1 (s-1).toNat).flatMap (λx=>(binds r).map (x::·))=(0::Ln r)::((Jz r (Ln r)).map (0::·)++(upL (0+1) (s-(0+1)).toNat).flatMap λy=>(binds r).map (y::·));rw[UE,Int.zero_add];have:(binds r).map (λx=>(0:Int)::x)=(0::Ln r)::(Jz r (Ln r)).map (0::·):=by rw[h];rfl
  rw[this];rfl
def Qbn : L_ Int->L_ Int->O_ (L_ Int)
 | s::r,x::d=>match Qbn r d with
  | some e=>C (x::e)
  | none=>if x+1<s then C ((x+1)::Ln r)else none
 | _,_=>none
def Qnp : ∀l d:L_ Int,Jz l d=match Qbn l d with
  | none=>[]
  | some e=>e::Jz l e:=by
 intro l
 induction l with
 | nil=>intro d;rfl
 | cons s r O=>
  intro d;cases d with
  | nil=>rfl
  | cons x d=>
   have h:=O d;rw[Qbn];cases e:Qbn r d with
   | some e'=>
    rw[e]at h;simp only[Jz,h];rfl
   | none=>
    rw[e]at h;simp only at h;simp only[Jz,h,List.map_nil,LW];by_cases c:x+1<s
    ·rw[if_pos c];rw[show(s-(x+1)).toNat=(s-(x+1+1)).toNat+1 by omega,upL,UE];have:(binds r).map (λz=>(x+1)::z)=((x+1)::Ln r)::(Jz r (Ln r)).map ((x+1)::·):=by rw[QeH r];rfl
     rw[this];rfl
    rw[if_neg c,show(s-(x+1)).toNat=0 by omega];rfl
def Qh9 : ∀l d:L_ Int,(∀(j:Nat) x s,d[j]? = C x->l[j]? = C s->¬x+1<s)->Qbn l d=none:=by
 intro l
 induction l with
 | nil=>intro d _;cases d<;>rfl
 | cons s r ih=>
  intro d h;cases d with
  | nil=>rfl
  | cons x d=>
   rw[Qbn,ih d λj y z O h2=>h (j+1) y z (by simpa using O) (by simpa using h2)];simp only;rw[if_neg (h 0 x s rfl rfl)]
def Qsm : ∀(k:Nat) (l d:L_ Int) (x s:Int),l.length=d.length->d[k]? = C x->l[k]? = C s->x+1<s->(∀(j:Nat) y z,k<j->d[j]? = C y->l[j]? = C z->¬y+1<z)->
  Qbn l d=C (d.take k++(x+1)::List.replicate (d.length-(k+1)) 0):=by
 intro k
 induction k with
 | zero=>
  intro l d x s hl h hs O ha;cases l with
  | nil=>cases hs
  | cons s' r=>
   cases d with
   | nil=>cases h
   | cons x' d=>
    simp only[Ql2,Option.some.injEq]at h hs;subst h;subst hs;rw[Qbn,Qh9 r d λj y z h1 h2=>ha (j+1) y z (by omega) (by simpa using h1) (by simpa using h2)];simp only;rw[if_pos O];simp only[We]at hl;simp[Ln];omega
 | succ k ih=>
  intro l d x s hl h hs O ha;cases l with
  | nil=>cases hs
  | cons s' r=>
   cases d with
   | nil=>cases h
   | cons x' d=>
    simp only[Qfy]at h hs;simp only[We,Nat.add_right_cancel_iff]at hl;rw[Qbn,ih r d x s hl h hs O λj y z h0 h1 h2=>ha (j+1) y z (by omega) (by simpa using h1) (by simpa using h2)];simp
def inB : L_ Int->L_ Int->Prop
 | [],[]=>True
 | s::r,x::d=>0<=x/\(x=0\/x<s)/\inB r d
 | _,_=>False
def Qxa {y x:Int}{k:Nat}:y∈upL x k↔x<=y/\y<x+k:=by
 induction k generalizing x with
 | zero=>
  simp only[upL,List.not_mem_nil,false_iff];omega
 | succ k h=>simp only[upL,XV,h];omega
def QuE {l d:L_ Int}:d∈binds l↔inB l d:=by
 induction l generalizing d with
 | nil=>cases d<;>simp[binds,inB]
 | cons s r ih=>
  cases d with
  | nil=>simp[binds,inB]
  | cons x d=>
   simp only[binds,List.mem_flatMap,XV,Qxa,YB,List.cons.injEq,inB,<-ih];constructor
   ·rintro ⟨y,O,e,h,rfl,rfl⟩;exact⟨by omega,by omega,h⟩
   rintro ⟨O,h,h3⟩;exact⟨x,by omega,d,h3,rfl,rfl⟩
def Qxb {l d:L_ Int}(h:inB l d):d.length=l.length:=by
 induction l generalizing d with
 | nil=>cases d with
  | nil=>rfl
  | cons x d=>exact h.elim
 | cons s r O=>cases d with
  | nil=>exact h.elim
  | cons x d=>simp[O h.2.2]
section
variable {α:Type}
def Jf (most:Nat)(h X:L_ α):L_ α⊕L_ α:=if (h++X).length<most then .inr (h++X)else .inl ((h++X).take most)
def SU {most:Nat}{O:L_ α}(h:O.length<most):Jf most O []=.inr O:=by
 unfold Jf;rw[Qda,if_pos h]
def Qv4 {most:Nat}{O X:L_ α}(h:O.length=most):Jf most O X=.inl O:=by
 unfold Jf;rw[if_neg (by simp;omega)];subst h;rw[List.take_left]
def Qv5 {most:Nat}{h X:L_ α}{x:α}:Jf most h (x::X)=Jf most (h++[x]) X:=by
 unfold Jf;rw[Dz];rfl
def QiO {most:Nat}{h X Y:L_ α}:Jf most h (X++Y)=match Jf most h X with
  | .inl a=>.inl a
  | .inr a=>Jf most a Y:=by
 unfold Jf;by_cases c:(h++X).length<most
 ·rw[if_pos c];simp only[Dz]
 rw[if_neg c,if_neg (by simp at c ⊢;omega),<-Dz,QiD (by omega)]
def Qnq {most:Nat}{O X a:L_ α}(h:Jf most O X=.inr a):a.length<most:=by
 unfold Jf at h;split at h
 ·cases h;assumption
 cases h
def QiP {most:Nat}{O X a:L_ α}(h:Jf most O X=.inr a):a=O++X:=by
 unfold Jf at h;split at h
 ·cases h;rfl
 cases h
def Qq6 {most:Nat}{X:L_ α}(h:0<most):(match Jf most [] X with | .inl a=>a | .inr a=>a)=X.take most:=by
 unfold Jf;rw[LW];by_cases c:X.length<most
 ·rw[if_pos c];simp only;rw[JE (by omega)]
 rw[if_neg c]
end
section
variable {M K:Type}[DecidableEq K](key:M->K)(succ:M->L_ M)
def Qia (out:L_ M)(x:M):Bool:=out.any λy=>decide (key y=key x)
def YQ (most:Nat):L_ M->L_ M->L_ M⊕L_ M
 | out,[]=>.inr out
 | out,x::xs=>if Qia key out x then YQ most out xs else if out.length=most then .inl out else YQ most (out++[x]) xs
def Ex (most:Nat):Nat->L_ M->Nat->L_ M×Bool
 | 0,out,_=>(out,true)
 | f+1,out,a=>match out[a]? with
  | none=>(out,true)
  | some x=>match YQ key most out (succ x)with
   | .inl o=>(o,false)
   | .inr o=>Ex most f o (a+1)
variable {key}{succ}
def Qtd {most:Nat}:∀{xs out o:L_ M},YQ key most out xs=.inr o->out.length<=most->(∃r,o=out++r)/\o.length<=most:=by
 intro xs
 induction xs with
 | nil=>intro out o h O;cases h;exact⟨⟨[],by simp⟩,O⟩
 | cons x xs ih=>
  intro out o h O;rw[YQ]at h;split at h
  ·exact ih h O
  split at h
  ·cases h
  obtain⟨⟨r,hr⟩,h2⟩:=ih h (by simp;omega);exact⟨⟨x::r,by rw[hr];simp⟩,h2⟩
def Qte {most:Nat}:∀{xs out o:L_ M},YQ key most out xs=.inl o->out.length<=most->(∃r,o=out++r)/\o.length=most:=by
 intro xs
 induction xs with
 | nil=>intro out o h O;cases h
 | cons x xs ih=>
  intro out o h O;rw[YQ]at h;split at h
  ·exact ih h O
  split at h
  ·cases h;exact⟨⟨[],by simp⟩,by assumption⟩
  obtain⟨⟨r,hr⟩,h2⟩:=ih h (by simp;omega);exact⟨⟨x::r,by rw[hr];simp⟩,h2⟩
def OQ (key:M->K)(l:L_ M):Prop:=l.Pairwise λa b=>key a≠key b
def OQ.add {l:L_ M}{x:M}(h:OQ key l)(hx:Qia key l x=false):OQ key (l++[x]):=by
 unfold OQ;rw[Qfz];refine⟨h,Qdb _ _,λa ha b O=>?_⟩;rw[Da]at O;subst O;intro e;have:Qia key l b=true:=EX.2 ⟨a,ha,Qt e⟩;rw[this]at hx;cases hx
def Qnr {P:M->Prop}{most:Nat}:∀{xs out o:L_ M},(YQ key most out xs=.inl o\/YQ key most out xs=.inr o)->OQ key out->(∀x∈out,P x)->(∀x∈xs,P x)->OQ key o/\∀x∈o,P x:=by
 intro xs
 induction xs with
 | nil=>intro out o h ha hp _;rcases h with h | h<;>cases h;exact⟨ha,hp⟩
 | cons x xs ih=>
  intro out o h ha hp hx;rw[YQ]at h;split at h
  ·exact ih h ha hp λy O=>hx y (Yb _ O)
  rename_i c;split at h
  ·rcases h with h | h<;>cases h;exact⟨ha,hp⟩
  refine ih h (ha.add (by simpa using c)) (λy O=>?_) λy O=>hx y (Yb _ O);rcases XU.1 O with O | O
  ·exact hp y O
  simp at O;subst O;exact hx _ XD
def QuF {P:M->Prop}(hs:∀x,P x->∀y∈succ x,P y){most:Nat}:∀(f:Nat) {out:L_ M} {a:Nat},out.length<=most->OQ key out->(∀x∈out,P x)->
  (∃r,(Ex key succ most f out a).1=out++r)/\(Ex key succ most f out a).1.length<=most/\OQ key (Ex key succ most f out a).1/\∀x∈(Ex key succ most f out a).1,P x:=by
 intro f
 induction f with
 | zero=>intro out a O h hp;exact⟨⟨[],by simp[Ex]⟩,O,h,hp⟩
 | succ f ih=>
  intro out a O h hp;rw[Ex];cases ho:out[a]? with
  | none=>exact⟨⟨[],by simp⟩,O,h,hp⟩
  | some x=>
   simp only;have hx:=hp x (Xt ho);cases e:YQ key most out (succ x)with
   | inl o=>
    obtain⟨h1,h2⟩:=Qte e O;obtain⟨h3,h4⟩:=Qnr (.inl e) h hp (hs x hx);exact⟨h1,by simp only;omega,h3,h4⟩
   | inr o=>
    obtain⟨⟨r,hr⟩,h2⟩:=Qtd e O;obtain⟨h3,h4⟩:=Qnr (.inr e) h hp (hs x hx);simp only;obtain⟨⟨r2,hr2⟩,k2⟩:=ih (a:=a+1) h2 h3 h4;exact⟨⟨r++r2,by rw[hr2,hr,Dz]⟩,k2⟩
end
end Go.Vm
noncomputable section
namespace Go.Proofs
open Go Go.RowKit Go.Vm
open Option renaming some→C
variable {l:QBg}{n:Qd}{m:L_ QBg}
inductive WA : Qm->Prop where
 | mk (e:Qm):e.Kids.length<=maxLen->(∀k∈e.Kids,WA k)->WA e
def WW {e:Qm}(h:WA e):QP WA e.Kids:=by
 cases h with
 | mk _ O h2=>exact⟨O,h2⟩
def Qak {e k:Qm}(h:k∈e.Kids):SizeOf.sizeOf k<SizeOf.sizeOf e:=by
 obtain⟨a,b,l⟩:=e;have:=List.sizeOf_lt_of_mem h;simp only[Qm.mk.sizeOf_spec]at *;omega
def Qm.pos (e:Qm):0<SizeOf.sizeOf e:=by
 obtain⟨a,b,l⟩:=e;simp only[Qm.mk.sizeOf_spec];omega
inductive POk (v:Int):Qm->Prop where
 | mk (e:Qm):(e.Kind=1\/e.Kind=2\/e.Kind=3\/e.Kind=4\/e.Kind=5\/e.Kind=6)->(e.Kind=2->0<=e.Num/\e.Num<v)->(e.Kind=3\/e.Kind=4->e.Kids.length=1)->(e.Kind=5->e.Kids.length=2)->(e.Kind=6->e.Kids.length=3)->(∀k∈e.Kids,POk v k)->POk v e
def Jg (x:QD):Prop:=UW x.Name/\True/\True/\True/\(QP UW) x.Names/\True/\True
def Dy (x:Xb):Prop:=UW x.Name/\True/\(QP (λ_=>True)) x.First
def Ey (x:Ju):Prop:=UW x.Name/\True
def Lp (x:XT):Prop:=True/\WA x.Expr
def YN (x:QF):Prop:=UW x.Name/\(QP Ey) x.Vars/\WA x.Guard/\True/\True/\(QP Lp) x.Ins/\(QP Lp) x.Outs/\(QP (λ_=>True)) x.Cancel/\True/\True
def Xo (x:Qd):Prop:=(QP Jg) x.Colours/\(QP Dy) x.Places/\(QP YN) x.Tasks/\True/\True
def Qqc (x:Jd):Prop:=(QP Jg) x.all/\(QP (λ_=>True)) x.sizes/\True
def Qns (O:Qd)(h:Xo O):Xm (Rj O):=by
 unfold Rj;exact T3
def Wq (O:(L_ Xb))(h:Int)(h_l1:(QP Dy) O):Qg (YX O h) λr=>r=true->0<=h/\h<O.length:=by
 unfold YX;exact T2 (by first | (intro hr;first | (cases hr;done) | omega | ((try simp only[QJ,KW,JT,An,Fy,Qx,QS,beq_iff_eq,bne_iff_ne,ne_eq,HN,Qc9,Jp,Bz,NF,PZ,KX,We,OM,ON,OO]at *);omega)) | ((try simp only[QJ,KW,JT,An,Fy,Qx,QS,beq_iff_eq,bne_iff_ne,ne_eq,HN,Qc9,Jp,Bz,NF,PZ,KX,We,OM,ON,OO]at *);omega) | simp_all)
def Qnt (O:Qd)(h:Xo O):Xm (Rl O):=by
 unfold Rl;refine T0 (P:=λ_=>True) ?_ (λx_1 hv2=>?_)
 ·unfold Qb9;refine T0 (Wq O.Places O.From (h.2.1)) (λx_3 hv4=>?_);refine T1 (λhc5=>?_) (λhc5=>?_)
  ·refine T0 (Wq O.Places O.To (h.2.1)) (λx_6 hv7=>?_);exact T3
  exact T3
 unfold Qca;exact T3
def Qnu (O:Qd)(h:Xo O):Xm (Rm O):=by
 unfold Rm;exact T3
def Qnv (O:Qd)(v2:Int)(v3:Int)(v4:Int)(h:Xo O):Xm (Rn O v2 v3 v4):=by
 unfold Rn;refine T0 (Qns O (h)) (λx_1 hv2=>?_);refine T1 (λhc3=>?_) (λhc3=>?_)
 ·exact T3
 refine T0 (Qnt O (h)) (λx_4 hv5=>?_);refine T1 (λhc6=>?_) (λhc6=>?_)
 ·exact T3
 refine T0 (Qnu O (h)) (λx_7 hv8=>?_);refine T1 (λhc9=>?_) (λhc9=>?_)
 ·exact T3
 exact T3
def Qnw (lo1:Int)(O:Int)  : Xm (Cd lo1 O):=by
 unfold Cd;refine T1 (λh=>?_) (λh=>?_)
 ·exact T3
 exact T3
def QaY (h:Int)  : Xm (UK h):=by
 unfold UK;exact T3
def Fa (s1:ByteArray)(h_s1:UW s1):Xm (DY s1):=by
 unfold DY;refine T0 (P:=λ_=>True) ?_ (λx_1 hv2=>?_)
 ·unfold HW;refine T1 (λhc3=>?_) (λhc3=>?_)
  ·exact T3
  have hshc3:=QuA hc3;refine T1 (λhc4=>?_) (λhc4=>?_)
  ·exact T3
  refine T0 (Qg.sidx (by omega) (by omega)) (λc_5 hv6=>?_);refine T0 (QaY c_5 ) (λx_7 hv8=>?_);exact T3
 unfold RV;refine T1 (λhc9=>?_) (λhc9=>?_)
 ·exact T3
 refine T0 (Qg.up (s1.size) (λst=>st) (λ_=>True) (Q:=λq=>True) rfl trivial (λi11 st h hn13 hj14=>?_)) (λq15 hq16=>?_)
 ·obtain⟨O,hst⟩:∃y,y=st:=⟨_,rfl⟩;subst hst;replace h:O=(i11:Int):=h;show Qg (ED s1 O) _;unfold ED;refine T1 (λhc17=>?_) (λhc17=>?_)
  ·refine T0 (Qg.sidx (by omega) (by simp_all)) (λc_18 hv19=>?_);refine T0 (P:=λ_=>True) ?_ (λx_20 hv21=>?_)
   ·unfold RQ;refine T0 (QaY c_18 ) (λx_22 hv23=>?_);refine T1 (λhc24=>?_) (λhc24=>?_)
    ·refine T1 (λhc25=>?_) (λhc25=>?_)
     ·exact T3
     refine T1 (λhc26=>?_) (λhc26=>?_)
     ·exact T3
     exact T3
    exact T3
   unfold RS;refine T1 (λhc27=>?_) (λhc27=>?_)
   ·exact T2 (Qn trivial)
   exact T2 (QG ⟨(by simp_all),by subst h;exact Qj (by simp_all) h_s1,trivial⟩)
  exact T2 (Qn trivial)
 rcases q15 with q15 | q15
 ·show Qg (RT) _;unfold RT;exact T3
 show Qg (RU) _;unfold RU;exact T3
def QlD (l1:(L_ ByteArray))(O:(QP UW) l1):Xm (AT l1):=by
 unfold AT;refine T0 (Qg.up (l1.length) (λst=>st.1) (λ_=>True) (Q:=λq=>True) rfl trivial (λi3 st hi4 hn5 hj6=>?_)) (λq7 hq8=>?_)
 ·obtain⟨x_1,m_2⟩:=st;replace hi4:x_1=(i3:Int):=hi4;show Qg (Dp l1 x_1 m_2) _;unfold Dp;refine T1 (λhc9=>?_) (λhc9=>?_)
  ·refine T0 (T4 (by omega) (by simp_all)) (λh hv11=>?_);refine T0 (P:=λ_=>True) ?_ (λx_12 hv13=>?_)
   ·unfold Pd;refine T0 (Fa h (((O).2 h hv11))) (λx_14 hv15=>?_);refine T1 (λhc16=>?_) (λhc16=>?_)
    ·exact T3
    exact T3
   unfold Pe;refine T1 (λhc17=>?_) (λhc17=>?_)
   ·exact T2 (Qn trivial)
   exact T2 (QG ⟨(by simp_all),by subst hi4;exact Qj (by simp_all) (O).1,trivial⟩)
  exact T2 (Qn trivial)
 rcases q7 with q7 | q7
 ·show Qg (Pf) _;unfold Pf;exact T3
 show Qg (Pg) _;unfold Pg;exact T3
def Qnx (c1:QD)(h:LI_)(h_c1:Jg c1)(O:(QP (λ_=>True)) h):Xm (Ce c1 h):=by
 unfold Ce;refine T1 (λhc1=>?_) (λhc1=>?_)
 ·refine T0 (Qnw c1.Lo c1.Hi ) (λx_2 hv3=>?_);exact T3
 refine T1 (λhc4=>?_) (λhc4=>?_)
 ·refine T0 (QlD c1.Names (h_c1.2.2.2.2.1)) (λx_5 hv6=>?_);refine T1 (λhc7=>?_) (λhc7=>?_)
  ·exact T3
  unfold Gf;exact T3
 refine T1 (λhc8=>?_) (λhc8=>?_)
 ·refine T1 (λhc9=>?_) (λhc9=>?_)
  ·refine T0 (T4 (by(try simp only[QJ,KW,JT,An,Fy,Qx,QS,beq_iff_eq,bne_iff_ne,ne_eq,HN,Qc9,Jp,Bz,NF,PZ,KX,We,OM,ON,OO]at *);omega) (by(try simp only[QJ,KW,JT,An,Fy,Qx,QS,beq_iff_eq,bne_iff_ne,ne_eq,HN,Qc9,Jp,Bz,NF,PZ,KX,We,OM,ON,OO]at *);omega)) (λe_10 hv11=>?_)
   refine T0 (T4 (by(try simp only[QJ,KW,JT,An,Fy,Qx,QS,beq_iff_eq,bne_iff_ne,ne_eq,HN,Qc9,Jp,Bz,NF,PZ,KX,We,OM,ON,OO]at *);omega) (by(try simp only[QJ,KW,JT,An,Fy,Qx,QS,beq_iff_eq,bne_iff_ne,ne_eq,HN,Qc9,Jp,Bz,NF,PZ,KX,We,OM,ON,OO]at *);omega)) (λe_12 hv13=>?_)
   exact T3
  unfold Gf;exact T3
 unfold Gf;exact T3
def QcN (O:(L_ QD))(h_l1:(QP Jg) O):Qg (EE O) λr=>((QP (λ_=>True)) r.1/\True)/\(r.2=true->r.1.length=O.length/\∀x∈r.1,1<=x/\x<=1024):=by
 unfold EE;refine T1 (λhc=>T2 ⟨⟨QP.nil,trivial⟩,λh=>by cases h⟩) (λhc=>?_);have hl:O.length<=32:=by simp only[QS]at hc;omega
 refine T0 (Qg.up O.length (λst=>st.1) (λst=>(st.2.2.length:Int)=st.1/\∀x∈st.2.2,1<=x/\x<=1024) (Q:=λq=>∀l,q=.inr l->l.length=O.length/\∀x∈l,1<=x/\x<=1024) rfl ⟨rfl,λx h=>(by cases h)⟩ (λi st hi hn hj=>?_)) (λq hq=>?_)
 ·obtain⟨x,m,l⟩:=st;replace hi:x=(i:Int):=hi;replace hj:(l.length:Int)=x/\∀x∈l,1<=x/\x<=1024:=hj;obtain⟨hj,hj2⟩:=hj;show Qg (Dq O x m l) _;unfold Dq;refine T1 (λhc2=>?_) (λhc2=>?_)
  ·simp only[Qx]at hc2;refine T0 (T4 (by omega) (by omega)) λe he=>?_;refine T0 (Qnx e l (h_l1.2 e he) ⟨by unfold maxLen;omega,λ_ _=>trivial⟩) λy _=>?_;refine T0 (P:=λz=>z=false->1<=y/\y<=1024) ?_ λz hz=>?_
   ·unfold Ph;refine T0 (Fa e.Name (h_l1.2 e he).1) λz _=>?_;refine T1 (λ_=>T2 (λh=>by cases h)) λ_=>T1 (λ_=>T2 (λh=>by cases h)) λ_=>T1 (λ_=>T2 (λh=>by cases h)) λh1=>T2 λh2=>?_;simp only[QS]at h1 h2;omega
   unfold Pi;refine T1 (λ_=>T2 (Qn λl h=>by cases h)) λhz0=>?_;refine T0 (T5 (by simp;omega)) λ_ _=>?_;exact T2 (QG ⟨by omega,by subst hi;exact Qj (by omega) (by unfold maxLen;omega:O.length<=maxLen),by simp only[Jp,Bz];subst hi;rw[Qj (show i<O.length by omega) (by unfold maxLen;omega)];omega,λu hu=>by
    rcases XU.1 hu with hu | hu
    ·exact hj2 u hu
    simp at hu;subst hu;exact hz hz0⟩)
  simp only[QS]at hc2;exact T2 (Qn λl' h=>by cases h;exact⟨by omega,hj2⟩)
 rcases q with q | q
 ·exact T2 ⟨⟨QP.nil,trivial⟩,λh=>by cases h⟩
 have:=hq q rfl;exact T2 ⟨⟨⟨by show q.length<=maxLen;unfold maxLen;omega,λ_ _=>trivial⟩,trivial⟩,λ_=>this⟩
def QlE (O:(L_ QD))(h:(QP Jg) O):Xm (Ok O):=by
 unfold Ok;refine T0 (QcN O (h)) (λx_1 hv2=>?_);exact T3
def Qfj (v1:Qd)(O:Int)(h:Xo v1)(hp0:0<=O)(hp1:O<v1.Colours.length):Xm (BD v1 O):=by
 have hl:=h.1.1;unfold maxLen at hl;unfold BD;rw[Xh (show -9223372036854775808<=O+1/\O+1<=9223372036854775807 by omega)];refine T0 (T5 (by simp only[QJ,Qx];omega)) λ_ _=>?_;exact T0 (QlE _ ((h.1.drop _).take _)) λx _=>T3
def Qny : L_ ByteArray:=(Lg).getD []
set_option maxRecDepth 100000 in
def Qv6 : Lg=C Qny:=by kernel_rfl
set_option maxRecDepth 100000 in
def QrZ : (decide (Qny.length<=1000)&&Qny.all λs=>decide (s.size<=1000))=true:=by kernel_rfl
def Qnz : Qg (Lg) λr=>QP UW r:=by
 have h:=QrZ;rw[QJ,decide_eq_true_iff,XJ]at h;refine⟨Qny,Qv6,by unfold maxLen;omega,λx O=>?_⟩;have:=h.2 x O;rw[decide_eq_true_iff]at this;unfold UW maxLen;omega
def Vy (s1:(L_ ByteArray))(v2:ByteArray)(O:(QP UW) s1)(h_v2:UW v2):Xm (De s1 v2):=by
 unfold De;refine T0 (Qg.up (s1.length) (λst=>st) (λ_=>True) (Q:=λq=>True) rfl trivial (λi2 st h hn4 hj5=>?_)) (λq6 hq7=>?_)
 ·obtain⟨x_1,hst⟩:∃y,y=st:=⟨_,rfl⟩;subst hst;replace h:x_1=(i2:Int):=h;show Qg (Gz s1 v2 x_1) _;unfold Gz;refine T1 (λhc8=>?_) (λhc8=>?_)
  ·refine T0 (T4 (by omega) (by simp_all)) (λe_9 hv10=>?_);refine T1 (λhc11=>?_) (λhc11=>?_)
   ·exact T2 (Qn trivial)
   exact T2 (QG ⟨(by simp_all),by subst h;exact Qj (by simp_all) (O).1,trivial⟩)
  exact T2 (Qn trivial)
 rcases q6 with q6 | q6
 ·show Qg (GA q6) _;unfold GA;exact T3
 show Qg (GB) _;unfold GB;exact T3
def PU (s1:(L_ ByteArray))(v2:ByteArray)(h:(QP UW) s1)(O:UW v2):Xm (KY s1 v2):=by
 unfold KY;refine T0 (Vy s1 v2 (h) (O)) (λx_1 hv2=>?_);exact T3
def QoW (s1:ByteArray)(h:UW s1):Xm (TX s1):=by
 unfold TX;refine T0 (Qnz  ) (λx_1 O=>?_);refine T0 (PU x_1 s1 (O) (h)) (λx_3 hv4=>?_);exact T3
def Hx (O:ByteArray)(h:UW O):Xm (Uw O):=by
 unfold Uw;refine T0 (P:=λ_=>True) ?_ (λx_1 hv2=>?_)
 ·unfold Qdu;refine T0 (Fa O (h)) (λx_3 hv4=>?_);refine T1 (λhc5=>?_) (λhc5=>?_)
  ·refine T0 (QoW O (h)) (λx_6 hv7=>?_);exact T3
  exact T3
 unfold Qdv;exact T3
def Qc2 (O:ByteArray)(h:UW O):Xm (UM O):=by
 unfold UM;refine T0 (Hx O (h)) (λx_1 hv2=>?_);exact T3
def Py (s1:(L_ ByteArray))(h:(QP UW) s1):Xm (KI s1):=by
 unfold KI;refine T0 (Qg.up (s1.length) (λst=>st) (λ_=>True) (Q:=λq=>True) rfl trivial (λi2 st O hn4 hj5=>?_)) (λq6 hq7=>?_)
 ·obtain⟨x_1,hst⟩:∃y,y=st:=⟨_,rfl⟩;subst hst;replace O:x_1=(i2:Int):=O;show Qg (Df s1 x_1) _;unfold Df;refine T1 (λhc8=>?_) (λhc8=>?_)
  ·refine T0 (T4 (by omega) (by simp_all)) (λe_9 hv10=>?_);refine T0 (Qc2 e_9 (((h).2 e_9 hv10))) (λx_11 hv12=>?_);refine T1 (λhc13=>?_) (λhc13=>?_)
   ·exact T2 (Qn trivial)
   exact T2 (QG ⟨(by simp_all),by subst O;exact Qj (by simp_all) (h).1,trivial⟩)
  exact T2 (Qn trivial)
 rcases q6 with q6 | q6
 ·show Qg (Dg q6) _;unfold Dg;exact T3
 show Qg (Dh) _;unfold Dh;exact T3
def MQ (O:(L_ ByteArray))(h:(QP UW) O):Xm (JV O):=by
 unfold JV;refine T0 (Py O (h)) (λx_1 hv2=>?_);exact T3
def Qfk (O:QD)(h:Jg O):Xm (BE O):=by
 unfold BE;refine T0 (P:=λ_=>True) ?_ (λx_1 hv2=>?_)
 ·unfold PQ;refine T0 (Hx O.Name (h.1)) (λx_3 hv4=>?_);refine T1 (λhc5=>?_) (λhc5=>?_)
  ·refine T1 (λhc6=>?_) (λhc6=>?_)
   ·exact T3
   refine T0 (MQ O.Names (h.2.2.2.2.1)) (λx_7 hv8=>?_);exact T3
  exact T3
 unfold PR;exact T3
def Qib (v1:Qd)(v2:Int)(v3:Int)(v4:QD)(v5:Int)(h:Xo v1)(O:Jg v4)(hp0:0<=v2)(hp1:v2<v1.Colours.length):Xm (Ii v1 v2 v3 v4 v5):=by
 unfold Ii;refine T0 (Qfj v1 v2 (h) (by omega) (by omega)) (λx_1 hv2=>?_);refine T1 (λhc3=>?_) (λhc3=>?_)
 ·exact T3
 refine T0 (Qfk v4 (O)) (λx_4 hv5=>?_);refine T1 (λhc6=>?_) (λhc6=>?_)
 ·exact T3
 exact T3
def Qhe (k1:Int)(c2:QD)(v3:Qd)(h:Jg c2)(O:Xo v3)(hp0:0<=k1)(hp1:k1<v3.Colours.length):Xm (FK k1 c2 v3):=by
 unfold FK;refine T0 (Qib v3 k1 8 c2 8 (O) (h) (by omega) (by omega)) (λx_1 hv2=>?_);exact T3
def Qbo (l1:(L_ QD))(v2:Qd)(h:(QP Jg) l1)(h_v2:Xo v2)(hp0:l1.length<=v2.Colours.length):Xm (Ep l1 v2):=by
 unfold Ep;refine T0 (Qg.up (l1.length) (λst=>st) (λ_=>True) (Q:=λq=>True) rfl trivial (λi2 st O hn4 hj5=>?_)) (λq6 hq7=>?_)
 ·obtain⟨x_1,hst⟩:∃y,y=st:=⟨_,rfl⟩;subst hst;replace O:x_1=(i2:Int):=O;show Qg (Ac l1 v2 x_1) _;unfold Ac;refine T1 (λhc8=>?_) (λhc8=>?_)
  ·refine T0 (T4 (by omega) (by simp_all)) (λe_9 hv10=>?_);refine T0 (Qhe x_1 e_9 v2 (((h).2 e_9 hv10)) (h_v2) (by omega) (by simp_all;omega)) (λx_11 hv12=>?_);refine T1 (λhc13=>?_) (λhc13=>?_)
   ·exact T2 (Qn trivial)
   exact T2 (QG ⟨(by simp_all),by subst O;exact Qj (by simp_all) (h).1,trivial⟩)
  exact T2 (Qn trivial)
 rcases q6 with q6 | q6
 ·show Qg (Ad q6.1 q6.2) _;unfold Ad;exact T3
 show Qg (Ae) _;unfold Ae;exact T3
def QaZ (n1:Qd)(h:Xo n1):Xm (CJ n1):=by
 unfold CJ;refine T0 (Qbo n1.Colours n1 (h.1) (h) (by omega)) (λx_1 O=>?_);exact T3
def QjL (O:Xb)(h:Dy O):Xm (Ml O):=by
 unfold Ml;refine T0 (Hx O.Name (h.1)) (λx_1 hv2=>?_);exact T3
def QjM (p1:Xb)(v2:Xb)(h:Dy p1)(O:Dy v2):Xm (Mm p1 v2):=by
 unfold Mm;exact T3
def IQ (s1:(L_ Xb))(v2:Xb)(h:(QP Dy) s1)(h_v2:Dy v2):Xm (Jr s1 v2):=by
 unfold Jr;refine T0 (Qg.up (s1.length) (λst=>st) (λ_=>True) (Q:=λq=>True) rfl trivial (λi2 st O hn4 hj5=>?_)) (λq6 hq7=>?_)
 ·obtain⟨x_1,hst⟩:∃y,y=st:=⟨_,rfl⟩;subst hst;replace O:x_1=(i2:Int):=O;show Qg (Ks s1 v2 x_1) _;unfold Ks;refine T1 (λhc8=>?_) (λhc8=>?_)
  ·refine T0 (T4 (by omega) (by simp_all)) (λe_9 hv10=>?_);refine T0 (QjM e_9 v2 (((h).2 e_9 hv10)) (h_v2)) (λx_11 hv12=>?_);refine T1 (λhc13=>?_) (λhc13=>?_)
   ·exact T2 (Qn trivial)
   exact T2 (QG ⟨(by simp_all),by subst O;exact Qj (by simp_all) (h).1,trivial⟩)
  exact T2 (Qn trivial)
 rcases q6 with q6 | q6
 ·show Qg (Kt q6) _;unfold Kt;exact T3
 show Qg (Ku) _;unfold Ku;exact T3
def Fx (s1:(L_ Xb))(v2:Xb)(h:(QP Dy) s1)(O:Dy v2):Xm (YY s1 v2):=by
 unfold YY;refine T0 (IQ s1 v2 (h) (O)) (λx_1 hv2=>?_);exact T3
def QjN (v1:Qd)(v2:Int)(v3:Xb)(h:Xo v1)(O:Dy v3)(hp0:0<=v2)(hp1:v2<v1.Places.length):Xm (Mn v1 v2 v3):=by
 unfold Mn;refine T0 (T5 (by simp_all;omega)) (λ_ _=>?_);refine T0 (Fx ((v1.Places.drop 0).take (v2.toNat-0)) v3 (((h.2.1).drop _).take _) (O)) (λx_1 hv2=>?_);exact T3
def Lq (O:(L_ QD))(k2:Int)(h:(QP Jg) O):Xm (WR O k2):=by
 unfold WR;exact T3
def QjO (O:Qd)(v2:Xb)(h:Xo O)(h_v2:Dy v2):Xm (Mo O v2):=by
 unfold Mo;refine T0 (Lq O.Colours v2.Colour (h.1)) (λx_1 hv2=>?_);exact T3
def Qqd (b1:QBg)(h_b1:(QP (λ_=>True)) b1):Xm (DL b1):=by
 unfold DL;refine T0 (Qg.up (b1.length) (λst=>st.2) (λ_=>True) (Q:=λq=>True) rfl trivial (λi3 st O hn5 hj6=>?_)) (λq7 hq8=>?_)
 ·obtain⟨h,x_2⟩:=st;replace O:x_2=(i3:Int):=O;show Qg (KZ b1 h x_2) _;unfold KZ;refine T1 (λhc9=>?_) (λhc9=>?_)
  ·refine T0 (T4 (by omega) (by simp_all)) (λe_10 hv11=>?_);refine T1 (λhc12=>?_) (λhc12=>?_)
   ·exact T2 (Qn trivial)
   exact T2 (QG ⟨(by simp_all),by subst O;exact Qj (by simp_all) (h_b1).1,trivial⟩)
  exact T2 (Qn trivial)
 rcases q7 with q7 | q7
 ·show Qg (NM) _;unfold NM;exact T3
 show Qg (NN) _;unfold NN;exact T3
def QjP (O:Xb)(h:Dy O):Xm (Mp O):=by
 unfold Mp;refine T0 (Qqd O.First (h.2.2)) (λx_1 hv2=>?_);exact T3
def Lr (l1:(L_ QD))(k2:Int)(O:(QP Jg) l1):Qg (DO l1 k2) λr=>(True/\Qqc r.2)/\(r.1=true->(0<=k2/\k2<r.2.sizes.length)/\r.2.k=k2/\r.2.all.length=r.2.sizes.length/\∀x∈r.2.sizes,1<=x/\x<=1024):=by
 unfold DO;refine T0 (QcN l1 O) λx hx=>?_;refine T1 (λ_=>T2 ⟨⟨trivial,QP.nil,QP.nil,trivial⟩,λh=>by cases h⟩) λhc=>?_;simp only[JT,Fy,QS]at hc;have:=hx.2 hc.1;exact T2 ⟨⟨trivial,O,hx.1.1,trivial⟩,λ_=>⟨⟨by omega,by show k2<(x.1.length:Int);omega⟩,rfl,this.1.symm,this.2⟩⟩
def DG (l1:(L_ QD))(k2:Int)(O:(QP Jg) l1):Qg (YK l1 k2) λr=>0<=r/\r<=1024:=by
 unfold YK;refine T0 (Lr l1 k2 O) (λx hx=>?_);refine T1 (λhc=>T2 (by omega)) (λhc=>?_);have h:=hx.2 (by simpa using hc);exact T0 (T4 (by omega) (by omega)) λe he=>T2 (by have:=h.2.2.2 e he;omega)
def Qhf (h:(Int×Int))(O:Int)  : Xm (FL h O):=by
 unfold FL;exact T3
def Pz (s1:QBg)(v2:Int)(O:(QP (λ_=>True)) s1):Xm (KJ s1 v2):=by
 unfold KJ;refine T0 (Qg.up (s1.length) (λst=>st) (λ_=>True) (Q:=λq=>True) rfl trivial (λi2 st h hn4 hj5=>?_)) (λq6 hq7=>?_)
 ·obtain⟨x_1,hst⟩:∃y,y=st:=⟨_,rfl⟩;subst hst;replace h:x_1=(i2:Int):=h;show Qg (Di s1 v2 x_1) _;unfold Di;refine T1 (λhc8=>?_) (λhc8=>?_)
  ·refine T0 (T4 (by omega) (by simp_all)) (λe_9 hv10=>?_);refine T0 (Qhf e_9 v2 ) (λx_11 hv12=>?_);refine T1 (λhc13=>?_) (λhc13=>?_)
   ·exact T2 (Qn trivial)
   exact T2 (QG ⟨(by simp_all),by subst h;exact Qj (by simp_all) (O).1,trivial⟩)
  exact T2 (Qn trivial)
 rcases q6 with q6 | q6
 ·show Qg (Dj q6) _;unfold Dj;exact T3
 show Qg (Dk) _;unfold Dk;exact T3
def MR (O:QBg)(v2:Int)(h:(QP (λ_=>True)) O):Xm (JW O v2):=by
 unfold JW;refine T0 (Pz O v2 (h)) (λx_1 hv2=>?_);exact T3
def QjQ (v1:Qd)(v2:Xb)(h:Xo v1)(O:Dy v2):Xm (Mq v1 v2):=by
 unfold Mq;refine T0 (DG v1.Colours v2.Colour (h.1)) (λx_1 hv2=>?_);refine T0 (MR v2.First x_1 (O.2.2)) (λx_3 hv4=>?_);exact T3
def Qic (v1:Xb)(v2:Int)(v3:Qd)(v4:Int)(v5:Int)(v6:Int)(v7:Int)(v8:Int)(h:Dy v1)(O:Xo v3)(hp0:0<=v4)(hp1:v4<v3.Places.length):Xm (Ij v1 v2 v3 v4 v5 v6 v7 v8):=by
 unfold Ij;refine T0 (QjL v1 (h)) (λx_1 hv2=>?_);refine T1 (λhc3=>?_) (λhc3=>?_)
 ·exact T3
 refine T0 (QjN v3 v4 v1 (O) (h) (by omega) (by omega)) (λx_4 hv5=>?_);refine T1 (λhc6=>?_) (λhc6=>?_)
 ·exact T3
 refine T0 (QjO v3 v1 (O) (h)) (λx_7 hv8=>?_);refine T1 (λhc9=>?_) (λhc9=>?_)
 ·exact T3
 refine T0 (QjP v1 (h)) (λx_10 hv11=>?_);refine T1 (λhc12=>?_) (λhc12=>?_)
 ·exact T3
 refine T0 (QjQ v3 v1 (O) (h)) (λx_13 hv14=>?_);refine T1 (λhc15=>?_) (λhc15=>?_)
 ·exact T3
 exact T3
def QnA (n1:Qd)(k2:Int)(h:Xo n1):Xm (Ro n1 k2):=by
 unfold Ro;refine T0 (Wq n1.Places k2 (h.2.1)) (λx_1 hv2=>?_);refine T1 (λhc3=>?_) (λhc3=>?_)
 ·exact T3
 refine T0 (T4 (by simp_all) (by simp_all)) (λO hv5=>?_);refine T0 (Qic O 1 n1 k2 5 3 1 8 (((h.2.1).2 O hv5)) (h) (by simp_all) (by simp_all)) (λx_6 hv7=>?_);exact T3
def QnB (k1:Int)(p2:Xb)(v3:Qd)(O:Dy p2)(h:Xo v3):Xm (Rp k1 p2 v3):=by
 unfold Rp;refine T0 (QnA v3 k1 (h)) (λx_1 hv2=>?_);exact T3
def QcO (l1:(L_ Xb))(v2:Qd)(h:(QP Dy) l1)(h_v2:Xo v2):Xm (Uf l1 v2):=by
 unfold Uf;refine T0 (Qg.up (l1.length) (λst=>st) (λ_=>True) (Q:=λq=>True) rfl trivial (λi2 st O hn4 hj5=>?_)) (λq6 hq7=>?_)
 ·obtain⟨x_1,hst⟩:∃y,y=st:=⟨_,rfl⟩;subst hst;replace O:x_1=(i2:Int):=O;show Qg (AC l1 v2 x_1) _;unfold AC;refine T1 (λhc8=>?_) (λhc8=>?_)
  ·refine T0 (T4 (by omega) (by simp_all)) (λe_9 hv10=>?_);refine T0 (QnB x_1 e_9 v2 (((h).2 e_9 hv10)) (h_v2)) (λx_11 hv12=>?_);refine T1 (λhc13=>?_) (λhc13=>?_)
   ·exact T2 (Qn trivial)
   exact T2 (QG ⟨(by simp_all),by subst O;exact Qj (by simp_all) (h).1,trivial⟩)
  exact T2 (Qn trivial)
 rcases q6 with q6 | q6
 ·show Qg (AD q6.1 q6.2) _;unfold AD;exact T3
 show Qg (AE) _;unfold AE;exact T3
def Nv (O:(L_ QF))(h:Int)(h_l1:(QP YN) O):Qg (JR O h) λr=>r=true->0<=h/\h<O.length:=by
 unfold JR;exact T2 (by first | (intro hr;first | (cases hr;done) | omega | ((try simp only[QJ,KW,JT,An,Fy,Qx,QS,beq_iff_eq,bne_iff_ne,ne_eq,HN,Qc9,Jp,Bz,NF,PZ,KX,We,OM,ON,OO]at *);omega)) | ((try simp only[QJ,KW,JT,An,Fy,Qx,QS,beq_iff_eq,bne_iff_ne,ne_eq,HN,Qc9,Jp,Bz,NF,PZ,KX,We,OM,ON,OO]at *);omega) | simp_all)
def QnC (v1:Int)(v2:Qd)(v3:QF)(h:Xo v2)(O:YN v3):Xm (Rq v1 v2 v3):=by
 unfold Rq;exact T3
def Qid (v1:Int)(v2:Qd)(v3:QF)(v4:Int)(h:Xo v2)(O:YN v3):Xm (Ik v1 v2 v3 v4):=by
 unfold Ik;exact T3
def Qie (v1:Int)(v2:Qd)(v3:QF)(v4:Int)(h:Xo v2)(O:YN v3):Xm (Il v1 v2 v3 v4):=by
 unfold Il;exact T3
def Qif (v1:Int)(v2:Qd)(v3:QF)(h:Xo v2)(O:YN v3):Xm (Im v1 v2 v3):=by
 unfold Im;exact T3
def QlF (O:QF)(h:YN O):Xm (On O):=by
 unfold On;refine T0 (Hx O.Name (h.1)) (λx_1 hv2=>?_);exact T3
def QlG (p1:QF)(v2:QF)(h:YN p1)(O:YN v2):Xm (Oo p1 v2):=by
 unfold Oo;exact T3
def LT (s1:(L_ QF))(v2:QF)(h:(QP YN) s1)(h_v2:YN v2):Xm (JN s1 v2):=by
 unfold JN;refine T0 (Qg.up (s1.length) (λst=>st) (λ_=>True) (Q:=λq=>True) rfl trivial (λi2 st O hn4 hj5=>?_)) (λq6 hq7=>?_)
 ·obtain⟨x_1,hst⟩:∃y,y=st:=⟨_,rfl⟩;subst hst;replace O:x_1=(i2:Int):=O;show Qg (KR s1 v2 x_1) _;unfold KR;refine T1 (λhc8=>?_) (λhc8=>?_)
  ·refine T0 (T4 (by omega) (by simp_all)) (λe_9 hv10=>?_);refine T0 (QlG e_9 v2 (((h).2 e_9 hv10)) (h_v2)) (λx_11 hv12=>?_);refine T1 (λhc13=>?_) (λhc13=>?_)
   ·exact T2 (Qn trivial)
   exact T2 (QG ⟨(by simp_all),by subst O;exact Qj (by simp_all) (h).1,trivial⟩)
  exact T2 (Qn trivial)
 rcases q6 with q6 | q6
 ·show Qg (KS q6) _;unfold KS;exact T3
 show Qg (KT) _;unfold KT;exact T3
def HE (s1:(L_ QF))(v2:QF)(h:(QP YN) s1)(O:YN v2):Xm (Jj s1 v2):=by
 unfold Jj;refine T0 (LT s1 v2 (h) (O)) (λx_1 hv2=>?_);exact T3
def QlH (v1:Qd)(v2:Int)(v3:QF)(h:Xo v1)(O:YN v3)(hp0:0<=v2)(hp1:v2<v1.Tasks.length):Xm (Oq v1 v2 v3):=by
 unfold Oq;refine T0 (T5 (by simp_all;omega)) (λ_ _=>?_);refine T0 (HE ((v1.Tasks.drop 0).take (v2.toNat-0)) v3 (((h.2.2.1).drop _).take _) (O)) (λx_1 hv2=>?_);exact T3
def QlI (v1:Int)(O:QF)(h:YN O):Xm (Hj v1 O):=by
 unfold Hj;exact T3
def Qc3 (O:Ju)(h:Ey O):Xm (UN O):=by
 unfold UN;refine T0 (Hx O.Name (h.1)) (λx_1 hv2=>?_);exact T3
def Qc4 (p1:Ju)(v2:Ju)(h:Ey p1)(O:Ey v2):Xm (UO p1 v2):=by
 unfold UO;exact T3
def Nw (s1:(L_ Ju))(v2:Ju)(h:(QP Ey) s1)(h_v2:Ey v2):Xm (Kg s1 v2):=by
 unfold Kg;refine T0 (Qg.up (s1.length) (λst=>st) (λ_=>True) (Q:=λq=>True) rfl trivial (λi2 st O hn4 hj5=>?_)) (λq6 hq7=>?_)
 ·obtain⟨x_1,hst⟩:∃y,y=st:=⟨_,rfl⟩;subst hst;replace O:x_1=(i2:Int):=O;show Qg (Ws s1 v2 x_1) _;unfold Ws;refine T1 (λhc8=>?_) (λhc8=>?_)
  ·refine T0 (T4 (by omega) (by simp_all)) (λe_9 hv10=>?_);refine T0 (Qc4 e_9 v2 (((h).2 e_9 hv10)) (h_v2)) (λx_11 hv12=>?_);refine T1 (λhc13=>?_) (λhc13=>?_)
   ·exact T2 (Qn trivial)
   exact T2 (QG ⟨(by simp_all),by subst O;exact Qj (by simp_all) (h).1,trivial⟩)
  exact T2 (Qn trivial)
 rcases q6 with q6 | q6
 ·show Qg (Wt q6) _;unfold Wt;exact T3
 show Qg (Wu) _;unfold Wu;exact T3
def Ls (s1:(L_ Ju))(v2:Ju)(h:(QP Ey) s1)(O:Ey v2):Xm (JB s1 v2):=by
 unfold JB;refine T0 (Nw s1 v2 (h) (O)) (λx_1 hv2=>?_);exact T3
def Qc5 (v1:(L_ Ju))(v2:Int)(v3:Ju)(h:(QP Ey) v1)(O:Ey v3)(hp0:0<=v2)(hp1:v2<v1.length):Xm (UP v1 v2 v3):=by
 unfold UP;refine T0 (T5 (by simp_all;omega)) (λ_ _=>?_);refine T0 (Ls ((v1.drop 0).take (v2.toNat-0)) v3 (((h).drop _).take _) (O)) (λx_1 hv2=>?_);exact T3
def Qc6 (O:Qd)(v2:Ju)(h:Xo O)(h_v2:Ey v2):Xm (UQ O v2):=by
 unfold UQ;refine T0 (Lq O.Colours v2.Colour (h.1)) (λx_1 hv2=>?_);exact T3
def Qig (v1:Ju)(v2:Int)(v3:(L_ Ju))(v4:Int)(v5:Int)(v6:Qd)(v7:Int)(h:Ey v1)(O:(QP Ey) v3)(h_v6:Xo v6)(hp0:0<=v4)(hp1:v4<v3.length):Xm (Ip v1 v2 v3 v4 v5 v6 v7):=by
 unfold Ip;refine T0 (Qc3 v1 (h)) (λx_1 hv2=>?_);refine T1 (λhc3=>?_) (λhc3=>?_)
 ·exact T3
 refine T0 (Qc5 v3 v4 v1 (O) (h) (by omega) (by omega)) (λx_4 hv5=>?_);refine T1 (λhc6=>?_) (λhc6=>?_)
 ·exact T3
 refine T0 (Qc6 v6 v1 (h_v6) (h)) (λx_7 hv8=>?_);refine T1 (λhc9=>?_) (λhc9=>?_)
 ·exact T3
 exact T3
def Qfl (k1:Int)(v2:Ju)(v3:(L_ Ju))(v4:Qd)(h:Ey v2)(O:(QP Ey) v3)(h_v4:Xo v4)(hp0:0<=k1)(hp1:k1<v3.length):Xm (BF k1 v2 v3 v4):=by
 unfold BF;refine T0 (Qig v2 1 v3 k1 5 v4 3 (h) (O) (h_v4) (by omega) (by omega)) (λx_1 hv2=>?_);exact T3
def QeI (l1:(L_ Ju))(v2:(L_ Ju))(v3:Qd)(h:(QP Ey) l1)(h_v2:(QP Ey) v2)(h_v3:Xo v3)(hp0:l1.length<=v2.length):Xm (AG l1 v2 v3):=by
 unfold AG;refine T0 (Qg.up (l1.length) (λst=>st) (λ_=>True) (Q:=λq=>True) rfl trivial (λi2 st O hn4 hj5=>?_)) (λq6 hq7=>?_)
 ·obtain⟨x_1,hst⟩:∃y,y=st:=⟨_,rfl⟩;subst hst;replace O:x_1=(i2:Int):=O;show Qg (BN l1 v2 v3 x_1) _;unfold BN;refine T1 (λhc8=>?_) (λhc8=>?_)
  ·refine T0 (T4 (by omega) (by simp_all)) (λe_9 hv10=>?_);refine T0 (Qfl x_1 e_9 v2 v3 (((h).2 e_9 hv10)) (h_v2) (h_v3) (by omega) (by simp_all;omega)) (λx_11 hv12=>?_);refine T1 (λhc13=>?_) (λhc13=>?_)
   ·exact T2 (Qn trivial)
   exact T2 (QG ⟨(by simp_all),by subst O;exact Qj (by simp_all) (h).1,trivial⟩)
  exact T2 (Qn trivial)
 rcases q6 with q6 | q6
 ·show Qg (BO q6.1 q6.2) _;unfold BO;exact T3
 show Qg (BP) _;unfold BP;exact T3
def Qhg (n1:Qd)(l2:(L_ Ju))(O:Xo n1)(h:(QP Ey) l2):Xm (FN n1 l2):=by
 unfold FN;refine T0 (QeI l2 l2 n1 (h) (h) (O) (by omega)) (λx_1 hv2=>?_);exact T3
def QlJ (v1:Qd)(v2:QF)(h:Xo v1)(O:YN v2):Xm (Ot v1 v2):=by
 unfold Ot;refine T0 (Qhg v1 v2.Vars (h) (O.2.1)) (λx_1 hv2=>?_);exact T3
def QjR (v1:Qd)(v2:QF)(v3:Int)(h:Xo v1)(O:YN v2):Xm (CK v1 v2 v3):=by
 unfold CK;refine T0 (QlJ v1 v2 (h) (O)) (λx_1 hv2=>?_);exact T3
def Qd6 (n1:Qd)(k2:Int)(h:Xo n1):Xm (Gd n1 k2):=by
 unfold Gd;refine T0 (Nv n1.Tasks k2 (h.2.2.1)) (λx_1 hv2=>?_);refine T1 (λhc3=>?_) (λhc3=>?_)
 ·exact T3
 refine T0 (T4 (by simp_all) (by simp_all)) (λe_4 hv5=>?_);refine T0 (Qg.up (e_4.Vars.length) (λst=>st.2) (λ_=>True) (Q:=λq=>True) rfl trivial (λi8 st hi9 hn10 hj11=>?_)) (λO hq13=>?_)
 ·obtain⟨out_6,x_7⟩:=st;replace hi9:x_7=(i8:Int):=hi9;show Qg (Bn e_4 n1 out_6 x_7) _;unfold Bn;refine T1 (λhc14=>?_) (λhc14=>?_)
  ·refine T0 (T4 (by omega) (by simp_all)) (λe_15 hv16=>?_);refine T0 (DG n1.Colours e_15.Colour (h.1)) (λx_17 hv18=>?_);refine T1 (λhc19=>?_) (λhc19=>?_)
   ·exact T2 (Qn trivial)
   exact T2 (QG ⟨(by simp_all),by subst hi9;exact Qj (by simp_all) (((h.2.2.1).2 e_4 hv5).2.1).1,trivial⟩)
  exact T2 (Qn trivial)
 rcases O with O | O
 ·show Qg (Sm) _;unfold Sm;exact T3
 show Qg (Sn O) _;unfold Sn;exact T3
def QlK (O:Qd)(v2:Int)(h:Xo O):Xm (Hk O v2):=by
 unfold Hk;refine T0 (Qd6 O v2 (h)) (λx_1 hv2=>?_);exact T3
def Qqe (h:Int):Qg (PI h) λr=>0<=r->(h=1\/h=2\/h=3\/h=4\/h=5\/h=6)/\(h=3\/h=4->r=1)/\(h=5->r=2)/\(h=6->r=3):=by
 unfold PI;refine T1 (λO=>?_) (λO=>?_)
 ·unfold AV;rw[O];simp only[beq_iff_eq]at O;exact T2 (by omega)
 simp only[beq_eq_false_iff_ne]at O;unfold AV;refine T1 (λO=>T2 (by simp only[beq_iff_eq]at O;omega)) (λhc2=>?_);simp only[beq_eq_false_iff_ne]at hc2;refine T1 (λhc3=>?_) (λhc3=>?_)
 ·unfold AU;rw[hc3];simp only[beq_iff_eq]at hc3;exact T2 (by omega)
 simp only[beq_eq_false_iff_ne]at hc3;unfold AU;refine T1 (λO=>T2 (by simp only[beq_iff_eq]at O;omega)) (λhc4=>?_);simp only[beq_eq_false_iff_ne]at hc4;refine T1 (λO=>T2 (by simp only[beq_iff_eq]at O;omega)) (λhc5=>?_);simp only[beq_eq_false_iff_ne]at hc5;exact T1 (λO=>T2 (by simp only[beq_iff_eq]at O;omega)) (λhc6=>T2 (by omega))
def QoX (Jy:Int)  : Xm (Nf Jy):=by
 unfold Nf;exact T3
def Zk (rec_:Qm->Int->O_ Bool)(O:L_ Qm)(v2:Int)(h1:O.length<=maxLen)(h:∀k∈O,Qg (rec_ k v2) λr=>r=true->POk v2 k):Qg (XQ rec_ O v2) λr=>r=false->∀k∈O,POk v2 k:=by
 unfold XQ JJ;refine T0 (P:=λx=>x<0->∀k∈O,POk v2 k) ?_ λx hx=>T2 λh=>hx (by simp only[QS]at h;omega);refine T0 (Qg.up O.length (λst=>st) (λst=>∀(j:Nat) k,(j:Int)<st->O[j]? = C k->POk v2 k) (Q:=λq=>(∀x,q=.inl x->0<=x)/\(q=.inr ()->∀k∈O,POk v2 k)) rfl (λj k hj=>by omega) (λi st hi hn hj=>?_)) (λq hq=>?_)
 ·show Qg (XP O rec_ v2 st) _;unfold XP NU;refine T1 (λhc=>?_) (λhc=>T2 (Qn ⟨λx h=>(by cases h),λ_ k hk=>by
   obtain⟨j,hj1,hj2⟩:=Ct.1 hk;simp only[QS]at hc;exact hj j k (by omega) (by rw[Qp hj1,hj2])⟩))
  simp only[Qx]at hc;rw[YI (by omega)];have hlt:st.toNat<O.length:=by omega
  rw[Qp hlt];refine T0 (P:=λk=>k=O[st.toNat]) (T2 rfl) λk hk=>?_;subst hk;refine T0 (P:=λr=>r=false->POk v2 O[st.toNat]) (T0 (h _ (Xn hlt)) λx hx=>T2 λh=>hx (by simpa using h)) λx hx=>?_;refine T1 (λ_=>T2 (Qn ⟨λx h=>(by cases h;omega),λh=>(by cases h)⟩)) λhxf=>T2 (QG ⟨by omega,by rw[hi];exact Qj (by omega) h1,?_⟩);rw[hi,Qj (show i<O.length by omega) h1];intro j k hj' hk;by_cases c:j=i
  ·subst c;have e:st.toNat=j:=by omega
   have:=hx hxf;rw[Qp (by omega)]at hk;cases hk;simpa only[e] using this
  exact hj j k (by omega) hk
 rcases q with q | q
 ·exact T2 λh=>absurd (hq.1 q rfl) (by omega)
 exact T2 λ_=>hq.2 rfl
def SI : ∀(n:Nat) (e:Qm) (v:Int),WA e->SizeOf.sizeOf e<=n->Qg (YU n e v) λr=>r=true->POk v e
 | 0,e,_,_,h=>absurd e.pos (by omega)
 | n+1,e,v,he,h=>by
  unfold YU FZ;refine T0 (Qqe e.Kind) λx hx=>?_;refine T1 (λ_=>T2 λh=>by cases h) λh1=>T1 (λ_=>T2 λh=>by cases h) λh2=>?_;refine T0 (P:=λ_=>True) ?_ λy _=>?_
  ·unfold Tu;exact T1 (λ_=>T0 (QoX e.Num) λx _=>T3) λ_=>T3
  unfold Tv;refine T1 (λ_=>T2 λh=>by cases h) λ_=>?_;refine T0 (Zk (YU n) e.Kids v (WW he).1 λk O=>SI n k v ((WW he).2 k O) (by have:=Qak O;omega)) λx hx2=>T2 λhx3=>?_;simp only[DK]at h1;have h3:=hx (by omega);simp only[Bool.and_eq_false_iff,JT,QS,beq_eq_false_iff_ne]at h2;exact .mk e h3.1 (λO=>by omega) (λO=>by have:=h3.2.1 O;omega) (λO=>by have:=h3.2.2.1 O;omega) (λO=>by have:=h3.2.2.2 O;omega) (hx2 (by simpa using hx3))
def QoY (e1:Qm)(h:Int)(O:WA e1):Qg (Tw e1 h) λr=>r=true->POk h e1:=SI _ e1 h O (Yx _)
def QcP : ∀(n:Nat) (e:Qm),WA e->SizeOf.sizeOf e<=n->Qg (Wb n e) λ_=>True
 | 0,e,_,h=>absurd e.pos (by omega)
 | n+1,e,he,h=>by
  unfold Wb NT;refine T0 (Qg.up e.Kids.length (λst=>st.2) (λ_=>True) (Q:=λ_=>True) rfl trivial (λi st hi hn _=>?_)) (λq _=>?_)
  ·obtain⟨a,x⟩:=st;replace hi:x=(i:Int):=hi;show Qg (Ts e (Wb n) a x) _;unfold Ts;refine T1 (λO=>?_) (λO=>?_)
   ·simp only[Qx]at O;refine T0 (T4 (by omega) (by omega)) λk hk=>?_;have:=Qak hk;refine T0 (QcP n k ((WW he).2 k hk) (by omega)) λd _=>?_;exact T2 (QG ⟨by omega,by subst hi;exact Qj (by omega) (WW he).1,trivial⟩)
   exact T2 (Qn trivial)
  unfold Qdk;exact T3
def QoZ (O:Qm)(h:WA O):Qg (Tt O) λ_=>True:=QcP _ O h (Yx _)
def Qd7 : ∀(n:Nat) (e:Qm),WA e->SizeOf.sizeOf e<=n->Qg (WZ n e) λ_=>True
 | 0,e,_,h=>absurd e.pos (by omega)
 | n+1,e,he,h=>by
  unfold WZ Ra;refine T0 (Qg.up e.Kids.length (λst=>st.2) (λ_=>True) (Q:=λ_=>True) rfl trivial (λi st hi hn _=>?_)) (λq _=>?_)
  ·obtain⟨a,x⟩:=st;replace hi:x=(i:Int):=hi;show Qg (VS e (WZ n) a x) _;unfold VS;refine T1 (λO=>?_) (λO=>?_)
   ·simp only[Qx]at O;refine T0 (T4 (by omega) (by omega)) λk hk=>?_;have:=Qak hk;refine T0 (Qd7 n k ((WW he).2 k hk) (by omega)) λd _=>?_;exact T2 (QG ⟨by omega,by subst hi;exact Qj (by omega) (WW he).1,trivial⟩)
   exact T2 (Qn trivial)
  unfold QeR;exact T3
def Qqf (O:Qm)(h:WA O):Qg (ZF O) λ_=>True:=Qd7 _ O h (Yx _)
def OR (e1:Qm)(O:Int)(h_e1:WA e1):Qg (Up e1 O) λr=>r=true->POk O e1:=by
 unfold Up;refine T0 (P:=λr=>r=true->POk O e1) ?_ (λx hx=>T2 hx);unfold Tz;refine T0 (QoZ e1 h_e1) (λx _=>?_);refine T1 (λ_=>?_) (λ_=>T2 λh=>by cases h);refine T0 (Qqf e1 h_e1) (λx _=>?_);refine T1 (λ_=>?_) (λ_=>T2 λh=>by cases h);exact T0 (QoY e1 O h_e1) (λx hx=>T2 hx)
def QlL (v1:QF)(v2:Int)(h:YN v1):Xm (Ou v1 v2):=by
 unfold Ou;refine T0 (P:=λ_=>True) ?_ (λx_1 hv2=>?_)
 ·unfold QaL;refine T0 (OR v1.Guard v2 (h.2.2.1)) (λx_3 hv4=>?_);refine T1 (λO=>?_) (λO=>?_)
  ·refine T1 (λhc6=>?_) (λhc6=>?_)
   ·exact T3
   exact T3
  exact T3
 unfold QaM;exact T3
def Qih (O:Qd)(v2:XT)(h:Xo O)(h_v2:Lp v2):Xm (Iq O v2):=by
 unfold Iq;refine T0 (Wq O.Places v2.Place (h.2.1)) (λx_1 hv2=>?_);exact T3
def Qii (O:XT)(v2:Int)(h:Lp O):Xm (Ir O v2):=by
 unfold Ir;refine T0 (OR O.Expr v2 (h.2)) (λx_1 hv2=>?_);exact T3
def Qij (v1:Qd)(v2:XT)(v3:Int)(v4:Int)(v5:Int)(O:Xo v1)(h:Lp v2):Xm (Iu v1 v2 v3 v4 v5):=by
 unfold Iu;refine T0 (Qih v1 v2 (O) (h)) (λx_1 hv2=>?_);refine T1 (λhc3=>?_) (λhc3=>?_)
 ·exact T3
 refine T0 (Qii v2 v4 (h)) (λx_4 hv5=>?_);refine T1 (λhc6=>?_) (λhc6=>?_)
 ·exact T3
 exact T3
def QlM (p1:Int)(a2:XT)(v3:Qd)(v4:Int)(h:Lp a2)(O:Xo v3):Xm (Ov p1 a2 v3 v4):=by
 unfold Ov;refine T0 (Qij v3 a2 3 v4 1 (O) (h)) (λx_1 hv2=>?_);exact T3
def QeJ (l1:(L_ XT))(v2:Qd)(v3:Int)(h:(QP Lp) l1)(h_v2:Xo v2):Xm (AH l1 v2 v3):=by
 unfold AH;refine T0 (Qg.up (l1.length) (λst=>st) (λ_=>True) (Q:=λq=>True) rfl trivial (λi2 st O hn4 hj5=>?_)) (λq6 hq7=>?_)
 ·obtain⟨x_1,hst⟩:∃y,y=st:=⟨_,rfl⟩;subst hst;replace O:x_1=(i2:Int):=O;show Qg (BQ l1 v2 v3 x_1) _;unfold BQ;refine T1 (λhc8=>?_) (λhc8=>?_)
  ·refine T0 (T4 (by omega) (by simp_all)) (λe_9 hv10=>?_);refine T0 (QlM x_1 e_9 v2 v3 (((h).2 e_9 hv10)) (h_v2)) (λx_11 hv12=>?_);refine T1 (λhc13=>?_) (λhc13=>?_)
   ·exact T2 (Qn trivial)
   exact T2 (QG ⟨(by simp_all),by subst O;exact Qj (by simp_all) (h).1,trivial⟩)
  exact T2 (Qn trivial)
 rcases q6 with q6 | q6
 ·show Qg (BR q6.1 q6.2) _;unfold BR;exact T3
 show Qg (BS) _;unfold BS;exact T3
def Qfm (n1:Qd)(l2:(L_ XT))(h:Int)(h_n1:Xo n1)(O:(QP Lp) l2):Xm (No n1 l2 h):=by
 unfold No;refine T0 (QeJ l2 n1 h (O) (h_n1)) (λx_1 hv2=>?_);exact T3
def QlN (v1:Qd)(v2:QF)(v3:Int)(h:Xo v1)(O:YN v2):Xm (Ow v1 v2 v3):=by
 unfold Ow;refine T0 (Qfm v1 v2.Ins v3 (h) (O.2.2.2.2.2.1)) (λx_1 hv2=>?_);exact T3
def Qgk (v1:Qd)(v2:QF)(v3:Int)(v4:Int)(h:Xo v1)(O:YN v2):Xm (CL v1 v2 v3 v4):=by
 unfold CL;refine T0 (QlN v1 v2 v3 (h) (O)) (λx_1 hv2=>?_);exact T3
def QlO (v1:Qd)(v2:QF)(v3:Int)(h:Xo v1)(O:YN v2):Xm (Ox v1 v2 v3):=by
 unfold Ox;refine T0 (Qfm v1 v2.Outs v3 (h) (O.2.2.2.2.2.2.1)) (λx_1 hv2=>?_);exact T3
def Qgl (v1:Qd)(v2:QF)(v3:Int)(v4:Int)(h:Xo v1)(O:YN v2):Xm (CM v1 v2 v3 v4):=by
 unfold CM;refine T0 (QlO v1 v2 v3 (h) (O)) (λx_1 hv2=>?_);exact T3
def Qfn (O:Qd)(v2:Int)(h:Xo O):Xm (BG O v2):=by
 unfold BG;refine T0 (Wq O.Places v2 (h.2.1)) (λx_1 hv2=>?_);exact T3
def QcQ (s1:LI_)(v2:Int)(O:(QP (λ_=>True)) s1):Xm (Wc s1 v2):=by
 unfold Wc;refine T0 (Qg.up (s1.length) (λst=>st) (λ_=>True) (Q:=λq=>True) rfl trivial (λi2 st h hn4 hj5=>?_)) (λq6 hq7=>?_)
 ·obtain⟨x_1,hst⟩:∃y,y=st:=⟨_,rfl⟩;subst hst;replace h:x_1=(i2:Int):=h;show Qg (XE s1 v2 x_1) _;unfold XE;refine T1 (λhc8=>?_) (λhc8=>?_)
  ·refine T0 (T4 (by omega) (by simp_all)) (λe_9 hv10=>?_);refine T1 (λhc11=>?_) (λhc11=>?_)
   ·exact T2 (Qn trivial)
   exact T2 (QG ⟨(by simp_all),by subst h;exact Qj (by simp_all) (O).1,trivial⟩)
  exact T2 (Qn trivial)
 rcases q6 with q6 | q6
 ·show Qg (Ay q6) _;unfold Ay;exact T3
 show Qg (Az) _;unfold Az;exact T3
def HJ (O:LI_)(v2:Int)(h:(QP (λ_=>True)) O):Xm (XW O v2):=by
 unfold XW;refine T0 (QcQ O v2 (h)) (λx_1 hv2=>?_);exact T3
def Qfo (O:LI_)(v2:Int)(v3:Int)(h:(QP (λ_=>True)) O)(hp0:0<=v2)(hp1:v2<O.length):Xm (BH O v2 v3):=by
 unfold BH;refine T0 (T5 (by simp_all;omega)) (λ_ _=>?_);refine T0 (HJ ((O.drop 0).take (v2.toNat-0)) v3 (((h).drop _).take _)) (λx_1 hv2=>?_);exact T3
def Qik (v1:Qd)(v2:Int)(v3:Int)(v4:LI_)(v5:Int)(v6:Int)(h:Xo v1)(O:(QP (λ_=>True)) v4)(hp0:0<=v5)(hp1:v5<v4.length):Xm (Iv v1 v2 v3 v4 v5 v6):=by
 unfold Iv;refine T0 (Qfn v1 v2 (h)) (λx_1 hv2=>?_);refine T1 (λhc3=>?_) (λhc3=>?_)
 ·exact T3
 refine T0 (Qfo v4 v5 v2 (O) (by omega) (by omega)) (λx_4 hv5=>?_);refine T1 (λhc6=>?_) (λhc6=>?_)
 ·exact T3
 exact T3
def Qhh (k1:Int)(h:Int)(v3:Qd)(v4:LI_)(O:Xo v3)(h_v4:(QP (λ_=>True)) v4)(hp0:0<=k1)(hp1:k1<v4.length):Xm (FO k1 h v3 v4):=by
 unfold FO;refine T0 (Qik v3 h 3 v4 k1 5 (O) (h_v4) (by omega) (by omega)) (λx_1 hv2=>?_);exact T3
def Qil (l1:LI_)(v2:Qd)(v3:LI_)(h_l1:(QP (λ_=>True)) l1)(h_v2:Xo v2)(h_v3:(QP (λ_=>True)) v3)(hp0:l1.length<=v3.length):Xm (Iw l1 v2 v3):=by
 unfold Iw;refine T0 (Qg.up (l1.length) (λst=>st) (λ_=>True) (Q:=λq=>True) rfl trivial (λi2 st h hn4 hj5=>?_)) (λq6 hq7=>?_)
 ·obtain⟨O,hst⟩:∃y,y=st:=⟨_,rfl⟩;subst hst;replace h:O=(i2:Int):=h;show Qg (LQ l1 v2 v3 O) _;unfold LQ;refine T1 (λhc8=>?_) (λhc8=>?_)
  ·refine T0 (T4 (by omega) (by simp_all)) (λe_9 hv10=>?_);refine T0 (Qhh O e_9 v2 v3 (h_v2) (h_v3) (by omega) (by simp_all;omega)) (λx_11 hv12=>?_);refine T1 (λhc13=>?_) (λhc13=>?_)
   ·exact T2 (Qn trivial)
   exact T2 (QG ⟨(by simp_all),by subst h;exact Qj (by simp_all) (h_l1).1,trivial⟩)
  exact T2 (Qn trivial)
 rcases q6 with q6 | q6
 ·show Qg (LR q6.1 q6.2) _;unfold LR;exact T3
 show Qg (LS) _;unfold LS;exact T3
def QjS (n1:Qd)(l2:LI_)(O:Xo n1)(h:(QP (λ_=>True)) l2):Xm (Ms n1 l2):=by
 unfold Ms;refine T0 (Qil l2 n1 l2 (h) (O) (h) (by omega)) (λx_1 hv2=>?_);exact T3
def QjT (v1:Qd)(v2:QF)(h:Xo v1)(O:YN v2):Xm (Mt v1 v2):=by
 unfold Mt;refine T0 (QjS v1 v2.Cancel (h) (O.2.2.2.2.2.2.2.1)) (λx_1 hv2=>?_);exact T3
def Qgm (v1:Qd)(v2:QF)(v3:Int)(h:Xo v1)(O:YN v2):Xm (CN v1 v2 v3):=by
 unfold CN;refine T0 (QjT v1 v2 (h) (O)) (λx_1 hv2=>?_);exact T3
def Qa0 (k1:Int)(O:(L_ XT))(h:(QP Lp) O):Xm (CO k1 O):=by
 unfold CO;exact T3
def QnD (O:QF)(h:YN O):Xm (Rr O):=by
 unfold Rr;refine T0 (P:=λ_=>True) ?_ (λx_1 hv2=>?_)
 ·unfold Qci;refine T0 (Qa0 O.Join O.Ins (h.2.2.2.2.2.1)) (λx_3 hv4=>?_);refine T1 (λhc5=>?_) (λhc5=>?_)
  ·refine T0 (Qa0 O.Split O.Outs (h.2.2.2.2.2.2.1)) (λx_6 hv7=>?_);refine T1 (λhc8=>?_) (λhc8=>?_)
   ·refine T1 (λhc9=>?_) (λhc9=>?_)
    ·refine T1 (λhc10=>?_) (λhc10=>?_)
     ·exact T3
     exact T3
    exact T3
   exact T3
  exact T3
 unfold Qcj;exact T3
def QjU (O:QF)(h:YN O):Xm (Mu O):=by
 unfold Mu;refine T0 (QnD O (h)) (λx_1 hv2=>?_);exact T3
def Qim (v1:QF)(v2:Int)(v3:Qd)(v4:Int)(v5:Int)(v6:Int)(v7:Int)(v8:Int)(v9:Int)(v10:Int)(v11:Int)(v12:Int)(v13:Int)(v14:Int)(v15:Int)(h:YN v1)(O:Xo v3)(hp0:0<=v4)(hp1:v4<v3.Tasks.length):Xm (EH v1 v2 v3 v4 v5 v6 v7 v8 v9 v10 v11 v12 v13 v14 v15):=by
 unfold EH;refine T0 (QlF v1 (h)) (λx_1 hv2=>?_);refine T1 (λhc3=>?_) (λhc3=>?_)
 ·exact T3
 refine T0 (QlH v3 v4 v1 (O) (h) (by omega) (by omega)) (λx_4 hv5=>?_);refine T1 (λhc6=>?_) (λhc6=>?_)
 ·exact T3
 refine T0 (QlI v6 v1 (h)) (λx_7 hv8=>?_);refine T1 (λhc9=>?_) (λhc9=>?_)
 ·exact T3
 refine T0 (QjR v3 v1 v8 (O) (h)) (λx_10 hv11=>?_);refine T1 (λhc12=>?_) (λhc12=>?_)
 ·exact T3
 refine T0 (QlK v3 v4 (O)) (λx_13 hv14=>?_);refine T1 (λhc15=>?_) (λhc15=>?_)
 ·exact T3
 refine T0 (QlL v1 v6 (h)) (λx_16 hv17=>?_);refine T1 (λhc18=>?_) (λhc18=>?_)
 ·exact T3
 refine T0 (Qgk v3 v1 v6 x_10.2 (O) (h)) (λx_19 hv20=>?_);refine T1 (λhc21=>?_) (λhc21=>?_)
 ·exact T3
 refine T0 (Qgl v3 v1 v6 x_19.2 (O) (h)) (λx_22 hv23=>?_);refine T1 (λhc24=>?_) (λhc24=>?_)
 ·exact T3
 refine T0 (Qgm v3 v1 x_22.2 (O) (h)) (λx_25 hv26=>?_);refine T1 (λhc27=>?_) (λhc27=>?_)
 ·exact T3
 refine T0 (QjU v1 (h)) (λx_28 hv29=>?_);refine T1 (λhc30=>?_) (λhc30=>?_)
 ·exact T3
 exact T3
def Qfp (n1:Qd)(k2:Int)(h:Xo n1):Xm (KU n1 k2):=by
 unfold KU;refine T0 (Nv n1.Tasks k2 (h.2.2.1)) (λx_1 hv2=>?_);refine T1 (λhc3=>?_) (λhc3=>?_)
 ·exact T3
 refine T0 (QaZ n1 (h)) (λx_4 hv5=>?_);refine T1 (λhc6=>?_) (λhc6=>?_)
 ·exact T3
 refine T0 (T4 (by simp_all) (by simp_all)) (λO hv8=>?_);refine T0 (T4 (by simp_all) (by simp_all)) (λe_9 hv10=>?_);refine T0 (QnC 0 n1 O (h) (((h.2.2.1).2 O hv8))) (λx_11 hv12=>?_);refine T0 (Qid 0 n1 O (e_9.Vars.length:Int) (h) (((h.2.2.1).2 O hv8))) (λx_13 hv14=>?_);refine T0 (Qie 0 n1 O (e_9.Vars.length:Int) (h) (((h.2.2.1).2 O hv8))) (λx_15 hv16=>?_);refine T0 (Qif 0 n1 O (h) (((h.2.2.1).2 O hv8))) (λx_17 hv18=>?_);refine T0 (Qim O 1 n1 k2 5 (e_9.Vars.length:Int) 2 0 (-1) 2 1 (-1) (-1) (-1) 11 (((h.2.2.1).2 O hv8)) (h) (by simp_all) (by simp_all)) (λx_19 hv20=>?_);refine T1 (λhc21=>?_) (λhc21=>?_)
 ·exact T3
 exact T3
def QnE (k1:Int)(p2:QF)(v3:Qd)(O:YN p2)(h:Xo v3):Xm (Li k1 p2 v3):=by
 unfold Li;refine T0 (Qfp v3 k1 (h)) (λx_1 hv2=>?_);exact T3
def Qc7 (l1:(L_ QF))(v2:Qd)(h:(QP YN) l1)(h_v2:Xo v2):Xm (Wz l1 v2):=by
 unfold Wz;refine T0 (Qg.up (l1.length) (λst=>st) (λ_=>True) (Q:=λq=>True) rfl trivial (λi2 st O hn4 hj5=>?_)) (λq6 hq7=>?_)
 ·obtain⟨x_1,hst⟩:∃y,y=st:=⟨_,rfl⟩;subst hst;replace O:x_1=(i2:Int):=O;show Qg (WS l1 v2 x_1) _;unfold WS;refine T1 (λhc8=>?_) (λhc8=>?_)
  ·refine T0 (T4 (by omega) (by simp_all)) (λe_9 hv10=>?_);refine T0 (QnE x_1 e_9 v2 (((h).2 e_9 hv10)) (h_v2)) (λx_11 hv12=>?_);refine T1 (λhc13=>?_) (λhc13=>?_)
   ·exact T2 (Qn trivial)
   exact T2 (QG ⟨(by simp_all),by subst O;exact Qj (by simp_all) (h).1,trivial⟩)
  exact T2 (Qn trivial)
 rcases q6 with q6 | q6
 ·show Qg (Bo q6.1 q6.2) _;unfold Bo;exact T3
 show Qg (Bp) _;unfold Bp;exact T3
def Qqg (n1:Qd)(h:Xo n1):Xm (AR n1):=by
 unfold AR;refine T0 (Qnv n1 2 3 1 (h)) (λx_1 hv2=>?_);refine T1 (λhc3=>?_) (λhc3=>?_)
 ·exact T3
 refine T0 (QaZ n1 (h)) (λx_4 hv5=>?_);refine T1 (λhc6=>?_) (λhc6=>?_)
 ·exact T3
 refine T0 (QcO n1.Places n1 (h.2.1) (h)) (λx_7 hv8=>?_);refine T1 (λhc9=>?_) (λhc9=>?_)
 ·exact T3
 refine T0 (Qc7 n1.Tasks n1 (h.2.2.1) (h)) (λx_10 hv11=>?_);refine T1 (λO=>?_) (λO=>?_)
 ·exact T3
 exact T3
def Qq7 (O:Int)(b2:Int)  : Xm (HX O b2):=by
 unfold HX;refine T1 (λh=>?_) (λh=>?_)
 ·exact T3
 exact T3
def Qhi (O:Int)(b2:Int)  : Xm (Dt O b2):=by
 unfold Dt;refine T1 (λh=>?_) (λh=>?_)
 ·exact T3
 exact T3
def QgO (O:Int)  : Xm (Fi O):=by
 unfold Fi;refine T1 (λh=>?_) (λh=>?_)
 ·exact T3
 exact T3
def Qhj (h:Int)(O:Int)  : Xm (GX h O):=by
 unfold GX;exact T3
def QlP (a1:Int)(b2:Int)  : Xm (AW a1 b2):=by
 unfold AW;refine T0 (QgO a1 ) (λx_1 hv2=>?_);refine T0 (QgO b2 ) (λx_3 hv4=>?_);refine T0 (Qhj x_1 x_3 ) (λx_5 hv6=>?_);refine T1 (λh=>?_) (λh=>?_)
 ·unfold Du;refine T1 (λO=>?_) (λO=>?_)
  ·exact T3
  exact T3
 unfold Du;refine T1 (λhc9=>?_) (λhc9=>?_)
 ·exact T3
 exact T3
def Qa1 (a1:Int)(b2:Int)  : Xm (Wl a1 b2):=by
 unfold Wl;refine T1 (λh=>?_) (λh=>?_)
 ·exact T3
 refine T1 (λO=>?_) (λO=>?_)
 ·exact T3
 refine T0 (T5 (by simp_all)) (λ_ _=>?_);refine T0 (T5 (by simp_all)) (λ_ _=>?_);exact T3
def Uz (O:Bool)  : Xm (Kf O):=by
 unfold Kf;refine T1 (λh=>?_) (λh=>?_)
 ·exact T3
 exact T3
def Ft (Jy:Int)(O:Int)(h:Int)  : Xm (Ka Jy O h):=by
 unfold Ka;refine T1 (λhc1=>?_) (λhc1=>?_)
 ·refine T0 (Qq7 O h ) (λx_2 hv3=>?_);exact T3
 refine T1 (λhc4=>?_) (λhc4=>?_)
 ·refine T0 (Qhi O h ) (λx_5 hv6=>?_);exact T3
 refine T1 (λhc7=>?_) (λhc7=>?_)
 ·refine T0 (QlP O h ) (λx_8 hv9=>?_);exact T3
 refine T1 (λhc10=>?_) (λhc10=>?_)
 ·refine T0 (Qa1 O h ) (λx_11 hv12=>?_);exact T3
 refine T1 (λhc13=>?_) (λhc13=>?_)
 ·refine T0 (Qa1 O h ) (λx_14 hv15=>?_);exact T3
 refine T1 (λhc16=>?_) (λhc16=>?_)
 ·refine T0 (Uz (O==h) ) (λx_17 hv18=>?_);exact T3
 refine T1 (λhc19=>?_) (λhc19=>?_)
 ·refine T0 (Uz (O != h) ) (λx_20 hv21=>?_);exact T3
 refine T1 (λhc22=>?_) (λhc22=>?_)
 ·refine T0 (Uz (decide (O<h)) ) (λx_23 hv24=>?_);exact T3
 refine T1 (λhc25=>?_) (λhc25=>?_)
 ·refine T0 (Uz (decide (O<=h)) ) (λx_26 hv27=>?_);exact T3
 refine T1 (λhc28=>?_) (λhc28=>?_)
 ·refine T0 (P:=λ_=>True) ?_ (λv_29 hv30=>?_)
  ·unfold TB;refine T1 (λhc31=>?_) (λhc31=>?_)
   ·refine T0 (Uz (h != 0) ) (λx_32 hv33=>?_);exact T3
   refine T0 (Uz false ) (λx_34 hv35=>?_);exact T3
  unfold QbS;exact T3
 refine T1 (λhc36=>?_) (λhc36=>?_)
 ·refine T0 (P:=λ_=>True) ?_ (λv_37 hv38=>?_)
  ·unfold TC;refine T1 (λhc39=>?_) (λhc39=>?_)
   ·refine T0 (Uz true ) (λx_40 hv41=>?_);exact T3
   refine T0 (Uz (h != 0) ) (λx_42 hv43=>?_);exact T3
  unfold QbT;exact T3
 exact T3
def Qin (h:Int)  : Xm (TE h):=by
 unfold TE;refine T0 (Ft 2 0 h ) (λx_1 O=>?_);exact T3
def QcR (b:QBg)(h:b.length<=maxLen):DL b=C (Ek (-1) b):=by
 unfold DL;have O:=CZ (body:=λst=>KZ b st.1 st.2) (l:=b) (ρ:=Unit⊕Unit) (λi (t:Int)=>(t,(i:Int)))
  (λi t x=>bif ((decide (x.1<=t))||((decide (x.2<1))||(decide (1048576<x.2))))then .inr (.inl ())else .inl x.1) (λ_=>.inr ())
  (λi t x hi hx=>by
   show KZ b t i=_;unfold KZ;rw[Qt (by omega:(i:Int)<b.length),Ql,Qs,hx,Qa];cases ((decide (x.1<=t))||((decide (x.2<1))||(decide (1048576<x.2))))with
   | true=>rfl
   | false=>simp only[Qi,Sum.elim_inl];rw[Qj hi h])
  (λt=>by
   show KZ b t b.length=_;unfold KZ;rw[Qz (by omega)];rfl) (-1) (s0:=(-1,0)) rfl
 rw[O];have:∀(l:QBg) (k:Nat) (t:Int),DE (λi t (x:Int×Int)=>(bif ((decide (x.1<=t))||((decide (x.2<1))||(decide (1048576<x.2))))then .inr (.inl ())else .inl x.1:Int⊕(Unit⊕Unit))) (λ_=>.inr ()) k t l=bif Ek t l then .inr ()else .inl ():=by
  intro l
  induction l with
  | nil=>intro k t;rfl
  | cons x l ih=>
   intro k t;rw[DE,Ek];cases ((decide (x.1<=t))||((decide (x.2<1))||(decide (1048576<x.2))))with
   | true=>rfl
   | false=>simp only[Qi,Sum.elim_inl,PY,UD];exact ih _ _
 rw[this];cases Ek (-1) b<;>rfl
def Qd8 (b:QBg)(h:b.length<=maxLen):HS b=C (bif Ek (-1) b then .inr b else .inl ()):=by
 unfold HS;rw[QcR b h,Qa];cases hr:Ek (-1) b with
 | false=>rfl
 | true=>
  simp only[JD,Qi,Ql];have ha:=(YV.1 hr).1;obtain⟨r,h1,h2⟩:=JC (body:=λst=>Uc b st.1 st.2) b.length (λi s=>s=((i:Int),b.take i)) (λr=>r=b)
   (λi s hi O=>by
    subst O;refine .inl ⟨(((i+1:Nat):Int),b.take (i+1)),?_,rfl⟩;show Uc b i (b.take i)=_;unfold Uc;rw[Qt (by omega:(i:Int)<b.length),Ql,Qs,Qp hi,Qa,Qj hi h];have e:b.take (i+1)=b.take i++[b[i]]:=by rw[UF,Qp hi];rfl
    rw[e,<-Qv3 (by have:=(ha.sublist (List.take_sublist (i+1) b));rw[e]at this;exact this)])
   (λs O=>by
    subst O;refine⟨_,?_,rfl⟩;show Uc b b.length (b.take b.length)=_;unfold Uc;rw[Qz (by omega),UG];rfl) (0,[]) rfl
  rw[h1,h2];rfl
def QeK (a b:QBg)(O:a.length<=maxLen)(h:b.length<=maxLen):NP a b=C (bif Ek (-1) a then(bif Ek (-1) b then .inr (.inr (.inr (a,b)))else .inr (.inr (.inl a)))else(bif Ek (-1) b then .inr (.inl b)else .inl ())):=by
 unfold NP;rw[Qd8 a O];cases Ek (-1) a with
 | true=>
  simp only[Ql,Qa,Sum.elim_inr];unfold QgF;rw[Qd8 b h];cases Ek (-1) b<;>rfl
 | false=>
  simp only[Qi,Qa,Sum.elim_inl];unfold QgE;rw[Qd8 b h];cases Ek (-1) b<;>rfl
def RI (m:QBg)(ha:GW m)(h':m.length<=4294967296):EC m=C (Nu m):=by
 have h:m.length<=maxLen:=by unfold maxLen;omega
 unfold EC GL LJ;simp only[Qt h',GV rfl,Qa,QuD ha];obtain⟨r,h1,h2⟩:=JC (body:=λst=>DJ (m.map Prod.fst) m st.1 st.2) m.length (λi s=>s=((i:Int),Nu (m.take i))) (λr=>r=Nu m)
  (λi s hi O=>by
   subst O;refine .inl ⟨(((i+1:Nat):Int),Nu (m.take (i+1))),?_,rfl⟩;show DJ (m.map Prod.fst) m i (Nu (m.take i))=_;unfold DJ;have e:m.take (i+1)=m.take i++[m[i]]:=by rw[UF,Qp hi];rfl
   have ec:(Qr m m[i].1).getD 0=m[i].2:=ET ha.nd (Xn hi);rw[Qt (by simp;omega),Ql,Qs,Yn,Qp hi,Ki,Qa,ec];have hl:(Nu (m.take i)).length<=i:=XZ (LV _ _) (by simp;omega);cases hc:decide (0<m[i].2)with
   | true=>
    simp only[Ql];rw[YR (by simp;omega),Qa];unfold Et;rw[Qj hi h,e];unfold Nu;rw[Tb,Bx,if_pos hc];rfl
   | false=>
    simp only[Qi];unfold Et;rw[Qj hi h,e];unfold Nu;rw[Tb,Bx,if_neg (by rw[hc];decide),List.filter_nil,Qda])
  (λs O=>by
   subst O;refine⟨_,?_,rfl⟩;show DJ (m.map Prod.fst) m m.length (Nu (m.take m.length))=_;unfold DJ;rw[Qz (by simp),UG];rfl) (0,[]) rfl
 rw[h1,h2];rfl
def Qq8 (m:QBg):(Nu m).length<=m.length:=LV _ _
def UA (a b:QBg)(h:a.length+b.length<=4294967296):(¬(Rt a/\Rt b)/\Jt a b=C ([],1))\/(Rt a/\Rt b/\(∃k,1048576<QH a k+QH b k)/\Jt a b=C ([],2))\/
  (Rt a/\Rt b/\∃r,Jt a b=C (r,0)/\Rt r/\(∀k,QH r k=QH a k+QH b k)/\r.length<=a.length+b.length):=by
 unfold Jt;rw[QeK a b (by unfold maxLen;omega) (by unfold maxLen;omega),Qa];cases ra:Ek (-1) a with
 | false=>exact .inl ⟨λhh=>(by rw[YV.2 hh.1]at ra;cases ra),by cases Ek (-1) b<;>rfl⟩
 | true=>
  cases rb:Ek (-1) b with
  | false=>exact .inl ⟨λhh=>(by rw[YV.2 hh.2]at rb;cases rb),rfl⟩
  | true=>
   have hra:=YV.1 ra;have O:=YV.1 rb;simp only[Ql,Sum.elim_inr];unfold QhC;have hw:∀p∈b,QH a p.1+p.2=QH a p.1+QH b p.1:=λp hp=>by rw[ET O.1.nd hp]
   rcases Qno (g:=λx v=>Qe (x+v)) (stop:=λx=>decide (1048576<x)) (q:=C ()) (body:=λst p=>FX st p.1 p.2) (λs p=>by
     show FX s p.1 p.2=_;unfold FX;rw[Kb,if_pos rfl];unfold QH;simp only[GI];cases decide (1048576<Qe ((Qr s p.1).getD 0+p.2))<;>rfl) hra.1 O.1.nd with⟨⟨p,h1,h2⟩,h3⟩|⟨h1,s',h3,h4,h5,h6⟩
   ·refine .inr (.inl ⟨hra,O,⟨p.1,?_⟩,?_⟩)
    ·have:=hra.cnt p.1;have:=O.cnt p.1;have h2:=Xd h2;rw[ET O.1.nd h1];rw[ET O.1.nd h1]at this;rwa[Xh (by omega)]at h2
    simp only[h3 () rfl];rfl
   have hk:∀k,QH s' k=QH a k+QH b k/\QH s' k<=1048576:=λk=>by
    have ca:=hra.cnt k;have cb:=O.cnt k;have e:=h6 k;unfold QiN at e;cases hm:Qr b k with
    | none=>
     rw[hm]at e;simp only at e;have:QH b k=0:=by unfold QH;rw[hm];rfl
     have e2:QH s' k=QH a k:=by unfold QH;rw[e]
     omega
    | some v=>
     rw[hm]at e;simp only at e;have e1:QH b k=v:=by unfold QH;rw[hm];rfl
     have e2:QH s' k=Qe (QH a k+v):=by unfold QH;rw[e];rfl
     have h7:=h1 (k,v) ((Kc O.1.nd).1 hm);simp only[QS]at h7;rw[Xh (by omega)]at e2 h7;omega
   refine .inr (.inr ⟨hra,O,Nu s',?_,QuC h4 (λk hk0=>⟨?_,(hk k).2⟩),λk=>?_,XZ (Qq8 s') h5⟩)
   ·simp only[h3,Qa,Sum.elim_inl];unfold QbJ;rw[RI s' h4 (by omega)];rfl
   ·have:=(hk k).1;have ca:=hra.cnt k;have cb:=O.cnt k;by_cases c:0<QH a k
    ·exact hra.cnt_pos c
    exact O.cnt_pos (by omega)
   rw[Qq5 h4,(hk k).1];have ca:=hra.cnt k;have cb:=O.cnt k;split<;>omega
def QcS (m h:QBg):Ev m h=C (!(m.any λp=>decide (QH h p.1<p.2))):=by
 unfold Ev;rw[Qtc (bad:=λp=>decide (QH h p.1<p.2)) (q:=()) (λp=>by
  show DS h p.1 p.2=_;unfold DS QH;cases decide ((Qr h p.1).getD 0<p.2)<;>rfl)]
 cases m.any λp=>decide (QH h p.1<p.2)<;>rfl
def Qgn {a b:QBg}(O:Rt a)(hb:Rt b):(a.any λp=>decide (QH b p.1<p.2))=false↔∀k,QH a k<=QH b k:=by
 rw[<-HN,EX];simp only[Qx,not_exists,not_and];constructor
 ·intro h k;have cb:=hb.cnt k;cases e:Qr a k with
  | none=>
   have:QH a k=0:=by unfold QH;rw[e];rfl
   omega
  | some v=>
   have h1:=h _ ((Kc O.1.nd).1 e);have:QH a k=v:=by unfold QH;rw[e];rfl
   simp only at h1;omega
 intro h p hp hlt;have:=h p.1;rw[ET O.1.nd hp]at this;omega
def Fb (a b:QBg)(ha:a.length<=maxLen)(hb:b.length<=maxLen):∃r,Nh a b=C r/\(r=true↔Rt a/\Rt b/\∀k,QH a k<=QH b k):=by
 unfold Nh;rw[QeK a b ha hb,Qa];cases ra:Ek (-1) a with
 | false=>exact⟨false,by cases Ek (-1) b<;>rfl,by simp;intro hh;rw[YV.2 hh]at ra;cases ra⟩
 | true=>
  cases rb:Ek (-1) b with
  | false=>exact⟨false,rfl,by simp;intro _ hh;rw[YV.2 hh]at rb;cases rb⟩
  | true=>
   have O:=YV.1 ra;have hrb:=YV.1 rb;refine⟨!(a.any λp=>decide (QH b p.1<p.2)),?_,?_⟩
   ·simp only[Ql,Sum.elim_inr];unfold Qdl;rw[QcS];rfl
   rw[An,Qgn O hrb];exact⟨λh=>⟨O,hrb,h⟩,λh=>h.2.2⟩
def Lt (a b:QBg)(h:a.length+b.length<=4294967296):(¬(Rt a/\Rt b)/\JL a b=C ([],1))\/(Rt a/\Rt b/\(∃k,QH a k<QH b k)/\JL a b=C ([],10))\/
  (Rt a/\Rt b/\(∀k,QH b k<=QH a k)/\∃r,JL a b=C (r,0)/\Rt r/\(∀k,QH r k=QH a k-QH b k)/\r.length<=a.length+b.length):=by
 unfold JL;rw[QeK a b (by unfold maxLen;omega) (by unfold maxLen;omega),Qa];cases ra:Ek (-1) a with
 | false=>exact .inl ⟨λhh=>(by rw[YV.2 hh.1]at ra;cases ra),by cases Ek (-1) b<;>rfl⟩
 | true=>
  cases rb:Ek (-1) b with
  | false=>exact .inl ⟨λhh=>(by rw[YV.2 hh.2]at rb;cases rb),rfl⟩
  | true=>
   have O:=YV.1 ra;have hrb:=YV.1 rb;simp only[Ql,Sum.elim_inr];unfold QgH;rw[QcS,Qa];cases hw:b.any λp=>decide (QH a p.1<p.2)with
   | true=>
    refine .inr (.inl ⟨O,hrb,?_,rfl⟩);obtain⟨p,h1,h2⟩:=EX.1 hw;exact⟨p.1,by rw[ET hrb.1.nd h1];exact Xd h2⟩
   | false=>
    have hle:=(Qgn hrb O).1 hw;simp only[PY,JD,Qi];rcases Qno (g:=λx v=>Qe (x-v)) (stop:=λ_=>false) (q:=none) (body:=λst p=>Cf st p.1 p.2) (λs p=>by
      show Cf s p.1 p.2=_;unfold Cf QH;rfl) O.1 hrb.1.nd with⟨⟨p,h1,h2⟩,h3⟩|⟨h1,s',h3,h4,h5,h6⟩
    ·cases h2
    have hk:∀k,QH s' k=QH a k-QH b k:=λk=>by
     have ca:=O.cnt k;have cb:=hrb.cnt k;have e:=h6 k;unfold QiN at e;cases hm:Qr b k with
     | none=>
      rw[hm]at e;simp only at e;have:QH b k=0:=by unfold QH;rw[hm];rfl
      have e2:QH s' k=QH a k:=by unfold QH;rw[e]
      omega
     | some v=>
      rw[hm]at e;simp only at e;have e1:QH b k=v:=by unfold QH;rw[hm];rfl
      have e2:QH s' k=Qe (QH a k-v):=by unfold QH;rw[e];rfl
      rw[Xh (by omega)]at e2;omega
    refine .inr (.inr ⟨O,hrb,hle,Nu s',?_,QuC h4 (λk hk0=>?_),λk=>?_,XZ (Qq8 s') h5⟩)
    ·simp only[h3,Qa,Sum.elim_inl];unfold Qaw;rw[RI s' h4 (by omega)];rfl
    ·have:=hk k;have ca:=O.cnt k;have cb:=hrb.cnt k;exact⟨O.cnt_pos (by omega),by omega⟩
    rw[Qq5 h4,hk k];have:=hle k;split<;>omega
def Vz (t:Int):RO [t]=C (bif decide (0<=t)then [(t,1)]else []):=by
 unfold RO;rw[Yl];show((Ff [t] 0 []).bind _).bind _=_;unfold Ff;rw[Qt (by simp),Ql,show idx [t] 0=C t from rfl,Qa];unfold ZD;rw[show Qe (0+1)=1 from by decide];cases h:decide (0<=t)with
 | false=>
  simp only[Qi,Qa,Sum.elim_inl];rw[Yl];show((Ff [t] 1 []).bind _).bind _=_;unfold Ff;rw[Qz (by simp)];simp only[Qi,Qa,Sum.elim_inr];unfold Qet;rw[RI [] List.Pairwise.nil (by simp)];rfl
 | true=>
  simp only[Ql,Qa,Sum.elim_inl];rw[Yl];show((Ff [t] 1 [(t,min2 (Qe (0+1)) 1048576)]).bind _).bind _=_;unfold Ff;rw[Qz (by simp)];simp only[Qi,Qa,Sum.elim_inr];unfold Qet;rw[RI _ (Qdb _ _) (by simp[maxLen]),show min2 (Qe (0+1)) 1048576=1 from by decide];rfl
def Qsn : ∀(n:Nat) (e:Qm) (d:Int),WA e->SizeOf.sizeOf e<=n->Qg (Ab n e d) λ_=>True
 | 0,e,_,_,h=>absurd e.pos (by omega)
 | n+1,e,d,he,h=>by
  unfold Ab Qay;refine T1 (λ_=>T3) λ_=>?_;refine T0 (Qg.up e.Kids.length (λst=>st.2) (λ_=>True) (Q:=λ_=>True) rfl trivial (λi st hi hn _=>?_)) (λq _=>?_)
  ·obtain⟨a,x⟩:=st;replace hi:x=(i:Int):=hi;show Qg (VY e (Ab n) d a x) _;unfold VY;refine T1 (λO=>?_) (λO=>T2 (Qn trivial));simp only[Qx]at O;refine T0 (T4 (by omega) (by omega)) λk hk=>?_;have:=Qak hk;refine T0 (Qsn n k _ ((WW he).2 k hk) (by omega)) λy _=>?_;refine T1 (λ_=>T2 (Qn trivial)) λ_=>T1 (λ_=>T2 (Qn trivial)) λ_=>?_;exact T2 (QG ⟨by omega,by subst hi;exact Qj (by omega) (WW he).1,trivial⟩)
  rcases q with q | q
  ·exact T3
  exact T3
def Qo0 (e:Qm)(h:WA e):Qg (Lx e) λ_=>True:=by
 unfold Lx QeB;exact T0 (Qsn _ e 60 h (Yx _)) λ_ _=>T3
def Qso (n1:Qd)(h:Xo n1)(q0:Int):Qg (TW n1 q0) λr=>r=true->q0<=400:=by
 unfold TW;refine T0 (Qg.up n1.Tasks.length (λst=>st.2) (λ_=>True) (Q:=λ_=>True) rfl trivial (λi st hi hn _=>?_)) (λq _=>?_)
 ·obtain⟨a,x⟩:=st;replace hi:x=(i:Int):=hi;show Qg (TV n1 a x) _;unfold TV;refine T1 (λhc=>?_) (λ_=>T2 (Qn trivial));simp only[Qx]at hc;refine T0 (T4 (by omega) (by omega)) λe he=>?_;have ke:=h.2.2.1.2 e he;refine T1 (λ_=>T2 (Qn trivial)) λ_=>?_;refine T0 (Qg.up e.Vars.length (λst=>st) (λ_=>True) (Q:=λ_=>True) rfl trivial (λi2 st O hn2 _=>?_)) (λq _=>?_)
  ·show Qg (TP e st) _;unfold TP;refine T1 (λhc=>?_) (λ_=>T2 (Qn trivial));simp only[Qx]at hc;refine T0 (T4 (by omega) (by omega)) λs _=>?_;exact T1 (λ_=>T2 (Qn trivial)) λ_=>T2 (QG ⟨by omega,by rw[O];exact Qj (by omega) ke.2.1.1,trivial⟩)
  rcases q with q | q
  ·exact T2 (Qn trivial)
  show Qg (TU e a x) _;unfold TU;refine T0 (Qo0 e.Guard ke.2.2.1) λg _=>?_;refine T0 (Qg.up e.Ins.length (λst=>st.2) (λ_=>True) (Q:=λ_=>True) rfl trivial (λi2 st O hn2 _=>?_)) (λq _=>?_)
  ·obtain⟨b,y⟩:=st;replace O:y=(i2:Int):=O;show Qg (TQ e b y) _;unfold TQ;refine T1 (λhc=>?_) (λ_=>T2 (Qn trivial));simp only[Qx]at hc;refine T0 (T4 (by omega) (by omega)) λs hs=>?_;refine T0 (Qo0 s.Expr (ke.2.2.2.2.2.1.2 s hs).2) λg _=>?_;exact T2 (QG ⟨by omega,by subst O;exact Qj (by omega) ke.2.2.2.2.2.1.1,trivial⟩)
  show Qg (TT e a x q) _;unfold TT;refine T0 (Qg.up e.Outs.length (λst=>st.2) (λ_=>True) (Q:=λ_=>True) rfl trivial (λi2 st O hn2 _=>?_)) (λq _=>?_)
  ·obtain⟨b,y⟩:=st;replace O:y=(i2:Int):=O;show Qg (TR e b y) _;unfold TR;refine T1 (λhc=>?_) (λ_=>T2 (Qn trivial));simp only[Qx]at hc;refine T0 (T4 (by omega) (by omega)) λs hs=>?_;refine T0 (Qo0 s.Expr (ke.2.2.2.2.2.2.1.2 s hs).2) λg _=>?_;exact T2 (QG ⟨by omega,by subst O;exact Qj (by omega) ke.2.2.2.2.2.2.1.1,trivial⟩)
  show Qg (TS a e x q) _;unfold TS;exact T1 (λ_=>T2 (Qn trivial)) λ_=>T2 (QG ⟨by omega,by subst hi;exact Qj (by omega) h.2.2.1.1,trivial⟩)
 rcases q with q | q
 ·exact T2 λh=>by cases h
 exact T2 λh=>by simpa using h
def Qxc (n1:Qd)(h:Xo n1):Qg (Fq n1) λr=>r=true->n1.Colours.length<=40/\n1.Places.length<=70/\n1.Tasks.length<=70:=by
 unfold Fq;refine T1 (λ_=>T2 λh=>by cases h) λO=>?_;simp only[JT,QS]at O;refine T6 (P:=λ_=>True) ?_ λ_ _ _=>by omega
 refine T0 (Qg.up n1.Colours.length (λst=>st.2) (λ_=>True) (Q:=λ_=>True) rfl trivial (λi st hi hn _=>?_)) (λq _=>?_)
 ·obtain⟨a,x⟩:=st;replace hi:x=(i:Int):=hi;show Qg (Hf n1 a x) _;unfold Hf;refine T1 (λO=>?_) (λ_=>T2 (Qn trivial));simp only[Qx]at O;refine T0 (T4 (by omega) (by omega)).self λe he=>?_;obtain⟨he,hm⟩:=he;refine T0 (P:=λ_=>True) ?_ λy _=>?_
  ·unfold Za;rw[he,Qa];exact T1 (λ_=>T3) λ_=>T3
  unfold Zb;refine T1 (λ_=>T2 (Qn trivial)) λ_=>?_;refine T0 (Qg.up e.Names.length (λst=>st) (λ_=>True) (Q:=λ_=>True) rfl trivial (λi2 st hi2 hn2 _=>?_)) (λq _=>?_)
  ·show Qg (He n1 x st) _;unfold He;simp only[he,Qa];refine T1 (λO=>?_) (λ_=>T2 (Qn trivial));simp only[Qx]at O;refine T0 (T4 (by omega) (by omega)) λs _=>?_;refine T1 (λ_=>T2 (Qn trivial)) λ_=>?_;exact T2 (QG ⟨by omega,by rw[hi2];exact Qj (by omega) (h.1.2 e hm).2.2.2.2.1.1,trivial⟩)
  rcases q with q | q
  ·exact T2 (Qn trivial)
  exact T2 (QG ⟨by omega,by subst hi;exact Qj (by omega) h.1.1,trivial⟩)
 rcases q with q | q
 ·exact T3
 show Qg (CH n1 q) _;unfold CH;refine T0 (Qg.up n1.Places.length (λst=>st.2) (λ_=>True) (Q:=λ_=>True) rfl trivial (λi st hi hn _=>?_)) (λq _=>?_)
 ·obtain⟨a,x⟩:=st;replace hi:x=(i:Int):=hi;show Qg (Hg n1 a x) _;unfold Hg;refine T1 (λO=>?_) (λ_=>T2 (Qn trivial));simp only[Qx]at O;refine T0 (T4 (by omega) (by omega)) λe _=>?_;refine T0 (T4 (by omega) (by omega)) λe2 _=>?_;exact T1 (λ_=>T2 (Qn trivial)) λ_=>T2 (QG ⟨by omega,by subst hi;exact Qj (by omega) h.2.1.1,trivial⟩)
 rcases q with q | q
 ·exact T3
 exact(Qso n1 h q).mono λ_ _=>trivial
def Qxd (m:L_ QBg)(h:m.length<=maxLen):Qg (ZI m) λ_=>True:=by
 unfold ZI;refine T0 (Qg.up m.length (λst=>st.2) (λ_=>True) (Q:=λ_=>True) rfl trivial (λi st hi hn _=>?_)) (λq _=>T3);obtain⟨a,x⟩:=st;replace hi:x=(i:Int):=hi;show Qg (Zc m a x) _;unfold Zc;refine T1 (λO=>?_) (λ_=>T2 (Qn trivial));simp only[QJ,Qx]at O;refine T0 (T4 (by omega) (by omega)) λe _=>?_;exact T2 (QG ⟨by omega,by subst hi;exact Qj (by omega) h,trivial⟩)
def Qsp (h:GW l):∀{a:Int},(∀p∈l,a<=p.1)->∀(i:Nat) (hi:i<l.length),a+i<=(l[i]).1:=by
 induction l with
 | nil=>intro a _ i hi;simp at hi
 | cons p l ih=>
  intro a O i hi;obtain⟨h1,h2⟩:=Gm.1 h;cases i with
  | zero=>have:=O p XD;simpa using this
  | succ i=>
   have h3:=ih h2 (a:=a+1) (λq hq=>by have:=h1 q hq;have:=O p XD;omega) i (by simpa using hi);simp only[List.getElem_cons_succ];omega
def Qv7 (h:GW l)(h0:0<l.length){k:Int}(hk:0<QH l k):k<=(l[l.length-1]).1:=by
 unfold QH at hk;cases e:Qr l k with
 | none=>rw[e]at hk;simp at hk
 | some v=>
  obtain⟨j,hj,O⟩:=Ct.1 ((Kc h.nd).1 e);by_cases c:j=l.length-1
  ·subst c;rw[O];exact Qa2 _
  have:=Qa7.1 h j (l.length-1) hj (by omega) (by omega);rw[O]at this;simp only at this;omega
def Kr (n:Qd)(c:Nat)(m:L_ QBg):Prop:=m.length=n.Places.length/\∀b∈m,Rt b/\b.length<=c
def Kr.mono {c O:Nat}(h:Kr n c m)(hc:c<=O):Kr n O m:=⟨h.1,λb hb=>⟨(h.2 b hb).1,XZ (h.2 b hb).2 hc⟩⟩
def MN (n:Qd)(m:L_ QBg):Prop:=∀(j:Nat) b p,m[j]? = C b->n.Places[j]? = C p->∀k,0<QH b k->∃z,YK n.Colours p.Colour=C z/\k<z
def Qq9 (n1:Qd)(m:L_ QBg)(h:Xo n1)(hm:QP (QP λ_=>True) m):Qg (TZ n1 m) λr=>r=true->Kr n1 1024 m/\MN n1 m:=by
 unfold TZ;refine T1 (λ_=>T2 λh=>by cases h) λhc=>?_;have hl:m.length=n1.Places.length:=by simp only[DK]at hc;omega
 refine T0 (Qg.up m.length (λst=>st) (λst=>∀(j:Nat) (hj:j<m.length),(j:Int)<st->(Rt m[j]/\(m[j]).length<=1024)/\∀p,n1.Places[j]? = C p->∀k,0<QH m[j] k->∃z,YK n1.Colours p.Colour=C z/\k<z) (Q:=λq=>q=.inr ()->(∀b∈m,Rt b/\b.length<=1024)/\MN n1 m) rfl (λj _ hj=>by omega) (λi st hi hn hJ=>?_)) (λq hq=>?_)
 ·show Qg (TY m n1 st) _;unfold TY;refine T1 (λhc=>?_) (λhc=>T2 (Qn λ_=>⟨λb hb=>by
   obtain⟨j,hj,rfl⟩:=Ct.1 hb;simp only[QS]at hc;exact(hJ j hj (by omega)).1,λj b p hb hp=>by
   obtain⟨hj,rfl⟩:=QX.1 hb;simp only[QS]at hc;exact(hJ j hj (by omega)).2 p hp⟩))
  simp only[Qx]at hc;have O:i<m.length:=by omega
  have hlp:i<n1.Places.length:=by omega
  rw[hi,Qs,Qp O,Qa,Qs,Qp hlp,Qa];refine T0 (DG n1.Colours (n1.Places[i]).Colour h.1).self λsz hsz=>?_;obtain⟨hze,hsz⟩:=hsz;have hb:=hm.2 _ (Xn O);have hbl:=hb.1;refine T0 (P:=λr=>r=false->(Rt m[i]/\(m[i]).length<=1024)/\∀k,0<QH m[i] k->k<sz) ?_ λx hx=>?_
  ·unfold Qdx;rw[QcR _ hb.1,Qa];refine T1 (λ_=>T2 λh=>by cases h) λhr=>?_;have hrt:=YV.1 (by simpa using hr:Ek (-1) m[i]=true);refine T1 (λh0=>?_) (λh0=>T2 λ_=>⟨⟨hrt,by simp only[QS]at h0;omega⟩,λk hk=>by
    simp only[QS]at h0;rw[show m[i]=[]from HO.1 (by omega)]at hk;simp[QH,Qr]at hk⟩)
   simp only[Qx]at h0;unfold maxLen at hbl;rw[Xh (by omega),show((m[i]).length:Int)-1=(((m[i]).length-1:Nat):Int) by omega,Qs,Qp (by omega),Qa];refine T2 λhf=>?_;simp only[QS]at hf;have:=Qsp hrt.1 (a:=0) (λp hp=>(hrt.2 p hp).1) ((m[i]).length-1) (by omega);refine⟨⟨hrt,by omega⟩,λk hk=>?_⟩;have:=Qv7 hrt.1 (by omega) hk;omega
  unfold Qdy;refine T1 (λ_=>T2 (Qn λh=>by cases h)) λhxf=>?_;refine T2 (QG ⟨O,Qj O hm.1,λj hj hjs=>?_⟩);rw[Qj O hm.1]at hjs;by_cases c:j=i
  ·subst c;refine⟨(hx hxf).1,λp hp k hk=>⟨sz,?_,(hx hxf).2 k hk⟩⟩;rw[Qp hlp]at hp;cases hp;exact hze
  exact hJ j hj (by omega)
 rcases q with q | q
 ·exact T2 λh=>by cases h
 exact T2 λ_=>⟨⟨hl,(hq rfl).1⟩,(hq rfl).2⟩
structure QT (n:Qd):Prop where
 k:Xo n
 pl:n.Places.length<=70
 tl:n.Tasks.length<=12
 tk:∀t∈n.Tasks,t.Vars.length<=16/\t.Ins.length<=16/\t.Outs.length<=16/\t.Cancel.length<=16
def QuG (n1:Qd)(k2:Int)(h:KU n1 k2=C 0):∃t,idx n1.Tasks k2=C t/\t.Vars.length<=16/\t.Ins.length<=16/\t.Outs.length<=16/\t.Cancel.length<=16:=by
 unfold KU at h;obtain⟨x5,_,h⟩:=QU h;rcases Ye h with⟨_,h⟩|⟨_,h⟩
 ·cases h
 obtain⟨x7,_,h⟩:=QU h;rcases Ye h with⟨c,h⟩|⟨_,h⟩
 ·simp only[Option.some.injEq]at h;rw[h]at c;cases c
 obtain⟨e9,he9,h⟩:=QU h;obtain⟨e10,he10,h⟩:=QU h;rw[he9]at he10;cases he10;obtain⟨_,_,h⟩:=QU h;obtain⟨_,_,h⟩:=QU h;obtain⟨_,_,h⟩:=QU h;obtain⟨_,_,h⟩:=QU h;obtain⟨x15,O,h⟩:=QU h;have bad:∀a b:Int,0<a->x15=(a,b)->False:=λa b ha e=>by
  subst e;simp only at h;rcases Ye h with⟨c,h⟩|⟨_,h⟩
  ·simp only[beq_iff_eq]at c;omega
  simp only[Option.some.injEq]at h;omega
 unfold EH at O;obtain⟨x20,_,O⟩:=QU O;rcases Ye O with⟨_,O⟩|⟨_,O⟩
 ·exact(bad _ _ (by decide) (Option.some.inj O).symm).elim
 obtain⟨x22,_,O⟩:=QU O;rcases Ye O with⟨_,O⟩|⟨_,O⟩
 ·exact(bad _ _ (by decide) (Option.some.inj O).symm).elim
 obtain⟨x24,h24,O⟩:=QU O;rcases Ye O with⟨_,O⟩|⟨c,O⟩
 ·exact(bad _ _ (by decide) (Option.some.inj O).symm).elim
 unfold Hj at h24;simp only[Option.some.injEq]at h24;rw[<-h24]at c;simp only[Fy,QJ,Qx,OO]at c;exact⟨e9,he9,by omega,by omega,by omega,by omega⟩
def Qj4 (l1:L_ QF)(n1:Qd)(h:Xo n1)(hl:QP YN l1):Qg (Wz l1 n1) λr=>r.2=0->∀(j:Nat),j<l1.length->KU n1 j=C 0:=by
 unfold Wz;refine T0 (Qg.up l1.length (λst=>st) (λst=>∀(j:Nat),(j:Int)<st->KU n1 j=C 0) (Q:=λq=>(∀a b,q=.inl (a,b)->b≠0)/\(q=.inr ()->∀(j:Nat),j<l1.length->KU n1 j=C 0)) rfl (λj hj=>by omega) (λi st hi hn hJ=>?_)) (λq hq=>?_)
 ·show Qg (WS l1 n1 st) _;unfold WS;refine T1 (λO=>?_) (λO=>T2 (Qn ⟨λa b h=>(by cases h),λ_ j hj=>by
   simp only[QS]at O;exact hJ j (by omega)⟩))
  simp only[Qx]at O;refine T0 (T4 (by omega) (by omega)) λe he=>?_;refine T0 (P:=λx=>KU n1 st=C x) ?_ λx hx=>?_
  ·unfold Li;exact T0 (Qfp n1 st h).self λx hx=>T2 hx.1
  refine T1 (λO=>T2 (Qn ⟨λa b h=>(by cases h;simpa using O),λh=>(by cases h)⟩)) λO=>?_;simp only[DK]at O;refine T2 (QG ⟨by omega,by rw[hi];exact Qj (by omega) hl.1,λj hj=>?_⟩);rw[hi,Qj (show i<l1.length by omega) hl.1]at hj;by_cases c:j=i
  ·subst c;rw[<-hi,hx,O]
  exact hJ j (by omega)
 rcases q with q | q
 ·exact T2 λh=>absurd h (hq.1 q.1 q.2 rfl)
 exact T2 λ_=>hq.2 rfl
def QuH (n1:Qd)(h:Xo n1){p:ZC}(O:AR n1=C (0,p)):∀t∈n1.Tasks,t.Vars.length<=16/\t.Ins.length<=16/\t.Outs.length<=16/\t.Cancel.length<=16:=by
 unfold AR at O;obtain⟨x6,_,O⟩:=QU O;rcases Ye O with⟨c,O⟩|⟨_,O⟩
 ·simp only[Option.some.injEq,Prod.mk.injEq]at O;rw[O.1]at c;cases c
 obtain⟨x8,_,O⟩:=QU O;rcases Ye O with⟨c,O⟩|⟨_,O⟩
 ·simp only[Option.some.injEq,Prod.mk.injEq]at O;rw[O.1]at c;cases c
 obtain⟨x10,_,O⟩:=QU O;rcases Ye O with⟨c,O⟩|⟨_,O⟩
 ·simp only[Option.some.injEq,Prod.mk.injEq]at O;rw[O.1]at c;cases c
 obtain⟨x12,h12,O⟩:=QU O;rcases Ye O with⟨c,O⟩|⟨c,O⟩
 ·simp only[Option.some.injEq,Prod.mk.injEq]at O;rw[O.1]at c;cases c
 simp only[DK]at c;obtain⟨r,hr,hr2⟩:=Qj4 n1.Tasks n1 h h.2.2.1;rw[h12]at hr;cases hr;intro t ht;obtain⟨j,hj,rfl⟩:=Ct.1 ht;obtain⟨t,h1,h2⟩:=QuG n1 j (hr2 c j hj);rw[Qs,Qp hj]at h1;cases h1;exact h2
def Qx5 (n1:Qd)(m:L_ QBg)(h:Xo n1)(hm:QP (QP λ_=>True) m):Qg (Hl n1 m) λr=>r=true->QT n1/\Kr n1 1024 m/\MN n1 m:=by
 unfold Hl;refine T0 (Qxc n1 h) λx5 h5=>?_;refine T0 (Qxd m hm.1) λx6 _=>?_;refine T1 (λ_=>T2 λh=>by cases h) λhc=>?_;simp only[JT,Fy,QS]at hc;have h5:=h5 hc.1;refine T0 (Qqg n1 h).self λx11 h11=>?_;refine T0 (P:=λr=>r=false->QT n1/\Kr n1 1024 m/\MN n1 m) ?_ λx12 h12=>?_
 ·unfold Va;refine T1 (λ_=>T2 λh=>by cases h) λO=>?_;simp only[DK]at O;refine T0 (Qq9 n1 m h hm) λr hr=>T2 λhrf=>⟨⟨h,h5.2.1,by omega,?_⟩,hr (by simpa using hrf)⟩;obtain⟨a,b⟩:=x11;simp only at O;subst O;exact QuH n1 h h11.1
 unfold Vc;refine T1 (λ_=>T2 λh=>by cases h) λhx=>?_;have hfin:=h12 hx;refine T6 (P:=λ_=>True) ?_ λ_ _ _=>hfin;refine T0 (Qg.up n1.Tasks.length (λst=>st.2) (λ_=>True) (Q:=λ_=>True) rfl trivial (λi st hi hn _=>?_)) (λq _=>T3);obtain⟨a,x⟩:=st;replace hi:x=(i:Int):=hi;show Qg (Vb n1 a x) _;unfold Vb;refine T1 (λhc=>?_) (λ_=>T2 (Qn trivial));simp only[Qx]at hc;refine T0 (T4 (by omega) (by omega)) λe _=>?_;refine T0 (Qd6 n1 x h) λy _=>?_;exact T2 (QG ⟨by omega,by subst hi;exact Qj (by omega) h.2.2.1.1,trivial⟩)
def Qpr (s:Jd)(m:Int)(h:0<=s.k/\s.k<s.sizes.length):Qg (KC s m) λr=>r=true->0<=m:=by
 unfold KC;refine T0 (P:=λr=>r=true->0<=m) ?_ λx hx=>T2 hx;unfold Eu;refine T1 (λO=>?_) λ_=>T2 λh=>by cases h
 exact T0 (T4 h.1 h.2) λ_ _=>T2 λ_=>by simpa using O
def Hy (s:Jd)(h:0<=s.k/\s.k<s.all.length):Qg (JZ s) λ_=>True:=by
 unfold JZ;exact T0 (T4 h.1 h.2) λ_ _=>T3
def Qv8 (l:L_ QD)(k m:Int)(hl:QP Jg l):Qg (DC l k m) λ_=>True:=by
 unfold DC;refine T0 (Lr l k hl) λx hx=>?_;refine T0 (P:=λr=>r=false->x.1=true) ?_ λr hr=>?_
 ·unfold Cx;refine T1 (λ_=>T2 λh=>by cases h) λO=>?_;have O:x.1=true:=by simpa using O
  have h:=hx.2 O;exact T0 (Qpr x.2 m (by omega)) λ_ _=>T2 λ_=>O
 unfold Cy;refine T1 (λ_=>T3) λO=>?_;have h:=hx.2 (hr O);refine T0 (Hy x.2 (by omega)) λ_ _=>?_;refine T1 (λ_=>?_) λ_=>T3;exact T0 (Hy x.2 (by omega)) λ_ _=>T3
def Qra (l:L_ QD)(k n:Int)(hl:QP Jg l):Qg (DD l k n) λr=>r.2=true->0<=r.1:=by
 unfold DD;refine T0 (Lr l k hl) λx hx=>?_;refine T1 (λ_=>T2 λh=>by cases h) λO=>?_;have h:=hx.2 (by simpa using O);have k1:∀m,Qg (Kx x m) λr=>r.2=true->0<=r.1:=λm=>by
  unfold Kx;refine T0 (Qpr x.2 m (by omega)) λy hy=>?_;exact T1 (λ_=>T2 λh=>by cases h) λO=>T2 λ_=>hy (by simpa using O)
 refine T0 (Hy x.2 (by omega)) λ_ _=>?_;refine T1 (λ_=>?_) λ_=>k1 _;exact T1 (λ_=>T2 λh=>by cases h) λ_=>k1 _
def QuI (l:L_ QD)(k n:Int)(hl:QP Jg l):Qg (DD l k n) λr=>r.2=true->∃z,YK l k=C z/\r.1<z:=by
 unfold DD YK;refine T0 (Lr l k hl).self λx hx=>?_;obtain⟨hxe,hx⟩:=hx;refine T1 (λ_=>T2 λh=>by cases h) λhc=>?_;have h:=hx.2 (by simpa using hc);have hk:k.toNat<x.2.sizes.length:=by omega
 have ei:idx x.2.sizes k=C x.2.sizes[k.toNat]:=PT h.1.1 h.1.2;have k1:∀m,Qg (Kx x m) λr=>r.2=true->∃z,((DO l k).bind λx5=>bif (!x5.1)then C 0 else(idx x5.2.sizes k).bind λe7=>C e7)=C z/\r.1<z:=λm=>by
  unfold Kx;refine T0 (P:=λy=>y=true->m<x.2.sizes[k.toNat]) ?_ λy hy=>?_
  ·unfold KC;refine T0 (P:=λy=>y=true->m<x.2.sizes[k.toNat]) ?_ λy hy=>T2 hy;unfold Eu;refine T1 (λ_=>?_) λ_=>T2 λh=>by cases h
   rw[h.2.1,ei,Qa];exact T2 λh=>by simpa using h
  refine T1 (λ_=>T2 λh=>by cases h) λO=>T2 λ_=>⟨x.2.sizes[k.toNat],?_,hy (by simpa using O)⟩;rw[hxe,Qa,hc,Qi,ei];rfl
 refine T0 (Hy x.2 (by omega)) λ_ _=>?_;refine T1 (λ_=>?_) λ_=>k1 _;exact T1 (λ_=>T2 λh=>by cases h) λ_=>k1 _
def EU {α:Type}{o:O_ α}{P:α->Prop}(h:Qg o P){r:α}(e:o=C r):P r:=by
 obtain⟨r',O,h2⟩:=h;rw[e]at O;cases O;exact h2
def Qrb : ∀(n:Nat) (v:LI_) (e:Qm),POk v.length e->SizeOf.sizeOf e<=n->Qg (XG n v e) λ_=>True
 | 0,_,e,_,h=>absurd e.pos (by omega)
 | n+1,v,e,he,h=>by
  cases he with
  | mk _ O h2 h3 h5 h6 hr=>
  unfold XG Ai;have sub:∀(j:Nat) (hj:j<e.Kids.length),Qg (XG n v (e.Kids[j])) λ_=>True:=λj hj=>
   Qrb n v _ (hr _ (Xn hj)) (by have:=Qak (Xn hj);omega)
  have kid:∀(j:Nat) (hj:j<e.Kids.length),idx e.Kids (j:Int)=C e.Kids[j]:=λj hj=>by rw[Qs,Qp hj]
  rcases O with O | O | O | O | O | O
  ·refine T0 (P:=λx=>x=.inl v) (by unfold Wk;rw[O];exact T2 rfl) λx hx=>?_;subst hx;exact T3
  ·refine T0 (P:=λx=>x=.inr (.inl v)) (by unfold Wk;rw[O];exact T2 rfl) λx hx=>?_;subst hx;show Qg (Ur e v) _;unfold Ur BB;have:=h2 O;exact T0 (T0 (T4 (by omega) (by omega)) λ_ _=>T3) λ_ _=>T3
  ·refine T0 (P:=λx=>x=.inr (.inr (.inl v))) (by unfold Wk Kw;rw[O];exact T2 rfl) λx hx=>?_;subst hx;show Qg (WL (XG n) e v) _;unfold WL Ah;have hl:=h3 (.inl O);refine T0 (P:=λ_=>True) ?_ λ_ _=>T3;rw[show idx e.Kids 0=C (e.Kids[0]'(by omega))from kid 0 (by omega),Qa];refine T0 (sub 0 (by omega)) λx _=>?_;refine T1 (λ_=>T3) λ_=>T1 (λ_=>T0 (Qin _) λ_ _=>T3) λ_=>T0 (Ft _ _ _) λ_ _=>T3
  ·refine T0 (P:=λx=>x=.inr (.inr (.inl v))) (by unfold Wk Kw;rw[O];exact T2 rfl) λx hx=>?_;subst hx;show Qg (WL (XG n) e v) _;unfold WL Ah;have hl:=h3 (.inr O);refine T0 (P:=λ_=>True) ?_ λ_ _=>T3;rw[show idx e.Kids 0=C (e.Kids[0]'(by omega))from kid 0 (by omega),Qa];refine T0 (sub 0 (by omega)) λx _=>?_;refine T1 (λ_=>T3) λ_=>T1 (λ_=>T0 (Qin _) λ_ _=>T3) λ_=>T0 (Ft _ _ _) λ_ _=>T3
  ·refine T0 (P:=λx=>x=.inr (.inr (.inr (.inl v)))) (by unfold Wk Kw;rw[O];exact T2 rfl) λx hx=>?_;subst hx;show Qg (Us (XG n) e v) _;unfold Us NV;have hl:=h5 O;refine T0 (P:=λ_=>True) ?_ λ_ _=>T3;rw[show idx e.Kids 0=C (e.Kids[0]'(by omega))from kid 0 (by omega),Qa];refine T0 (sub 0 (by omega)) λx _=>?_;have k1:∀b,Qg (Dv x e (XG n) v b) λ_=>True:=λb=>by
    unfold Dv;refine T1 (λ_=>T0 (Ft _ _ _) λ_ _=>T3) λ_=>?_;rw[show idx e.Kids 1=C (e.Kids[1]'(by omega))from kid 1 (by omega),Qa];refine T0 (sub 1 (by omega)) λy _=>?_;exact T1 (λ_=>T3) λ_=>T0 (Ft _ _ _) λ_ _=>T3
   exact T1 (λ_=>T3) λ_=>T1 (λ_=>k1 _) λ_=>T1 (λ_=>k1 _) λ_=>k1 _
  refine T0 (P:=λx=>x=.inr (.inr (.inr (.inr v)))) (by unfold Wk Kw;rw[O];exact T2 rfl) λx hx=>?_;subst hx;show Qg (Ut (XG n) e v) _;unfold Ut FE;have hl:=h6 O;refine T0 (P:=λ_=>True) ?_ λ_ _=>T3;rw[show idx e.Kids 0=C (e.Kids[0]'(by omega))from kid 0 (by omega),Qa];refine T0 (sub 0 (by omega)) λx _=>?_;refine T1 (λ_=>T3) λ_=>T1 (λ_=>?_) λ_=>?_
  ·rw[show idx e.Kids 1=C (e.Kids[1]'(by omega))from kid 1 (by omega),Qa];exact T0 (sub 1 (by omega)) λy _=>T3
  rw[show idx e.Kids 2=C (e.Kids[2]'(by omega))from kid 2 (by omega),Qa];exact T0 (sub 2 (by omega)) λy _=>T3
def QuJ (e:Qm)(v:LI_)(h:WA e):Qg (Fj e v) λ_=>True:=by
 unfold Fj;refine T0 (OR e v.length h) λx hx=>?_;refine T1 (λ_=>T3) λO=>?_;unfold Mb;exact T0 (Qrb _ v e (hx (by simpa using O)) (Yx _)) λ_ _=>T3
def Qtf (n:Qd)(O:Int)(vars:LI_)(h:QT n):Qg (Ga n O vars) λr=>r.2=0->0<=O/\O<n.Tasks.length:=by
 unfold Ga;refine T1 (λ_=>T2 λh=>by cases h) λhc=>?_;simp only[JT,QS]at hc;refine T0 (T4 (by omega) (by omega)) λe he=>?_;have hv:=(h.tk e he).1;have ke:=h.k.2.2.1.2 e he;refine T1 (λ_=>T2 λh=>by cases h) λhl=>?_;simp only[DK]at hl;refine T0 (T5 (by simp only[QJ,Qx];omega)) λ_ _=>?_;refine T6 (P:=λ_=>True) ?_ λ_ _ _=>by omega
 refine T0 (Qg.up e.Vars.length (λst=>st.1) (λst=>st.2.length=e.Vars.length) (Q:=λ_=>True) rfl (by simp) (λi st hi hn hJ=>?_)) (λq _=>?_)
 ·obtain⟨x,l⟩:=st;replace hi:x=(i:Int):=hi;replace hJ:l.length=e.Vars.length:=hJ;show Qg (DZ e vars n x l) _;unfold DZ;refine T1 (λhc=>?_) (λ_=>T2 (Qn trivial));simp only[Qx]at hc;refine T0 (T4 (by omega) (by omega)) λa _=>?_;refine T0 (T4 (by omega) (by omega)) λb _=>?_;refine T0 (Qv8 _ _ _ h.k.1) λc _=>?_;refine T1 (λ_=>T2 (Qn trivial)) λ_=>?_;refine T0 (T4 (by omega) (by omega)) λd _=>?_;exact T2 (QG ⟨by omega,by subst hi;exact Qj (by omega) (by unfold maxLen;omega:e.Vars.length<=maxLen),by simpa using hJ⟩)
 rcases q with q | q
 ·exact T3
 exact T3
def Zl {α:Type}{l:L_ α}{i:Nat}{x y:α}(h:y∈l.set i x):y=x\/y∈l:=by
 rcases List.mem_or_eq_of_mem_set h with h | h
 ·exact .inr h
 exact .inl h
def SJ (n:Qd)(l:L_ XT)(O env:LI_)(h:QT n)(hl:QP Lp l)(hw:O.length<=1000):Qg (Yp n l O env) λr=>r.2=0->Kr n O.length r.1/\MN n r.1:=by
 unfold Yp;have hpl:=h.pl;refine T0 (T5 (by simp only[QJ,Qx];omega)) λ_ _=>?_;refine T0 (Qg.up O.length (λst=>st.1) (λst=>(st.2.length=n.Places.length/\∀b∈st.2,Rt b/\(b.length:Int)<=st.1)/\MN n st.2) (Q:=λq=>(∀x,q=.inl x->x≠0)/\∀m,q=.inr m->Kr n O.length m/\MN n m) rfl ⟨⟨by simp,λb hb=>?_⟩,λj b p hb hp k hk=>?_⟩ (λi st hi hn hJ=>?_)) (λq hq=>?_)
 ·have:=Zu hb;subst this;exact⟨Rt.nil,by simp⟩
 ·have:=Zu (Xt hb);subst this;simp[QH,Qr]at hk
 ·obtain⟨x,m⟩:=st;replace hi:x=(i:Int):=hi;obtain⟨⟨hJ1,hJ2⟩,hJ3⟩:(m.length=n.Places.length/\∀b∈m,Rt b/\(b.length:Int)<=x)/\MN n m:=hJ;have err:∀y:Int,y≠0->(∀s',(Sum.inr (Sum.inl y):(Int×L_ QBg)⊕(Int⊕L_ QBg))=.inl s'->i<O.length/\s'.1=((i+1:Nat):Int)/\(s'.2.length=n.Places.length/\∀b∈s'.2,Rt b/\(b.length:Int)<=s'.1)/\MN n s'.2)/\∀r,(Sum.inr (Sum.inl y):(Int×L_ QBg)⊕(Int⊕L_ QBg))=.inr r->(∀x,r=.inl x->x≠0)/\∀m,r=.inr m->Kr n O.length m/\MN n m:=
   λy hy=>⟨λs' e=>(by cases e),λr e=>(by cases e;exact⟨λx e=>(by cases e;exact hy),λm e=>(by cases e)⟩)⟩
  show Qg (WM O l env n x m) _;unfold WM;refine T1 (λhc=>?_) (λhc=>T2 (Qn ⟨λx e=>(by cases e),λm' e=>?_⟩))
  ·simp only[Qx]at hc;refine T0 (T4 (by omega) (by omega)) λe18 _=>?_;refine T1 (λ_=>T2 (err _ (by decide))) λhc1=>?_;simp only[JT,QS]at hc1;refine T0 (T4 (by omega) (by omega)) λe22 h22=>?_;refine T0 (QuJ e22.Expr env (hl.2 e22 h22).2) λx23 _=>?_;refine T1 (λhc2=>T2 (err _ (by simpa using hc2))) λ_=>?_;refine T0 (T4 (by omega) (by omega)) λe25 _=>?_;refine T1 (λ_=>T2 (err _ (by decide))) λhc3=>?_;simp only[JT,QS]at hc3;refine T0 (T4 (by omega) (by omega)).self λe29 h29=>?_;refine T0 (Qra _ _ _ h.k.1).self λx30 h30=>?_;refine T1 (λ_=>T2 (err _ (by decide))) λhc4=>?_;have hz:=EU (QuI _ _ _ h.k.1) h30.1 (by simpa using hc4);have h30:=h30.2 (by simpa using hc4);refine T0 (T4 (by omega) (by omega)).self λe32 h32e=>?_;have h32:=h32e.2;have h32e:=h32e.1;have h29:=h29.1;rw[Vz,Qt h30];simp only[Ql,Qa];have hb:=hJ2 e32 h32;have key:∃s,Jt e32 [(x30.1,1)]=C s/\(s.2=0->(Rt s.1/\s.1.length<=e32.length+1)/\∀k,QH s.1 k=QH e32 k+QH [(x30.1,1)] k):=by
    rcases UA e32 [(x30.1,1)] (by simp;omega)with⟨_,e⟩|⟨_,_,_,e⟩|⟨_,_,r,e,h1,hcn,h2⟩
    ·exact⟨_,e,λh=>by cases h⟩
    ·exact⟨_,e,λh=>by cases h⟩
    exact⟨_,e,λ_=>⟨⟨h1,by simpa using h2⟩,hcn⟩⟩
   obtain⟨s,es,hs⟩:=key;rw[es,Qa];refine T0 (T4 (by omega) (by omega)) λ_ _=>?_;refine T1 (λhc5=>T2 (err _ (by simpa using hc5))) λhc5=>?_;obtain⟨hs,hcn⟩:=hs (by simpa using hc5);refine T2 (QG ⟨by omega,by subst hi;exact Qj (by omega) (by unfold maxLen;omega:O.length<=maxLen),⟨by simpa using hJ1,λb hb'=>?_⟩,λj b p hb' hp k hk=>?_⟩)
   ·subst hi;show Rt b/\(b.length:Int)<=Qe ((i:Int)+1);rw[Qj (by omega) (by unfold maxLen;omega:O.length<=maxLen)];rcases Zl hb' with rfl | hb'
    ·exact⟨hs.1,by omega⟩
    have:=hJ2 b hb';exact⟨this.1,by omega⟩
   have hb':(m.set e25.Place.toNat s.1)[j]? = C b:=hb';by_cases cj:e25.Place.toNat=j
   ·subst cj;rw[Zw (by omega)]at hb';cases hb';rw[YI (by omega)]at h29 h32e;rw[h29]at hp;cases hp;rw[hcn]at hk;by_cases c0:0<QH e32 k
    ·exact hJ3 _ e32 e29 h32e h29 k c0
    have h9:0<QH [(x30.1,1)] k:=by omega
    have h8:x30.1=k:=by
     apply Decidable.byContradiction;intro hne;simp[QH,Qr,hne]at h9
    obtain⟨z,hz1,hz2⟩:=hz;exact⟨z,hz1,by omega⟩
   rw[ND cj]at hb';exact hJ3 j b p hb' hp k hk
  cases e;exact⟨⟨hJ1,λb hb=>⟨(hJ2 b hb).1,by have:=(hJ2 b hb).2;omega⟩⟩,hJ3⟩
 rcases q with q | q
 ·exact T2 λh=>absurd h (hq.1 q rfl)
 exact T2 λ_=>hq.2 q rfl
def QlQ (a m:L_ QBg)(O:QP (QP λ_=>True) a)(hm:QP (QP λ_=>True) m):Qg (UZ a m) λ_=>True:=by
 unfold UZ Ya;refine T0 (P:=λ_=>True) ?_ λ_ _=>T3;refine T1 (λ_=>T3) λh=>?_;simp only[DK]at h;refine T0 (Qg.up a.length (λst=>st) (λ_=>True) (Q:=λ_=>True) rfl trivial (λi st hi hn hJ=>?_)) (λq _=>?_)
 ·show Qg (Xi a m st) _;unfold Xi;refine T1 (λh=>?_) (λ_=>T2 (Qn trivial));simp only[Qx]at h;refine T0 (T4 (by omega) (by omega)) λx hx=>?_;refine T0 (T4 (by omega) (by omega)) λy hy=>?_;refine T0 (P:=λ_=>True) (by obtain⟨r,hr,_⟩:=Fb x y (O.2 x hx).1 (hm.2 y hy).1;exact⟨r,hr,trivial⟩) λ_ _=>?_;exact T1 (λ_=>T2 (Qn trivial)) λ_=>T2 (QG ⟨by omega,by rw[hi];exact Qj (by omega) O.1,trivial⟩)
 rcases q with q | q
 ·exact T3
 exact T3
def Kr.len {c:Nat}(h:Kr n c m)(hn:QT n)(hc:c<=1000000):QP (QP λ_=>True) m:=
 ⟨by have:=h.1;have:=hn.pl;unfold maxLen;omega,λb O=>⟨by have:=(h.2 b O).2;unfold maxLen;omega,λ_ _=>trivial⟩⟩
structure BOk (n:Qd) (m:List QBg) (b:Xl):Prop where
 net:b.net=n
 mm:b.m=m
 task:b.task∈n.Tasks
def Qsq (n:Qd)(m:L_ QBg)(O:Int)(vars:LI_)(h:QT n):Qg (YZ n m O vars) λr=>r.1=0->BOk n m r.2:=by
 unfold YZ;refine T0 (Qtf n O vars h) λx hx=>?_;refine T1 (λhc=>T2 λh=>absurd h (by simpa using hc)) λhc=>?_;have:=hx (by simpa using hc);exact T0 (T4 this.1 this.2) λe he=>T2 λ_=>⟨rfl,rfl,he⟩
def Qps (n:Qd)(m:L_ QBg)(b:Xl)(h:QT n)(O:BOk n m b):Qg (XC b) λ_=>True:=by
 unfold XC;refine T0 (QuJ _ _ (h.k.2.2.1.2 _ O.task).2.2.1) λx _=>?_;exact T1 (λ_=>T3) λ_=>T1 (λ_=>T3) λ_=>T3
def Qo1 (n:Qd)(m:L_ QBg)(b:Xl)(outs:LI_)(h:QT n)(O:BOk n m b)(ho:outs.length<=1000):Qg (Yi b outs) λ_=>True:=by
 unfold Yi;rw[O.net];exact T0 (SJ n _ outs _ h (h.k.2.2.1.2 _ O.task).2.2.2.2.2.2.1 ho) λx _=>T3
def Qtg (l:LI_)(x:Int)(h:l.length<=maxLen):Qg (XW l x) λ_=>True:=HJ l x ⟨h,λ_ _=>trivial⟩
def SV (l:LI_)(h:l.length<=4294967296):Je l=C l:=by
 unfold Je;rw[YR (by simp;omega)];rfl
def Qgo (l:LI_)(h:l.length<=4294967296):YS l=C (Kq l):=by
 unfold YS;rw[YR (by omega)];rfl
def Qsr (n:Qd)(m:L_ QBg)(b:Xl)(O:LI_)(h:QT n)(hb:BOk n m b)(hm:QP (QP λ_=>True) m)(hi:O.length<=100):Qg (Xx b O) λ_=>True:=by
 have ki:=(h.k.2.2.1.2 _ hb.task).2.2.2.2.2.1;have kl:=(h.tk _ hb.task).2.1;unfold Xx;rw[hb.net,hb.mm];refine T0 (SJ n _ O _ h ki (by omega)) λx hx=>?_;refine T1 (λ_=>T3) λhc=>?_;have hx:=hx (by simpa using hc);refine T0 (QlQ _ _ (hx.1.len h (by omega)) hm) λy _=>?_;refine T1 (λ_=>T3) λ_=>T1 (λ_=>T3) λ_=>?_;refine T0 (Qg.up b.task.Ins.length (λst=>st) (λ_=>True) (Q:=λ_=>True) rfl trivial (λi st hi hn _=>?_)) (λq _=>?_)
 ·show Qg (Yu b O st) _;unfold Yu;refine T1 (λhc=>?_) (λ_=>T2 (Qn trivial));simp only[Qx]at hc;have step:Qg (Wd st) λo=>(∀s',o=.inl s'->i<b.task.Ins.length/\s'=((i+1:Nat):Int)/\True)/\∀r:Unit⊕Unit,o=.inr r->True:=
   T2 (QG (ix:=λst=>st) (J:=λ_=>True) (Q:=λ_=>True) ⟨by omega,by rw[hi];exact Qj (by omega) ki.1,trivial⟩)
  refine T0 (Qtg O st (by unfold maxLen;omega)) λz _=>?_;refine T1 (λ_=>step) λ_=>?_;rw[SV O (by omega),Qa];refine T0 (T5 (by simp;omega)) λ_ _=>?_;rw[Qgo _ (by simp;omega),Qa];refine T0 (T5 (by simp[WJ])) λ_ _=>?_;rw[hb.net];refine T0 (SJ n _ _ _ h ki (by rw[WJ];simp;omega)) λu hu=>?_;refine T0 (P:=λ_=>True) ?_ λv _=>?_
  ·unfold Fm;rw[hb.mm];refine T1 (λhc2=>?_) λ_=>T3;have hu:=hu (by simpa using hc2);refine T0 (QlQ _ _ (hu.1.len h (by rw[WJ];simp;omega)) hm) λ_ _=>T3
  unfold Fo;exact T1 (λ_=>T2 (Qn trivial)) λ_=>step
 rcases q with q | q
 ·exact T3
 exact T3
def Nx (r:L_ LI_):Prop:=r.length<=16/\∀row∈r,row.length<=16
def chB (o:O_ QLL):Bool:=match o with
 | some r=>decide (r.length<=16)&&r.all λrow=>decide (row.length<=16)
 | none=>false
def Qrc {o:O_ QLL}(h:chB o=true):Qg o Nx:=by
 cases o with
 | none=>cases h
 | some r=>
  simp only[chB,QJ,Qx,XJ]at h;exact T2 h
def near {h:Int}(O:¬h<0)(h1:¬16<h):h=0\/h=1\/h=2\/h=3\/h=4\/h=5\/h=6\/h=7\/h=8\/h=9\/h=10\/h=11\/h=12\/h=13\/h=14\/h=15\/h=16:=by omega
set_option maxRecDepth 100000 in
def Qd9 (kind O:Int):Qg (YT kind O) Nx:=by
 by_cases hg:((decide (O<0))||((decide (16<O))||((kind==3)&&(decide (4<O)))))=true
 ·unfold YT;rw[hg];exact T2 ⟨by simp,λr h=>by cases h⟩
 simp only[KW,QJ,Qx,beq_iff_eq,not_or,not_and]at hg;obtain⟨h0,h1,h2⟩:=hg;by_cases e1:kind=1
 ·subst e1;rcases near h0 h1 with rfl | rfl | rfl | rfl | rfl | rfl | rfl | rfl | rfl | rfl | rfl | rfl | rfl | rfl | rfl | rfl | rfl<;>exact Qrc (by kernel_rfl)
 by_cases e2:kind=2
 ·subst e2;rcases near h0 h1 with rfl | rfl | rfl | rfl | rfl | rfl | rfl | rfl | rfl | rfl | rfl | rfl | rfl | rfl | rfl | rfl | rfl<;>exact Qrc (by kernel_rfl)
 by_cases e3:kind=3
 ·subst e3;have h3:=h2 rfl;have:O=0\/O=1\/O=2\/O=3\/O=4:=by omega
  rcases this with rfl | rfl | rfl | rfl | rfl<;>exact Qrc (by kernel_rfl)
 have f1:(kind==1)=false:=by simpa using e1
 have f2:(kind==2)=false:=by simpa using e2
 have f3:(kind==3)=false:=by simpa using e3
 unfold YT Ag;rw[f1,f2,f3];exact T1 (λ_=>T2 ⟨by simp,λr h=>by cases h⟩) λ_=>T2 ⟨by simp,λr h=>by cases h⟩
def Qxe (a b:LI_)(O:a.length<=maxLen):Qg (JQ a b) λ_=>True:=by
 unfold JQ;refine T1 (λ_=>T3) λh=>?_;simp only[DK]at h;refine T0 (Qg.up a.length (λst=>st) (λ_=>True) (Q:=λ_=>True) rfl trivial (λi st hi hn hJ=>?_)) (λq _=>?_)
 ·show Qg (Wn a b st) _;unfold Wn;refine T1 (λh=>?_) (λ_=>T2 (Qn trivial));simp only[Qx]at h;refine T0 (T4 (by omega) (by omega)) λx hx=>?_;refine T0 (T4 (by omega) (by omega)) λy hy=>?_;exact T1 (λ_=>T2 (Qn trivial)) λ_=>T2 (QG ⟨by omega,by rw[hi];exact Qj (by omega) O,trivial⟩)
 rcases q with q | q
 ·exact T3
 exact T3
def Qrd (O h:Int)(row:LI_):Qg (Eh O h row) λ_=>True:=by
 unfold Eh WD WC;refine T0 (Qd9 O h) λx hx=>?_;refine T0 (P:=λ_=>True) ?_ λ_ _=>T3;refine T0 (P:=λ_=>True) ?_ λ_ _=>T3;have hl:=hx.1;refine T0 (Qg.up x.length (λst=>st) (λ_=>True) (Q:=λ_=>True) rfl trivial (λi st hi hn hJ=>?_)) (λq _=>?_)
 ·show Qg (YH x row st) _;unfold YH Mc;refine T1 (λhc=>?_) (λ_=>T2 (Qn trivial));simp only[Qx]at hc;refine T0 (T4 (by omega) (by omega)) λe he=>?_;have:=hx.2 e he;refine T0 (T0 (Qxe e row (by unfold maxLen;omega)) λ_ _=>T3) λ_ _=>?_;exact T1 (λ_=>T2 (Qn trivial)) λ_=>T2 (QG ⟨by omega,by rw[hi];exact Qj (by omega) (by unfold maxLen;omega:x.length<=maxLen),trivial⟩)
 rcases q with q | q
 ·exact T3
 exact T3
def Yf (n:Qd)(o:Qc):Prop:=o.Vars.length<=20/\o.Ins.length<=20/\o.Outs.length<=20
def Qfq (n:Qd)(m:L_ QBg)(o:Qc)(h:QT n)(hm:QP (QP λ_=>True) m)(ho:Yf n o):Qg (YD n m o) λ_=>True:=by
 unfold YD;refine T0 (Qsq n m o.Task o.Vars h) λx hx=>?_;have k3:∀e,(e=0->x.1=0)->Qg (JK x o e) λ_=>True:=λe he=>by
  unfold JK;refine T1 (λ_=>T3) λO=>?_;have hb:=hx (he (by simpa using O));refine T0 (P:=λ_=>True) ?_ λy _=>?_
  ·unfold CA;refine T0 (Qrd _ _ _) λz _=>?_;exact T1 (λ_=>T3) λ_=>T0 (Qrd _ _ _) λ_ _=>T3
  unfold CB;refine T1 (λ_=>T3) λ_=>?_;refine T0 (Qsr n m x.2 o.Ins h hb hm (by have:=ho.2.1;omega)) λz _=>?_;refine T1 (λ_=>T3) λ_=>?_;exact T0 (Qo1 n m x.2 o.Outs h hb (by have:=ho.2.2;omega)) λ_ _=>T3
 refine T1 (λO=>?_) λO=>k3 _ λh=>h;have O:x.1=0:=by simpa using O
 exact T0 (Qps n m x.2 h (hx O)) λe _=>k3 e λ_=>O
def Qo2 (n:Qd)(o:Qc)(h:QT n)(ho:Yf n o):Qg (DT n o) λr=>r.2=0->Kr n 20 r.1/\MN n r.1:=by
 unfold DT;refine T0 (Qtf n o.Task o.Vars h) λx hx=>?_;refine T1 (λO=>T2 λh=>absurd h (by simpa using O)) λO=>?_;have:=hx (by simpa using O);refine T0 (T4 this.1 this.2) λe he=>?_;have hl:=ho.2.1;exact T0 (SJ n _ _ _ h (h.k.2.2.1.2 _ he).2.2.2.2.2.1 (by omega)) λy hy=>T2 λh0=>⟨(hy h0).1.mono hl,(hy h0).2⟩
def Qo3 (n:Qd)(o:Qc)(h:QT n)(ho:Yf n o):Qg (Nl n o) λr=>r.2=0->(Kr n 20 r.1/\MN n r.1)/\0<=o.Task/\o.Task<n.Tasks.length:=by
 unfold Nl;refine T0 (Qtf n o.Task o.Vars h) λx hx=>?_;refine T1 (λO=>T2 λh=>absurd h (by simpa using O)) λO=>?_;have:=hx (by simpa using O);refine T0 (T4 this.1 this.2) λe he=>?_;have hl:=ho.2.2;exact T0 (SJ n _ _ _ h (h.k.2.2.1.2 _ he).2.2.2.2.2.2.1 (by omega)) λy hy=>T2 λh0=>⟨⟨(hy h0).1.mono hl,(hy h0).2⟩,this⟩
def Qpt {σ ρ:Type}{body:σ->O_ (σ⊕ρ)}(mu:σ->Nat)(J:σ->Prop){Q:ρ->Prop}{s0:σ}(hJ:J s0)
  (O:∀s,J s->Qg (body s) λo=>(∀h,o=.inl h->mu h<mu s/\J h)/\∀r,o=.inr r->Q r):Qg (Qh body s0) Q:=by
 have key:∀k s,mu s<=k->J s->Qg (Qh body s) Q:=by
  intro k
  induction k with
  | zero=>
   intro s hk hj;obtain⟨o,ho,h1,h2⟩:=O s hj;cases o with
   | inl h=>have:=(h1 h rfl).1;omega
   | inr r=>exact⟨r,by rw[Yl,ho];rfl,h2 r rfl⟩
  | succ k ih=>
   intro s hk hj;obtain⟨o,ho,h1,h2⟩:=O s hj;cases o with
   | inl h=>
    obtain⟨h3,h4⟩:=h1 h rfl;obtain⟨r,h5,h6⟩:=ih h (by omega) h4;exact⟨r,by rw[Yl,ho];exact h5,h6⟩
   | inr r=>exact⟨r,by rw[Yl,ho];rfl,h2 r rfl⟩
 exact key _ s0 (Yx _) hJ
def QlR {l:LI_}{k:Nat}(h:k<l.length)(Z:LI_)(x:Int):(l.take (k+1)++Z).set k x=l.take k++x::Z:=by
 have e:l.take (k+1)=l.take k++[l[k]]:=by rw[UF,Qp h];rfl
 rw[e,Dz,List.set_append,if_neg (by simp;omega)];have:k-(l.take k).length=0:=by simp;omega
 rw[this];rfl
end Go.Proofs
