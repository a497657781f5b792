/- A part of the proof. -/
import Derived.Test.YthihjgnmfnohoaaGreatDoorR1XPlA
import Derived.Test.YthihjgnmfnohoaaGreatDoorR1V3
import Derived.Test.YthihjgnmfnohoaaGreatDoorR1T2
import Derived.KernelRfl
set_option linter.all false
namespace Go.Vm
open Go Go.RowKit
open Option renaming some→C
def Qk {α:Type}(o:O_ α)(Q:α->Prop):Prop:=∃r,o=C r/\Q r
abbrev Xi {α:Type}(o:O_ α):Prop:=Qk o λ_=>True
section
variable {α β σ ρ:Type}
def Qk.ok {a:α}{Q:α->Prop}(h:Q a):Qk (C a) Q:=⟨a,rfl,h⟩
def Qk.okT {a:α}:Qk (C a) λ_=>True:=⟨a,rfl,trivial⟩
def Qk.bind {o:O_ α}{f:α->O_ β}{P:α->Prop}{Q:β->Prop}(h:Qk o P)(k:∀x,P x->Qk (f x) Q):Qk (o.bind f) Q:=by
 obtain⟨x,rfl,O⟩:=h;exact k x O
def Qk.bif {c:Bool}{a b:O_ α}{Q:α->Prop}(h:c=true->Qk a Q)(O:c=false->Qk b Q):Qk (bif c then a else b) Q:=by
 cases c with
 | true=>exact h rfl
 | false=>exact O rfl
def Qk.chk {c:Bool}(h:c=true):Qk (chk c) λ_=>True:=⟨(),Am h,trivial⟩
def Qk.idx {l:L_ α}{j:Int}(h:0<=j)(O:j<l.length):Qk (idx l j) λx=>x∈l:=by
 rw[So h O];exact⟨_,rfl,Xs _⟩
def Qk.get {l:L_ α}{j:Nat}(h:j<l.length):Qk (l[j]?) λx=>x∈l:=by
 rw[QN h];exact⟨_,rfl,Xs _⟩
def Qk.sidx {s:ByteArray}{j:Int}(h:0<=j)(O:j<s.size):Qk (sidx s j) λ_=>True:=by
 unfold Vm.sidx;rw[if_pos h];have:j.toNat<s.size:=by omega
 rw[getElem?_pos s j.toNat this];exact⟨_,rfl,trivial⟩
def Qk.mono {o:O_ α}{P Q:α->Prop}(h:Qk o P)(k:∀x,P x->Q x):Qk o Q:=let ⟨r,h1,h2⟩:=h;⟨r,h1,k r h2⟩
def Qk.tot {o:O_ α}{P:α->Prop}(h:Qk o P):∃r,o=C r:=let ⟨r,h1,_⟩:=h;⟨r,h1⟩
def Qk.self {o:O_ α}{P:α->Prop}(h:Qk o P):Qk o λx=>o=C x/\P x:=let ⟨r,h1,h2⟩:=h;⟨r,h1,h1,h2⟩
def Qk.up {body:σ->O_ (σ⊕ρ)}(n:Nat)(ix:σ->Int)(J:σ->Prop){Q:ρ->Prop}{s0:σ}(h0:ix s0=0)(hJ:J s0)
  (O:∀(i:Nat) s,ix s=(i:Int)->i<=n->J s->Qk (body s) λo=>(∀h,o=.inl h->i<n/\ix h=((i+1:Nat):Int)/\J h)/\∀r,o=.inr r->Q r):Qk (Qt body s0) Q:=by
 have key:∀k i s,i+k=n->ix s=(i:Int)->J s->∃r,Qt body s=C r/\Q r:=by
  intro k
  induction k with
  | zero=>
   intro i s hk hi hj;obtain⟨o,ho,h1,h2⟩:=O i s hi (by omega) hj;rw[Yn,ho];cases o with
   | inl h=>have:=(h1 h rfl).1;omega
   | inr r=>exact⟨r,rfl,h2 r rfl⟩
  | succ k ih=>
   intro i s hk hi hj;obtain⟨o,ho,h1,h2⟩:=O i s hi (by omega) hj;rw[Yn,ho];cases o with
   | inl h=>
    obtain⟨_,h3,h4⟩:=h1 h rfl;exact ih (i+1) h (by omega) h3 h4
   | inr r=>exact⟨r,rfl,h2 r rfl⟩
 exact key n 0 s0 (by omega) h0 hJ
def QV {s:σ}{n i:Nat}{ix:σ->Int}{J:σ->Prop}{Q:ρ->Prop}(h:i<n/\ix s=((i+1:Nat):Int)/\J s):
  (∀O,(Sum.inl s:σ⊕ρ)=.inl O->i<n/\ix O=((i+1:Nat):Int)/\J O)/\∀r,(Sum.inl s:σ⊕ρ)=.inr r->Q r:=
 ⟨λO e=>(by cases e;exact h),λr e=>(by cases e)⟩
def Qv {r:ρ}{n i:Nat}{ix:σ->Int}{J:σ->Prop}{Q:ρ->Prop}(h:Q r):
  (∀O,(Sum.inr r:σ⊕ρ)=.inl O->i<n/\ix O=((i+1:Nat):Int)/\J O)/\∀r',(Sum.inr r:σ⊕ρ)=.inr r'->Q r':=
 ⟨λO e=>(by cases e),λr' e=>(by cases e;exact h)⟩
end
def QX {α:Type}(ok:α->Prop)(l:L_ α):Prop:=l.length<=maxLen/\∀x∈l,ok x
def QX.drop {α:Type}{ok:α->Prop}{l:L_ α}(h:QX ok l)(k:Nat):QX ok (l.drop k):=⟨by have:=h.1;rw[La];omega,λx O=>h.2 x (TO O)⟩
def QX.take {α:Type}{ok:α->Prop}{l:L_ α}(h:QX ok l)(k:Nat):QX ok (l.take k):=⟨by have:=h.1;rw[Wq];omega,λx O=>h.2 x (Ld O)⟩
def QX.nil {α:Type}{ok:α->Prop}:QX ok ([]:L_ α):=⟨by simp,λx h=>by cases h⟩
def QX.app {α:Type}{ok:α->Prop}{l m:L_ α}(h:QX ok l)(hm:QX ok m)(hs:l.length+m.length<=maxLen):QX ok (l++m):=⟨by simpa using hs,λx hx=>by rcases Wr.1 hx with O | O;exact h.2 x O;exact hm.2 x O⟩
def UA (s:ByteArray):Prop:=s.size<=maxLen
def QrL {s:ByteArray}(h:Kq s (⟨#[]⟩:ByteArray)=false):0<s.size:=by
 apply Nat.pos_of_ne_zero;intro O;have:s=⟨#[]⟩:=by
  obtain⟨a⟩:=s;have:a=#[]:=Qp8 O;rw[this]
 subst this;simp[Kq]at h
def Nl {a b:Int}:0<=min2 a b↔0<=a/\0<=b:=by unfold min2;split<;>omega
def Nm {a b n:Int}:max2 a b<n↔a<n/\b<n:=by unfold max2;split<;>omega
def Nn {a b n:Int}:max2 a b<=n↔a<=n/\b<=n:=by unfold max2;split<;>omega
abbrev T0:=@Qk.bind
abbrev T1:=@Qk.bif
abbrev T2:=@Qk.ok
abbrev T3:=@Qk.okT
abbrev T4:=@Qk.idx
abbrev T5:=@Qk.chk
abbrev T6:=@Qk.mono
def GD (l:L_ (Int×Int)):Prop:=l.Pairwise λp q=>p.1<q.1
def Ve (l:L_ (Int×Int)):Prop:=l.Pairwise λp q=>p.1≠q.1
def GD.nd {l:L_ (Int×Int)}(h:GD l):Ve l:=h.imp λh=>by omega
def Bh {p:Int×Int}{l:L_ (Int×Int)}:GD (p::l)↔(∀q∈l,p.1<q.1)/\GD l:=Hk
def QpU {p:Int×Int}{l:L_ (Int×Int)}:Ve (p::l)↔(∀q∈l,p.1≠q.1)/\Ve l:=Hk
def OM {l:L_ (Int×Int)}{k:Int}:Xa l k=none↔∀p∈l,p.1≠k:=by
 induction l with
 | nil=>simp[Xa]
 | cons p l O=>
  obtain⟨a,x⟩:=p;rw[Yt];by_cases h:a=k
  ·simp[h]
  simp[h,O]
def JZ {l:L_ (Int×Int)}(hn:Ve l){k v:Int}:Xa l k=C v↔(k,v)∈l:=by
 induction l with
 | nil=>simp[Xa]
 | cons p l ih=>
  obtain⟨a,x⟩:=p;obtain⟨O,h2⟩:=QpU.1 hn;rw[Yt];by_cases h:a=k
  ·subst h;rw[if_pos rfl];constructor
   ·intro e;cases e;simp
   intro e;rcases XT.1 e with e | e
   ·cases e;rfl
   exact absurd rfl (O (a,v) e)
  rw[if_neg h,ih h2];constructor
  ·intro e;exact Kb _ e
  intro e;rcases XT.1 e with e | e
  ·cases e;exact absurd rfl h
  exact e
def QrM {l m:L_ (Int×Int)}(hl:Ve l)(h:l.Perm m)(k:Int):Xa l k=Xa m k:=by
 have hm:Ve m:=(h.pairwise_iff (λO=>Ne.symm O)).1 hl;apply Option.ext;intro v;rw[JZ hl,JZ hm];exact h.mem_iff
def QmK {l m:L_ (Int×Int)}(hl:GD l)(hm:GD m)(h:∀k,Xa l k=Xa m k):l=m:=by
 induction l generalizing m with
 | nil=>
  cases m with
  | nil=>rfl
  | cons p m=>have:=h p.1;rw[Yt (κ:=Int)]at this;simp[Xa]at this
 | cons p l ih=>
  obtain⟨a,x⟩:=p;cases m with
  | nil=>have:=h a;rw[Yt]at this;simp[Xa]at this
  | cons q m=>
   obtain⟨b,y⟩:=q;obtain⟨l1,l2⟩:=Bh.1 hl;obtain⟨m1,m2⟩:=Bh.1 hm;have O:a=b:=by
    rcases Int.lt_trichotomy a b with hc | hc | hc
    ·have e:=h a;rw[Yt,Yt,if_pos rfl,if_neg (by omega),OM.2 (λp hp=>by have:=m1 p hp;simp at this;omega)]at e;cases e
    ·exact hc
    have e:=h b;rw[Yt,Yt,if_neg (by omega),if_pos rfl,OM.2 (λp hp=>by have:=l1 p hp;simp at this;omega)]at e;cases e
   subst O;have e:=h a;rw[Yt,Yt,if_pos rfl,if_pos rfl]at e;cases e;rw[ih l2 m2 λk=>?_];by_cases hk:a=k
   ·subst hk;rw[OM.2 (λp hp=>by have:=l1 p hp;simp at this;omega),OM.2 (λp hp=>by have:=m1 p hp;simp at this;omega)]
   have:=h k;rwa[Yt,Yt,if_neg hk,if_neg hk]at this
def Qvd {l:L_ (Int×Int)}{k v:Int}{p:Int×Int}(h:p∈LV l k v):∃q∈l,q.1=p.1:=by
 induction l with
 | nil=>cases h
 | cons q l ih=>
  obtain⟨a,x⟩:=q;rw[LV]at h;split at h
  ·rename_i e;rcases XT.1 h with rfl | h
   ·exact⟨_,YY,e⟩
   exact⟨p,Kb _ h,rfl⟩
  rcases XT.1 h with rfl | h
  ·exact⟨_,YY,rfl⟩
  obtain⟨q,O,h2⟩:=ih h;exact⟨q,Kb _ O,h2⟩
def Qs4 {lt:Int->Int->Bool}{l:L_ (Int×Int)}{k v:Int}{p:Int×Int}(h:p∈II lt l k v):p=(k,v)\/p∈l:=by
 induction l with
 | nil=>simp[II]at h;exact .inl h
 | cons q l O=>
  obtain⟨a,x⟩:=q;rw[II]at h;split at h
  ·rcases XT.1 h with h | h
   ·exact .inl h
   exact .inr h
  rcases XT.1 h with h | h
  ·exact .inr (h▸YY)
  rcases O h with h | h
  ·exact .inl h
  exact .inr (Kb _ h)
def QoQ {l:L_ (Int×Int)}(h:GD l)(k v:Int):GD (Jl Ey l k v):=by
 unfold Jl;split
 ·rename_i x hx;clear hx
  induction l with
  | nil=>exact h
  | cons p l ih=>
   obtain⟨a,x⟩:=p;obtain⟨h1,h2⟩:=Bh.1 h;rw[LV];split
   ·rename_i e;subst e;exact Bh.2 ⟨h1,h2⟩
   refine Bh.2 ⟨λq O=>?_,ih h2⟩;obtain⟨q',hq',e⟩:=Qvd O;rw[<-e];exact h1 _ hq'
 rename_i hn
 induction l with
 | nil=>exact List.pairwise_singleton _ _
 | cons p l ih=>
  obtain⟨a,x⟩:=p;obtain⟨h1,h2⟩:=Bh.1 h;rw[Yt]at hn;split at hn
  ·cases hn
  rename_i hne;rw[II];split
  ·rename_i e;have e:k<a:=Xc e;refine Bh.2 ⟨λq O=>?_,h⟩;rcases XT.1 O with rfl | O
   ·exact e
   have:=h1 q O;simp at this ⊢;omega
  rename_i e;have e:¬k<a:=λc=>e (Qi c);refine Bh.2 ⟨λq O=>?_,ih h2 hn⟩;rcases Qs4 O with rfl | O
  ·show a<k;omega
  exact h1 q O
def Qs5 {l:L_ (Int×Int)}{k v:Int}:(LV l k v).length=l.length:=by
 induction l with
 | nil=>rfl
 | cons p l h=>
  obtain⟨a,x⟩:=p;rw[LV];split
  ·rfl
  simp[h]
def Qs6 {lt:Int->Int->Bool}{l:L_ (Int×Int)}{k v:Int}:(II lt l k v).length=l.length+1:=by
 induction l with
 | nil=>rfl
 | cons p l h=>
  obtain⟨a,x⟩:=p;rw[II];split
  ·rfl
  simp[h]
def Qs7 {l:L_ (Int×Int)}{k v:Int}:(Jl Ey l k v).length<=l.length+1:=by
 unfold Jl;split
 ·rw[Qs5];omega
 rw[Qs6];exact Yj _
def Qs8 {l:L_ (Int×Int)}{k v:Int}(h:GD (l++[(k,v)])):Jl Ey l k v=l++[(k,v)]:=by
 have hl:GD l:=(QjO.1 h).1;refine QmK (QoQ hl k v) h λj=>?_;rw[He];have O:∀p∈l,p.1<k:=λp hp=>(QjO.1 h).2.2 p hp (k,v) (by simp);clear h
 induction l with
 | nil=>
  show(if j=k then C v else none)=(if k=j then C v else none);by_cases c:j=k
  ·rw[if_pos c,if_pos c.symm]
  rw[if_neg c,if_neg (λe=>c e.symm)]
 | cons p l ih=>
  obtain⟨a,x⟩:=p;have h1:=O (a,x) YY;simp only at h1;rw[List.cons_append,Yt,Yt];rw[<-ih (Bh.1 hl).2 λp hp=>O p (Kb _ hp)];by_cases c:j=k
  ·subst c;rw[if_pos rfl,if_pos rfl,if_neg (by omega)]
  rw[if_neg c,if_neg c]
section
variable {ρ:Type}{g:Int->Int->Int}{stop:Int->Bool}{q:O_ ρ}{body:L_ (Int×Int)->Int×Int->O_ (L_ (Int×Int)⊕ρ)}
def QD (s:L_ (Int×Int))(k:Int):Int:=(Xa s k).getD 0
def QgW (g:Int->Int->Int)(s l:L_ (Int×Int))(k:Int):O_ Int:=match Xa l k with
 | some v=>C (g (QD s k) v)
 | none=>Xa s k
def Qey (hb:∀s p,body s p=bif stop (g (QD s p.1) p.2)then q.map Sum.inr else C (.inl (Jl Ey s p.1 (g (QD s p.1) p.2)))):
  ∀l s,GD s->Ve l->((∃p∈l,stop (g (QD s p.1) p.2)=true)/\DK body s l=q.map Sum.inr)\/
   ((∀p∈l,stop (g (QD s p.1) p.2)=false)/\∃s',DK body s l=C (.inl s')/\GD s'/\s'.length<=s.length+l.length/\∀k,Xa s' k=QgW g s l k):=by
 intro l
 induction l with
 | nil=>intro s hs _;exact .inr ⟨λp h=>(by cases h),s,rfl,hs,by simp,λk=>rfl⟩
 | cons p l ih=>
  intro s hs hl;obtain⟨h1,h2⟩:=QpU.1 hl;simp only[DK,hb];cases hst:stop (g (QD s p.1) p.2)with
  | true=>exact .inl ⟨⟨p,YY,hst⟩,by cases q<;>rfl⟩
  | false=>
   simp only[Qd,Qa,Sum.elim_inl];have hc:∀r∈l,QD (Jl Ey s p.1 (g (QD s p.1) p.2)) r.1=QD s r.1:=λr O=>by
    unfold QD;rw[He,if_neg (λe=>h1 r O e.symm)]
   rcases ih _ (QoQ hs p.1 (g (QD s p.1) p.2)) h2 with⟨⟨r,O,h3⟩,h4⟩|⟨h3,s',h4,h5,h6,h7⟩
   ·exact .inl ⟨⟨r,Kb _ O,by rw[hc r O]at h3;exact h3⟩,h4⟩
   refine .inr ⟨λr O=>?_,s',h4,h5,?_,λk=>?_⟩
   ·rcases XT.1 O with rfl | O
    ·exact hst
    have:=h3 r O;rwa[hc r O]at this
   ·have:=Qs7 (l:=s) (k:=p.1) (v:=g (QD s p.1) p.2);simp;omega
   rw[h7];obtain⟨a,x⟩:=p;unfold QgW;rw[Yt];by_cases e:a=k
   ·subst e;rw[if_pos rfl,OM.2 (λr O=>Ne.symm (h1 r O)),He,if_pos rfl]
   rw[if_neg e];simp only[QD,He,if_neg (λe'=>e (Eq.symm e'):¬k=a)]
def Qlh (hb:∀s p,body s p=bif stop (g (QD s p.1) p.2)then q.map Sum.inr else C (.inl (Jl Ey s p.1 (g (QD s p.1) p.2)))){l s:L_ (Int×Int)}(hs:GD s)(hl:Ve l):
  ((∃p∈l,stop (g (QD s p.1) p.2)=true)/\∀r,q=C r->HZ body s l=C (.inr r))\/
   ((∀p∈l,stop (g (QD s p.1) p.2)=false)/\∃s',HZ body s l=C (.inl s')/\GD s'/\s'.length<=s.length+l.length/\∀k,Xa s' k=QgW g s l k):=by
 have key:∀l':L_ (Int×Int),l'.Perm l->DK body s l'=DK body s l:=λl' hp=>by
  have hl':Ve l':=(hp.pairwise_iff (λhab=>Ne.symm hab)).2 hl;rcases Qey hb l' s hs hl' with⟨⟨p,h,h2⟩,O⟩|⟨h,s1,O,h4,_,h5⟩
  ·rcases Qey hb l s hs hl with⟨_,g3⟩|⟨g1,_⟩
   ·rw[O,g3]
   rw[g1 p (hp.mem_iff.1 h)]at h2;cases h2
  rcases Qey hb l s hs hl with⟨⟨p,g1,g2⟩,g3⟩|⟨g1,s2,g3,g4,_,g5⟩
  ·rw[h p (hp.mem_iff.2 g1)]at g2;cases g2
  rw[O,g3,QmK h4 g4 λk=>?_];rw[h5,g5];unfold QgW;rw[QrM hl' hp k]
 rcases Qey hb l s hs hl with⟨h,O⟩|⟨h,s1,O,h4,h6,h5⟩
 ·exact .inl ⟨h,λr hr=>MB.2 ⟨key,by rw[O,hr];rfl⟩⟩
 exact .inr ⟨h,s1,MB.2 ⟨key,O⟩,h4,h6,h5⟩
end
def QqK {ρ:Type}{bad:Int×Int->Bool}{q:ρ}{body:Unit->Int×Int->O_ (Unit⊕ρ)}(O:∀p,body () p=C (bif bad p then .inr q else .inl ()))(l:L_ (Int×Int)):
  HZ body () l=C (bif l.any bad then .inr q else .inl ()):=by
 have h:∀l:L_ (Int×Int),DK body () l=C (bif l.any bad then .inr q else .inl ()):=by
  intro l
  induction l with
  | nil=>rfl
  | cons p l ih=>
   simp only[DK,O,Qa,List.any_cons];cases bad p with
   | true=>rfl
   | false=>exact ih
 refine MB.2 ⟨λl' hp=>?_,h l⟩;rw[h,h];congr 2;rw[IZ,Oj,Oj];exact⟨λ⟨x,a,b⟩=>⟨x,hp.mem_iff.1 a,b⟩,λ⟨x,a,b⟩=>⟨x,hp.mem_iff.2 a,b⟩⟩
def Ea (a:Int):L_ (Int×Int)->Bool
 | []=>true
 | p::r=>!(decide (p.1<=a)||(decide (p.2<1)||decide (1048576<p.2)))&&Ea p.1 r
def Qt6 {a:Int}{l:L_ (Int×Int)}:Ea a l=true↔GD l/\∀p∈l,a<p.1/\1<=p.2/\p.2<=1048576:=by
 induction l generalizing a with
 | nil=>simp[Ea,GD]
 | cons p l ih=>
  rw[Ea,QH,ih,Bh];simp only[Di,KS,Xq];constructor
  ·rintro ⟨⟨h1,h2,O⟩,h4,h5⟩;refine⟨⟨λq h=>(h5 q h).1,h4⟩,λq h=>?_⟩;rcases XT.1 h with rfl | h
   ·omega
   have:=h5 q h;omega
  rintro ⟨⟨h1,h2⟩,O⟩;have:=O p YY;exact⟨by omega,h2,λq h=>⟨h1 q h,(O q (Kb _ h)).2⟩⟩
def Rt (l:L_ (Int×Int)):Prop:=GD l/\∀p∈l,0<=p.1/\1<=p.2/\p.2<=1048576
def YV {l:L_ (Int×Int)}:Ea (-1) l=true↔Rt l:=by
 rw[Qt6];constructor
 ·rintro ⟨h,O⟩;exact⟨h,λp hp=>by have:=O p hp;omega⟩
 rintro ⟨h,O⟩;exact⟨h,λp hp=>by have:=O p hp;omega⟩
def Rt.nil : Rt []:=⟨List.Pairwise.nil,λp h=>by cases h⟩
def Eu {l:L_ (Int×Int)}(h:Ve l){p:Int×Int}(hp:p∈l):QD l p.1=p.2:=by
 unfold QD;rw[(JZ h).2 (show(p.1,p.2)∈l from hp)];rfl
def Rt.cnt {l:L_ (Int×Int)}(h:Rt l)(k:Int):0<=QD l k/\QD l k<=1048576:=by
 unfold QD;cases e:Xa l k with
 | none=>simp
 | some v=>have:=h.2 _ ((JZ h.1.nd).1 e);simp at this ⊢;omega
def Rt.cnt_pos {l:L_ (Int×Int)}(h:Rt l){k:Int}(O:0<QD l k):0<=k:=by
 unfold QD at O;cases e:Xa l k with
 | none=>rw[e]at O;simp at O
 | some v=>exact(h.2 _ ((JZ h.1.nd).1 e)).1
def QrN {l m:L_ (Int×Int)}(hl:Rt l)(hm:Rt m)(h:∀k,QD l k=QD m k):l=m:=by
 refine QmK hl.1 hm.1 λk=>?_;have:=h k;unfold QD at this;cases e1:Xa l k with
 | none=>
  cases O:Xa m k with
  | none=>rfl
  | some v=>have h3:=hm.2 _ ((JZ hm.1.nd).1 O);rw[e1,O]at this;simp at this h3;omega
 | some v=>
  have h3:=hl.2 _ ((JZ hl.1.nd).1 e1);cases O:Xa m k with
  | none=>rw[e1,O]at this;simp at this h3;omega
  | some u=>rw[e1,O]at this;simpa using this
def Mr (l:L_ (Int×Int)):L_ (Int×Int):=l.filter λp=>decide (0<p.2)
def QoR {l:L_ (Int×Int)}(h:GD l)(k:Int):QD (Mr l) k=if 0<QD l k then QD l k else 0:=by
 have hp:GD (Mr l):=h.sublist List.filter_sublist;by_cases c:0<QD l k
 ·rw[if_pos c];unfold QD at c;cases e:Xa l k with
  | none=>rw[e]at c;simp at c
  | some v=>
   rw[e]at c;have O:(k,v)∈Mr l:=Mx.2 ⟨(JZ h.nd).1 e,by simpa using c⟩;unfold QD;rw[(JZ hp.nd).2 O,e]
 rw[if_neg c];unfold QD;cases e:Xa (Mr l) k with
 | none=>rfl
 | some v=>
  have O:=Mx.1 ((JZ hp.nd).1 e);have h2:=(JZ h.nd).2 O.1;unfold QD at c;rw[h2]at c;simp at O c;omega
def QrO {l:L_ (Int×Int)}(h:GD l)(hb:∀k,0<QD l k->0<=k/\QD l k<=1048576):Rt (Mr l):=by
 refine⟨h.sublist List.filter_sublist,λp hp=>?_⟩;obtain⟨O,h2⟩:=Mx.1 hp;have h3:=Eu h.nd O;have h4:0<p.2:=Xc h2;have:=hb p.1 (by omega);omega
def QrP {l:L_ (Int×Int)}(h:GD l):GO (l.map Prod.fst)=l.map Prod.fst:=by
 rw[Qea];refine List.mergeSort_of_pairwise ?_;rw[Zy];exact h.imp λh=>by simp;omega
def upL : Int->Nat->L_ Int
 | _,0=>[]
 | x,k+1=>x::upL (x+1) k
def binds : L_ Int->L_ (L_ Int)
 | []=>[[]]
 | s::r=>(0::upL 1 (s-1).toNat).flatMap λx=>(binds r).map (x::·)
def inB : L_ Int->L_ Int->Prop
 | [],[]=>True
 | s::r,x::d=>0<=x/\(x=0\/x<s)/\inB r d
 | _,_=>False
def Qt7 {y x:Int}{k:Nat}:y∈upL x k↔x<=y/\y<x+k:=by
 induction k generalizing x with
 | zero=>
  simp only[upL,List.not_mem_nil,false_iff];omega
 | succ k h=>simp only[upL,XT,h];omega
def QrQ {l d:L_ Int}:d∈binds l↔inB l d:=by
 induction l generalizing d with
 | nil=>cases d<;>simp[binds,inB]
 | cons s r ih=>
  cases d with
  | nil=>simp[binds,inB]
  | cons x d=>
   simp only[binds,List.mem_flatMap,XT,Qt7,Yv,List.cons.injEq,inB,<-ih];constructor
   ·rintro ⟨y,O,e,h,rfl,rfl⟩;exact⟨by omega,by omega,h⟩
   rintro ⟨O,h,h3⟩;exact⟨x,by omega,d,h3,rfl,rfl⟩
section
variable {α:Type}
end
end Go.Vm
noncomputable section
namespace Go.Proofs
open Go Go.RowKit Go.Vm
open Option renaming some→C
variable {l:QBg}{n:Qh}{c i j:Nat}{m:L_ QBg}{o:Qo}
inductive Wp : Qn->Prop where
 | mk (e:Qn):e.Kids.length<=maxLen->(∀k∈e.Kids,Wp k)->Wp e
def WD {e:Qn}(h:Wp e):QX Wp e.Kids:=by
 cases h with
 | mk _ O h2=>exact⟨O,h2⟩
def Vz {e k:Qn}(h:k∈e.Kids):SizeOf.sizeOf k<SizeOf.sizeOf e:=by
 obtain⟨a,b,l⟩:=e;have:=List.sizeOf_lt_of_mem h;simp only[Qn.mk.sizeOf_spec]at *;omega
def Qn.pos (e:Qn):0<SizeOf.sizeOf e:=by
 obtain⟨a,b,l⟩:=e;simp only[Qn.mk.sizeOf_spec];omega
inductive POk (v:Int):Qn->Prop where
 | mk (e:Qn):(e.Kind=1\/e.Kind=2\/e.Kind=3\/e.Kind=4\/e.Kind=5\/e.Kind=6)->(e.Kind=2->0<=e.Num/\e.Num<v)->(e.Kind=3\/e.Kind=4->e.Kids.length=1)->(e.Kind=5->e.Kids.length=2)->(e.Kind=6->e.Kids.length=3)->(∀k∈e.Kids,POk v k)->POk v e
def Jk (x:QR):Prop:=UA x.Name/\True/\True/\True/\(QX UA) x.Names/\True/\True
def Dh (x:XR):Prop:=UA x.Name/\True/\(QX (λ_=>True)) x.First
def Ec (x:Je):Prop:=UA x.Name/\True
def Ip (x:Jf):Prop:=True/\Wp x.Expr
def YO (x:QW):Prop:=UA x.Name/\(QX Ec) x.Vars/\Wp x.Guard/\True/\True/\(QX Ip) x.Ins/\(QX Ip) x.Outs/\(QX (λ_=>True)) x.Cancel/\True/\True
def Xo (x:Qh):Prop:=(QX Jk) x.Colours/\(QX Dh) x.Places/\(QX YO) x.Tasks/\True/\True
def QnU (x:Ji):Prop:=(QX Jk) x.all/\(QX (λ_=>True)) x.sizes/\True
def Qli (O:Qh)(h:Xo O):Xi (Ov O):=by
 unfold Ov;exact T3
def Wh (O:(L_ XR))(h:Int)(h_l1:(QX Dh) O):Qk (YX O h) λr=>r=true->0<=h/\h<O.length:=by
 unfold YX;exact T2 (by first | (intro hr;first | (cases hr;done) | omega | ((try simp only[QH,KT,KS,Di,Bk,QG,Xq,beq_iff_eq,bne_iff_ne,ne_eq,Hj,Zv,Gb,Ol,Lb,La,Wq,Uf,Nl,Nm,Nn]at *);omega)) | ((try simp only[QH,KT,KS,Di,Bk,QG,Xq,beq_iff_eq,bne_iff_ne,ne_eq,Hj,Zv,Gb,Ol,Lb,La,Wq,Uf,Nl,Nm,Nn]at *);omega) | simp_all)
def Qlj (O:Qh)(h:Xo O):Xi (Ow O):=by
 unfold Ow;refine T0 (P:=λ_=>True) ?_ (λx_1 hv2=>?_)
 ·unfold QaL;refine T0 (Wh O.Places O.From (h.2.1)) (λx_3 hv4=>?_);refine T1 (λhc5=>?_) (λhc5=>?_)
  ·refine T0 (Wh O.Places O.To (h.2.1)) (λx_6 hv7=>?_);exact T3
  exact T3
 unfold QaM;exact T3
def Qlk (O:Qh)(h:Xo O):Xi (Ox O):=by
 unfold Ox;exact T3
def Qll (O:Qh)(v2:Int)(v3:Int)(v4:Int)(h:Xo O):Xi (Oy O v2 v3 v4):=by
 unfold Oy;refine T0 (Qli O (h)) (λx_1 hv2=>?_);refine T1 (λhc3=>?_) (λhc3=>?_)
 ·exact T3
 refine T0 (Qlj O (h)) (λx_4 hv5=>?_);refine T1 (λhc6=>?_) (λhc6=>?_)
 ·exact T3
 refine T0 (Qlk O (h)) (λx_7 hv8=>?_);refine T1 (λhc9=>?_) (λhc9=>?_)
 ·exact T3
 exact T3
def Qlm (lo1:Int)(O:Int)  : Xi (BN lo1 O):=by
 unfold BN;refine T1 (λh=>?_) (λh=>?_)
 ·exact T3
 exact T3
def Zr (h:Int)  : Xi (Ul h):=by
 unfold Ul;exact T3
def Cu (s1:ByteArray)(h_s1:UA s1):Xi (DB s1):=by
 unfold DB;refine T0 (P:=λ_=>True) ?_ (λx_1 hv2=>?_)
 ·unfold Hn;refine T1 (λhc3=>?_) (λhc3=>?_)
  ·exact T3
  have hshc3:=QrL hc3;refine T1 (λhc4=>?_) (λhc4=>?_)
  ·exact T3
  refine T0 (Qk.sidx (by omega) (by omega)) (λc_5 hv6=>?_);refine T0 (Zr c_5 ) (λx_7 hv8=>?_);exact T3
 unfold OY;refine T1 (λhc9=>?_) (λhc9=>?_)
 ·exact T3
 refine T0 (Qk.up (s1.size) (λst=>st) (λ_=>True) (Q:=λq=>True) rfl trivial (λi11 st h hn13 hj14=>?_)) (λq15 hq16=>?_)
 ·obtain⟨O,hst⟩:∃y,y=st:=⟨_,rfl⟩;subst hst;replace h:O=(i11:Int):=h;show Qk (Ee s1 O) _;unfold Ee;refine T1 (λhc17=>?_) (λhc17=>?_)
  ·refine T0 (Qk.sidx (by omega) (by simp_all)) (λc_18 hv19=>?_);refine T0 (P:=λ_=>True) ?_ (λx_20 hv21=>?_)
   ·unfold OU;refine T0 (Zr c_18 ) (λx_22 hv23=>?_);refine T1 (λhc24=>?_) (λhc24=>?_)
    ·refine T1 (λhc25=>?_) (λhc25=>?_)
     ·exact T3
     refine T1 (λhc26=>?_) (λhc26=>?_)
     ·exact T3
     exact T3
    exact T3
   unfold OV;refine T1 (λhc27=>?_) (λhc27=>?_)
   ·exact T2 (Qv trivial)
   exact T2 (QV ⟨(by simp_all),by subst h;exact Qr (by simp_all) h_s1,trivial⟩)
  exact T2 (Qv trivial)
 rcases q15 with q15 | q15
 ·show Qk (OW) _;unfold OW;exact T3
 show Qk (OX) _;unfold OX;exact T3
def Qjp (l1:(L_ ByteArray))(O:(QX UA) l1):Xi (Ax l1):=by
 unfold Ax;refine T0 (Qk.up (l1.length) (λst=>st.1) (λ_=>True) (Q:=λq=>True) rfl trivial (λi3 st hi4 hn5 hj6=>?_)) (λq7 hq8=>?_)
 ·obtain⟨x_1,m_2⟩:=st;replace hi4:x_1=(i3:Int):=hi4;show Qk (Db l1 x_1 m_2) _;unfold Db;refine T1 (λhc9=>?_) (λhc9=>?_)
  ·refine T0 (T4 (by omega) (by simp_all)) (λh hv11=>?_);refine T0 (P:=λ_=>True) ?_ (λx_12 hv13=>?_)
   ·unfold Nz;refine T0 (Cu h (((O).2 h hv11))) (λx_14 hv15=>?_);refine T1 (λhc16=>?_) (λhc16=>?_)
    ·exact T3
    exact T3
   unfold NA;refine T1 (λhc17=>?_) (λhc17=>?_)
   ·exact T2 (Qv trivial)
   exact T2 (QV ⟨(by simp_all),by subst hi4;exact Qr (by simp_all) (O).1,trivial⟩)
  exact T2 (Qv trivial)
 rcases q7 with q7 | q7
 ·show Qk (NB) _;unfold NB;exact T3
 show Qk (NC) _;unfold NC;exact T3
def Qln (c1:QR)(h:LI_)(h_c1:Jk c1)(O:(QX (λ_=>True)) h):Xi (BO c1 h):=by
 unfold BO;refine T1 (λhc1=>?_) (λhc1=>?_)
 ·refine T0 (Qlm c1.Lo c1.Hi ) (λx_2 hv3=>?_);exact T3
 refine T1 (λhc4=>?_) (λhc4=>?_)
 ·refine T0 (Qjp c1.Names (h_c1.2.2.2.2.1)) (λx_5 hv6=>?_);refine T1 (λhc7=>?_) (λhc7=>?_)
  ·exact T3
  unfold DL;exact T3
 refine T1 (λhc8=>?_) (λhc8=>?_)
 ·refine T1 (λhc9=>?_) (λhc9=>?_)
  ·refine T0 (T4 (by(try simp only[QH,KT,KS,Di,Bk,QG,Xq,beq_iff_eq,bne_iff_ne,ne_eq,Hj,Zv,Gb,Ol,Lb,La,Wq,Uf,Nl,Nm,Nn]at *);omega) (by(try simp only[QH,KT,KS,Di,Bk,QG,Xq,beq_iff_eq,bne_iff_ne,ne_eq,Hj,Zv,Gb,Ol,Lb,La,Wq,Uf,Nl,Nm,Nn]at *);omega)) (λe_10 hv11=>?_)
   refine T0 (T4 (by(try simp only[QH,KT,KS,Di,Bk,QG,Xq,beq_iff_eq,bne_iff_ne,ne_eq,Hj,Zv,Gb,Ol,Lb,La,Wq,Uf,Nl,Nm,Nn]at *);omega) (by(try simp only[QH,KT,KS,Di,Bk,QG,Xq,beq_iff_eq,bne_iff_ne,ne_eq,Hj,Zv,Gb,Ol,Lb,La,Wq,Uf,Nl,Nm,Nn]at *);omega)) (λe_12 hv13=>?_)
   exact T3
  unfold DL;exact T3
 unfold DL;exact T3
def Qbf (O:(L_ QR))(h_l1:(QX Jk) O):Qk (Ef O) λr=>((QX (λ_=>True)) r.1/\True)/\(r.2=true->r.1.length=O.length/\∀x∈r.1,1<=x/\x<=1024):=by
 unfold Ef;refine T1 (λhc=>T2 ⟨⟨QX.nil,trivial⟩,λh=>by cases h⟩) (λhc=>?_);have hl:O.length<=32:=by simp only[Xq]at hc;omega
 refine T0 (Qk.up O.length (λst=>st.1) (λst=>(st.2.2.length:Int)=st.1/\∀x∈st.2.2,1<=x/\x<=1024) (Q:=λq=>∀l,q=.inr l->l.length=O.length/\∀x∈l,1<=x/\x<=1024) rfl ⟨rfl,λx h=>(by cases h)⟩ (λi st hi hn hj=>?_)) (λq hq=>?_)
 ·obtain⟨x,m,l⟩:=st;replace hi:x=(i:Int):=hi;replace hj:(l.length:Int)=x/\∀x∈l,1<=x/\x<=1024:=hj;obtain⟨hj,hj2⟩:=hj;show Qk (Dc O x m l) _;unfold Dc;refine T1 (λhc2=>?_) (λhc2=>?_)
  ·simp only[QG]at hc2;refine T0 (T4 (by omega) (by omega)) λe he=>?_;refine T0 (Qln e l (h_l1.2 e he) ⟨by unfold maxLen;omega,λ_ _=>trivial⟩) λy _=>?_;refine T0 (P:=λz=>z=false->1<=y/\y<=1024) ?_ λz hz=>?_
   ·unfold ND;refine T0 (Cu e.Name (h_l1.2 e he).1) λz _=>?_;refine T1 (λ_=>T2 (λh=>by cases h)) λ_=>T1 (λ_=>T2 (λh=>by cases h)) λ_=>T1 (λ_=>T2 (λh=>by cases h)) λh1=>T2 λh2=>?_;simp only[Xq]at h1 h2;omega
   unfold NE;refine T1 (λ_=>T2 (Qv λl h=>by cases h)) λhz0=>?_;refine T0 (T5 (by simp;omega)) λ_ _=>?_;exact T2 (QV ⟨by omega,by subst hi;exact Qr (by omega) (by unfold maxLen;omega:O.length<=maxLen),by simp only[Gb,Ol];subst hi;rw[Qr (show i<O.length by omega) (by unfold maxLen;omega)];omega,λu hu=>by
    rcases Wr.1 hu with hu | hu
    ·exact hj2 u hu
    simp at hu;subst hu;exact hz hz0⟩)
  simp only[Xq]at hc2;exact T2 (Qv λl' h=>by cases h;exact⟨by omega,hj2⟩)
 rcases q with q | q
 ·exact T2 ⟨⟨QX.nil,trivial⟩,λh=>by cases h⟩
 have:=hq q rfl;exact T2 ⟨⟨⟨by show q.length<=maxLen;unfold maxLen;omega,λ_ _=>trivial⟩,trivial⟩,λ_=>this⟩
def Qjq (O:(L_ QR))(h:(QX Jk) O):Xi (MS O):=by
 unfold MS;refine T0 (Qbf O (h)) (λx_1 hv2=>?_);exact T3
def QdD (v1:Qh)(O:Int)(h:Xo v1)(hp0:0<=O)(hp1:O<v1.Colours.length):Xi (Bq v1 O):=by
 have hl:=h.1.1;unfold maxLen at hl;unfold Bq;rw[Xj (show -9223372036854775808<=O+1/\O+1<=9223372036854775807 by omega)];refine T0 (T5 (by simp only[QH,QG];omega)) λ_ _=>?_;exact T0 (Qjq _ ((h.1.drop _).take _)) λx _=>T3
def Qlo : L_ ByteArray:=(Ik).getD []
set_option maxRecDepth 100000 in
def Qs9 : Ik=C Qlo:=by kernel_rfl
set_option maxRecDepth 100000 in
def QpJ : (decide (Qlo.length<=1000)&&Qlo.all λs=>decide (s.size<=1000))=true:=by kernel_rfl
def Qlp : Qk (Ik) λr=>QX UA r:=by
 have h:=QpJ;rw[QH,decide_eq_true_iff,XG]at h;refine⟨Qlo,Qs9,by unfold maxLen;omega,λx O=>?_⟩;have:=h.2 x O;rw[decide_eq_true_iff]at this;unfold UA maxLen;omega
def Sp (s1:(L_ ByteArray))(v2:ByteArray)(O:(QX UA) s1)(h_v2:UA v2):Xi (WR s1 v2):=by
 unfold WR;refine T0 (Qk.up (s1.length) (λst=>st) (λ_=>True) (Q:=λq=>True) rfl trivial (λi2 st h hn4 hj5=>?_)) (λq6 hq7=>?_)
 ·obtain⟨x_1,hst⟩:∃y,y=st:=⟨_,rfl⟩;subst hst;replace h:x_1=(i2:Int):=h;show Qk (Gf s1 v2 x_1) _;unfold Gf;refine T1 (λhc8=>?_) (λhc8=>?_)
  ·refine T0 (T4 (by omega) (by simp_all)) (λe_9 hv10=>?_);refine T1 (λhc11=>?_) (λhc11=>?_)
   ·exact T2 (Qv trivial)
   exact T2 (QV ⟨(by simp_all),by subst h;exact Qr (by simp_all) (O).1,trivial⟩)
  exact T2 (Qv trivial)
 rcases q6 with q6 | q6
 ·show Qk (Gg q6) _;unfold Gg;exact T3
 show Qk (Gh) _;unfold Gh;exact T3
def Oi (s1:(L_ ByteArray))(v2:ByteArray)(h:(QX UA) s1)(O:UA v2):Xi (KU s1 v2):=by
 unfold KU;refine T0 (Sp s1 v2 (h) (O)) (λx_1 hv2=>?_);exact T3
def QmL (s1:ByteArray)(h:UA s1):Xi (RM s1):=by
 unfold RM;refine T0 (Qlp  ) (λx_1 O=>?_);refine T0 (Oi x_1 s1 (O) (h)) (λx_3 hv4=>?_);exact T3
def FU (O:ByteArray)(h:UA O):Xi (EU O):=by
 unfold EU;refine T0 (P:=λ_=>True) ?_ (λx_1 hv2=>?_)
 ·unfold Qb1;refine T0 (Cu O (h)) (λx_3 hv4=>?_);refine T1 (λhc5=>?_) (λhc5=>?_)
  ·refine T0 (QmL O (h)) (λx_6 hv7=>?_);exact T3
  exact T3
 unfold Qb2;exact T3
def Qbv (O:ByteArray)(h:UA O):Xi (Uo O):=by
 unfold Uo;refine T0 (FU O (h)) (λx_1 hv2=>?_);exact T3
def NM (s1:(L_ ByteArray))(h:(QX UA) s1):Xi (KG s1):=by
 unfold KG;refine T0 (Qk.up (s1.length) (λst=>st) (λ_=>True) (Q:=λq=>True) rfl trivial (λi2 st O hn4 hj5=>?_)) (λq6 hq7=>?_)
 ·obtain⟨x_1,hst⟩:∃y,y=st:=⟨_,rfl⟩;subst hst;replace O:x_1=(i2:Int):=O;show Qk (WS s1 x_1) _;unfold WS;refine T1 (λhc8=>?_) (λhc8=>?_)
  ·refine T0 (T4 (by omega) (by simp_all)) (λe_9 hv10=>?_);refine T0 (Qbv e_9 (((h).2 e_9 hv10))) (λx_11 hv12=>?_);refine T1 (λhc13=>?_) (λhc13=>?_)
   ·exact T2 (Qv trivial)
   exact T2 (QV ⟨(by simp_all),by subst O;exact Qr (by simp_all) (h).1,trivial⟩)
  exact T2 (Qv trivial)
 rcases q6 with q6 | q6
 ·show Qk (WT q6) _;unfold WT;exact T3
 show Qk (WU) _;unfold WU;exact T3
def LN (O:(L_ ByteArray))(h:(QX UA) O):Xi (JV O):=by
 unfold JV;refine T0 (NM O (h)) (λx_1 hv2=>?_);exact T3
def QdE (O:QR)(h:Jk O):Xi (Br O):=by
 unfold Br;refine T0 (P:=λ_=>True) ?_ (λx_1 hv2=>?_)
 ·unfold Oe;refine T0 (FU O.Name (h.1)) (λx_3 hv4=>?_);refine T1 (λhc5=>?_) (λhc5=>?_)
  ·refine T1 (λhc6=>?_) (λhc6=>?_)
   ·exact T3
   refine T0 (LN O.Names (h.2.2.2.2.1)) (λx_7 hv8=>?_);exact T3
  exact T3
 unfold Og;exact T3
def Qgq (v1:Qh)(v2:Int)(v3:Int)(v4:QR)(v5:Int)(h:Xo v1)(O:Jk v4)(hp0:0<=v2)(hp1:v2<v1.Colours.length):Xi (Ht v1 v2 v3 v4 v5):=by
 unfold Ht;refine T0 (QdD v1 v2 (h) (by omega) (by omega)) (λx_1 hv2=>?_);refine T1 (λhc3=>?_) (λhc3=>?_)
 ·exact T3
 refine T0 (QdE v4 (O)) (λx_4 hv5=>?_);refine T1 (λhc6=>?_) (λhc6=>?_)
 ·exact T3
 exact T3
def Qfp (k1:Int)(c2:QR)(v3:Qh)(h:Jk c2)(O:Xo v3)(hp0:0<=k1)(hp1:k1<v3.Colours.length):Xi (CU k1 c2 v3):=by
 unfold CU;refine T0 (Qgq v3 k1 8 c2 8 (O) (h) (by omega) (by omega)) (λx_1 hv2=>?_);exact T3
def ZM (l1:(L_ QR))(v2:Qh)(h:(QX Jk) l1)(h_v2:Xo v2)(hp0:l1.length<=v2.Colours.length):Xi (GP l1 v2):=by
 unfold GP;refine T0 (Qk.up (l1.length) (λst=>st) (λ_=>True) (Q:=λq=>True) rfl trivial (λi2 st O hn4 hj5=>?_)) (λq6 hq7=>?_)
 ·obtain⟨x_1,hst⟩:∃y,y=st:=⟨_,rfl⟩;subst hst;replace O:x_1=(i2:Int):=O;show Qk (UH l1 v2 x_1) _;unfold UH;refine T1 (λhc8=>?_) (λhc8=>?_)
  ·refine T0 (T4 (by omega) (by simp_all)) (λe_9 hv10=>?_);refine T0 (Qfp x_1 e_9 v2 (((h).2 e_9 hv10)) (h_v2) (by omega) (by simp_all;omega)) (λx_11 hv12=>?_);refine T1 (λhc13=>?_) (λhc13=>?_)
   ·exact T2 (Qv trivial)
   exact T2 (QV ⟨(by simp_all),by subst O;exact Qr (by simp_all) (h).1,trivial⟩)
  exact T2 (Qv trivial)
 rcases q6 with q6 | q6
 ·show Qk (UI q6.1 q6.2) _;unfold UI;exact T3
 show Qk (UJ) _;unfold UJ;exact T3
def Zs (n1:Qh)(h:Xo n1):Xi (Cj n1):=by
 unfold Cj;refine T0 (ZM n1.Colours n1 (h.1) (h) (by omega)) (λx_1 O=>?_);exact T3
def QhJ (O:XR)(h:Dh O):Xi (Lq O):=by
 unfold Lq;refine T0 (FU O.Name (h.1)) (λx_1 hv2=>?_);exact T3
def QhK (p1:XR)(v2:XR)(h:Dh p1)(O:Dh v2):Xi (Lr p1 v2):=by
 unfold Lr;exact T3
def HP (s1:(L_ XR))(v2:XR)(h:(QX Dh) s1)(h_v2:Dh v2):Xi (JA s1 v2):=by
 unfold JA;refine T0 (Qk.up (s1.length) (λst=>st) (λ_=>True) (Q:=λq=>True) rfl trivial (λi2 st O hn4 hj5=>?_)) (λq6 hq7=>?_)
 ·obtain⟨x_1,hst⟩:∃y,y=st:=⟨_,rfl⟩;subst hst;replace O:x_1=(i2:Int):=O;show Qk (Ks s1 v2 x_1) _;unfold Ks;refine T1 (λhc8=>?_) (λhc8=>?_)
  ·refine T0 (T4 (by omega) (by simp_all)) (λe_9 hv10=>?_);refine T0 (QhK e_9 v2 (((h).2 e_9 hv10)) (h_v2)) (λx_11 hv12=>?_);refine T1 (λhc13=>?_) (λhc13=>?_)
   ·exact T2 (Qv trivial)
   exact T2 (QV ⟨(by simp_all),by subst O;exact Qr (by simp_all) (h).1,trivial⟩)
  exact T2 (Qv trivial)
 rcases q6 with q6 | q6
 ·show Qk (Kt q6) _;unfold Kt;exact T3
 show Qk (Ku) _;unfold Ku;exact T3
def CN (s1:(L_ XR))(v2:XR)(h:(QX Dh) s1)(O:Dh v2):Xi (Ja s1 v2):=by
 unfold Ja;refine T0 (HP s1 v2 (h) (O)) (λx_1 hv2=>?_);exact T3
def QhL (v1:Qh)(v2:Int)(v3:XR)(h:Xo v1)(O:Dh v3)(hp0:0<=v2)(hp1:v2<v1.Places.length):Xi (Ls v1 v2 v3):=by
 unfold Ls;refine T0 (T5 (by simp_all;omega)) (λ_ _=>?_);refine T0 (CN ((v1.Places.drop 0).take (v2.toNat-0)) v3 (((h.2.1).drop _).take _) (O)) (λx_1 hv2=>?_);exact T3
def Iq (O:(L_ QR))(k2:Int)(h:(QX Jk) O):Xi (Wy O k2):=by
 unfold Wy;exact T3
def QhM (O:Qh)(v2:XR)(h:Xo O)(h_v2:Dh v2):Xi (Lt O v2):=by
 unfold Lt;refine T0 (Iq O.Colours v2.Colour (h.1)) (λx_1 hv2=>?_);exact T3
def QnV (b1:QBg)(h_b1:(QX (λ_=>True)) b1):Xi (Gl b1):=by
 unfold Gl;refine T0 (Qk.up (b1.length) (λst=>st.2) (λ_=>True) (Q:=λq=>True) rfl trivial (λi3 st O hn5 hj6=>?_)) (λq7 hq8=>?_)
 ·obtain⟨h,x_2⟩:=st;replace O:x_2=(i3:Int):=O;show Qk (DT b1 h x_2) _;unfold DT;refine T1 (λhc9=>?_) (λhc9=>?_)
  ·refine T0 (T4 (by omega) (by simp_all)) (λe_10 hv11=>?_);refine T1 (λhc12=>?_) (λhc12=>?_)
   ·exact T2 (Qv trivial)
   exact T2 (QV ⟨(by simp_all),by subst O;exact Qr (by simp_all) (h_b1).1,trivial⟩)
  exact T2 (Qv trivial)
 rcases q7 with q7 | q7
 ·show Qk (SO) _;unfold SO;exact T3
 show Qk (SP) _;unfold SP;exact T3
def QhN (O:XR)(h:Dh O):Xi (Lu O):=by
 unfold Lu;refine T0 (QnV O.First (h.2.2)) (λx_1 hv2=>?_);exact T3
def Ir (l1:(L_ QR))(k2:Int)(O:(QX Jk) l1):Qk (Du l1 k2) λr=>(True/\QnU r.2)/\(r.1=true->(0<=k2/\k2<r.2.sizes.length)/\r.2.k=k2/\r.2.all.length=r.2.sizes.length/\∀x∈r.2.sizes,1<=x/\x<=1024):=by
 unfold Du;refine T0 (Qbf l1 O) λx hx=>?_;refine T1 (λ_=>T2 ⟨⟨trivial,QX.nil,QX.nil,trivial⟩,λh=>by cases h⟩) λhc=>?_;simp only[KS,Bk,Xq]at hc;have:=hx.2 hc.1;exact T2 ⟨⟨trivial,O,hx.1.1,trivial⟩,λ_=>⟨⟨by omega,by show k2<(x.1.length:Int);omega⟩,rfl,this.1.symm,this.2⟩⟩
def UB (l1:(L_ QR))(k2:Int)(O:(QX Jk) l1):Qk (YL l1 k2) λr=>0<=r/\r<=1024:=by
 unfold YL;refine T0 (Ir l1 k2 O) (λx hx=>?_);refine T1 (λhc=>T2 (by omega)) (λhc=>?_);have h:=hx.2 (by simpa using hc);exact T0 (T4 (by omega) (by omega)) λe he=>T2 (by have:=h.2.2.2 e he;omega)
def Qfq (h:(Int×Int))(O:Int)  : Xi (CV h O):=by
 unfold CV;exact T3
def NN (s1:QBg)(v2:Int)(O:(QX (λ_=>True)) s1):Xi (KH s1 v2):=by
 unfold KH;refine T0 (Qk.up (s1.length) (λst=>st) (λ_=>True) (Q:=λq=>True) rfl trivial (λi2 st h hn4 hj5=>?_)) (λq6 hq7=>?_)
 ·obtain⟨x_1,hst⟩:∃y,y=st:=⟨_,rfl⟩;subst hst;replace h:x_1=(i2:Int):=h;show Qk (WV s1 v2 x_1) _;unfold WV;refine T1 (λhc8=>?_) (λhc8=>?_)
  ·refine T0 (T4 (by omega) (by simp_all)) (λe_9 hv10=>?_);refine T0 (Qfq e_9 v2 ) (λx_11 hv12=>?_);refine T1 (λhc13=>?_) (λhc13=>?_)
   ·exact T2 (Qv trivial)
   exact T2 (QV ⟨(by simp_all),by subst h;exact Qr (by simp_all) (O).1,trivial⟩)
  exact T2 (Qv trivial)
 rcases q6 with q6 | q6
 ·show Qk (WW q6) _;unfold WW;exact T3
 show Qk (WX) _;unfold WX;exact T3
def LO (O:QBg)(v2:Int)(h:(QX (λ_=>True)) O):Xi (JW O v2):=by
 unfold JW;refine T0 (NN O v2 (h)) (λx_1 hv2=>?_);exact T3
def QhO (v1:Qh)(v2:XR)(h:Xo v1)(O:Dh v2):Xi (Lv v1 v2):=by
 unfold Lv;refine T0 (UB v1.Colours v2.Colour (h.1)) (λx_1 hv2=>?_);refine T0 (LO v2.First x_1 (O.2.2)) (λx_3 hv4=>?_);exact T3
def Qgr (v1:XR)(v2:Int)(v3:Qh)(v4:Int)(v5:Int)(v6:Int)(v7:Int)(v8:Int)(h:Dh v1)(O:Xo v3)(hp0:0<=v4)(hp1:v4<v3.Places.length):Xi (Hu v1 v2 v3 v4 v5 v6 v7 v8):=by
 unfold Hu;refine T0 (QhJ v1 (h)) (λx_1 hv2=>?_);refine T1 (λhc3=>?_) (λhc3=>?_)
 ·exact T3
 refine T0 (QhL v3 v4 v1 (O) (h) (by omega) (by omega)) (λx_4 hv5=>?_);refine T1 (λhc6=>?_) (λhc6=>?_)
 ·exact T3
 refine T0 (QhM v3 v1 (O) (h)) (λx_7 hv8=>?_);refine T1 (λhc9=>?_) (λhc9=>?_)
 ·exact T3
 refine T0 (QhN v1 (h)) (λx_10 hv11=>?_);refine T1 (λhc12=>?_) (λhc12=>?_)
 ·exact T3
 refine T0 (QhO v3 v1 (O) (h)) (λx_13 hv14=>?_);refine T1 (λhc15=>?_) (λhc15=>?_)
 ·exact T3
 exact T3
def Qlq (n1:Qh)(k2:Int)(h:Xo n1):Xi (Oz n1 k2):=by
 unfold Oz;refine T0 (Wh n1.Places k2 (h.2.1)) (λx_1 hv2=>?_);refine T1 (λhc3=>?_) (λhc3=>?_)
 ·exact T3
 refine T0 (T4 (by simp_all) (by simp_all)) (λO hv5=>?_);refine T0 (Qgr O 1 n1 k2 5 3 1 8 (((h.2.1).2 O hv5)) (h) (by simp_all) (by simp_all)) (λx_6 hv7=>?_);exact T3
def Qlr (k1:Int)(p2:XR)(v3:Qh)(O:Dh p2)(h:Xo v3):Xi (OA k1 p2 v3):=by
 unfold OA;refine T0 (Qlq v3 k1 (h)) (λx_1 hv2=>?_);exact T3
def Qbg (l1:(L_ XR))(v2:Qh)(h:(QX Dh) l1)(h_v2:Xo v2):Xi (EE l1 v2):=by
 unfold EE;refine T0 (Qk.up (l1.length) (λst=>st) (λ_=>True) (Q:=λq=>True) rfl trivial (λi2 st O hn4 hj5=>?_)) (λq6 hq7=>?_)
 ·obtain⟨x_1,hst⟩:∃y,y=st:=⟨_,rfl⟩;subst hst;replace O:x_1=(i2:Int):=O;show Qk (Ah l1 v2 x_1) _;unfold Ah;refine T1 (λhc8=>?_) (λhc8=>?_)
  ·refine T0 (T4 (by omega) (by simp_all)) (λe_9 hv10=>?_);refine T0 (Qlr x_1 e_9 v2 (((h).2 e_9 hv10)) (h_v2)) (λx_11 hv12=>?_);refine T1 (λhc13=>?_) (λhc13=>?_)
   ·exact T2 (Qv trivial)
   exact T2 (QV ⟨(by simp_all),by subst O;exact Qr (by simp_all) (h).1,trivial⟩)
  exact T2 (Qv trivial)
 rcases q6 with q6 | q6
 ·show Qk (Ai q6.1 q6.2) _;unfold Ai;exact T3
 show Qk (Aj) _;unfold Aj;exact T3
def Ms (O:(L_ QW))(h:Int)(h_l1:(QX YO) O):Qk (Dz O h) λr=>r=true->0<=h/\h<O.length:=by
 unfold Dz;exact T2 (by first | (intro hr;first | (cases hr;done) | omega | ((try simp only[QH,KT,KS,Di,Bk,QG,Xq,beq_iff_eq,bne_iff_ne,ne_eq,Hj,Zv,Gb,Ol,Lb,La,Wq,Uf,Nl,Nm,Nn]at *);omega)) | ((try simp only[QH,KT,KS,Di,Bk,QG,Xq,beq_iff_eq,bne_iff_ne,ne_eq,Hj,Zv,Gb,Ol,Lb,La,Wq,Uf,Nl,Nm,Nn]at *);omega) | simp_all)
def Qls (v1:Int)(v2:Qh)(v3:QW)(h:Xo v2)(O:YO v3):Xi (OB v1 v2 v3):=by
 unfold OB;exact T3
def Qgs (v1:Int)(v2:Qh)(v3:QW)(v4:Int)(h:Xo v2)(O:YO v3):Xi (Hv v1 v2 v3 v4):=by
 unfold Hv;exact T3
def Qgt (v1:Int)(v2:Qh)(v3:QW)(v4:Int)(h:Xo v2)(O:YO v3):Xi (Hw v1 v2 v3 v4):=by
 unfold Hw;exact T3
def Qgu (v1:Int)(v2:Qh)(v3:QW)(h:Xo v2)(O:YO v3):Xi (Hx v1 v2 v3):=by
 unfold Hx;exact T3
def Qjr (O:QW)(h:YO O):Xi (MV O):=by
 unfold MV;refine T0 (FU O.Name (h.1)) (λx_1 hv2=>?_);exact T3
def Qjs (p1:QW)(v2:QW)(h:YO p1)(O:YO v2):Xi (MW p1 v2):=by
 unfold MW;exact T3
def IX (s1:(L_ QW))(v2:QW)(h:(QX YO) s1)(h_v2:YO v2):Xi (JP s1 v2):=by
 unfold JP;refine T0 (Qk.up (s1.length) (λst=>st) (λ_=>True) (Q:=λq=>True) rfl trivial (λi2 st O hn4 hj5=>?_)) (λq6 hq7=>?_)
 ·obtain⟨x_1,hst⟩:∃y,y=st:=⟨_,rfl⟩;subst hst;replace O:x_1=(i2:Int):=O;show Qk (KM s1 v2 x_1) _;unfold KM;refine T1 (λhc8=>?_) (λhc8=>?_)
  ·refine T0 (T4 (by omega) (by simp_all)) (λe_9 hv10=>?_);refine T0 (Qjs e_9 v2 (((h).2 e_9 hv10)) (h_v2)) (λx_11 hv12=>?_);refine T1 (λhc13=>?_) (λhc13=>?_)
   ·exact T2 (Qv trivial)
   exact T2 (QV ⟨(by simp_all),by subst O;exact Qr (by simp_all) (h).1,trivial⟩)
  exact T2 (Qv trivial)
 rcases q6 with q6 | q6
 ·show Qk (KN q6) _;unfold KN;exact T3
 show Qk (KO) _;unfold KO;exact T3
def FY (s1:(L_ QW))(v2:QW)(h:(QX YO) s1)(O:YO v2):Xi (Jt s1 v2):=by
 unfold Jt;refine T0 (IX s1 v2 (h) (O)) (λx_1 hv2=>?_);exact T3
def Qjt (v1:Qh)(v2:Int)(v3:QW)(h:Xo v1)(O:YO v3)(hp0:0<=v2)(hp1:v2<v1.Tasks.length):Xi (MX v1 v2 v3):=by
 unfold MX;refine T0 (T5 (by simp_all;omega)) (λ_ _=>?_);refine T0 (FY ((v1.Tasks.drop 0).take (v2.toNat-0)) v3 (((h.2.2.1).drop _).take _) (O)) (λx_1 hv2=>?_);exact T3
def Qju (v1:Int)(O:QW)(h:YO O):Xi (FH v1 O):=by
 unfold FH;exact T3
def Qbw (O:Je)(h:Ec O):Xi (Uq O):=by
 unfold Uq;refine T0 (FU O.Name (h.1)) (λx_1 hv2=>?_);exact T3
def Qbx (p1:Je)(v2:Je)(h:Ec p1)(O:Ec v2):Xi (Ur p1 v2):=by
 unfold Ur;exact T3
def Mt (s1:(L_ Je))(v2:Je)(h:(QX Ec) s1)(h_v2:Ec v2):Xi (Kf s1 v2):=by
 unfold Kf;refine T0 (Qk.up (s1.length) (λst=>st) (λ_=>True) (Q:=λq=>True) rfl trivial (λi2 st O hn4 hj5=>?_)) (λq6 hq7=>?_)
 ·obtain⟨x_1,hst⟩:∃y,y=st:=⟨_,rfl⟩;subst hst;replace O:x_1=(i2:Int):=O;show Qk (Wi s1 v2 x_1) _;unfold Wi;refine T1 (λhc8=>?_) (λhc8=>?_)
  ·refine T0 (T4 (by omega) (by simp_all)) (λe_9 hv10=>?_);refine T0 (Qbx e_9 v2 (((h).2 e_9 hv10)) (h_v2)) (λx_11 hv12=>?_);refine T1 (λhc13=>?_) (λhc13=>?_)
   ·exact T2 (Qv trivial)
   exact T2 (QV ⟨(by simp_all),by subst O;exact Qr (by simp_all) (h).1,trivial⟩)
  exact T2 (Qv trivial)
 rcases q6 with q6 | q6
 ·show Qk (Wj q6) _;unfold Wj;exact T3
 show Qk (Wk) _;unfold Wk;exact T3
def Iu (s1:(L_ Je))(v2:Je)(h:(QX Ec) s1)(O:Ec v2):Xi (JI s1 v2):=by
 unfold JI;refine T0 (Mt s1 v2 (h) (O)) (λx_1 hv2=>?_);exact T3
def Qby (v1:(L_ Je))(v2:Int)(v3:Je)(h:(QX Ec) v1)(O:Ec v3)(hp0:0<=v2)(hp1:v2<v1.length):Xi (Us v1 v2 v3):=by
 unfold Us;refine T0 (T5 (by simp_all;omega)) (λ_ _=>?_);refine T0 (Iu ((v1.drop 0).take (v2.toNat-0)) v3 (((h).drop _).take _) (O)) (λx_1 hv2=>?_);exact T3
def Qbz (O:Qh)(v2:Je)(h:Xo O)(h_v2:Ec v2):Xi (Ut O v2):=by
 unfold Ut;refine T0 (Iq O.Colours v2.Colour (h.1)) (λx_1 hv2=>?_);exact T3
def Qgv (v1:Je)(v2:Int)(v3:(L_ Je))(v4:Int)(v5:Int)(v6:Qh)(v7:Int)(h:Ec v1)(O:(QX Ec) v3)(h_v6:Xo v6)(hp0:0<=v4)(hp1:v4<v3.length):Xi (Hz v1 v2 v3 v4 v5 v6 v7):=by
 unfold Hz;refine T0 (Qbw v1 (h)) (λx_1 hv2=>?_);refine T1 (λhc3=>?_) (λhc3=>?_)
 ·exact T3
 refine T0 (Qby v3 v4 v1 (O) (h) (by omega) (by omega)) (λx_4 hv5=>?_);refine T1 (λhc6=>?_) (λhc6=>?_)
 ·exact T3
 refine T0 (Qbz v6 v1 (h_v6) (h)) (λx_7 hv8=>?_);refine T1 (λhc9=>?_) (λhc9=>?_)
 ·exact T3
 exact T3
def QdF (k1:Int)(v2:Je)(v3:(L_ Je))(v4:Qh)(h:Ec v2)(O:(QX Ec) v3)(h_v4:Xo v4)(hp0:0<=k1)(hp1:k1<v3.length):Xi (Bs k1 v2 v3 v4):=by
 unfold Bs;refine T0 (Qgv v2 1 v3 k1 5 v4 3 (h) (O) (h_v4) (by omega) (by omega)) (λx_1 hv2=>?_);exact T3
def Qc6 (l1:(L_ Je))(v2:(L_ Je))(v3:Qh)(h:(QX Ec) l1)(h_v2:(QX Ec) v2)(h_v3:Xo v3)(hp0:l1.length<=v2.length):Xi (Ak l1 v2 v3):=by
 unfold Ak;refine T0 (Qk.up (l1.length) (λst=>st) (λ_=>True) (Q:=λq=>True) rfl trivial (λi2 st O hn4 hj5=>?_)) (λq6 hq7=>?_)
 ·obtain⟨x_1,hst⟩:∃y,y=st:=⟨_,rfl⟩;subst hst;replace O:x_1=(i2:Int):=O;show Qk (BB l1 v2 v3 x_1) _;unfold BB;refine T1 (λhc8=>?_) (λhc8=>?_)
  ·refine T0 (T4 (by omega) (by simp_all)) (λe_9 hv10=>?_);refine T0 (QdF x_1 e_9 v2 v3 (((h).2 e_9 hv10)) (h_v2) (h_v3) (by omega) (by simp_all;omega)) (λx_11 hv12=>?_);refine T1 (λhc13=>?_) (λhc13=>?_)
   ·exact T2 (Qv trivial)
   exact T2 (QV ⟨(by simp_all),by subst O;exact Qr (by simp_all) (h).1,trivial⟩)
  exact T2 (Qv trivial)
 rcases q6 with q6 | q6
 ·show Qk (BC q6.1 q6.2) _;unfold BC;exact T3
 show Qk (BD) _;unfold BD;exact T3
def Qfr (n1:Qh)(l2:(L_ Je))(O:Xo n1)(h:(QX Ec) l2):Xi (CW n1 l2):=by
 unfold CW;refine T0 (Qc6 l2 l2 n1 (h) (h) (O) (by omega)) (λx_1 hv2=>?_);exact T3
def Qjv (v1:Qh)(v2:QW)(h:Xo v1)(O:YO v2):Xi (MY v1 v2):=by
 unfold MY;refine T0 (Qfr v1 v2.Vars (h) (O.2.1)) (λx_1 hv2=>?_);exact T3
def QhP (v1:Qh)(v2:QW)(v3:Int)(h:Xo v1)(O:YO v2):Xi (Ck v1 v2 v3):=by
 unfold Ck;refine T0 (Qjv v1 v2 (h) (O)) (λx_1 hv2=>?_);exact T3
def Qcq (n1:Qh)(k2:Int)(h:Xo n1):Xi (Im n1 k2):=by
 unfold Im;refine T0 (Ms n1.Tasks k2 (h.2.2.1)) (λx_1 hv2=>?_);refine T1 (λhc3=>?_) (λhc3=>?_)
 ·exact T3
 refine T0 (T4 (by simp_all) (by simp_all)) (λe_4 hv5=>?_);refine T0 (Qk.up (e_4.Vars.length) (λst=>st.2) (λ_=>True) (Q:=λq=>True) rfl trivial (λi8 st hi9 hn10 hj11=>?_)) (λO hq13=>?_)
 ·obtain⟨out_6,x_7⟩:=st;replace hi9:x_7=(i8:Int):=hi9;show Qk (Pi e_4 n1 out_6 x_7) _;unfold Pi;refine T1 (λhc14=>?_) (λhc14=>?_)
  ·refine T0 (T4 (by omega) (by simp_all)) (λe_15 hv16=>?_);refine T0 (UB n1.Colours e_15.Colour (h.1)) (λx_17 hv18=>?_);refine T1 (λhc19=>?_) (λhc19=>?_)
   ·exact T2 (Qv trivial)
   exact T2 (QV ⟨(by simp_all),by subst hi9;exact Qr (by simp_all) (((h.2.2.1).2 e_4 hv5).2.1).1,trivial⟩)
  exact T2 (Qv trivial)
 rcases O with O | O
 ·show Qk (Pj) _;unfold Pj;exact T3
 show Qk (Pk O) _;unfold Pk;exact T3
def Qjw (O:Qh)(v2:Int)(h:Xo O):Xi (MZ O v2):=by
 unfold MZ;refine T0 (Qcq O v2 (h)) (λx_1 hv2=>?_);exact T3
def QnW (h:Int):Qk (NT h) λr=>0<=r->(h=1\/h=2\/h=3\/h=4\/h=5\/h=6)/\(h=3\/h=4->r=1)/\(h=5->r=2)/\(h=6->r=3):=by
 unfold NT;refine T1 (λO=>?_) (λO=>?_)
 ·unfold Az;rw[O];simp only[beq_iff_eq]at O;exact T2 (by omega)
 simp only[beq_eq_false_iff_ne]at O;unfold Az;refine T1 (λO=>T2 (by simp only[beq_iff_eq]at O;omega)) (λhc2=>?_);simp only[beq_eq_false_iff_ne]at hc2;refine T1 (λhc3=>?_) (λhc3=>?_)
 ·unfold Ay;rw[hc3];simp only[beq_iff_eq]at hc3;exact T2 (by omega)
 simp only[beq_eq_false_iff_ne]at hc3;unfold Ay;refine T1 (λO=>T2 (by simp only[beq_iff_eq]at O;omega)) (λhc4=>?_);simp only[beq_eq_false_iff_ne]at hc4;refine T1 (λO=>T2 (by simp only[beq_iff_eq]at O;omega)) (λhc5=>?_);simp only[beq_eq_false_iff_ne]at hc5;exact T1 (λO=>T2 (by simp only[beq_iff_eq]at O;omega)) (λhc6=>T2 (by omega))
def QmM (JE:Int)  : Xi (Mc JE):=by
 unfold Mc;exact T3
def Tv (rec_:Qn->Int->O_ Bool)(O:L_ Qn)(v2:Int)(h1:O.length<=maxLen)(h:∀k∈O,Qk (rec_ k v2) λr=>r=true->POk v2 k):Qk (XO rec_ O v2) λr=>r=false->∀k∈O,POk v2 k:=by
 unfold XO JM;refine T0 (P:=λx=>x<0->∀k∈O,POk v2 k) ?_ λx hx=>T2 λh=>hx (by simp only[Xq]at h;omega);refine T0 (Qk.up O.length (λst=>st) (λst=>∀(j:Nat) k,(j:Int)<st->O[j]? = C k->POk v2 k) (Q:=λq=>(∀x,q=.inl x->0<=x)/\(q=.inr ()->∀k∈O,POk v2 k)) rfl (λj k hj=>by omega) (λi st hi hn hj=>?_)) (λq hq=>?_)
 ·show Qk (XN O rec_ v2 st) _;unfold XN MM;refine T1 (λhc=>?_) (λhc=>T2 (Qv ⟨λx h=>(by cases h),λ_ k hk=>by
   obtain⟨j,hj1,hj2⟩:=Ug.1 hk;simp only[Xq]at hc;exact hj j k (by omega) (by rw[QN hj1,hj2])⟩))
  simp only[QG]at hc;rw[IG (by omega)];have hlt:st.toNat<O.length:=by omega
  rw[QN hlt];refine T0 (P:=λk=>k=O[st.toNat]) (T2 rfl) λk hk=>?_;subst hk;refine T0 (P:=λr=>r=false->POk v2 O[st.toNat]) (T0 (h _ (Xs hlt)) λx hx=>T2 λh=>hx (by simpa using h)) λx hx=>?_;refine T1 (λ_=>T2 (Qv ⟨λx h=>(by cases h;omega),λh=>(by cases h)⟩)) λhxf=>T2 (QV ⟨by omega,by rw[hi];exact Qr (by omega) h1,?_⟩);rw[hi,Qr (show i<O.length by omega) h1];intro j k hj' hk;by_cases c:j=i
  ·subst c;have e:st.toNat=j:=by omega
   have:=hx hxf;rw[QN (by omega)]at hk;cases hk;simpa only[e] using this
  exact hj j k (by omega) hk
 rcases q with q | q
 ·exact T2 λh=>absurd (hq.1 q rfl) (by omega)
 exact T2 λ_=>hq.2 rfl
def Py : ∀(n:Nat) (e:Qn) (v:Int),Wp e->SizeOf.sizeOf e<=n->Qk (YS n e v) λr=>r=true->POk v e
 | 0,e,_,_,h=>absurd e.pos (by omega)
 | n+1,e,v,he,h=>by
  unfold YS Fl;refine T0 (QnW e.Kind) λx hx=>?_;refine T1 (λ_=>T2 λh=>by cases h) λh1=>T1 (λ_=>T2 λh=>by cases h) λh2=>?_;refine T0 (P:=λ_=>True) ?_ λy _=>?_
  ·unfold Re;exact T1 (λ_=>T0 (QmM e.Num) λx _=>T3) λ_=>T3
  unfold Rf;refine T1 (λ_=>T2 λh=>by cases h) λ_=>?_;refine T0 (Tv (YS n) e.Kids v (WD he).1 λk O=>Py n k v ((WD he).2 k O) (by have:=Vz O;omega)) λx hx2=>T2 λhx3=>?_;simp only[KJ]at h1;have h3:=hx (by omega);simp only[TF,KS,Xq,beq_eq_false_iff_ne]at h2;exact .mk e h3.1 (λO=>by omega) (λO=>by have:=h3.2.1 O;omega) (λO=>by have:=h3.2.2.1 O;omega) (λO=>by have:=h3.2.2.2 O;omega) (hx2 (by simpa using hx3))
def QmN (e1:Qn)(h:Int)(O:Wp e1):Qk (Rg e1 h) λr=>r=true->POk h e1:=Py _ e1 h O (Yj _)
def Qbh : ∀(n:Nat) (e:Qn),Wp e->SizeOf.sizeOf e<=n->Qk (KW n e) λ_=>True
 | 0,e,_,h=>absurd e.pos (by omega)
 | n+1,e,he,h=>by
  unfold KW ML;refine T0 (Qk.up e.Kids.length (λst=>st.2) (λ_=>True) (Q:=λ_=>True) rfl trivial (λi st O hn _=>?_)) (λq _=>?_)
  ·obtain⟨a,x⟩:=st;replace O:x=(i:Int):=O;show Qk (Rb e (KW n) a x) _;unfold Rb;refine T1 (λhc=>?_) (λhc=>?_)
   ·simp only[QG]at hc;refine T0 (T4 (by omega) (by omega)) λk hk=>?_;have:=Vz hk;refine T0 (Qbh n k ((WD he).2 k hk) (by omega)) λd _=>?_;exact T2 (QV ⟨by omega,by subst O;exact Qr (by omega) (WD he).1,trivial⟩)
   exact T2 (Qv trivial)
  unfold QbQ;exact T3
def QmO (O:Qn)(h:Wp O):Qk (Rc O) λ_=>True:=Qbh _ O h (Yj _)
def Qcr : ∀(n:Nat) (e:Qn),Wp e->SizeOf.sizeOf e<=n->Qk (WG n e) λ_=>True
 | 0,e,_,h=>absurd e.pos (by omega)
 | n+1,e,he,h=>by
  unfold WG Ou;refine T0 (Qk.up e.Kids.length (λst=>st.2) (λ_=>True) (Q:=λ_=>True) rfl trivial (λi st O hn _=>?_)) (λq _=>?_)
  ·obtain⟨a,x⟩:=st;replace O:x=(i:Int):=O;show Qk (SU e (WG n) a x) _;unfold SU;refine T1 (λhc=>?_) (λhc=>?_)
   ·simp only[QG]at hc;refine T0 (T4 (by omega) (by omega)) λk hk=>?_;have:=Vz hk;refine T0 (Qcr n k ((WD he).2 k hk) (by omega)) λd _=>?_;exact T2 (QV ⟨by omega,by subst O;exact Qr (by omega) (WD he).1,trivial⟩)
   exact T2 (Qv trivial)
  unfold Qdg;exact T3
def QnX (O:Qn)(h:Wp O):Qk (TV O) λ_=>True:=Qcr _ O h (Yj _)
def No (e1:Qn)(O:Int)(h_e1:Wp e1):Qk (EN e1 O) λr=>r=true->POk O e1:=by
 unfold EN;refine T0 (P:=λr=>r=true->POk O e1) ?_ (λx hx=>T2 hx);unfold Rh;refine T0 (QmO e1 h_e1) (λx _=>?_);refine T1 (λ_=>?_) (λ_=>T2 λh=>by cases h);refine T0 (QnX e1 h_e1) (λx _=>?_);refine T1 (λ_=>?_) (λ_=>T2 λh=>by cases h);exact T0 (QmN e1 O h_e1) (λx hx=>T2 hx)
def Qjx (v1:QW)(v2:Int)(h:YO v1):Xi (Na v1 v2):=by
 unfold Na;refine T0 (P:=λ_=>True) ?_ (λx_1 hv2=>?_)
 ·unfold Zc;refine T0 (No v1.Guard v2 (h.2.2.1)) (λx_3 hv4=>?_);refine T1 (λO=>?_) (λO=>?_)
  ·refine T1 (λhc6=>?_) (λhc6=>?_)
   ·exact T3
   exact T3
  exact T3
 unfold Zd;exact T3
def Qgw (O:Qh)(v2:Jf)(h:Xo O)(h_v2:Ip v2):Xi (HA O v2):=by
 unfold HA;refine T0 (Wh O.Places v2.Place (h.2.1)) (λx_1 hv2=>?_);exact T3
def Qgx (O:Jf)(v2:Int)(h:Ip O):Xi (HB O v2):=by
 unfold HB;refine T0 (No O.Expr v2 (h.2)) (λx_1 hv2=>?_);exact T3
def Qgy (v1:Qh)(v2:Jf)(v3:Int)(v4:Int)(v5:Int)(O:Xo v1)(h:Ip v2):Xi (HC v1 v2 v3 v4 v5):=by
 unfold HC;refine T0 (Qgw v1 v2 (O) (h)) (λx_1 hv2=>?_);refine T1 (λhc3=>?_) (λhc3=>?_)
 ·exact T3
 refine T0 (Qgx v2 v4 (h)) (λx_4 hv5=>?_);refine T1 (λhc6=>?_) (λhc6=>?_)
 ·exact T3
 exact T3
def Qjy (p1:Int)(a2:Jf)(v3:Qh)(v4:Int)(h:Ip a2)(O:Xo v3):Xi (Nb p1 a2 v3 v4):=by
 unfold Nb;refine T0 (Qgy v3 a2 3 v4 1 (O) (h)) (λx_1 hv2=>?_);exact T3
def Qc7 (l1:(L_ Jf))(v2:Qh)(v3:Int)(h:(QX Ip) l1)(h_v2:Xo v2):Xi (Al l1 v2 v3):=by
 unfold Al;refine T0 (Qk.up (l1.length) (λst=>st) (λ_=>True) (Q:=λq=>True) rfl trivial (λi2 st O hn4 hj5=>?_)) (λq6 hq7=>?_)
 ·obtain⟨x_1,hst⟩:∃y,y=st:=⟨_,rfl⟩;subst hst;replace O:x_1=(i2:Int):=O;show Qk (BE l1 v2 v3 x_1) _;unfold BE;refine T1 (λhc8=>?_) (λhc8=>?_)
  ·refine T0 (T4 (by omega) (by simp_all)) (λe_9 hv10=>?_);refine T0 (Qjy x_1 e_9 v2 v3 (((h).2 e_9 hv10)) (h_v2)) (λx_11 hv12=>?_);refine T1 (λhc13=>?_) (λhc13=>?_)
   ·exact T2 (Qv trivial)
   exact T2 (QV ⟨(by simp_all),by subst O;exact Qr (by simp_all) (h).1,trivial⟩)
  exact T2 (Qv trivial)
 rcases q6 with q6 | q6
 ·show Qk (BF q6.1 q6.2) _;unfold BF;exact T3
 show Qk (BG) _;unfold BG;exact T3
def QdG (n1:Qh)(l2:(L_ Jf))(h:Int)(h_n1:Xo n1)(O:(QX Ip) l2):Xi (Mj n1 l2 h):=by
 unfold Mj;refine T0 (Qc7 l2 n1 h (O) (h_n1)) (λx_1 hv2=>?_);exact T3
def Qjz (v1:Qh)(v2:QW)(v3:Int)(h:Xo v1)(O:YO v2):Xi (Nc v1 v2 v3):=by
 unfold Nc;refine T0 (QdG v1 v2.Ins v3 (h) (O.2.2.2.2.2.1)) (λx_1 hv2=>?_);exact T3
def Qez (v1:Qh)(v2:QW)(v3:Int)(v4:Int)(h:Xo v1)(O:YO v2):Xi (EV v1 v2 v3 v4):=by
 unfold EV;refine T0 (Qjz v1 v2 v3 (h) (O)) (λx_1 hv2=>?_);exact T3
def QjA (v1:Qh)(v2:QW)(v3:Int)(h:Xo v1)(O:YO v2):Xi (Nd v1 v2 v3):=by
 unfold Nd;refine T0 (QdG v1 v2.Outs v3 (h) (O.2.2.2.2.2.2.1)) (λx_1 hv2=>?_);exact T3
def QeA (v1:Qh)(v2:QW)(v3:Int)(v4:Int)(h:Xo v1)(O:YO v2):Xi (EW v1 v2 v3 v4):=by
 unfold EW;refine T0 (QjA v1 v2 v3 (h) (O)) (λx_1 hv2=>?_);exact T3
def QdH (O:Qh)(v2:Int)(h:Xo O):Xi (Bt O v2):=by
 unfold Bt;refine T0 (Wh O.Places v2 (h.2.1)) (λx_1 hv2=>?_);exact T3
def Qbi (s1:LI_)(v2:Int)(O:(QX (λ_=>True)) s1):Xi (Dx s1 v2):=by
 unfold Dx;refine T0 (Qk.up (s1.length) (λst=>st) (λ_=>True) (Q:=λq=>True) rfl trivial (λi2 st h hn4 hj5=>?_)) (λq6 hq7=>?_)
 ·obtain⟨x_1,hst⟩:∃y,y=st:=⟨_,rfl⟩;subst hst;replace h:x_1=(i2:Int):=h;show Qk (Jg s1 v2 x_1) _;unfold Jg;refine T1 (λhc8=>?_) (λhc8=>?_)
  ·refine T0 (T4 (by omega) (by simp_all)) (λe_9 hv10=>?_);refine T1 (λhc11=>?_) (λhc11=>?_)
   ·exact T2 (Qv trivial)
   exact T2 (QV ⟨(by simp_all),by subst h;exact Qr (by simp_all) (O).1,trivial⟩)
  exact T2 (Qv trivial)
 rcases q6 with q6 | q6
 ·show Qk (Ad q6) _;unfold Ad;exact T3
 show Qk (Ae) _;unfold Ae;exact T3
def Hf (O:LI_)(v2:Int)(h:(QX (λ_=>True)) O):Xi (YH O v2):=by
 unfold YH;refine T0 (Qbi O v2 (h)) (λx_1 hv2=>?_);exact T3
def QdI (O:LI_)(v2:Int)(v3:Int)(h:(QX (λ_=>True)) O)(hp0:0<=v2)(hp1:v2<O.length):Xi (Bu O v2 v3):=by
 unfold Bu;refine T0 (T5 (by simp_all;omega)) (λ_ _=>?_);refine T0 (Hf ((O.drop 0).take (v2.toNat-0)) v3 (((h).drop _).take _)) (λx_1 hv2=>?_);exact T3
def Qgz (v1:Qh)(v2:Int)(v3:Int)(v4:LI_)(v5:Int)(v6:Int)(h:Xo v1)(O:(QX (λ_=>True)) v4)(hp0:0<=v5)(hp1:v5<v4.length):Xi (HD v1 v2 v3 v4 v5 v6):=by
 unfold HD;refine T0 (QdH v1 v2 (h)) (λx_1 hv2=>?_);refine T1 (λhc3=>?_) (λhc3=>?_)
 ·exact T3
 refine T0 (QdI v4 v5 v2 (O) (by omega) (by omega)) (λx_4 hv5=>?_);refine T1 (λhc6=>?_) (λhc6=>?_)
 ·exact T3
 exact T3
def Qfs (k1:Int)(h:Int)(v3:Qh)(v4:LI_)(O:Xo v3)(h_v4:(QX (λ_=>True)) v4)(hp0:0<=k1)(hp1:k1<v4.length):Xi (CX k1 h v3 v4):=by
 unfold CX;refine T0 (Qgz v3 h 3 v4 k1 5 (O) (h_v4) (by omega) (by omega)) (λx_1 hv2=>?_);exact T3
def QgA (l1:LI_)(v2:Qh)(v3:LI_)(h_l1:(QX (λ_=>True)) l1)(h_v2:Xo v2)(h_v3:(QX (λ_=>True)) v3)(hp0:l1.length<=v3.length):Xi (HE l1 v2 v3):=by
 unfold HE;refine T0 (Qk.up (l1.length) (λst=>st) (λ_=>True) (Q:=λq=>True) rfl trivial (λi2 st h hn4 hj5=>?_)) (λq6 hq7=>?_)
 ·obtain⟨O,hst⟩:∃y,y=st:=⟨_,rfl⟩;subst hst;replace h:O=(i2:Int):=h;show Qk (IU l1 v2 v3 O) _;unfold IU;refine T1 (λhc8=>?_) (λhc8=>?_)
  ·refine T0 (T4 (by omega) (by simp_all)) (λe_9 hv10=>?_);refine T0 (Qfs O e_9 v2 v3 (h_v2) (h_v3) (by omega) (by simp_all;omega)) (λx_11 hv12=>?_);refine T1 (λhc13=>?_) (λhc13=>?_)
   ·exact T2 (Qv trivial)
   exact T2 (QV ⟨(by simp_all),by subst h;exact Qr (by simp_all) (h_l1).1,trivial⟩)
  exact T2 (Qv trivial)
 rcases q6 with q6 | q6
 ·show Qk (IV q6.1 q6.2) _;unfold IV;exact T3
 show Qk (IW) _;unfold IW;exact T3
def QhQ (n1:Qh)(l2:LI_)(O:Xo n1)(h:(QX (λ_=>True)) l2):Xi (Lx n1 l2):=by
 unfold Lx;refine T0 (QgA l2 n1 l2 (h) (O) (h) (by omega)) (λx_1 hv2=>?_);exact T3
def QhR (v1:Qh)(v2:QW)(h:Xo v1)(O:YO v2):Xi (Lz v1 v2):=by
 unfold Lz;refine T0 (QhQ v1 v2.Cancel (h) (O.2.2.2.2.2.2.2.1)) (λx_1 hv2=>?_);exact T3
def QeB (v1:Qh)(v2:QW)(v3:Int)(h:Xo v1)(O:YO v2):Xi (EX v1 v2 v3):=by
 unfold EX;refine T0 (QhR v1 v2 (h) (O)) (λx_1 hv2=>?_);exact T3
def Zt (k1:Int)(O:(L_ Jf))(h:(QX Ip) O):Xi (Cm k1 O):=by
 unfold Cm;exact T3
def Qlt (O:QW)(h:YO O):Xi (DH O):=by
 unfold DH;refine T0 (P:=λ_=>True) ?_ (λx_1 hv2=>?_)
 ·unfold Pm;refine T0 (Zt O.Join O.Ins (h.2.2.2.2.2.1)) (λx_3 hv4=>?_);refine T1 (λhc5=>?_) (λhc5=>?_)
  ·refine T0 (Zt O.Split O.Outs (h.2.2.2.2.2.2.1)) (λx_6 hv7=>?_);refine T1 (λhc8=>?_) (λhc8=>?_)
   ·refine T1 (λhc9=>?_) (λhc9=>?_)
    ·refine T1 (λhc10=>?_) (λhc10=>?_)
     ·exact T3
     exact T3
    exact T3
   exact T3
  exact T3
 unfold Pn;exact T3
def QhS (O:QW)(h:YO O):Xi (Cn O):=by
 unfold Cn;refine T0 (Qlt O (h)) (λx_1 hv2=>?_);exact T3
def QgB (v1:QW)(v2:Int)(v3:Qh)(v4:Int)(v5:Int)(v6:Int)(v7:Int)(v8:Int)(v9:Int)(v10:Int)(v11:Int)(v12:Int)(v13:Int)(v14:Int)(v15:Int)(h:YO v1)(O:Xo v3)(hp0:0<=v4)(hp1:v4<v3.Tasks.length):Xi (Ek v1 v2 v3 v4 v5 v6 v7 v8 v9 v10 v11 v12 v13 v14 v15):=by
 unfold Ek;refine T0 (Qjr v1 (h)) (λx_1 hv2=>?_);refine T1 (λhc3=>?_) (λhc3=>?_)
 ·exact T3
 refine T0 (Qjt v3 v4 v1 (O) (h) (by omega) (by omega)) (λx_4 hv5=>?_);refine T1 (λhc6=>?_) (λhc6=>?_)
 ·exact T3
 refine T0 (Qju v6 v1 (h)) (λx_7 hv8=>?_);refine T1 (λhc9=>?_) (λhc9=>?_)
 ·exact T3
 refine T0 (QhP v3 v1 v8 (O) (h)) (λx_10 hv11=>?_);refine T1 (λhc12=>?_) (λhc12=>?_)
 ·exact T3
 refine T0 (Qjw v3 v4 (O)) (λx_13 hv14=>?_);refine T1 (λhc15=>?_) (λhc15=>?_)
 ·exact T3
 refine T0 (Qjx v1 v6 (h)) (λx_16 hv17=>?_);refine T1 (λhc18=>?_) (λhc18=>?_)
 ·exact T3
 refine T0 (Qez v3 v1 v6 x_10.2 (O) (h)) (λx_19 hv20=>?_);refine T1 (λhc21=>?_) (λhc21=>?_)
 ·exact T3
 refine T0 (QeA v3 v1 v6 x_19.2 (O) (h)) (λx_22 hv23=>?_);refine T1 (λhc24=>?_) (λhc24=>?_)
 ·exact T3
 refine T0 (QeB v3 v1 x_22.2 (O) (h)) (λx_25 hv26=>?_);refine T1 (λhc27=>?_) (λhc27=>?_)
 ·exact T3
 refine T0 (QhS v1 (h)) (λx_28 hv29=>?_);refine T1 (λhc30=>?_) (λhc30=>?_)
 ·exact T3
 exact T3
def QdJ (n1:Qh)(k2:Int)(h:Xo n1):Xi (KP n1 k2):=by
 unfold KP;refine T0 (Ms n1.Tasks k2 (h.2.2.1)) (λx_1 hv2=>?_);refine T1 (λhc3=>?_) (λhc3=>?_)
 ·exact T3
 refine T0 (Zs n1 (h)) (λx_4 hv5=>?_);refine T1 (λhc6=>?_) (λhc6=>?_)
 ·exact T3
 refine T0 (T4 (by simp_all) (by simp_all)) (λO hv8=>?_);refine T0 (T4 (by simp_all) (by simp_all)) (λe_9 hv10=>?_);refine T0 (Qls 0 n1 O (h) (((h.2.2.1).2 O hv8))) (λx_11 hv12=>?_);refine T0 (Qgs 0 n1 O (e_9.Vars.length:Int) (h) (((h.2.2.1).2 O hv8))) (λx_13 hv14=>?_);refine T0 (Qgt 0 n1 O (e_9.Vars.length:Int) (h) (((h.2.2.1).2 O hv8))) (λx_15 hv16=>?_);refine T0 (Qgu 0 n1 O (h) (((h.2.2.1).2 O hv8))) (λx_17 hv18=>?_);refine T0 (QgB O 1 n1 k2 5 (e_9.Vars.length:Int) 2 0 (-1) 2 1 (-1) (-1) (-1) 11 (((h.2.2.1).2 O hv8)) (h) (by simp_all) (by simp_all)) (λx_19 hv20=>?_);refine T1 (λhc21=>?_) (λhc21=>?_)
 ·exact T3
 exact T3
def Qlu (k1:Int)(p2:QW)(v3:Qh)(O:YO p2)(h:Xo v3):Xi (Io k1 p2 v3):=by
 unfold Io;refine T0 (QdJ v3 k1 (h)) (λx_1 hv2=>?_);exact T3
def QbA (l1:(L_ QW))(v2:Qh)(h:(QX YO) l1)(h_v2:Xo v2):Xi (Wo l1 v2):=by
 unfold Wo;refine T0 (Qk.up (l1.length) (λst=>st) (λ_=>True) (Q:=λq=>True) rfl trivial (λi2 st O hn4 hj5=>?_)) (λq6 hq7=>?_)
 ·obtain⟨x_1,hst⟩:∃y,y=st:=⟨_,rfl⟩;subst hst;replace O:x_1=(i2:Int):=O;show Qk (Wz l1 v2 x_1) _;unfold Wz;refine T1 (λhc8=>?_) (λhc8=>?_)
  ·refine T0 (T4 (by omega) (by simp_all)) (λe_9 hv10=>?_);refine T0 (Qlu x_1 e_9 v2 (((h).2 e_9 hv10)) (h_v2)) (λx_11 hv12=>?_);refine T1 (λhc13=>?_) (λhc13=>?_)
   ·exact T2 (Qv trivial)
   exact T2 (QV ⟨(by simp_all),by subst O;exact Qr (by simp_all) (h).1,trivial⟩)
  exact T2 (Qv trivial)
 rcases q6 with q6 | q6
 ·show Qk (AW q6.1 q6.2) _;unfold AW;exact T3
 show Qk (AX) _;unfold AX;exact T3
def QnY (n1:Qh)(h:Xo n1):Xi (Aw n1):=by
 unfold Aw;refine T0 (Qll n1 2 3 1 (h)) (λx_1 hv2=>?_);refine T1 (λhc3=>?_) (λhc3=>?_)
 ·exact T3
 refine T0 (Zs n1 (h)) (λx_4 hv5=>?_);refine T1 (λhc6=>?_) (λhc6=>?_)
 ·exact T3
 refine T0 (Qbg n1.Places n1 (h.2.1) (h)) (λx_7 hv8=>?_);refine T1 (λhc9=>?_) (λhc9=>?_)
 ·exact T3
 refine T0 (QbA n1.Tasks n1 (h.2.2.1) (h)) (λx_10 hv11=>?_);refine T1 (λO=>?_) (λO=>?_)
 ·exact T3
 exact T3
def QoS (O:Int)(b2:Int)  : Xi (Hp O b2):=by
 unfold Hp;refine T1 (λh=>?_) (λh=>?_)
 ·exact T3
 exact T3
def Qft (O:Int)(b2:Int)  : Xi (Dd O b2):=by
 unfold Dd;refine T1 (λh=>?_) (λh=>?_)
 ·exact T3
 exact T3
def QeZ (O:Int)  : Xi (CA O):=by
 unfold CA;refine T1 (λh=>?_) (λh=>?_)
 ·exact T3
 exact T3
def Qfu (h:Int)(O:Int)  : Xi (GE h O):=by
 unfold GE;exact T3
def QjB (a1:Int)(b2:Int)  : Xi (AA a1 b2):=by
 unfold AA;refine T0 (QeZ a1 ) (λx_1 hv2=>?_);refine T0 (QeZ b2 ) (λx_3 hv4=>?_);refine T0 (Qfu x_1 x_3 ) (λx_5 hv6=>?_);refine T1 (λh=>?_) (λh=>?_)
 ·unfold De;refine T1 (λO=>?_) (λO=>?_)
  ·exact T3
  exact T3
 unfold De;refine T1 (λhc9=>?_) (λhc9=>?_)
 ·exact T3
 exact T3
def Zu (a1:Int)(b2:Int)  : Xi (We a1 b2):=by
 unfold We;refine T1 (λh=>?_) (λh=>?_)
 ·exact T3
 refine T1 (λO=>?_) (λO=>?_)
 ·exact T3
 refine T0 (T5 (by simp_all)) (λ_ _=>?_);refine T0 (T5 (by simp_all)) (λ_ _=>?_);exact T3
def Uc (O:Bool)  : Xi (Ke O):=by
 unfold Ke;refine T1 (λh=>?_) (λh=>?_)
 ·exact T3
 exact T3
def CK (JE:Int)(O:Int)(h:Int)  : Xi (JY JE O h):=by
 unfold JY;refine T1 (λhc1=>?_) (λhc1=>?_)
 ·refine T0 (QoS O h ) (λx_2 hv3=>?_);exact T3
 refine T1 (λhc4=>?_) (λhc4=>?_)
 ·refine T0 (Qft O h ) (λx_5 hv6=>?_);exact T3
 refine T1 (λhc7=>?_) (λhc7=>?_)
 ·refine T0 (QjB O h ) (λx_8 hv9=>?_);exact T3
 refine T1 (λhc10=>?_) (λhc10=>?_)
 ·refine T0 (Zu O h ) (λx_11 hv12=>?_);exact T3
 refine T1 (λhc13=>?_) (λhc13=>?_)
 ·refine T0 (Zu O h ) (λx_14 hv15=>?_);exact T3
 refine T1 (λhc16=>?_) (λhc16=>?_)
 ·refine T0 (Uc (O==h) ) (λx_17 hv18=>?_);exact T3
 refine T1 (λhc19=>?_) (λhc19=>?_)
 ·refine T0 (Uc (O != h) ) (λx_20 hv21=>?_);exact T3
 refine T1 (λhc22=>?_) (λhc22=>?_)
 ·refine T0 (Uc (decide (O<h)) ) (λx_23 hv24=>?_);exact T3
 refine T1 (λhc25=>?_) (λhc25=>?_)
 ·refine T0 (Uc (decide (O<=h)) ) (λx_26 hv27=>?_);exact T3
 refine T1 (λhc28=>?_) (λhc28=>?_)
 ·refine T0 (P:=λ_=>True) ?_ (λv_29 hv30=>?_)
  ·unfold Rj;refine T1 (λhc31=>?_) (λhc31=>?_)
   ·refine T0 (Uc (h != 0) ) (λx_32 hv33=>?_);exact T3
   refine T0 (Uc false ) (λx_34 hv35=>?_);exact T3
  unfold Qau;exact T3
 refine T1 (λhc36=>?_) (λhc36=>?_)
 ·refine T0 (P:=λ_=>True) ?_ (λv_37 hv38=>?_)
  ·unfold Rk;refine T1 (λhc39=>?_) (λhc39=>?_)
   ·refine T0 (Uc true ) (λx_40 hv41=>?_);exact T3
   refine T0 (Uc (h != 0) ) (λx_42 hv43=>?_);exact T3
  unfold Qav;exact T3
 exact T3
def QgC (h:Int)  : Xi (Rm h):=by
 unfold Rm;refine T0 (CK 2 0 h ) (λx_1 O=>?_);exact T3
def Qbj (b:QBg)(h:b.length<=maxLen):Gl b=C (Ea (-1) b):=by
 unfold Gl;have O:=Mq (body:=λst=>DT b st.1 st.2) (l:=b) (ρ:=Unit⊕Unit) (λi (t:Int)=>(t,(i:Int)))
  (λi t x=>bif ((decide (x.1<=t))||((decide (x.2<1))||(decide (1048576<x.2))))then .inr (.inl ())else .inl x.1) (λ_=>.inr ())
  (λi t x hi hx=>by
   show DT b t i=_;unfold DT;rw[Qi (by omega:(i:Int)<b.length),Qq,QQ,hx,Qa];cases ((decide (x.1<=t))||((decide (x.2<1))||(decide (1048576<x.2))))with
   | true=>rfl
   | false=>simp only[Qd,Sum.elim_inl];rw[Qr hi h])
  (λt=>by
   show DT b t b.length=_;unfold DT;rw[Qj (by omega)];rfl) (-1) (s0:=(-1,0)) rfl
 rw[O];have:∀(l:QBg) (k:Nat) (t:Int),EF (λi t (x:Int×Int)=>(bif ((decide (x.1<=t))||((decide (x.2<1))||(decide (1048576<x.2))))then .inr (.inl ())else .inl x.1:Int⊕(Unit⊕Unit))) (λ_=>.inr ()) k t l=bif Ea t l then .inr ()else .inl ():=by
  intro l
  induction l with
  | nil=>intro k t;rfl
  | cons x l ih=>
   intro k t;rw[EF,Ea];cases ((decide (x.1<=t))||((decide (x.2<1))||(decide (1048576<x.2))))with
   | true=>rfl
   | false=>simp only[Qd,Sum.elim_inl,Zw,TH];exact ih _ _
 rw[this];cases Ea (-1) b<;>rfl
def Qcs (b:QBg)(h:b.length<=maxLen):OT b=C (bif Ea (-1) b then .inr b else .inl ()):=by
 unfold OT;rw[Qbj b h,Qa];cases hr:Ea (-1) b with
 | false=>rfl
 | true=>
  simp only[Jo,Qd,Qq];have ha:=(YV.1 hr).1;obtain⟨r,h1,h2⟩:=AE (body:=λst=>Ix b st.1 st.2) b.length (λi s=>s=((i:Int),b.take i)) (λr=>r=b)
   (λi s O hs=>by
    subst hs;refine .inl ⟨(((i+1:Nat):Int),b.take (i+1)),?_,rfl⟩;show Ix b i (b.take i)=_;unfold Ix;rw[Qi (by omega:(i:Int)<b.length),Qq,QQ,QN O,Qa,Qr O h];have e:b.take (i+1)=b.take i++[b[i]]:=by rw[UU,QN O];rfl
    rw[e,<-Qs8 (by have:=(ha.sublist (List.take_sublist (i+1) b));rw[e]at this;exact this)])
   (λs hs=>by
    subst hs;refine⟨_,?_,rfl⟩;show Ix b b.length (b.take b.length)=_;unfold Ix;rw[Qj (by omega),BY];rfl) (0,[]) rfl
  rw[h1,h2];rfl
def Qc8 (a b:QBg)(O:a.length<=maxLen)(h:b.length<=maxLen):MH a b=C (bif Ea (-1) a then(bif Ea (-1) b then .inr (.inr (.inr (a,b)))else .inr (.inr (.inl a)))else(bif Ea (-1) b then .inr (.inl b)else .inl ())):=by
 unfold MH;rw[Qcs a O];cases Ea (-1) a with
 | true=>
  simp only[Qq,Qa,Sum.elim_inr];unfold QeR;rw[Qcs b h];cases Ea (-1) b<;>rfl
 | false=>
  simp only[Qd,Qa,Sum.elim_inl];unfold QeQ;rw[Qcs b h];cases Ea (-1) b<;>rfl
def ON (m:QBg)(ha:GD m)(h':m.length<=8796093022208):Ed m=C (Mr m):=by
 have h:m.length<=maxLen:=by unfold maxLen;omega
 unfold Ed Gv IN;simp only[Qi (show m.length<=17592186044416 by omega),Am rfl,Qa,QrP ha];obtain⟨r,h1,h2⟩:=AE (body:=λst=>Dp (m.map Prod.fst) m st.1 st.2) m.length (λi s=>s=((i:Int),Mr (m.take i))) (λr=>r=Mr m)
  (λi s O hs=>by
   subst hs;refine .inl ⟨(((i+1:Nat):Int),Mr (m.take (i+1))),?_,rfl⟩;show Dp (m.map Prod.fst) m i (Mr (m.take i))=_;unfold Dp;have e:m.take (i+1)=m.take i++[m[i]]:=by rw[UU,QN O];rfl
   have ec:(Xa m m[i].1).getD 0=m[i].2:=Eu ha.nd (Xs O);rw[Qi (by simp;omega),Qq,QQ,Yh,QN O,GR,Qa,ec];have hl:(Mr (m.take i)).length<=i:=YC (QbE _ _) (by simp;omega);cases hc:decide (0<m[i].2)with
   | true=>
    simp only[Qq];rw[YI (by simp;omega),Qa];unfold GW;rw[Qr O h,e];unfold Mr;rw[QdL,Bl,if_pos hc];rfl
   | false=>
    simp only[Qd];unfold GW;rw[Qr O h,e];unfold Mr;rw[QdL,Bl,if_neg (by rw[hc];decide),List.filter_nil,List.append_nil])
  (λs hs=>by
   subst hs;refine⟨_,?_,rfl⟩;show Dp (m.map Prod.fst) m m.length (Mr (m.take m.length))=_;unfold Dp;rw[Qj (by simp),BY];rfl) (0,[]) rfl
 rw[h1,h2];rfl
def QoT (m:QBg):(Mr m).length<=m.length:=QbE _ _
def Ud (a b:QBg)(h:a.length+b.length<=8796093022208):(¬(Rt a/\Rt b)/\JB a b=C ([],1))\/(Rt a/\Rt b/\(∃k,1048576<QD a k+QD b k)/\JB a b=C ([],2))\/
  (Rt a/\Rt b/\∃r,JB a b=C (r,0)/\Rt r/\(∀k,QD r k=QD a k+QD b k)/\r.length<=a.length+b.length):=by
 unfold JB;rw[Qc8 a b (by unfold maxLen;omega) (by unfold maxLen;omega),Qa];cases ra:Ea (-1) a with
 | false=>exact .inl ⟨λhh=>(by rw[YV.2 hh.1]at ra;cases ra),by cases Ea (-1) b<;>rfl⟩
 | true=>
  cases rb:Ea (-1) b with
  | false=>exact .inl ⟨λhh=>(by rw[YV.2 hh.2]at rb;cases rb),rfl⟩
  | true=>
   have hra:=YV.1 ra;have O:=YV.1 rb;simp only[Qq,Sum.elim_inr];unfold QfQ;have hw:∀p∈b,QD a p.1+p.2=QD a p.1+QD b p.1:=λp hp=>by rw[Eu O.1.nd hp]
   rcases Qlh (g:=λx v=>Qm (x+v)) (stop:=λx=>decide (1048576<x)) (q:=C ()) (body:=λst p=>Fi st p.1 p.2) (λs p=>by
     show Fi s p.1 p.2=_;unfold Fi;rw[He,if_pos rfl];unfold QD;simp only[ZZ];cases decide (1048576<Qm ((Xa s p.1).getD 0+p.2))<;>rfl) hra.1 O.1.nd with⟨⟨p,h1,h2⟩,h3⟩|⟨h1,s',h3,h4,h5,h6⟩
   ·refine .inr (.inl ⟨hra,O,⟨p.1,?_⟩,?_⟩)
    ·have:=hra.cnt p.1;have:=O.cnt p.1;have h2:=Xc h2;rw[Eu O.1.nd h1];rw[Eu O.1.nd h1]at this;rwa[Xj (by omega)]at h2
    simp only[h3 () rfl];rfl
   have hk:∀k,QD s' k=QD a k+QD b k/\QD s' k<=1048576:=λk=>by
    have ca:=hra.cnt k;have cb:=O.cnt k;have e:=h6 k;unfold QgW at e;cases hm:Xa b k with
    | none=>
     rw[hm]at e;simp only at e;have:QD b k=0:=by unfold QD;rw[hm];rfl
     have e2:QD s' k=QD a k:=by unfold QD;rw[e]
     omega
    | some v=>
     rw[hm]at e;simp only at e;have e1:QD b k=v:=by unfold QD;rw[hm];rfl
     have e2:QD s' k=Qm (QD a k+v):=by unfold QD;rw[e];rfl
     have h7:=h1 (k,v) ((JZ O.1.nd).1 hm);simp only[Xq]at h7;rw[Xj (by omega)]at e2 h7;omega
   refine .inr (.inr ⟨hra,O,Mr s',?_,QrO h4 (λk hk0=>⟨?_,(hk k).2⟩),λk=>?_,YC (QoT s') h5⟩)
   ·simp only[h3,Qa,Sum.elim_inl];unfold Qap;rw[ON s' h4 (by omega)];rfl
   ·have:=(hk k).1;have ca:=hra.cnt k;have cb:=O.cnt k;by_cases c:0<QD a k
    ·exact hra.cnt_pos c
    exact O.cnt_pos (by omega)
   rw[QoR h4,(hk k).1];have ca:=hra.cnt k;have cb:=O.cnt k;split<;>omega
def Qbk (m h:QBg):GY m h=C (!(m.any λp=>decide (QD h p.1<p.2))):=by
 unfold GY;rw[QqK (bad:=λp=>decide (QD h p.1<p.2)) (q:=()) (λp=>by
  show Dv h p.1 p.2=_;unfold Dv QD;cases decide ((Xa h p.1).getD 0<p.2)<;>rfl)]
 cases m.any λp=>decide (QD h p.1<p.2)<;>rfl
def QeC {a b:QBg}(O:Rt a)(hb:Rt b):(a.any λp=>decide (QD b p.1<p.2))=false↔∀k,QD a k<=QD b k:=by
 rw[<-Hj,Oj];simp only[QG,not_exists,not_and];constructor
 ·intro h k;have cb:=hb.cnt k;cases e:Xa a k with
  | none=>
   have:QD a k=0:=by unfold QD;rw[e];rfl
   omega
  | some v=>
   have h1:=h _ ((JZ O.1.nd).1 e);have:QD a k=v:=by unfold QD;rw[e];rfl
   simp only at h1;omega
 intro h p hp hlt;have:=h p.1;rw[Eu O.1.nd hp]at this;omega
def LJ (a b:QBg)(ha:a.length<=maxLen)(hb:b.length<=maxLen):∃r,Mf a b=C r/\(r=true↔Rt a/\Rt b/\∀k,QD a k<=QD b k):=by
 unfold Mf;rw[Qc8 a b ha hb,Qa];cases ra:Ea (-1) a with
 | false=>exact⟨false,by cases Ea (-1) b<;>rfl,by simp;intro hh;rw[YV.2 hh]at ra;cases ra⟩
 | true=>
  cases rb:Ea (-1) b with
  | false=>exact⟨false,rfl,by simp;intro _ hh;rw[YV.2 hh]at rb;cases rb⟩
  | true=>
   have O:=YV.1 ra;have hrb:=YV.1 rb;refine⟨!(a.any λp=>decide (QD b p.1<p.2)),?_,?_⟩
   ·simp only[Qq,Sum.elim_inr];unfold QbU;rw[Qbk];rfl
   rw[Di,QeC O hrb];exact⟨λh=>⟨O,hrb,h⟩,λh=>h.2.2⟩
def BX (a b:QBg)(h:a.length+b.length<=8796093022208):(¬(Rt a/\Rt b)/\Jy a b=C ([],1))\/(Rt a/\Rt b/\(∃k,QD a k<QD b k)/\Jy a b=C ([],10))\/
  (Rt a/\Rt b/\(∀k,QD b k<=QD a k)/\∃r,Jy a b=C (r,0)/\Rt r/\(∀k,QD r k=QD a k-QD b k)/\r.length<=a.length+b.length):=by
 unfold Jy;rw[Qc8 a b (by unfold maxLen;omega) (by unfold maxLen;omega),Qa];cases ra:Ea (-1) a with
 | false=>exact .inl ⟨λhh=>(by rw[YV.2 hh.1]at ra;cases ra),by cases Ea (-1) b<;>rfl⟩
 | true=>
  cases rb:Ea (-1) b with
  | false=>exact .inl ⟨λhh=>(by rw[YV.2 hh.2]at rb;cases rb),rfl⟩
  | true=>
   have O:=YV.1 ra;have hrb:=YV.1 rb;simp only[Qq,Sum.elim_inr];unfold QeS;rw[Qbk,Qa];cases hw:b.any λp=>decide (QD a p.1<p.2)with
   | true=>
    refine .inr (.inl ⟨O,hrb,?_,rfl⟩);obtain⟨p,h1,h2⟩:=Oj.1 hw;exact⟨p.1,by rw[Eu hrb.1.nd h1];exact Xc h2⟩
   | false=>
    have hle:=(QeC hrb O).1 hw;simp only[Zw,Jo,Qd];rcases Qlh (g:=λx v=>Qm (x-v)) (stop:=λ_=>false) (q:=none) (body:=λst p=>BP st p.1 p.2) (λs p=>by
      show BP s p.1 p.2=_;unfold BP QD;rfl) O.1 hrb.1.nd with⟨⟨p,h1,h2⟩,h3⟩|⟨h1,s',h3,h4,h5,h6⟩
    ·cases h2
    have hk:∀k,QD s' k=QD a k-QD b k:=λk=>by
     have ca:=O.cnt k;have cb:=hrb.cnt k;have e:=h6 k;unfold QgW at e;cases hm:Xa b k with
     | none=>
      rw[hm]at e;simp only at e;have:QD b k=0:=by unfold QD;rw[hm];rfl
      have e2:QD s' k=QD a k:=by unfold QD;rw[e]
      omega
     | some v=>
      rw[hm]at e;simp only at e;have e1:QD b k=v:=by unfold QD;rw[hm];rfl
      have e2:QD s' k=Qm (QD a k-v):=by unfold QD;rw[e];rfl
      rw[Xj (by omega)]at e2;omega
    refine .inr (.inr ⟨O,hrb,hle,Mr s',?_,QrO h4 (λk hk0=>?_),λk=>?_,YC (QoT s') h5⟩)
    ·simp only[h3,Qa,Sum.elim_inl];unfold VH;rw[ON s' h4 (by omega)];rfl
    ·have:=hk k;have ca:=O.cnt k;have cb:=hrb.cnt k;exact⟨O.cnt_pos (by omega),by omega⟩
    rw[QoR h4,hk k];have:=hle k;split<;>omega
def ZN (t:Int):SN [t]=C (bif decide (0<=t)then [(t,1)]else []):=by
 unfold SN;rw[Yn];show((Cy [t] 0 []).bind _).bind _=_;unfold Cy;rw[Qi (by simp),Qq,show idx [t] 0=C t from rfl,Qa];unfold TU;rw[show Qm (0+1)=1 from by decide];cases h:decide (0<=t)with
 | false=>
  simp only[Qd,Qa,Sum.elim_inl];rw[Yn];show((Cy [t] 1 []).bind _).bind _=_;unfold Cy;rw[Qj (by simp)];simp only[Qd,Qa,Sum.elim_inr];unfold QcP;rw[ON [] List.Pairwise.nil (by simp)];rfl
 | true=>
  simp only[Qq,Qa,Sum.elim_inl];rw[Yn];show((Cy [t] 1 [(t,min2 (Qm (0+1)) 1048576)]).bind _).bind _=_;unfold Cy;rw[Qj (by simp)];simp only[Qd,Qa,Sum.elim_inr];unfold QcP;rw[ON _ (List.pairwise_singleton _ _) (by simp[maxLen]),show min2 (Qm (0+1)) 1048576=1 from by decide];rfl
def QpV : ∀(n:Nat) (e:Qn) (d:Int),Wp e->SizeOf.sizeOf e<=n->Qk (UG n e d) λ_=>True
 | 0,e,_,_,h=>absurd e.pos (by omega)
 | n+1,e,d,he,h=>by
  unfold UG VK;refine T1 (λ_=>T3) λ_=>?_;refine T0 (Qk.up e.Kids.length (λst=>st.2) (λ_=>True) (Q:=λ_=>True) rfl trivial (λi st O hn _=>?_)) (λq _=>?_)
  ·obtain⟨a,x⟩:=st;replace O:x=(i:Int):=O;show Qk (Te e (UG n) d a x) _;unfold Te;refine T1 (λhc=>?_) (λhc=>T2 (Qv trivial));simp only[QG]at hc;refine T0 (T4 (by omega) (by omega)) λk hk=>?_;have:=Vz hk;refine T0 (QpV n k _ ((WD he).2 k hk) (by omega)) λy _=>?_;refine T1 (λ_=>T2 (Qv trivial)) λ_=>T1 (λ_=>T2 (Qv trivial)) λ_=>?_;exact T2 (QV ⟨by omega,by subst O;exact Qr (by omega) (WD he).1,trivial⟩)
  rcases q with q | q
  ·exact T3
  exact T3
def QmP (e:Qn)(h:Wp e):Qk (ID e) λ_=>True:=by
 unfold ID QcZ;exact T0 (QpV _ e 60 h (Yj _)) λ_ _=>T3
def Qt8 (n1:Qh)(h:Xo n1)(q0:Int):Qk (RK n1 q0) λr=>r=true->q0<=400:=by
 unfold RK;refine T0 (Qk.up n1.Tasks.length (λst=>st.2) (λ_=>True) (Q:=λ_=>True) rfl trivial (λi st hi hn _=>?_)) (λq _=>?_)
 ·obtain⟨a,x⟩:=st;replace hi:x=(i:Int):=hi;show Qk (RJ n1 a x) _;unfold RJ;refine T1 (λhc=>?_) (λ_=>T2 (Qv trivial));simp only[QG]at hc;refine T0 (T4 (by omega) (by omega)) λe he=>?_;have ke:=h.2.2.1.2 e he;refine T1 (λ_=>T2 (Qv trivial)) λ_=>?_;refine T0 (Qk.up e.Vars.length (λst=>st) (λ_=>True) (Q:=λ_=>True) rfl trivial (λi2 st O hn2 _=>?_)) (λq _=>?_)
  ·show Qk (RC e st) _;unfold RC;refine T1 (λhc=>?_) (λ_=>T2 (Qv trivial));simp only[QG]at hc;refine T0 (T4 (by omega) (by omega)) λs _=>?_;exact T1 (λ_=>T2 (Qv trivial)) λ_=>T2 (QV ⟨by omega,by rw[O];exact Qr (by omega) ke.2.1.1,trivial⟩)
  rcases q with q | q
  ·exact T2 (Qv trivial)
  show Qk (RI e a x) _;unfold RI;refine T0 (QmP e.Guard ke.2.2.1) λg _=>?_;refine T0 (Qk.up e.Ins.length (λst=>st.2) (λ_=>True) (Q:=λ_=>True) rfl trivial (λi2 st O hn2 _=>?_)) (λq _=>?_)
  ·obtain⟨b,y⟩:=st;replace O:y=(i2:Int):=O;show Qk (RD e b y) _;unfold RD;refine T1 (λhc=>?_) (λ_=>T2 (Qv trivial));simp only[QG]at hc;refine T0 (T4 (by omega) (by omega)) λs hs=>?_;refine T0 (QmP s.Expr (ke.2.2.2.2.2.1.2 s hs).2) λg _=>?_;exact T2 (QV ⟨by omega,by subst O;exact Qr (by omega) ke.2.2.2.2.2.1.1,trivial⟩)
  show Qk (RH e a x q) _;unfold RH;refine T0 (Qk.up e.Outs.length (λst=>st.2) (λ_=>True) (Q:=λ_=>True) rfl trivial (λi2 st O hn2 _=>?_)) (λq _=>?_)
  ·obtain⟨b,y⟩:=st;replace O:y=(i2:Int):=O;show Qk (RF e b y) _;unfold RF;refine T1 (λhc=>?_) (λ_=>T2 (Qv trivial));simp only[QG]at hc;refine T0 (T4 (by omega) (by omega)) λs hs=>?_;refine T0 (QmP s.Expr (ke.2.2.2.2.2.2.1.2 s hs).2) λg _=>?_;exact T2 (QV ⟨by omega,by subst O;exact Qr (by omega) ke.2.2.2.2.2.2.1.1,trivial⟩)
  show Qk (RG a e x q) _;unfold RG;exact T1 (λ_=>T2 (Qv trivial)) λ_=>T2 (QV ⟨by omega,by subst hi;exact Qr (by omega) h.2.2.1.1,trivial⟩)
 rcases q with q | q
 ·exact T2 λh=>by cases h
 exact T2 λh=>by simpa using h
def Qt9 (n1:Qh)(h:Xo n1):Qk (TW n1) λr=>r=true->n1.Colours.length<=40/\n1.Places.length<=70/\n1.Tasks.length<=70:=by
 unfold TW;refine T1 (λ_=>T2 λh=>by cases h) λO=>?_;simp only[KS,Xq]at O;refine T6 (P:=λ_=>True) ?_ λ_ _ _=>by omega
 refine T0 (Qk.up n1.Colours.length (λst=>st.2) (λ_=>True) (Q:=λ_=>True) rfl trivial (λi st hi hn _=>?_)) (λq _=>?_)
 ·obtain⟨a,x⟩:=st;replace hi:x=(i:Int):=hi;show Qk (Th n1 a x) _;unfold Th;refine T1 (λO=>?_) (λ_=>T2 (Qv trivial));simp only[QG]at O;refine T0 (T4 (by omega) (by omega)).self λe he=>?_;obtain⟨he,hm⟩:=he;refine T0 (P:=λ_=>True) ?_ λy _=>?_
  ·unfold Qdo;rw[he,Qa];exact T1 (λ_=>T3) λ_=>T3
  unfold Qdp;refine T1 (λ_=>T2 (Qv trivial)) λ_=>?_;refine T0 (Qk.up e.Names.length (λst=>st) (λ_=>True) (Q:=λ_=>True) rfl trivial (λi2 st hi2 hn2 _=>?_)) (λq _=>?_)
  ·show Qk (Tg n1 x st) _;unfold Tg;simp only[he,Qa];refine T1 (λO=>?_) (λ_=>T2 (Qv trivial));simp only[QG]at O;refine T0 (T4 (by omega) (by omega)) λs _=>?_;refine T1 (λ_=>T2 (Qv trivial)) λ_=>?_;exact T2 (QV ⟨by omega,by rw[hi2];exact Qr (by omega) (h.1.2 e hm).2.2.2.2.1.1,trivial⟩)
  rcases q with q | q
  ·exact T2 (Qv trivial)
  exact T2 (QV ⟨by omega,by subst hi;exact Qr (by omega) h.1.1,trivial⟩)
 rcases q with q | q
 ·exact T3
 show Qk (RL n1 q) _;unfold RL;refine T0 (Qk.up n1.Places.length (λst=>st.2) (λ_=>True) (Q:=λ_=>True) rfl trivial (λi st hi hn _=>?_)) (λq _=>?_)
 ·obtain⟨a,x⟩:=st;replace hi:x=(i:Int):=hi;show Qk (Ti n1 a x) _;unfold Ti;refine T1 (λO=>?_) (λ_=>T2 (Qv trivial));simp only[QG]at O;refine T0 (T4 (by omega) (by omega)) λe _=>?_;refine T0 (T4 (by omega) (by omega)) λe2 _=>?_;exact T1 (λ_=>T2 (Qv trivial)) λ_=>T2 (QV ⟨by omega,by subst hi;exact Qr (by omega) h.2.1.1,trivial⟩)
 rcases q with q | q
 ·exact T3
 exact(Qt8 n1 h q).mono λ_ _=>trivial
def Qua (m:L_ QBg)(h:m.length<=maxLen):Qk (TX m) λ_=>True:=by
 unfold TX;refine T0 (Qk.up m.length (λst=>st.2) (λ_=>True) (Q:=λ_=>True) rfl trivial (λi st O hn _=>?_)) (λq _=>T3);obtain⟨a,x⟩:=st;replace O:x=(i:Int):=O;show Qk (Tj m a x) _;unfold Tj;refine T1 (λhc=>?_) (λ_=>T2 (Qv trivial));simp only[QH,QG]at hc;refine T0 (T4 (by omega) (by omega)) λe _=>?_;exact T2 (QV ⟨by omega,by subst O;exact Qr (by omega) h,trivial⟩)
def QpW (h:GD l):∀{a:Int},(∀p∈l,a<=p.1)->∀(i:Nat) (O:i<l.length),a+i<=(l[i]).1:=by
 induction l with
 | nil=>intro a _ i O;simp at O
 | cons p l ih=>
  intro a ha i O;obtain⟨h1,h2⟩:=Bh.1 h;cases i with
  | zero=>have:=ha p YY;simpa using this
  | succ i=>
   have h3:=ih h2 (a:=a+1) (λq hq=>by have:=h1 q hq;have:=ha p YY;omega) i (by simpa using O);simp only[List.getElem_cons_succ];omega
def Qta (h:GD l)(h0:0<l.length){k:Int}(hk:0<QD l k):k<=(l[l.length-1]).1:=by
 unfold QD at hk;cases e:Xa l k with
 | none=>rw[e]at hk;simp at hk
 | some v=>
  obtain⟨j,hj,O⟩:=Ug.1 ((JZ h.nd).1 e);by_cases c:j=l.length-1
  ·subst c;rw[O];exact Int.le_refl _
  have:=QgO.1 h j (l.length-1) hj (by omega) (by omega);rw[O]at this;simp only at this;omega
def Kz (n:Qh)(c:Nat)(m:L_ QBg):Prop:=m.length=n.Places.length/\∀b∈m,Rt b/\b.length<=c
def Kz.mono {O:Nat}(h:Kz n c m)(hc:c<=O):Kz n O m:=⟨h.1,λb hb=>⟨(h.2 b hb).1,YC (h.2 b hb).2 hc⟩⟩
def LK (n:Qh)(m:L_ QBg):Prop:=∀(j:Nat) b p,m[j]? = C b->n.Places[j]? = C p->∀k,0<QD b k->∃z,YL n.Colours p.Colour=C z/\k<z
def QoU (n1:Qh)(m:L_ QBg)(h:Xo n1)(hm:QX (QX λ_=>True) m):Qk (AQ n1 m) λr=>r=true->Kz n1 1024 m/\LK n1 m:=by
 unfold AQ;refine T1 (λ_=>T2 λh=>by cases h) λhc=>?_;have hl:m.length=n1.Places.length:=by simp only[KJ]at hc;omega
 refine T0 (Qk.up m.length (λst=>st) (λst=>∀(j:Nat) (hj:j<m.length),(j:Int)<st->(Rt m[j]/\(m[j]).length<=1024)/\∀p,n1.Places[j]? = C p->∀k,0<QD m[j] k->∃z,YL n1.Colours p.Colour=C z/\k<z) (Q:=λq=>q=.inr ()->(∀b∈m,Rt b/\b.length<=1024)/\LK n1 m) rfl (λj _ hj=>by omega) (λi st hi hn hJ=>?_)) (λq hq=>?_)
 ·show Qk (Um m n1 st) _;unfold Um;refine T1 (λhc=>?_) (λhc=>T2 (Qv λ_=>⟨λb hb=>by
   obtain⟨j,hj,rfl⟩:=Ug.1 hb;simp only[Xq]at hc;exact(hJ j hj (by omega)).1,λj b p hb hp=>by
   obtain⟨hj,rfl⟩:=Xb.1 hb;simp only[Xq]at hc;exact(hJ j hj (by omega)).2 p hp⟩))
  simp only[QG]at hc;have O:i<m.length:=by omega
  have hlp:i<n1.Places.length:=by omega
  rw[hi,QQ,QN O,Qa,QQ,QN hlp,Qa];refine T0 (UB n1.Colours (n1.Places[i]).Colour h.1).self λsz hsz=>?_;obtain⟨hze,hsz⟩:=hsz;have hb:=hm.2 _ (Xs O);have hbl:=hb.1;refine T0 (P:=λr=>r=false->(Rt m[i]/\(m[i]).length<=1024)/\∀k,0<QD m[i] k->k<sz) ?_ λx hx=>?_
  ·unfold PY;rw[Qbj _ hb.1,Qa];refine T1 (λ_=>T2 λh=>by cases h) λhr=>?_;have hrt:=YV.1 (by simpa using hr:Ea (-1) m[i]=true);refine T1 (λh0=>?_) (λh0=>T2 λ_=>⟨⟨hrt,by simp only[Xq]at h0;omega⟩,λk hk=>by
    simp only[Xq]at h0;rw[show m[i]=[]from PP.1 (by omega)]at hk;simp[QD,Xa]at hk⟩)
   simp only[QG]at h0;unfold maxLen at hbl;rw[Xj (by omega),show((m[i]).length:Int)-1=(((m[i]).length-1:Nat):Int) by omega,QQ,QN (by omega),Qa];refine T2 λhf=>?_;simp only[Xq]at hf;have:=QpW hrt.1 (a:=0) (λp hp=>(hrt.2 p hp).1) ((m[i]).length-1) (by omega);refine⟨⟨hrt,by omega⟩,λk hk=>?_⟩;have:=Qta hrt.1 (by omega) hk;omega
  unfold PZ;refine T1 (λ_=>T2 (Qv λh=>by cases h)) λhxf=>?_;refine T2 (QV ⟨O,Qr O hm.1,λj hj hjs=>?_⟩);rw[Qr O hm.1]at hjs;by_cases c:j=i
  ·subst c;refine⟨(hx hxf).1,λp hp k hk=>⟨sz,?_,(hx hxf).2 k hk⟩⟩;rw[QN hlp]at hp;cases hp;exact hze
  exact hJ j hj (by omega)
 rcases q with q | q
 ·exact T2 λh=>by cases h
 exact T2 λ_=>⟨⟨hl,(hq rfl).1⟩,(hq rfl).2⟩
structure XE (n:Qh):Prop where
 k:Xo n
 pl:n.Places.length<=70
 tl:n.Tasks.length<=12
 tk:∀t∈n.Tasks,t.Vars.length<=16/\t.Ins.length<=16/\t.Outs.length<=16/\t.Cancel.length<=16
def QrR (n1:Qh)(k2:Int)(h:KP n1 k2=C 0):∃t,idx n1.Tasks k2=C t/\t.Vars.length<=16/\t.Ins.length<=16/\t.Outs.length<=16/\t.Cancel.length<=16:=by
 unfold KP at h;obtain⟨x5,_,h⟩:=QU h;rcases XU h with⟨_,h⟩|⟨_,h⟩
 ·cases h
 obtain⟨x7,_,h⟩:=QU h;rcases XU h with⟨c,h⟩|⟨_,h⟩
 ·simp only[Option.some.injEq]at h;rw[h]at c;cases c
 obtain⟨e9,he9,h⟩:=QU h;obtain⟨e10,he10,h⟩:=QU h;rw[he9]at he10;cases he10;obtain⟨_,_,h⟩:=QU h;obtain⟨_,_,h⟩:=QU h;obtain⟨_,_,h⟩:=QU h;obtain⟨_,_,h⟩:=QU h;obtain⟨x15,O,h⟩:=QU h;have bad:∀a b:Int,0<a->x15=(a,b)->False:=λa b ha e=>by
  subst e;simp only at h;rcases XU h with⟨c,h⟩|⟨_,h⟩
  ·simp only[beq_iff_eq]at c;omega
  simp only[Option.some.injEq]at h;omega
 unfold Ek at O;obtain⟨x20,_,O⟩:=QU O;rcases XU O with⟨_,O⟩|⟨_,O⟩
 ·exact(bad _ _ (by decide) (Option.some.inj O).symm).elim
 obtain⟨x22,_,O⟩:=QU O;rcases XU O with⟨_,O⟩|⟨_,O⟩
 ·exact(bad _ _ (by decide) (Option.some.inj O).symm).elim
 obtain⟨x24,h24,O⟩:=QU O;rcases XU O with⟨_,O⟩|⟨c,O⟩
 ·exact(bad _ _ (by decide) (Option.some.inj O).symm).elim
 unfold FH at h24;simp only[Option.some.injEq]at h24;rw[<-h24]at c;simp only[Bk,QH,QG,Nn]at c;exact⟨e9,he9,by omega,by omega,by omega,by omega⟩
def Qh2 (l1:L_ QW)(n1:Qh)(h:Xo n1)(hl:QX YO l1):Qk (Wo l1 n1) λr=>r.2=0->∀(j:Nat),j<l1.length->KP n1 j=C 0:=by
 unfold Wo;refine T0 (Qk.up l1.length (λst=>st) (λst=>∀(j:Nat),(j:Int)<st->KP n1 j=C 0) (Q:=λq=>(∀a b,q=.inl (a,b)->b≠0)/\(q=.inr ()->∀(j:Nat),j<l1.length->KP n1 j=C 0)) rfl (λj hj=>by omega) (λi st hi hn hJ=>?_)) (λq hq=>?_)
 ·show Qk (Wz l1 n1 st) _;unfold Wz;refine T1 (λO=>?_) (λO=>T2 (Qv ⟨λa b h=>(by cases h),λ_ j hj=>by
   simp only[Xq]at O;exact hJ j (by omega)⟩))
  simp only[QG]at O;refine T0 (T4 (by omega) (by omega)) λe he=>?_;refine T0 (P:=λx=>KP n1 st=C x) ?_ λx hx=>?_
  ·unfold Io;exact T0 (QdJ n1 st h).self λx hx=>T2 hx.1
  refine T1 (λO=>T2 (Qv ⟨λa b h=>(by cases h;simpa using O),λh=>(by cases h)⟩)) λO=>?_;simp only[KJ]at O;refine T2 (QV ⟨by omega,by rw[hi];exact Qr (by omega) hl.1,λj hj=>?_⟩);rw[hi,Qr (show i<l1.length by omega) hl.1]at hj;by_cases c:j=i
  ·subst c;rw[<-hi,hx,O]
  exact hJ j (by omega)
 rcases q with q | q
 ·exact T2 λh=>absurd h (hq.1 q.1 q.2 rfl)
 exact T2 λ_=>hq.2 rfl
def QrS (n1:Qh)(h:Xo n1){p:TT}(O:Aw n1=C (0,p)):∀t∈n1.Tasks,t.Vars.length<=16/\t.Ins.length<=16/\t.Outs.length<=16/\t.Cancel.length<=16:=by
 unfold Aw at O;obtain⟨x6,_,O⟩:=QU O;rcases XU O with⟨c,O⟩|⟨_,O⟩
 ·simp only[Option.some.injEq,Prod.mk.injEq]at O;rw[O.1]at c;cases c
 obtain⟨x8,_,O⟩:=QU O;rcases XU O with⟨c,O⟩|⟨_,O⟩
 ·simp only[Option.some.injEq,Prod.mk.injEq]at O;rw[O.1]at c;cases c
 obtain⟨x10,_,O⟩:=QU O;rcases XU O with⟨c,O⟩|⟨_,O⟩
 ·simp only[Option.some.injEq,Prod.mk.injEq]at O;rw[O.1]at c;cases c
 obtain⟨x12,h12,O⟩:=QU O;rcases XU O with⟨c,O⟩|⟨c,O⟩
 ·simp only[Option.some.injEq,Prod.mk.injEq]at O;rw[O.1]at c;cases c
 simp only[KJ]at c;obtain⟨r,hr,hr2⟩:=Qh2 n1.Tasks n1 h h.2.2.1;rw[h12]at hr;cases hr;intro t ht;obtain⟨j,hj,rfl⟩:=Ug.1 ht;obtain⟨t,h1,h2⟩:=QrR n1 j (hr2 c j hj);rw[QQ,QN hj]at h1;cases h1;exact h2
def QrT (n1:Qh)(m:L_ QBg)(h:Xo n1)(hm:QX (QX λ_=>True) m):Qk (FI n1 m) λr=>r=true->XE n1/\Kz n1 1024 m/\LK n1 m:=by
 unfold FI;refine T0 (Qt9 n1 h) λx5 h5=>?_;refine T0 (Qua m hm.1) λx6 _=>?_;refine T1 (λ_=>T2 λh=>by cases h) λhc=>?_;simp only[KS,Bk,Xq]at hc;have h5:=h5 hc.1;refine T0 (QnY n1 h).self λx11 h11=>?_;refine T0 (P:=λr=>r=false->XE n1/\Kz n1 1024 m/\LK n1 m) ?_ λx12 h12=>?_
 ·unfold RO;refine T1 (λ_=>T2 λh=>by cases h) λO=>?_;simp only[KJ]at O;refine T0 (QoU n1 m h hm) λr hr=>T2 λhrf=>⟨⟨h,h5.2.1,by omega,?_⟩,hr (by simpa using hrf)⟩;obtain⟨a,b⟩:=x11;simp only at O;subst O;exact QrS n1 h h11.1
 unfold RQ;refine T1 (λ_=>T2 λh=>by cases h) λhx=>?_;have hfin:=h12 hx;refine T6 (P:=λ_=>True) ?_ λ_ _ _=>hfin;refine T0 (Qk.up n1.Tasks.length (λst=>st.2) (λ_=>True) (Q:=λ_=>True) rfl trivial (λi st hi hn _=>?_)) (λq _=>T3);obtain⟨a,x⟩:=st;replace hi:x=(i:Int):=hi;show Qk (RP n1 a x) _;unfold RP;refine T1 (λhc=>?_) (λ_=>T2 (Qv trivial));simp only[QG]at hc;refine T0 (T4 (by omega) (by omega)) λe _=>?_;refine T0 (Qcq n1 x h) λy _=>?_;exact T2 (QV ⟨by omega,by subst hi;exact Qr (by omega) h.2.2.1.1,trivial⟩)
def Qm7 (s:Ji)(m:Int)(h:0<=s.k/\s.k<s.sizes.length):Qk (KC s m) λr=>r=true->0<=m:=by
 unfold KC;refine T0 (P:=λr=>r=true->0<=m) ?_ λx hx=>T2 hx;unfold GX;refine T1 (λO=>?_) λ_=>T2 λh=>by cases h
 exact T0 (T4 h.1 h.2) λ_ _=>T2 λ_=>by simpa using O
def FV (s:Ji)(h:0<=s.k/\s.k<s.all.length):Qk (JX s) λ_=>True:=by
 unfold JX;exact T0 (T4 h.1 h.2) λ_ _=>T3
def Qtb (l:L_ QR)(k m:Int)(hl:QX Jk l):Qk (Dj l k m) λ_=>True:=by
 unfold Dj;refine T0 (Ir l k hl) λx hx=>?_;refine T0 (P:=λr=>r=false->x.1=true) ?_ λr hr=>?_
 ·unfold Cc;refine T1 (λ_=>T2 λh=>by cases h) λO=>?_;have O:x.1=true:=by simpa using O
  have h:=hx.2 O;exact T0 (Qm7 x.2 m (by omega)) λ_ _=>T2 λ_=>O
 unfold Cd;refine T1 (λ_=>T3) λO=>?_;have h:=hx.2 (hr O);refine T0 (FV x.2 (by omega)) λ_ _=>?_;refine T1 (λ_=>?_) λ_=>T3;exact T0 (FV x.2 (by omega)) λ_ _=>T3
def QoV (l:L_ QR)(k n:Int)(hl:QX Jk l):Qk (Dk l k n) λr=>r.2=true->0<=r.1:=by
 unfold Dk;refine T0 (Ir l k hl) λx hx=>?_;refine T1 (λ_=>T2 λh=>by cases h) λO=>?_;have h:=hx.2 (by simpa using O);have k1:∀m,Qk (Kw x m) λr=>r.2=true->0<=r.1:=λm=>by
  unfold Kw;refine T0 (Qm7 x.2 m (by omega)) λy hy=>?_;exact T1 (λ_=>T2 λh=>by cases h) λO=>T2 λ_=>hy (by simpa using O)
 refine T0 (FV x.2 (by omega)) λ_ _=>?_;refine T1 (λ_=>?_) λ_=>k1 _;exact T1 (λ_=>T2 λh=>by cases h) λ_=>k1 _
def QrU (l:L_ QR)(k n:Int)(hl:QX Jk l):Qk (Dk l k n) λr=>r.2=true->∃z,YL l k=C z/\r.1<z:=by
 unfold Dk YL;refine T0 (Ir l k hl).self λx hx=>?_;obtain⟨hxe,hx⟩:=hx;refine T1 (λ_=>T2 λh=>by cases h) λhc=>?_;have h:=hx.2 (by simpa using hc);have hk:k.toNat<x.2.sizes.length:=by omega
 have ei:idx x.2.sizes k=C x.2.sizes[k.toNat]:=So h.1.1 h.1.2;have k1:∀m,Qk (Kw x m) λr=>r.2=true->∃z,((Du l k).bind λx5=>bif (!x5.1)then C 0 else(idx x5.2.sizes k).bind λe7=>C e7)=C z/\r.1<z:=λm=>by
  unfold Kw;refine T0 (P:=λy=>y=true->m<x.2.sizes[k.toNat]) ?_ λy hy=>?_
  ·unfold KC;refine T0 (P:=λy=>y=true->m<x.2.sizes[k.toNat]) ?_ λy hy=>T2 hy;unfold GX;refine T1 (λ_=>?_) λ_=>T2 λh=>by cases h
   rw[h.2.1,ei,Qa];exact T2 λh=>by simpa using h
  refine T1 (λ_=>T2 λh=>by cases h) λO=>T2 λ_=>⟨x.2.sizes[k.toNat],?_,hy (by simpa using O)⟩;rw[hxe,Qa,hc,Qd,ei];rfl
 refine T0 (FV x.2 (by omega)) λ_ _=>?_;refine T1 (λ_=>?_) λ_=>k1 _;exact T1 (λ_=>T2 λh=>by cases h) λ_=>k1 _
def AG {α:Type}{o:O_ α}{P:α->Prop}(h:Qk o P){r:α}(e:o=C r):P r:=by
 obtain⟨r',O,h2⟩:=h;rw[e]at O;cases O;exact h2
def QoW : ∀(n:Nat) (v:LI_) (e:Qn),POk v.length e->SizeOf.sizeOf e<=n->Qk (XJ n v e) λ_=>True
 | 0,_,e,_,h=>absurd e.pos (by omega)
 | n+1,v,e,he,h=>by
  cases he with
  | mk _ O h2 h3 h5 h6 hr=>
  unfold XJ UP;have sub:∀(j:Nat) (hj:j<e.Kids.length),Qk (XJ n v (e.Kids[j])) λ_=>True:=λj hj=>
   QoW n v _ (hr _ (Xs hj)) (by have:=Vz (Xs hj);omega)
  have kid:∀(j:Nat) (hj:j<e.Kids.length),idx e.Kids (j:Int)=C e.Kids[j]:=λj hj=>by rw[QQ,QN hj]
  rcases O with O | O | O | O | O | O
  ·refine T0 (P:=λx=>x=.inl v) (by unfold Wd;rw[O];exact T2 rfl) λx hx=>?_;subst hx;exact T3
  ·refine T0 (P:=λx=>x=.inr (.inl v)) (by unfold Wd;rw[O];exact T2 rfl) λx hx=>?_;subst hx;show Qk (EP e v) _;unfold EP Bp;have:=h2 O;exact T0 (T0 (T4 (by omega) (by omega)) λ_ _=>T3) λ_ _=>T3
  ·refine T0 (P:=λx=>x=.inr (.inr (.inl v))) (by unfold Wd Kv;rw[O];exact T2 rfl) λx hx=>?_;subst hx;show Qk (Wu (XJ n) e v) _;unfold Wu UO;have hl:=h3 (.inl O);refine T0 (P:=λ_=>True) ?_ λ_ _=>T3;rw[show idx e.Kids 0=C (e.Kids[0]'(by omega))from kid 0 (by omega),Qa];refine T0 (sub 0 (by omega)) λx _=>?_;refine T1 (λ_=>T3) λ_=>T1 (λ_=>T0 (QgC _) λ_ _=>T3) λ_=>T0 (CK _ _ _) λ_ _=>T3
  ·refine T0 (P:=λx=>x=.inr (.inr (.inl v))) (by unfold Wd Kv;rw[O];exact T2 rfl) λx hx=>?_;subst hx;show Qk (Wu (XJ n) e v) _;unfold Wu UO;have hl:=h3 (.inr O);refine T0 (P:=λ_=>True) ?_ λ_ _=>T3;rw[show idx e.Kids 0=C (e.Kids[0]'(by omega))from kid 0 (by omega),Qa];refine T0 (sub 0 (by omega)) λx _=>?_;refine T1 (λ_=>T3) λ_=>T1 (λ_=>T0 (QgC _) λ_ _=>T3) λ_=>T0 (CK _ _ _) λ_ _=>T3
  ·refine T0 (P:=λx=>x=.inr (.inr (.inr (.inl v)))) (by unfold Wd Kv;rw[O];exact T2 rfl) λx hx=>?_;subst hx;show Qk (EQ (XJ n) e v) _;unfold EQ MN;have hl:=h5 O;refine T0 (P:=λ_=>True) ?_ λ_ _=>T3;rw[show idx e.Kids 0=C (e.Kids[0]'(by omega))from kid 0 (by omega),Qa];refine T0 (sub 0 (by omega)) λx _=>?_;have k1:∀b,Qk (Df x e (XJ n) v b) λ_=>True:=λb=>by
    unfold Df;refine T1 (λ_=>T0 (CK _ _ _) λ_ _=>T3) λ_=>?_;rw[show idx e.Kids 1=C (e.Kids[1]'(by omega))from kid 1 (by omega),Qa];refine T0 (sub 1 (by omega)) λy _=>?_;exact T1 (λ_=>T3) λ_=>T0 (CK _ _ _) λ_ _=>T3
   exact T1 (λ_=>T3) λ_=>T1 (λ_=>k1 _) λ_=>T1 (λ_=>k1 _) λ_=>k1 _
  refine T0 (P:=λx=>x=.inr (.inr (.inr (.inr v)))) (by unfold Wd Kv;rw[O];exact T2 rfl) λx hx=>?_;subst hx;show Qk (ER (XJ n) e v) _;unfold ER CR;have hl:=h6 O;refine T0 (P:=λ_=>True) ?_ λ_ _=>T3;rw[show idx e.Kids 0=C (e.Kids[0]'(by omega))from kid 0 (by omega),Qa];refine T0 (sub 0 (by omega)) λx _=>?_;refine T1 (λ_=>T3) λ_=>T1 (λ_=>?_) λ_=>?_
  ·rw[show idx e.Kids 1=C (e.Kids[1]'(by omega))from kid 1 (by omega),Qa];exact T0 (sub 1 (by omega)) λy _=>T3
  rw[show idx e.Kids 2=C (e.Kids[2]'(by omega))from kid 2 (by omega),Qa];exact T0 (sub 2 (by omega)) λy _=>T3
def QrV (e:Qn)(v:LI_)(h:Wp e):Qk (CB e v) λ_=>True:=by
 unfold CB;refine T0 (No e v.length h) λx hx=>?_;refine T1 (λ_=>T3) λO=>?_;unfold Lm;exact T0 (QoW _ v e (hx (by simpa using O)) (Yj _)) λ_ _=>T3
def QqL (n:Qh)(O:Int)(vars:LI_)(h:XE n):Qk (WM n O vars) λr=>r.2=0->0<=O/\O<n.Tasks.length:=by
 unfold WM;refine T1 (λ_=>T2 λh=>by cases h) λhc=>?_;simp only[KS,Xq]at hc;refine T0 (T4 (by omega) (by omega)) λe he=>?_;have hv:=(h.tk e he).1;have ke:=h.k.2.2.1.2 e he;refine T1 (λ_=>T2 λh=>by cases h) λhl=>?_;simp only[KJ]at hl;refine T0 (T5 (by simp only[QH,QG];omega)) λ_ _=>?_;refine T6 (P:=λ_=>True) ?_ λ_ _ _=>by omega
 refine T0 (Qk.up e.Vars.length (λst=>st.1) (λst=>st.2.length=e.Vars.length) (Q:=λ_=>True) rfl (by simp) (λi st hi hn hJ=>?_)) (λq _=>?_)
 ·obtain⟨x,l⟩:=st;replace hi:x=(i:Int):=hi;replace hJ:l.length=e.Vars.length:=hJ;show Qk (DD e vars n x l) _;unfold DD;refine T1 (λhc=>?_) (λ_=>T2 (Qv trivial));simp only[QG]at hc;refine T0 (T4 (by omega) (by omega)) λa _=>?_;refine T0 (T4 (by omega) (by omega)) λb _=>?_;refine T0 (Qtb _ _ _ h.k.1) λc _=>?_;refine T1 (λ_=>T2 (Qv trivial)) λ_=>?_;refine T0 (T4 (by omega) (by omega)) λd _=>?_;exact T2 (QV ⟨by omega,by subst hi;exact Qr (by omega) (by unfold maxLen;omega:e.Vars.length<=maxLen),by simpa using hJ⟩)
 rcases q with q | q
 ·exact T3
 exact T3
def Tw {α:Type}{l:L_ α}{x y:α}(h:y∈l.set i x):y=x\/y∈l:=by
 rcases QdN h with h | h
 ·exact .inr h
 exact .inl h
def Pz (n:Qh)(l:L_ Jf)(O env:LI_)(h:XE n)(hl:QX Ip l)(hw:O.length<=1000):Qk (Yo n l O env) λr=>r.2=0->Kz n O.length r.1/\LK n r.1:=by
 unfold Yo;have hpl:=h.pl;refine T0 (T5 (by simp only[QH,QG];omega)) λ_ _=>?_;refine T0 (Qk.up O.length (λst=>st.1) (λst=>(st.2.length=n.Places.length/\∀b∈st.2,Rt b/\(b.length:Int)<=st.1)/\LK n st.2) (Q:=λq=>(∀x,q=.inl x->x≠0)/\∀m,q=.inr m->Kz n O.length m/\LK n m) rfl ⟨⟨by simp,λb hb=>?_⟩,λj b p hb hp k hk=>?_⟩ (λi st hi hn hJ=>?_)) (λq hq=>?_)
 ·have:=QgL hb;subst this;exact⟨Rt.nil,by simp⟩
 ·have:=QgL (Xx hb);subst this;simp[QD,Xa]at hk
 ·obtain⟨x,m⟩:=st;replace hi:x=(i:Int):=hi;obtain⟨⟨hJ1,hJ2⟩,hJ3⟩:(m.length=n.Places.length/\∀b∈m,Rt b/\(b.length:Int)<=x)/\LK n m:=hJ;have err:∀y:Int,y≠0->(∀s',(Sum.inr (Sum.inl y):(Int×L_ QBg)⊕(Int⊕L_ QBg))=.inl s'->i<O.length/\s'.1=((i+1:Nat):Int)/\(s'.2.length=n.Places.length/\∀b∈s'.2,Rt b/\(b.length:Int)<=s'.1)/\LK n s'.2)/\∀r,(Sum.inr (Sum.inl y):(Int×L_ QBg)⊕(Int⊕L_ QBg))=.inr r->(∀x,r=.inl x->x≠0)/\∀m,r=.inr m->Kz n O.length m/\LK n m:=
   λy hy=>⟨λs' e=>(by cases e),λr e=>(by cases e;exact⟨λx e=>(by cases e;exact hy),λm e=>(by cases e)⟩)⟩
  show Qk (Wv O l env n x m) _;unfold Wv;refine T1 (λhc=>?_) (λhc=>T2 (Qv ⟨λx e=>(by cases e),λm' e=>?_⟩))
  ·simp only[QG]at hc;refine T0 (T4 (by omega) (by omega)) λe18 _=>?_;refine T1 (λ_=>T2 (err _ (by decide))) λhc1=>?_;simp only[KS,Xq]at hc1;refine T0 (T4 (by omega) (by omega)) λe22 h22=>?_;refine T0 (QrV e22.Expr env (hl.2 e22 h22).2) λx23 _=>?_;refine T1 (λhc2=>T2 (err _ (by simpa using hc2))) λ_=>?_;refine T0 (T4 (by omega) (by omega)) λe25 _=>?_;refine T1 (λ_=>T2 (err _ (by decide))) λhc3=>?_;simp only[KS,Xq]at hc3;refine T0 (T4 (by omega) (by omega)).self λe29 h29=>?_;refine T0 (QoV _ _ _ h.k.1).self λx30 h30=>?_;refine T1 (λ_=>T2 (err _ (by decide))) λhc4=>?_;have hz:=AG (QrU _ _ _ h.k.1) h30.1 (by simpa using hc4);have h30:=h30.2 (by simpa using hc4);refine T0 (T4 (by omega) (by omega)).self λe32 h32e=>?_;have h32:=h32e.2;have h32e:=h32e.1;have h29:=h29.1;rw[ZN,Qi h30];simp only[Qq,Qa];have hb:=hJ2 e32 h32;have key:∃s,JB e32 [(x30.1,1)]=C s/\(s.2=0->(Rt s.1/\s.1.length<=e32.length+1)/\∀k,QD s.1 k=QD e32 k+QD [(x30.1,1)] k):=by
    rcases Ud e32 [(x30.1,1)] (by simp;omega)with⟨_,e⟩|⟨_,_,_,e⟩|⟨_,_,r,e,h1,hcn,h2⟩
    ·exact⟨_,e,λh=>by cases h⟩
    ·exact⟨_,e,λh=>by cases h⟩
    exact⟨_,e,λ_=>⟨⟨h1,by simpa using h2⟩,hcn⟩⟩
   obtain⟨s,es,hs⟩:=key;rw[es,Qa];refine T0 (T4 (by omega) (by omega)) λ_ _=>?_;refine T1 (λhc5=>T2 (err _ (by simpa using hc5))) λhc5=>?_;obtain⟨hs,hcn⟩:=hs (by simpa using hc5);refine T2 (QV ⟨by omega,by subst hi;exact Qr (by omega) (by unfold maxLen;omega:O.length<=maxLen),⟨by simpa using hJ1,λb hb'=>?_⟩,λj b p hb' hp k hk=>?_⟩)
   ·subst hi;show Rt b/\(b.length:Int)<=Qm ((i:Int)+1);rw[Qr (by omega) (by unfold maxLen;omega:O.length<=maxLen)];rcases Tw hb' with rfl | hb'
    ·exact⟨hs.1,by omega⟩
    have:=hJ2 b hb';exact⟨this.1,by omega⟩
   have hb':(m.set e25.Place.toNat s.1)[j]? = C b:=hb';by_cases cj:e25.Place.toNat=j
   ·subst cj;rw[TJ (by omega)]at hb';cases hb';rw[IG (by omega)]at h29 h32e;rw[h29]at hp;cases hp;rw[hcn]at hk;by_cases c0:0<QD e32 k
    ·exact hJ3 _ e32 e29 h32e h29 k c0
    have h9:0<QD [(x30.1,1)] k:=by omega
    have h8:x30.1=k:=by
     apply Decidable.byContradiction;intro hne;simp[QD,Xa,hne]at h9
    obtain⟨z,hz1,hz2⟩:=hz;exact⟨z,hz1,by omega⟩
   rw[PO cj]at hb';exact hJ3 j b p hb' hp k hk
  cases e;exact⟨⟨hJ1,λb hb=>⟨(hJ2 b hb).1,by have:=(hJ2 b hb).2;omega⟩⟩,hJ3⟩
 rcases q with q | q
 ·exact T2 λh=>absurd h (hq.1 q rfl)
 exact T2 λ_=>hq.2 q rfl
def QjC (a m:L_ QBg)(O:QX (QX λ_=>True) a)(hm:QX (QX λ_=>True) m):Qk (DG a m) λ_=>True:=by
 unfold DG XC;refine T0 (P:=λ_=>True) ?_ λ_ _=>T3;refine T1 (λ_=>T3) λh=>?_;simp only[KJ]at h;refine T0 (Qk.up a.length (λst=>st) (λ_=>True) (Q:=λ_=>True) rfl trivial (λi st hi hn hJ=>?_)) (λq _=>?_)
 ·show Qk (QL a m st) _;unfold QL;refine T1 (λh=>?_) (λ_=>T2 (Qv trivial));simp only[QG]at h;refine T0 (T4 (by omega) (by omega)) λx hx=>?_;refine T0 (T4 (by omega) (by omega)) λy hy=>?_;refine T0 (P:=λ_=>True) (by obtain⟨r,hr,_⟩:=LJ x y (O.2 x hx).1 (hm.2 y hy).1;exact⟨r,hr,trivial⟩) λ_ _=>?_;exact T1 (λ_=>T2 (Qv trivial)) λ_=>T2 (QV ⟨by omega,by rw[hi];exact Qr (by omega) O.1,trivial⟩)
 rcases q with q | q
 ·exact T3
 exact T3
def Kz.len (h:Kz n c m)(hn:XE n)(hc:c<=1000000):QX (QX λ_=>True) m:=
 ⟨by have:=h.1;have:=hn.pl;unfold maxLen;omega,λb O=>⟨by have:=(h.2 b O).2;unfold maxLen;omega,λ_ _=>trivial⟩⟩
structure BOk (n:Qh) (m:List QBg) (b:Xm):Prop where
 net:b.net=n
 mm:b.m=m
 task:b.task∈n.Tasks
def Qub (n:Qh)(m:L_ QBg)(O:Int)(vars:LI_)(h:XE n):Qk (Jx n m O vars) λr=>r.1=0->BOk n m r.2:=by
 unfold Jx;refine T0 (QqL n O vars h) λx hx=>?_;refine T1 (λhc=>T2 λh=>absurd h (by simpa using hc)) λhc=>?_;have:=hx (by simpa using hc);exact T0 (T4 this.1 this.2) λe he=>T2 λ_=>⟨rfl,rfl,he⟩
def QrW (n:Qh)(m:L_ QBg)(b:Xm)(h:XE n)(O:BOk n m b):Qk (Yb b) λ_=>True:=by
 unfold Yb;refine T0 (QrV _ _ (h.k.2.2.1.2 _ O.task).2.2.1) λx _=>?_;exact T1 (λ_=>T3) λ_=>T1 (λ_=>T3) λ_=>T3
def Quc (n:Qh)(m:L_ QBg)(b:Xm)(outs:LI_)(h:XE n)(O:BOk n m b)(ho:outs.length<=1000):Qk (Yd b outs) λ_=>True:=by
 unfold Yd;rw[O.net];exact T0 (Pz n _ outs _ h (h.k.2.2.1.2 _ O.task).2.2.2.2.2.2.1 ho) λx _=>T3
def QqM (l:LI_)(x:Int)(h:l.length<=maxLen):Qk (YH l x) λ_=>True:=Hf l x ⟨h,λ_ _=>trivial⟩
def Qm8 (l:LI_)(h:l.length<=4294967296):Xt l=C l:=by
 unfold Xt;rw[YI (by simp;omega)];rfl
def QoX (l:LI_)(h:l.length<=4294967296):Wm l=C (GO l):=by
 unfold Wm;rw[YI (by omega)];rfl
def Qud (n:Qh)(m:L_ QBg)(b:Xm)(O:LI_)(h:XE n)(hb:BOk n m b)(hm:QX (QX λ_=>True) m)(hi:O.length<=100):Qk (XS b O) λ_=>True:=by
 have ki:=(h.k.2.2.1.2 _ hb.task).2.2.2.2.2.1;have kl:=(h.tk _ hb.task).2.1;unfold XS;rw[hb.net,hb.mm];refine T0 (Pz n _ O _ h ki (by omega)) λx hx=>?_;refine T1 (λ_=>T3) λhc=>?_;have hx:=hx (by simpa using hc);refine T0 (QjC _ _ (hx.1.len h (by omega)) hm) λy _=>?_;refine T1 (λ_=>T3) λ_=>T1 (λ_=>T3) λ_=>?_;refine T0 (Qk.up b.task.Ins.length (λst=>st) (λ_=>True) (Q:=λ_=>True) rfl trivial (λi st hi hn _=>?_)) (λq _=>?_)
 ·show Qk (Yu b O st) _;unfold Yu;refine T1 (λhc=>?_) (λ_=>T2 (Qv trivial));simp only[QG]at hc;have step:Qk (KY st) λo=>(∀s',o=.inl s'->i<b.task.Ins.length/\s'=((i+1:Nat):Int)/\True)/\∀r:Unit⊕Unit,o=.inr r->True:=
   T2 (QV (ix:=λst=>st) (J:=λ_=>True) (Q:=λ_=>True) ⟨by omega,by rw[hi];exact Qr (by omega) ki.1,trivial⟩)
  refine T0 (QqM O st (by unfold maxLen;omega)) λz _=>?_;refine T1 (λ_=>step) λ_=>?_;rw[Qm8 O (by omega),Qa];refine T0 (T5 (by simp;omega)) λ_ _=>?_;rw[QoX _ (by simp;omega),Qa];refine T0 (T5 (by simp[Ha])) λ_ _=>?_;rw[hb.net];refine T0 (Pz n _ _ _ h ki (by rw[Ha];simp;omega)) λu hu=>?_;refine T0 (P:=λ_=>True) ?_ λv _=>?_
  ·unfold CE;rw[hb.mm];refine T1 (λhc2=>?_) λ_=>T3;have hu:=hu (by simpa using hc2);refine T0 (QjC _ _ (hu.1.len h (by rw[Ha];simp;omega)) hm) λ_ _=>T3
  unfold CF;exact T1 (λ_=>T2 (Qv trivial)) λ_=>step
 rcases q with q | q
 ·exact T3
 exact T3
def QoY (r:L_ LI_):Prop:=r.length<=16/\∀row∈r,row.length<=16
def chB (o:O_ QLL):Bool:=match o with
 | some r=>decide (r.length<=16)&&r.all λrow=>decide (row.length<=16)
 | none=>false
def QoZ {o:O_ QLL}(h:chB o=true):Qk o QoY:=by
 cases o with
 | none=>cases h
 | some r=>
  simp only[chB,QH,QG,XG]at h;exact T2 h
def Qo0 {h:Int}(O:¬h<0)(h1:¬16<h):h=0\/h=1\/h=2\/h=3\/h=4\/h=5\/h=6\/h=7\/h=8\/h=9\/h=10\/h=11\/h=12\/h=13\/h=14\/h=15\/h=16:=by omega
set_option maxRecDepth 100000 in
def Qm9 (kind O:Int):Qk (YT kind O) QoY:=by
 by_cases hg:((decide (O<0))||((decide (16<O))||((kind==3)&&(decide (4<O)))))=true
 ·unfold YT;rw[hg];exact T2 ⟨by simp,λr h=>by cases h⟩
 simp only[KT,QH,QG,beq_iff_eq,not_or,not_and]at hg;obtain⟨h0,h1,h2⟩:=hg;by_cases e1:kind=1
 ·subst e1;rcases Qo0 h0 h1 with rfl | rfl | rfl | rfl | rfl | rfl | rfl | rfl | rfl | rfl | rfl | rfl | rfl | rfl | rfl | rfl | rfl<;>exact QoZ (by kernel_rfl)
 by_cases e2:kind=2
 ·subst e2;rcases Qo0 h0 h1 with rfl | rfl | rfl | rfl | rfl | rfl | rfl | rfl | rfl | rfl | rfl | rfl | rfl | rfl | rfl | rfl | rfl<;>exact QoZ (by kernel_rfl)
 by_cases e3:kind=3
 ·subst e3;have h3:=h2 rfl;have:O=0\/O=1\/O=2\/O=3\/O=4:=by omega
  rcases this with rfl | rfl | rfl | rfl | rfl<;>exact QoZ (by kernel_rfl)
 have f1:(kind==1)=false:=by simpa using e1
 have f2:(kind==2)=false:=by simpa using e2
 have f3:(kind==3)=false:=by simpa using e3
 unfold YT UQ;rw[f1,f2,f3];exact T1 (λ_=>T2 ⟨by simp,λr h=>by cases h⟩) λ_=>T2 ⟨by simp,λr h=>by cases h⟩
def Que (a b:LI_)(O:a.length<=maxLen):Qk (JQ a b) λ_=>True:=by
 unfold JQ;refine T1 (λ_=>T3) λh=>?_;simp only[KJ]at h;refine T0 (Qk.up a.length (λst=>st) (λ_=>True) (Q:=λ_=>True) rfl trivial (λi st hi hn hJ=>?_)) (λq _=>?_)
 ·show Qk (Wf a b st) _;unfold Wf;refine T1 (λh=>?_) (λ_=>T2 (Qv trivial));simp only[QG]at h;refine T0 (T4 (by omega) (by omega)) λx hx=>?_;refine T0 (T4 (by omega) (by omega)) λy hy=>?_;exact T1 (λ_=>T2 (Qv trivial)) λ_=>T2 (QV ⟨by omega,by rw[hi];exact Qr (by omega) O,trivial⟩)
 rcases q with q | q
 ·exact T3
 exact T3
def Qo1 (O h:Int)(row:LI_):Qk (GL O h row) λ_=>True:=by
 unfold GL Ws DE;refine T0 (Qm9 O h) λx hx=>?_;refine T0 (P:=λ_=>True) ?_ λ_ _=>T3;refine T0 (P:=λ_=>True) ?_ λ_ _=>T3;have hl:=hx.1;refine T0 (Qk.up x.length (λst=>st) (λ_=>True) (Q:=λ_=>True) rfl trivial (λi st hi hn hJ=>?_)) (λq _=>?_)
 ·show Qk (Jc x row st) _;unfold Jc Ln;refine T1 (λhc=>?_) (λ_=>T2 (Qv trivial));simp only[QG]at hc;refine T0 (T4 (by omega) (by omega)) λe he=>?_;have:=hx.2 e he;refine T0 (T0 (Que e row (by unfold maxLen;omega)) λ_ _=>T3) λ_ _=>?_;exact T1 (λ_=>T2 (Qv trivial)) λ_=>T2 (QV ⟨by omega,by rw[hi];exact Qr (by omega) (by unfold maxLen;omega:x.length<=maxLen),trivial⟩)
 rcases q with q | q
 ·exact T3
 exact T3
def XL (n:Qh)(o:Qo):Prop:=o.Vars.length<=20/\o.Ins.length<=20/\o.Outs.length<=20
def QgX (n:Qh)(m:L_ QBg)(o:Qo)(h:XE n)(hm:QX (QX λ_=>True) m)(ho:XL n o):Qk (Yl n m o) λ_=>True:=by
 unfold Yl;refine T0 (Qub n m o.Task o.Vars h) λx hx=>?_;have k3:∀e,(e=0->x.1=0)->Qk (JN x o e) λ_=>True:=λe he=>by
  unfold JN;refine T1 (λ_=>T3) λO=>?_;have hb:=hx (he (by simpa using O));refine T0 (P:=λ_=>True) ?_ λy _=>?_
  ·unfold Ce;refine T0 (Qo1 _ _ _) λz _=>?_;exact T1 (λ_=>T3) λ_=>T0 (Qo1 _ _ _) λ_ _=>T3
  unfold Cf;refine T1 (λ_=>T3) λ_=>?_;refine T0 (Qud n m x.2 o.Ins h hb hm (by have:=ho.2.1;omega)) λz _=>?_;refine T1 (λ_=>T3) λ_=>?_;exact T0 (Quc n m x.2 o.Outs h hb (by have:=ho.2.2;omega)) λ_ _=>T3
 refine T1 (λO=>?_) λO=>k3 _ λh=>h;have O:x.1=0:=by simpa using O
 exact T0 (QrW n m x.2 h (hx O)) λe _=>k3 e λ_=>O
def Np (n:Qh)(o:Qo)(h:XE n)(ho:XL n o):Qk (Yf n o) λr=>r.2=0->Kz n 20 r.1/\LK n r.1:=by
 unfold Yf;refine T0 (QqL n o.Task o.Vars h) λx hx=>?_;refine T1 (λO=>T2 λh=>absurd h (by simpa using O)) λO=>?_;have:=hx (by simpa using O);refine T0 (T4 this.1 this.2) λe he=>?_;have hl:=ho.2.1;exact T0 (Pz n _ _ _ h (h.k.2.2.1.2 _ he).2.2.2.2.2.1 (by omega)) λy hy=>T2 λh0=>⟨(hy h0).1.mono hl,(hy h0).2⟩
def QgY (n:Qh)(o:Qo)(h:XE n)(ho:XL n o):Qk (ES n o) λr=>r.2=0->(Kz n 20 r.1/\LK n r.1)/\0<=o.Task/\o.Task<n.Tasks.length:=by
 unfold ES;refine T0 (QqL n o.Task o.Vars h) λx hx=>?_;refine T1 (λO=>T2 λh=>absurd h (by simpa using O)) λO=>?_;have:=hx (by simpa using O);refine T0 (T4 this.1 this.2) λe he=>?_;have hl:=ho.2.2;exact T0 (Pz n _ _ _ h (h.k.2.2.1.2 _ he).2.2.2.2.2.2.1 (by omega)) λy hy=>T2 λh0=>⟨⟨(hy h0).1.mono hl,(hy h0).2⟩,this⟩
def Sq (m:L_ QBg)(h:m.length<=4294967296)(hb:∀b∈m,b.length<=4294967296):NS m=C m:=by
 unfold NS Da;rw[YI (by simp;omega)];simp only[Qa,My];obtain⟨r,h1,h2⟩:=(Qk.up (body:=λst=>MI m st.1 st.2) m.length (λst=>st.1) (λst=>st.2=m) (Q:=λq=>q=m) (s0:=(0,m)) rfl rfl (λi st hi hn hJ=>by
  obtain⟨x,l⟩:=st;replace hi:x=(i:Int):=hi;replace hJ:l=m:=hJ;subst hJ;show Qk (MI l x l) _;unfold MI;refine T1 (λhc=>?_) (λ_=>T2 (Qv rfl));simp only[QG]at hc;have O:i<l.length:=by omega
  rw[hi,QQ,QN O,Qa];unfold Kk;rw[YI (by have:=hb _ (Xs O);simp;omega)];simp only[Qa,My];exact T2 (QV ⟨O,Qr O (by unfold maxLen;omega),by simp⟩)))
 rw[h1,h2];rfl
def Qtc (n:Qh)(a b:L_ QBg)(c d:Nat)(h:XE n)(ha:Kz n c a)(hb:Kz n d b)(hcd:c+d<=1000000):Qk (YK a b) λr=>r.2=0->Kz n (c+d) r.1:=by
 have hpl:=h.pl;have ha1:=ha.1;have hb1:=hb.1;have O:min2 (a.length:Int) (b.length:Int)=(n.Places.length:Int):=by unfold min2;split<;>omega
 unfold YK;rw[O];refine T0 (T5 (by simp only[QH,QG];omega)) λ_ _=>?_;refine T0 (Qk.up n.Places.length (λst=>st.1) (λst=>st.2.length=n.Places.length/\∀b∈st.2,Rt b/\b.length<=c+d) (Q:=λq:Int⊕L_ QBg=>(∀x,q=.inl x->x≠0)/\∀m,q=.inr m->Kz n (c+d) m) rfl ⟨by simp,λb hb=>?_⟩ (λi st hi hn hJ=>?_)) (λq hq=>?_)
 ·have:=QgL hb;subst this;exact⟨Rt.nil,by simp⟩
 ·obtain⟨x,m⟩:=st;replace hi:x=(i:Int):=hi;obtain⟨hJ1,hJ2⟩:m.length=n.Places.length/\∀b∈m,Rt b/\b.length<=c+d:=hJ;show Qk (Jz a b x m) _;unfold Jz;rw[O];refine T1 (λhc=>?_) (λhc=>T2 (Qv ⟨λx e=>(by cases e),λm' e=>(by cases e;exact⟨hJ1,hJ2⟩)⟩));simp only[QG,QbF]at hc;refine T0 (T4 (by omega) (by omega)) λu hu=>?_;refine T0 (T4 (by omega) (by omega)) λv hv=>?_;have hu2:=ha.2 u hu;have hv2:=hb.2 v hv;have key:∃s,Jy u v=C s/\(s.2=0->Rt s.1/\s.1.length<=c+d):=by
   rcases BX u v (by omega)with⟨_,e⟩|⟨_,_,_,e⟩|⟨_,_,_,r,e,h1,_,h2⟩
   ·exact⟨_,e,λh=>by cases h⟩
   ·exact⟨_,e,λh=>by cases h⟩
   exact⟨_,e,λ_=>⟨h1,by show r.length<=_;omega⟩⟩
  obtain⟨s,es,hs⟩:=key;rw[es,Qa];refine T0 (T4 (by omega) (by omega)) λ_ _=>?_;refine T1 (λhc5=>T2 (Qv ⟨λx e=>(by cases e;simpa using hc5),λm' e=>(by cases e)⟩)) λhc5=>?_;have hs:=hs (by simpa using hc5);refine T2 (QV ⟨by omega,by subst hi;exact Qr (by omega) (by unfold maxLen;omega:n.Places.length<=maxLen),by simpa using hJ1,λb hb'=>?_⟩);rcases Tw hb' with rfl | hb'
  ·exact hs
  exact hJ2 b hb'
 rcases q with q | q
 ·exact T2 λh=>absurd h (hq.1 q rfl)
 exact T2 λ_=>hq.2 q rfl
def Qna (n:Qh)(a b:L_ QBg)(c d:Nat)(h:XE n)(ha:Kz n c a)(hb:Kz n d b)(hcd:c+d<=1000000):Qk (WI a b) λr=>r.2=0->Kz n (c+d) r.1:=by
 have hpl:=h.pl;have ha1:=ha.1;have hb1:=hb.1;have O:min2 (a.length:Int) (b.length:Int)=(n.Places.length:Int):=by unfold min2;split<;>omega
 unfold WI;rw[O];refine T0 (T5 (by simp only[QH,QG];omega)) λ_ _=>?_;refine T0 (Qk.up n.Places.length (λst=>st.1) (λst=>st.2.length=n.Places.length/\∀b∈st.2,Rt b/\b.length<=c+d) (Q:=λq:Int⊕L_ QBg=>(∀x,q=.inl x->x≠0)/\∀m,q=.inr m->Kz n (c+d) m) rfl ⟨by simp,λb hb=>?_⟩ (λi st hi hn hJ=>?_)) (λq hq=>?_)
 ·have:=QgL hb;subst this;exact⟨Rt.nil,by simp⟩
 ·obtain⟨x,m⟩:=st;replace hi:x=(i:Int):=hi;obtain⟨hJ1,hJ2⟩:m.length=n.Places.length/\∀b∈m,Rt b/\b.length<=c+d:=hJ;show Qk (KD a b x m) _;unfold KD;rw[O];refine T1 (λhc=>?_) (λhc=>T2 (Qv ⟨λx e=>(by cases e),λm' e=>(by cases e;exact⟨hJ1,hJ2⟩)⟩));simp only[QG,QbF]at hc;refine T0 (T4 (by omega) (by omega)) λu hu=>?_;refine T0 (T4 (by omega) (by omega)) λv hv=>?_;have hu2:=ha.2 u hu;have hv2:=hb.2 v hv;have key:∃s,JB u v=C s/\(s.2=0->Rt s.1/\s.1.length<=c+d):=by
   rcases Ud u v (by omega)with⟨_,e⟩|⟨_,_,_,e⟩|⟨_,_,r,e,h1,_,h2⟩
   ·exact⟨_,e,λh=>by cases h⟩
   ·exact⟨_,e,λh=>by cases h⟩
   exact⟨_,e,λ_=>⟨h1,by show r.length<=_;omega⟩⟩
  obtain⟨s,es,hs⟩:=key;rw[es,Qa];refine T0 (T4 (by omega) (by omega)) λ_ _=>?_;refine T1 (λhc5=>T2 (Qv ⟨λx e=>(by cases e;simpa using hc5),λm' e=>(by cases e)⟩)) λhc5=>?_;have hs:=hs (by simpa using hc5);refine T2 (QV ⟨by omega,by subst hi;exact Qr (by omega) (by unfold maxLen;omega:n.Places.length<=maxLen),by simpa using hJ1,λb hb'=>?_⟩);rcases Tw hb' with rfl | hb'
  ·exact hs
  exact hJ2 b hb'
 rcases q with q | q
 ·exact T2 λh=>absurd h (hq.1 q rfl)
 exact T2 λ_=>hq.2 q rfl
def Qve (n:Qh)(m:L_ QBg)(o:Qo)(c:Nat)(h:XE n)(hm:Kz n c m)(O:c<=900000)(ho:XL n o):Qk (WJ n m o) λr=>r.2=0->Kz n (c+20) r.1:=by
 unfold WJ;refine T0 (QgX n m o h (hm.len h (by omega)) ho) λx _=>?_;refine T1 (λO=>T2 λh=>absurd h (by simpa using O)) λ_=>?_;refine T0 (Np n o h ho) λy hy=>?_;refine T1 (λO=>T2 λh=>absurd h (by simpa using O)) λhc2=>?_;exact T0 (Qtc n m y.1 c 20 h hm (hy (by simpa using hc2)).1 (by omega)) λz hz=>T2 hz
def Qvf (n:Qh)(m:L_ QBg)(o:Qo)(c:Nat)(h:XE n)(hm:Kz n c m)(hc:c<=900000)(ho:XL n o):Qk (Gm n m o) λr=>r.2=0->Kz n (c+20) r.1:=by
 have hpl:=h.pl;have hm1:=hm.1;unfold Gm;refine T0 (QgY n o h ho) λy hy=>?_;refine T1 (λhc=>T2 λh=>absurd h (by simpa using hc)) λhc2=>?_;obtain⟨⟨hy,_⟩,h1,h2⟩:=hy (by simpa using hc2);rw[Sq m (by omega) (λb hb=>by have:=(hm.2 b hb).2;omega),Qa];refine T0 (T4 h1 h2) λe he=>?_;have hcl:=(h.tk e he).2.2.2;refine T0 (Qk.up e.Cancel.length (λst=>st.1) (λst=>Kz n c st.2) (Q:=λq=>Kz n c q) rfl hm (λi st hi hn hJ=>?_)) (λq hq=>?_)
 ·obtain⟨x,l⟩:=st;replace hi:x=(i:Int):=hi;replace hJ:Kz n c l:=hJ;show Qk (Jm e x l) _;unfold Jm;refine T1 (λhc=>?_) (λ_=>T2 (Qv hJ));simp only[QG]at hc;refine T0 (T4 (by omega) (by omega)) λk _=>?_;have next:∀l,Kz n c l->Qk (DV x l) λo=>(∀s',o=.inl s'->i<e.Cancel.length/\s'.1=((i+1:Nat):Int)/\Kz n c s'.2)/\∀r:L_ QBg,o=.inr r->Kz n c r:=λl hl=>by
   unfold DV;exact T2 (QV (ix:=λst:Int×L_ QBg=>st.1) (J:=λst:Int×L_ QBg=>Kz n c st.2) ⟨by omega,by subst hi;exact Qr (by omega) (by unfold maxLen;omega:e.Cancel.length<=maxLen),hl⟩)
  refine T1 (λO=>?_) λ_=>next l hJ;simp only[QH,QG]at O;refine T0 (T4 O.1 O.2) λ_ _=>?_;refine next _ ⟨by simpa using hJ.1,λb hb=>?_⟩;rcases Tw hb with rfl | hb
  ·exact⟨Rt.nil,by simp⟩
  exact hJ.2 b hb
 show Qk (AB y q) _;unfold AB;exact T0 (Qna n q y.1 c 20 h hq hy (by omega)) λz hz=>T2 hz
abbrev Bag := QBg
def QqN (how:Bag->Bag->O_ (Bag×Int))(a b r:L_ Bag):Prop:=∀(j:Nat) x y,a[j]? = C x->b[j]? = C y->∃z,r[j]? = C z/\how x y=C (z,0)
def Can (how:Bag->Bag->O_ (Bag×Int))(a b:L_ Bag):Prop:=∀(j:Nat) x y,a[j]? = C x->b[j]? = C y->∃z,how x y=C (z,0)
def KR {α:Type}{l:L_ α}(h:i<l.length):l[i]? = C l[i]:=QN h
def QrX {a b r:Bag}(h:a.length+b.length<=8796093022208)(e:JB a b=C (r,0)):Rt a/\Rt b/\Rt r/\∀k,QD r k=QD a k+QD b k:=by
 rcases Ud a b h with⟨_,e'⟩|⟨_,_,_,e'⟩|⟨O,h2,r',e',h3,h4,_⟩
 ·rw[e]at e';cases e'
 ·rw[e]at e';cases e'
 rw[e]at e';cases e';exact⟨O,h2,h3,h4⟩
def Quf {a b r:Bag}(h:a.length+b.length<=8796093022208)(e:Jy a b=C (r,0)):Rt a/\Rt b/\Rt r/\(∀k,QD b k<=QD a k)/\∀k,QD r k=QD a k-QD b k:=by
 rcases BX a b h with⟨_,e'⟩|⟨_,_,_,e'⟩|⟨O,h2,h5,r',e',h3,h4,_⟩
 ·rw[e]at e';cases e'
 ·rw[e]at e';cases e'
 rw[e]at e';cases e';exact⟨O,h2,h3,h5,h4⟩
def Qtd {a b:Bag}(h:a.length+b.length<=8796093022208)(ha:Rt a)(hb:Rt b)(hk:∀k,QD b k<=QD a k):∃r,Jy a b=C (r,0):=by
 rcases BX a b h with⟨O,e'⟩|⟨_,_,⟨k,O⟩,e'⟩|⟨O,h2,_,r',e',h3,h4,_⟩
 ·exact absurd ⟨ha,hb⟩ O
 ·have:=hk k;omega
 exact⟨r',e'⟩
def QgZ {m:L_ Bag}(h:Kz n c m)(O:j<n.Places.length):∃b,m[j]? = C b/\Rt b/\b.length<=c:=by
 have:j<m.length:=by have:=h.1;omega
 exact⟨m[j],KR this,h.2 _ (Xs this)⟩
def QtD {m:L_ Bag}(O:Kz n c m){b:Bag}(h:m[j]? = C b):j<n.Places.length/\Rt b/\b.length<=c:=by
 obtain⟨h1,rfl⟩:=Xb.1 h;exact⟨by have:=O.1;omega,O.2 _ (Xs h1)⟩
def Qh3 (n:Qh)(a b:L_ Bag)(c d:Nat)(h:XE n)(ha:Kz n c a)(hb:Kz n d b)(hcd:c+d<=1000000):Qk (YK a b) λr=>(r.2=0->r.1.length=n.Places.length/\QqN Jy a b r.1)/\(Can Jy a b->r.2=0):=by
 have hpl:=h.pl;have ha1:=ha.1;have hb1:=hb.1;have hmin:min2 (a.length:Int) (b.length:Int)=(n.Places.length:Int):=by unfold min2;split<;>omega
 unfold YK;rw[hmin];refine T0 (T5 (by simp only[QH,QG];omega)) λ_ _=>?_;refine T0 (Qk.up n.Places.length (λst=>st.1) (λst=>st.2.length=n.Places.length/\∀(j:Nat) x y,(j:Int)<st.1->a[j]? = C x->b[j]? = C y->∃z,st.2[j]? = C z/\Jy x y=C (z,0)) (Q:=λq:Int⊕L_ Bag=>(∀x,q=.inl x->x≠0/\¬Can Jy a b)/\∀m,q=.inr m->m.length=n.Places.length/\QqN Jy a b m) rfl ⟨by simp,λj x y hj=>by omega⟩ (λi st hi hn hJ=>?_)) (λq hq=>?_)
 ·obtain⟨x,m⟩:=st;replace hi:x=(i:Int):=hi;obtain⟨hJ1,hJ2⟩:m.length=n.Places.length/\∀(j:Nat) u v,(j:Int)<x->a[j]? = C u->b[j]? = C v->∃z,m[j]? = C z/\Jy u v=C (z,0):=hJ;show Qk (Jz a b x m) _;unfold Jz;rw[hmin];refine T1 (λhc=>?_) (λhc=>T2 (Qv ⟨λx e=>(by cases e),λm' e=>(by cases e;exact⟨hJ1,λj u v hu hv=>hJ2 j u v (by
   simp only[Xq,QbF]at hc;have:=(Xb.1 hu).1;omega) hu hv⟩)⟩))
  simp only[QG,QbF]at hc;have i1:i<a.length:=by omega
  have i2:i<b.length:=by omega
  rw[hi,QQ,KR i1,Qa,QQ,KR i2,Qa];have hu2:=ha.2 _ (Xs i1);have hv2:=hb.2 _ (Xs i2);have key:∃s,Jy a[i] b[i]=C s:=by
   rcases BX a[i] b[i] (by omega)with⟨_,e⟩|⟨_,_,_,e⟩|⟨_,_,_,r,e,h1,_,h2⟩
   ·exact⟨_,e⟩
   ·exact⟨_,e⟩
   exact⟨_,e⟩
  obtain⟨s,es⟩:=key;rw[es,Qa];refine T0 (T4 (by omega) (by omega)) λ_ _=>?_;refine T1 (λO=>T2 (Qv ⟨λx e=>(by cases e;exact⟨by simpa using O,λhcan=>by
   obtain⟨z,hz⟩:=hcan i _ _ (KR i1) (KR i2);rw[es]at hz;cases hz;simp at O⟩),λm' e=>(by cases e)⟩)) λO=>?_
  simp only[KJ]at O;refine T2 (QV ⟨by omega,Qr (by omega) (by unfold maxLen;omega:n.Places.length<=maxLen),by simpa using hJ1,λj u v hj hu hv=>?_⟩);have hj:(j:Int)<Qm ((i:Int)+1):=hj;rw[Qr (show i<n.Places.length by omega) (by unfold maxLen;omega)]at hj;show ∃z,(m.set (i:Int).toNat s.1)[j]? = C z/\_;by_cases cj:j=i
  ·subst cj;rw[KR i1]at hu;rw[KR i2]at hv;cases hu;cases hv;refine⟨s.1,by rw[show((j:Int)).toNat=j from Ue j];exact TJ (by omega),?_⟩;rw[es,<-O]
  obtain⟨z,h1,h2⟩:=hJ2 j u v (by omega) hu hv;exact⟨z,by rw[PO (by simp;omega)];exact h1,h2⟩
 rcases q with q | q
 ·have:=hq.1 q rfl;exact T2 ⟨λh=>absurd h this.1,λh=>absurd h this.2⟩
 exact T2 ⟨λ_=>hq.2 q rfl,λ_=>rfl⟩
def QgD (n:Qh)(a b:L_ Bag)(c d:Nat)(h:XE n)(ha:Kz n c a)(hb:Kz n d b)(hcd:c+d<=1000000):Qk (WI a b) λr=>(r.2=0->r.1.length=n.Places.length/\QqN JB a b r.1)/\(Can JB a b->r.2=0):=by
 have hpl:=h.pl;have ha1:=ha.1;have hb1:=hb.1;have hmin:min2 (a.length:Int) (b.length:Int)=(n.Places.length:Int):=by unfold min2;split<;>omega
 unfold WI;rw[hmin];refine T0 (T5 (by simp only[QH,QG];omega)) λ_ _=>?_;refine T0 (Qk.up n.Places.length (λst=>st.1) (λst=>st.2.length=n.Places.length/\∀(j:Nat) x y,(j:Int)<st.1->a[j]? = C x->b[j]? = C y->∃z,st.2[j]? = C z/\JB x y=C (z,0)) (Q:=λq:Int⊕L_ Bag=>(∀x,q=.inl x->x≠0/\¬Can JB a b)/\∀m,q=.inr m->m.length=n.Places.length/\QqN JB a b m) rfl ⟨by simp,λj x y hj=>by omega⟩ (λi st hi hn hJ=>?_)) (λq hq=>?_)
 ·obtain⟨x,m⟩:=st;replace hi:x=(i:Int):=hi;obtain⟨hJ1,hJ2⟩:m.length=n.Places.length/\∀(j:Nat) u v,(j:Int)<x->a[j]? = C u->b[j]? = C v->∃z,m[j]? = C z/\JB u v=C (z,0):=hJ;show Qk (KD a b x m) _;unfold KD;rw[hmin];refine T1 (λhc=>?_) (λhc=>T2 (Qv ⟨λx e=>(by cases e),λm' e=>(by cases e;exact⟨hJ1,λj u v hu hv=>hJ2 j u v (by
   simp only[Xq,QbF]at hc;have:=(Xb.1 hu).1;omega) hu hv⟩)⟩))
  simp only[QG,QbF]at hc;have i1:i<a.length:=by omega
  have i2:i<b.length:=by omega
  rw[hi,QQ,KR i1,Qa,QQ,KR i2,Qa];have hu2:=ha.2 _ (Xs i1);have hv2:=hb.2 _ (Xs i2);have key:∃s,JB a[i] b[i]=C s:=by
   rcases Ud a[i] b[i] (by omega)with⟨_,e⟩|⟨_,_,_,e⟩|⟨_,_,r,e,h1,_,h2⟩
   ·exact⟨_,e⟩
   ·exact⟨_,e⟩
   exact⟨_,e⟩
  obtain⟨s,es⟩:=key;rw[es,Qa];refine T0 (T4 (by omega) (by omega)) λ_ _=>?_;refine T1 (λO=>T2 (Qv ⟨λx e=>(by cases e;exact⟨by simpa using O,λhcan=>by
   obtain⟨z,hz⟩:=hcan i _ _ (KR i1) (KR i2);rw[es]at hz;cases hz;simp at O⟩),λm' e=>(by cases e)⟩)) λO=>?_
  simp only[KJ]at O;refine T2 (QV ⟨by omega,Qr (by omega) (by unfold maxLen;omega:n.Places.length<=maxLen),by simpa using hJ1,λj u v hj hu hv=>?_⟩);have hj:(j:Int)<Qm ((i:Int)+1):=hj;rw[Qr (show i<n.Places.length by omega) (by unfold maxLen;omega)]at hj;show ∃z,(m.set (i:Int).toNat s.1)[j]? = C z/\_;by_cases cj:j=i
  ·subst cj;rw[KR i1]at hu;rw[KR i2]at hv;cases hu;cases hv;refine⟨s.1,by rw[show((j:Int)).toNat=j from Ue j];exact TJ (by omega),?_⟩;rw[es,<-O]
  obtain⟨z,h1,h2⟩:=hJ2 j u v (by omega) hu hv;exact⟨z,by rw[PO (by simp;omega)];exact h1,h2⟩
 rcases q with q | q
 ·have:=hq.1 q rfl;exact T2 ⟨λh=>absurd h this.1,λh=>absurd h this.2⟩
 exact T2 ⟨λ_=>hq.2 q rfl,λ_=>rfl⟩
def QqO {m t:L_ Bag}(h:WJ n m o=C (t,0)):Yl n m o=C 0/\∃O,Yf n o=C (O,0)/\YK m O=C (t,0):=by
 unfold WJ at h;obtain⟨x,hx,h⟩:=QU h;rcases XU h with⟨c,h⟩|⟨c,h⟩
 ·simp only[Option.some.injEq,Prod.mk.injEq]at h;rw[h.2]at c;cases c
 simp only[KJ]at c;subst c;obtain⟨y,hy,h⟩:=QU h;obtain⟨y1,y2⟩:=y;rcases XU h with⟨c,h⟩|⟨c,h⟩
 ·simp only[Option.some.injEq,Prod.mk.injEq]at h;simp only[h.2]at c;cases c
 simp only[KJ]at c;subst c;obtain⟨z,hz,h⟩:=QU h;obtain⟨z1,z2⟩:=z;simp only[Option.some.injEq,Prod.mk.injEq]at h;obtain⟨rfl,rfl⟩:=h;exact⟨hx,y1,hy,hz⟩
def Qug {m t h:L_ Bag}(O:Yl n m o=C 0)(h2:Yf n o=C (h,0))(h3:YK m h=C (t,0)):WJ n m o=C (t,0):=by
 unfold WJ;rw[O,Qa];simp only[show((0:Int) != 0)=false from rfl,Qd];rw[h2,Qa];simp only[show((0:Int) != 0)=false from rfl,Qd];rw[h3];rfl
end Go.Proofs
